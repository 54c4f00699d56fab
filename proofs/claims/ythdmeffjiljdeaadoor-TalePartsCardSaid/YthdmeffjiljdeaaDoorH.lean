/- Tales: the events of a text; by hand. -/
import Derived.Test.YthdmeffjiljdeaaDoorG
namespace Go.Proofs.YthdmeffjiljdeaaDoor.M
open Go.RowKit Go.Proofs.YthdmeffjiljdeaaDoorW.PrintWords Go.Proofs.YthdmeffjiljdeaaDoorW.PrintLast Go.Proofs.YthdmeffjiljdeaaDoorW.PrintMore Go.Proofs.YthdmeffjiljdeaaDoor.Rw Go.Proofs.YthdmeffjiljdeaaDoor.Fl
set_option linter.unusedVariables false
set_option linter.unusedSimpArgs false
def cutF (s : List UInt8) : List UInt8 × List UInt8 × Bool := Lib.cut s [10]
theorem cut_hit {s : List UInt8} (h : (cutF s).2.2 = true) : s = (cutF s).1 ++ [10] ++ (cutF s).2.1 := by
  unfold cutF Lib.cut at h ⊢
  by_cases h0 : 0 ≤ Lib.index s [10]
  · simp only [if_pos h0]
    rcases Lib.index_spec s [10] with ⟨e, -⟩ | ⟨i, e, hi, ho, -⟩
    · omega
    · rw [e, Int.toNat_natCast]
      unfold Lib.occAt at ho
      have h1 := List.isPrefixOf_iff_prefix.1 ho
      obtain ⟨t, ht⟩ := h1
      have h2 : s.drop (i + [10].length) = t := by
        rw [← List.drop_drop, ← ht]
        rfl
      rw [show ((i + [10].length : Nat)) = i + 1 from rfl] at h2
      show s = List.take i s ++ [10] ++ List.drop (i + 1) s
      rw [h2, List.append_assoc, ht, List.take_append_drop]
  · rw [if_neg h0] at h
    cases h
theorem cut_le (s : List UInt8) : (cutF s).1.length ≤ s.length := by
  unfold cutF Lib.cut
  split
  · rw [List.length_take]; omega
  · exact Nat.le_refl _
/-- the events of a text -/
def readF : Nat → List UInt8 → Option (List Ev)
  | 0, _ => none
  | n + 1, s => if s = [] then some [] else if (cutF s).2.2 = true ∧ (eventF (cutF s).1).2 = true then (readF n (cutF s).2.1).map ((eventF (cutF s).1).1 :: ·) else none
theorem event_line {s : List UInt8} (h : (eventF s).2 = true) : lineF (eventF s).1 = s ++ [10] := by
  unfold eventF at h ⊢
  split at h
  · rename_i h7
    rw [if_pos h7]
    simp only [Bool.and_eq_true] at h
    exact eq_of_beq h.2
  · cases h
theorem read_text : ∀ (n : Nat) (s : List UInt8) (es : List Ev), readF n s = some es → es.flatMap lineF = s
  | 0, s, es, h => by cases h
  | n + 1, s, es, h => by
    unfold readF at h
    split at h
    · rename_i h0; cases h; exact h0.symm
    · split at h
      · rename_i h1
        cases hr : readF n (cutF s).2.1 with
        | none => rw [hr] at h; cases h
        | some l =>
          rw [hr] at h
          cases h
          rw [List.flatMap_cons, read_text n _ _ hr, event_line h1.2]
          exact (cut_hit h1.1).symm
      · cases h
theorem eventF_in (s : List UInt8) (hs : s.length ≤ 90000) (hx : ∀ x ∈ (eventF s).1.data, 0 ≤ x ∧ x ≤ 255) : EvOK (eventF s).1 := by
  refine ⟨?_, ?_, ?_, ?_, hx⟩
  · unfold eventF; split
    · exact numF_in _
    · exact ⟨by decide, by decide⟩
  · unfold eventF; split
    · exact numF_in _
    · exact ⟨by decide, by decide⟩
  · unfold eventF; split
    · exact numF_in _
    · exact ⟨by decide, by decide⟩
  · unfold eventF; split
    · have h1 := unb_len ((spF s).getD 6 [])
      have h2 := sp_le s 6
      show (unbF ((spF s).getD 6 [])).1.length ≤ 50000
      omega
    · exact Nat.zero_le _
theorem info32 : (Tryd.prog.info? 32).map (fun i => (i.zero, i.size, i.bytes)) = some (some (.agg #[.int .i64 0, .int .i64 0, .int .i64 0, .int .i64 0, .complex .f64 0 0, .slice none 0 0]), 6, 72) := by kernel_rfl
abbrev evL (p : Ev × Value) : List Value := (p.1.cells p.2).toList
theorem evL_len (p : Ev × Value) : (evL p).length = 6 := rfl
/-- a row of events that is the call's own -/
structure EL (base : Nat) (v : Value) (items : List (Ev × Value)) (W0 W : World) : Prop where
  own : W.ownsRow base 32 6 v items.length (items.flatMap evL)
  ok : ∀ p ∈ items, EvOK p.1
  dat : ∀ p ∈ items, (∃ A c, p.2 = .slice A p.1.data.length c) ∧ OwnB base p.2 p.1.data W ∧ ∀ g, v.ownBlock = some g → p.2.ownBlock ≠ some g
  bel : Below base W0 W
theorem EL.below {base : Nat} {v : Value} {items : List (Ev × Value)} {W0 W W1 : World} (h : EL base v items W0 W) (hb : Below W.heap.size W W1) (h0 : base ≤ W.heap.size) : EL base v items W0 W1 :=
  ⟨own_move h.own (fun k hk => hb.block k ((h.own.lt k hk).2)), h.ok, fun p hp => ⟨(h.dat p hp).1, (h.dat p hp).2.1.below hb, (h.dat p hp).2.2⟩, Below.trans h.bel (hb.mono h0)⟩
theorem ev_step {ops : Array Oper} {rest : List Oper} {o : Oper} {a : Act} {W2 : World} {Q : Exit → Act → World → Prop} {base p : Nat} {v vd : Value} {items : List (Ev × Value)} {e : Ev} {w0 : World}
    (hgd : o.guard = none) (sx x : Operand) (ho : o.op = .call { callee := .builtin .append, args := #[sx, x], argTypes := #[23, 23] }) (hs : a.eval sx = v) (hx : a.eval x = .slice (some ⟨p, 0, none⟩) 1 1)
    (h : EL base v items w0 W2) (hn : items.length ≤ 1000000) (hq : W2.heap[p]? = some (.cells (e.cells vd) 32 (0, 0))) (hbase : base ≤ W2.heap.size)
    (hE : EvOK e) (hd : ∃ A c, vd = .slice A e.data.length c) (hO : OwnB base vd e.data W2) (hne : ∀ g, v.ownBlock = some g → vd.ownBlock ≠ some g)
    (hK : ∀ g cap W3, Aside0 (EL base (.slice (some ⟨g, 0, none⟩) (items.length + 1) cap) (items ++ [(e, vd)]) w0 W3) → Aside0 (W2.heap.size ≤ W3.heap.size) → wpList Tryd.prog ops Q rest (a.put o.dst (.slice (some ⟨g, 0, none⟩) (items.length + 1) cap)) W3) :
    wpList Tryd.prog ops Q (o :: rest) a W2 := by
  obtain ⟨i9, hi9, hz⟩ := Option.map_eq_some_iff.1 info32
  simp only [Prod.mk.injEq] at hz
  have hone : ∀ u ∈ evL (e, vd), u.oneCell' = true := by
    obtain ⟨A, c, rfl⟩ := hd
    intro u hu
    simp only [evL, Ev.cells, List.mem_cons, List.not_mem_nil, or_false] at hu
    rcases hu with rfl | rfl | rfl | rfl | rfl | rfl <;> rfl
  refine wpList_append_lies W2 hgd sx x 23 ho base 32 i9 _ 6 72 Tryd.underlying23 hi9 hz.1 hz.2.1 hz.2.2 rfl (by decide) v items.length _ hs h.own ⟨p, 0, none⟩ 1 1 (evL (e, vd)) hx rfl (fun j y hy => World.news_of_block hq j y (by simpa using hy)) hone (by decide) (Nat.le_trans (Nat.add_le_add_right hn 1) (by decide)) (by omega) hbase _ rfl (fun gg cap W3 h3 h4 h5 h6 => ?_)
  have hmv : ∀ {u : Value} {l : List Int}, OwnB base u l W2 → (∀ g, v.ownBlock = some g → u.ownBlock ≠ some g) → OwnB base u l W3 := fun {u l} hu hnu =>
    ⟨own_move hu.1 (fun k hk => h4.block k ((hu.1.lt k hk).2) (fun ee => hnu k ee.symm hk)), hu.2⟩
  have hnn : ∀ {u : Value} {l : List Int}, OwnB base u l W2 → (∀ g, v.ownBlock = some g → u.ownBlock ≠ some g) → ∀ g, (Value.slice (some ⟨gg, 0, none⟩) (items.length + 1) cap).ownBlock = some g → u.ownBlock ≠ some g := fun {u l} hu hnu g hg hk => by
    have e2 : gg = g := Option.some.inj hg
    subst e2
    rcases h5 with h5 | h5
    · exact hnu _ h5 hk
    · have := (hu.1.lt gg hk).2; omega
  refine hK gg cap W3 ⟨⟨?_, ?_, ?_, ?_⟩⟩ ⟨h4.size⟩
  · rw [List.flatMap_append, List.length_append]
    exact h3
  · intro q hq2
    rcases List.mem_append.1 hq2 with hq2 | hq2
    · exact h.ok q hq2
    · rw [List.mem_singleton.1 hq2]; exact hE
  · intro q hq2
    rcases List.mem_append.1 hq2 with hq2 | hq2
    · exact ⟨(h.dat q hq2).1, hmv (h.dat q hq2).2.1 (h.dat q hq2).2.2, hnn (h.dat q hq2).2.1 (h.dat q hq2).2.2⟩
    · rw [List.mem_singleton.1 hq2]
      exact ⟨hd, hmv hO hne, hnn hO hne⟩
  · exact Below.grown h.bel h4 hbase (fun k hk => (h.own.lt k hk).1)
/-- an event that can be read -/
structure EvAt (ad : Addr) (i : Nat) (p : Ev × Value) (W : World) : Prop where
  c0 : W.cell? (ad.add (i * 6)) = some (.int .i64 p.1.do)
  c1 : W.cell? ⟨(ad.add (i * 6)).block, (ad.add (i * 6)).off + 1, none⟩ = some (.int .i64 p.1.lpn)
  c2 : W.cell? ⟨(ad.add (i * 6)).block, (ad.add (i * 6)).off + 2, none⟩ = some (.int .i64 p.1.page)
  c3 : W.cell? ⟨(ad.add (i * 6)).block, (ad.add (i * 6)).off + 3, none⟩ = some (.int .i64 p.1.cell)
  c4 : W.cell? ⟨(ad.add (i * 6)).block, (ad.add (i * 6)).off + 4, none⟩ = some (.complex .f64 p.1.re p.1.im)
  c5 : W.cell? ⟨(ad.add (i * 6)).block, (ad.add (i * 6)).off + 5, none⟩ = some p.2
theorem EvAt.below {ad : Addr} {i : Nat} {p : Ev × Value} {W W1 : World} (h : EvAt ad i p W) (hb : Below W.heap.size W W1) : EvAt ad i p W1 :=
  ⟨(hb.cell (World.block_lt_of_cell? W _ h.c0)).trans h.c0, (hb.cell (World.block_lt_of_cell? W _ h.c1)).trans h.c1, (hb.cell (World.block_lt_of_cell? W _ h.c2)).trans h.c2, (hb.cell (World.block_lt_of_cell? W _ h.c3)).trans h.c3, (hb.cell (World.block_lt_of_cell? W _ h.c4)).trans h.c4, (hb.cell (World.block_lt_of_cell? W _ h.c5)).trans h.c5⟩
/-- events that can be read -/
def EvsR (A : Option Addr) (items : List (Ev × Value)) (W : World) : Prop :=
  ∀ i p, items[i]? = some p → EvOK p.1 ∧ (∃ A' c, p.2 = .slice A' p.1.data.length c ∧ Kd.C (Kd.int .u8) W A' p.1.data.length p.1.data) ∧ ∃ ad, A = some ad ∧ EvAt ad i p W
theorem EvsR.below {A : Option Addr} {items : List (Ev × Value)} {W W1 : World} (h : EvsR A items W) (hb : Below W.heap.size W W1) : EvsR A items W1 := by
  intro i p hp
  obtain ⟨h1, ⟨A', c, h2, h3⟩, ad, h4, h5⟩ := h i p hp
  exact ⟨h1, ⟨A', c, h2, Kd.C_below h3 hb⟩, ad, h4, h5.below hb⟩
theorem flat6 : ∀ (items : List (Ev × Value)) (i : Nat) (p : Ev × Value) (k : Nat), items[i]? = some p → k < 6 → (items.flatMap evL)[i * 6 + k]? = (evL p)[k]?
  | [], i, p, k, h, _ => by cases h
  | q :: l, 0, p, k, h, hk => by
    cases h
    rw [List.flatMap_cons, List.getElem?_append_left (by rw [evL_len]; omega), Nat.zero_mul, Nat.zero_add]
  | q :: l, i + 1, p, k, h, hk => by
    rw [List.flatMap_cons, List.getElem?_append_right (by rw [evL_len]; omega), evL_len, show (i + 1) * 6 + k - 6 = i * 6 + k by omega]
    exact flat6 l i p k h hk
theorem EL.reads {base n c : Nat} {A : Option Addr} {items : List (Ev × Value)} {W0 W : World} (h : EL base (.slice A n c) items W0 W) : EvsR A items W := by
  intro i p hp
  have hm : p ∈ items := List.mem_of_getElem? hp
  obtain ⟨⟨A', c', e'⟩, hO, -⟩ := h.dat p hm
  refine ⟨h.ok p hm, ⟨A', c', e', ?_⟩, ?_⟩
  · rw [e'] at hO; exact OwnB.C hO
  · rcases h.own.2 with ⟨-, hz⟩ | ⟨g, cap, cur, hv, -⟩
    · have := (List.getElem?_eq_some_iff.1 hp).1; omega
    · cases hv
      have hc := h.own.cells (g := g) rfl
      have ha : ∀ k, k < 6 → ∀ u, (evL p)[k]? = some u → W.cell? ⟨g, i * 6 + k, none⟩ = some u := fun k hk u hu => by
        have h2 := hc _ u ((flat6 items i p k hp hk).trans hu)
        have h3 : (⟨g, 0, none⟩ : Addr).add (i * 6 + k) = ⟨g, i * 6 + k, none⟩ := by unfold Addr.add; split <;> simp_all
        rw [h3] at h2; exact h2
      have had : (⟨g, 0, none⟩ : Addr).add (i * 6) = ⟨g, i * 6, none⟩ := by unfold Addr.add; split <;> simp_all
      refine ⟨⟨g, 0, none⟩, rfl, ?_⟩
      refine ⟨?_, ?_, ?_, ?_, ?_, ?_⟩ <;> rw [had]
      · exact ha 0 (by decide) _ rfl
      · exact ha 1 (by decide) _ rfl
      · exact ha 2 (by decide) _ rfl
      · exact ha 3 (by decide) _ rfl
      · exact ha 4 (by decide) _ rfl
      · exact ha 5 (by decide) _ rfl
end Go.Proofs.YthdmeffjiljdeaaDoor.M
