/- Any deed; the copy of the reference; both copies side by side; by hand. -/
import Derived.Test.YtanfpjlcpcfjoaaY
import Derived.Test.YtanfpjlcpcfjoaaWN
namespace Go.Proofs.Ytanfpjlcpcfjoaa.M
open Go.RowKit Go.Proofs.YtanfpjlcpcfjoaaW.PrintWords Go.Proofs.YtanfpjlcpcfjoaaW.PrintLast Go.Proofs.YtanfpjlcpcfjoaaW.PrintMore Go.Proofs.Ytanfpjlcpcfjoaa.Rw
set_option linter.unusedVariables false
set_option linter.unusedSimpArgs false
abbrev Dd : Type := Int × Int × List Int
def Deeds (w : World) (A : Option Addr) (n : Nat) (xs : List Dd) : Prop := Kd.C (Kd.pair (Kd.int .i64) (Kd.pair (Kd.int .i64) (Kd.slice 5 (Kd.int .u8)))) w A n xs
theorem at_deed {w : World} {A : Option Addr} {n : Nat} {xs : List Dd} (h : Deeds w A n xs) (i : Nat) (hi : i < n) :
    ∃ ad B c, A = some ad ∧ w.cell? (ad.add (i * 3)) = some (.int .i64 (xs.getD i (0, 0, [])).1) ∧ w.cell? ⟨(ad.add (i * 3)).block, (ad.add (i * 3)).off + 1, none⟩ = some (.int .i64 (xs.getD i (0, 0, [])).2.1) ∧
      w.cell? ⟨(ad.add (i * 3)).block, (ad.add (i * 3)).off + 2, none⟩ = some (.slice B (xs.getD i (0, 0, [])).2.2.length c) ∧ (xs.getD i (0, 0, [])).2.2.length ≤ c ∧ Kd.C (Kd.int .u8) w B (xs.getD i (0, 0, [])).2.2.length (xs.getD i (0, 0, [])).2.2 := by
  obtain ⟨ad, c, hA, hc, ⟨c0, c1, rfl, h0, c2, c3, rfl, h1, h2⟩, hcell⟩ := ReadsRow.get_ h (0, 0, []) (i : Int) (by omega) (by omega)
  rw [Int.toNat_natCast] at h0 h1 h2 hcell
  have h0 : c0 = [Value.int .i64 (xs.getD i (0, 0, [])).1] := h0
  have h1 : c2 = [Value.int .i64 (xs.getD i (0, 0, [])).2.1] := h1
  obtain ⟨B, cc, rfl, hcc, hC⟩ := h2
  subst h0 h1
  exact ⟨ad, B, cc, hA, hcell 0 _ rfl, by have h_ := hcell 1 _ rfl; rw [← Addr.add_add] at h_; exact h_, by have h_ := hcell 2 _ rfl; rw [← Addr.add_add] at h_; exact h_, hcc, hC⟩
section
variable {w W W1 : World} {lo hi g q n : Nat} {ok : Nat → Prop} {L : Ln}
/-- any deed -/
theorem doC (h : Pr w lo hi g q n ok L) (d l : Int) (A : Option Addr) (c : Nat) (xs : List Int) (hC : ∀ W, Below (min lo q) w W → Kd.C (Kd.int .u8) W A xs.length xs) (hc : xs.length ≤ c) (hm : xs.length ≤ 9223372036854775807) :
    Calls Try.prog 13 #[.pointer (some ⟨lo, 0, none⟩), .pointer (some ⟨g, 0, none⟩), .agg #[.int .i64 d, .int .i64 l, .slice A xs.length c]] w fun e w' => e = .returned (.bool true) ∧ ∃ L', L'.length = L.length ∧ Aside0 (Pr w' lo hi g q n ok L') ∧ Aside0 (Out2 w w' lo hi q) := by
  by_cases h0 : d = 0
  · exact doWriteC h d l A c xs (.inl h0) hC hc hm
  · by_cases h1 : d = 1
    · exact doWriteC h d l A c xs (.inr (.inl h1)) hC hc hm
    · by_cases h2 : d = 2
      · exact doWriteC h d l A c xs (.inr (.inr h2)) hC hc hm
      · by_cases h3 : d = 3
        · subst h3; exact doReadC h l A xs.length c
        · exact doTrimC h d l A xs.length c (beq_eq_false_iff_ne.2 h0) (beq_eq_false_iff_ne.2 h1) (beq_eq_false_iff_ne.2 h2) (beq_eq_false_iff_ne.2 h3)
/-- a vector of its own, from block H on -/
structure NewV (W : World) (H m : Nat) (A : Option Addr) (c : Nat) (vs : List Value) : Prop where
  le : m ≤ c
  at_ : 0 < m → ∃ k, A = some ⟨k, 0, none⟩ ∧ H ≤ k ∧ ∃ cur : Array Value, W.heap[k]? = some (.cells cur 31 (0, 0)) ∧ m ≤ cur.size ∧ ∀ i, i < m → cur[i]? = vs[i]?
theorem NewV.below {H m : Nat} {A : Option Addr} {c : Nat} {vs : List Value} (h : NewV W H m A c vs) (hb : Below W.heap.size W W1) : NewV W1 H m A c vs :=
  ⟨h.le, fun hp => let ⟨k, e, hk, cur, h1, h2, h3⟩ := h.at_ hp; ⟨k, e, hk, cur, (hb.block k (blk_lt h1)).trans h1, h2, h3⟩⟩
/-- append([][]byte(nil), m.D...), as a step of a region that draws -/
theorem vec_step {ops : Array Oper} {o : Oper} {a : Act} {K : Act → World → Prop} {Q : Exit → Act → World → Prop} {A : Option Addr} {c m : Nat} {vs : List Value}
    (hgd : o.guard = none) (s x : Operand) (ho : o.op = .call { callee := .builtin .append, args := #[s, x], argTypes := #[43, 43] }) (hs : a.eval s = .slice none 0 0) (hx : a.eval x = .slice A m c)
    (h : IsRd W g q n ok L A c vs) (hm : L.length = m)
    (hK : ∀ A1 c1 w1, Aside0 (NewV w1 W.heap.size m A1 c1 vs) → Aside0 (Below W.heap.size W w1) → K (a.put o.dst (.slice A1 m c1)) w1) :
    if Region.wanted o (yielded ops a.tmps) = true then Oper.wp Try.prog o a W K Q else K (a.put o.dst undef) W := by
  subst hm
  have hw : Region.wanted o (yielded ops a.tmps) = true := by simp [Region.wanted, hgd]
  have hll := h.ll
  have hone : ∀ u ∈ vs, u.oneCell' = true := by
    intro u hu
    obtain ⟨i, hi, e⟩ := List.getElem_of_mem hu
    have hi' : i < L.length := by rw [← h.len]; exact hi
    obtain ⟨u', hu', hR⟩ := h.rows i _ (List.getElem?_eq_getElem hi')
    rw [List.getElem?_eq_getElem hi] at hu'
    injection hu' with hu'
    rw [← e, hu']
    rcases hR with ⟨e2, _⟩ | hR
    · rw [e2]; rfl
    · obtain ⟨Au, cu, e2⟩ := Kd.R_slice hR; rw [e2]; rfl
  have hRow : ReadsRow (fun (y cs : List Value) => cs = y ∧ cs.length = 1 ∧ ∀ u ∈ cs, u.oneCell' = true) 1 W A L.length (vs.map fun u => [u]) := by
    refine ⟨by simp [h.len], by omega, fun hp => ?_⟩
    obtain ⟨e, cur, h1, h2, h3⟩ := h.hA hp
    refine ⟨_, e, fun j p hj => ?_⟩
    obtain ⟨u, hu, rfl⟩ := Option.map_eq_some_iff.1 (by rw [List.getElem?_map] at hj; exact hj)
    have hjl : j < L.length := by rw [← h.len]; exact (List.getElem?_eq_some_iff.1 hu).1
    refine ⟨[u], rfl, ⟨rfl, rfl, fun y hy => by rw [List.mem_singleton.1 hy]; exact hone u (List.mem_of_getElem? hu)⟩, fun i y hy => ?_⟩
    have hi0 : i = 0 := by have := (List.getElem?_eq_some_iff.1 hy).1; simpa using this
    subst hi0
    have hy2 : u = y := by simpa using hy
    subst hy2
    rw [Nat.mul_one, Nat.add_zero]
    show W.cell? (Addr.add ⟨q, 0, none⟩ j) = _
    have e4 : (Addr.add ⟨q, 0, none⟩ j) = ⟨q, j, none⟩ := by simp [Addr.add]; intro h9; omega
    rw [e4, blk_cell h1 j, h3 j hjl, hu]
  refine Kd.R_append_rows_step (Kd.raw 1) (w0 := W) W.heap.size hw s x 43 31 (.slice none 0 0) 24 ho Try.underlying43 info31 rfl (by decide) (by omega) (.slice none 0 0) [] (vs.map fun u => [u]) A L.length c (fun _ => True) (fun _ => False) hs hx (Kd.R_nil _ _ _ _ _) hRow (fun _ _ hh => hh) (fun _ hk => hk.elim) (fun _ _ => trivial) (Below.refl _ _) (Nat.le_refl _) (by simp; omega) ?_
  intro v1 w1 hR hB _ _
  rw [List.nil_append] at hR
  obtain ⟨_, inner, hown, hr⟩ := hR
  have hlen : (vs.map fun u => [u]).length = L.length := by simp [h.len]
  rw [hlen] at hown
  rcases hown with ⟨hil, ⟨e, hz⟩ | ⟨k, cap, cur, e, hk, hcur, hcap, _, hsz, htake⟩⟩
  · subst e
    rw [hz] at hK
    exact hK none 0 w1 ⟨⟨Nat.le_refl _, fun hp => absurd hp (by omega)⟩⟩ ⟨hB⟩
  · subst e
    refine hK _ _ w1 ⟨⟨hcap, fun _ => ⟨k, rfl, hk, cur, hcur, by rw [hsz]; show L.length ≤ cap * 1; omega, fun i hi => ?_⟩⟩⟩ ⟨hB⟩
    have hvi : vs[i]? = some (vs[i]'(by rw [h.len]; exact hi)) := List.getElem?_eq_getElem _
    have h5 := hr.2 i [vs[i]'(by rw [h.len]; exact hi)] (by rw [List.getElem?_map, hvi]; rfl)
    have h6 := h5.1
    rw [← htake] at h6
    have h7 : ((cur.toList.take (L.length * 1)).drop (i * 1)).take 1 = [vs[i]'(by rw [h.len]; exact hi)] := h6
    rw [hvi, ← Array.getElem?_toList]
    have h8 := congrArg (fun l : List Value => l[0]?) h7
    simp only [List.getElem?_take, List.getElem?_drop] at h8
    simpa [hi] using h8
/-- both copies side by side -/
theorem mkPr {lo2 hi2 hk m c1 : Nat} {A : Option Addr} {c : Nat} {vs : List Value} {A1 : Option Addr} (h : IsRd W g q n (fun k => q < k) L A c vs) (hb : Below W.heap.size W W1) (hQ : IsP W1 lo2 hi2 lo2 L n) (hl2 : W.heap.size ≤ lo2)
    (hbx : W1.heap[hk]? = some (.cells #[.int .i64 (n : Int), .slice A1 m c1] 45 (0, 0))) (hm : L.length = m) (hkW : W.heap.size ≤ hk) (hkP : ¬ (lo2 ≤ hk ∧ hk < hi2)) {H : Nat} (hH : W.heap.size ≤ H) (hN : NewV W1 H m A1 c1 vs) (hV : hi2 ≤ H)
    (hgq : g < q) (b3 : Nat) (hb3 : b3 < g) (hqW : q < W.heap.size) :
    ∃ kk, Pr W1 lo2 hi2 hk kk n (fun k => (q < k ∧ k < W.heap.size) ∨ W1.heap.size ≤ k) L ∧ (W.heap.size ≤ kk ∨ kk = b3) := by
  subst hm
  have hs := hb.size
  have hrows : ∀ (i : Nat) (r : List Int), L[i]? = some r → ∃ u, vs[i]? = some u ∧ RowR W1 (fun k => (q < k ∧ k < W.heap.size) ∨ W1.heap.size ≤ k) n u r := by
    intro i r hr
    obtain ⟨u, hu, hR⟩ := h.rows i r hr
    refine ⟨u, hu, ?_⟩
    have hR1 := hR.move (fun k _ hl => hb.block k hl)
    rcases hR with e | hR
    · exact .inl e
    · rcases hR1 with e | hR1
      · exact .inl e
      · exact .inr (Kd.R_of_own (Kd.own_of_R hR1) (fun k hk => .inl ⟨hR.1 k hk, Kd.R_lt hR k hk⟩))
  have hkl := blk_lt hbx
  have hpt := hQ.top
  by_cases h0 : 0 < L.length
  · obtain ⟨k, e, hk', cur, h1, h2, h3⟩ := hN.at_ h0
    have v1 : k ≠ hk := blk_ne h1 hbx (by decide)
    have v2 : ¬ (lo2 ≤ k ∧ k < hi2) := by omega
    have hkl2 := blk_lt h1
    refine ⟨k, ⟨hQ, ⟨A1, c1, vs, hbx, fun _ => ⟨e, cur, h1, h2, h3⟩, v1.symm, hN.le, by omega, by omega, h.len, h.ll, h.nl, h.rl, hrows⟩, fun j j1 j2 => ⟨by omega, fun e2 => hkP (e2 ▸ ⟨j1, j2⟩), fun e2 => v2 (e2 ▸ ⟨j1, j2⟩)⟩, fun j hj => .inr hj⟩, .inl (by omega)⟩
  · refine ⟨b3, ⟨hQ, ⟨A1, c1, vs, hbx, fun hp => absurd hp h0, by omega, hN.le, by omega, by omega, h.len, h.ll, h.nl, h.rl, hrows⟩, fun j j1 j2 => ⟨by omega, fun e2 => hkP (e2 ▸ ⟨j1, j2⟩), by omega⟩, fun j hj => .inr hj⟩, .inr rfl⟩
theorem pr_new {W2 : World} (HP : IsP W lo W1.heap.size lo L n) (hW : Below W1.heap.size W W1) (hR : IsR W2 W1.heap.size (W1.heap.size + 1) n (fun k => W1.heap.size + 1 < k) L) (hb : Below W1.heap.size W1 W2) (hs : W2.heap.size = W1.heap.size + 2) :
    Pr W2 lo W1.heap.size W1.heap.size (W1.heap.size + 1) n (fun k => W1.heap.size + 1 < k) L :=
  ⟨HP.move (fun k h1 h2 => (hb.block k h2).trans (hW.block k h2)) (by omega), hR, fun k h1 h2 => ⟨by omega, by omega, by omega⟩, fun k hk => by omega⟩
theorem IsRd.until {A : Option Addr} {c : Nat} {vs : List Value} (h : IsRd W g q n (fun k => q < k) L A c vs) (hb : Below W.heap.size W W1) : IsR W1 g q n (fun k => q < k ∧ k < W.heap.size) L := by
  refine ⟨A, c, vs, ⟨(hb.block g (blk_lt h.hg)).trans h.hg, fun hp => ?_, h.hgq, h.lc, fun hk => h.og hk.1, fun hk => h.oq hk.1, h.len, h.ll, h.nl, h.rl, fun i r hr => ?_⟩⟩
  · obtain ⟨e, cur, h1, h2, h3⟩ := h.hA hp
    exact ⟨e, cur, (hb.block q (blk_lt h1)).trans h1, h2, h3⟩
  · obtain ⟨u, hu, hR⟩ := h.rows i r hr
    refine ⟨u, hu, ?_⟩
    have hR1 := hR.move (fun k _ hl => hb.block k hl)
    rcases hR with e | hR
    · exact .inl e
    · rcases hR1 with e | hR1
      · exact .inl e
      · exact .inr (Kd.R_of_own (Kd.own_of_R hR1) (fun k hk => ⟨hR.1 k hk, Kd.R_lt hR k hk⟩))
/-- all four, while the copies are written -/
structure Fo (w0 W : World) (lo hi g q lo2 hi2 hk kk n s : Nat) (ok2 : Nat → Prop) (M L : Ln) : Prop where
  bel : Below w0.heap.size w0 W
  hp : IsP W lo hi lo M n
  hm : IsR W g q n (fun k => q < k ∧ k < s) M
  pr : Pr W lo2 hi2 hk kk n ok2 L
  len : L.length = M.length
  w0s : w0.heap.size < lo
  ws : w0.heap.size ≤ s
  hig : hi ≤ g
  gq : g < q
  qs : q < s
  sl : s ≤ lo2
  sk : s ≤ kk ∨ kk = w0.heap.size
variable {w0 : World} {lo2 hi2 hk kk s : Nat} {ok2 : Nat → Prop} {M L' : Ln}
theorem Fo.bel2 (h : Fo w0 W lo hi g q lo2 hi2 hk kk n s ok2 M L) : w0.heap.size ≤ min lo2 kk := by
  have h1 := h.sl; have h2 := h.ws; have h3 := h.sk; omega
theorem Fo.step (h : Fo w0 W lo hi g q lo2 hi2 hk kk n s ok2 M L) (hP : Pr W1 lo2 hi2 hk kk n ok2 L') (ho : Out2 W W1 lo2 hi2 kk) (hl : L'.length = L.length) : Fo w0 W1 lo hi g q lo2 hi2 hk kk n s ok2 M L' := by
  have hlo := h.hp.lo_le
  have hhi := h.hp.top
  have e1 := h.w0s
  have e2 := h.ws
  have e3 := h.hig
  have e4 := h.gq
  have e5 := h.qs
  have e6 := h.sl
  have e7 := h.sk
  refine ⟨Below.trans h.bel (ho.1.mono h.bel2), h.hp.move (fun k h1 h2 => ho.2.2 k (by omega) (by omega) (by omega)) (Nat.le_trans hhi ho.2.1), h.hm.move (fun k hk2 hl2 => ho.2.2 k hl2 (by omega) (by omega)), hP, hl.trans h.len, e1, e2, e3, e4, e5, e6, e7⟩
theorem Fo.below (h : Fo w0 W lo hi g q lo2 hi2 hk kk n s ok2 M L) (hb : Below W.heap.size W W1) : Fo w0 W1 lo hi g q lo2 hi2 hk kk n s ok2 M L :=
  ⟨below_step h.bel hb, h.hp.below hb, h.hm.below hb, h.pr.below hb, h.len, h.w0s, h.ws, h.hig, h.gq, h.qs, h.sl, h.sk⟩
end
end Go.Proofs.Ytanfpjlcpcfjoaa.M
