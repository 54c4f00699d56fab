/- Tales: the text of events; by hand. -/
import Derived.Test.YthdmeffjiljdeaaDoorJ
namespace Go.Proofs.YthdmeffjiljdeaaDoor.M
open Go.RowKit Go.Proofs.YthdmeffjiljdeaaDoorW.PrintWords Go.Proofs.YthdmeffjiljdeaaDoorW.PrintLast Go.Proofs.YthdmeffjiljdeaaDoorW.PrintMore Go.Proofs.YthdmeffjiljdeaaDoor.Rw Go.Proofs.YthdmeffjiljdeaaDoor.Fl
set_option linter.unusedVariables false
set_option linter.unusedSimpArgs false
attribute [local go_sem] run_store_complex
theorem lineF_len {e : Ev} (h : EvOK e) : (lineF e).length ≤ 101000 := by
  unfold lineF
  split
  · exact Nat.zero_le _
  · rename_i hh
    have q4 : inB e.re = true := by
      cases hb : inB e.re with
      | true => rfl
      | false => exact absurd (Or.inr (Or.inr (Or.inr (Or.inr (Or.inl (by unfold wholeF; rw [hb]; rfl)))))) hh
    have q5 : inB e.im = true := by
      cases hb : inB e.im with
      | true => rfl
      | false => exact absurd (Or.inr (Or.inr (Or.inr (Or.inr (Or.inr (by unfold wholeF; rw [hb]; rfl)))))) hh
    have p4 := (inB_part q4).2
    have p5 := (inB_part q5).2
    rw [List.length_append, Lib.join_length]
    have h0 := wordF_len e.do
    have h1 := itoa_len h.i1.1 h.i1.2
    have h2 := itoa_len h.i2.1 h.i2.2
    have h3 := itoa_len h.i3.1 h.i3.2
    have h4 := itoa_len (n := partF e.re) (by omega) (by omega)
    have h5 := itoa_len (n := partF e.im) (by omega) (by omega)
    have h6 : (bytesB e.data).data.toList.length ≤ 100001 := by
      have := h.dl
      have h7 := bytesL_len e.data
      unfold bytesB
      rw [strOfNums_data, List.length_map, List.length_cons]
      omega
    simp [Lib.lens] at *
    omega
def textF (items : List (Ev × Value)) : List UInt8 := items.flatMap fun p => lineF p.1
theorem textF_len : ∀ (items : List (Ev × Value)), (∀ p ∈ items, EvOK p.1) → (textF items).length ≤ 101000 * items.length
  | [], _ => Nat.zero_le _
  | p :: l, h => by
    have h1 := textF_len l (fun q hq => h q (List.mem_cons_of_mem _ hq))
    have h2 := lineF_len (h p (List.mem_cons_self ..))
    unfold textF at *
    rw [List.flatMap_cons, List.length_append, List.length_cons]
    omega
theorem textF_snoc (items : List (Ev × Value)) (k : Nat) (p : Ev × Value) (h : items[k]? = some p) : textF (items.take (k + 1)) = textF (items.take k) ++ lineF p.1 := by
  have hk := (List.getElem?_eq_some_iff.1 h).1
  rw [List.take_add_one, h]
  unfold textF
  rw [List.flatMap_append]
  simp
theorem builder_below {T e : TypeId} {B b : Nat} {bs : List Value} {w w' : World} (h : Lib.IsBuilderF T e B b bs w) (hb : Below w.heap.size w w') : Lib.IsBuilderF T e B b bs w' := by
  have key : ∀ p, Lib.BuilderAtF T e B b p bs w → Lib.BuilderAtF T e B b p bs w' := by
    rintro p ⟨hB, v, hbk, ⟨h1, h2⟩, hne⟩
    refine ⟨hB, v, (hb.block b (blk_lt hbk)).trans hbk, ⟨h1, ?_⟩, hne⟩
    rcases h2 with h2 | ⟨g, cap, cur, fz, hv, hBg, hg, rest⟩
    · exact .inl h2
    · exact .inr ⟨g, cap, cur, fz, hv, hBg, (hb.block g (Array.getElem?_eq_some_iff.1 hg).1).trans hg, rest⟩
  rcases h with h | h
  · exact .inl (key _ h)
  · exact .inr (key _ h)
set_option maxRecDepth 20000 in
set_option maxHeartbeats 6400000 in
theorem textC (A : Option Addr) (c : Nat) (items : List (Ev × Value)) (w : World) (h : GV w) (hR : EvsR A items w) (hn : items.length ≤ 100000) :
    Calls Tryd.prog 8 #[.slice A items.length c] w fun o w' => o = .returned (strV (textF items)) ∧ Aside0 (Below w.heap.size w w') := by
  have HG := Aside0.mk h
  have HR := Aside0.mk hR
  obtain ⟨tx, htx⟩ : ∃ tx, textF items = tx := ⟨_, rfl⟩
  rw [htx]
  have HTx := Aside0.mk htx
  clear htx
  obtain ⟨b, hb⟩ : ∃ b, w.heap.size = b := ⟨_, rfl⟩
  have HBs := Aside0.mk hb
  obtain ⟨n, hnn⟩ : ∃ n, items.length = n := ⟨_, rfl⟩
  rw [hnn]
  have Hn := Aside0.mk hnn
  have Hn2 := Aside0.mk hn
  have hn3 : (n : Int) ≤ 100000 := by omega
  clear h hR hn hnn hb
  go_enter Tryd.func8, Tryd.ntmps8
  go_upto_region 2 with (fail)
  have hz : (w.alloc (.cells #[.pointer none, .slice none 0 0] 45)).heap[w.heap.size]? = some (.cells #[.pointer none, .slice none 0 0] 45 (0, 0)) := blk_new w _
  have hB1 := below_alloc (Below.refl w.heap.size w) (.cells #[.pointer none, .slice none 0 0] 45)
  generalize w.alloc (.cells #[.pointer none, .slice none 0 0] 45) = w1 at *
  rw [HBs.out] at hz hB1 ⊢
  have HI : Aside0 (Lib.IsBuilderF 45 5 b b (Lib.byteCells (textF (items.take 0))) w1) := ⟨.inl ⟨Nat.le_refl _, _, hz, ⟨rfl, .inl ⟨rfl, rfl⟩⟩, fun e => by cases e⟩⟩
  have HB1 := Aside0.mk hB1
  have hbl : b < w1.heap.size := blk_lt hz
  have Hbl := Aside0.mk hbl
  clear hz hB1 hbl
  go_wp2
  go_loopw [8] (fun v8 wr => ∃ k : Nat, k ≤ n ∧ v8 = .int .i64 (k : Int) ∧ Aside0 (Lib.IsBuilderF 45 5 b b (Lib.byteCells (textF (items.take k))) wr) ∧ Aside0 (Below b w wr)) (fun v8 _ => n - (intOf v8).toNat)
  case atStart => exact ⟨0, Nat.zero_le _, rfl, HI, HB1⟩
  case round =>
    clear HI HB1
    obtain ⟨k, hk, rfl, HI, HB⟩ := hrel
    by_cases ck : k < n
    · have cki : (k : Int) < (n : Int) := by omega
      obtain ⟨p, hp⟩ : ∃ p, items[k]? = some p := ⟨_, List.getElem?_eq_getElem (by rw [Hn.out]; exact ck)⟩
      have HSn := Aside0.mk (textF_snoc items k p hp)
      have HBw : Aside0 (Below w.heap.size w wr) := ⟨by rw [HBs.out]; exact HB.out⟩
      obtain ⟨hE, ⟨Ad, cd, hp2, hC⟩, ad, hA, hAt⟩ := HR.out.below HBw.out k p hp
      obtain ⟨e, u⟩ := p
      dsimp only at hp2 hE hC
      obtain ⟨d, a1, a2, a3, x4, x5, ud⟩ := e
      dsimp only at hp2 hC
      subst hp2
      obtain ⟨k0, k1, k2, k3, k4, k5⟩ := hAt
      dsimp only at k0 k1 k2 k3 k4 k5
      subst hA
      have HE := Aside0.mk hE
      have HC := Aside0.mk hC
      have Hlen : Aside0 ((textF (items.take k)).length ≤ 101000 * 100000) := ⟨by
        have h1 := textF_len (items.take k) (fun q hq => by
          obtain ⟨j, hj⟩ := List.mem_iff_getElem?.1 (List.mem_of_mem_take hq)
          exact (HR.out j q hj).1)
        have h2 : (items.take k).length = min k items.length := List.length_take
        have h3 := Hn2.out
        omega⟩
      clear hE hC hp
      have HGr : Aside0 (GV wr) := ⟨HG.out.below HBw.out⟩
      go_upto_region 5 with (fail)
      have hz3 : (wr.alloc (.cells #[.int .i64 d, .int .i64 a1, .int .i64 a2, .int .i64 a3, .complex .f64 x4 x5, .slice Ad ud.length cd] 32)).heap[wr.heap.size]? = some (.cells #[.int .i64 d, .int .i64 a1, .int .i64 a2, .int .i64 a3, .complex .f64 x4 x5, .slice Ad ud.length cd] 32 (0, 0)) := blk_new wr _
      have hB4 := Aside0.mk (below_alloc (Below.refl wr.heap.size wr) (.cells #[.int .i64 d, .int .i64 a1, .int .i64 a2, .int .i64 a3, .complex .f64 x4 x5, .slice Ad ud.length cd] 32))
      generalize wr.alloc (.cells #[.int .i64 d, .int .i64 a1, .int .i64 a2, .int .i64 a3, .complex .f64 x4 x5, .slice Ad ud.length cd] 32) = w4 at *
      obtain ⟨q, hq⟩ : ∃ q, wr.heap.size = q := ⟨_, rfl⟩
      have hk0 := (blk_cell hz3 0).trans rfl
      have hk1 := (blk_cell hz3 1).trans rfl
      have hk2 := (blk_cell hz3 2).trans rfl
      have hk3 := (blk_cell hz3 3).trans rfl
      have hk4 := (blk_cell hz3 4).trans rfl
      have hk5 := (blk_cell hz3 5).trans rfl
      have HL := Aside0.mk (lineC ⟨d, a1, a2, a3, x4, x5, ud⟩ Ad cd w4 (HGr.out.below hB4.out) HE.out (Kd.C_below HC.out hB4.out))
      have HI4 : Aside0 (Lib.IsBuilderF 45 5 b b (Lib.byteCells (textF (items.take k))) w4) := ⟨builder_below HI.out hB4.out⟩
      have HB4 : Aside0 (Below b w w4) := ⟨Below.trans HB.out (hB4.out.mono (by rw [← HBs.out]; exact HBw.out.size))⟩
      unfold Ev.cells strV at HL
      dsimp only at HL HSn
      have Hll := Aside0.mk (lineF_len HE.out)
      obtain ⟨LL, hLL⟩ : ∃ LL, lineF ⟨d, a1, a2, a3, x4, x5, ud⟩ = LL := ⟨_, rfl⟩
      rw [hLL] at HL HSn Hll
      obtain ⟨S, hS⟩ : ∃ S : ByteArray, (⟨LL.toArray⟩ : ByteArray) = S := ⟨_, rfl⟩
      have Hsc : Aside0 (Lib.strCells S = Lib.byteCells LL ∧ S.size ≤ 101000) := ⟨by rw [← hS]; exact ⟨rfl, by rw [tl_str]; exact Hll.out⟩⟩
      rw [hS] at HL
      rw [hq] at hk0 hk1 hk2 hk3 hk4 hk5 ⊢
      clear hz3 hB4 hq HI HB HC HE hLL hS k0 k1 k2 k3 k4 k5 HBw HGr
      go_wp2_with (first
        | (go_at_call 14; (refine HL.out.mono ?_); rintro o w5 ⟨rfl, HB5⟩)
        | (go_at_call 13; (refine (writeC b b _ S _ (builder_below HI4.out HB5.out) (by rw [Lib.byteCells_length]; have := Hlen.out; have := Hsc.out.2; omega) (by rw [← HBs.out]; have h1 := HB4.out.size; have h2 := HB5.out.size; omega)).mono ?_); rintro o w6 ⟨rfl, HW⟩))
      have HI6 : Aside0 (Lib.IsBuilderF 45 5 b b (Lib.byteCells (textF (items.take (k + 1)))) w6) := ⟨by
        rw [HSn.out, Lib.byteCells_append, ← Hsc.out.1]
        exact .inr HW.out.1⟩
      have HB6 : Aside0 (Below b w w6) := ⟨Below.trans (Below.trans HB4.out (HB5.out.mono (by rw [← HBs.out]; exact HB4.out.size))) HW.out.2⟩
      clear HW HI4 HB4 HB5 HL
      go_roundw
      case rel => exact ⟨k + 1, ck, rfl, HI6, HB6⟩
      case measure => simp [intOf]; omega
    · obtain rfl : k = n := by omega
      have htk : items.take k = items := List.take_of_length_le (by rw [Hn.out]; exact Nat.le_refl _)
      rw [htk] at HI
      have HS := Aside0.mk (Tryd.Builder_String_any_f b b (textF items) wr HI.out (by rw [← HBs.out]; exact HB.out.size))
      rw [HTx.out] at HS
      clear HR HI htk Hn
      go_wp2_with (first | (go_at_call 15; (refine HS.out.mono ?_); rintro o w6 ⟨rfl, -, HB6'⟩; have HB6 := Aside0.mk HB6'; clear HB6'))
      go_ret
      exact ⟨rfl, ⟨by rw [HBs.out]; exact Below.trans HB.out HB6.out⟩⟩
end Go.Proofs.YthdmeffjiljdeaaDoor.M
