/- Plain: Same. By hand. -/
import Derived.Test.YtanfpjlcpcfjoaaG
namespace Go.Proofs.Ytanfpjlcpcfjoaa.M
open Go.RowKit Go.Proofs.YtanfpjlcpcfjoaaW.PrintWords Go.Proofs.YtanfpjlcpcfjoaaW.PrintLast Go.Proofs.YtanfpjlcpcfjoaaW.PrintMore Go.Proofs.Ytanfpjlcpcfjoaa.Rw
set_option linter.unusedVariables false
set_option linter.unusedSimpArgs false
theorem str_eq (a b : ByteArray) : (a.toList == b.toList) = decide (a = b) := by
  rw [ByteArray.toList_eq, ByteArray.toList_eq, Bool.eq_iff_iff, beq_iff_eq, decide_eq_true_iff]
  constructor
  · intro h
    cases a; cases b
    simp only [ByteArray.mk.injEq]
    exact Array.toList_inj.1 h
  · rintro rfl; rfl
set_option maxHeartbeats 1600000 in
theorem eqBytesC {w : World} {A B : Option Addr} {n m c d : Nat} {xs ys : List Int} (hx : (Kd.int .u8).C w A n xs) (hy : (Kd.int .u8).C w B m ys) (b : Bool) (hb : decide (strOfNums xs = strOfNums ys) = b) :
    Calls Try.prog 23 #[.slice A n c, .slice B m d] w fun e w' => e = .returned (.bool b) ∧ w = w' := by
  have hs1 := strC (c := c) hx
  have hs2 := strC (c := d) hy
  have hb2 := (str_eq _ _).trans hb
  generalize strOfNums xs = s1 at *
  generalize strOfNums ys = s2 at *
  clear hx hy hb
  go_enter Try.func23, Try.ntmps23
  go_wp2
  go_ret
  exact ⟨rfl, rfl⟩
/-- the rows are the same -/
def sameL (L M : Ln) : Bool := decide (L.map strOfNums = M.map strOfNums)
theorem sameL_yes {L M : Ln} (hl : L.length = M.length) (h : ∀ j, j < L.length → strOfNums (L.getD j []) = strOfNums (M.getD j [])) : sameL L M = true := by
  refine decide_eq_true (List.ext_getElem? fun j => ?_)
  rw [List.getElem?_map, List.getElem?_map]
  by_cases hj : j < L.length
  · have := h j hj
    rw [List.getD_eq_getElem?_getD, List.getD_eq_getElem?_getD, List.getElem?_eq_getElem hj, List.getElem?_eq_getElem (by omega)] at this
    rw [List.getElem?_eq_getElem hj, List.getElem?_eq_getElem (by omega)]
    exact congrArg some this
  · rw [List.getElem?_eq_none (by omega), List.getElem?_eq_none (by omega)]
theorem sameL_no {L M : Ln} {j : Nat} (hj : j < L.length) (hj2 : j < M.length) (h : ¬ strOfNums (L.getD j []) = strOfNums (M.getD j [])) : sameL L M = false := by
  refine decide_eq_false (fun e => h ?_)
  have := congrArg (fun l => l[j]?) e
  simp only [List.getElem?_map] at this
  rw [List.getElem?_eq_getElem hj, List.getElem?_eq_getElem hj2] at this
  rw [List.getD_eq_getElem?_getD, List.getD_eq_getElem?_getD, List.getElem?_eq_getElem hj, List.getElem?_eq_getElem hj2]
  exact Option.some.inj this
theorem sameL_len {L M : Ln} (h : ¬ L.length = M.length) : sameL L M = false :=
  decide_eq_false (fun e => h (by simpa using congrArg List.length e))
section
variable {w : World} {lo hi g n lo' hi' g' m : Nat} {L M : Ln}
set_option maxHeartbeats 3200000 in
set_option maxRecDepth 100000 in
theorem equalFuncC {v v' : Value} {vs vs' : List Value} (hP : IsPd w lo hi g L n v vs) (hQ : IsPd w lo' hi' g' M m v' vs') (b : Bool) (hb : sameL L M = b) :
    Calls Try.prog 22 #[v, v', .func (.func 23) #[] #[]] w fun e w' => e = .returned (.bool b) ∧ w = w' := by
  obtain ⟨A0, c0, hv, hc0, hc1⟩ := hP.head
  obtain ⟨A1, c1, hv1, hd0, hd1⟩ := hQ.head
  have hl1 := hP.ll
  have hl2 := hQ.ll
  by_cases hl : (L.length : Int) = (M.length : Int)
  · have hlN : L.length = M.length := by omega
    have HP := Aside0.mk hP
    have HQ := Aside0.mk hQ
    have HB := Aside0.mk hb
    subst hv hv1
    clear hP hQ hb hc0 hc1 hd0 hd1 hl
    have HL := Aside0.mk hlN
    rw [← hlN]
    clear hlN
    go_enter Try.func22, Try.ntmps22
    go_wp2
    go_loopw [7, 8, 9, 17] (fun _ _ _ v17 wr => wr = w ∧ ∃ i : Nat, i ≤ L.length ∧ v17 = .int .i64 (i : Int) ∧ Aside0 (∀ j, j < i → strOfNums (L.getD j []) = strOfNums (M.getD j []))) (fun _ _ _ v17 _ => L.length - (intOf v17).toNat)
    case atStart => exact ⟨rfl, 0, Nat.zero_le _, rfl, ⟨fun j hj => absurd hj (Nat.not_lt_zero _)⟩⟩
    case round =>
      obtain ⟨rfl, i, hi, rfl, HPre⟩ := hrel
      by_cases ci : i < L.length
      · have ci2 : i < M.length := by rw [← HL.out]; exact ci
        obtain ⟨qo, co, u, hv, hcl, hcc0, hu, hcu, hR⟩ := HP.out.elem ci
        obtain ⟨Au, cu, eu⟩ := Kd.R_slice hR
        subst eu
        obtain ⟨qo', co', u', hv', hcl', hcc0', hu', hcu', hR'⟩ := HQ.out.elem ci2
        obtain ⟨Au', cu', eu'⟩ := Kd.R_slice hR'
        subst eu'
        have hA0 : A0 = some ⟨qo, 0, none⟩ := by simp at hv; exact hv.1
        have hA1 : A1 = some ⟨qo', 0, none⟩ := by simp at hv'; exact hv'.1
        subst hA0 hA1
        have HC := Aside0.mk (Kd.R_reads' hR).2.2
        have HC' := Aside0.mk (Kd.R_reads' hR').2.2
        obtain ⟨b1, hb1⟩ : ∃ b1, decide (strOfNums (L.getD i []) = strOfNums (M.getD i [])) = b1 := ⟨_, rfl⟩
        have HB1 := Aside0.mk hb1
        have HLi := Aside0.mk (rfl : L.getD i [] = L.getD i [])
        obtain ⟨n1, hn1⟩ : ∃ n1, (L.getD i []).length = n1 := ⟨_, rfl⟩
        obtain ⟨n2, hn2⟩ : ∃ n2, (M.getD i []).length = n2 := ⟨_, rfl⟩
        rw [hn1] at hcu HC
        rw [hn2] at hcu' HC'
        clear hv hv' hcl hcl' hcc0 hcc0' hu hu' hR hR' hb1 hn1 hn2
        cases b1 with
        | true =>
          go_wp2_with ((go_at_call 23; (refine (eqBytesC HC.out HC'.out true HB1.out).mono ?_); rintro e w3 ⟨rfl, rfl⟩))
          go_roundw
          case rel => exact ⟨trivial, i + 1, ci, rfl, ⟨fun j hj => by
            by_cases hji : j = i
            · subst hji; exact of_decide_eq_true HB1.out
            · exact HPre.out j (by omega)⟩⟩
          case measure => simp [intOf]; omega
        | false =>
          have HF := Aside0.mk ((sameL_no ci ci2 (of_decide_eq_false HB1.out)).symm.trans HB.out)
          go_wp2_with ((go_at_call 23; (refine (eqBytesC HC.out HC'.out false HB1.out).mono ?_); rintro e w3 ⟨rfl, rfl⟩))
          go_ret
          exact ⟨by rw [← HF.out]; rfl, rfl⟩
      · obtain rfl : i = L.length := by omega
        have HF := Aside0.mk ((sameL_yes HL.out HPre.out).symm.trans HB.out)
        go_wp2
        go_ret
        exact ⟨by rw [← HF.out]; rfl, rfl⟩
  · have hlb : (((L.length : Int)) != (M.length : Int)) = true := bne_iff_ne.2 hl
    have hlN : (L.length == M.length) = false := beq_eq_false_iff_ne.2 (by omega)
    have HB := Aside0.mk ((sameL_len (by omega)).symm.trans hb)
    subst hv hv1
    clear hP hQ hb hc0 hc1 hd0 hd1 hl
    go_enter Try.func22, Try.ntmps22
    go_wp2
    go_ret
    exact ⟨by rw [← HB.out]; rfl, rfl⟩
theorem IsPd.drewN {v : Value} {vs : List Value} (h : IsPd w lo hi g L n v vs) (k : Nat) : IsPd (w.drewN k) lo hi g L n v vs := h.move (fun _ _ _ => rfl) h.hs
set_option maxHeartbeats 3200000 in
set_option maxRecDepth 100000 in
theorem sameC (hI : IsP w lo hi g L n) (hJ : IsP w lo' hi' g' M m) (b : Bool) (hb : (decide (n = m) && sameL L M) = b) : Calls Try.prog 15 #[.pointer (some ⟨g, 0, none⟩), .pointer (some ⟨g', 0, none⟩)] w fun e w' =>
    e = .returned (.bool b) ∧ Aside0 (Below w.heap.size w w') := by
  obtain ⟨v, vs, hP⟩ := hI
  obtain ⟨v', vs', hQ⟩ := hJ
  obtain ⟨A0, c0, hv, hc0, hc1⟩ := hP.head
  obtain ⟨A1, c1, hv1, hd0, hd1⟩ := hQ.head
  subst hv hv1
  have HP := Aside0.mk hP
  have HQ := Aside0.mk hQ
  clear hP hQ
  by_cases hn : n = m
  · have hnb : ((n : Int) == (m : Int)) = true := by simp [hn]
    have HB := Aside0.mk (show sameL L M = b by rw [← hb, hn]; simp)
    clear hb hn
    go_enter Try.func15, Try.ntmps15
    go_upto_region 3 with (fail)
    go_quiet ((go_at_call 22; exact Calls.quiet_of_same ((equalFuncC (HP.out.drewN _) (HQ.out.drewN _) b HB.out).mono fun e w' h => ⟨h.1, h.2.symm⟩)))
    go_wp2
    go_ret
    exact ⟨rfl, ⟨⟨rfl, rfl, rfl, Nat.le_refl _, fun _ _ => rfl⟩⟩⟩
  · have hnb : ((n : Int) == (m : Int)) = false := beq_eq_false_iff_ne.2 (by omega)
    have HB := Aside0.mk (show false = b by rw [← hb]; simp [hn])
    clear hb hn
    go_enter Try.func15, Try.ntmps15
    go_upto_region 3 with (fail)
    go_quiet (fail)
    go_wp2
    go_ret
    exact ⟨by rw [← HB.out]; rfl, ⟨⟨rfl, rfl, rfl, Nat.le_refl _, fun _ _ => rfl⟩⟩⟩
set_option maxHeartbeats 1600000 in
theorem sameNilC (w : World) (g : Nat) : Calls Try.prog 15 #[.pointer (some ⟨g, 0, none⟩), .pointer none] w fun e w' => e = .returned (.bool false) ∧ w = w' := by
  go_enter Try.func15, Try.ntmps15
  go_wp2
  go_ret
  exact ⟨rfl, rfl⟩
end
end Go.Proofs.Ytanfpjlcpcfjoaa.M
