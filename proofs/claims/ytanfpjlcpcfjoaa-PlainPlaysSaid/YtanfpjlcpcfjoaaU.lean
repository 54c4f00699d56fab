/- The reference's SamePlain; by hand. -/
import Derived.Test.YtanfpjlcpcfjoaaT
namespace Go.Proofs.Ytanfpjlcpcfjoaa.M
open Go.RowKit Go.Proofs.YtanfpjlcpcfjoaaW.PrintWords Go.Proofs.YtanfpjlcpcfjoaaW.PrintLast Go.Proofs.YtanfpjlcpcfjoaaW.PrintMore Go.Proofs.Ytanfpjlcpcfjoaa.Rw
set_option linter.unusedVariables false
set_option linter.unusedSimpArgs false
set_option maxHeartbeats 1600000 in
theorem sameBytesC {w : World} {A B : Option Addr} {n m c d : Nat} {xs ys : List Int} (hx : (Kd.int .u8).C w A n xs) (hy : (Kd.int .u8).C w B m ys) (b : Bool) (hb : decide (strOfNums xs = strOfNums ys) = b) :
    Calls Try.prog 24 #[.slice A n c, .slice B m d] w fun e w' => e = .returned (.bool b) ∧ w = w' := by
  have hs1 := strC (c := c) hx
  have hs2 := strC (c := d) hy
  have hb2 := (str_eq _ _).trans hb
  generalize strOfNums xs = s1 at *
  generalize strOfNums ys = s2 at *
  clear hx hy hb
  go_enter Try.func24, Try.ntmps24
  go_wp2
  go_ret
  exact ⟨rfl, rfl⟩
set_option maxHeartbeats 3200000 in
set_option maxRecDepth 100000 in
theorem samePlainC {w : World} {g q g' q' n : Nat} {ok ok' : Nat → Prop} {L M : Ln} (hI : IsR w g q n ok L) (hJ : IsR w g' q' n ok' M) (hlm : L.length = M.length) (b : Bool) (hb : sameL L M = b) :
    Calls Try.prog 16 #[.pointer (some ⟨g, 0, none⟩), .pointer (some ⟨g', 0, none⟩)] w fun e w' => e = .returned (.bool b) ∧ Aside0 (Below w.heap.size w w') := by
  have HI := Aside0.mk hI
  have HJ := Aside0.mk hJ
  have HB := Aside0.mk hb
  have HL := Aside0.mk hlm
  obtain ⟨A, c, vs, hP⟩ := hI
  obtain ⟨A', c', vs', hQ⟩ := hJ
  obtain ⟨hc0, hc1⟩ := hP.cells
  obtain ⟨hd0, hd1⟩ := hQ.cells
  rw [← hlm] at hd1
  have hl200 := hP.ll
  have hcl := World.block_lt_of_cell? w _ hc1
  have hdl := World.block_lt_of_cell? w _ hd1
  have HC1 := Aside0.mk hc1
  have HD1 := Aside0.mk hd1
  clear hP hQ hb hlm
  go_enter Try.func16, Try.ntmps16
  go_upto_region 1 with (fail)
  go_quiet (fail)
  have HBn : Aside0 (Below w.heap.size w (w.drewN nq)) := ⟨⟨rfl, rfl, rfl, Nat.le_refl _, fun _ _ => rfl⟩⟩
  clear hc0 hc1 hd0 hd1
  generalize w.drewN nq = w1 at *
  go_wp2
  go_loopw [5, 6, 7, 8, 9] (fun v5 _ _ _ _ wr => ∃ i : Nat, i ≤ L.length ∧ v5 = .int .i64 (i : Int) ∧ Aside0 (Below w.heap.size w wr) ∧ Aside0 (∀ j, j < i → strOfNums (L.getD j []) = strOfNums (M.getD j []))) (fun v5 _ _ _ _ _ => L.length - (intOf v5).toNat)
  case atStart => exact ⟨0, Nat.zero_le _, rfl, HBn, ⟨fun j hj => absurd hj (Nat.not_lt_zero _)⟩⟩
  case round =>
    clear HBn
    obtain ⟨i, hi, rfl, HBr, HPre⟩ := hrel
    have hc1 := (HBr.out.cell hcl).trans HC1.out
    by_cases ci : i < L.length
    · have HIr := Aside0.mk (HI.out.below HBr.out)
      have HJr := Aside0.mk (HJ.out.below HBr.out)
      have ci2 : Aside0 (i < M.length) := ⟨by rw [← HL.out]; exact ci⟩
      have hil : (i : Int) < (L.length : Int) := by omega
      obtain ⟨b1, hb1⟩ : ∃ b1, decide (strOfNums (L.getD i []) = strOfNums (M.getD i [])) = b1 := ⟨_, rfl⟩
      have HB1 := Aside0.mk hb1
      clear hb1
      go_upto_region 8 with (go_at_call 20; (first
        | (have hst := HIr; (refine (refReadC HIr.out i ci).mono ?_); rintro e w3 ⟨A3, c3, rfl, HC3, hb3⟩; have HJ3 := Aside0.mk (HJr.out.below hb3.out); have HB3 := Aside0.mk (below_step HBr.out hb3.out); clear hst HIr HJr HBr hb3)
        | (have hst := HJ3; (refine (refReadC HJ3.out i ci2.out).mono ?_); rintro e w4 ⟨A4, c4, rfl, HC4, hb4⟩; have HC5 := Aside0.mk (Kd.C_below HC3.out hb4.out); have HB4 := Aside0.mk (below_step HB3.out hb4.out); clear hst HJ3 HC3 HB3 hb4)))
      cases b1 with
      | true =>
        go_wp2_with (go_at_call 24; (refine (sameBytesC HC5.out HC4.out true HB1.out).mono ?_); rintro e w5 ⟨rfl, rfl⟩)
        go_roundw
        case rel => exact ⟨i + 1, ci, rfl, HB4, ⟨fun j hj => by
          by_cases hji : j = i
          · subst hji; exact of_decide_eq_true HB1.out
          · exact HPre.out j (by omega)⟩⟩
        case measure => simp [intOf]; omega
      | false =>
        have HF := Aside0.mk ((sameL_no ci ci2.out (of_decide_eq_false HB1.out)).symm.trans HB.out)
        go_wp2_with (go_at_call 24; (refine (sameBytesC HC5.out HC4.out false HB1.out).mono ?_); rintro e w5 ⟨rfl, rfl⟩)
        go_ret
        exact ⟨by rw [← HF.out]; rfl, HB4⟩
    · obtain rfl : i = L.length := by omega
      have HF := Aside0.mk ((sameL_yes HL.out HPre.out).symm.trans HB.out)
      go_wp2
      go_ret
      exact ⟨by rw [← HF.out]; rfl, HBr⟩
end Go.Proofs.Ytanfpjlcpcfjoaa.M
