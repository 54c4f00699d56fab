/- The walk of PointBack: each symbol is sliced from its own point, and from all within less than one of it in each part; the grid is just these points. -/
import Derived.Test.YtggfmihmpnaboaaN2
import Derived.Test.YtggfmihmpnaboaaWalkOffs
namespace Go.Proofs.Ytggfmihmpnaboaa.M
open Go.RowKit Go.Proofs.YtggfmihmpnaboaaW.PrintWords Go.Proofs.YtggfmihmpnaboaaW.PrintLast Go.Proofs.YtggfmihmpnaboaaW.PrintMore Go.Proofs.Ytggfmihmpnaboaa.Rw Go.Proofs.Ytggfmihmpnaboaa.Fl
set_option linter.unusedVariables false
set_option linter.unusedSimpArgs false
set_option maxHeartbeats 6400000 in
theorem back_walk (a0 : Int) (a1_0 : Int) (a1_1 : Int) (w : World) (w0 : (Lit.int .u16 a0).wf = true) (wa1_0 : (Lit.int .i16 a1_0).wf = true) (wa1_1 : (Lit.int .i16 a1_1).wf = true) :
    Calls Try.prog 6 #[.int .u16 a0, .agg #[.int .i16 a1_0, .int .i16 a1_1]] w fun e w' => e = .returned (.bool true) ∧ Below w.heap.size w w' := by
  obtain ⟨b00, b01⟩ := bounds_u16 w0
  obtain ⟨b10, b11⟩ := bounds_i16 wa1_0
  obtain ⟨b20, b21⟩ := bounds_i16 wa1_1
  have hm0 := and1023 b00 b01
  obtain ⟨h, l, hA, p1, p2, p3, p4⟩ := fives a0
  obtain ⟨A, hA'⟩ : ∃ A, a0 % 1024 = A := ⟨_, rfl⟩
  rw [hA'] at hA hm0
  obtain ⟨d0, q0, K0, s0, hd0, hq0, hl0, hk0, hs0, h530, ho0⟩ := back_part p1 p2 b10 b11
  obtain ⟨d1, q1, K1, s1, hd1, hq1, hl1, hk1, hs1, h531, ho1⟩ := back_part p3 p4 b20 b21
  have HS := Aside0.mk (ofS hA p1 p2 p3 p4)
  have hA1 : A % 1024 = 32 * h + l := by omega
  have hf := offM (a := A) (p := 2 * h - 31) (q := 2 * l - 31) hA1 (by omega) (by omega) p1 p2 p3 p4 (by omega) (by omega)
  simp only [Int.sub_self, fd_zero] at hf
  have HF := Aside0.mk hf
  have hs := sliceI (V := 2 * h - 31) (W := 2 * l - 31) (by omega) (by omega)
  have e1 : lv ((2 * h - 31 + 32) / 2) = h := by rw [show (2 * h - 31 + 32) / 2 = h by omega]; unfold lv; rw [if_neg (by omega)]; split <;> omega
  have e2 : lv ((2 * l - 31 + 32) / 2) = l := by rw [show (2 * l - 31 + 32) / 2 = l by omega]; unfold lv; rw [if_neg (by omega)]; split <;> omega
  rw [e1, e2, show h * 32 + l = A by omega] at hs
  have e3 : lv h = h := by unfold lv; rw [if_neg (by omega)]; split <;> omega
  have e4 : lv l = l := by unfold lv; rw [if_neg (by omega)]; split <;> omega
  have hs2 := sliceC hl0 hl1
  rw [e3, e4, show h * 32 + l = A by omega] at hs2
  have hg := gridI (V := 2 * h - 31) (W := 2 * l - 31) (by omega) (by omega) true (by
    unfold oddB
    rw [decide_eq_true (by omega), decide_eq_true (by omega), decide_eq_true (by omega), decide_eq_true (by omega)]; rfl)
  have hg2 := gridC hs0 h530 hs1 h531
  rw [← hk0, ← hk1, ho0, ho1] at hg2
  have HSa := Aside0.mk hs
  have HSb := Aside0.mk hs2
  have HGa := Aside0.mk hg
  have kd0 : ∀ t w, (binOp .quo t (.float .f64 (fd a1_0 0)) (.float .f64 4675730371722084352)).run Try.prog w = .ok (.float .f64 d0) w := fun t w => run_float_arith w .quo t .f64 _ _ d0 hd0
  have kd1 : ∀ t w, (binOp .quo t (.float .f64 (fd a1_1 0)) (.float .f64 4675730371722084352)).run Try.prog w = .ok (.float .f64 d1) w := fun t w => run_float_arith w .quo t .f64 _ _ d1 hd1
  have ka : ∀ t w, (binOp .add t (.complex .f64 (fd (2 * h - 31) 0) (fd (2 * l - 31) 0)) (.complex .f64 d0 d1)).run Try.prog w = .ok (.complex .f64 q0 q1) w := fun t w => run_complex_sum w .add (.inl rfl) t .f64 _ _ _ _ _ _ (by
    unfold cSumBits floatBits
    show (Ieee.double.add (fd (2 * h - 31) 0) d0).bind _ = _
    rw [hq0]
    show (Ieee.double.add (fd (2 * l - 31) 0) d1).bind _ = _
    rw [hq1]; rfl)
  have f0 := fd_int a1_0
  have f1 := fd_int a1_1
  have z0 : FloatKind.f64.format.order 0 0 = some .eq := by decide +kernel
  have HBa := Aside0.mk (below_alloc (Below.refl w.heap.size w) (.cells #[.int .i16 a1_0, .int .i16 a1_1] 37 (0, 0)))
  have hc0 := blk_cell (blk_new w (.cells #[.int .i16 a1_0, .int .i16 a1_1] 37 (0, 0))) 0
  have hc1 := blk_cell (blk_new w (.cells #[.int .i16 a1_0, .int .i16 a1_1] 37 (0, 0))) 1
  clear hA hA' hA1 hf hs hs2 hg e1 e2 e3 e4 hd0 hd1 hq0 hq1 hl0 hl1 hk0 hk1 h530 h531 ho0 ho1 w0 wa1_0 wa1_1
  generalize fd (2 * h - 31) 0 = r0 at *
  generalize fd (2 * l - 31) 0 = r1 at *
  generalize fd a1_0 0 = y0 at *
  generalize fd a1_1 0 = y1 at *
  clear p1 p2 p3 p4
  have fin : ∀ (g0 g1 : Bool), decide (a1_0 = 0) = g0 → decide (a1_1 = 0) = g1 → Calls Try.prog 6 #[.int .u16 a0, .agg #[.int .i16 a1_0, .int .i16 a1_1]] w fun e w' => e = .returned (.bool true) ∧ Below w.heap.size w w' := by
    intro g0 g1 hg0 hg1
    have t0 : (a1_0 == 0) = g0 := by rw [← hg0]; cases h9 : (a1_0 == 0) <;> simp_all
    have t1 : (a1_1 == 0) = g1 := by rw [← hg1]; cases h9 : (a1_1 == 0) <;> simp_all
    rw [hg0, hg1] at hg2
    have HGb := Aside0.mk hg2
    clear hg0 hg1 hg2
    cases g0 <;> cases g1
    all_goals (
      go_enter Try.func6, Try.ntmps6
      go_upto_region 6 with (first
        | (go_at_call 10; (refine (awakeC _).mono ?_); rintro o w2 ⟨rfl, hw⟩; obtain rfl := hw.symm)
        | (go_at_call 11; (with_reducible refine (HS.out _).mono ?_); rintro o w2 ⟨rfl, hw⟩; obtain rfl := hw.symm)
        | simp only [kd0, kd1, ka])
      go_quiet ((first
        | (go_at_call 12; (first | with_reducible exact Calls.quiet_of_same (HSa.out _) | with_reducible exact Calls.quiet_of_same (HSb.out _)))
        | (go_at_call 14; (first | with_reducible exact Calls.quiet_of_same (HGa.out _) | with_reducible exact Calls.quiet_of_same (HGb.out _)))
        | (go_at_call 15; with_reducible exact Calls.quiet_of_same (HF.out _))))
      have HBq := Aside0.mk (Below.trans HBa.out (⟨rfl, rfl, rfl, Nat.le_refl _, fun _ _ => rfl⟩ : Below w.heap.size (w.alloc (.cells #[.int .i16 a1_0, .int .i16 a1_1] 37 (0, 0))) ((w.alloc (.cells #[.int .i16 a1_0, .int .i16 a1_1] 37 (0, 0))).drewN nq)))
      go_wp2
      go_ret
      exact ⟨rfl, HBq.out⟩)
  exact fin _ _ rfl rfl
end Go.Proofs.Ytggfmihmpnaboaa.M
