/- The walk of PointKnown: points by hand: borders, far ones, what is no number. -/
import Derived.Test.YtggfmihmpnaboaaK
import Derived.Test.YtggfmihmpnaboaaWalkGray
import Derived.Test.YtggfmihmpnaboaaWalkOffs
namespace Go.Proofs.Ytggfmihmpnaboaa.M
open Go.RowKit Go.Proofs.YtggfmihmpnaboaaW.PrintWords Go.Proofs.YtggfmihmpnaboaaW.PrintLast Go.Proofs.YtggfmihmpnaboaaW.PrintMore Go.Proofs.Ytggfmihmpnaboaa.Rw Go.Proofs.Ytggfmihmpnaboaa.Fl
set_option linter.unusedVariables false
set_option linter.unusedSimpArgs false
theorem infC (w : World) : Calls Try.prog 18 #[.int .i64 1] w fun o w' => o = .returned (.float .f64 9218868437227405312) ∧ w' = w := by
  have h23 := @run_callFunc_extern Try.prog 23 _ Extern.MathFloatBits.float64frombits Try.func23 (by kernel_rfl) (by kernel_rfl) (by kernel_rfl) (by kernel_rfl)
  have r23 : ∀ w, (Extern.MathFloatBits.float64frombits #[.int .u64 9218868437227405312]).run Try.prog w = .ok (.float .f64 9218868437227405312) w := fun w => rfl
  go_enter Try.func18, Try.ntmps18
  go_wp2
  go_ret
  exact ⟨rfl, rfl⟩
theorem nanC (w : World) : Calls Try.prog 17 #[] w fun o w' => o = .returned (.float .f64 9221120237041090561) ∧ w' = w := by
  have h23 := @run_callFunc_extern Try.prog 23 _ Extern.MathFloatBits.float64frombits Try.func23 (by kernel_rfl) (by kernel_rfl) (by kernel_rfl) (by kernel_rfl)
  have r23 : ∀ w, (Extern.MathFloatBits.float64frombits #[.int .u64 9221120237041090561]).run Try.prog w = .ok (.float .f64 9221120237041090561) w := fun w => rfl
  go_enter Try.func17, Try.ntmps17
  go_wp2
  go_ret
  exact ⟨rfl, rfl⟩
theorem isNan0 : NaNW 9221120237041090561 := ⟨false, 2251799813685249, by decide +kernel⟩
theorem litS (a : Int) (n : Nat) (h : n = Ieee.double.nearest (decide (a < 0)) a.natAbs 0) : n = fd a 0 := h.trans (fd_eq a 0).symm
set_option maxHeartbeats 12800000 in
theorem known_walk (w : World) : Calls Try.prog 9 #[] w fun e w' => e = .returned (.bool true) ∧ Below w.heap.size w w' := by
  have o0 := ofC 0 (by decide) (by decide)
  have o1 := ofC 1024 (by decide) (by decide)
  have o2 := ofC 33 (by decide) (by decide)
  have e0 : ptR 0 = 13852790978814935040 ∧ ptI 0 = 13852790978814935040 := ⟨lit_m31.symm, lit_m31.symm⟩
  have e1 : ptR 1024 = 13852790978814935040 ∧ ptI 1024 = 13852790978814935040 := ⟨lit_m31.symm, lit_m31.symm⟩
  have e2 : ptR 33 = 13852228028861513728 ∧ ptI 33 = 13852228028861513728 := by
    unfold ptR ptI
    rw [show 2 * ((33 : Int) % 1024 / 32) - 31 = -29 from by decide, show 2 * ((33 : Int) % 1024 % 32) - 31 = -29 from by decide]
    exact ⟨(litS (-29) 13852228028861513728 (by decide +kernel)).symm, (litS (-29) 13852228028861513728 (by decide +kernel)).symm⟩
  rw [e0.1, e0.2] at o0
  rw [e1.1, e1.2] at o1
  rw [e2.1, e2.2] at o2
  have s0 := sliceI (V := 0) (W := 0) (by decide) (by decide)
  rw [fd_zero, show lv ((0 + 32) / 2) * 32 + lv ((0 + 32) / 2) = 528 from by decide] at s0
  have hl1 := lev_dy (v := -1) (s := 10) (by decide) (by decide) (by decide)
  rw [show fd (-1) (-((10 : Nat) : Int)) = 13785518459381088256 from by rw [fd_eq]; decide +kernel] at hl1
  have s1 := sliceC hl1 hl1
  rw [show lv ((2 ^ (10 + 5) + -1) / 2 ^ (10 + 1)) * 32 + lv ((2 ^ (10 + 5) + -1) / 2 ^ (10 + 1)) = 495 from by decide] at s1
  have s2 := sliceI (V := 1000) (W := -1000) (by decide) (by decide)
  rw [← litS 1000 4652007308841189376 (by decide +kernel), ← litS (-1000) 13875379345695965184 (by decide +kernel), show lv ((1000 + 32) / 2) * 32 + lv ((-1000 + 32) / 2) = 992 from by decide] at s2
  have s3 := sliceI (V := 2) (W := -2) (by decide) (by decide)
  rw [← litS 2 4611686018427387904 (by decide +kernel), ← litS (-2) 13835058055282163712 (by decide +kernel), show lv ((2 + 32) / 2) * 32 + lv ((-2 + 32) / 2) = 559 from by decide] at s3
  have s4 := sliceD (levNaN isNan0) (levInf 9218868437227405312 31 (by decide +kernel) (by decide +kernel) ⟨false, by decide +kernel⟩ (.inl ⟨rfl, rfl⟩)) (by decide) (by decide) (by decide) (by decide)
  have s5 := sliceD (levInf 18442240474082181120 0 (by decide +kernel) (by decide +kernel) ⟨true, by decide +kernel⟩ (.inr ⟨rfl, rfl⟩)) (levNaN isNan0) (by decide) (by decide) (by decide) (by decide)
  have g0 := gridI (V := 33) (W := 1) (by decide) (by decide) false (by decide)
  have g1 := gridI (V := 1) (W := 2) (by decide) (by decide) false (by decide)
  have g2 := gridI (V := -31) (W := 31) (by decide) (by decide) true (by decide)
  rw [← litS 33 4629841154425225216 (by decide +kernel), ← lit1] at g0
  rw [← litS 2 4611686018427387904 (by decide +kernel), ← lit1] at g1
  rw [← lit_m31, ← lit31] at g2
  have y0 := grayC (A := 0) (h := 0) (l := 0) (by decide) (by decide) (by decide)
  have y1 := grayC (A := 1) (h := 0) (l := 1) (by decide) (by decide) (by decide)
  have y2 := grayC (A := 2) (h := 0) (l := 2) (by decide) (by decide) (by decide)
  have y3 := grayC (A := 31) (h := 0) (l := 31) (by decide) (by decide) (by decide)
  have y4 := grayC (A := 1023) (h := 31) (l := 31) (by decide) (by decide) (by decide)
  rw [show ((gy 0 * 32 + gy 0 : Nat) : Int) = 0 from by decide] at y0
  rw [show ((gy 0 * 32 + gy 1 : Nat) : Int) = 1 from by decide] at y1
  rw [show ((gy 0 * 32 + gy 2 : Nat) : Int) = 3 from by decide] at y2
  rw [show ((gy 0 * 32 + gy 31 : Nat) : Int) = 16 from by decide] at y3
  rw [show ((gy 31 * 32 + gy 31 : Nat) : Int) = 528 from by decide] at y4
  have f0 := offM (a := 0) (h := 0) (l := 0) (p := 0) (q := 0) (by decide) (by decide) (by decide) (by decide) (by decide) (by decide) (by decide) (by decide) (by decide)
  rw [show (0 : Int) - (2 * 0 - 31) = 31 from by decide, fd_zero, ← lit31] at f0
  have O0 := Aside0.mk o0
  have O1 := Aside0.mk o1
  have O2 := Aside0.mk o2
  have S0 := Aside0.mk s0
  have S1 := Aside0.mk s1
  have S2 := Aside0.mk s2
  have S3 := Aside0.mk s3
  have S4 := Aside0.mk s4
  have S5 := Aside0.mk s5
  have G0 := Aside0.mk g0
  have G1 := Aside0.mk g1
  have G2 := Aside0.mk g2
  have Y0 := Aside0.mk y0
  have Y1 := Aside0.mk y1
  have Y2 := Aside0.mk y2
  have Y3 := Aside0.mk y3
  have Y4 := Aside0.mk y4
  have F0 := Aside0.mk f0
  have c1 : FloatKind.f64.format.order 13852790978814935040 13852790978814935040 = some .eq := by decide +kernel
  have c2 : FloatKind.f64.format.order 13852228028861513728 13852228028861513728 = some .eq := by decide +kernel
  have c3 : FloatKind.f64.format.order 4629418941960159232 4629418941960159232 = some .eq := by decide +kernel
  have ku : Op.unary .neg (.float .f64 9218868437227405312) = pure (.float .f64 18442240474082181120) := by rfl
  clear o0 o1 o2 e0 e1 e2 s0 s1 s2 s3 s4 s5 hl1 g0 g1 g2 y0 y1 y2 y3 y4 f0
  go_enter Try.func9, Try.ntmps9
  go_wp2_with (first
    | (go_at_call 10; (refine (awakeC _).mono ?_); rintro o w2 ⟨rfl, hw⟩; obtain rfl := hw.symm)
    | (go_at_call 17; (refine (nanC _).mono ?_); rintro o w2 ⟨rfl, hw⟩; obtain rfl := hw.symm)
    | (go_at_call 18; (refine (infC _).mono ?_); rintro o w2 ⟨rfl, hw⟩; obtain rfl := hw.symm)
    | (go_at_call 11; (first | (with_reducible refine (O0.out _).mono ?_; rintro o w2 ⟨rfl, hw⟩; obtain rfl := hw.symm) | (with_reducible refine (O1.out _).mono ?_; rintro o w2 ⟨rfl, hw⟩; obtain rfl := hw.symm) | (with_reducible refine (O2.out _).mono ?_; rintro o w2 ⟨rfl, hw⟩; obtain rfl := hw.symm)))
    | (go_at_call 12; (first | (with_reducible refine (S0.out _).mono ?_; rintro o w2 ⟨rfl, hw⟩; obtain rfl := hw.symm) | (with_reducible refine (S1.out _).mono ?_; rintro o w2 ⟨rfl, hw⟩; obtain rfl := hw.symm) | (with_reducible refine (S2.out _).mono ?_; rintro o w2 ⟨rfl, hw⟩; obtain rfl := hw.symm) | (with_reducible refine (S3.out _).mono ?_; rintro o w2 ⟨rfl, hw⟩; obtain rfl := hw.symm) | (with_reducible refine (S4.out _).mono ?_; rintro o w2 ⟨rfl, m4, rfl⟩) | (with_reducible refine (S5.out _).mono ?_; rintro o w2 ⟨rfl, m5, rfl⟩)))
    | (go_at_call 14; (first | (with_reducible refine (G0.out _).mono ?_; rintro o w2 ⟨rfl, hw⟩; obtain rfl := hw.symm) | (with_reducible refine (G1.out _).mono ?_; rintro o w2 ⟨rfl, hw⟩; obtain rfl := hw.symm) | (with_reducible refine (G2.out _).mono ?_; rintro o w2 ⟨rfl, hw⟩; obtain rfl := hw.symm)))
    | (go_at_call 16; (first | (with_reducible refine (Y0.out _).mono ?_; rintro o w2 ⟨rfl, hw⟩; obtain rfl := hw.symm) | (with_reducible refine (Y1.out _).mono ?_; rintro o w2 ⟨rfl, hw⟩; obtain rfl := hw.symm) | (with_reducible refine (Y2.out _).mono ?_; rintro o w2 ⟨rfl, hw⟩; obtain rfl := hw.symm) | (with_reducible refine (Y3.out _).mono ?_; rintro o w2 ⟨rfl, hw⟩; obtain rfl := hw.symm) | (with_reducible refine (Y4.out _).mono ?_; rintro o w2 ⟨rfl, hw⟩; obtain rfl := hw.symm)))
    | (go_at_call 15; (with_reducible refine (F0.out _).mono ?_); rintro o w2 ⟨rfl, hw⟩; obtain rfl := hw.symm))
  go_ret
  exact ⟨rfl, ⟨rfl, rfl, rfl, Nat.le_refl _, fun _ _ => rfl⟩⟩
end Go.Proofs.Ytggfmihmpnaboaa.M
