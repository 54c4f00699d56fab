/- Go's math on words: Abs, IsInf, IsNaN, Frexp, Ldexp; by hand. -/
import Derived.Test.YtggfmihmpnaboaaC
namespace Go.Proofs.Ytggfmihmpnaboaa.M
open Go.RowKit Go.Proofs.YtggfmihmpnaboaaW.PrintWords Go.Proofs.YtggfmihmpnaboaaW.PrintLast Go.Proofs.YtggfmihmpnaboaaW.PrintMore Go.Proofs.Ytggfmihmpnaboaa.Rw Go.Proofs.Ytggfmihmpnaboaa.Fl
set_option linter.unusedVariables false
set_option linter.unusedSimpArgs false
theorem absC {x r : Nat} (hx : x < 18446744073709551616) (h : x % 2 ^ 63 = r) (w : World) : Calls Try.prog 25 #[.float .f64 x] w fun o w' => o = .returned (.float .f64 r) ∧ w' = w := by
  have h29 := @run_callFunc_extern Try.prog 29 _ Extern.MathFloatBits.float64bits Try.func29 (by kernel_rfl) (by kernel_rfl) (by kernel_rfl) (by kernel_rfl)
  have h23 := @run_callFunc_extern Try.prog 23 _ Extern.MathFloatBits.float64frombits Try.func23 (by kernel_rfl) (by kernel_rfl) (by kernel_rfl) (by kernel_rfl)
  have r29 : ∀ w, (Extern.MathFloatBits.float64bits #[.float .f64 x]).run Try.prog w = .ok (.int .u64 (x : Int)) w := fun w => rfl
  have r23 : ∀ w, (Extern.MathFloatBits.float64frombits #[.int .u64 (r : Int)]).run Try.prog w = .ok (.float .f64 r) w := fun w => rfl
  have hm : bits .andNot .u64 (x : Int) 9223372036854775808 = (r : Int) := by
    rw [← h, ← mask_abs]; exact u64_andNot_nat x 9223372036854775808 hx (by decide)
  clear h hx
  go_enter Try.func25, Try.ntmps25
  go_wp2
  go_ret
  exact ⟨rfl, rfl⟩
theorem fd_abs {v e : Int} (h53 : v.natAbs < 2 ^ 53) (h1 : -1022 ≤ e) (h2 : e ≤ 900) : fd v e < 18446744073709551616 ∧ fd v e % 2 ^ 63 = fd v.natAbs e := by
  have hr := rung_lt h53 h1 h2
  have hw := fd_word h53 h1 h2
  have h3 : ((v.natAbs : Int)).natAbs = v.natAbs := Int.natAbs_natCast _
  have hw2 := fd_word (v := (v.natAbs : Int)) (e := e) (by rw [h3]; exact h53) h1 h2
  rw [decide_eq_false (show ¬ (v.natAbs : Int) < 0 by omega), word_pos] at hw2
  have hrr : rung (v.natAbs : Int) e = rung v e := by
    unfold rung
    rw [h3]
    by_cases h : v = 0
    · subst h; rfl
    · rw [if_neg h, if_neg (by omega)]
  rw [hrr] at hw2
  rw [hw, hw2]
  generalize rung v e = r at *
  cases decide (v < 0)
  · rw [word_pos]; exact ⟨by omega, Nat.mod_eq_of_lt (by omega)⟩
  · rw [word_neg', Nat.add_mod_left]; exact ⟨by omega, Nat.mod_eq_of_lt (by omega)⟩
theorem is_max : Is 9218868437227405311 9007199254740991 971 := ⟨9007199254740991, 971, by decide +kernel, by decide, by decide⟩
theorem is_least : Is 4503599627370496 1 (-1022) := ⟨4503599627370496, -1074, by decide +kernel, by decide, by decide +kernel⟩
section
variable {v e : Int}
theorem isNaNC (h53 : v.natAbs < 2 ^ 53) (h1 : -1000 ≤ e) (h2 : e ≤ 900) (w : World) : Calls Try.prog 32 #[.float .f64 (fd v e)] w fun o w' => o = .returned (.bool false) ∧ w' = w := by
  have hi := is_fd v e h53 (by omega) h2
  have ho : FloatKind.f64.format.order (fd v e) (fd v e) = some .eq := by
    have := order_is hi hi
    rw [Int.compare_eq_eq.2 rfl] at this; exact this
  generalize fd v e = x at *
  clear hi h53
  go_enter Try.func32, Try.ntmps32
  go_wp2
  go_ret
  exact ⟨rfl, rfl⟩
theorem isInfC (h53 : v.natAbs < 2 ^ 53) (h1 : -1000 ≤ e) (h2 : e ≤ 900) (w : World) : Calls Try.prog 33 #[.float .f64 (fd v e), .int .i64 0] w fun o w' => o = .returned (.bool false) ∧ w' = w := by
  have hA := Aside0.mk (fun w => absC (fd_abs h53 (by omega) h2).1 (fd_abs h53 (by omega) h2).2 w)
  have hi := is_fd (v.natAbs : Int) e (by rw [Int.natAbs_natCast]; exact h53) (by omega) h2
  have ho : FloatKind.f64.format.order (fd (v.natAbs : Int) e) 9218868437227405311 = some .lt := by
    have := order_gen hi is_max (by omega)
    have hp : 1 ≤ (2 : Int) ^ (971 - e).toNat := by have := pow_pos' (971 - e).toNat; omega
    have hle : (9007199254740991 : Int) * 1 ≤ 9007199254740991 * (2 : Int) ^ (971 - e).toNat := Int.mul_le_mul_of_nonneg_left hp (by decide)
    have h3 : ∃ j, (971 - e).toNat = j + 1 := ⟨(971 - e).toNat - 1, by omega⟩
    obtain ⟨j, hj⟩ := h3
    have hle2 : (9007199254740991 : Int) * 2 ≤ 9007199254740991 * (2 : Int) ^ (971 - e).toNat := by
      rw [hj, Int.pow_succ, Int.mul_comm ((2 : Int) ^ j) 2, ← Int.mul_assoc]
      have := pow_pos' j
      have h5 : (9007199254740991 : Int) * 2 * 1 ≤ 9007199254740991 * 2 * (2 : Int) ^ j := Int.mul_le_mul_of_nonneg_left (by omega) (by decide)
      omega
    rw [Int.compare_eq_lt.2 (by omega)] at this
    exact this
  generalize fd (v.natAbs : Int) e = y at *
  generalize fd v e = x at *
  clear hi h53
  go_enter Try.func33, Try.ntmps33
  go_wp2_with (first | (go_at_call 25; (refine (hA.out _).mono ?_); rintro o w2 ⟨rfl, rfl⟩))
  go_ret
  exact ⟨rfl, rfl⟩
end
section
variable {U : Nat} {e : Int}
theorem normC (h0 : U ≠ 0) (h53 : U < 2 ^ 53) (h1 : -1000 ≤ e) (h2 : e ≤ 900) (w : World) : Calls Try.prog 45 #[.float .f64 (fd U e)] w fun o w' => o = .returned (.tuple #[.float .f64 (fd U e), .int .i64 0]) ∧ w' = w := by
  have h53' : ((U : Int)).natAbs < 2 ^ 53 := by simpa using h53
  have ha := fd_abs h53' (by omega) h2
  rw [Int.natAbs_natCast] at ha
  have hA := Aside0.mk (fun w => absC ha.1 ha.2 w)
  have hi := is_fd (U : Int) e h53' (by omega) h2
  have ho : FloatKind.f64.format.order (fd (U : Int) e) 4503599627370496 = some .gt := by
    have := order_gen' hi is_least (by omega)
    have h3 : ∃ j, (e - -1022).toNat = j + 1 := ⟨(e - -1022).toNat - 1, by omega⟩
    obtain ⟨j, hj⟩ := h3
    have hp := pow_pos' j
    have hle : (1 : Int) * 2 ≤ (U : Int) * (2 : Int) ^ (e - -1022).toNat := by
      rw [hj, Int.pow_succ]
      exact Int.mul_le_mul (by omega) (by omega) (by decide) (by omega)
    rw [Int.compare_eq_gt.2 (by omega)] at this
    exact this
  generalize fd (U : Int) e = x at *
  clear hi h53 h53' ha
  go_enter Try.func45, Try.ntmps45
  go_wp2_with (first | (go_at_call 25; (refine (hA.out _).mono ?_); rintro o w2 ⟨rfl, rfl⟩))
  go_ret2
  exact ⟨rfl, rfl⟩
theorem order_zero {v : Int} (h53 : v.natAbs < 2 ^ 53) (h1 : -1000 ≤ e) (h2 : e ≤ 900) : Ieee.double.order (fd v e) 0 = some (compare v 0) := by
  have h := order_is (is_fd v e h53 (by omega) h2) (is_fd 0 e (by decide) (by omega) h2)
  rw [fd_zero] at h; exact h
theorem frexp0C (h0 : U ≠ 0) (h53 : U < 2 ^ 53) (h1 : -100 ≤ e) (h2 : e ≤ 100) (w : World) : Calls Try.prog 40 #[.float .f64 (fd U e)] w fun o w' => o = .returned (.tuple #[.float .f64 (fd U (-(U.log2 : Int) - 1)), .int .i64 (e + U.log2 + 1)]) ∧ w' = w := by
  have h53' : ((U : Int)).natAbs < 2 ^ 53 := by simpa using h53
  have hN := Aside0.mk (fun w => normC (e := e) h0 h53 (by omega) (by omega) w)
  have hI := Aside0.mk (fun w => isInfC (v := (U : Int)) (e := e) h53' (by omega) (by omega) w)
  have hQ := Aside0.mk (fun w => isNaNC (v := (U : Int)) (e := e) h53' (by omega) (by omega) w)
  have hz : FloatKind.f64.format.order (fd (U : Int) e) 0 = some .gt := by
    have := order_zero (e := e) h53' (by omega) (by omega)
    rw [Int.compare_eq_gt.2 (by omega)] at this; exact this
  obtain ⟨hw, hF, hl⟩ := fd_wd (e := e) h0 h53 (by omega) (by omega)
  have hy := wd_fd h0 h53
  obtain ⟨T, hT⟩ : ∃ T, (e + U.log2 + 1023).toNat = T := ⟨_, rfl⟩
  obtain ⟨F, hF0⟩ : ∃ F, U * 2 ^ (52 - U.log2) - 2 ^ 52 = F := ⟨_, rfl⟩
  rw [hT, hF0] at hw
  rw [hF0] at hy hF
  have hTi : e + U.log2 + 1 = (T : Int) - 1023 + 1 := by omega
  rw [hTi, ← hy]
  have hT1 : T < 2048 := by omega
  clear hT hF0 hy hl
  have h29 := @run_callFunc_extern Try.prog 29 _ Extern.MathFloatBits.float64bits Try.func29 (by kernel_rfl) (by kernel_rfl) (by kernel_rfl) (by kernel_rfl)
  have h23 := @run_callFunc_extern Try.prog 23 _ Extern.MathFloatBits.float64frombits Try.func23 (by kernel_rfl) (by kernel_rfl) (by kernel_rfl) (by kernel_rfl)
  have r29 : ∀ w, (Extern.MathFloatBits.float64bits #[.float .f64 (fd (U : Int) e)]).run Try.prog w = .ok (.int .u64 ((fd (U : Int) e : Nat) : Int)) w := fun w => rfl
  have r23 : ∀ w, (Extern.MathFloatBits.float64frombits #[.int .u64 (wd 1022 F : Int)]).run Try.prog w = .ok (.float .f64 (wd 1022 F)) w := fun w => rfl
  have hx64 : wd T F < 18446744073709551616 := by unfold wd; omega
  have hdiv : ((fd (U : Int) e : Nat) : Int) / 4503599627370496 = (T : Int) := by rw [hw]; unfold wd; omega
  have hand : bits .and .u64 (T : Int) 2047 = (T : Int) := by
    rw [show (2047 : Int) = ((2047 : Nat) : Int) from rfl, u64_and_nat T 2047 (by omega) (by decide), mask_exp T hT1]
  have hnot : bits .andNot .u64 ((fd (U : Int) e : Nat) : Int) 9218868437227405312 = (F : Int) := by
    rw [hw, show (9218868437227405312 : Int) = ((9218868437227405312 : Nat) : Int) from rfl, u64_andNot_nat _ _ hx64 (by decide), mask_frac hT1 hF]
  have hor : bits .or .u64 (F : Int) 4602678819172646912 = (wd 1022 F : Int) := by
    rw [show (4602678819172646912 : Int) = ((1022 * 2 ^ 52 : Nat) : Int) from by decide, u64_or_nat F _ (by omega) (by decide), or_exp hF]
  generalize wd 1022 F = y at *
  generalize fd (U : Int) e = x at *
  clear hw hx64 hF hTi h53 h53'
  go_enter Try.func40, Try.ntmps40
  go_wp2_with (first
    | (go_at_call 33; (refine (hI.out _).mono ?_); rintro o w2 ⟨rfl, rfl⟩)
    | (go_at_call 32; (refine (hQ.out _).mono ?_); rintro o w2 ⟨rfl, rfl⟩)
    | (go_at_call 45; (refine (hN.out _).mono ?_); rintro o w2 ⟨rfl, rfl⟩))
  go_ret2
  exact ⟨rfl, rfl⟩
theorem frexpC (h0 : U ≠ 0) (h53 : U < 2 ^ 53) (h1 : -100 ≤ e) (h2 : e ≤ 100) (w : World) : Calls Try.prog 35 #[.float .f64 (fd U e)] w fun o w' => o = .returned (.tuple #[.float .f64 (fd U (-(U.log2 : Int) - 1)), .int .i64 (e + U.log2 + 1)]) ∧ w' = w := by
  have hF := Aside0.mk (fun w => frexp0C (e := e) h0 h53 h1 h2 w)
  generalize fd (U : Int) e = x at *
  generalize fd (U : Int) (-(U.log2 : Int) - 1) = y at *
  generalize e + (U.log2 : Int) + 1 = k at *
  clear h0 h53
  go_enter Try.func35, Try.ntmps35
  go_wp2_with (first
    | (go_at_call 40; (refine (hF.out _).mono ?_); rintro o w2 ⟨rfl, rfl⟩))
  go_ret2
  exact ⟨rfl, rfl⟩
end
/-- two, so many times doubled -/
def dbl (k : Nat) : Nat := (1024 + k) * 4503599627370496
theorem ldexp0C (k : Nat) (hk : k = 0 ∨ k = 1 ∨ k = 2 ∨ k = 3) (w : World) : Calls Try.prog 42 #[.float .f64 4611686018427387904, .int .i64 (k : Int)] w fun o w' => o = .returned (.float .f64 (dbl k)) ∧ w' = w := by
  have h2 : (fd ((2 : Nat) : Int) 0) = 4611686018427387904 := by rw [fd_eq]; decide +kernel
  have hN := fun w => normC (U := 2) (e := 0) (by decide) (by decide) (by decide) (by decide) w
  have hI := fun w => isInfC (v := ((2 : Nat) : Int)) (e := 0) (by decide) (by decide) (by decide) w
  have hQ := fun w => isNaNC (v := ((2 : Nat) : Int)) (e := 0) (by decide) (by decide) (by decide) w
  rw [h2] at hN hI hQ
  have HN := Aside0.mk hN
  have HI := Aside0.mk hI
  have HQ := Aside0.mk hQ
  clear hN hI hQ h2
  have hz : FloatKind.f64.format.order 4611686018427387904 0 = some .gt := by decide +kernel
  have h29 := @run_callFunc_extern Try.prog 29 _ Extern.MathFloatBits.float64bits Try.func29 (by kernel_rfl) (by kernel_rfl) (by kernel_rfl) (by kernel_rfl)
  have h23 := @run_callFunc_extern Try.prog 23 _ Extern.MathFloatBits.float64frombits Try.func23 (by kernel_rfl) (by kernel_rfl) (by kernel_rfl) (by kernel_rfl)
  have r29 : ∀ w, (Extern.MathFloatBits.float64bits #[.float .f64 4611686018427387904]).run Try.prog w = .ok (.int .u64 4611686018427387904) w := fun w => rfl
  have hand : bits .and .i64 1024 2047 = 1024 := by decide
  have hnot : bits .andNot .u64 4611686018427387904 9218868437227405312 = 0 := by decide
  rcases hk with rfl | rfl | rfl | rfl
  · have r23 : ∀ w, (Extern.MathFloatBits.float64frombits #[.int .u64 4611686018427387904]).run Try.prog w = .ok (.float .f64 4611686018427387904) w := fun w => rfl
    have hor : bits .or .u64 0 4611686018427387904 = 4611686018427387904 := by decide
    have km : ∀ t w, (binOp .mul t (.float .f64 4607182418800017408) (.float .f64 4611686018427387904)).run Try.prog w = .ok (.float .f64 4611686018427387904) w := fun t w => run_float_arith w .mul t .f64 _ _ _ (by decide +kernel)
    go_enter Try.func42, Try.ntmps42
    go_wp2_with (first
      | (go_at_call 33; (refine (HI.out _).mono ?_); rintro o w2 ⟨rfl, rfl⟩)
      | (go_at_call 32; (refine (HQ.out _).mono ?_); rintro o w2 ⟨rfl, rfl⟩)
      | (go_at_call 45; (refine (HN.out _).mono ?_); rintro o w2 ⟨rfl, rfl⟩)
      | simp only [km])
    go_ret
    exact ⟨rfl, rfl⟩
  · have r23 : ∀ w, (Extern.MathFloatBits.float64frombits #[.int .u64 4616189618054758400]).run Try.prog w = .ok (.float .f64 4616189618054758400) w := fun w => rfl
    have hor : bits .or .u64 0 4616189618054758400 = 4616189618054758400 := by decide
    have km : ∀ t w, (binOp .mul t (.float .f64 4607182418800017408) (.float .f64 4616189618054758400)).run Try.prog w = .ok (.float .f64 4616189618054758400) w := fun t w => run_float_arith w .mul t .f64 _ _ _ (by decide +kernel)
    go_enter Try.func42, Try.ntmps42
    go_wp2_with (first
      | (go_at_call 33; (refine (HI.out _).mono ?_); rintro o w2 ⟨rfl, rfl⟩)
      | (go_at_call 32; (refine (HQ.out _).mono ?_); rintro o w2 ⟨rfl, rfl⟩)
      | (go_at_call 45; (refine (HN.out _).mono ?_); rintro o w2 ⟨rfl, rfl⟩)
      | simp only [km])
    go_ret
    exact ⟨rfl, rfl⟩
  · have r23 : ∀ w, (Extern.MathFloatBits.float64frombits #[.int .u64 4620693217682128896]).run Try.prog w = .ok (.float .f64 4620693217682128896) w := fun w => rfl
    have hor : bits .or .u64 0 4620693217682128896 = 4620693217682128896 := by decide
    have km : ∀ t w, (binOp .mul t (.float .f64 4607182418800017408) (.float .f64 4620693217682128896)).run Try.prog w = .ok (.float .f64 4620693217682128896) w := fun t w => run_float_arith w .mul t .f64 _ _ _ (by decide +kernel)
    go_enter Try.func42, Try.ntmps42
    go_wp2_with (first
      | (go_at_call 33; (refine (HI.out _).mono ?_); rintro o w2 ⟨rfl, rfl⟩)
      | (go_at_call 32; (refine (HQ.out _).mono ?_); rintro o w2 ⟨rfl, rfl⟩)
      | (go_at_call 45; (refine (HN.out _).mono ?_); rintro o w2 ⟨rfl, rfl⟩)
      | simp only [km])
    go_ret
    exact ⟨rfl, rfl⟩
  · have r23 : ∀ w, (Extern.MathFloatBits.float64frombits #[.int .u64 4625196817309499392]).run Try.prog w = .ok (.float .f64 4625196817309499392) w := fun w => rfl
    have hor : bits .or .u64 0 4625196817309499392 = 4625196817309499392 := by decide
    have km : ∀ t w, (binOp .mul t (.float .f64 4607182418800017408) (.float .f64 4625196817309499392)).run Try.prog w = .ok (.float .f64 4625196817309499392) w := fun t w => run_float_arith w .mul t .f64 _ _ _ (by decide +kernel)
    go_enter Try.func42, Try.ntmps42
    go_wp2_with (first
      | (go_at_call 33; (refine (HI.out _).mono ?_); rintro o w2 ⟨rfl, rfl⟩)
      | (go_at_call 32; (refine (HQ.out _).mono ?_); rintro o w2 ⟨rfl, rfl⟩)
      | (go_at_call 45; (refine (HN.out _).mono ?_); rintro o w2 ⟨rfl, rfl⟩)
      | simp only [km])
    go_ret
    exact ⟨rfl, rfl⟩
theorem ldexpC (k : Nat) (hk : k = 0 ∨ k = 1 ∨ k = 2 ∨ k = 3) (w : World) : Calls Try.prog 36 #[.float .f64 4611686018427387904, .int .i64 (k : Int)] w fun o w' => o = .returned (.float .f64 (dbl k)) ∧ w' = w := by
  have HL := Aside0.mk (ldexp0C k hk)
  generalize dbl k = y at *
  clear hk
  go_enter Try.func36, Try.ntmps36
  go_wp2_with (first
    | (go_at_call 42; (refine (HL.out _).mono ?_); rintro o w2 ⟨rfl, rfl⟩))
  go_ret
  exact ⟨rfl, rfl⟩
end Go.Proofs.Ytggfmihmpnaboaa.M
