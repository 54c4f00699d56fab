/- What stands awake; comparisons; sums of points; by hand. -/
import Derived.Test.YtggfmihmpnaboaaE
namespace Go.Proofs.Ytggfmihmpnaboaa.M
open Go.RowKit Go.Proofs.YtggfmihmpnaboaaW.PrintWords Go.Proofs.YtggfmihmpnaboaaW.PrintLast Go.Proofs.YtggfmihmpnaboaaW.PrintMore Go.Proofs.Ytggfmihmpnaboaa.Rw Go.Proofs.Ytggfmihmpnaboaa.Fl
set_option linter.unusedVariables false
set_option linter.unusedSimpArgs false
abbrev ordW (x y : Nat) : Option Ordering := FloatKind.f64.format.order x y
theorem ord_int {a b : Int} (ha : a.natAbs < 2 ^ 53) (hb : b.natAbs < 2 ^ 53) : FloatKind.f64.format.order (fd a 0) (fd b 0) = some (compare a b) :=
  order_is (is_fd a 0 ha (by decide) (by decide)) (is_fd b 0 hb (by decide) (by decide))
section
variable {x y : Nat} {a b : Int}
theorem ord_lt (h : FloatKind.f64.format.order x y = some (compare a b)) (hab : a < b) : FloatKind.f64.format.order x y = some .lt := h.trans (congrArg some (Int.compare_eq_lt.2 hab))
theorem ord_gt (h : FloatKind.f64.format.order x y = some (compare a b)) (hab : b < a) : FloatKind.f64.format.order x y = some .gt := h.trans (congrArg some (Int.compare_eq_gt.2 hab))
theorem ord_eq (h : FloatKind.f64.format.order x y = some (compare a b)) (hab : a = b) : FloatKind.f64.format.order x y = some .eq := h.trans (congrArg some (Int.compare_eq_eq.2 hab))
theorem ord_ge (h : FloatKind.f64.format.order x y = some (compare a b)) (hab : b ≤ a) : FloatKind.f64.format.order x y = some .gt ∨ FloatKind.f64.format.order x y = some .eq := by
  rcases Int.lt_or_le b a with c | c
  · exact .inl (ord_gt h c)
  · exact .inr (ord_eq h (by omega))
theorem ord_le (h : FloatKind.f64.format.order x y = some (compare a b)) (hab : a ≤ b) : FloatKind.f64.format.order x y = some .lt ∨ FloatKind.f64.format.order x y = some .eq := by
  rcases Int.lt_or_le a b with c | c
  · exact .inl (ord_lt h c)
  · exact .inr (ord_eq h (by omega))
theorem ord_eqb (h : FloatKind.f64.format.order x y = some (compare a b)) : (FloatKind.f64.format.order x y == some Ordering.eq) = decide (a = b) := by
  rw [h]
  by_cases c : a = b
  · rw [decide_eq_true c, Int.compare_eq_eq.2 c]; rfl
  · rw [decide_eq_false c]
    cases h2 : compare a b with
    | eq => exact absurd (Int.compare_eq_eq.1 h2) c
    | lt => rfl
    | gt => rfl
theorem ord_leb (h : FloatKind.f64.format.order x y = some (compare a b)) : (FloatKind.f64.format.order x y == some Ordering.lt || FloatKind.f64.format.order x y == some Ordering.eq) = decide (a ≤ b) := by
  rw [h]
  cases h2 : compare a b with
  | eq => rw [decide_eq_true (by have := Int.compare_eq_eq.1 h2; omega)]; rfl
  | lt => rw [decide_eq_true (by have := Int.compare_eq_lt.1 h2; omega)]; rfl
  | gt => rw [decide_eq_false (by have := Int.compare_eq_gt.1 h2; omega)]; rfl
end
/-- sums and differences of points of whole numbers -/
theorem csub {P : Program} {a b c d : Int} (ha : a.natAbs < 2 ^ 50) (hb : b.natAbs < 2 ^ 50) (hc : c.natAbs < 2 ^ 50) (hd : d.natAbs < 2 ^ 50) (t : TypeId) (w : World) :
    (binOp .sub t (.complex .f64 (fd a 0) (fd b 0)) (.complex .f64 (fd c 0) (fd d 0))).run P w = .ok (.complex .f64 (fd (a - c) 0) (fd (b - d) 0)) w := by
  refine run_complex_sum w .sub (.inr rfl) t .f64 _ _ _ _ _ _ ?_
  unfold cSumBits floatBits
  have h1 := sub_is (is_fd a 0 (by omega) (by decide) (by decide)) (is_fd c 0 (by omega) (by decide) (by decide)) (by omega) (by decide) (by decide)
  have h2 := sub_is (is_fd b 0 (by omega) (by decide) (by decide)) (is_fd d 0 (by omega) (by decide) (by decide)) (by omega) (by decide) (by decide)
  show (Ieee.double.sub (fd a 0) (fd c 0)).bind _ = _
  rw [h1]
  show (Ieee.double.sub (fd b 0) (fd d 0)).bind _ = _
  rw [h2]; rfl
theorem cadd {P : Program} {a b c d : Int} (ha : a.natAbs < 2 ^ 50) (hb : b.natAbs < 2 ^ 50) (hc : c.natAbs < 2 ^ 50) (hd : d.natAbs < 2 ^ 50) (t : TypeId) (w : World) :
    (binOp .add t (.complex .f64 (fd a 0) (fd b 0)) (.complex .f64 (fd c 0) (fd d 0))).run P w = .ok (.complex .f64 (fd (a + c) 0) (fd (b + d) 0)) w := by
  refine run_complex_sum w .add (.inl rfl) t .f64 _ _ _ _ _ _ ?_
  unfold cSumBits floatBits
  have h1 := add_is (is_fd a 0 (by omega) (by decide) (by decide)) (is_fd c 0 (by omega) (by decide) (by decide)) (by omega) (by decide) (by decide)
  have h2 := add_is (is_fd b 0 (by omega) (by decide) (by decide)) (is_fd d 0 (by omega) (by decide) (by decide)) (by omega) (by decide) (by decide)
  show (Ieee.double.add (fd a 0) (fd c 0)).bind _ = _
  rw [h1]
  show (Ieee.double.add (fd b 0) (fd d 0)).bind _ = _
  rw [h2]; rfl
/-- a point of halves and smaller parts -/
theorem lev_dy {v : Int} {s : Nat} (hs : s ≤ 60) (h : v.natAbs < 2 ^ 52) (hp : 2 ^ (s + 5) ≤ 2 ^ 52) : Lev (fd v (-(s : Int))) ((2 ^ (s + 5) + v) / 2 ^ (s + 1)) := by
  have h53 : v.natAbs < 2 ^ 53 := by omega
  have hpi : ((2 ^ (s + 5) : Nat) : Int) = (2 : Int) ^ (s + 5) := Int.natCast_pow 2 (s + 5)
  have h16 : fd 16 0 = fd (2 ^ (s + 5)) (-(s : Int) - 1) := by
    have h2 : (2 : Int) ^ (s + 5) = 16 * 2 ^ (s + 1) := by rw [show s + 5 = 4 + (s + 1) by omega, Int.pow_add]; rfl
    have := fd_finer 16 (s + 1) 0 (by decide) (by decide) (by decide)
    rw [h2, ← this]; congr 1; omega
  have hpp := pow_pos' (s + 5)
  have hq : (0 : Int) < 2 ^ (s + 1) := pow_pos' (s + 1)
  refine ⟨_, _, 2 ^ (s + 5) + v, -(s : Int) - 1, half_fd h53 (by omega) (by omega), ?_, is_fd (2 ^ (s + 5) + v) (-(s : Int) - 1) (by omega) (by omega) (by omega), by omega, ?_, ?_⟩
  · rw [h16]; exact add_is (is_fd (2 ^ (s + 5)) (-(s : Int) - 1) (by omega) (by omega) (by omega)) (is_fd v (-(s : Int) - 1) h53 (by omega) (by omega)) (by omega) (by omega) (by omega)
  · rw [show (-(-(s : Int) - 1)).toNat = s + 1 by omega]
  · have h1 : ((2 ^ (s + 5) + v) / 2 ^ (s + 1)).natAbs ≤ (2 ^ (s + 5) + v).natAbs := by
      have h3 := floor_mag (2 ^ (s + 5) + v) (2 ^ (s + 1)) (Nat.two_pow_pos _)
      rw [show ((2 ^ (s + 1) : Nat) : Int) = (2 : Int) ^ (s + 1) from Int.natCast_pow 2 _] at h3
      rw [← h3.1]
      generalize (2 ^ (s + 5) + v).natAbs = A
      have hqn : 2 ≤ 2 ^ (s + 1) := by rw [Nat.pow_succ]; have := Nat.two_pow_pos s; omega
      have hm := Nat.div_add_mod A (2 ^ (s + 1))
      have hle : 2 * (A / 2 ^ (s + 1)) ≤ 2 ^ (s + 1) * (A / 2 ^ (s + 1)) := Nat.mul_le_mul_right _ hqn
      by_cases hr : A % 2 ^ (s + 1) = 0
      · rw [hr]; simp; omega
      · have : (decide (2 ^ (s + 5) + v < 0) && A % 2 ^ (s + 1) != 0).toNat ≤ 1 := by cases (decide (2 ^ (s + 5) + v < 0) && A % 2 ^ (s + 1) != 0) <;> simp
        omega
    omega
/-- is a point of whole numbers a symbol's? -/
theorem gridI {V W : Int} (hV : V.natAbs < 2 ^ 50) (hW : W.natAbs < 2 ^ 50) (b : Bool) (hb : (oddB V 0 && oddB W 0) = b) (w : World) : Calls Try.prog 14 #[.complex .f64 (fd V 0) (fd W 0)] w fun o w' => o = .returned (.bool b) ∧ w' = w := by
  have h := gridC (V := V) (W := W) (s := 0) (t := 0) (by decide) (by omega) (by decide) (by omega) w
  rw [show -((0 : Nat) : Int) = 0 from rfl, hb] at h
  exact h
theorem sliceI {V W : Int} (hV : V.natAbs < 2 ^ 50) (hW : W.natAbs < 2 ^ 50) (w : World) : Calls Try.prog 12 #[.complex .f64 (fd V 0) (fd W 0)] w fun o w' => o = .returned (.int .u16 (lv ((V + 32) / 2) * 32 + lv ((W + 32) / 2))) ∧ w' = w := sliceC (lev_int hV) (lev_int hW) w
theorem awakeC (w : World) : Calls Try.prog 10 #[] w fun o w' => o = .returned (.bool true) ∧ w' = w := by
  have h0 := ofC 0 (by decide) (by decide)
  have h1 := ofC 1023 (by decide) (by decide)
  have e0 : ptR 0 = 13852790978814935040 ∧ ptI 0 = 13852790978814935040 := ⟨lit_m31.symm, lit_m31.symm⟩
  have e1 : ptR 1023 = 4629418941960159232 ∧ ptI 1023 = 4629418941960159232 := ⟨lit31.symm, lit31.symm⟩
  rw [e0.1, e0.2] at h0
  rw [e1.1, e1.2] at h1
  have h2 := sliceC (x := 4602678819172646912) (y := 4607182418800017408) (n := 16) (m := 16) (by have h := lev_dy (v := 1) (s := 1) (by decide) (by decide) (by decide); rw [show -((1 : Nat) : Int) = -1 from rfl, ← lit_half] at h; exact h) (by have h := lev_int (v := 1) (by decide); rw [← lit1] at h; exact h)
  have h3 := gridI (V := 1) (W := -3) (by decide) (by decide) true (by decide)
  have h4 := gridI (V := 0) (W := 0) (by decide) (by decide) false (by decide)
  rw [← lit1, show fd (-3) 0 = 13837309855095848960 from by rw [fd_eq]; decide +kernel] at h3
  rw [fd_zero] at h4
  have H0 := Aside0.mk h0
  have H1 := Aside0.mk h1
  have H2 := Aside0.mk h2
  have H3 := Aside0.mk h3
  have H4 := Aside0.mk h4
  clear h0 h1 h2 h3 h4 e0 e1
  have o1 : FloatKind.f64.format.order 13852790978814935040 13852790978814935040 = some .eq := by decide +kernel
  have o2 : FloatKind.f64.format.order 4629418941960159232 4629418941960159232 = some .eq := by decide +kernel
  have hl : lv 16 = 16 := by decide
  go_enter Try.func10, Try.ntmps10
  go_wp2_with (first
    | (go_at_call 11; (first | (refine (H0.out _).mono ?_; rintro o w2 ⟨rfl, hw⟩; obtain rfl := hw.symm; clear H0) | (refine (H1.out _).mono ?_; rintro o w2 ⟨rfl, hw⟩; obtain rfl := hw.symm)))
    | (go_at_call 12; (refine (H2.out _).mono ?_); rintro o w2 ⟨rfl, hw⟩; obtain rfl := hw.symm)
    | (go_at_call 14; (first | (refine (H3.out _).mono ?_; rintro o w2 ⟨rfl, hw⟩; obtain rfl := hw.symm; clear H3) | (refine (H4.out _).mono ?_; rintro o w2 ⟨rfl, hw⟩; obtain rfl := hw.symm))))
  go_ret
  exact ⟨rfl, rfl⟩
end Go.Proofs.Ytggfmihmpnaboaa.M
