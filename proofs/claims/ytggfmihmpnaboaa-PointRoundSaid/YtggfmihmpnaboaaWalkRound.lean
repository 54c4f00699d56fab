/- The walk of PointRound: points moved by whole steps of two along one part are the symbols so many further on, up to the border. -/
import Derived.Test.YtggfmihmpnaboaaG
namespace Go.Proofs.Ytggfmihmpnaboaa.M
open Go.RowKit Go.Proofs.YtggfmihmpnaboaaW.PrintWords Go.Proofs.YtggfmihmpnaboaaW.PrintLast Go.Proofs.YtggfmihmpnaboaaW.PrintMore Go.Proofs.Ytggfmihmpnaboaa.Rw Go.Proofs.Ytggfmihmpnaboaa.Fl
set_option linter.unusedVariables false
set_option linter.unusedSimpArgs false
theorem or_five64 {a b : Int} (ha0 : 0 ≤ a) (ha : a ≤ 31) (hb0 : 0 ≤ b) (hb : b ≤ 31) : bits .or .i64 (a * 32) b = a * 32 + b := by
  obtain ⟨A, rfl⟩ := Int.eq_ofNat_of_zero_le ha0
  obtain ⟨B, rfl⟩ := Int.eq_ofNat_of_zero_le hb0
  have hx : A * 32 ||| B < 2 ^ 63 := Nat.or_lt_two_pow (by omega) (by omega)
  have ho := or_low (a := A) (b := B) (by omega) (by omega)
  have e1 : (BitVec.ofInt 64 ((A : Int) * 32)) = BitVec.ofInt 64 ((A * 32 : Nat) : Int) := by rw [Int.natCast_mul]; rfl
  show IntKind.i64.wrap ((BitVec.ofInt 64 ((A : Int) * 32) ||| BitVec.ofInt 64 (B : Int)).toNat : Int) = _
  rw [e1, BitVec.toNat_or, ofInt_u64 _ (by omega), ofInt_u64 _ (by omega), ho, IntKind.wrap_i64]
  omega
theorem wrap16 {a b : Int} (ha0 : 0 ≤ a) (ha : a ≤ 31) (hb0 : 0 ≤ b) (hb : b ≤ 31) : IntKind.u16.wrap (a * 32 + b) = a * 32 + b := by
  have : IntKind.u16.wrap (a * 32 + b) = (a * 32 + b) % 65536 := by simp [IntKind.wrap, IntKind.bits, IntKind.signed]
  rw [this]; omega
theorem lv_lo {n : Int} (h : n < 0) : lv n = 0 := by unfold lv; rw [if_neg (by omega), if_neg (by omega)]
theorem lv_mid {n : Int} (h : 0 ≤ n) (h2 : n ≤ 31) : lv n = n := by unfold lv; rw [if_neg (by omega)]; split <;> omega
theorem lv_hi {n : Int} (h : 31 < n) : lv n = 31 := by unfold lv; rw [if_pos h]
section
attribute [local go_sem] max2_int min2_int max_two min_two
set_option maxHeartbeats 3200000 in
theorem round_walk (a0 : Int) (a1 : Int) (a2 : Bool) (w : World) (w0 : (Lit.int .u16 a0).wf = true) (w1 : (Lit.int .i8 a1).wf = true) :
    Calls Try.prog 4 #[.int .u16 a0, .int .i8 a1, .bool a2] w fun e w' => e = .returned (.bool true) ∧ Below w.heap.size w w' := by
  obtain ⟨b00, b01⟩ := bounds_u16 w0
  obtain ⟨b10, b11⟩ := bounds_i8 w1
  have hm0 := and1023 b00 b01
  obtain ⟨h, l, hA, p1, p2, p3, p4⟩ := fives a0
  obtain ⟨A, hA'⟩ : ∃ A, a0 % 1024 = A := ⟨_, rfl⟩
  rw [hA'] at hA hm0
  have hA5 : A / 32 = h := by omega
  have hAl : bits .and .u16 A 31 = l := by rw [and31 (by omega) (by omega)]; omega
  have HA := Aside0.mk (ofS hA p1 p2 p3 p4)
  have f1 := fd_int (2 * a1)
  have z0 : fd 0 0 = 0 := fd_zero 0
  clear hA hA' w0 w1 b00 b01
  cases a2
  · have ka := fun (t : TypeId) (w : World) => cadd (P := Try.prog) (a := 2 * h - 31) (b := 2 * l - 31) (c := 0) (d := 2 * a1) (by omega) (by omega) (by omega) (by omega) t w
    rw [z0] at ka
    have hs := sliceI (V := 2 * h - 31 + 0) (W := 2 * l - 31 + 2 * a1) (by omega) (by omega)
    have e1 : lv ((2 * h - 31 + 0 + 32) / 2) = h := by rw [show (2 * h - 31 + 0 + 32) / 2 = h by omega]; exact lv_mid (by omega) (by omega)
    have e2 : lv ((2 * l - 31 + 2 * a1 + 32) / 2) = lv (l + a1) := by congr 1; omega
    rw [e1, e2] at hs
    clear e1 e2
    generalize fd (2 * h - 31 + 0) 0 = s0 at *
    generalize fd (2 * l - 31 + 2 * a1) 0 = s1 at *
    generalize fd (2 * h - 31) 0 = r0 at *
    generalize fd (2 * l - 31) 0 = r1 at *
    generalize fd (2 * a1) 0 = y0 at *
    rcases (by omega : l + a1 < 0 ∨ (0 ≤ l + a1 ∧ l + a1 ≤ 31) ∨ 31 < l + a1) with hc | hc | hc
    · rw [lv_lo hc] at hs
      have ho := or_five64 (a := h) (b := 0) (by omega) (by omega) (by omega) (by omega)
      have hw16 := wrap16 (a := h) (b := 0) (by omega) (by omega) (by omega) (by omega)
      have HSl := Aside0.mk hs
      clear hs
      go_enter Try.func4, Try.ntmps4
      go_wp2_with (first
        | (go_at_call 10; (refine (awakeC _).mono ?_); rintro o w2 ⟨rfl, hw⟩; obtain rfl := hw.symm)
        | (go_at_call 12; (first | (with_reducible refine (HSl.out _).mono ?_; rintro o w2 ⟨rfl, hw⟩; obtain rfl := hw.symm)))
        | (go_at_call 11; (first | (with_reducible refine (HA.out _).mono ?_; rintro o w2 ⟨rfl, hw⟩; obtain rfl := hw.symm)))
        | simp only [ka])
      all_goals (try (exfalso; omega))
      all_goals (
        go_ret
        exact ⟨rfl, Below.refl _ _⟩)
    · rw [lv_mid hc.1 hc.2] at hs
      have ho := or_five64 (a := h) (b := l + a1) (by omega) (by omega) (by omega) (by omega)
      have hw16 := wrap16 (a := h) (b := l + a1) (by omega) (by omega) (by omega) (by omega)
      have HSl := Aside0.mk hs
      clear hs
      go_enter Try.func4, Try.ntmps4
      go_wp2_with (first
        | (go_at_call 10; (refine (awakeC _).mono ?_); rintro o w2 ⟨rfl, hw⟩; obtain rfl := hw.symm)
        | (go_at_call 12; (first | (with_reducible refine (HSl.out _).mono ?_; rintro o w2 ⟨rfl, hw⟩; obtain rfl := hw.symm)))
        | (go_at_call 11; (first | (with_reducible refine (HA.out _).mono ?_; rintro o w2 ⟨rfl, hw⟩; obtain rfl := hw.symm)))
        | simp only [ka])
      all_goals (try (exfalso; omega))
      all_goals (
        go_ret
        exact ⟨rfl, Below.refl _ _⟩)
    · rw [lv_hi hc] at hs
      have ho := or_five64 (a := h) (b := 31) (by omega) (by omega) (by omega) (by omega)
      have hw16 := wrap16 (a := h) (b := 31) (by omega) (by omega) (by omega) (by omega)
      have HSl := Aside0.mk hs
      clear hs
      go_enter Try.func4, Try.ntmps4
      go_wp2_with (first
        | (go_at_call 10; (refine (awakeC _).mono ?_); rintro o w2 ⟨rfl, hw⟩; obtain rfl := hw.symm)
        | (go_at_call 12; (first | (with_reducible refine (HSl.out _).mono ?_; rintro o w2 ⟨rfl, hw⟩; obtain rfl := hw.symm)))
        | (go_at_call 11; (first | (with_reducible refine (HA.out _).mono ?_; rintro o w2 ⟨rfl, hw⟩; obtain rfl := hw.symm)))
        | simp only [ka])
      all_goals (try (exfalso; omega))
      all_goals (
        go_ret
        exact ⟨rfl, Below.refl _ _⟩)
  · have ka := fun (t : TypeId) (w : World) => cadd (P := Try.prog) (a := 2 * h - 31) (b := 2 * l - 31) (c := 2 * a1) (d := 0) (by omega) (by omega) (by omega) (by omega) t w
    rw [z0] at ka
    have hs := sliceI (V := 2 * h - 31 + 2 * a1) (W := 2 * l - 31 + 0) (by omega) (by omega)
    have e1 : lv ((2 * l - 31 + 0 + 32) / 2) = l := by rw [show (2 * l - 31 + 0 + 32) / 2 = l by omega]; exact lv_mid (by omega) (by omega)
    have e2 : lv ((2 * h - 31 + 2 * a1 + 32) / 2) = lv (h + a1) := by congr 1; omega
    rw [e1, e2] at hs
    clear e1 e2
    generalize fd (2 * h - 31 + 2 * a1) 0 = s0 at *
    generalize fd (2 * l - 31 + 0) 0 = s1 at *
    generalize fd (2 * h - 31) 0 = r0 at *
    generalize fd (2 * l - 31) 0 = r1 at *
    generalize fd (2 * a1) 0 = y0 at *
    rcases (by omega : h + a1 < 0 ∨ (0 ≤ h + a1 ∧ h + a1 ≤ 31) ∨ 31 < h + a1) with hc | hc | hc
    · rw [lv_lo hc] at hs
      have ho := or_five64 (a := 0) (b := l) (by omega) (by omega) (by omega) (by omega)
      have hw16 := wrap16 (a := 0) (b := l) (by omega) (by omega) (by omega) (by omega)
      simp only [Int.zero_mul, Int.zero_add] at ho hw16
      have HSl := Aside0.mk hs
      clear hs
      go_enter Try.func4, Try.ntmps4
      go_wp2_with (first
        | (go_at_call 10; (refine (awakeC _).mono ?_); rintro o w2 ⟨rfl, hw⟩; obtain rfl := hw.symm)
        | (go_at_call 12; (first | (with_reducible refine (HSl.out _).mono ?_; rintro o w2 ⟨rfl, hw⟩; obtain rfl := hw.symm)))
        | (go_at_call 11; (first | (with_reducible refine (HA.out _).mono ?_; rintro o w2 ⟨rfl, hw⟩; obtain rfl := hw.symm)))
        | simp only [ka])
      all_goals (try (exfalso; omega))
      all_goals (
        go_ret
        exact ⟨rfl, Below.refl _ _⟩)
    · rw [lv_mid hc.1 hc.2] at hs
      have ho := or_five64 (a := h + a1) (b := l) (by omega) (by omega) (by omega) (by omega)
      have hw16 := wrap16 (a := h + a1) (b := l) (by omega) (by omega) (by omega) (by omega)
      have HSl := Aside0.mk hs
      clear hs
      go_enter Try.func4, Try.ntmps4
      go_wp2_with (first
        | (go_at_call 10; (refine (awakeC _).mono ?_); rintro o w2 ⟨rfl, hw⟩; obtain rfl := hw.symm)
        | (go_at_call 12; (first | (with_reducible refine (HSl.out _).mono ?_; rintro o w2 ⟨rfl, hw⟩; obtain rfl := hw.symm)))
        | (go_at_call 11; (first | (with_reducible refine (HA.out _).mono ?_; rintro o w2 ⟨rfl, hw⟩; obtain rfl := hw.symm)))
        | simp only [ka])
      all_goals (try (exfalso; omega))
      all_goals (
        go_ret
        exact ⟨rfl, Below.refl _ _⟩)
    · rw [lv_hi hc] at hs
      have ho := or_five64 (a := 31) (b := l) (by omega) (by omega) (by omega) (by omega)
      have hw16 := wrap16 (a := 31) (b := l) (by omega) (by omega) (by omega) (by omega)
      simp only [Int.reduceMul] at ho hw16
      have HSl := Aside0.mk hs
      clear hs
      go_enter Try.func4, Try.ntmps4
      go_wp2_with (first
        | (go_at_call 10; (refine (awakeC _).mono ?_); rintro o w2 ⟨rfl, hw⟩; obtain rfl := hw.symm)
        | (go_at_call 12; (first | (with_reducible refine (HSl.out _).mono ?_; rintro o w2 ⟨rfl, hw⟩; obtain rfl := hw.symm)))
        | (go_at_call 11; (first | (with_reducible refine (HA.out _).mono ?_; rintro o w2 ⟨rfl, hw⟩; obtain rfl := hw.symm)))
        | simp only [ka])
      all_goals (try (exfalso; omega))
      all_goals (
        go_ret
        exact ⟨rfl, Below.refl _ _⟩)
end
end Go.Proofs.Ytggfmihmpnaboaa.M
