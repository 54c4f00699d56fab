/- The walk of PointApart: two symbols have points that are two apart, or more, in a part; none lies at nought. -/
import Derived.Test.YtggfmihmpnaboaaG
namespace Go.Proofs.Ytggfmihmpnaboaa.M
open Go.RowKit Go.Proofs.YtggfmihmpnaboaaW.PrintWords Go.Proofs.YtggfmihmpnaboaaW.PrintLast Go.Proofs.YtggfmihmpnaboaaW.PrintMore Go.Proofs.Ytggfmihmpnaboaa.Rw Go.Proofs.Ytggfmihmpnaboaa.Fl
set_option linter.unusedVariables false
set_option linter.unusedSimpArgs false
theorem lit_m2 : (13835058055282163712 : Nat) = fd (-2) 0 := by rw [fd_eq]; decide +kernel
set_option maxHeartbeats 3200000 in
theorem apart_walk (a0 : Int) (a1 : Int) (w : World) (w0 : (Lit.int .u16 a0).wf = true) (w1 : (Lit.int .u16 a1).wf = true) :
    Calls Try.prog 5 #[.int .u16 a0, .int .u16 a1] w fun e w' => e = .returned (.bool true) ∧ Below w.heap.size w w' := by
  obtain ⟨b00, b01⟩ := bounds_u16 w0
  obtain ⟨b10, b11⟩ := bounds_u16 w1
  have hm0 := and1023 b00 b01
  have hm1 := and1023 b10 b11
  obtain ⟨h, l, hA, p1, p2, p3, p4⟩ := fives a0
  obtain ⟨h', l', hB, q1, q2, q3, q4⟩ := fives a1
  obtain ⟨A, hA'⟩ : ∃ A, a0 % 1024 = A := ⟨_, rfl⟩
  obtain ⟨B, hB'⟩ : ∃ B, a1 % 1024 = B := ⟨_, rfl⟩
  rw [hA'] at hA hm0
  rw [hB'] at hB hm1
  clear hA' hB'
  have HA := Aside0.mk (ofS hA p1 p2 p3 p4)
  have HB := Aside0.mk (ofS hB q1 q2 q3 q4)
  have ks := fun (t : TypeId) (w : World) => csub (P := Try.prog) (a := 2 * h - 31) (b := 2 * l - 31) (c := 2 * h' - 31) (d := 2 * l' - 31) (by omega) (by omega) (by omega) (by omega) t w
  have R2 := ord_int (a := 2 * h - 31 - (2 * h' - 31)) (b := 2) (by omega) (by decide)
  have Rm := ord_int (a := 2 * h - 31 - (2 * h' - 31)) (b := -2) (by omega) (by decide)
  have I2 := ord_int (a := 2 * l - 31 - (2 * l' - 31)) (b := 2) (by omega) (by decide)
  have Im := ord_int (a := 2 * l - 31 - (2 * l' - 31)) (b := -2) (by omega) (by decide)
  rw [← lit2] at R2 I2
  rw [← lit_m2] at Rm Im
  have n1 := ord_eqb (ord_int (a := 2 * h - 31) (b := 0) (by omega) (by decide))
  have n2 := ord_eqb (ord_int (a := 2 * l - 31) (b := 0) (by omega) (by decide))
  rw [decide_eq_false (by omega), fd_zero] at n1 n2
  have hAB : (A = B) ↔ (h = h' ∧ l = l') := ⟨fun e => ⟨by omega, by omega⟩, fun e => by omega⟩
  have hR : 2 ≤ 2 * h - 31 - (2 * h' - 31) ∨ 2 * h - 31 - (2 * h' - 31) ≤ -2 ∨ h = h' := by omega
  have hI : 2 ≤ 2 * l - 31 - (2 * l' - 31) ∨ 2 * l - 31 - (2 * l' - 31) ≤ -2 ∨ l = l' := by omega
  have hn1 : (FloatKind.f64.format.order (fd (2 * h - 31) 0) 0 != some Ordering.eq) = true := by rw [bne, n1]; rfl
  have hn2 : (FloatKind.f64.format.order (fd (2 * l - 31) 0) 0 != some Ordering.eq) = true := by rw [bne, n2]; rfl
  rcases hR with hR | hR | hR
  · have R := ord_ge R2 hR
    have hne : (A == B) = false := beq_eq_false_iff_ne.2 (fun e => by have h5 := (hAB.1 e).1; have h6 := (hAB.1 e).2; omega)
    have hne2 : (A != B) = true := bne_iff_ne.2 (beq_eq_false_iff_ne.1 hne)
    clear hA hB hAB hI hR R2 Rm I2 Im
    generalize fd (2 * h - 31 - (2 * h' - 31)) 0 = dR at *
    generalize fd (2 * l - 31 - (2 * l' - 31)) 0 = dI at *
    generalize fd (2 * h - 31) 0 = x1 at *
    generalize fd (2 * l - 31) 0 = y1 at *
    rcases R with R | R
    all_goals (
      go_enter Try.func5, Try.ntmps5
      go_wp2_with (first
        | (go_at_call 10; (refine (awakeC _).mono ?_); rintro o w2 ⟨rfl, hw⟩; obtain rfl := hw.symm)
        | (go_at_call 11; (first | (with_reducible refine (HA.out _).mono ?_; rintro o w2 ⟨rfl, hw⟩; obtain rfl := hw.symm) | (with_reducible refine (HB.out _).mono ?_; rintro o w2 ⟨rfl, hw⟩; obtain rfl := hw.symm)))
        | simp only [ks])
      go_ret
      exact ⟨rfl, Below.refl _ _⟩)
  · have R0 := ord_lt R2 (by omega)
    have R := ord_le Rm hR
    have hne : (A == B) = false := beq_eq_false_iff_ne.2 (fun e => by have h5 := (hAB.1 e).1; have h6 := (hAB.1 e).2; omega)
    have hne2 : (A != B) = true := bne_iff_ne.2 (beq_eq_false_iff_ne.1 hne)
    clear hA hB hAB hI hR R2 Rm I2 Im
    generalize fd (2 * h - 31 - (2 * h' - 31)) 0 = dR at *
    generalize fd (2 * l - 31 - (2 * l' - 31)) 0 = dI at *
    generalize fd (2 * h - 31) 0 = x1 at *
    generalize fd (2 * l - 31) 0 = y1 at *
    rcases R with R | R
    all_goals (
      go_enter Try.func5, Try.ntmps5
      go_wp2_with (first
        | (go_at_call 10; (refine (awakeC _).mono ?_); rintro o w2 ⟨rfl, hw⟩; obtain rfl := hw.symm)
        | (go_at_call 11; (first | (with_reducible refine (HA.out _).mono ?_; rintro o w2 ⟨rfl, hw⟩; obtain rfl := hw.symm) | (with_reducible refine (HB.out _).mono ?_; rintro o w2 ⟨rfl, hw⟩; obtain rfl := hw.symm)))
        | simp only [ks])
      go_ret
      exact ⟨rfl, Below.refl _ _⟩)
  · have R0 := ord_lt R2 (by omega)
    have R1 := ord_gt Rm (by omega)
    rcases hI with hI | hI | hI
    · have R := ord_ge I2 hI
      have hne : (A == B) = false := beq_eq_false_iff_ne.2 (fun e => by have h5 := (hAB.1 e).1; have h6 := (hAB.1 e).2; omega)
      have hne2 : (A != B) = true := bne_iff_ne.2 (beq_eq_false_iff_ne.1 hne)
      clear hA hB hAB hI hR R2 Rm I2 Im
      generalize fd (2 * h - 31 - (2 * h' - 31)) 0 = dR at *
      generalize fd (2 * l - 31 - (2 * l' - 31)) 0 = dI at *
      generalize fd (2 * h - 31) 0 = x1 at *
      generalize fd (2 * l - 31) 0 = y1 at *
      rcases R with R | R
      all_goals (
        go_enter Try.func5, Try.ntmps5
        go_wp2_with (first
          | (go_at_call 10; (refine (awakeC _).mono ?_); rintro o w2 ⟨rfl, hw⟩; obtain rfl := hw.symm)
          | (go_at_call 11; (first | (with_reducible refine (HA.out _).mono ?_; rintro o w2 ⟨rfl, hw⟩; obtain rfl := hw.symm) | (with_reducible refine (HB.out _).mono ?_; rintro o w2 ⟨rfl, hw⟩; obtain rfl := hw.symm)))
          | simp only [ks])
        go_ret
        exact ⟨rfl, Below.refl _ _⟩)
    · have I0 := ord_lt I2 (by omega)
      have R := ord_le Im hI
      have hne : (A == B) = false := beq_eq_false_iff_ne.2 (fun e => by have h5 := (hAB.1 e).1; have h6 := (hAB.1 e).2; omega)
      have hne2 : (A != B) = true := bne_iff_ne.2 (beq_eq_false_iff_ne.1 hne)
      clear hA hB hAB hI hR R2 Rm I2 Im
      generalize fd (2 * h - 31 - (2 * h' - 31)) 0 = dR at *
      generalize fd (2 * l - 31 - (2 * l' - 31)) 0 = dI at *
      generalize fd (2 * h - 31) 0 = x1 at *
      generalize fd (2 * l - 31) 0 = y1 at *
      rcases R with R | R
      all_goals (
        go_enter Try.func5, Try.ntmps5
        go_wp2_with (first
          | (go_at_call 10; (refine (awakeC _).mono ?_); rintro o w2 ⟨rfl, hw⟩; obtain rfl := hw.symm)
          | (go_at_call 11; (first | (with_reducible refine (HA.out _).mono ?_; rintro o w2 ⟨rfl, hw⟩; obtain rfl := hw.symm) | (with_reducible refine (HB.out _).mono ?_; rintro o w2 ⟨rfl, hw⟩; obtain rfl := hw.symm)))
          | simp only [ks])
        go_ret
        exact ⟨rfl, Below.refl _ _⟩)
    · have I0 := ord_lt I2 (by omega)
      have I1 := ord_gt Im (by omega)
      obtain rfl : h = h' := hR
      obtain rfl : l = l' := hI
      obtain rfl : A = B := by omega
      simp only [Int.sub_self] at ks R0 R1 I0 I1
      clear hA hB hAB R2 Rm I2 Im
      generalize fd 0 0 = dR at *
      generalize fd (2 * h - 31) 0 = x1 at *
      generalize fd (2 * l - 31) 0 = y1 at *
      go_enter Try.func5, Try.ntmps5
      go_wp2_with (first
        | (go_at_call 10; (refine (awakeC _).mono ?_); rintro o w2 ⟨rfl, hw⟩; obtain rfl := hw.symm)
        | (go_at_call 11; (first | (with_reducible refine (HA.out _).mono ?_; rintro o w2 ⟨rfl, hw⟩; obtain rfl := hw.symm) | (with_reducible refine (HB.out _).mono ?_; rintro o w2 ⟨rfl, hw⟩; obtain rfl := hw.symm)))
        | simp only [ks])
      go_ret
      exact ⟨rfl, Below.refl _ _⟩
end Go.Proofs.Ytggfmihmpnaboaa.M
