/- The walk of PointGray: points beside one another differ in one bit of Gray; all symbols have another one. -/
import Derived.Test.YtggfmihmpnaboaaG
namespace Go.Proofs.Ytggfmihmpnaboaa.M
open Go.RowKit Go.Proofs.YtggfmihmpnaboaaW.PrintWords Go.Proofs.YtggfmihmpnaboaaW.PrintLast Go.Proofs.YtggfmihmpnaboaaW.PrintMore Go.Proofs.Ytggfmihmpnaboaa.Rw Go.Proofs.Ytggfmihmpnaboaa.Fl
set_option linter.unusedVariables false
set_option linter.unusedSimpArgs false
theorem lit_m2' : (13835058055282163712 : Nat) = fd (-2) 0 := by rw [fd_eq]; decide +kernel
/-- five bits, such that neighbours differ in one -/
def gy (n : Nat) : Nat := n ^^^ n / 2
theorem gy_lt : ∀ h : Fin 32, gy h.val < 32 := by decide +kernel
theorem gy_inj : ∀ h k : Fin 32, gy h.val ^^^ gy k.val = 0 ↔ h = k := by decide +kernel
theorem gy_next : ∀ h k : Fin 32, (h.val = k.val + 1 ∨ k.val = h.val + 1) → ((gy h.val ^^^ gy k.val) &&& ((gy h.val ^^^ gy k.val) - 1)) = 0 ∧ ((gy h.val ^^^ gy k.val) * 32 &&& ((gy h.val ^^^ gy k.val) * 32 - 1)) = 0 := by decide +kernel
theorem xor_five {a b c d : Nat} (ha : a < 32) (hb : b < 32) (hc : c < 32) (hd : d < 32) : (a * 32 + b) ^^^ (c * 32 + d) = (a ^^^ c) * 32 + (b ^^^ d) := by
  have hx : b ^^^ d < 32 := Nat.xor_lt_two_pow (n := 5) hb hd
  apply Nat.eq_of_testBit_eq
  intro i
  have e : ∀ x y : Nat, y < 32 → (x * 32 + y).testBit i = if i < 5 then y.testBit i else x.testBit (i - 5) := by
    intro x y hy
    rw [Nat.mul_comm]; exact Nat.testBit_two_pow_mul_add x (i := 5) (by omega) i
  rw [Nat.testBit_xor, e a b hb, e c d hd, e _ _ hx]
  split <;> rw [Nat.testBit_xor]
theorem grayC0 (n : Nat) (h : n < 32) (w : World) : Calls Try.prog 22 #[.int .u16 (n : Int)] w fun o w' => o = .returned (.int .u16 (gy n : Int)) ∧ w' = w := by
  have hx : bits .xor .u16 (n : Int) ((n : Int) / 2) = ((gy n : Nat) : Int) := by
    rw [show ((n : Int) / 2) = ((n / 2 : Nat) : Int) by omega, u16_xor_nat n (n / 2) (by omega) (by omega)]; rfl
  have hn : (n : Int) < 32 := by omega
  generalize gy n = y at *
  go_enter Try.func22, Try.ntmps22
  go_wp2
  go_ret
  exact ⟨rfl, rfl⟩
theorem grayC {A : Int} {h l : Nat} (hA : A = 32 * (h : Int) + l) (h1 : h < 32) (l1 : l < 32) (w : World) : Calls Try.prog 16 #[.int .u16 A] w fun o w' => o = .returned (.int .u16 ((gy h * 32 + gy l : Nat) : Int)) ∧ w' = w := by
  have HA := Aside0.mk (grayC0 h h1)
  have HB := Aside0.mk (grayC0 l l1)
  have g1 := gy_lt ⟨h, h1⟩
  have g2 := gy_lt ⟨l, l1⟩
  have e0 : A % 1024 = A := by omega
  have e1 : A / 32 = (h : Int) := by omega
  have e2 : bits .and .u16 A 31 = (l : Int) := by rw [and31 (by omega) (by omega)]; omega
  have e3 := or_five (a := (gy h : Int)) (b := (gy l : Int)) (by omega) (by have : gy h < 32 := g1; omega) (by omega) (by have : gy l < 32 := g2; omega)
  have e4 : ((gy h * 32 + gy l : Nat) : Int) = (gy h : Int) * 32 + (gy l : Int) := by omega
  have g1' : (gy h : Int) < 32 := by have : gy h < 32 := g1; omega
  rw [e4]
  have hA0 : 0 ≤ A := by omega
  have hA1 : A < 1024 := by omega
  clear g1 g2 hA e4
  generalize gy h = x at *
  generalize gy l = y at *
  go_enter Try.func16, Try.ntmps16
  go_wp2_with (first
    | (go_at_call 22; (first | (with_reducible refine (HA.out _).mono ?_; rintro o w2 ⟨rfl, hw⟩; obtain rfl := hw.symm; clear HA) | (with_reducible refine (HB.out _).mono ?_; rintro o w2 ⟨rfl, hw⟩; obtain rfl := hw.symm))))
  go_ret
  exact ⟨rfl, rfl⟩
set_option maxHeartbeats 12800000 in
theorem gray_walk (a0 : Int) (a1 : Int) (w : World) (w0 : (Lit.int .u16 a0).wf = true) (w1 : (Lit.int .u16 a1).wf = true) :
    Calls Try.prog 8 #[.int .u16 a0, .int .u16 a1] w fun e w' => e = .returned (.bool true) ∧ Below w.heap.size w w' := by
  obtain ⟨b00, b01⟩ := bounds_u16 w0
  obtain ⟨b10, b11⟩ := bounds_u16 w1
  have hm0 := and1023 b00 b01
  have hm1 := and1023 b10 b11
  obtain ⟨h, l, hA, p1, p2, p3, p4⟩ := fives a0
  obtain ⟨h', l', hB, q1, q2, q3, q4⟩ := fives a1
  obtain ⟨h, rfl⟩ := Int.eq_ofNat_of_zero_le p1
  obtain ⟨l, rfl⟩ := Int.eq_ofNat_of_zero_le p3
  obtain ⟨h', rfl⟩ := Int.eq_ofNat_of_zero_le q1
  obtain ⟨l', rfl⟩ := Int.eq_ofNat_of_zero_le q3
  obtain ⟨A, hA'⟩ : ∃ A, a0 % 1024 = A := ⟨_, rfl⟩
  obtain ⟨B, hB'⟩ : ∃ B, a1 % 1024 = B := ⟨_, rfl⟩
  rw [hA'] at hA hm0
  rw [hB'] at hB hm1
  clear hA' hB' w0 w1 b00 b01 b10 b11
  have z1 : h < 32 := by omega
  have z2 : l < 32 := by omega
  have z3 : h' < 32 := by omega
  have z4 : l' < 32 := by omega
  have HA := Aside0.mk (ofS hA p1 p2 p3 p4)
  have HB := Aside0.mk (ofS hB q1 q2 q3 q4)
  have HGA := Aside0.mk (grayC hA z1 z2)
  have HGB := Aside0.mk (grayC hB z3 z4)
  have ks := fun (t : TypeId) (w : World) => csub (P := Try.prog) (a := 2 * (h : Int) - 31) (b := 2 * (l : Int) - 31) (c := 2 * (h' : Int) - 31) (d := 2 * (l' : Int) - 31) (by omega) (by omega) (by omega) (by omega) t w
  have r1 := ord_eqb (ord_int (a := 2 * (h : Int) - 31 - (2 * (h' : Int) - 31)) (b := 2) (by omega) (by decide))
  have r2 := ord_eqb (ord_int (a := 2 * (h : Int) - 31 - (2 * (h' : Int) - 31)) (b := -2) (by omega) (by decide))
  have r3 := ord_eqb (ord_int (a := 2 * (h : Int) - 31 - (2 * (h' : Int) - 31)) (b := 0) (by omega) (by decide))
  have i1 := ord_eqb (ord_int (a := 2 * (l : Int) - 31 - (2 * (l' : Int) - 31)) (b := 2) (by omega) (by decide))
  have i2 := ord_eqb (ord_int (a := 2 * (l : Int) - 31 - (2 * (l' : Int) - 31)) (b := -2) (by omega) (by decide))
  have i3 := ord_eqb (ord_int (a := 2 * (l : Int) - 31 - (2 * (l' : Int) - 31)) (b := 0) (by omega) (by decide))
  rw [← lit2] at r1 i1
  rw [← lit_m2'] at r2 i2
  rw [fd_zero] at r3 i3
  have t1 := gy_lt ⟨h, z1⟩
  have t2 := gy_lt ⟨l, z2⟩
  have t3 := gy_lt ⟨h', z3⟩
  have t4 := gy_lt ⟨l', z4⟩
  have j1 := gy_inj ⟨h, z1⟩ ⟨h', z3⟩
  have j2 := gy_inj ⟨l, z2⟩ ⟨l', z4⟩
  have k1 := gy_next ⟨h, z1⟩ ⟨h', z3⟩
  have k2 := gy_next ⟨l, z2⟩ ⟨l', z4⟩
  simp only [Fin.mk.injEq] at j1 j2
  have hX : bits .xor .u16 ((gy h * 32 + gy l : Nat) : Int) ((gy h' * 32 + gy l' : Nat) : Int) = (((gy h ^^^ gy h') * 32 + (gy l ^^^ gy l') : Nat) : Int) := by
    rw [u16_xor_nat _ _ (by simp only at t1 t2; omega) (by simp only at t3 t4; omega), xor_five t1 t2 t3 t4]
  have hGl : ((gy h * 32 + gy l : Nat) : Int) < 1024 := by simp only at t1 t2; omega
  have y1 : gy h ^^^ gy h' < 32 := Nat.xor_lt_two_pow (n := 5) t1 t3
  have y2 : gy l ^^^ gy l' < 32 := Nat.xor_lt_two_pow (n := 5) t2 t4
  simp only at k1 k2
  clear t1 t2 t3 t4
  generalize gy h * 32 + gy l = GA at *
  generalize gy h' * 32 + gy l' = GB at *
  generalize gy h ^^^ gy h' = u at *
  generalize gy l ^^^ gy l' = v at *
  obtain ⟨X, hXe⟩ : ∃ X, u * 32 + v = X := ⟨_, rfl⟩
  rw [hXe] at hX
  have hX1 : (X : Int) < 1024 := by omega
  have hXA : X = 0 ↔ A = B := ⟨fun e => by have a1 := j1.1 (by omega); have a2 := j2.1 (by omega); omega, fun e => by have a1 := j1.2 (by omega); have a2 := j2.2 (by omega); omega⟩
  rcases (by omega : (2 * (h : Int) - 31 - (2 * (h' : Int) - 31) = 2) ∨ (2 * (h : Int) - 31 - (2 * (h' : Int) - 31) = -2) ∨ (2 * (h : Int) - 31 - (2 * (h' : Int) - 31) = 0) ∨ (¬ 2 * (h : Int) - 31 - (2 * (h' : Int) - 31) = 2 ∧ ¬ 2 * (h : Int) - 31 - (2 * (h' : Int) - 31) = -2 ∧ ¬ 2 * (h : Int) - 31 - (2 * (h' : Int) - 31) = 0)) with cR | cR | cR | cR
  all_goals (rcases (by omega : (2 * (l : Int) - 31 - (2 * (l' : Int) - 31) = 2) ∨ (2 * (l : Int) - 31 - (2 * (l' : Int) - 31) = -2) ∨ (2 * (l : Int) - 31 - (2 * (l' : Int) - 31) = 0) ∨ (¬ 2 * (l : Int) - 31 - (2 * (l' : Int) - 31) = 2 ∧ ¬ 2 * (l : Int) - 31 - (2 * (l' : Int) - 31) = -2 ∧ ¬ 2 * (l : Int) - 31 - (2 * (l' : Int) - 31) = 0)) with cI | cI | cI | cI)
  · skip
    rw [decide_eq_true (show 2 * (h : Int) - 31 - (2 * (h' : Int) - 31) = 2 by omega)] at r1
    rw [decide_eq_false (show ¬ 2 * (h : Int) - 31 - (2 * (h' : Int) - 31) = -2 by omega)] at r2
    rw [decide_eq_false (show ¬ 2 * (h : Int) - 31 - (2 * (h' : Int) - 31) = 0 by omega)] at r3
    rw [decide_eq_true (show 2 * (l : Int) - 31 - (2 * (l' : Int) - 31) = 2 by omega)] at i1
    rw [decide_eq_false (show ¬ 2 * (l : Int) - 31 - (2 * (l' : Int) - 31) = -2 by omega)] at i2
    rw [decide_eq_false (show ¬ 2 * (l : Int) - 31 - (2 * (l' : Int) - 31) = 0 by omega)] at i3
    have hAB : (A == B) = false := beq_eq_false_iff_ne.2 (by omega)
    have hXn : X ≠ 0 := fun e => (beq_eq_false_iff_ne.1 hAB) (hXA.1 e)
    have hX0 : ((X : Int) == 0) = false := beq_eq_false_iff_ne.2 (by omega)
    have hX2 : ((X : Int) != 0) = true := bne_iff_ne.2 (by omega)
    clear hA hB hXA hXe j1 j2 k1 k2 y1 y2 z1 z2 z3 z4 p1 p2 p3 p4 q1 q2 q3 q4 cR cI
    generalize fd (2 * (h : Int) - 31 - (2 * (h' : Int) - 31)) 0 = dR at *
    generalize fd (2 * (l : Int) - 31 - (2 * (l' : Int) - 31)) 0 = dI at *
    go_enter Try.func8, Try.ntmps8
    go_wp2_with (first
      | (go_at_call 10; (refine (awakeC _).mono ?_); rintro o w2 ⟨rfl, hw⟩; obtain rfl := hw.symm)
      | (go_at_call 11; (first | (with_reducible refine (HA.out _).mono ?_; rintro o w2 ⟨rfl, hw⟩; obtain rfl := hw.symm) | (with_reducible refine (HB.out _).mono ?_; rintro o w2 ⟨rfl, hw⟩; obtain rfl := hw.symm)))
      | (go_at_call 16; (first | (with_reducible refine (HGA.out _).mono ?_; rintro o w2 ⟨rfl, hw⟩; obtain rfl := hw.symm) | (with_reducible refine (HGB.out _).mono ?_; rintro o w2 ⟨rfl, hw⟩; obtain rfl := hw.symm)))
      | simp only [ks])
    go_ret
    exact ⟨rfl, Below.refl _ _⟩
  · skip
    rw [decide_eq_true (show 2 * (h : Int) - 31 - (2 * (h' : Int) - 31) = 2 by omega)] at r1
    rw [decide_eq_false (show ¬ 2 * (h : Int) - 31 - (2 * (h' : Int) - 31) = -2 by omega)] at r2
    rw [decide_eq_false (show ¬ 2 * (h : Int) - 31 - (2 * (h' : Int) - 31) = 0 by omega)] at r3
    rw [decide_eq_false (show ¬ 2 * (l : Int) - 31 - (2 * (l' : Int) - 31) = 2 by omega)] at i1
    rw [decide_eq_true (show 2 * (l : Int) - 31 - (2 * (l' : Int) - 31) = -2 by omega)] at i2
    rw [decide_eq_false (show ¬ 2 * (l : Int) - 31 - (2 * (l' : Int) - 31) = 0 by omega)] at i3
    have hAB : (A == B) = false := beq_eq_false_iff_ne.2 (by omega)
    have hXn : X ≠ 0 := fun e => (beq_eq_false_iff_ne.1 hAB) (hXA.1 e)
    have hX0 : ((X : Int) == 0) = false := beq_eq_false_iff_ne.2 (by omega)
    have hX2 : ((X : Int) != 0) = true := bne_iff_ne.2 (by omega)
    clear hA hB hXA hXe j1 j2 k1 k2 y1 y2 z1 z2 z3 z4 p1 p2 p3 p4 q1 q2 q3 q4 cR cI
    generalize fd (2 * (h : Int) - 31 - (2 * (h' : Int) - 31)) 0 = dR at *
    generalize fd (2 * (l : Int) - 31 - (2 * (l' : Int) - 31)) 0 = dI at *
    go_enter Try.func8, Try.ntmps8
    go_wp2_with (first
      | (go_at_call 10; (refine (awakeC _).mono ?_); rintro o w2 ⟨rfl, hw⟩; obtain rfl := hw.symm)
      | (go_at_call 11; (first | (with_reducible refine (HA.out _).mono ?_; rintro o w2 ⟨rfl, hw⟩; obtain rfl := hw.symm) | (with_reducible refine (HB.out _).mono ?_; rintro o w2 ⟨rfl, hw⟩; obtain rfl := hw.symm)))
      | (go_at_call 16; (first | (with_reducible refine (HGA.out _).mono ?_; rintro o w2 ⟨rfl, hw⟩; obtain rfl := hw.symm) | (with_reducible refine (HGB.out _).mono ?_; rintro o w2 ⟨rfl, hw⟩; obtain rfl := hw.symm)))
      | simp only [ks])
    go_ret
    exact ⟨rfl, Below.refl _ _⟩
  · skip
    rw [decide_eq_true (show 2 * (h : Int) - 31 - (2 * (h' : Int) - 31) = 2 by omega)] at r1
    rw [decide_eq_false (show ¬ 2 * (h : Int) - 31 - (2 * (h' : Int) - 31) = -2 by omega)] at r2
    rw [decide_eq_false (show ¬ 2 * (h : Int) - 31 - (2 * (h' : Int) - 31) = 0 by omega)] at r3
    rw [decide_eq_false (show ¬ 2 * (l : Int) - 31 - (2 * (l' : Int) - 31) = 2 by omega)] at i1
    rw [decide_eq_false (show ¬ 2 * (l : Int) - 31 - (2 * (l' : Int) - 31) = -2 by omega)] at i2
    rw [decide_eq_true (show 2 * (l : Int) - 31 - (2 * (l' : Int) - 31) = 0 by omega)] at i3
    have hAB : (A == B) = false := beq_eq_false_iff_ne.2 (by omega)
    have hXn : X ≠ 0 := fun e => (beq_eq_false_iff_ne.1 hAB) (hXA.1 e)
    have hX0 : ((X : Int) == 0) = false := beq_eq_false_iff_ne.2 (by omega)
    have hX2 : ((X : Int) != 0) = true := bne_iff_ne.2 (by omega)
    have hv0 : v = 0 := j2.2 (by omega)
    have hand : bits .and .u16 (X : Int) ((X : Int) - 1) = 0 := by
      have h5 := (k1 (by omega)).2
      have h6 : X = u * 32 := by omega
      rw [← h6] at h5
      rw [show ((X : Int) - 1) = ((X - 1 : Nat) : Int) by omega, u16_and_nat X (X - 1) (by omega) (by omega), h5]; rfl
    have hX9 : 1 ≤ (X : Int) := by omega
    clear hA hB hXA hXe j1 j2 k1 k2 y1 y2 z1 z2 z3 z4 p1 p2 p3 p4 q1 q2 q3 q4 cR cI
    generalize fd (2 * (h : Int) - 31 - (2 * (h' : Int) - 31)) 0 = dR at *
    generalize fd (2 * (l : Int) - 31 - (2 * (l' : Int) - 31)) 0 = dI at *
    go_enter Try.func8, Try.ntmps8
    go_wp2_with (first
      | (go_at_call 10; (refine (awakeC _).mono ?_); rintro o w2 ⟨rfl, hw⟩; obtain rfl := hw.symm)
      | (go_at_call 11; (first | (with_reducible refine (HA.out _).mono ?_; rintro o w2 ⟨rfl, hw⟩; obtain rfl := hw.symm) | (with_reducible refine (HB.out _).mono ?_; rintro o w2 ⟨rfl, hw⟩; obtain rfl := hw.symm)))
      | (go_at_call 16; (first | (with_reducible refine (HGA.out _).mono ?_; rintro o w2 ⟨rfl, hw⟩; obtain rfl := hw.symm) | (with_reducible refine (HGB.out _).mono ?_; rintro o w2 ⟨rfl, hw⟩; obtain rfl := hw.symm)))
      | simp only [ks])
    go_ret
    exact ⟨rfl, Below.refl _ _⟩
  · skip
    rw [decide_eq_true (show 2 * (h : Int) - 31 - (2 * (h' : Int) - 31) = 2 by omega)] at r1
    rw [decide_eq_false (show ¬ 2 * (h : Int) - 31 - (2 * (h' : Int) - 31) = -2 by omega)] at r2
    rw [decide_eq_false (show ¬ 2 * (h : Int) - 31 - (2 * (h' : Int) - 31) = 0 by omega)] at r3
    rw [decide_eq_false (show ¬ 2 * (l : Int) - 31 - (2 * (l' : Int) - 31) = 2 by omega)] at i1
    rw [decide_eq_false (show ¬ 2 * (l : Int) - 31 - (2 * (l' : Int) - 31) = -2 by omega)] at i2
    rw [decide_eq_false (show ¬ 2 * (l : Int) - 31 - (2 * (l' : Int) - 31) = 0 by omega)] at i3
    have hAB : (A == B) = false := beq_eq_false_iff_ne.2 (by omega)
    have hXn : X ≠ 0 := fun e => (beq_eq_false_iff_ne.1 hAB) (hXA.1 e)
    have hX0 : ((X : Int) == 0) = false := beq_eq_false_iff_ne.2 (by omega)
    have hX2 : ((X : Int) != 0) = true := bne_iff_ne.2 (by omega)
    clear hA hB hXA hXe j1 j2 k1 k2 y1 y2 z1 z2 z3 z4 p1 p2 p3 p4 q1 q2 q3 q4 cR cI
    generalize fd (2 * (h : Int) - 31 - (2 * (h' : Int) - 31)) 0 = dR at *
    generalize fd (2 * (l : Int) - 31 - (2 * (l' : Int) - 31)) 0 = dI at *
    go_enter Try.func8, Try.ntmps8
    go_wp2_with (first
      | (go_at_call 10; (refine (awakeC _).mono ?_); rintro o w2 ⟨rfl, hw⟩; obtain rfl := hw.symm)
      | (go_at_call 11; (first | (with_reducible refine (HA.out _).mono ?_; rintro o w2 ⟨rfl, hw⟩; obtain rfl := hw.symm) | (with_reducible refine (HB.out _).mono ?_; rintro o w2 ⟨rfl, hw⟩; obtain rfl := hw.symm)))
      | (go_at_call 16; (first | (with_reducible refine (HGA.out _).mono ?_; rintro o w2 ⟨rfl, hw⟩; obtain rfl := hw.symm) | (with_reducible refine (HGB.out _).mono ?_; rintro o w2 ⟨rfl, hw⟩; obtain rfl := hw.symm)))
      | simp only [ks])
    go_ret
    exact ⟨rfl, Below.refl _ _⟩
  · skip
    rw [decide_eq_false (show ¬ 2 * (h : Int) - 31 - (2 * (h' : Int) - 31) = 2 by omega)] at r1
    rw [decide_eq_true (show 2 * (h : Int) - 31 - (2 * (h' : Int) - 31) = -2 by omega)] at r2
    rw [decide_eq_false (show ¬ 2 * (h : Int) - 31 - (2 * (h' : Int) - 31) = 0 by omega)] at r3
    rw [decide_eq_true (show 2 * (l : Int) - 31 - (2 * (l' : Int) - 31) = 2 by omega)] at i1
    rw [decide_eq_false (show ¬ 2 * (l : Int) - 31 - (2 * (l' : Int) - 31) = -2 by omega)] at i2
    rw [decide_eq_false (show ¬ 2 * (l : Int) - 31 - (2 * (l' : Int) - 31) = 0 by omega)] at i3
    have hAB : (A == B) = false := beq_eq_false_iff_ne.2 (by omega)
    have hXn : X ≠ 0 := fun e => (beq_eq_false_iff_ne.1 hAB) (hXA.1 e)
    have hX0 : ((X : Int) == 0) = false := beq_eq_false_iff_ne.2 (by omega)
    have hX2 : ((X : Int) != 0) = true := bne_iff_ne.2 (by omega)
    clear hA hB hXA hXe j1 j2 k1 k2 y1 y2 z1 z2 z3 z4 p1 p2 p3 p4 q1 q2 q3 q4 cR cI
    generalize fd (2 * (h : Int) - 31 - (2 * (h' : Int) - 31)) 0 = dR at *
    generalize fd (2 * (l : Int) - 31 - (2 * (l' : Int) - 31)) 0 = dI at *
    go_enter Try.func8, Try.ntmps8
    go_wp2_with (first
      | (go_at_call 10; (refine (awakeC _).mono ?_); rintro o w2 ⟨rfl, hw⟩; obtain rfl := hw.symm)
      | (go_at_call 11; (first | (with_reducible refine (HA.out _).mono ?_; rintro o w2 ⟨rfl, hw⟩; obtain rfl := hw.symm) | (with_reducible refine (HB.out _).mono ?_; rintro o w2 ⟨rfl, hw⟩; obtain rfl := hw.symm)))
      | (go_at_call 16; (first | (with_reducible refine (HGA.out _).mono ?_; rintro o w2 ⟨rfl, hw⟩; obtain rfl := hw.symm) | (with_reducible refine (HGB.out _).mono ?_; rintro o w2 ⟨rfl, hw⟩; obtain rfl := hw.symm)))
      | simp only [ks])
    go_ret
    exact ⟨rfl, Below.refl _ _⟩
  · skip
    rw [decide_eq_false (show ¬ 2 * (h : Int) - 31 - (2 * (h' : Int) - 31) = 2 by omega)] at r1
    rw [decide_eq_true (show 2 * (h : Int) - 31 - (2 * (h' : Int) - 31) = -2 by omega)] at r2
    rw [decide_eq_false (show ¬ 2 * (h : Int) - 31 - (2 * (h' : Int) - 31) = 0 by omega)] at r3
    rw [decide_eq_false (show ¬ 2 * (l : Int) - 31 - (2 * (l' : Int) - 31) = 2 by omega)] at i1
    rw [decide_eq_true (show 2 * (l : Int) - 31 - (2 * (l' : Int) - 31) = -2 by omega)] at i2
    rw [decide_eq_false (show ¬ 2 * (l : Int) - 31 - (2 * (l' : Int) - 31) = 0 by omega)] at i3
    have hAB : (A == B) = false := beq_eq_false_iff_ne.2 (by omega)
    have hXn : X ≠ 0 := fun e => (beq_eq_false_iff_ne.1 hAB) (hXA.1 e)
    have hX0 : ((X : Int) == 0) = false := beq_eq_false_iff_ne.2 (by omega)
    have hX2 : ((X : Int) != 0) = true := bne_iff_ne.2 (by omega)
    clear hA hB hXA hXe j1 j2 k1 k2 y1 y2 z1 z2 z3 z4 p1 p2 p3 p4 q1 q2 q3 q4 cR cI
    generalize fd (2 * (h : Int) - 31 - (2 * (h' : Int) - 31)) 0 = dR at *
    generalize fd (2 * (l : Int) - 31 - (2 * (l' : Int) - 31)) 0 = dI at *
    go_enter Try.func8, Try.ntmps8
    go_wp2_with (first
      | (go_at_call 10; (refine (awakeC _).mono ?_); rintro o w2 ⟨rfl, hw⟩; obtain rfl := hw.symm)
      | (go_at_call 11; (first | (with_reducible refine (HA.out _).mono ?_; rintro o w2 ⟨rfl, hw⟩; obtain rfl := hw.symm) | (with_reducible refine (HB.out _).mono ?_; rintro o w2 ⟨rfl, hw⟩; obtain rfl := hw.symm)))
      | (go_at_call 16; (first | (with_reducible refine (HGA.out _).mono ?_; rintro o w2 ⟨rfl, hw⟩; obtain rfl := hw.symm) | (with_reducible refine (HGB.out _).mono ?_; rintro o w2 ⟨rfl, hw⟩; obtain rfl := hw.symm)))
      | simp only [ks])
    go_ret
    exact ⟨rfl, Below.refl _ _⟩
  · skip
    rw [decide_eq_false (show ¬ 2 * (h : Int) - 31 - (2 * (h' : Int) - 31) = 2 by omega)] at r1
    rw [decide_eq_true (show 2 * (h : Int) - 31 - (2 * (h' : Int) - 31) = -2 by omega)] at r2
    rw [decide_eq_false (show ¬ 2 * (h : Int) - 31 - (2 * (h' : Int) - 31) = 0 by omega)] at r3
    rw [decide_eq_false (show ¬ 2 * (l : Int) - 31 - (2 * (l' : Int) - 31) = 2 by omega)] at i1
    rw [decide_eq_false (show ¬ 2 * (l : Int) - 31 - (2 * (l' : Int) - 31) = -2 by omega)] at i2
    rw [decide_eq_true (show 2 * (l : Int) - 31 - (2 * (l' : Int) - 31) = 0 by omega)] at i3
    have hAB : (A == B) = false := beq_eq_false_iff_ne.2 (by omega)
    have hXn : X ≠ 0 := fun e => (beq_eq_false_iff_ne.1 hAB) (hXA.1 e)
    have hX0 : ((X : Int) == 0) = false := beq_eq_false_iff_ne.2 (by omega)
    have hX2 : ((X : Int) != 0) = true := bne_iff_ne.2 (by omega)
    have hv0 : v = 0 := j2.2 (by omega)
    have hand : bits .and .u16 (X : Int) ((X : Int) - 1) = 0 := by
      have h5 := (k1 (by omega)).2
      have h6 : X = u * 32 := by omega
      rw [← h6] at h5
      rw [show ((X : Int) - 1) = ((X - 1 : Nat) : Int) by omega, u16_and_nat X (X - 1) (by omega) (by omega), h5]; rfl
    have hX9 : 1 ≤ (X : Int) := by omega
    clear hA hB hXA hXe j1 j2 k1 k2 y1 y2 z1 z2 z3 z4 p1 p2 p3 p4 q1 q2 q3 q4 cR cI
    generalize fd (2 * (h : Int) - 31 - (2 * (h' : Int) - 31)) 0 = dR at *
    generalize fd (2 * (l : Int) - 31 - (2 * (l' : Int) - 31)) 0 = dI at *
    go_enter Try.func8, Try.ntmps8
    go_wp2_with (first
      | (go_at_call 10; (refine (awakeC _).mono ?_); rintro o w2 ⟨rfl, hw⟩; obtain rfl := hw.symm)
      | (go_at_call 11; (first | (with_reducible refine (HA.out _).mono ?_; rintro o w2 ⟨rfl, hw⟩; obtain rfl := hw.symm) | (with_reducible refine (HB.out _).mono ?_; rintro o w2 ⟨rfl, hw⟩; obtain rfl := hw.symm)))
      | (go_at_call 16; (first | (with_reducible refine (HGA.out _).mono ?_; rintro o w2 ⟨rfl, hw⟩; obtain rfl := hw.symm) | (with_reducible refine (HGB.out _).mono ?_; rintro o w2 ⟨rfl, hw⟩; obtain rfl := hw.symm)))
      | simp only [ks])
    go_ret
    exact ⟨rfl, Below.refl _ _⟩
  · skip
    rw [decide_eq_false (show ¬ 2 * (h : Int) - 31 - (2 * (h' : Int) - 31) = 2 by omega)] at r1
    rw [decide_eq_true (show 2 * (h : Int) - 31 - (2 * (h' : Int) - 31) = -2 by omega)] at r2
    rw [decide_eq_false (show ¬ 2 * (h : Int) - 31 - (2 * (h' : Int) - 31) = 0 by omega)] at r3
    rw [decide_eq_false (show ¬ 2 * (l : Int) - 31 - (2 * (l' : Int) - 31) = 2 by omega)] at i1
    rw [decide_eq_false (show ¬ 2 * (l : Int) - 31 - (2 * (l' : Int) - 31) = -2 by omega)] at i2
    rw [decide_eq_false (show ¬ 2 * (l : Int) - 31 - (2 * (l' : Int) - 31) = 0 by omega)] at i3
    have hAB : (A == B) = false := beq_eq_false_iff_ne.2 (by omega)
    have hXn : X ≠ 0 := fun e => (beq_eq_false_iff_ne.1 hAB) (hXA.1 e)
    have hX0 : ((X : Int) == 0) = false := beq_eq_false_iff_ne.2 (by omega)
    have hX2 : ((X : Int) != 0) = true := bne_iff_ne.2 (by omega)
    clear hA hB hXA hXe j1 j2 k1 k2 y1 y2 z1 z2 z3 z4 p1 p2 p3 p4 q1 q2 q3 q4 cR cI
    generalize fd (2 * (h : Int) - 31 - (2 * (h' : Int) - 31)) 0 = dR at *
    generalize fd (2 * (l : Int) - 31 - (2 * (l' : Int) - 31)) 0 = dI at *
    go_enter Try.func8, Try.ntmps8
    go_wp2_with (first
      | (go_at_call 10; (refine (awakeC _).mono ?_); rintro o w2 ⟨rfl, hw⟩; obtain rfl := hw.symm)
      | (go_at_call 11; (first | (with_reducible refine (HA.out _).mono ?_; rintro o w2 ⟨rfl, hw⟩; obtain rfl := hw.symm) | (with_reducible refine (HB.out _).mono ?_; rintro o w2 ⟨rfl, hw⟩; obtain rfl := hw.symm)))
      | (go_at_call 16; (first | (with_reducible refine (HGA.out _).mono ?_; rintro o w2 ⟨rfl, hw⟩; obtain rfl := hw.symm) | (with_reducible refine (HGB.out _).mono ?_; rintro o w2 ⟨rfl, hw⟩; obtain rfl := hw.symm)))
      | simp only [ks])
    go_ret
    exact ⟨rfl, Below.refl _ _⟩
  · skip
    rw [decide_eq_false (show ¬ 2 * (h : Int) - 31 - (2 * (h' : Int) - 31) = 2 by omega)] at r1
    rw [decide_eq_false (show ¬ 2 * (h : Int) - 31 - (2 * (h' : Int) - 31) = -2 by omega)] at r2
    rw [decide_eq_true (show 2 * (h : Int) - 31 - (2 * (h' : Int) - 31) = 0 by omega)] at r3
    rw [decide_eq_true (show 2 * (l : Int) - 31 - (2 * (l' : Int) - 31) = 2 by omega)] at i1
    rw [decide_eq_false (show ¬ 2 * (l : Int) - 31 - (2 * (l' : Int) - 31) = -2 by omega)] at i2
    rw [decide_eq_false (show ¬ 2 * (l : Int) - 31 - (2 * (l' : Int) - 31) = 0 by omega)] at i3
    have hAB : (A == B) = false := beq_eq_false_iff_ne.2 (by omega)
    have hXn : X ≠ 0 := fun e => (beq_eq_false_iff_ne.1 hAB) (hXA.1 e)
    have hX0 : ((X : Int) == 0) = false := beq_eq_false_iff_ne.2 (by omega)
    have hX2 : ((X : Int) != 0) = true := bne_iff_ne.2 (by omega)
    have hu0 : u = 0 := j1.2 (by omega)
    have hand : bits .and .u16 (X : Int) ((X : Int) - 1) = 0 := by
      have h5 := (k2 (by omega)).1
      have h6 : X = v := by omega
      rw [← h6] at h5
      rw [show ((X : Int) - 1) = ((X - 1 : Nat) : Int) by omega, u16_and_nat X (X - 1) (by omega) (by omega), h5]; rfl
    have hX9 : 1 ≤ (X : Int) := by omega
    clear hA hB hXA hXe j1 j2 k1 k2 y1 y2 z1 z2 z3 z4 p1 p2 p3 p4 q1 q2 q3 q4 cR cI
    generalize fd (2 * (h : Int) - 31 - (2 * (h' : Int) - 31)) 0 = dR at *
    generalize fd (2 * (l : Int) - 31 - (2 * (l' : Int) - 31)) 0 = dI at *
    go_enter Try.func8, Try.ntmps8
    go_wp2_with (first
      | (go_at_call 10; (refine (awakeC _).mono ?_); rintro o w2 ⟨rfl, hw⟩; obtain rfl := hw.symm)
      | (go_at_call 11; (first | (with_reducible refine (HA.out _).mono ?_; rintro o w2 ⟨rfl, hw⟩; obtain rfl := hw.symm) | (with_reducible refine (HB.out _).mono ?_; rintro o w2 ⟨rfl, hw⟩; obtain rfl := hw.symm)))
      | (go_at_call 16; (first | (with_reducible refine (HGA.out _).mono ?_; rintro o w2 ⟨rfl, hw⟩; obtain rfl := hw.symm) | (with_reducible refine (HGB.out _).mono ?_; rintro o w2 ⟨rfl, hw⟩; obtain rfl := hw.symm)))
      | simp only [ks])
    go_ret
    exact ⟨rfl, Below.refl _ _⟩
  · skip
    rw [decide_eq_false (show ¬ 2 * (h : Int) - 31 - (2 * (h' : Int) - 31) = 2 by omega)] at r1
    rw [decide_eq_false (show ¬ 2 * (h : Int) - 31 - (2 * (h' : Int) - 31) = -2 by omega)] at r2
    rw [decide_eq_true (show 2 * (h : Int) - 31 - (2 * (h' : Int) - 31) = 0 by omega)] at r3
    rw [decide_eq_false (show ¬ 2 * (l : Int) - 31 - (2 * (l' : Int) - 31) = 2 by omega)] at i1
    rw [decide_eq_true (show 2 * (l : Int) - 31 - (2 * (l' : Int) - 31) = -2 by omega)] at i2
    rw [decide_eq_false (show ¬ 2 * (l : Int) - 31 - (2 * (l' : Int) - 31) = 0 by omega)] at i3
    have hAB : (A == B) = false := beq_eq_false_iff_ne.2 (by omega)
    have hXn : X ≠ 0 := fun e => (beq_eq_false_iff_ne.1 hAB) (hXA.1 e)
    have hX0 : ((X : Int) == 0) = false := beq_eq_false_iff_ne.2 (by omega)
    have hX2 : ((X : Int) != 0) = true := bne_iff_ne.2 (by omega)
    have hu0 : u = 0 := j1.2 (by omega)
    have hand : bits .and .u16 (X : Int) ((X : Int) - 1) = 0 := by
      have h5 := (k2 (by omega)).1
      have h6 : X = v := by omega
      rw [← h6] at h5
      rw [show ((X : Int) - 1) = ((X - 1 : Nat) : Int) by omega, u16_and_nat X (X - 1) (by omega) (by omega), h5]; rfl
    have hX9 : 1 ≤ (X : Int) := by omega
    clear hA hB hXA hXe j1 j2 k1 k2 y1 y2 z1 z2 z3 z4 p1 p2 p3 p4 q1 q2 q3 q4 cR cI
    generalize fd (2 * (h : Int) - 31 - (2 * (h' : Int) - 31)) 0 = dR at *
    generalize fd (2 * (l : Int) - 31 - (2 * (l' : Int) - 31)) 0 = dI at *
    go_enter Try.func8, Try.ntmps8
    go_wp2_with (first
      | (go_at_call 10; (refine (awakeC _).mono ?_); rintro o w2 ⟨rfl, hw⟩; obtain rfl := hw.symm)
      | (go_at_call 11; (first | (with_reducible refine (HA.out _).mono ?_; rintro o w2 ⟨rfl, hw⟩; obtain rfl := hw.symm) | (with_reducible refine (HB.out _).mono ?_; rintro o w2 ⟨rfl, hw⟩; obtain rfl := hw.symm)))
      | (go_at_call 16; (first | (with_reducible refine (HGA.out _).mono ?_; rintro o w2 ⟨rfl, hw⟩; obtain rfl := hw.symm) | (with_reducible refine (HGB.out _).mono ?_; rintro o w2 ⟨rfl, hw⟩; obtain rfl := hw.symm)))
      | simp only [ks])
    go_ret
    exact ⟨rfl, Below.refl _ _⟩
  · skip
    rw [decide_eq_false (show ¬ 2 * (h : Int) - 31 - (2 * (h' : Int) - 31) = 2 by omega)] at r1
    rw [decide_eq_false (show ¬ 2 * (h : Int) - 31 - (2 * (h' : Int) - 31) = -2 by omega)] at r2
    rw [decide_eq_true (show 2 * (h : Int) - 31 - (2 * (h' : Int) - 31) = 0 by omega)] at r3
    rw [decide_eq_false (show ¬ 2 * (l : Int) - 31 - (2 * (l' : Int) - 31) = 2 by omega)] at i1
    rw [decide_eq_false (show ¬ 2 * (l : Int) - 31 - (2 * (l' : Int) - 31) = -2 by omega)] at i2
    rw [decide_eq_true (show 2 * (l : Int) - 31 - (2 * (l' : Int) - 31) = 0 by omega)] at i3
    obtain rfl : h = h' := by omega
    obtain rfl : l = l' := by omega
    obtain rfl : A = B := by omega
    have hX' : bits .xor .u16 (GA : Int) (GA : Int) = 0 := by rw [u16_xor_nat GA GA (by omega) (by omega), Nat.xor_self]; rfl
    clear hX hX1
    simp only [Int.sub_self] at ks r1 r2 r3 i1 i2 i3
    clear hA hB hXA hXe j1 j2 k1 k2 y1 y2 z1 z2 p1 p2 p3 p4 cR cI
    generalize fd 0 0 = dR at *
    go_enter Try.func8, Try.ntmps8
    go_wp2_with (first
      | (go_at_call 10; (refine (awakeC _).mono ?_); rintro o w2 ⟨rfl, hw⟩; obtain rfl := hw.symm)
      | (go_at_call 11; (first | (with_reducible refine (HA.out _).mono ?_; rintro o w2 ⟨rfl, hw⟩; obtain rfl := hw.symm) | (with_reducible refine (HB.out _).mono ?_; rintro o w2 ⟨rfl, hw⟩; obtain rfl := hw.symm)))
      | (go_at_call 16; (first | (with_reducible refine (HGA.out _).mono ?_; rintro o w2 ⟨rfl, hw⟩; obtain rfl := hw.symm) | (with_reducible refine (HGB.out _).mono ?_; rintro o w2 ⟨rfl, hw⟩; obtain rfl := hw.symm)))
      | simp only [ks])
    go_ret
    exact ⟨rfl, Below.refl _ _⟩
  · skip
    rw [decide_eq_false (show ¬ 2 * (h : Int) - 31 - (2 * (h' : Int) - 31) = 2 by omega)] at r1
    rw [decide_eq_false (show ¬ 2 * (h : Int) - 31 - (2 * (h' : Int) - 31) = -2 by omega)] at r2
    rw [decide_eq_true (show 2 * (h : Int) - 31 - (2 * (h' : Int) - 31) = 0 by omega)] at r3
    rw [decide_eq_false (show ¬ 2 * (l : Int) - 31 - (2 * (l' : Int) - 31) = 2 by omega)] at i1
    rw [decide_eq_false (show ¬ 2 * (l : Int) - 31 - (2 * (l' : Int) - 31) = -2 by omega)] at i2
    rw [decide_eq_false (show ¬ 2 * (l : Int) - 31 - (2 * (l' : Int) - 31) = 0 by omega)] at i3
    have hAB : (A == B) = false := beq_eq_false_iff_ne.2 (by omega)
    have hXn : X ≠ 0 := fun e => (beq_eq_false_iff_ne.1 hAB) (hXA.1 e)
    have hX0 : ((X : Int) == 0) = false := beq_eq_false_iff_ne.2 (by omega)
    have hX2 : ((X : Int) != 0) = true := bne_iff_ne.2 (by omega)
    clear hA hB hXA hXe j1 j2 k1 k2 y1 y2 z1 z2 z3 z4 p1 p2 p3 p4 q1 q2 q3 q4 cR cI
    generalize fd (2 * (h : Int) - 31 - (2 * (h' : Int) - 31)) 0 = dR at *
    generalize fd (2 * (l : Int) - 31 - (2 * (l' : Int) - 31)) 0 = dI at *
    go_enter Try.func8, Try.ntmps8
    go_wp2_with (first
      | (go_at_call 10; (refine (awakeC _).mono ?_); rintro o w2 ⟨rfl, hw⟩; obtain rfl := hw.symm)
      | (go_at_call 11; (first | (with_reducible refine (HA.out _).mono ?_; rintro o w2 ⟨rfl, hw⟩; obtain rfl := hw.symm) | (with_reducible refine (HB.out _).mono ?_; rintro o w2 ⟨rfl, hw⟩; obtain rfl := hw.symm)))
      | (go_at_call 16; (first | (with_reducible refine (HGA.out _).mono ?_; rintro o w2 ⟨rfl, hw⟩; obtain rfl := hw.symm) | (with_reducible refine (HGB.out _).mono ?_; rintro o w2 ⟨rfl, hw⟩; obtain rfl := hw.symm)))
      | simp only [ks])
    go_ret
    exact ⟨rfl, Below.refl _ _⟩
  · skip
    rw [decide_eq_false (show ¬ 2 * (h : Int) - 31 - (2 * (h' : Int) - 31) = 2 by omega)] at r1
    rw [decide_eq_false (show ¬ 2 * (h : Int) - 31 - (2 * (h' : Int) - 31) = -2 by omega)] at r2
    rw [decide_eq_false (show ¬ 2 * (h : Int) - 31 - (2 * (h' : Int) - 31) = 0 by omega)] at r3
    rw [decide_eq_true (show 2 * (l : Int) - 31 - (2 * (l' : Int) - 31) = 2 by omega)] at i1
    rw [decide_eq_false (show ¬ 2 * (l : Int) - 31 - (2 * (l' : Int) - 31) = -2 by omega)] at i2
    rw [decide_eq_false (show ¬ 2 * (l : Int) - 31 - (2 * (l' : Int) - 31) = 0 by omega)] at i3
    have hAB : (A == B) = false := beq_eq_false_iff_ne.2 (by omega)
    have hXn : X ≠ 0 := fun e => (beq_eq_false_iff_ne.1 hAB) (hXA.1 e)
    have hX0 : ((X : Int) == 0) = false := beq_eq_false_iff_ne.2 (by omega)
    have hX2 : ((X : Int) != 0) = true := bne_iff_ne.2 (by omega)
    clear hA hB hXA hXe j1 j2 k1 k2 y1 y2 z1 z2 z3 z4 p1 p2 p3 p4 q1 q2 q3 q4 cR cI
    generalize fd (2 * (h : Int) - 31 - (2 * (h' : Int) - 31)) 0 = dR at *
    generalize fd (2 * (l : Int) - 31 - (2 * (l' : Int) - 31)) 0 = dI at *
    go_enter Try.func8, Try.ntmps8
    go_wp2_with (first
      | (go_at_call 10; (refine (awakeC _).mono ?_); rintro o w2 ⟨rfl, hw⟩; obtain rfl := hw.symm)
      | (go_at_call 11; (first | (with_reducible refine (HA.out _).mono ?_; rintro o w2 ⟨rfl, hw⟩; obtain rfl := hw.symm) | (with_reducible refine (HB.out _).mono ?_; rintro o w2 ⟨rfl, hw⟩; obtain rfl := hw.symm)))
      | (go_at_call 16; (first | (with_reducible refine (HGA.out _).mono ?_; rintro o w2 ⟨rfl, hw⟩; obtain rfl := hw.symm) | (with_reducible refine (HGB.out _).mono ?_; rintro o w2 ⟨rfl, hw⟩; obtain rfl := hw.symm)))
      | simp only [ks])
    go_ret
    exact ⟨rfl, Below.refl _ _⟩
  · skip
    rw [decide_eq_false (show ¬ 2 * (h : Int) - 31 - (2 * (h' : Int) - 31) = 2 by omega)] at r1
    rw [decide_eq_false (show ¬ 2 * (h : Int) - 31 - (2 * (h' : Int) - 31) = -2 by omega)] at r2
    rw [decide_eq_false (show ¬ 2 * (h : Int) - 31 - (2 * (h' : Int) - 31) = 0 by omega)] at r3
    rw [decide_eq_false (show ¬ 2 * (l : Int) - 31 - (2 * (l' : Int) - 31) = 2 by omega)] at i1
    rw [decide_eq_true (show 2 * (l : Int) - 31 - (2 * (l' : Int) - 31) = -2 by omega)] at i2
    rw [decide_eq_false (show ¬ 2 * (l : Int) - 31 - (2 * (l' : Int) - 31) = 0 by omega)] at i3
    have hAB : (A == B) = false := beq_eq_false_iff_ne.2 (by omega)
    have hXn : X ≠ 0 := fun e => (beq_eq_false_iff_ne.1 hAB) (hXA.1 e)
    have hX0 : ((X : Int) == 0) = false := beq_eq_false_iff_ne.2 (by omega)
    have hX2 : ((X : Int) != 0) = true := bne_iff_ne.2 (by omega)
    clear hA hB hXA hXe j1 j2 k1 k2 y1 y2 z1 z2 z3 z4 p1 p2 p3 p4 q1 q2 q3 q4 cR cI
    generalize fd (2 * (h : Int) - 31 - (2 * (h' : Int) - 31)) 0 = dR at *
    generalize fd (2 * (l : Int) - 31 - (2 * (l' : Int) - 31)) 0 = dI at *
    go_enter Try.func8, Try.ntmps8
    go_wp2_with (first
      | (go_at_call 10; (refine (awakeC _).mono ?_); rintro o w2 ⟨rfl, hw⟩; obtain rfl := hw.symm)
      | (go_at_call 11; (first | (with_reducible refine (HA.out _).mono ?_; rintro o w2 ⟨rfl, hw⟩; obtain rfl := hw.symm) | (with_reducible refine (HB.out _).mono ?_; rintro o w2 ⟨rfl, hw⟩; obtain rfl := hw.symm)))
      | (go_at_call 16; (first | (with_reducible refine (HGA.out _).mono ?_; rintro o w2 ⟨rfl, hw⟩; obtain rfl := hw.symm) | (with_reducible refine (HGB.out _).mono ?_; rintro o w2 ⟨rfl, hw⟩; obtain rfl := hw.symm)))
      | simp only [ks])
    go_ret
    exact ⟨rfl, Below.refl _ _⟩
  · skip
    rw [decide_eq_false (show ¬ 2 * (h : Int) - 31 - (2 * (h' : Int) - 31) = 2 by omega)] at r1
    rw [decide_eq_false (show ¬ 2 * (h : Int) - 31 - (2 * (h' : Int) - 31) = -2 by omega)] at r2
    rw [decide_eq_false (show ¬ 2 * (h : Int) - 31 - (2 * (h' : Int) - 31) = 0 by omega)] at r3
    rw [decide_eq_false (show ¬ 2 * (l : Int) - 31 - (2 * (l' : Int) - 31) = 2 by omega)] at i1
    rw [decide_eq_false (show ¬ 2 * (l : Int) - 31 - (2 * (l' : Int) - 31) = -2 by omega)] at i2
    rw [decide_eq_true (show 2 * (l : Int) - 31 - (2 * (l' : Int) - 31) = 0 by omega)] at i3
    have hAB : (A == B) = false := beq_eq_false_iff_ne.2 (by omega)
    have hXn : X ≠ 0 := fun e => (beq_eq_false_iff_ne.1 hAB) (hXA.1 e)
    have hX0 : ((X : Int) == 0) = false := beq_eq_false_iff_ne.2 (by omega)
    have hX2 : ((X : Int) != 0) = true := bne_iff_ne.2 (by omega)
    clear hA hB hXA hXe j1 j2 k1 k2 y1 y2 z1 z2 z3 z4 p1 p2 p3 p4 q1 q2 q3 q4 cR cI
    generalize fd (2 * (h : Int) - 31 - (2 * (h' : Int) - 31)) 0 = dR at *
    generalize fd (2 * (l : Int) - 31 - (2 * (l' : Int) - 31)) 0 = dI at *
    go_enter Try.func8, Try.ntmps8
    go_wp2_with (first
      | (go_at_call 10; (refine (awakeC _).mono ?_); rintro o w2 ⟨rfl, hw⟩; obtain rfl := hw.symm)
      | (go_at_call 11; (first | (with_reducible refine (HA.out _).mono ?_; rintro o w2 ⟨rfl, hw⟩; obtain rfl := hw.symm) | (with_reducible refine (HB.out _).mono ?_; rintro o w2 ⟨rfl, hw⟩; obtain rfl := hw.symm)))
      | (go_at_call 16; (first | (with_reducible refine (HGA.out _).mono ?_; rintro o w2 ⟨rfl, hw⟩; obtain rfl := hw.symm) | (with_reducible refine (HGB.out _).mono ?_; rintro o w2 ⟨rfl, hw⟩; obtain rfl := hw.symm)))
      | simp only [ks])
    go_ret
    exact ⟨rfl, Below.refl _ _⟩
  · skip
    rw [decide_eq_false (show ¬ 2 * (h : Int) - 31 - (2 * (h' : Int) - 31) = 2 by omega)] at r1
    rw [decide_eq_false (show ¬ 2 * (h : Int) - 31 - (2 * (h' : Int) - 31) = -2 by omega)] at r2
    rw [decide_eq_false (show ¬ 2 * (h : Int) - 31 - (2 * (h' : Int) - 31) = 0 by omega)] at r3
    rw [decide_eq_false (show ¬ 2 * (l : Int) - 31 - (2 * (l' : Int) - 31) = 2 by omega)] at i1
    rw [decide_eq_false (show ¬ 2 * (l : Int) - 31 - (2 * (l' : Int) - 31) = -2 by omega)] at i2
    rw [decide_eq_false (show ¬ 2 * (l : Int) - 31 - (2 * (l' : Int) - 31) = 0 by omega)] at i3
    have hAB : (A == B) = false := beq_eq_false_iff_ne.2 (by omega)
    have hXn : X ≠ 0 := fun e => (beq_eq_false_iff_ne.1 hAB) (hXA.1 e)
    have hX0 : ((X : Int) == 0) = false := beq_eq_false_iff_ne.2 (by omega)
    have hX2 : ((X : Int) != 0) = true := bne_iff_ne.2 (by omega)
    clear hA hB hXA hXe j1 j2 k1 k2 y1 y2 z1 z2 z3 z4 p1 p2 p3 p4 q1 q2 q3 q4 cR cI
    generalize fd (2 * (h : Int) - 31 - (2 * (h' : Int) - 31)) 0 = dR at *
    generalize fd (2 * (l : Int) - 31 - (2 * (l' : Int) - 31)) 0 = dI at *
    go_enter Try.func8, Try.ntmps8
    go_wp2_with (first
      | (go_at_call 10; (refine (awakeC _).mono ?_); rintro o w2 ⟨rfl, hw⟩; obtain rfl := hw.symm)
      | (go_at_call 11; (first | (with_reducible refine (HA.out _).mono ?_; rintro o w2 ⟨rfl, hw⟩; obtain rfl := hw.symm) | (with_reducible refine (HB.out _).mono ?_; rintro o w2 ⟨rfl, hw⟩; obtain rfl := hw.symm)))
      | (go_at_call 16; (first | (with_reducible refine (HGA.out _).mono ?_; rintro o w2 ⟨rfl, hw⟩; obtain rfl := hw.symm) | (with_reducible refine (HGB.out _).mono ?_; rintro o w2 ⟨rfl, hw⟩; obtain rfl := hw.symm)))
      | simp only [ks])
    go_ret
    exact ⟨rfl, Below.refl _ _⟩
end Go.Proofs.Ytggfmihmpnaboaa.M
