/- A point a little beside a symbol's: its quotient, its sum, its level; by hand. -/
import Derived.Test.YtggfmihmpnaboaaN
namespace Go.Proofs.Ytggfmihmpnaboaa.M
open Go.RowKit Go.Proofs.YtggfmihmpnaboaaW.PrintWords Go.Proofs.YtggfmihmpnaboaaW.PrintLast Go.Proofs.YtggfmihmpnaboaaW.PrintMore Go.Proofs.Ytggfmihmpnaboaa.Rw Go.Proofs.Ytggfmihmpnaboaa.Fl
set_option linter.unusedVariables false
set_option linter.unusedSimpArgs false
theorem lit40k : (4675730371722084352 : Nat) = fd 40000 0 := by rw [fd_eq]; decide +kernel
theorem read40k : Ieee.double.read 4675730371722084352 = .number false (40000 * 2 ^ 37) (-37) := by decide +kernel
theorem dv1 {B X Z W N q r : Nat} (h1 : X * Z = W) (h2 : N * q + r = B * X) : B * W = N * (q * Z) + r * Z := by
  rw [← h1, ← Nat.mul_assoc, ← h2, Nat.add_mul, Nat.mul_assoc]
theorem dv2 {B S Q rZ Z : Nat} (h1 : B * 2 ^ 166 = 40000 * 2 ^ 37 * Q + rZ) (h2 : rZ ≤ 40000 * 2 ^ 37 * Z) (h3 : Z ≤ 2 ^ 75) (h4 : 2 * Q ≤ S) (h5 : S ≤ 2 * Q + Z) : 40000 * S ≤ B * 2 ^ 130 + 2 ^ 92 ∧ B * 2 ^ 130 ≤ 40000 * S + 2 ^ 92 := by
  omega
theorem dv3 {B S : Nat} (u1 : 40000 * S ≤ B * 2 ^ 130 + 2 ^ 92) (u2 : B * 2 ^ 130 ≤ 40000 * S + 2 ^ 92) (h1 : 1 ≤ B) (h2 : B ≤ 32768) : 2 ^ 104 ≤ S ∧ S < 2 ^ 170 := by omega
theorem dv5 {B S R T : Nat} (u1 : 40000 * S ≤ B * 2 ^ 130 + 2 ^ 92) (u2 : B * 2 ^ 130 ≤ 40000 * S + 2 ^ 92) (h2 : B ≤ 32768) (n1 : R * 2 ^ 52 ≤ S * 2 ^ 52 + S) (hT : T + S = S * 2 ^ 52) (n2 : T ≤ R * 2 ^ 52) :
    40000 * R ≤ B * 2 ^ 130 + 2 ^ 100 ∧ B * 2 ^ 130 ≤ 40000 * R + 2 ^ 100 := by omega
theorem tT (S : Nat) : S * (2 ^ 52 - 1) + S = S * 2 ^ 52 := by rw [Nat.mul_sub, Nat.mul_one]; exact Nat.sub_add_cancel (Nat.le_mul_of_pos_right _ (Nat.two_pow_pos 52))
theorem tS (S : Nat) : S * (2 ^ 52 + 1) = S * 2 ^ 52 + S := by rw [Nat.mul_add, Nat.mul_one]
theorem dv4 {B S R : Nat} (u1 : 40000 * S ≤ B * 2 ^ 130 + 2 ^ 92) (u2 : B * 2 ^ 130 ≤ 40000 * S + 2 ^ 92) (h2 : B ≤ 32768) (n1 : R * 2 ^ 52 ≤ S * (2 ^ 52 + 1)) (n2 : S * (2 ^ 52 - 1) ≤ R * 2 ^ 52) :
    40000 * R ≤ B * 2 ^ 130 + 2 ^ 100 ∧ B * 2 ^ 130 ≤ 40000 * R + 2 ^ 100 := dv5 u1 u2 h2 (tS S ▸ n1) (tT S) n2
/-- b / 40000, near -/
theorem div_V {b : Int} (h0 : b ≠ 0) (hb : b.natAbs ≤ 32768) : ∃ d D, Ieee.double.div (fd b 0) 4675730371722084352 = some d ∧ Vf d D ∧ (D < 0 ↔ b < 0) ∧
    40000 * D.natAbs ≤ b.natAbs * 2 ^ 130 + 2 ^ 100 ∧ b.natAbs * 2 ^ 130 ≤ 40000 * D.natAbs + 2 ^ 100 := by
  have h53 : b.natAbs < 2 ^ 53 := by omega
  have hB0 : b.natAbs ≠ 0 := by omega
  unfold Ieee.Format.div
  rw [read_fd b 0 h0 h53 (by decide) (by decide), read40k]
  have hlg : b.natAbs.log2 < 16 := (Nat.log2_lt hB0).2 (by omega)
  have hf : Ieee.double.fractionBits + 2 = 54 := rfl
  have hln : (40000 * 2 ^ 37 : Nat).log2 = 52 := by decide +kernel
  have hlm : (b.natAbs * 2 ^ (52 - b.natAbs.log2)).log2 = 52 := by rw [log2_shift hB0]; omega
  simp only [Ieee.Datum.quotient, hf, hln, hlm]
  rw [if_neg (by decide), Nat.shiftLeft_eq, Bool.xor_false]
  generalize hl : b.natAbs.log2 = l at *
  generalize hB : b.natAbs = B at *
  have hBl := Nat.log2_self_le hB0
  rw [hl] at hBl
  have e54 : 54 + 52 - 52 = 54 := rfl
  rw [e54]
  obtain ⟨q, hq⟩ : ∃ q, B * 2 ^ (52 - l) * 2 ^ 54 / (40000 * 2 ^ 37) = q := ⟨_, rfl⟩
  have hdm := Nat.div_add_mod (B * 2 ^ (52 - l) * 2 ^ 54) (40000 * 2 ^ 37)
  have hmod := Nat.mod_lt (B * 2 ^ (52 - l) * 2 ^ 54) (show 0 < 40000 * 2 ^ 37 by decide)
  rw [hq] at hdm ⊢
  obtain ⟨r, hr⟩ : ∃ r, B * 2 ^ (52 - l) * 2 ^ 54 % (40000 * 2 ^ 37) = r := ⟨_, rfl⟩
  rw [hr] at hdm hmod ⊢
  have hbase : (0 : Int) + (l : Int) - 52 - -37 - ((54 : Nat) : Int) - 1 = (l : Int) - 70 := by omega
  rw [hbase]
  obtain ⟨M, hM⟩ : ∃ M, 2 * q + (r != 0).toNat = M := ⟨_, rfl⟩
  rw [hM]
  have hMq : 2 * q ≤ M ∧ M ≤ 2 * q + 1 := by
    rw [← hM]; cases (r != 0) <;> simp
  -- the value at the scale
  obtain ⟨Z, hZ⟩ : ∃ Z, 2 ^ (l + 60) = Z := ⟨_, rfl⟩
  have hZ1 : Z ≤ 2 ^ 75 := by rw [← hZ]; exact Nat.pow_le_pow_right (by decide) (by omega)
  have hZ0 : 0 < Z := by rw [← hZ]; exact Nat.two_pow_pos _
  have hXZ : (2 ^ (52 - l) * 2 ^ 54) * Z = 2 ^ 166 := by rw [← hZ, ← Nat.pow_add, ← Nat.pow_add, show 52 - l + 54 + (l + 60) = 166 by omega]
  have hD1 := dv1 (B := B) (X := 2 ^ (52 - l) * 2 ^ 54) (Z := Z) (W := 2 ^ 166) (N := 40000 * 2 ^ 37) (q := q) (r := r) hXZ (hdm.trans (Nat.mul_assoc _ _ _))
  have hrZ : r * Z ≤ 40000 * 2 ^ 37 * Z := Nat.mul_le_mul_right _ (Nat.le_of_lt hmod)
  have hMZ1 : 2 * (q * Z) ≤ M * Z := by have := Nat.mul_le_mul_right Z hMq.1; rw [Nat.mul_assoc] at this; exact this
  have hMZ2 : M * Z ≤ 2 * (q * Z) + Z := by have := Nat.mul_le_mul_right Z hMq.2; rw [Nat.add_mul, Nat.mul_assoc, Nat.one_mul] at this; exact this
  have hu := dv2 hD1 hrZ hZ1 hMZ1 hMZ2
  obtain ⟨S, hS⟩ : ∃ S, M * Z = S := ⟨_, rfl⟩
  rw [hS] at hu
  clear hXZ hD1 hrZ hMZ1 hMZ2 hdm hmod
  have hs := dv3 hu.1 hu.2 (by omega) hb
  have hS0 : S ≠ 0 := by intro h; rw [h] at hs; exact absurd hs.1 (by decide)
  have hzz : ((l : Int) - 70 + 130).toNat = l + 60 := by omega
  have hnear := near_V (sg (decide (b < 0)) S) M ((l : Int) - 70) (by rw [sg_abs, hzz, hZ, hS]) (by omega) (by omega) (by rw [sg_abs]; exact hs.1) (by rw [sg_abs]; exact hs.2)
  rw [sg_neg hS0, sg_abs] at hnear
  obtain ⟨R, hR, hsgn, n1, n2⟩ := hnear
  have hfin := dv4 hu.1 hu.2 hb n1 n2
  exact ⟨_, R, rfl, hR, hsgn.trans (decide_eq_decide.1 (sg_neg (neg := decide (b < 0)) hS0)), hfin.1, hfin.2⟩
theorem ni1 {a r T : Nat} (n1 : r * 2 ^ 52 ≤ a * 2 ^ 52 + a) (hT : T + a = a * 2 ^ 52) (n2 : T ≤ r * 2 ^ 52) (hA : a < 2 ^ 136) : r ≤ a + 2 ^ 84 ∧ a ≤ r + 2 ^ 84 := by omega
theorem ni2 {A R : Int} (h : R < 0 ↔ A < 0) (h1 : R.natAbs ≤ A.natAbs + 2 ^ 84) (h2 : A.natAbs ≤ R.natAbs + 2 ^ 84) : R ≤ A + 2 ^ 84 ∧ A ≤ R + 2 ^ 84 := by omega
theorem near_int {A R : Int} (h : R < 0 ↔ A < 0) (n1 : R.natAbs * 2 ^ 52 ≤ A.natAbs * (2 ^ 52 + 1)) (n2 : A.natAbs * (2 ^ 52 - 1) ≤ R.natAbs * 2 ^ 52) (hA : A.natAbs < 2 ^ 136) : R ≤ A + 2 ^ 84 ∧ A ≤ R + 2 ^ 84 := by
  have h3 := ni1 (tS A.natAbs ▸ n1) (tT A.natAbs) n2 hA
  exact ni2 h h3.1 h3.2
theorem bk1 {b D : Int} (h : D < 0 ↔ b < 0) (h1 : 40000 * D.natAbs ≤ b.natAbs * 2 ^ 130 + 2 ^ 100) (h2 : b.natAbs * 2 ^ 130 ≤ 40000 * D.natAbs + 2 ^ 100) : 40000 * D ≤ b * 2 ^ 130 + 2 ^ 100 ∧ b * 2 ^ 130 ≤ 40000 * D + 2 ^ 100 := by omega
theorem bk2 {P b D : Int} (h1 : 40000 * D ≤ b * 2 ^ 130 + 2 ^ 100) (h2 : b * 2 ^ 130 ≤ 40000 * D + 2 ^ 100) (hb0 : -32768 ≤ b) (hb1 : b ≤ 32768) (hP : P ≠ 0) (p0 : -31 ≤ P) (p1 : P ≤ 31) :
    2 ^ 104 ≤ (P * 2 ^ 130 + D).natAbs ∧ (P * 2 ^ 130 + D).natAbs < 2 ^ 136 := by omega
theorem bk3 {P b D R : Int} (h1 : 40000 * D ≤ b * 2 ^ 130 + 2 ^ 100) (h2 : b * 2 ^ 130 ≤ 40000 * D + 2 ^ 100) (r1 : R ≤ P * 2 ^ 130 + D + 2 ^ 84) (r2 : P * 2 ^ 130 + D ≤ R + 2 ^ 84) :
    40000 * R ≤ (40000 * P + b) * 2 ^ 130 + 2 ^ 102 ∧ (40000 * P + b) * 2 ^ 130 ≤ 40000 * R + 2 ^ 102 := by omega
theorem Vf_int {P : Int} (h0 : P ≠ 0) (h : P.natAbs < 2 ^ 53) : Vf (fd P 0) (P * 2 ^ 130) := ⟨P, 0, rfl, h0, h, by decide, by decide, rfl⟩
/-- a little beside a point -/
theorem back_q {P b : Int} (hP : P ≠ 0) (p0 : -31 ≤ P) (p1 : P ≤ 31) (h0 : b ≠ 0) (b0 : -32768 ≤ b) (b1 : b ≤ 32767) :
    ∃ d q R, Ieee.double.div (fd b 0) 4675730371722084352 = some d ∧ Ieee.double.add (fd P 0) d = some q ∧ Vf q R ∧ 40000 * R ≤ (40000 * P + b) * 2 ^ 130 + 2 ^ 102 ∧ (40000 * P + b) * 2 ^ 130 ≤ 40000 * R + 2 ^ 102 := by
  obtain ⟨d, D, hd, hV, hs, h1, h2⟩ := div_V h0 (by omega)
  have hk := bk1 hs h1 h2
  have hr := bk2 hk.1 hk.2 b0 (by omega) hP p0 p1
  obtain ⟨q, R, hq, hR, hs2, n1, n2⟩ := add_V (Vf_int hP (by omega)) hV hr.1 (Nat.lt_trans hr.2 (by decide))
  have hn := near_int hs2 n1 n2 hr.2
  exact ⟨d, q, R, hd, hq, hR, bk3 hk.1 hk.2 hn.1 hn.2⟩
theorem lv0 {P b R n : Int} (h1 : 40000 * R ≤ (40000 * P + b) * 2 ^ 130 + 2 ^ 102) (h2 : (40000 * P + b) * 2 ^ 130 ≤ 40000 * R + 2 ^ 102) (hb0 : -32768 ≤ b) (hb1 : b ≤ 32768) (hP : P = 2 * n - 31) : 2 ^ 122 ≤ R.natAbs := by
  have hc : 1 ≤ P ∨ P ≤ -1 := by omega
  clear hP
  rcases hc with hc | hc <;> omega
theorem lv1 {P b R Y : Int} (h1 : 40000 * R ≤ (40000 * P + b) * 2 ^ 130 + 2 ^ 102) (h2 : (40000 * P + b) * 2 ^ 130 ≤ 40000 * R + 2 ^ 102) (hY : 2 * Y = R) (hb0 : -32768 ≤ b) (hb1 : b ≤ 32768) (p0 : -31 ≤ P) (p1 : P ≤ 31) :
    2 ^ 104 ≤ (16 * 2 ^ 130 + Y).natAbs ∧ (16 * 2 ^ 130 + Y).natAbs < 2 ^ 136 := by omega
theorem lv2 {P b R Y Z n : Int} (h1 : 40000 * R ≤ (40000 * P + b) * 2 ^ 130 + 2 ^ 102) (h2 : (40000 * P + b) * 2 ^ 130 ≤ 40000 * R + 2 ^ 102) (hY : 2 * Y = R) (hb0 : -32768 ≤ b) (hb1 : b ≤ 32768)
    (z1 : Z ≤ 16 * 2 ^ 130 + Y + 2 ^ 84) (z2 : 16 * 2 ^ 130 + Y ≤ Z + 2 ^ 84) (hP : P = 2 * n - 31) : n * 2 ^ 130 ≤ Z ∧ Z < (n + 1) * 2 ^ 130 := by omega
theorem pw {a b : Nat} (h : a ≤ b) : (2 : Int) ^ b = 2 ^ (b - a) * 2 ^ a := by rw [← Int.pow_add, Nat.sub_add_cancel h]
theorem back_lev {q : Nat} {P b R n : Int} (hq : Vf q R) (h1 : 40000 * R ≤ (40000 * P + b) * 2 ^ 130 + 2 ^ 102) (h2 : (40000 * P + b) * 2 ^ 130 ≤ 40000 * R + 2 ^ 102) (hb0 : -32768 ≤ b) (hb1 : b ≤ 32768) (hP : P = 2 * n - 31) (n0 : 0 ≤ n) (n1 : n ≤ 31) : Lev q n := by
  obtain ⟨K, e, rfl, k0, k53, e1, e2, hR⟩ := hq
  -- the exponent is not too low
  have hbig := lv0 h1 h2 hb0 hb1 hP
  have he : -70 ≤ e := by
    rcases Int.lt_or_le e (-70) with h | h
    · exfalso
      rw [hR, abs_mul_pow] at hbig
      have hp : 2 ^ (e + 130).toNat ≤ 2 ^ 69 := Nat.pow_le_pow_right (by decide) (by omega)
      have h3 : K.natAbs * 2 ^ (e + 130).toNat < 2 ^ 53 * 2 ^ 69 := Nat.lt_of_lt_of_le (Nat.mul_lt_mul_of_pos_right k53 (Nat.two_pow_pos _)) (Nat.mul_le_mul_left _ hp)
      have h4 : (2 : Nat) ^ 53 * 2 ^ 69 = 2 ^ 122 := by decide +kernel
      rw [h4] at h3
      exact Nat.lt_irrefl _ (Nat.lt_of_lt_of_le h3 hbig)
    · exact h
  have hYe : (e + 130).toNat = (e - 1 + 130).toNat + 1 := by omega
  have hY : 2 * (K * 2 ^ (e - 1 + 130).toNat) = R := by rw [hR, hYe, Int.pow_succ, Int.mul_comm ((2 : Int) ^ _) 2, ← Int.mul_assoc, ← Int.mul_assoc, Int.mul_comm 2 K]
  have hVy : Vf (fd K (e - 1)) (K * 2 ^ (e - 1 + 130).toNat) := ⟨K, e - 1, rfl, k0, k53, by omega, by omega, rfl⟩
  have hd := half_fd (v := K) (e := e) k53 (by clear hbig k53; omega) (by clear hbig k53; omega)
  clear hR hYe hbig
  generalize K * 2 ^ (e - 1 + 130).toNat = Y at *
  have hl := lv1 h1 h2 hY hb0 hb1 (by omega) (by omega)
  obtain ⟨z, Z, hz, hVz, hs, m1, m2⟩ := add_V (Vf_int (P := 16) (by decide) (by decide)) hVy hl.1 (Nat.lt_trans hl.2 (by decide))
  have hn := near_int hs m1 m2 hl.2
  have hf := lv2 h1 h2 hY hb0 hb1 hn.1 hn.2 hP
  obtain ⟨K2, f, rfl, k20, k253, f1, f2, hZ⟩ := hVz
  refine ⟨_, _, K2, f, hd, hz, is_fd K2 f k253 (by omega) (by omega), f2, ?_, by omega⟩
  have hk : (2 : Int) ^ 130 = 2 ^ (-f).toNat * 2 ^ (f + 130).toNat := by rw [← Int.pow_add]; congr 1; omega
  have hpp := pow_pos' (f + 130).toNat
  have hpf := pow_pos' (-f).toNat
  rw [hZ, hk, ← Int.mul_assoc, ← Int.mul_assoc] at hf
  have a1 := Int.le_of_mul_le_mul_right hf.1 hpp
  have a2 := Int.lt_of_mul_lt_mul_right hf.2 (Int.le_of_lt hpp)
  have c1 := (Int.le_ediv_iff_mul_le hpf).2 a1
  have c2 := (Int.ediv_lt_iff_lt_mul hpf).2 a2
  omega
theorem od1 {P b R t : Int} (h1 : 40000 * R ≤ (40000 * P + b) * 2 ^ 130 + 2 ^ 102) (h2 : (40000 * P + b) * 2 ^ 130 ≤ 40000 * R + 2 ^ 102) (hR : R = t * 2 ^ 130) : 40000 * (t - P) = b := by
  subst hR
  have c1 : 40000 * (t - P) - b < 1 := by omega
  have c2 : -1 < 40000 * (t - P) - b := by omega
  omega
/-- it is none of the grid's -/
theorem back_odd {q : Nat} {P b R n : Int} (hq : Vf q R) (h1 : 40000 * R ≤ (40000 * P + b) * 2 ^ 130 + 2 ^ 102) (h2 : (40000 * P + b) * 2 ^ 130 ≤ 40000 * R + 2 ^ 102) (hb0 : -32768 ≤ b) (hb1 : b ≤ 32768) (h0 : b ≠ 0) (hP : P = 2 * n - 31) :
    ∃ (K : Int) (s : Nat), q = fd K (-(s : Int)) ∧ s ≤ 60 ∧ K.natAbs < 2 ^ 53 ∧ oddB K s = false := by
  obtain ⟨K, e, rfl, k0, k53, e1, e2, hR⟩ := hq
  have hbig := lv0 h1 h2 hb0 hb1 hP
  have he : -60 ≤ e := by
    rcases Int.lt_or_le e (-60) with h | h
    · exfalso
      rw [hR, abs_mul_pow] at hbig
      have hp : 2 ^ (e + 130).toNat ≤ 2 ^ 69 := Nat.pow_le_pow_right (by decide) (by omega)
      have h3 : K.natAbs * 2 ^ (e + 130).toNat < 2 ^ 53 * 2 ^ 69 := Nat.lt_of_lt_of_le (Nat.mul_lt_mul_of_pos_right k53 (Nat.two_pow_pos _)) (Nat.mul_le_mul_left _ hp)
      have h4 : (2 : Nat) ^ 53 * 2 ^ 69 = 2 ^ 122 := by decide +kernel
      rw [h4] at h3
      exact Nat.lt_irrefl _ (Nat.lt_of_lt_of_le h3 hbig)
    · exact h
  obtain ⟨s, hs⟩ : ∃ s : Nat, e = -(s : Int) := ⟨(-e).toNat, by omega⟩
  subst hs
  refine ⟨K, s, rfl, by omega, k53, ?_⟩
  unfold oddB
  by_cases hm : K.natAbs % 2 ^ (s + 1) = 2 ^ s
  · exfalso
    have hd := Nat.div_add_mod K.natAbs (2 ^ (s + 1))
    rw [hm, Nat.pow_succ, Nat.mul_assoc] at hd
    generalize K.natAbs / (2 ^ s * 2) = c at *
    have hK : K.natAbs = (2 * c + 1) * 2 ^ s := by rw [← hd, Nat.add_mul, Nat.one_mul, Nat.mul_comm (2 * c)]
    have hpe : (2 : Int) ^ s * 2 ^ (-(s : Int) + 130).toNat = 2 ^ 130 := by rw [← Int.pow_add]; congr 1; omega
    have hKi : K = ((2 * c + 1 : Nat) : Int) * 2 ^ s ∨ K = -((2 * c + 1 : Nat) : Int) * 2 ^ s := by
      have hc : ((K.natAbs : Nat) : Int) = ((2 * c + 1 : Nat) : Int) * (2 : Int) ^ s := by rw [hK, Int.natCast_mul, Int.natCast_pow]; rfl
      rcases Int.natAbs_eq K with h | h
      · left; rw [h]; exact hc
      · right; rw [h, hc, Int.neg_mul]
    have hfin : ∀ t : Int, K = t * 2 ^ s → False := by
      intro t ht
      rw [ht, Int.mul_assoc, hpe] at hR
      have := od1 h1 h2 hR
      omega
    rcases hKi with h | h
    · exact hfin _ h
    · exact hfin _ h
  · rw [decide_eq_false hm, Bool.and_false]
/-- all of a part, whatever it is off -/
theorem back_part {n b : Int} (n0 : 0 ≤ n) (n1 : n ≤ 31) (b0 : -32768 ≤ b) (b1 : b ≤ 32767) :
    ∃ (d q : Nat) (K : Int) (s : Nat), Ieee.double.div (fd b 0) 4675730371722084352 = some d ∧ Ieee.double.add (fd (2 * n - 31) 0) d = some q ∧ Lev q n ∧ q = fd K (-(s : Int)) ∧ s ≤ 60 ∧ K.natAbs < 2 ^ 53 ∧ oddB K s = decide (b = 0) := by
  by_cases h0 : b = 0
  · subst h0
    refine ⟨0, fd (2 * n - 31) 0, 2 * n - 31, 0, by rw [fd_zero]; decide +kernel, ?_, ?_, rfl, by decide, by omega, ?_⟩
    · have h := add_is (is_fd (2 * n - 31) 0 (by omega) (by decide) (by decide)) (is_fd 0 0 (by decide) (by decide) (by decide)) (by omega) (by decide) (by decide)
      rw [fd_zero, Int.add_zero] at h; exact h
    · have h := lev_int (v := 2 * n - 31) (by omega)
      rw [show (2 * n - 31 + 32) / 2 = n by omega] at h; exact h
    · unfold oddB
      rw [decide_eq_true (by omega), decide_eq_true (by omega), decide_eq_true rfl]; rfl
  · obtain ⟨d, q, R, h1, h2, hR, h3, h4⟩ := back_q (P := 2 * n - 31) (b := b) (by omega) (by omega) (by omega) h0 b0 b1
    obtain ⟨K, s, h5, h6, h7, h8⟩ := back_odd hR h3 h4 b0 (by omega) h0 rfl
    exact ⟨d, q, K, s, h1, h2, back_lev hR h3 h4 b0 (by omega) rfl n0 n1, h5, h6, h7, by rw [h8, decide_eq_false h0]⟩
end Go.Proofs.Ytggfmihmpnaboaa.M
