/- Rounded sums and quotients: how near they are; by hand. -/
import Derived.Test.YtggfmihmpnaboaaG
namespace Go.Proofs.Ytggfmihmpnaboaa.M
open Go.RowKit Go.Proofs.YtggfmihmpnaboaaW.PrintWords Go.Proofs.YtggfmihmpnaboaaW.PrintLast Go.Proofs.YtggfmihmpnaboaaW.PrintMore Go.Proofs.Ytggfmihmpnaboaa.Rw Go.Proofs.Ytggfmihmpnaboaa.Fl
set_option linter.unusedVariables false
set_option linter.unusedSimpArgs false
/-- with its sign -/
def sg (neg : Bool) (K : Nat) : Int := if neg then -(K : Int) else K
theorem sg_abs (neg : Bool) (K : Nat) : (sg neg K).natAbs = K := by unfold sg; cases neg <;> simp
theorem sg_neg {neg : Bool} {K : Nat} (h : K ≠ 0) : decide (sg neg K < 0) = neg := by
  unfold sg; cases neg
  · rw [if_neg (by decide)]; exact decide_eq_false (by omega)
  · rw [if_pos rfl]; exact decide_eq_true (by omega)
theorem cut_even (neg : Bool) (n d : Nat) (hd : d ≤ n.log2 + 2) : Ieee.Toward.even.cut neg n d = n / 2 ^ d ∨ Ieee.Toward.even.cut neg n d = n / 2 ^ d + 1 := by
  unfold Ieee.Toward.cut
  simp only [Nat.min_eq_left hd, Nat.shiftLeft_eq, Nat.one_mul]
  cases (decide (2 ^ d < 2 * (n % 2 ^ d)) || (2 ^ d == 2 * (n % 2 ^ d) && n / 2 ^ d % 2 == 1))
  · exact .inl rfl
  · exact .inr rfl
theorem rn1 {T Q : Nat} (hT : T ≤ 1100) (hQ : Q < 2 ^ 53) : T * 2 ^ 52 + (Q + 1) ≤ 2047 * 2 ^ 52 := by omega
theorem rn2 {a m D : Nat} (h1 : a ≤ m + D) (h2 : D * 2 ^ 52 ≤ m) : a * 2 ^ 52 ≤ m * (2 ^ 52 + 1) :=
  Nat.le_trans (Nat.mul_le_mul_right _ h1) (by rw [Nat.add_mul, Nat.mul_add, Nat.mul_one]; exact Nat.add_le_add_left h2 _)
theorem rn3 {a m D : Nat} (h1 : m ≤ a + D) (h2 : D * 2 ^ 52 ≤ m) : m * (2 ^ 52 - 1) ≤ a * 2 ^ 52 := by
  rw [Nat.mul_sub, Nat.mul_one]
  exact Nat.sub_le_of_le_add (Nat.le_trans (Nat.mul_le_mul_right _ h1) (by rw [Nat.add_mul]; exact Nat.add_le_add_left h2 _))
theorem rn4 (T : Nat) : (T + 1) * 2 ^ 52 + 2 ^ 52 = T * 2 ^ 52 + 2 ^ 53 := by omega
theorem round_near (neg : Bool) (m : Nat) (base : Int) (hm : m ≠ 0) (hb : -130 ≤ base) (hb0 : base ≤ 0) (hL : base + m.log2 ≤ 40) (hlow : -26 ≤ base + m.log2) :
    ∃ (K : Nat) (e : Int), Ieee.double.nearest neg m base = fd (sg neg K) e ∧ K ≠ 0 ∧ K < 2 ^ 53 ∧ -78 ≤ e ∧ e ≤ 0 ∧
      (K * 2 ^ (e + 130).toNat) * 2 ^ 52 ≤ (m * 2 ^ (base + 130).toNat) * (2 ^ 52 + 1) ∧ (m * 2 ^ (base + 130).toNat) * (2 ^ 52 - 1) ≤ (K * 2 ^ (e + 130).toNat) * 2 ^ 52 := by
  have hlog := Nat.log2_self_le hm
  have hlog2 : m < 2 ^ (m.log2 + 1) := Nat.lt_log2_self
  generalize hLL : m.log2 = L at *
  by_cases hc : L ≤ 52
  · refine ⟨m, base, ?_, hm, Nat.lt_of_lt_of_le hlog2 (Nat.pow_le_pow_right (by decide) (by omega)), by omega, hb0, Nat.mul_le_mul_left _ (by decide), Nat.mul_le_mul_left _ (by decide)⟩
    rw [fd_eq, sg_abs, sg_neg hm]
  · obtain ⟨d, hd⟩ : ∃ d, L = d + 52 := ⟨L - 52, by omega⟩
    subst hd
    have hp := Nat.two_pow_pos d
    have hK1 : 2 ^ 52 ≤ m / 2 ^ d := (Nat.le_div_iff_mul_le hp).2 (by rw [← Nat.pow_add, Nat.add_comm]; exact hlog)
    have hK2 : m / 2 ^ d < 2 ^ 53 := (Nat.div_lt_iff_lt_mul hp).2 (by rw [← Nat.pow_add]; rw [show 53 + d = d + 52 + 1 by omega]; exact hlog2)
    have hdm := Nat.div_add_mod m (2 ^ d)
    have hmod := Nat.mod_lt m hp
    have hpm : 2 ^ d * 2 ^ 52 ≤ m := by rw [← Nat.pow_add]; exact hlog
    obtain ⟨K0, hK0, hnear⟩ : ∃ K0, (K0 = m / 2 ^ d ∨ K0 = m / 2 ^ d + 1) ∧ Ieee.double.nearest neg m base = Ieee.double.word neg ((base + d + 1074).toNat * 2 ^ 52 + K0) := by
      have hce := cut_even neg m d (by omega)
      refine ⟨_, hce, ?_⟩
      have hlp : Ieee.double.leastPlace = -1074 := by decide
      have hfb : (Ieee.double.fractionBits : Int) = 52 := rfl
      have hbi : Ieee.double.binade = 2 ^ 52 := rfl
      have hir : Ieee.double.infRung = 2047 * 2 ^ 52 := by decide
      unfold Ieee.Format.nearest
      rw [if_neg hm, hLL]
      simp only [hlp, hfb, hbi, hir]
      have hlast : max (base + ((d + 52 : Nat) : Int) - 52) (-1074) = base + d := by omega
      rw [hlast]
      have e1 : (base - (base + d)).toNat = 0 := by omega
      have e2 : ((base + d) - base).toNat = d := by omega
      rw [e1, e2, Nat.shiftLeft_eq, Nat.pow_zero, Nat.mul_one]
      have e4 : (base + d - -1074).toNat = (base + d + 1074).toNat := by omega
      have e5 : (base + d + 1074).toNat ≤ 1100 := by omega
      rw [e4, Nat.min_eq_left]
      rcases hce with h | h
      · rw [h]; exact Nat.le_trans (Nat.add_le_add_left (Nat.le_succ _) _) (rn1 e5 hK2)
      · rw [h]; exact rn1 e5 hK2
    have hval : ∀ (K : Nat) (e : Int) (c : Nat), e = base + d + c → K * 2 ^ c = K0 → (K * 2 ^ (e + 130).toNat) = (K0 * 2 ^ d) * 2 ^ (base + 130).toNat := by
      intro K e c he hKc
      rw [← hKc, Nat.mul_assoc, Nat.mul_assoc, ← Nat.pow_add, ← Nat.pow_add]; congr 2; omega
    have hup : (K0 * 2 ^ d) * 2 ^ 52 ≤ m * (2 ^ 52 + 1) := by
      have h1 : K0 * 2 ^ d ≤ m + 2 ^ d := by
        rcases hK0 with h | h
        · rw [h, Nat.mul_comm]; omega
        · rw [h, Nat.add_mul, Nat.one_mul, Nat.mul_comm]; omega
      exact rn2 h1 hpm
    have hdn : m * (2 ^ 52 - 1) ≤ (K0 * 2 ^ d) * 2 ^ 52 := by
      have h1 : m ≤ K0 * 2 ^ d + 2 ^ d := by
        rcases hK0 with h | h
        · rw [h, Nat.mul_comm]; omega
        · rw [h, Nat.add_mul, Nat.one_mul, Nat.mul_comm]; omega
      exact rn3 h1 hpm
    have hfin : ∀ (K : Nat) (e : Int) (c : Nat), e = base + d + c → K * 2 ^ c = K0 → (K * 2 ^ (e + 130).toNat) * 2 ^ 52 ≤ (m * 2 ^ (base + 130).toNat) * (2 ^ 52 + 1) ∧ (m * 2 ^ (base + 130).toNat) * (2 ^ 52 - 1) ≤ (K * 2 ^ (e + 130).toNat) * 2 ^ 52 := by
      intro K e c he hKc
      rw [hval K e c he hKc]
      generalize 2 ^ (base + 130).toNat = B
      refine ⟨?_, ?_⟩
      · have := Nat.mul_le_mul_right B hup
        rw [Nat.mul_right_comm (K0 * 2 ^ d) B, Nat.mul_right_comm m B]; exact this
      · have := Nat.mul_le_mul_right B hdn
        rw [Nat.mul_right_comm (K0 * 2 ^ d) B, Nat.mul_right_comm m B]; exact this
    have hw : ∀ (K : Nat) (e : Int), K ≠ 0 → K < 2 ^ 53 → -1000 ≤ e → e ≤ 100 → fd (sg neg K) e = Ieee.double.word neg (rungOf K e) := by
      intro K e h0 h1 h2 h3
      have h := fd_word (v := sg neg K) (e := e) (by rw [sg_abs]; exact h1) (by omega) (by omega)
      rw [sg_neg h0] at h
      rw [h]; unfold rung
      rw [if_neg (by intro h4; have := sg_abs neg K; rw [h4] at this; simp at this; omega), sg_abs]
    by_cases hk : K0 < 2 ^ 53
    · have hk52 : 2 ^ 52 ≤ K0 := by rcases hK0 with h | h <;> omega
      have hl2 : K0.log2 = 52 := (Nat.log2_eq_iff (by omega)).2 ⟨hk52, hk⟩
      have hf := hfin K0 (base + d) 0 (by omega) (by rw [Nat.pow_zero, Nat.mul_one])
      refine ⟨K0, base + d, ?_, by omega, hk, by omega, by omega, hf.1, hf.2⟩
      rw [hnear, hw K0 _ (by omega) hk (by omega) (by omega)]
      unfold rungOf
      rw [hl2, Nat.sub_self, Nat.pow_zero, Nat.mul_one]
      have : (base + d + ((52 : Nat) : Int) + 1022).toNat = (base + d + 1074).toNat := by omega
      rw [this]
    · have hk3 : K0 = 2 ^ 53 := by rcases hK0 with h | h <;> omega
      have hl2 : (2 ^ 52 : Nat).log2 = 52 := Nat.log2_two_pow
      have hf := hfin (2 ^ 52) (base + d + 1) 1 (by omega) (by rw [hk3])
      refine ⟨2 ^ 52, base + d + 1, ?_, by decide, by decide, by omega, by omega, hf.1, hf.2⟩
      rw [hnear, hw (2 ^ 52) _ (by decide) (by decide) (by omega) (by omega)]
      unfold rungOf
      rw [hl2, Nat.sub_self, Nat.pow_zero, Nat.mul_one, hk3]
      have : (base + d + 1 + ((52 : Nat) : Int) + 1022).toNat = (base + d + 1074).toNat + 1 := by omega
      rw [this, ← rn4]
/-- a word whose value, at the scale of 2 to the -130, is V -/
def Vf (x : Nat) (V : Int) : Prop := ∃ (K e : Int), x = fd K e ∧ K ≠ 0 ∧ K.natAbs < 2 ^ 53 ∧ -78 ≤ e ∧ e ≤ 0 ∧ V = K * 2 ^ (e + 130).toNat
theorem Vf.read {x : Nat} {V : Int} (h : Vf x V) : ∃ m i, Ieee.double.read x = .number (decide (V < 0)) m i ∧ -130 ≤ i ∧ i ≤ 0 ∧ V.natAbs = m * 2 ^ (i + 130).toNat := by
  obtain ⟨K, e, rfl, h0, h53, h1, h2, rfl⟩ := h
  have hl := lg_le h0 h53
  refine ⟨_, _, (read_fd K e h0 h53 (by clear h53; omega) (by clear h53; omega)).trans (by rw [neg_mul_pow]), by clear h53; omega, by clear h53; omega, ?_⟩
  rw [abs_mul_pow, Nat.mul_assoc, ← Nat.pow_add]; congr 2; clear h53; omega
theorem Vf.ne {x : Nat} {V : Int} (h : Vf x V) : V ≠ 0 := by
  obtain ⟨K, e, rfl, h0, h53, h1, h2, rfl⟩ := h
  intro h; exact h0 ((mul_pow_zero K _).1 h)
theorem signed_V {V : Int} {m : Nat} {i base : Int} (hm : V.natAbs = m * 2 ^ (i + 130).toNat) (h1 : base ≤ i) (h2 : -130 ≤ base) : Ieee.signed (decide (V < 0)) m (i - base).toNat * 2 ^ (base + 130).toNat = V := by
  have e : (i + 130).toNat = (i - base).toNat + (base + 130).toNat := by omega
  rw [e, Nat.pow_add, ← Nat.mul_assoc] at hm
  unfold Ieee.signed
  rw [Nat.shiftLeft_eq]
  generalize hA : m * 2 ^ (i - base).toNat = A at *
  have hpp : ((2 ^ (base + 130).toNat : Nat) : Int) = (2 : Int) ^ (base + 130).toNat := Int.natCast_pow 2 _
  have hAi : ((A * 2 ^ (base + 130).toNat : Nat) : Int) = (A : Int) * (2 : Int) ^ (base + 130).toNat := by rw [Int.natCast_mul, hpp]
  by_cases h0 : V < 0
  · rw [decide_eq_true h0, if_pos rfl, Int.neg_mul, ← hAi]; omega
  · rw [decide_eq_false h0, if_neg (by decide), ← hAi]; omega
/-- what rounding leaves: a word, and how near it is -/
theorem near_V (S : Int) (m : Nat) (base : Int) (hS : S.natAbs = m * 2 ^ (base + 130).toNat) (hb : -130 ≤ base) (hb0 : base ≤ 0) (hlo : 2 ^ 104 ≤ S.natAbs) (hhi : S.natAbs < 2 ^ 170) :
    ∃ R, Vf (Ieee.double.nearest (decide (S < 0)) m base) R ∧ (R < 0 ↔ S < 0) ∧ R.natAbs * 2 ^ 52 ≤ S.natAbs * (2 ^ 52 + 1) ∧ S.natAbs * (2 ^ 52 - 1) ≤ R.natAbs * 2 ^ 52 := by
  have hm : m ≠ 0 := by
    intro h; rw [h, Nat.zero_mul] at hS; rw [hS] at hlo; exact absurd hlo (by decide)
  have hl1 := Nat.log2_self_le hm
  have hl2 : m < 2 ^ (m.log2 + 1) := Nat.lt_log2_self
  have hsl : S.natAbs.log2 = m.log2 + (base + 130).toNat := by rw [hS, log2_shift hm]
  have hS0 : S.natAbs ≠ 0 := by intro h; rw [h] at hlo; exact absurd hlo (by decide)
  have hb1 : 104 ≤ S.natAbs.log2 := (Nat.le_log2 hS0).2 hlo
  have hb2 : S.natAbs.log2 < 170 := (Nat.log2_lt hS0).2 hhi
  clear hlo hhi
  obtain ⟨K, e, hn, k0, k53, e1, e2, n1, n2⟩ := round_near (decide (S < 0)) m base hm hb hb0 (by omega) (by omega)
  have hV : (sg (decide (S < 0)) K * 2 ^ (e + 130).toNat).natAbs = K * 2 ^ (e + 130).toNat := by rw [abs_mul_pow, sg_abs]
  refine ⟨sg (decide (S < 0)) K * 2 ^ (e + 130).toNat, ⟨sg (decide (S < 0)) K, e, hn, ?_, by rw [sg_abs]; exact k53, e1, e2, rfl⟩, ?_, ?_, ?_⟩
  · intro h; have := sg_abs (decide (S < 0)) K; rw [h] at this; simp at this; omega
  · have h1 := sg_neg (neg := decide (S < 0)) k0
    have h2 := neg_mul_pow (sg (decide (S < 0)) K) (e + 130).toNat
    rw [h1] at h2
    exact decide_eq_decide.1 h2
  · rw [hV, hS]; exact n1
  · rw [hV, hS]; exact n2
theorem add_V {x y : Nat} {V U : Int} (hx : Vf x V) (hy : Vf y U) (hlo : 2 ^ 104 ≤ (V + U).natAbs) (hhi : (V + U).natAbs < 2 ^ 170) :
    ∃ r R, Ieee.double.add x y = some r ∧ Vf r R ∧ (R < 0 ↔ V + U < 0) ∧ R.natAbs * 2 ^ 52 ≤ (V + U).natAbs * (2 ^ 52 + 1) ∧ (V + U).natAbs * (2 ^ 52 - 1) ≤ R.natAbs * 2 ^ 52 := by
  obtain ⟨m, i, hrx, i1, i2, hm⟩ := hx.read
  obtain ⟨n, j, hry, j1, j2, hn⟩ := hy.read
  have s1 := signed_V (base := min i j) hm (by omega) (by omega)
  have s2 := signed_V (base := min i j) hn (by omega) (by omega)
  have hT : (Ieee.signed (decide (V < 0)) m (i - min i j).toNat + Ieee.signed (decide (U < 0)) n (j - min i j).toNat) * 2 ^ (min i j + 130).toNat = V + U := by rw [Int.add_mul, s1, s2]
  unfold Ieee.Format.add
  rw [hrx, hry]
  simp only [Ieee.Datum.sum, Option.map_some]
  generalize Ieee.signed (decide (V < 0)) m (i - min i j).toNat + Ieee.signed (decide (U < 0)) n (j - min i j).toNat = T at *
  have hT0 : T ≠ 0 := by
    intro h; rw [h, Int.zero_mul] at hT; rw [← hT] at hlo; exact absurd hlo (by decide)
  rw [if_neg hT0]
  have hneg : decide (T < 0) = decide (V + U < 0) := by rw [← hT, neg_mul_pow]
  have habs : (V + U).natAbs = T.natAbs * 2 ^ (min i j + 130).toNat := by rw [← hT, abs_mul_pow]
  obtain ⟨R, h1, h2, h3, h4⟩ := near_V (V + U) T.natAbs (min i j) habs (by omega) (by omega) hlo hhi
  rw [← hneg] at h1
  exact ⟨_, R, rfl, h1, h2, h3, h4⟩
end Go.Proofs.Ytggfmihmpnaboaa.M
