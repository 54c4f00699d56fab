import Derived.Laws.ComplexArith
namespace Go.Proofs.YthdmeffjiljdeaaDoor.Fl
open Ieee
set_option linter.unusedVariables false
set_option linter.unusedSimpArgs false
/-- the word of v times 2 to the e -/
theorem fd_ex : ∃ f : Int → Int → Nat, ∀ v e, f v e = double.nearest (decide (v < 0)) v.natAbs e := ⟨fun v e => double.nearest (decide (v < 0)) v.natAbs e, fun _ _ => rfl⟩
noncomputable def fd : Int → Int → Nat := Classical.choose fd_ex
theorem fd_eq (v e : Int) : fd v e = double.nearest (decide (v < 0)) v.natAbs e := Classical.choose_spec fd_ex v e
/-- what a word stands for: v times 2 to the e -/
def Is (b : Nat) (v e : Int) : Prop := ∃ m i, double.read b = .number (decide (v < 0)) m i ∧ i ≤ e ∧ m = v.natAbs * 2 ^ (e - i).toNat
theorem fd_int (n : Int) : floatOfInt .f64 n = fd n 0 := (fd_eq n 0).symm
theorem log2_shift {m k : Nat} (hm : m ≠ 0) : (m * 2 ^ k).log2 = m.log2 + k := by
  have hp : 0 < 2 ^ k := Nat.two_pow_pos k
  have h0 : m * 2 ^ k ≠ 0 := Nat.ne_of_gt (Nat.mul_pos (Nat.pos_of_ne_zero hm) hp)
  rw [Nat.log2_eq_iff h0]
  refine ⟨?_, ?_⟩
  · rw [Nat.pow_add]; exact Nat.mul_le_mul_right _ (Nat.log2_self_le hm)
  · have h2 : m.log2 + k + 1 = (m.log2 + 1) + k := by omega
    rw [h2, Nat.pow_add]; exact Nat.mul_lt_mul_of_pos_right Nat.lt_log2_self hp
theorem cut_exact (way : Toward) (neg : Bool) (a d : Nat) (ha : a ≠ 0) : way.cut neg (a * 2 ^ d) d = a := by
  have hl : d ≤ (a * 2 ^ d).log2 + 2 := by rw [log2_shift ha]; omega
  have h0 : a * 2 ^ d / 2 ^ d = a := Nat.mul_div_cancel _ (Nat.two_pow_pos d)
  have h1 : a * 2 ^ d % 2 ^ d = 0 := Nat.mul_mod_left _ _
  have hp := Nat.two_pow_pos d
  unfold Toward.cut
  simp only [Nat.min_eq_left hl, Nat.shiftLeft_eq, Nat.one_mul, h0, h1]
  cases way <;> simp <;> omega
/-- the rung of m times 2 to the p -/
def rungOf (m : Nat) (p : Int) : Nat := (p + m.log2 + 1022).toNat * 2 ^ 52 + m * 2 ^ (52 - m.log2)
theorem nearest_exact (neg : Bool) (m k : Nat) (p : Int) (hm : m ≠ 0) (h53 : m < 2 ^ 53) (h1 : -1022 ≤ p + k + m.log2) (h2 : p + k + m.log2 ≤ 1000) :
    double.nearest neg (m * 2 ^ k) p = double.word neg (rungOf m (p + k)) := by
  have hl : m.log2 ≤ 52 := by
    have := (Nat.log2_lt hm).2 h53; omega
  have h0 : m * 2 ^ k ≠ 0 := Nat.ne_of_gt (Nat.mul_pos (Nat.pos_of_ne_zero hm) (Nat.two_pow_pos k))
  have hlp : double.leastPlace = -1074 := by decide
  have hfb : (double.fractionBits : Int) = 52 := rfl
  have hbi : double.binade = 2 ^ 52 := rfl
  have hir : double.infRung = 2047 * 2 ^ 52 := by decide
  unfold Format.nearest
  rw [if_neg h0, log2_shift hm]
  simp only [hlp, hfb, hbi, hir]
  have hlast : max (p + ((m.log2 + k : Nat) : Int) - 52) (-1074) = p + k + m.log2 - 52 := by omega
  rw [hlast]
  have hk : Toward.even.cut neg ((m * 2 ^ k) <<< (p - (p + k + m.log2 - 52)).toNat) ((p + k + m.log2 - 52) - p).toNat = m * 2 ^ (52 - m.log2) := by
    by_cases hc : m.log2 + k ≤ 52
    · have e1 : (p - (p + k + m.log2 - 52)).toNat = 52 - m.log2 - k := by omega
      have e2 : ((p + k + m.log2 - 52) - p).toNat = 0 := by omega
      rw [e1, e2, Nat.shiftLeft_eq]
      have e3 : m * 2 ^ k * 2 ^ (52 - m.log2 - k) = m * 2 ^ (52 - m.log2) * 2 ^ 0 := by
        rw [Nat.mul_assoc, ← Nat.pow_add, Nat.pow_zero, Nat.mul_one]; congr 2; omega
      rw [e3]
      exact cut_exact _ _ _ _ (Nat.ne_of_gt (Nat.mul_pos (Nat.pos_of_ne_zero hm) (Nat.two_pow_pos _)))
    · have e1 : (p - (p + k + m.log2 - 52)).toNat = 0 := by omega
      have e2 : ((p + k + m.log2 - 52) - p).toNat = m.log2 + k - 52 := by omega
      rw [e1, e2, Nat.shiftLeft_eq, Nat.pow_zero, Nat.mul_one]
      have e3 : m * 2 ^ k = m * 2 ^ (52 - m.log2) * 2 ^ (m.log2 + k - 52) := by
        rw [Nat.mul_assoc, ← Nat.pow_add]; congr 2; omega
      rw [e3]
      exact cut_exact _ _ _ _ (Nat.ne_of_gt (Nat.mul_pos (Nat.pos_of_ne_zero hm) (Nat.two_pow_pos _)))
  rw [hk]
  have hkl : m * 2 ^ (52 - m.log2) < 2 ^ 53 := by
    have : m < 2 ^ (m.log2 + 1) := Nat.lt_log2_self
    have h2 : 2 ^ (m.log2 + 1) * 2 ^ (52 - m.log2) = 2 ^ 53 := by rw [← Nat.pow_add]; congr 1; omega
    rw [← h2]; exact Nat.mul_lt_mul_of_pos_right this (Nat.two_pow_pos _)
  have e4 : (p + k + m.log2 - 52 - -1074).toNat = (p + k + m.log2 + 1022).toNat := by omega
  have e5 : (p + k + m.log2 + 1022).toNat ≤ 2022 := by omega
  unfold rungOf
  rw [e4, Nat.min_eq_left]
  omega
theorem fd_zero (e : Int) : fd 0 e = 0 := by
  rw [fd_eq]
  unfold Format.nearest
  rw [if_pos (show Int.natAbs 0 = 0 from rfl)]
  unfold Format.word
  rw [if_neg (by decide)]
theorem fd_shift (v : Int) (k : Nat) (p e : Int) (he : e = p + k) (h53 : v.natAbs < 2 ^ 53) (h1 : -1022 ≤ e) (h2 : e ≤ 900) :
    double.nearest (decide (v < 0)) (v.natAbs * 2 ^ k) p = fd v e := by
  subst he
  by_cases h0 : v = 0
  · subst h0
    clear h53
    rw [fd_zero]
    have hz : Int.natAbs 0 * 2 ^ k = 0 := Nat.zero_mul _
    rw [hz]
    unfold Format.nearest
    rw [if_pos (Eq.refl 0)]
    unfold Format.word
    rw [if_neg (by decide)]
  · have hm : v.natAbs ≠ 0 := by clear h53; omega
    have hl : v.natAbs.log2 ≤ 52 := by have h3 := (Nat.log2_lt hm).2 h53; clear h53; omega
    have hz := nearest_exact (decide (v < 0)) v.natAbs 0 (p + k) hm h53 (by clear h53; omega) (by clear h53; omega)
    rw [nearest_exact _ _ _ _ hm h53 (by clear h53; omega) (by clear h53; omega)]
    rw [fd_eq]
    rw [Nat.pow_zero, Nat.mul_one] at hz
    rw [hz, show p + (k : Int) + ((0 : Nat) : Int) = p + (k : Int) by clear h53; omega]
theorem read_word (s : Bool) (r : Nat) (h : r < 2 ^ 63) : double.read (double.word s r) = if r < 2 ^ 52 then .number s r (-1074) else if r < 2047 * 2 ^ 52 then .number s (2 ^ 52 + r % 2 ^ 52) (-1074 + (r / 2 ^ 52 - 1 : Nat)) else if r = 2047 * 2 ^ 52 then .infinity s else .nan s (r - 2047 * 2 ^ 52) := by
  have hsw : double.signWeight = 2 ^ 63 := by decide +kernel
  have hlp : double.leastPlace = -1074 := by decide
  have hbi : double.binade = 2 ^ 52 := rfl
  have hir : double.infRung = 2047 * 2 ^ 52 := by decide
  unfold Format.read Format.word
  rw [hsw, hlp, hbi, hir]
  cases s
  · have e1 : r % 2 ^ 63 = r := Nat.mod_eq_of_lt h
    have e2 : r / 2 ^ 63 = 0 := Nat.div_eq_of_lt h
    simp only [Bool.false_eq_true, if_false, e1, e2]
    rfl
  · have e1 : (2 ^ 63 + r) % 2 ^ 63 = r := by rw [Nat.add_mod_left]; exact Nat.mod_eq_of_lt h
    have e2 : (2 ^ 63 + r) / 2 ^ 63 = 1 := by rw [Nat.add_div_left _ (Nat.two_pow_pos _), Nat.div_eq_of_lt h]
    simp only [if_true, e1, e2]
    rfl
theorem read_fd (v e : Int) (h0 : v ≠ 0) (h53 : v.natAbs < 2 ^ 53) (h1 : -1022 ≤ e) (h2 : e ≤ 900) : double.read (fd v e) = .number (decide (v < 0)) (v.natAbs * 2 ^ (52 - v.natAbs.log2)) (e + v.natAbs.log2 - 52) := by
  have hm : v.natAbs ≠ 0 := by clear h53; omega
  have hl : v.natAbs.log2 ≤ 52 := by have h3 := (Nat.log2_lt hm).2 h53; clear h53; omega
  have hz := nearest_exact (decide (v < 0)) v.natAbs 0 e hm h53 (by clear h53; omega) (by clear h53; omega)
  rw [Nat.pow_zero, Nat.mul_one] at hz
  have hfd : fd v e = double.word (decide (v < 0)) (rungOf v.natAbs (e + (0 : Nat))) := (fd_eq v e).trans hz
  rw [hfd]
  generalize hs : decide (v < 0) = s
  generalize hmm : v.natAbs = m at *
  have hlo : 2 ^ 52 ≤ m * 2 ^ (52 - m.log2) := by
    have h3 := Nat.log2_self_le hm
    have h4 : 2 ^ m.log2 * 2 ^ (52 - m.log2) = 2 ^ 52 := by rw [← Nat.pow_add, Nat.add_sub_cancel' hl]
    rw [← h4]; exact Nat.mul_le_mul_right _ h3
  have hhi : m * 2 ^ (52 - m.log2) < 2 ^ 53 := by
    have h3 : m < 2 ^ (m.log2 + 1) := Nat.lt_log2_self
    have h4 : 2 ^ (m.log2 + 1) * 2 ^ (52 - m.log2) = 2 ^ 53 := by rw [← Nat.pow_add]; congr 1; omega
    rw [← h4]; exact Nat.mul_lt_mul_of_pos_right h3 (Nat.two_pow_pos _)
  have hT : (e + (0 : Nat) + m.log2 + 1022).toNat ≤ 2022 := by clear hlo hhi h53; omega
  have hT2 : (((e + (0 : Nat) + m.log2 + 1022).toNat : Nat) : Int) = e + m.log2 + 1022 := by clear hlo hhi h53; omega
  unfold rungOf
  generalize hM : m * 2 ^ (52 - m.log2) = M at *
  generalize hTT : (e + (0 : Nat) + m.log2 + 1022).toNat = T at *
  clear h53 hM hTT hmm hfd hz
  have hd : (T * 2 ^ 52 + M) / 2 ^ 52 = T + 1 := by omega
  have hr : (T * 2 ^ 52 + M) % 2 ^ 52 = M - 2 ^ 52 := by omega
  rw [read_word _ _ (by omega), if_neg (by omega), if_pos (by omega), hd, hr]
  have e1 : 2 ^ 52 + (M - 2 ^ 52) = M := by omega
  have e2 : (-1074 : Int) + ((T + 1 - 1 : Nat) : Int) = e + m.log2 - 52 := by clear hlo hhi hd hr e1; omega
  rw [e1, e2]
theorem is_fd (v e : Int) (h53 : v.natAbs < 2 ^ 53) (h1 : -1022 ≤ e) (h2 : e ≤ 900) : Is (fd v e) v e := by
  by_cases h0 : v = 0
  · subst h0
    rw [fd_zero]
    exact ⟨0, -1074, by decide +kernel, by omega, (Nat.zero_mul _).symm⟩
  · have hm : v.natAbs ≠ 0 := by clear h53; omega
    have hl : v.natAbs.log2 ≤ 52 := by have h3 := (Nat.log2_lt hm).2 h53; clear h53; omega
    refine ⟨_, _, read_fd v e h0 h53 h1 h2, by clear h53; omega, ?_⟩
    congr 2; clear h53; omega
/-! The operations. -/
section
variable {x y : Nat} {v u e : Int}
theorem signed_is {v : Int} {m k : Nat} (h : m = v.natAbs * 2 ^ k) (j : Nat) : signed (decide (v < 0)) m j = v * 2 ^ (k + j) := by
  unfold signed
  rw [h, Nat.shiftLeft_eq, Nat.mul_assoc, ← Nat.pow_add]
  by_cases h0 : v < 0
  · rw [decide_eq_true h0, if_pos rfl]
    have : (v.natAbs : Int) = - v := by omega
    rw [Int.natCast_mul, this, Int.natCast_pow, Int.neg_mul, Int.neg_neg]; rfl
  · rw [decide_eq_false h0, if_neg (by decide)]
    have : (v.natAbs : Int) = v := by omega
    rw [Int.natCast_mul, this, Int.natCast_pow]; rfl
theorem signed_op {v : Int} {m k : Nat} (h : m = v.natAbs * 2 ^ k) (j : Nat) : signed (!decide (v < 0)) m j = (-v) * 2 ^ (k + j) := by
  unfold signed
  rw [h, Nat.shiftLeft_eq, Nat.mul_assoc, ← Nat.pow_add]
  by_cases h0 : v < 0
  · rw [decide_eq_true h0, if_neg (by decide)]
    have : (v.natAbs : Int) = - v := by omega
    rw [Int.natCast_mul, this, Int.natCast_pow]; rfl
  · rw [decide_eq_false h0, if_pos (by decide)]
    have : (v.natAbs : Int) = v := by omega
    rw [Int.natCast_mul, this, Int.natCast_pow, Int.neg_mul]; rfl
theorem pow_pos' (k : Nat) : (0 : Int) < 2 ^ k := Int.pow_pos (by decide)
theorem abs_mul_pow (v : Int) (k : Nat) : (v * 2 ^ k).natAbs = v.natAbs * 2 ^ k := by
  rw [Int.natAbs_mul, Int.natAbs_pow]; rfl
theorem neg_mul_pow (v : Int) (k : Nat) : decide (v * 2 ^ k < 0) = decide (v < 0) := by
  have := pow_pos' k
  by_cases h0 : v < 0
  · rw [decide_eq_true h0, decide_eq_true (Int.mul_neg_of_neg_of_pos h0 this)]
  · rw [decide_eq_false h0, decide_eq_false (Int.not_lt.2 (Int.mul_nonneg (Int.not_lt.1 h0) (Int.le_of_lt this)))]
theorem mul_pow_zero (v : Int) (k : Nat) : v * 2 ^ k = 0 ↔ v = 0 := by
  have := pow_pos' k
  constructor
  · intro h; rcases Int.mul_eq_zero.1 h with h | h
    · exact h
    · omega
  · rintro rfl; simp
theorem sum_word (s t : Bool) (v u e base : Int) (hb : base ≤ e) (h53 : (v + u).natAbs < 2 ^ 53) (h1 : -1022 ≤ e) (h2 : e ≤ 900) (hz : v + u = 0 → (s && t) = false) :
    double.write (.number (if v * 2 ^ (e - base).toNat + u * 2 ^ (e - base).toNat = 0 then s && t else decide (v * 2 ^ (e - base).toNat + u * 2 ^ (e - base).toNat < 0)) (v * 2 ^ (e - base).toNat + u * 2 ^ (e - base).toNat).natAbs base) = fd (v + u) e := by
  rw [← Int.add_mul, neg_mul_pow, abs_mul_pow]
  have hs : (if (v + u) * 2 ^ (e - base).toNat = 0 then s && t else decide (v + u < 0)) = decide (v + u < 0) := by
    split
    · rename_i h; have h3 := (mul_pow_zero _ _).1 h
      rw [hz h3, h3]; rfl
    · rfl
  rw [hs]
  exact fd_shift _ _ _ _ (by omega) h53 h1 h2
theorem add_is (hx : Is x v e) (hy : Is y u e) (h53 : (v + u).natAbs < 2 ^ 53) (h1 : -1022 ≤ e) (h2 : e ≤ 900) : double.add x y = some (fd (v + u) e) := by
  obtain ⟨m, i, hrx, hi, hm⟩ := hx
  obtain ⟨n, j, hry, hj, hn⟩ := hy
  unfold Format.add
  rw [hrx, hry]
  simp only [Datum.sum, Option.map_some]
  rw [signed_is hm, signed_is hn]
  have e1 : (e - i).toNat + (i - min i j).toNat = (e - min i j).toNat := by omega
  have e2 : (e - j).toNat + (j - min i j).toNat = (e - min i j).toNat := by omega
  rw [e1, e2]
  refine congrArg some (sum_word _ _ v u e _ (by omega) h53 h1 h2 fun h => ?_)
  by_cases h0 : v < 0
  · rw [decide_eq_false (show ¬ u < 0 by omega), Bool.and_false]
  · rw [decide_eq_false h0, Bool.false_and]
theorem sub_is (hx : Is x v e) (hy : Is y u e) (h53 : (v - u).natAbs < 2 ^ 53) (h1 : -1022 ≤ e) (h2 : e ≤ 900) : double.sub x y = some (fd (v - u) e) := by
  obtain ⟨m, i, hrx, hi, hm⟩ := hx
  obtain ⟨n, j, hry, hj, hn⟩ := hy
  unfold Format.sub
  rw [hrx, hry]
  simp only [Datum.opposite, Datum.sum, Option.map_some]
  rw [signed_is hm, signed_op hn]
  have e1 : (e - i).toNat + (i - min i j).toNat = (e - min i j).toNat := by omega
  have e2 : (e - j).toNat + (j - min i j).toNat = (e - min i j).toNat := by omega
  rw [e1, e2]
  refine congrArg some (sum_word _ _ v (-u) e _ (by omega) h53 h1 h2 fun h => ?_)
  by_cases h0 : v < 0
  · rw [decide_eq_true (show u < 0 by omega)]; simp
  · rw [decide_eq_false h0, Bool.false_and]
theorem cmp_mul (v u : Int) (k : Nat) : compare (v * 2 ^ k) (u * 2 ^ k) = compare v u := by
  have hp := pow_pos' k
  rcases Int.lt_trichotomy v u with h | h | h
  · rw [Int.compare_eq_lt.2 h, Int.compare_eq_lt.2 (Int.mul_lt_mul_of_pos_right h hp)]
  · subst h; rw [Int.compare_eq_eq.2 rfl, Int.compare_eq_eq.2 rfl]
  · rw [Int.compare_eq_gt.2 h, Int.compare_eq_gt.2 (Int.mul_lt_mul_of_pos_right h hp)]
theorem order_is (hx : Is x v e) (hy : Is y u e) : double.order x y = some (compare v u) := by
  obtain ⟨m, i, hrx, hi, hm⟩ := hx
  obtain ⟨n, j, hry, hj, hn⟩ := hy
  unfold Format.order
  rw [hrx, hry]
  simp only [Datum.order]
  rw [signed_is hm, signed_is hn]
  have e1 : (e - i).toNat + (i - min i j).toNat = (e - min i j).toNat := by omega
  have e2 : (e - j).toNat + (j - min i j).toNat = (e - min i j).toNat := by omega
  rw [e1, e2, cmp_mul]
theorem sq_is (hx : Is x v e) (h53 : (v * v).natAbs < 2 ^ 53) (h1 : -1022 ≤ e + e) (h2 : e + e ≤ 900) : double.mul x x = some (fd (v * v) (e + e)) := by
  obtain ⟨m, i, hrx, hi, hm⟩ := hx
  unfold Format.mul
  rw [hrx]
  simp only [Datum.product, Option.map_some, bne_self_eq_false]
  have hnn : 0 ≤ v * v := by
    rcases Int.le_total 0 v with h | h
    · exact Int.mul_nonneg h h
    · exact Int.mul_nonneg_of_nonpos_of_nonpos h h
  have hs : false = decide (v * v < 0) := (decide_eq_false (Int.not_lt.2 hnn)).symm
  have hmm : m * m = (v * v).natAbs * 2 ^ ((e - i).toNat + (e - i).toNat) := by
    rw [hm, Int.natAbs_mul, Nat.pow_add]; simp only [Nat.mul_assoc, Nat.mul_left_comm, Nat.mul_comm]
  rw [hs, hmm]
  exact congrArg some (fd_shift _ _ _ _ (by omega) h53 h1 h2)
/-- the same, told finer -/
theorem is_finer {k : Nat} (h : ∃ m i, double.read x = .number (decide (v < 0)) m i ∧ i ≤ e - k ∧ m = v.natAbs * 2 ^ (e - i).toNat) : Is x (v * 2 ^ k) (e - k) := by
  obtain ⟨m, i, hr, hi, hm⟩ := h
  refine ⟨m, i, by rw [neg_mul_pow]; exact hr, hi, ?_⟩
  rw [abs_mul_pow, Nat.mul_assoc, ← Nat.pow_add, hm]; congr 2; omega
end
/-! Bits, halves, whole parts. -/
theorem fd_finer (v : Int) (k : Nat) (e : Int) (h53 : v.natAbs < 2 ^ 53) (h1 : -1022 ≤ e) (h2 : e ≤ 900) : fd (v * 2 ^ k) (e - k) = fd v e := by
  rw [fd_eq, neg_mul_pow, abs_mul_pow]
  exact fd_shift v k (e - k) e (by omega) h53 h1 h2
theorem lg_le {v : Int} (h : v ≠ 0) (h53 : v.natAbs < 2 ^ 53) : v.natAbs.log2 ≤ 52 := by
  have hm : v.natAbs ≠ 0 := by omega
  have h3 := (Nat.log2_lt hm).2 h53
  clear h53; omega
theorem mag_lo {m : Nat} (hm : m ≠ 0) (hl : m.log2 ≤ 52) : 2 ^ 52 ≤ m * 2 ^ (52 - m.log2) := by
  have h3 := Nat.log2_self_le hm
  have h4 : 2 ^ m.log2 * 2 ^ (52 - m.log2) = 2 ^ 52 := by rw [← Nat.pow_add, Nat.add_sub_cancel' hl]
  rw [← h4]; exact Nat.mul_le_mul_right _ h3
theorem mag_hi {m : Nat} (hm : m ≠ 0) (hl : m.log2 ≤ 52) : m * 2 ^ (52 - m.log2) < 2 ^ 53 := by
  have h3 : m < 2 ^ (m.log2 + 1) := Nat.lt_log2_self
  have h4 : 2 ^ (m.log2 + 1) * 2 ^ (52 - m.log2) = 2 ^ 53 := by rw [← Nat.pow_add]; congr 1; omega
  rw [← h4]; exact Nat.mul_lt_mul_of_pos_right h3 (Nat.two_pow_pos _)
/-- the rung of v times 2 to the e; the word of a sign and a rung -/
def rung (v e : Int) : Nat := if v = 0 then 0 else rungOf v.natAbs e
theorem fd_word {v e : Int} (h53 : v.natAbs < 2 ^ 53) (h1 : -1022 ≤ e) (h2 : e ≤ 900) : fd v e = double.word (decide (v < 0)) (rung v e) := by
  unfold rung
  by_cases h0 : v = 0
  · subst h0; clear h53; rw [fd_zero, if_pos rfl]; decide +kernel
  · rw [if_neg h0]
    have hm : v.natAbs ≠ 0 := by clear h53; omega
    have hl := lg_le h0 h53
    have hz := nearest_exact (decide (v < 0)) v.natAbs 0 e hm h53 (by clear h53; omega) (by clear h53; omega)
    rw [Nat.pow_zero, Nat.mul_one] at hz
    rw [show e + ((0 : Nat) : Int) = e by clear h53; omega] at hz
    exact (fd_eq v e).trans hz
theorem rung_lt {v e : Int} (h53 : v.natAbs < 2 ^ 53) (h1 : -1022 ≤ e) (h2 : e ≤ 900) : rung v e < 2047 * 2 ^ 52 := by
  unfold rung
  by_cases h0 : v = 0
  · rw [if_pos h0]; decide
  · rw [if_neg h0]
    have hm : v.natAbs ≠ 0 := by clear h53; omega
    have hl := lg_le h0 h53
    have hh := mag_hi hm hl
    unfold rungOf
    have hT : (e + v.natAbs.log2 + 1022).toNat ≤ 1974 := by clear h53 hh; omega
    omega
theorem add_xor (r : Nat) (h : r < 2^63) : (2^63 + r) ^^^ 2^63 = r := by
  apply Nat.eq_of_testBit_eq
  intro i
  rw [Nat.testBit_xor, Nat.testBit_two_pow]
  by_cases hi : i = 63
  · subst hi
    rw [Nat.testBit_two_pow_add_eq]
    have := Nat.testBit_lt_two_pow h
    simp [this]
  · rw [decide_eq_false (fun h => hi h.symm), Bool.xor_false]
    by_cases h2 : i < 63
    · exact Nat.testBit_two_pow_add_gt h2 r
    · have h3 : r.testBit i = false := Nat.testBit_lt_two_pow (Nat.lt_of_lt_of_le h (Nat.pow_le_pow_right (by decide) (by omega)))
      rw [h3]
      exact Nat.testBit_lt_two_pow (Nat.lt_of_lt_of_le (show 2^63 + r < 2^64 by omega) (Nat.pow_le_pow_right (by decide) (by omega)))
theorem word_pos (r : Nat) : double.word false r = r := by unfold Format.word; rw [if_neg (by decide)]
theorem word_neg' (r : Nat) : double.word true r = 2 ^ 63 + r := by unfold Format.word; rw [if_pos rfl, show double.signWeight = 2 ^ 63 by decide +kernel]
theorem word_flip (r : Nat) (h : r < 2 ^ 63) (s : Bool) : double.word s r ^^^ 2 ^ 63 = double.word (!s) r := by
  cases s
  · rw [Bool.not_false, word_pos, word_neg']
    have h1 := add_xor r h
    have h2 : ((2 ^ 63 + r) ^^^ 2 ^ 63) ^^^ 2 ^ 63 = 2 ^ 63 + r := by rw [Nat.xor_assoc, Nat.xor_self, Nat.xor_zero]
    rw [h1] at h2; exact h2
  · rw [Bool.not_true, word_pos, word_neg']; exact add_xor r h
theorem neg_fd {v e : Int} (h0 : v ≠ 0) (h53 : v.natAbs < 2 ^ 53) (h1 : -1022 ≤ e) (h2 : e ≤ 900) : Op.negFloat .f64 (fd v e) = fd (-v) e := by
  have h3 := rung_lt h53 h1 h2
  have h4 : (-v).natAbs < 2 ^ 53 := by rw [Int.natAbs_neg]; exact h53
  have h5 : rung (-v) e = rung v e := by
    unfold rung
    rw [if_neg h0, if_neg (show ¬ -v = 0 by clear h53 h4 h3; omega), Int.natAbs_neg]
  have h6 : (!decide (v < 0)) = decide (-v < 0) := by
    by_cases h : v < 0
    · rw [decide_eq_true h, decide_eq_false (show ¬ -v < 0 by clear h53 h4 h3; omega)]; rfl
    · rw [decide_eq_false h, decide_eq_true (show -v < 0 by clear h53 h4 h3; omega)]; rfl
  rw [fd_word h53 h1 h2, fd_word h4 h1 h2, h5, ← h6]
  exact word_flip _ (by omega) _
theorem cut_floor (s : Bool) (n d : Nat) : Toward.down.cut s n d = n / 2 ^ d + (s && n % 2 ^ d != 0).toNat := by
  unfold Toward.cut
  by_cases h : d ≤ n.log2 + 2
  · simp only [Nat.min_eq_left h, Nat.shiftLeft_eq, Nat.one_mul]
  · have h1 : min d (n.log2 + 2) = n.log2 + 2 := by omega
    have h2 : n < 2 ^ (n.log2 + 1) := Nat.lt_log2_self
    have h3 : 2 ^ (n.log2 + 1) ≤ 2 ^ (n.log2 + 2) := Nat.pow_le_pow_right (by decide) (by omega)
    have h4 : 2 ^ (n.log2 + 1) ≤ 2 ^ d := Nat.pow_le_pow_right (by decide) (by omega)
    simp only [h1, Nat.shiftLeft_eq, Nat.one_mul]
    rw [Nat.div_eq_of_lt (Nat.lt_of_lt_of_le h2 h3), Nat.div_eq_of_lt (Nat.lt_of_lt_of_le h2 h4), Nat.mod_eq_of_lt (Nat.lt_of_lt_of_le h2 h3), Nat.mod_eq_of_lt (Nat.lt_of_lt_of_le h2 h4)]
theorem cut_zero (s : Bool) (n d : Nat) : Toward.zero.cut s n d = n / 2 ^ d := by
  unfold Toward.cut
  by_cases h : d ≤ n.log2 + 2
  · simp only [Nat.min_eq_left h, Nat.shiftLeft_eq, Nat.one_mul]; rfl
  · have h1 : min d (n.log2 + 2) = n.log2 + 2 := by omega
    have h2 : n < 2 ^ (n.log2 + 1) := Nat.lt_log2_self
    have h3 : 2 ^ (n.log2 + 1) ≤ 2 ^ (n.log2 + 2) := Nat.pow_le_pow_right (by decide) (by omega)
    have h4 : 2 ^ (n.log2 + 1) ≤ 2 ^ d := Nat.pow_le_pow_right (by decide) (by omega)
    simp only [h1, Nat.shiftLeft_eq, Nat.one_mul]
    rw [Nat.div_eq_of_lt (Nat.lt_of_lt_of_le h2 h3), Nat.div_eq_of_lt (Nat.lt_of_lt_of_le h2 h4)]; rfl
theorem ediv_nat (a D : Nat) (hD : 0 < D) : (a : Int) / (D : Int) = ((a / D : Nat) : Int) := rfl
theorem ediv_neg (a D : Nat) (hD : 0 < D) (hr : a % D ≠ 0) : (-(a : Int)) / (D : Int) = -((a / D : Nat) : Int) - 1 := by
  have hd := Nat.div_add_mod a D
  have hm := Nat.mod_lt a hD
  have h3 : (a : Int) = D * ((a / D : Nat) : Int) + ((a % D : Nat) : Int) := by rw [← Int.natCast_mul, ← Int.natCast_add, hd]
  generalize a / D = q at *
  generalize a % D = r at *
  have h4 : -(a : Int) = ((D : Int) - r) + (D : Int) * (-(q : Int) - 1) := by rw [h3, Int.mul_sub, Int.mul_neg]; omega
  rw [h4, Int.add_mul_ediv_left _ _ (by omega), Int.ediv_eq_zero_of_lt (by omega) (by omega)]; omega
theorem ediv_neg0 (a D : Nat) (hD : 0 < D) (hr : a % D = 0) : (-(a : Int)) / (D : Int) = -((a / D : Nat) : Int) := by
  rw [Int.neg_ediv_of_dvd (Int.natCast_dvd_natCast.2 (Nat.dvd_of_mod_eq_zero hr))]; rfl
theorem floor_mag (v : Int) (D : Nat) (hD : 0 < D) : v.natAbs / D + (decide (v < 0) && v.natAbs % D != 0).toNat = (v / (D : Int)).natAbs ∧ decide (v / (D : Int) < 0) = decide (v < 0) := by
  by_cases h : v < 0
  · rw [decide_eq_true h, Bool.true_and]
    have hv : v = -((v.natAbs : Nat) : Int) := by omega
    generalize v.natAbs = a at *
    subst hv
    have hd := Nat.div_add_mod a D
    by_cases hr : a % D = 0
    · rw [ediv_neg0 a D hD hr, hr]
      rw [hr] at hd
      have h6 : a / D ≠ 0 := fun h0 => by rw [h0] at hd; simp at hd; omega
      generalize a / D = q at *
      exact ⟨by simp, decide_eq_true (by omega)⟩
    · rw [ediv_neg a D hD hr]
      have h5 : (a % D != 0) = true := by simp [hr]
      rw [h5]
      generalize a / D = q at *
      refine ⟨?_, decide_eq_true (by omega)⟩
      show q + 1 = _
      omega
  · rw [decide_eq_false h, Bool.false_and]
    have hv : v = ((v.natAbs : Nat) : Int) := by omega
    generalize v.natAbs = a at *
    subst hv
    rw [ediv_nat a D hD]
    generalize a / D = q at *
    refine ⟨?_, decide_eq_false (by omega)⟩
    show q + 0 = _
    omega
section
variable {x : Nat} {v e : Int}
theorem floor_is (hx : Is x v e) (he : e ≤ 0) : (double.read x).integral .down = .number (decide (v / (2 : Int) ^ (-e).toNat < 0)) (v / (2 : Int) ^ (-e).toNat).natAbs 0 := by
  obtain ⟨m, i, hr, hi, hm⟩ := hx
  rw [hr]
  simp only [Datum.integral]
  have h1 : i.toNat = 0 := by omega
  have h2 : (-i).toNat = (-e).toNat + (e - i).toNat := by omega
  have hp := Nat.two_pow_pos (e - i).toNat
  rw [h1, Nat.shiftLeft_zero, cut_floor, h2, hm, Nat.pow_add, Nat.mul_div_mul_right _ _ hp, Nat.mul_mod_mul_right]
  have h3 := floor_mag v (2 ^ (-e).toNat) (Nat.two_pow_pos _)
  rw [show ((2 ^ (-e).toNat : Nat) : Int) = (2 : Int) ^ (-e).toNat from Int.natCast_pow 2 _] at h3
  rw [h3.2, ← h3.1]
  have h4 : (v.natAbs % 2 ^ (-e).toNat * 2 ^ (e - i).toNat != 0) = (v.natAbs % 2 ^ (-e).toNat != 0) := by
    generalize v.natAbs % 2 ^ (-e).toNat = a
    generalize 2 ^ (e - i).toNat = b at *
    by_cases h : a = 0
    · subst h; simp
    · have := Nat.mul_pos (Nat.pos_of_ne_zero h) hp
      rw [bne_iff_ne.2 h, bne_iff_ne.2 (by omega)]
  rw [h4]
/-- math.Floor -/
theorem floor_enc (hx : Is x v e) (he : e ≤ 0) (h53 : (v / (2 : Int) ^ (-e).toNat).natAbs < 2 ^ 53) : double.write ((double.read x).integral .down) = fd (v / (2 : Int) ^ (-e).toNat) 0 := by
  rw [floor_is hx he]; exact (fd_eq _ _).symm
/-- math.Trunc, of a whole number -/
theorem trunc_enc (hx : Is x v 0) : double.write ((double.read x).integral .zero) = fd v 0 := by
  obtain ⟨m, i, hr, hi, hm⟩ := hx
  rw [hr]
  simp only [Datum.integral]
  have h1 : i.toNat = 0 := by omega
  have h2 : (-i).toNat = (0 - i).toNat := by omega
  rw [h1, Nat.shiftLeft_zero, cut_zero, h2, hm, Nat.mul_div_cancel _ (Nat.two_pow_pos _)]; exact (fd_eq _ _).symm
theorem toInt_is (hx : Is x v 0) : (double.read x).toInt .zero = some v := by
  obtain ⟨m, i, hr, hi, hm⟩ := hx
  unfold Datum.toInt
  rw [hr]
  simp only [Datum.integral]
  have h1 : i.toNat = 0 := by omega
  have h2 : (-i).toNat = (0 - i).toNat := by omega
  rw [h1, Nat.shiftLeft_zero, cut_zero, h2, hm, Nat.mul_div_cancel _ (Nat.two_pow_pos _)]
  have := signed_is (v := v) (m := v.natAbs) (k := 0) (by rw [Nat.pow_zero, Nat.mul_one]) 0
  rw [this]; simp
theorem two_read : double.read (fd 2 0) = .number false (2 ^ 52) (-51) := by rw [fd_eq]; decide +kernel
/-- by two -/
theorem half_fd (h53 : v.natAbs < 2 ^ 53) (h1 : -1000 ≤ e) (h2 : e ≤ 900) : double.div (fd v e) (fd 2 0) = some (fd v (e - 1)) := by
  unfold Format.div
  rw [two_read]
  have hf : double.fractionBits + 2 = 54 := rfl
  have hl2 : (2 ^ 52 : Nat).log2 = 52 := by decide +kernel
  by_cases h0 : v = 0
  · subst h0; rw [fd_zero, fd_zero]; decide +kernel
  · have hm : v.natAbs ≠ 0 := by clear h53; omega
    have hl := lg_le h0 h53
    rw [read_fd v e h0 h53 (by clear h53; omega) h2]
    simp only [Datum.quotient, hf, hl2]
    have hlg : (v.natAbs * 2 ^ (52 - v.natAbs.log2)).log2 = 52 := by rw [log2_shift hm]; clear h53; omega
    rw [hlg, if_neg (by decide), Nat.shiftLeft_eq]
    have e1 : v.natAbs * 2 ^ (52 - v.natAbs.log2) * 2 ^ (54 + 52 - 52) = (v.natAbs * 2 ^ (54 - v.natAbs.log2)) * 2 ^ 52 := by
      rw [Nat.mul_assoc, Nat.mul_assoc, ← Nat.pow_add, ← Nat.pow_add]; congr 2; clear h53 hlg; omega
    rw [e1, Nat.mul_div_cancel _ (Nat.two_pow_pos 52), Nat.mul_mod_left]
    have e2 : 2 * (v.natAbs * 2 ^ (54 - v.natAbs.log2)) + (0 != 0 : Bool).toNat = v.natAbs * 2 ^ (55 - v.natAbs.log2) := by
      rw [show (0 != 0 : Bool).toNat = 0 from rfl, Nat.add_zero, Nat.mul_left_comm, ← Nat.pow_succ']; congr 2; clear h53 hlg e1; omega
    rw [e2, Bool.xor_false]
    exact congrArg some (fd_shift _ _ _ _ (by clear h53 hlg e1 e2; omega) h53 (by clear h53 hlg e1 e2; omega) (by clear h53 hlg e1 e2; omega))
end
/-! Two scales; the fields of a word. -/
section
variable {x y : Nat} {v u e f : Int}
theorem order_gen (hx : Is x v e) (hy : Is y u f) (hef : e ≤ f) : double.order x y = some (compare v (u * 2 ^ (f - e).toNat)) := by
  obtain ⟨m, i, hrx, hi, hm⟩ := hx
  obtain ⟨n, j, hry, hj, hn⟩ := hy
  unfold Format.order
  rw [hrx, hry]
  simp only [Datum.order]
  rw [signed_is hm, signed_is hn]
  have e1 : (e - i).toNat + (i - min i j).toNat = (e - min i j).toNat := by omega
  have e2 : (f - j).toNat + (j - min i j).toNat = (f - e).toNat + (e - min i j).toNat := by omega
  rw [e1, e2, Int.pow_add, ← Int.mul_assoc, cmp_mul]
theorem order_gen' (hx : Is x v e) (hy : Is y u f) (hef : f ≤ e) : double.order x y = some (compare (v * 2 ^ (e - f).toNat) u) := by
  obtain ⟨m, i, hrx, hi, hm⟩ := hx
  obtain ⟨n, j, hry, hj, hn⟩ := hy
  unfold Format.order
  rw [hrx, hry]
  simp only [Datum.order]
  rw [signed_is hm, signed_is hn]
  have e1 : (e - i).toNat + (i - min i j).toNat = (e - f).toNat + (f - min i j).toNat := by omega
  have e2 : (f - j).toNat + (j - min i j).toNat = (f - min i j).toNat := by omega
  rw [e1, e2, Int.pow_add, ← Int.mul_assoc, cmp_mul]
/-- the word of fields T and F -/
def wd (T F : Nat) : Nat := T * 2 ^ 52 + F
theorem fd_wd {U : Nat} {e : Int} (h0 : U ≠ 0) (h53 : U < 2 ^ 53) (h1 : -1022 ≤ e) (h2 : e ≤ 900) : fd U e = wd (e + U.log2 + 1023).toNat (U * 2 ^ (52 - U.log2) - 2 ^ 52) ∧ U * 2 ^ (52 - U.log2) - 2 ^ 52 < 2 ^ 52 ∧ U.log2 ≤ 52 := by
  have hi : (U : Int) ≠ 0 := by omega
  have hl := lg_le hi (by simpa using h53)
  have hl : U.log2 ≤ 52 := by simpa using hl
  have hlo := mag_lo h0 hl
  have hhi := mag_hi h0 hl
  have hw := fd_word (v := (U : Int)) (e := e) (by simpa using h53) h1 h2
  rw [decide_eq_false (show ¬ (U : Int) < 0 by omega), word_pos] at hw
  unfold rung rungOf at hw
  rw [if_neg hi, Int.natAbs_natCast] at hw
  have hT : (e + U.log2 + 1023).toNat = (e + U.log2 + 1022).toNat + 1 := by clear hlo hhi hw h53; omega
  refine ⟨?_, by omega, hl⟩
  rw [hw]
  unfold wd
  rw [hT, Nat.add_mul]
  generalize U * 2 ^ (52 - U.log2) = M at *
  omega
theorem wd_fd {U : Nat} (h0 : U ≠ 0) (h53 : U < 2 ^ 53) : wd 1022 (U * 2 ^ (52 - U.log2) - 2 ^ 52) = fd U (-(U.log2 : Int) - 1) := by
  have hi : (U : Int) ≠ 0 := by omega
  have hl := lg_le hi (by simpa using h53)
  have hl : U.log2 ≤ 52 := by simpa using hl
  have h := (fd_wd (e := -(U.log2 : Int) - 1) h0 h53 (by omega) (by omega)).1
  rw [h]
  have : (-(U.log2 : Int) - 1 + U.log2 + 1023).toNat = 1022 := by omega
  rw [this]
end
/-! Masks. -/
theorem and_sub_one (a n : Nat) : a &&& (2 ^ n - 1) = a % 2 ^ n := Nat.and_two_pow_sub_one_eq_mod a n
theorem mask_abs (x : Nat) : x &&& (18446744073709551615 - 9223372036854775808) = x % 2 ^ 63 := and_sub_one x 63
theorem mask_exp (T : Nat) (h : T < 2048) : T &&& 2047 = T := by
  rw [show 2047 = 2 ^ 11 - 1 from rfl, and_sub_one]; exact Nat.mod_eq_of_lt h
theorem mask_frac {T F : Nat} (hT : T < 2048) (hF : F < 2 ^ 52) : wd T F &&& (18446744073709551615 - 9218868437227405312) = F := by
  have h1 : (18446744073709551615 - 9218868437227405312 : Nat) = 2 ^ 63 + (2 ^ 52 - 1) := by decide
  rw [h1]
  have h2 : (2 ^ 63 + (2 ^ 52 - 1) : Nat) = 2 ^ 63 ||| (2 ^ 52 - 1) := by decide +kernel
  have hw : wd T F < 2 ^ 63 := by unfold wd; omega
  rw [h2, Nat.and_or_distrib_left, and_sub_one]
  have h3 : wd T F &&& 2 ^ 63 = 0 := by
    apply Nat.eq_of_testBit_eq
    intro i
    rw [Nat.testBit_and, Nat.testBit_two_pow, Nat.zero_testBit]
    by_cases hi : 63 = i
    · subst hi; rw [Nat.testBit_lt_two_pow hw]; rfl
    · rw [decide_eq_false hi, Bool.and_false]
  rw [h3, Nat.zero_or]
  unfold wd; omega
theorem or_exp {T F : Nat} (hF : F < 2 ^ 52) : F ||| T * 2 ^ 52 = wd T F := by
  rw [Nat.or_comm, Nat.mul_comm]
  have := Nat.two_pow_add_eq_or_of_lt hF T
  rw [← this]; unfold wd; omega
end Go.Proofs.YthdmeffjiljdeaaDoor.Fl
