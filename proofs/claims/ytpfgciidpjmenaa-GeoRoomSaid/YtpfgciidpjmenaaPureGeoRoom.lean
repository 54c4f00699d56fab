/- The law GeoRoom of the seat: more spares, less room. -/
import Derived.Test.YtpfgciidpjmenaaBr
import Derived.Test.YtpfgciidpjmenaaMx3
set_option linter.unusedVariables false
set_option linter.unusedSimpArgs false
namespace Go.Proofs.Ytpfgciidpjmenaa.Pure
open Go.RowKit Go.Proofs.Ytpfgciidpjmenaa.M Go.Proofs.YtpfgciidpjmenaaW.PrintWords Go.Proofs.YtpfgciidpjmenaaW.PrintLast
/-- what the law asks, of numbers alone -/
theorem room_some {B P s : Int} (hB : B ≤ 64) (hP : 2 ≤ P) (hP2 : P ≤ 32) (h0 : 0 ≤ s) (h1 : s ≤ B - 4) :
    lpns B P s > 0 ∧ 2 * lpns B P s ≤ (B - s - 3) * P ∧ 2 * lpns B P s + 2 > (B - s - 3) * P ∧ lpns B P (s + 1) ≤ lpns B P s ∧ 0 ≤ (B - s - 3) * P ∧ (B - s - 3) * P ≤ 2048 := by
  have hb := prod_bd (a := B - s - 3) (b := P) (m := 64) (n := 32) (by omega) (by omega) (by omega) hP2
  have h2 : 2 ≤ (B - s - 3) * P := by
    have : 1 * P ≤ (B - s - 3) * P := Int.mul_le_mul_of_nonneg_right (by omega) (by omega)
    omega
  have e : (B - (s + 1) - 3) * P = (B - s - 3) * P - P := by
    rw [show B - (s + 1) - 3 = (B - s - 3) - 1 by omega, Int.sub_mul, Int.one_mul]
  unfold lpns
  rw [if_pos ⟨h0, h1⟩]
  generalize (B - s - 3) * P = t at *
  by_cases c : 0 ≤ s + 1 ∧ s + 1 ≤ B - 4
  · rw [if_pos c, e]; omega
  · rw [if_neg c]; omega
theorem room_none {B P s : Int} (hB4 : 4 ≤ B) (hP : 2 ≤ P) (hP2 : P ≤ 32) (h0 : 0 ≤ s) (hs : s ≤ 255) (h1 : ¬ s ≤ B - 4) (hB : B ≤ 64) :
    lpns B P s = 0 ∧ lpns B P (s + 1) = 0 ∧ (B - s - 3) * P ≤ 0 ∧ -10000 ≤ (B - s - 3) * P := by
  refine ⟨by unfold lpns; rw [if_neg (by omega)], by unfold lpns; rw [if_neg (by omega)], ?_, ?_⟩
  · exact Int.mul_nonpos_of_nonpos_of_nonneg (by omega) (by omega)
  · have h := prod_bd (a := -(B - s - 3)) (b := P) (m := 300) (n := 32) (by omega) (by omega) (by omega) hP2
    rw [Int.neg_mul] at h
    generalize (B - s - 3) * P = t at *
    omega
theorem GeoRoom (B P W K x : Int) (hx : (Lit.int .u8 x).wf = true) : blackboardlaw7_GeoRoom.f B P W K x = some true := by
  have hx := bounds_u8 hx
  have w1 : wrap64 x = x := w64 (by omega) (by omega)
  have w2 : wrap64 (x + 1) = x + 1 := w64 (by omega) (by omega)
  unfold blackboardlaw7_GeoRoom.f
  simp only [awake7, Option.bind_some, if_true, w1, w2, refmay_is]
  clear w1 w2
  by_cases hm : May B P W K
  · have hB4 := hm.1
    have hB := hm.2.1
    have hP := hm.2.2.1
    have hP2 := hm.2.2.2.1
    have hsz := size_yes hm
    have hwk := wkb hm
    have q0 : wrap64 (W * K - 8) = W * K - 8 := by
      have h2 := hwk.2.1
      have h3 := hwk.2.2
      clear hwk hsz hm
      generalize W * K = z at *
      exact w64 (by omega) (by omega)
    have q1 : wrap64 (10 * (W * K - 8)) = 10 * (W * K - 8) := by
      have h2 := hwk.2.1
      have h3 := hwk.2.2
      clear hwk hsz hm q0
      generalize W * K = z at *
      exact w64 (by omega) (by omega)
    have q2 : wrap64 (8 * (10 * (W * K - 8) / 8)) = 8 * (10 * (W * K - 8) / 8) := by
      have h2 := hwk.2.1
      have h3 := hwk.2.2
      clear hwk hsz hm q0 q1
      generalize W * K = z at *
      exact w64 (by omega) (by omega)
    have q3 : decide (10 * (W * K - 8) ≥ 8 * (10 * (W * K - 8) / 8)) = true := by
      clear hwk hsz hm q0 q1 q2
      generalize W * K = z at *
      exact decide_eq_true (by omega)
    have v1 : wrap64 (B - x) = B - x := by clear q0 q1 q2 q3 hwk hsz; exact w64 (by omega) (by omega)
    have v2 : wrap64 (B - x - 3) = B - x - 3 := by clear q0 q1 q2 q3 hwk hsz v1; exact w64 (by omega) (by omega)
    have l1 := lpns_yes hm x ⟨by clear q0 q1 q2 q3 hwk hsz v1 v2; omega, by clear q0 q1 q2 q3 hwk hsz v1 v2; omega⟩
    have l2 := lpns_yes hm (x + 1) ⟨by clear q0 q1 q2 q3 hwk hsz v1 v2; omega, by clear q0 q1 q2 q3 hwk hsz v1 v2; omega⟩
    have hd : decide (May B P W K) = true := decide_eq_true hm
    simp only [hd, if_true, l1, l2, Option.bind_some, hsz, hwk.1, q0, q1, q2, v1, v2, q3]
    clear q0 q1 q2 q3 hwk hsz v1 v2 l1 l2 hd hm
    by_cases c : x ≤ B - 4
    · obtain ⟨r1, r2, r3, r4, r5, r6⟩ := room_some hB hP hP2 (by omega) c
      generalize (B - x - 3) * P = t at *
      generalize lpns B P x = n at *
      generalize lpns B P (x + 1) = m at *
      have u1 : wrap64 t = t := w64 (by omega) (by omega)
      have u2 : wrap64 (2 * n) = 2 * n := by clear u1; exact w64 (by omega) (by omega)
      have u3 : wrap64 (2 * n + 2) = 2 * n + 2 := by clear u1 u2; exact w64 (by omega) (by omega)
      simp only [if_pos r4, if_pos r1, u1, u2, u3, if_pos r2, if_pos r3]
    · obtain ⟨r1, r2, r3, r4⟩ := room_none hB4 hP hP2 (by omega) (by omega) c hB
      rw [r1, r2]
      generalize (B - x - 3) * P = t at *
      have u1 : wrap64 t = t := w64 (by omega) (by omega)
      have u2 : t < 2 := by clear u1; omega
      simp only [u1, if_pos u2]
      rfl
  · have hd : decide (May B P W K) = false := decide_eq_false hm
    simp only [hd, Bool.false_eq_true, if_false, lpns_no hm, Option.bind_some]
    rfl
theorem GeoRoom.walk (a0_0 : Int) (a0_1 : Int) (a0_2 : Int) (a0_3 : Int) (a1 : Int) (w : World) (wa0_0 : (Lit.int .i64 a0_0).wf = true) (wa0_1 : (Lit.int .i64 a0_1).wf = true) (wa0_2 : (Lit.int .i64 a0_2).wf = true) (wa0_3 : (Lit.int .i64 a0_3).wf = true) (w1 : (Lit.int .u8 a1).wf = true) :
    Calls Try.prog 6 #[.agg #[.int .i64 a0_0, .int .i64 a0_1, .int .i64 a0_2, .int .i64 a0_3], .int .u8 a1] w fun e w' => e = .returned (.bool true) ∧ Below w.heap.size w w' := by
  exact blackboardlaw7_GeoRoom.calls _ _ _ _ _ true w (GeoRoom a0_0 a0_1 a0_2 a0_3 a1 w1)
end Go.Proofs.Ytpfgciidpjmenaa.Pure
