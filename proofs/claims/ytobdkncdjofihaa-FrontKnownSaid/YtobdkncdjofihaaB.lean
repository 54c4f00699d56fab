/- What package front's functions, and the document's own, come to, as plain numbers: by hand. -/
import Derived.Test.YtobdkncdjofihaaMx2
import Derived.Test.YtobdkncdjofihaaMx3
import Derived.OpenShut
set_option linter.unusedVariables false
set_option linter.unusedSimpArgs false
namespace Go.Proofs.Ytobdkncdjofihaa.Pure
open Go.RowKit Go.Proofs.Ytobdkncdjofihaa.M Go.Proofs.YtobdkncdjofihaaW.PrintWords Go.Proofs.YtobdkncdjofihaaW.PrintLast

theorem w64 {x : Int} (h0 : -9223372036854775808 ≤ x) (h1 : x ≤ 9223372036854775807) : wrap64 x = x := by unfold wrap64; omega
theorem wn1 {i : Nat} (h : i ≤ 1000000000000000) : wrap64 ((i : Int) + 1) = ((i + 1 : Nat) : Int) := by rw [w64 (by omega) (by omega)]; rfl
theorem Ev.one {α : Type} {g : Nat → Option α} {r : α} (h : Ev (fun k => g (k + 1)) r) : Ev g r := Ev.step (fun _ => rfl) h
theorem awake17 : blackboardlaw17_awake.f = some true := by decide +kernel
/-- a geometry that may be -/
def gm (a b c d : Int) : Bool := decide (a ≥ 4) && decide (a ≤ 64) && decide (b ≥ 2) && decide (b ≤ 32) && decide (c ≥ 1) && decide (c ≤ 4) && decide (d ≥ 1) && decide (d ≤ 64) && decide (wrap64 (c * d) > 8)
theorem gm_true {a b c d : Int} (h : gm a b c d = true) : 4 ≤ a ∧ a ≤ 64 ∧ 2 ≤ b ∧ b ≤ 32 := by
  unfold gm at h
  simp only [Bool.and_eq_true, decide_eq_true_eq] at h
  omega
theorem refmay_is (a b c d : Int) : blackboardref1_GeoMay.f a b c d = some (gm a b c d) := by
  unfold blackboardref1_GeoMay.f gm
  generalize wrap64 (c * d) = z
  repeat' split
  all_goals (simp_all <;> omega)
theorem within_is (a b c : Int) : geo_within.f a b c = some (decide (a ≥ b) && decide (a ≤ c)) := by
  unfold geo_within.f
  split <;> simp_all <;> omega
theorem may_is (a b c d : Int) : geo_May.f a b c d = some (gm a b c d) := by
  unfold geo_May.f gm
  simp only [within_is, Option.bind_some]
  generalize wrap64 (c * d) = z
  by_cases h1 : (decide (a ≥ 4) && decide (a ≤ 64)) = true
  · by_cases h2 : (decide (b ≥ 2) && decide (b ≤ 32)) = true
    · by_cases h3 : (decide (c ≥ 1) && decide (c ≤ 4)) = true
      · by_cases h4 : (decide (d ≥ 1) && decide (d ≤ 64)) = true
        · rw [if_pos h1, if_pos h2, if_pos h3, if_pos h4]; simp_all <;> omega
        · rw [if_pos h1, if_pos h2, if_pos h3, if_neg h4]; simp_all <;> omega
      · rw [if_pos h1, if_pos h2, if_neg h3]; simp_all <;> omega
    · rw [if_pos h1, if_neg h2]; simp_all <;> omega
  · rw [if_neg h1]; simp_all <;> omega
/-- a place of a geometry -/
def inB (a b : Int) (x y : Int) : Bool := decide (0 ≤ x) && decide (x < a) && decide (0 ≤ y) && decide (y < b)
theorem number_is (a b c d x y : Int) : ∃ n, geo_Number.f a b c d x y = some (n, gm a b c d && inB a b x y) := by
  unfold geo_Number.f inB
  rw [may_is, Option.bind_some]
  by_cases h : gm a b c d = true
  · rw [if_pos h, h]
    by_cases h1 : x < 0
    · exact ⟨0, by rw [if_pos h1, decide_eq_false (show ¬ (0 ≤ x) by omega)]; rfl⟩
    · rw [if_neg h1, decide_eq_true (show 0 ≤ x by omega)]
      by_cases h2 : x ≥ a
      · exact ⟨0, by rw [if_pos h2, decide_eq_false (show ¬ (x < a) by omega)]; rfl⟩
      · rw [if_neg h2, decide_eq_true (show x < a by omega)]
        by_cases h3 : y < 0
        · exact ⟨0, by rw [if_pos h3, decide_eq_false (show ¬ (0 ≤ y) by omega)]; rfl⟩
        · rw [if_neg h3, decide_eq_true (show 0 ≤ y by omega)]
          by_cases h4 : y ≥ b
          · exact ⟨0, by rw [if_pos h4, decide_eq_false (show ¬ (y < b) by omega)]; rfl⟩
          · exact ⟨_, by rw [if_neg h4, decide_eq_true (show y < b by omega)]; rfl⟩
  · exact ⟨0, by rw [if_neg h, Bool.eq_false_iff.mpr h]; rfl⟩
theorem open_shut (a b c d p x y : Int) (h : gm a b c d = true) (hb : inB a b x y = true) : front_Front_Open.f a b c d (-1) p x y = some (true, a, b, c, d, x, y) := by
  obtain ⟨n, hn⟩ := number_is a b c d x y
  unfold front_Front_Open.f
  rw [if_pos rfl, hn, Option.bind_some, if_pos (by rw [h, hb]; rfl)]
theorem open_bad (a b c d p x y : Int) (h : (gm a b c d && inB a b x y) = false) : front_Front_Open.f a b c d (-1) p x y = some (false, a, b, c, d, -1, p) := by
  obtain ⟨n, hn⟩ := number_is a b c d x y
  unfold front_Front_Open.f
  rw [if_pos rfl, hn, Option.bind_some, if_neg (by rw [h]; exact Bool.false_ne_true)]
theorem open_open (a b c d s p x y : Int) (h : ¬ s = -1) : front_Front_Open.f a b c d s p x y = some (false, a, b, c, d, s, p) := by
  unfold front_Front_Open.f
  rw [if_neg h]
theorem next_shut (a b c d p : Int) : front_Front_Next.f a b c d (-1) p = some (0, 0, false, a, b, c, d, -1, p) := by
  unfold front_Front_Next.f; rw [if_pos rfl]
theorem next_open (a b c d s p : Int) (h : ¬ s = -1) : front_Front_Next.f a b c d s p = some (s, p, true, a, b, c, d, s, p) := by
  unfold front_Front_Next.f; rw [if_neg h]
theorem take_shut (a b c d p : Int) : front_Front_Take.f a b c d (-1) p = some (0, 0, false, a, b, c, d, -1, p) := by
  unfold front_Front_Take.f; rw [next_shut, Option.bind_some]; rfl
theorem take_last (a b c d s p : Int) (h : ¬ s = -1) (hp : wrap64 (p + 1) = b) : front_Front_Take.f a b c d s p = some (s, p, true, a, b, c, d, -1, 0) := by
  unfold front_Front_Take.f; rw [next_open _ _ _ _ _ _ h, Option.bind_some, if_pos rfl, if_pos hp]; rfl
theorem take_more (a b c d s p : Int) (h : ¬ s = -1) (hp : ¬ wrap64 (p + 1) = b) : front_Front_Take.f a b c d s p = some (s, p, true, a, b, c, d, s, wrap64 (p + 1)) := by
  unfold front_Front_Take.f; rw [next_open _ _ _ _ _ _ h, Option.bind_some, if_pos rfl, if_neg hp]
theorem left_shut (a b c d p : Int) : front_Front_Left.f a b c d (-1) p = some (0, a, b, c, d, -1, p) := by
  unfold front_Front_Left.f; rw [if_pos rfl]
theorem left_open (a b c d s p : Int) (h : ¬ s = -1) : front_Front_Left.f a b c d s p = some (wrap64 (b - p), a, b, c, d, s, p) := by
  unfold front_Front_Left.f; rw [if_neg h]
end Go.Proofs.Ytobdkncdjofihaa.Pure
