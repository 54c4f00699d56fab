/- What package patrol's functions come to, as plain numbers: by hand. -/
import Derived.Test.YtmdpfpfnchfocaaGx3
import Derived.OpenShut
set_option linter.unusedVariables false
set_option linter.unusedSimpArgs false
namespace Go.Proofs.Ytmdpfpfnchfocaa.Pure
open Go.RowKit Go.Proofs.Ytmdpfpfnchfocaa.G Go.Proofs.YtmdpfpfnchfocaaW.PrintWords Go.Proofs.YtmdpfpfnchfocaaW.PrintLast

theorem w64 {x : Int} (h0 : -9223372036854775808 ≤ x) (h1 : x ≤ 9223372036854775807) : wrap64 x = x := by unfold wrap64; omega
theorem wn1 {i : Nat} (h : i ≤ 1000000000000000) : wrap64 ((i : Int) + 1) = ((i + 1 : Nat) : Int) := by rw [w64 (by omega) (by omega)]; rfl
theorem Ev.one {α : Type} {g : Nat → Option α} {r : α} (h : Ev (fun k => g (k + 1)) r) : Ev g r := Ev.step (fun _ => rfl) h
/-- a geometry that may be -/
def gm (a b c d : Int) : Bool := decide (a ≥ 4) && decide (a ≤ 64) && decide (b ≥ 2) && decide (b ≤ 32) && decide (c ≥ 1) && decide (c ≤ 4) && decide (d ≥ 1) && decide (d ≤ 64) && decide (wrap64 (c * d) > 8)
theorem gm_true {a b c d : Int} (h : gm a b c d = true) : 4 ≤ a ∧ a ≤ 64 ∧ 2 ≤ b ∧ b ≤ 32 := by
  unfold gm at h
  simp only [Bool.and_eq_true, decide_eq_true_eq] at h
  omega
theorem refmay_is (a b c d : Int) : blackboardref1_GeoMay.f a b c d = some (gm a b c d) := by
  unfold blackboardref1_GeoMay.f gm
  generalize wrap64 (c * d) = z
  repeat' split
  all_goals (simp_all <;> omega)
theorem within_is (a b c : Int) : geo_within.f a b c = some (decide (a ≥ b) && decide (a ≤ c)) := by
  unfold geo_within.f
  split <;> simp_all <;> omega
theorem may_is (a b c d : Int) : geo_May.f a b c d = some (gm a b c d) := by
  unfold geo_May.f gm
  simp only [within_is, Option.bind_some]
  generalize wrap64 (c * d) = z
  by_cases h1 : (decide (a ≥ 4) && decide (a ≤ 64)) = true
  · by_cases h2 : (decide (b ≥ 2) && decide (b ≤ 32)) = true
    · by_cases h3 : (decide (c ≥ 1) && decide (c ≤ 4)) = true
      · by_cases h4 : (decide (d ≥ 1) && decide (d ≤ 64)) = true
        · rw [if_pos h1, if_pos h2, if_pos h3, if_pos h4]; simp_all <;> omega
        · rw [if_pos h1, if_pos h2, if_pos h3, if_neg h4]; simp_all <;> omega
      · rw [if_pos h1, if_pos h2, if_neg h3]; simp_all <;> omega
    · rw [if_pos h1, if_neg h2]; simp_all <;> omega
  · rw [if_neg h1]; simp_all <;> omega
/-- a geometry's numbers as such -/
theorem gm_nat {a b c d : Int} (h : gm a b c d = true) : ∃ p q : Nat, a = (p : Int) ∧ b = (q : Int) ∧ 4 ≤ p ∧ p ≤ 64 ∧ 2 ≤ q ∧ q ≤ 32 ∧ 8 ≤ p * q ∧ p * q ≤ 2048 := by
  have := gm_true h
  refine ⟨a.toNat, b.toNat, by omega, by omega, by omega, by omega, by omega, by omega, ?_, ?_⟩
  · exact Nat.mul_le_mul (show 4 ≤ a.toNat by omega) (show 2 ≤ b.toNat by omega)
  · exact Nat.mul_le_mul (show a.toNat ≤ 64 by omega) (show b.toNat ≤ 32 by omega)
theorem wmul (x y : Nat) (h : x * y ≤ 1000000) : wrap64 ((x : Int) * (y : Int)) = ((x * y : Nat) : Int) := by
  rw [← Int.natCast_mul, w64 (by omega) (by omega)]
theorem count_is {p q : Nat} {c d : Int} (hg : gm p q c d = true) (hn : p * q ≤ 2048) : geo_Count.f p q c d = some ((p * q : Nat) : Int) := by
  unfold geo_Count.f
  rw [may_is, Option.bind_some, if_pos hg, wmul p q (by omega)]
theorem place_is {p q : Nat} {c d : Int} (hg : gm p q c d = true) (hn : p * q ≤ 2048) (hq : 0 < q) (t : Nat) (ht : t < p * q) : geo_Place.f p q c d t = some (((t / q : Nat) : Int), ((t % q : Nat) : Int), true) := by
  have c1 : ¬ ((t : Int) < 0) := by omega
  have c2 : ¬ ((t : Int) ≥ ((p * q : Nat) : Int)) := by omega
  have c3 : ¬ ((q : Int) = 0) := by omega
  have l1 : t / q ≤ t := Nat.div_le_self _ _
  have e0 : wrap64 ((t / q : Nat) : Int) = ((t / q : Nat) : Int) := by
    generalize t / q = z at *
    exact w64 (by omega) (by omega)
  have e1 : Int.tdiv (t : Int) (q : Int) = ((t / q : Nat) : Int) := by rw [Int.tdiv_eq_ediv_of_nonneg (by omega), ← Int.natCast_ediv]
  have e2 : Int.tmod (t : Int) (q : Int) = ((t % q : Nat) : Int) := by rw [Int.tmod_eq_emod_of_nonneg (by omega), ← Int.natCast_emod]
  unfold geo_Place.f
  rw [if_neg c1, count_is hg hn, Option.bind_some, if_neg c2, if_neg c3, e1, e2, e0]
theorem visit_is {p q : Nat} {c d : Int} (hg : gm p q c d = true) (hn : p * q ≤ 2048) (h8 : 8 ≤ p * q) (hq : 0 < q) (t : Nat) :
    Ev (fun k => patrol_Visit.f k p q c d t) (((t % (p * q) / q : Nat) : Int), ((t % (p * q) % q : Nat) : Int)) := by
  have c1 : ¬ ((t : Int) < 0) := by omega
  have c2 : ¬ (((p * q : Nat) : Int) = 0) := by omega
  have hm : Int.tmod (t : Int) ((p * q : Nat) : Int) = ((t % (p * q) : Nat) : Int) := by rw [Int.tmod_eq_emod_of_nonneg (by omega), ← Int.natCast_emod]
  have hp := place_is hg hn hq (t % (p * q)) (Nat.mod_lt _ (by omega))
  unfold patrol_Visit.f
  simp only [if_neg c1, may_is, Option.bind_some, hg]
  refine Ev.one ?_
  simp only [patrol_Visit.j0, Bool.not_true, Bool.false_eq_true, if_false, count_is hg hn, Option.bind_some, if_neg c2, hm, hp]
  exact Ev.now _
theorem next_is {p q : Nat} {c d : Int} (hg : gm p q c d = true) (hn : p * q ≤ 2048) (h8 : 8 ≤ p * q) (hq : 0 < q) (t : Nat) (ht : t ≤ 1000000) :
    Ev (fun k => patrol_Patrol_Next.f k p q c d t) (((t % (p * q) / q : Nat) : Int), ((t % (p * q) % q : Nat) : Int), (p : Int), (q : Int), c, d, ((t + 1 : Nat) : Int)) := by
  unfold patrol_Patrol_Next.f
  refine Ev.bind (visit_is hg hn h8 hq t) ?_
  rw [wn1 (by omega)]
  exact Ev.now _
theorem rounds_is {p q : Nat} {c d : Int} (hg : gm p q c d = true) (hn : p * q ≤ 2048) (h8 : 8 ≤ p * q) (t : Nat) (ht : t ≤ 1000000) :
    patrol_Patrol_Rounds.f p q c d t = some (((t / (p * q) : Nat) : Int), (p : Int), (q : Int), c, d, (t : Int)) := by
  have c2 : ¬ (((p * q : Nat) : Int) = 0) := by omega
  have l1 : t / (p * q) ≤ t := Nat.div_le_self _ _
  have hd : Int.tdiv (t : Int) ((p * q : Nat) : Int) = ((t / (p * q) : Nat) : Int) := by rw [Int.tdiv_eq_ediv_of_nonneg (by omega), ← Int.natCast_ediv]
  have e0 : wrap64 ((t / (p * q) : Nat) : Int) = ((t / (p * q) : Nat) : Int) := by
    generalize t / (p * q) = z at *
    exact w64 (by omega) (by omega)
  unfold patrol_Patrol_Rounds.f
  rw [may_is, Option.bind_some, if_pos hg, count_is hg hn, Option.bind_some, if_neg c2, hd, e0]
/-- the page that a call tells, in bounds, and its number -/
theorem page_at {p q : Nat} (hq : 0 < q) {t : Nat} (h : t < p * q) : t / q < p ∧ t % q < q ∧ t / q * q + t % q = t ∧ t / q * q ≤ t := by
  refine ⟨Nat.div_lt_of_lt_mul (by rw [Nat.mul_comm]; exact h), Nat.mod_lt _ hq, ?_, Nat.div_mul_le_self _ _⟩
  rw [Nat.mul_comm]; exact Nat.div_add_mod _ _
theorem mod_next (f i n : Nat) (hi : i < n) : (f + i) % n = if f % n + i < n then f % n + i else f % n + i - n := by
  have hf : f % n < n := Nat.mod_lt _ (by omega)
  rw [Nat.add_mod, Nat.mod_eq_of_lt hi]
  by_cases c : f % n + i < n
  · rw [if_pos c, Nat.mod_eq_of_lt c]
  · rw [if_neg c, Nat.mod_eq_sub_mod (by omega), Nat.mod_eq_of_lt (by omega)]
theorem awake19 : Ev (fun k => blackboardlaw19_awake.f k) true := Ev.of (k := 40) blackboardlaw19_awake.mono (by decide +kernel)
end Go.Proofs.Ytmdpfpfnchfocaa.Pure
