/- Products, inverses and powers by the tables: by hand. -/
import Derived.Test.YteoiedjnlljbmaaCK
import Derived.Test.YteoiedjnlljbmaaKx3
set_option linter.unusedVariables false
set_option linter.unusedSimpArgs false
namespace Go.Proofs.Yteoiedjnlljbmaa.Pure
open Go.RowKit Go.Proofs.Yteoiedjnlljbmaa.K Go.Proofs.YteoiedjnlljbmaaW.PrintWords Go.Proofs.YteoiedjnlljbmaaW.PrintLast Go.Proofs.YteoiedjnlljbmaaW.PrintMore
theorem lo_lt {a : Nat} (h0 : a % 1024 ≠ 0) : lo (a % 1024) < 1023 := (ex_lo (Nat.mod_lt _ (by decide)) h0).2
theorem mul_is (k a b : Nat) : field_Tables_Mul.f k (En 1023) (Ln 1023) (a : Int) (b : Int) = some ((mu (a % 1024) (b % 1024) : Nat) : Int) := by
  unfold field_Tables_Mul.f mu
  rw [made_is, Option.bind_some, log_is, log_is]
  by_cases ca : a % 1024 = 0
  · have cm : a % 1024 = 0 ∨ b % 1024 = 0 := .inl ca
    rw [if_pos cm, if_pos ca]
    by_cases cb : b % 1024 = 0
    · rw [if_pos cb]; rfl
    · rw [if_neg cb]; rfl
  · by_cases cb : b % 1024 = 0
    · have cm : a % 1024 = 0 ∨ b % 1024 = 0 := .inr cb
      rw [if_pos cm, if_neg ca, if_pos cb]; rfl
    · have cm : ¬ (a % 1024 = 0 ∨ b % 1024 = 0) := by rintro (h | h); exact ca h; exact cb h
      have h1 := lo_lt ca
      have h2 := lo_lt cb
      have e : (wrap64 (((lo (a % 1024) : Nat) : Int) + ((lo (b % 1024) : Nat) : Int)) % 1023).toNat = (lo (a % 1024) + lo (b % 1024)) % 1023 := by
        rw [w64 (by omega) (by omega)]; omega
      rw [if_neg cm, if_neg ca, if_neg cb]
      simp only [if_true, exp_is, Option.bind_some, e]
theorem inv_is (k a : Nat) : field_Tables_Inv.f k (En 1023) (Ln 1023) (a : Int) = if a % 1024 = 0 then some (0, false) else some (((ex ((1023 - lo (a % 1024)) % 1023) : Nat) : Int), true) := by
  unfold field_Tables_Inv.f
  rw [made_is, Option.bind_some, log_is]
  by_cases ca : a % 1024 = 0
  · rw [if_pos ca, if_pos ca]; rfl
  · have h1 := lo_lt ca
    have e : (wrap64 (-((lo (a % 1024) : Nat) : Int)) % 1023).toNat = (1023 - lo (a % 1024)) % 1023 := by
      rw [w64 (by omega) (by omega)]; omega
    rw [if_neg ca, if_neg ca, Option.bind_some]
    simp only [if_true, exp_is, Option.bind_some, e]
/-- a power by the tables -/
def pw (a : Nat) (n : Int) : Nat := if n = 0 then 1 else if a % 1024 = 0 then 0 else ex ((((lo (a % 1024) : Nat) : Int) * n) % 1023).toNat
theorem pow_is (k a : Nat) (n : Int) : field_Tables_Pow.f k (En 1023) (Ln 1023) (a : Int) n = some ((pw a n : Nat) : Int) := by
  unfold field_Tables_Pow.f pw
  rw [made_is, Option.bind_some, log_is]
  by_cases c0 : n = 0
  · rw [if_pos c0]
    by_cases ca : a % 1024 = 0
    · rw [if_pos ca, Option.bind_some, if_pos c0]; rfl
    · rw [if_neg ca, Option.bind_some, if_pos c0]; rfl
  · rw [if_neg c0]
    by_cases ca : a % 1024 = 0
    · rw [if_pos ca, if_pos ca, Option.bind_some, if_neg c0]; rfl
    · have h1 := lo_lt ca
      rw [if_neg ca, if_neg ca, Option.bind_some, if_neg c0]
      simp only [if_true, exp_is, Option.bind_some]
      generalize lo (a % 1024) = m at *
      have ht := Int.tmod_eq_emod (a := n) (b := 1023)
      have hb : -1023 < Int.tmod n 1023 ∧ Int.tmod n 1023 < 1023 := by rw [ht]; split <;> omega
      have hm : ∃ q : Int, Int.tmod n 1023 = n + 1023 * q := by
        refine ⟨-(Int.tdiv n 1023), ?_⟩
        have := Int.mul_tdiv_add_tmod n 1023
        omega
      obtain ⟨q, hq⟩ := hm
      have hbd : -1048576 ≤ (m : Int) * Int.tmod n 1023 ∧ (m : Int) * Int.tmod n 1023 ≤ 1048576 := by
        generalize Int.tmod n 1023 = t at hb
        have h3 : (m : Int) * t ≤ (m : Int) * 1023 := Int.mul_le_mul_of_nonneg_left (by omega) (by omega)
        have h4 : (m : Int) * (-1023) ≤ (m : Int) * t := Int.mul_le_mul_of_nonneg_left (by omega) (by omega)
        omega
      rw [w64 (by omega) (by omega), hq, Int.mul_add, show (m : Int) * (1023 * q) = 1023 * (m * q) by rw [← Int.mul_assoc, Int.mul_comm (m : Int) 1023, Int.mul_assoc], Int.add_mul_emod_self_left]
end Go.Proofs.Yteoiedjnlljbmaa.Pure
