/- The document's own products and powers, in plain numbers. -/
import Derived.Test.YteoiedjnlljbmaaB
set_option linter.unusedVariables false
set_option linter.unusedSimpArgs false
namespace Go.Proofs.Yteoiedjnlljbmaa.Pure
theorem ex_zero : ex 0 = 1 := by decide +kernel
theorem ex_one : ex 1 = 2 := by decide +kernel
theorem mu_one {v : Nat} (hv : v < 1024) : mu v 1 = v := by
  by_cases v0 : v = 0
  · rw [v0, zero_mu]
  obtain ⟨ev, lv⟩ := ex_lo hv v0
  have : mu (ex (lo v)) (ex 0) = ex (lo v) := by rw [mu_ex lv (by decide), Nat.add_zero, Nat.mod_eq_of_lt lv]
  rw [ev, ex_zero] at this; exact this
theorem mu_even {x z : Nat} (hx : x < 1024) (hz : 2 * z < 1024) : mu x (2 * z) = mu (step x) z := by
  have e : step z = 2 * z := by unfold step; rw [if_neg (by omega)]
  rw [step_mu hx (by omega), ← e, mu_comm x (step z), step_mu (by omega) hx, mu_comm z x]
theorem odd_xor {z : Nat} (hz : z < 512) : (2 * z) ^^^ 1 = 2 * z + 1 := by
  have t : (List.range 512).all (fun z => (2 * z) ^^^ 1 == 2 * z + 1) = true := by decide +kernel
  have := all_of t hz
  simpa using this
theorem mu_odd {x z : Nat} (hx : x < 1024) (hz : 2 * z + 1 < 1024) : mu x (2 * z + 1) = x ^^^ mu (step x) z := by
  rw [← odd_xor (by omega), mu_xor hx (by omega) (by decide), mu_even hx (by omega), mu_one hx, Nat.xor_comm]
theorem ex_next {n : Nat} (h : n < 1023) : mu (ex n) 2 = ex ((n + 1) % 1023) := by
  rw [← ex_one, mu_ex h (by decide)]
/-- a power, in squares -/
theorem pow_even {p q m : Nat} : (p + (q + q) % 1023 * m) % 1023 = (p + q * (2 * m)) % 1023 := by
  have h := Nat.div_add_mod (q + q) 1023
  have e : q * (2 * m) = (q + q) * m := by rw [← Nat.mul_assoc, Nat.mul_two]
  rw [e]
  generalize (q + q) % 1023 = r at *
  generalize (q + q) / 1023 = c at *
  rw [← h, Nat.add_mul, Nat.mul_assoc]
  generalize c * m = s
  generalize r * m = t
  omega
theorem pow_odd {p q m : Nat} : ((p + q) % 1023 + (q + q) % 1023 * m) % 1023 = (p + q * (2 * m + 1)) % 1023 := by
  have h := Nat.div_add_mod (q + q) 1023
  have e : q * (2 * m + 1) = (q + q) * m + q := by rw [Nat.mul_add, ← Nat.mul_assoc, Nat.mul_two, Nat.mul_one]
  rw [e]
  generalize (q + q) % 1023 = r at *
  generalize (q + q) / 1023 = c at *
  rw [← h, Nat.add_mul, Nat.mul_assoc]
  generalize c * m = s
  generalize r * m = t
  omega
end Go.Proofs.Yteoiedjnlljbmaa.Pure
