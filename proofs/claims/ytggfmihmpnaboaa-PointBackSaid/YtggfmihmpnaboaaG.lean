/- Symbols below 1024; by hand. -/
import Derived.Test.YtggfmihmpnaboaaF
namespace Go.Proofs.Ytggfmihmpnaboaa.M
open Go.RowKit Go.Proofs.YtggfmihmpnaboaaW.PrintWords Go.Proofs.YtggfmihmpnaboaaW.PrintLast Go.Proofs.YtggfmihmpnaboaaW.PrintMore Go.Proofs.Ytggfmihmpnaboaa.Rw Go.Proofs.Ytggfmihmpnaboaa.Fl
set_option linter.unusedVariables false
set_option linter.unusedSimpArgs false
theorem bounds_u16 {a : Int} (h : (Lit.int .u16 a).wf = true) : 0 ≤ a ∧ a ≤ 65535 := by
  simp only [Lit.wf, Bool.and_eq_true, decide_eq_true_eq] at h
  exact h
theorem bounds_i8 {a : Int} (h : (Lit.int .i8 a).wf = true) : -128 ≤ a ∧ a ≤ 127 := by
  simp only [Lit.wf, Bool.and_eq_true, decide_eq_true_eq] at h
  exact h
theorem bounds_i16 {a : Int} (h : (Lit.int .i16 a).wf = true) : -32768 ≤ a ∧ a ≤ 32767 := by
  simp only [Lit.wf, Bool.and_eq_true, decide_eq_true_eq] at h
  exact h
theorem and1023 {a : Int} (h0 : 0 ≤ a) (h1 : a ≤ 65535) : bits .and .u16 a 1023 = a % 1024 := by
  rw [u16_and a 1023 h0 (by omega) (by decide) (by decide)]
  show ((a.toNat &&& 2 ^ 10 - 1 : Nat) : Int) = _
  rw [Nat.and_two_pow_sub_one_eq_mod]
  omega
/-- a symbol of two fives -/
theorem ofS {A h l : Int} (hA : A = 32 * h + l) (h0 : 0 ≤ h) (h1 : h ≤ 31) (l0 : 0 ≤ l) (l1 : l ≤ 31) (w : World) : Calls Try.prog 11 #[.int .u16 A] w fun e w' => e = .returned (.complex .f64 (fd (2 * h - 31) 0) (fd (2 * l - 31) 0)) ∧ w' = w := by
  have h2 := ofC A (by omega) (by omega) w
  have e1 : A % 1024 / 32 = h := by omega
  have e2 : A % 1024 % 32 = l := by omega
  unfold ptR ptI at h2
  rw [e1, e2] at h2
  exact h2
theorem fives (a : Int) : ∃ h l, a % 1024 = 32 * h + l ∧ 0 ≤ h ∧ h ≤ 31 ∧ 0 ≤ l ∧ l ≤ 31 := ⟨a % 1024 / 32, a % 1024 % 32, by omega, by omega, by omega, by omega, by omega⟩
end Go.Proofs.Ytggfmihmpnaboaa.M
