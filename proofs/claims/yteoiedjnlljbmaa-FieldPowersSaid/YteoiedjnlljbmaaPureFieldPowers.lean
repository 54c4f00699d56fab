/- The law FieldPowers of the seat, over its printed functions. -/
import Derived.Test.YteoiedjnlljbmaaPureFieldInverse
import Derived.Test.YteoiedjnlljbmaaE
import Derived.Test.YteoiedjnlljbmaaMx9
set_option linter.unusedVariables false
set_option linter.unusedSimpArgs false
namespace Go.Proofs.Yteoiedjnlljbmaa.Pure
open Go.RowKit Go.Proofs.Yteoiedjnlljbmaa.M Go.Proofs.YteoiedjnlljbmaaW.PrintWords Go.Proofs.YteoiedjnlljbmaaW.PrintLast Go.Proofs.YteoiedjnlljbmaaW.PrintMore
/-- a power of x, whole -/
def E (z : Int) : Nat := ex (z % 1023).toNat
theorem E_lt (z : Int) : E z < 1024 := ex_lt _
theorem E_ne (z : Int) : E z ≠ 0 := ex_ne (by omega)
theorem lo_E (z : Int) : lo (E z) = (z % 1023).toNat := lo_ex (by omega)
theorem mu_E (x y : Int) : mu (E x) (E y) = E (x + y) := by
  unfold E
  rw [mu_ex (by omega) (by omega)]
  congr 1; omega
theorem mul_E (k : Nat) (x y : Int) : field_Tables_Mul.f k (En 1023) (Ln 1023) ((E x : Nat) : Int) ((E y : Nat) : Int) = some ((E (x + y) : Nat) : Int) := by
  rw [mul_is, Nat.mod_eq_of_lt (E_lt x), Nat.mod_eq_of_lt (E_lt y), mu_E]
theorem E_congr {x y : Int} (h : x % 1023 = y % 1023) : E x = E y := by unfold E; rw [h]
theorem pow_E (k : Nat) (x t : Int) : field_Tables_Pow.f k (En 1023) (Ln 1023) ((E x : Nat) : Int) t = some ((E (x * t) : Nat) : Int) := by
  rw [pow_is]
  congr 2
  unfold pw
  rw [Nat.mod_eq_of_lt (E_lt x), if_neg (E_ne x), lo_E]
  by_cases t0 : t = 0
  · rw [if_pos t0, t0, Int.mul_zero]; exact ex_zero.symm
  · rw [if_neg t0]
    show E _ = E _
    apply E_congr
    have hx : x = 1023 * (x / 1023) + ((x % 1023).toNat : Int) := by omega
    generalize (x % 1023).toNat = r at *
    generalize x / 1023 = c at *
    rw [hx, Int.add_mul, Int.mul_assoc, Int.mul_add_emod_self_left]
theorem log_E (k : Nat) (x : Int) : field_Tables_Log.f k (En 1023) (Ln 1023) ((E x : Nat) : Int) = some ((((x % 1023).toNat : Nat) : Int), true) := by
  rw [log_is, Nat.mod_eq_of_lt (E_lt x), if_neg (E_ne x), lo_E]
theorem exp_E (k : Nat) (n : Int) : field_Tables_Exp.f k (En 1023) (Ln 1023) n = some ((E n : Nat) : Int) := exp_is k n
theorem self_mod (n : Nat) (h : n < 1023) : (((n : Nat) : Int) % 1023).toNat = n := by omega
theorem sum_small (p q : Nat) (hp : p < 1023) (hq : q < 1023) : wrap64 ((p : Int) + (q : Int)) = (p : Int) + (q : Int) := w64 (by omega) (by omega)
theorem neg_small (p : Nat) (hp : p < 1023) : wrap64 (-(p : Int)) = -(p : Int) := w64 (by omega) (by omega)
theorem neg_one (p : Nat) : (p : Int) * (-1) = -(p : Int) := by omega
theorem sum_big (n m : Int) (c1 : ¬ n < (-1099511627776)) (c2 : ¬ n > 1099511627776) (c3 : ¬ m < (-1099511627776)) (c4 : ¬ m > 1099511627776) : wrap64 (n + m) = n + m := w64 (by omega) (by omega)
theorem FieldPowers (a b n m : Int) (ha : (Lit.int .u16 a).wf = true) (hb : (Lit.int .u16 b).wf = true) : ∃ k, blackboardlaw2_FieldPowers.f k a b n m = some true := by
  have ha := bounds_u16 ha
  have hb := bounds_u16 hb
  obtain ⟨a, rfl⟩ : ∃ n : Nat, a = (n : Int) := ⟨a.toNat, by omega⟩
  obtain ⟨b, rfl⟩ : ∃ n : Nat, b = (n : Int) := ⟨b.toNat, by omega⟩
  have hA := and1023 a (by omega)
  have hB := and1023 b (by omega)
  refine Ev.rounds ?_
  unfold blackboardlaw2_FieldPowers.f
  rw [hA, hB]
  have lx : a % 1024 < 1024 := Nat.mod_lt _ (by decide)
  have ly : b % 1024 < 1024 := Nat.mod_lt _ (by decide)
  clear hA hB ha hb
  generalize a % 1024 = x at *
  generalize b % 1024 = y at *
  refine Ev.bind awake2 ?_
  simp only [if_true]
  refine Ev.bind make_is ?_
  dsimp only
  by_cases x0 : x = 0
  · have c : ((x : Nat) : Int) = 0 := by omega
    simp only [if_pos c]; exact Ev.now _
  by_cases y0 : y = 0
  · have c : ((y : Nat) : Int) = 0 := by omega
    have d : ¬ ((x : Nat) : Int) = 0 := by omega
    simp only [if_neg d, if_pos c]; exact Ev.now _
  have d1 : ¬ ((x : Nat) : Int) = 0 := by omega
  have d2 : ¬ ((y : Nat) : Int) = 0 := by omega
  simp only [if_neg d1, if_neg d2]
  by_cases c1 : n < (-1099511627776)
  · simp only [if_pos c1]; exact Ev.now _
  by_cases c2 : n > 1099511627776
  · simp only [if_neg c1, if_pos c2]; exact Ev.now _
  by_cases c3 : m < (-1099511627776)
  · simp only [if_neg c1, if_neg c2, if_pos c3]; exact Ev.now _
  by_cases c4 : m > 1099511627776
  · simp only [if_neg c1, if_neg c2, if_neg c3, if_pos c4]; exact Ev.now _
  obtain ⟨ex_x, lo_x⟩ := ex_lo lx x0
  obtain ⟨ex_y, lo_y⟩ := ex_lo ly y0
  have px := self_mod (lo x) lo_x
  have py := self_mod (lo y) lo_y
  have w2 := sum_small (lo x) (lo y) lo_x lo_y
  have w3 := neg_small (lo x) lo_x
  have e3 := neg_one (lo x)
  have w1 := sum_big n m c1 c2 c3 c4
  have hx : x = E (lo x : Int) := by unfold E; rw [px, ex_x]
  have hy : y = E (lo y : Int) := by unfold E; rw [py, ex_y]
  clear ex_x ex_y
  generalize lo x = p at *
  generalize lo y = q at *
  subst hx
  subst hy
  have e1 : (p : Int) * (n + m) = (p : Int) * n + (p : Int) * m := Int.mul_add _ _ _
  have e2 : ((p : Int) + (q : Int)) * n = (p : Int) * n + (q : Int) * n := Int.add_mul _ _ _
  simp only [if_neg c1, if_neg c2, if_neg c3, if_neg c4, pow_E, log_E, mul_E, exp_E, Option.bind_some, px, py, w1, w2, w3, e1, e2, e3, if_true, beq_self_eq_true]
  exact Ev.now _
theorem FieldPowers.walk (a0 : Int) (a1 : Int) (a2_0 : Int) (a2_1 : Int) (w : World) (w0 : (Lit.int .u16 a0).wf = true) (w1 : (Lit.int .u16 a1).wf = true) (wa2_0 : (Lit.int .i64 a2_0).wf = true) (wa2_1 : (Lit.int .i64 a2_1).wf = true) :
    Calls Try.prog 7 #[.int .u16 a0, .int .u16 a1, .agg #[.int .i64 a2_0, .int .i64 a2_1]] w fun e w' => e = .returned (.bool true) ∧ Below w.heap.size w w' := by
  obtain ⟨k, h⟩ := FieldPowers a0 a1 a2_0 a2_1 w0 w1
  exact blackboardlaw2_FieldPowers.calls k a0 a1 a2_0 a2_1 true w h
end Go.Proofs.Yteoiedjnlljbmaa.Pure
