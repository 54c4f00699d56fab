/- The law FieldSquares of the seat, over its printed functions. -/
import Derived.Test.YteoiedjnlljbmaaPureFieldInverse
import Derived.Test.YteoiedjnlljbmaaMx9
set_option linter.unusedVariables false
set_option linter.unusedSimpArgs false
namespace Go.Proofs.Yteoiedjnlljbmaa.Pure
open Go.RowKit Go.Proofs.Yteoiedjnlljbmaa.M Go.Proofs.YteoiedjnlljbmaaW.PrintWords Go.Proofs.YteoiedjnlljbmaaW.PrintLast Go.Proofs.YteoiedjnlljbmaaW.PrintMore
theorem pw_zero (n : Int) (h : n ≠ 0) : pw 0 n = 0 := by unfold pw; rw [if_neg h, if_pos rfl]
theorem pw_ex (m : Nat) (hm : m < 1023) (n : Int) (h : n ≠ 0) : pw (ex m) n = ex (((m : Int) * n) % 1023).toNat := by
  unfold pw
  have hx : ex m % 1024 = ex m := Nat.mod_eq_of_lt (ex_lt m)
  rw [if_neg h, hx, if_neg (ex_ne hm), lo_ex hm]
theorem pw_lt (a : Nat) (n : Int) : pw a n < 1024 := by
  unfold pw
  split
  · decide
  · split
    · decide
    · exact ex_lt _
theorem pw_two {a : Nat} (ha : a < 1024) : pw a 2 = mu a a := by
  by_cases a0 : a = 0
  · rw [a0, pw_zero 2 (by decide), zero_mu]
  obtain ⟨ea, la⟩ := ex_lo ha a0
  rw [← ea, pw_ex _ la 2 (by decide), mu_ex la la]
  congr 1; omega
theorem pw_1024 {a : Nat} (ha : a < 1024) : pw a 1024 = a := by
  by_cases a0 : a = 0
  · rw [a0, pw_zero 1024 (by decide)]
  obtain ⟨ea, la⟩ := ex_lo ha a0
  have : pw (ex (lo a)) 1024 = ex (lo a) := by
    rw [pw_ex _ la 1024 (by decide)]
    congr 1; omega
  rw [ea] at this; exact this
theorem root {a : Nat} (ha : a < 1024) : mu (pw a 512) (pw a 512) = a := by
  by_cases a0 : a = 0
  · rw [a0, pw_zero 512 (by decide), zero_mu]
  obtain ⟨ea, la⟩ := ex_lo ha a0
  have : mu (pw (ex (lo a)) 512) (pw (ex (lo a)) 512) = ex (lo a) := by
    rw [pw_ex _ la 512 (by decide), mu_ex (by omega) (by omega)]
    congr 1; omega
  rw [ea] at this; exact this
theorem sq_xor {a b : Nat} (ha : a < 1024) (hb : b < 1024) : mu (a ^^^ b) (a ^^^ b) = mu a a ^^^ mu b b := by
  rw [mu_xor (xor_lt ha hb) ha hb, mu_comm (a ^^^ b) a, mu_comm (a ^^^ b) b, mu_xor ha ha hb, mu_xor hb ha hb, mu_comm b a]
  generalize mu a b = z
  generalize mu a a = x
  generalize mu b b = y
  apply Nat.eq_of_testBit_eq
  intro i
  simp only [Nat.testBit_xor]
  cases x.testBit i <;> cases y.testBit i <;> cases z.testBit i <;> rfl
theorem sq_inj {a b : Nat} (ha : a < 1024) (hb : b < 1024) (h : mu a a = mu b b) : a = b := by
  have h1 := root ha
  have h2 := root hb
  have e : ∀ {c : Nat}, c < 1024 → mu (pw c 512) (pw c 512) = pw (mu c c) 512 := fun {c} hc => by
    by_cases c0 : c = 0
    · rw [c0, pw_zero 512 (by decide), zero_mu, pw_zero 512 (by decide)]
    obtain ⟨ec, lc⟩ := ex_lo hc c0
    rw [← ec, pw_ex _ lc 512 (by decide), mu_ex (by omega) (by omega), mu_ex lc lc, pw_ex _ (mod_lt' _) 512 (by decide)]
    congr 1; omega
  rw [← h1, ← h2, e ha, e hb, h]
theorem FieldSquares : blackboardlaw2_FieldSquares.Pure := by
  intro a b ha hb
  have ha := bounds_u16 ha
  have hb := bounds_u16 hb
  obtain ⟨a, rfl⟩ : ∃ n : Nat, a = (n : Int) := ⟨a.toNat, by omega⟩
  obtain ⟨b, rfl⟩ : ∃ n : Nat, b = (n : Int) := ⟨b.toNat, by omega⟩
  refine Ev.rounds ?_
  unfold blackboardlaw2_FieldSquares.f
  refine Ev.bind awake2 ?_
  simp only [if_true]
  refine Ev.bind make_is ?_
  have hA := and1023 a (by omega)
  have hB := and1023 b (by omega)
  have la : a % 1024 < 1024 := Nat.mod_lt _ (by decide)
  have lb : b % 1024 < 1024 := Nat.mod_lt _ (by decide)
  rw [hA, hB]
  generalize a % 1024 = x at la
  generalize b % 1024 = y at lb
  clear hA hB ha hb
  have hxy : (x ^^^ y) % 1024 = x ^^^ y := Nat.mod_eq_of_lt (xor_lt la lb)
  have l2 : mu x x ^^^ mu y y < 1024 := xor_lt (mu_lt _ _) (mu_lt _ _)
  have e1 := add_is x y (by omega) (by omega)
  have m1 := mu_lt x x
  have m2 := mu_lt y y
  have e2 := add_is (mu x x) (mu y y) (by omega) (by omega)
  have e3 : pw (x ^^^ y) 2 = mu x x ^^^ mu y y := by rw [pw_two (xor_lt la lb), sq_xor la lb]
  have e4 : (mu x x ^^^ mu y y) % 1024 = mu x x ^^^ mu y y := Nat.mod_eq_of_lt l2
  have e5 : pw x 512 % 1024 = pw x 512 := Nat.mod_eq_of_lt (pw_lt _ _)
  have e6 : x % 1024 = x := Nat.mod_eq_of_lt la
  have e7 : ((((mu x x : Nat) : Int) == ((mu y y : Nat) : Int)) == ((x : Int) == (y : Int))) = true := by
    by_cases c : x = y
    · rw [c]; simp
    · have c1 : ¬ ((x : Int) = (y : Int)) := by omega
      have c2 : ¬ (((mu x x : Nat) : Int) = ((mu y y : Nat) : Int)) := fun h => c (sq_inj la lb (by omega))
      rw [beq_false_of_ne c1, beq_false_of_ne c2]; rfl
  simp only [pow_is, mul_is, Option.bind_some, pw_two la, pw_two lb, e1, hxy, e3, e2, e4, if_true, e5, root la, e7, pw_1024 la, e6, beq_self_eq_true]
  refine Ev.one ?_
  simp only [blackboardlaw2_FieldSquares.j0]
  exact Ev.now _
end Go.Proofs.Yteoiedjnlljbmaa.Pure
