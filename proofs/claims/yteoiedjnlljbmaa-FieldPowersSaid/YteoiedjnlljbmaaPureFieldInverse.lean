/- The law FieldInverse of the seat, over its printed functions. -/
import Derived.Test.YteoiedjnlljbmaaD
import Derived.Test.YteoiedjnlljbmaaMx5
set_option linter.unusedVariables false
set_option linter.unusedSimpArgs false
namespace Go.Proofs.Yteoiedjnlljbmaa.Pure
open Go.RowKit Go.Proofs.Yteoiedjnlljbmaa.M Go.Proofs.YteoiedjnlljbmaaW.PrintWords Go.Proofs.YteoiedjnlljbmaaW.PrintLast Go.Proofs.YteoiedjnlljbmaaW.PrintMore
theorem add_is (a b : Nat) (ha : a < 65536) (hb : b < 65536) : field_Add.f (a : Int) (b : Int) = some (((a ^^^ b) % 1024 : Nat) : Int) := by
  unfold field_Add.f
  rw [u16_xor_nat a b ha hb, Int.tmod_eq_emod_of_nonneg (Int.natCast_nonneg _)]; rfl
theorem awake2 : Ev (fun k => blackboardlaw2_awake.f k) true := by
  unfold blackboardlaw2_awake.f
  refine Ev.bind make_is ?_
  have v1 : ∀ k, field_Tables_Inv.f k (En 1023) (Ln 1023) 2 = some (516, true) := fun k => (inv_is k 2).trans (by decide +kernel)
  have v2 : ∀ k, field_Tables_Exp.f k (En 1023) (Ln 1023) 10 = some 9 := fun k => (exp_is k 10).trans (by decide +kernel)
  have v3 : ∀ k, field_Tables_Mul.f k (En 1023) (Ln 1023) 2 512 = some 9 := fun k => (mul_is k 2 512).trans (by decide +kernel)
  have v4 : ∀ k, field_Tables_Mul.f k (En 1023) (Ln 1023) 516 2 = some 1 := fun k => (mul_is k 516 2).trans (by decide +kernel)
  have v5 : field_Add.f 3 5 = some 6 := (add_is 3 5 (by decide) (by decide)).trans (by decide +kernel)
  simp only [v1, v2, v3, v4, v5, Option.bind_some, if_true, beq_self_eq_true]
  exact Ev.now _
theorem and1023 (a : Nat) (h : a < 65536) : Go.bits .and .u16 (a : Int) 1023 = ((a % 1024 : Nat) : Int) := by
  rw [← nat_mask10]; exact u16_and_nat a 1023 h (by decide)
theorem FieldInverse : blackboardlaw2_FieldInverse.Pure := by
  intro a b ha hb
  have ha := bounds_u16 ha
  have hb := bounds_u16 hb
  obtain ⟨a, rfl⟩ : ∃ n : Nat, a = (n : Int) := ⟨a.toNat, by omega⟩
  obtain ⟨b, rfl⟩ : ∃ n : Nat, b = (n : Int) := ⟨b.toNat, by omega⟩
  refine Ev.rounds ?_
  unfold blackboardlaw2_FieldInverse.f
  refine Ev.bind awake2 ?_
  simp only [if_true]
  refine Ev.bind make_is ?_
  simp only [inv_is, mul_is, Option.bind_some]
  have j1 : Ev (fun k => blackboardlaw2_FieldInverse.j1 k true) true := by
    refine Ev.one ?_
    simp only [blackboardlaw2_FieldInverse.j1]; exact Ev.now _
  have j2 : Ev (fun k => blackboardlaw2_FieldInverse.j2 k true) true := by
    refine Ev.one ?_
    simp only [blackboardlaw2_FieldInverse.j2]; exact Ev.now _
  have hml : mu (a % 1024) (b % 1024) % 1024 = mu (a % 1024) (b % 1024) := Nat.mod_eq_of_lt (mu_lt _ _)
  rw [hml]
  by_cases ca : a % 1024 = 0
  · by_cases cb : b % 1024 = 0
    · simp only [ca, cb, if_true, zero_mu, Option.bind_some, Bool.false_eq_true, if_false]
      refine Ev.one ?_
      simp only [blackboardlaw2_FieldInverse.j0, if_true, Bool.false_eq_true, if_false]
      exact j1
    · simp only [ca, if_neg cb, if_true, zero_mu, Option.bind_some, Bool.false_eq_true, if_false]
      refine Ev.one ?_
      simp only [blackboardlaw2_FieldInverse.j0, if_true, Bool.false_eq_true, if_false]
      exact j1
  by_cases cb : b % 1024 = 0
  · simp only [if_neg ca, cb, if_true, mu_zero, Option.bind_some, Bool.not_false]
    refine Ev.one ?_
    simp only [blackboardlaw2_FieldInverse.j0, if_true, Bool.false_eq_true, if_false]
    exact j1
  obtain ⟨ea, la⟩ := ex_lo (Nat.mod_lt a (by decide)) ca
  obtain ⟨eb, lb⟩ := ex_lo (Nat.mod_lt b (by decide)) cb
  have hA := and1023 a (by omega)
  have hmab : mu (a % 1024) (b % 1024) = ex ((lo (a % 1024) + lo (b % 1024)) % 1023) := by
    have := mu_ex la lb
    rw [ea, eb] at this; exact this
  have hi := mul_is
  have hx : ∀ n, ex n % 1024 = ex n := fun n => Nat.mod_eq_of_lt (ex_lt n)
  rw [← ea] at hA
  rw [hmab]
  generalize lo (a % 1024) = m at *
  generalize lo (b % 1024) = n at *
  have hs := mod_lt' (m + n)
  have hm1 := mod_lt' (1023 - m)
  have hn1 := mod_lt' (1023 - n)
  have t1 : (1023 - (1023 - m) % 1023) % 1023 = m := by omega
  have t2 : ((1023 - m) % 1023 + (1023 - n) % 1023) % 1023 = (1023 - (m + n) % 1023) % 1023 := by omega
  have t3 : ((m + n) % 1023 + (1023 - n) % 1023) % 1023 = m := by omega
  have u1 := mu_ex hm1 hn1
  have u2 := mu_ex hs hn1
  rw [t2] at u1
  rw [t3] at u2
  have nz := ex_ne hs
  have nz2 := ex_ne hm1
  have l1 := lo_ex hs
  have l2 := lo_ex hm1
  simp only [if_neg ca, if_neg cb, if_neg nz, l1, Option.bind_some, if_true, Bool.not_true]
  refine Ev.one ?_
  simp only [blackboardlaw2_FieldInverse.j0, Bool.false_eq_true, if_false, if_true, inv_is, mul_is, hx, if_neg nz2, l2, t1, Option.bind_some, u1, hA, hmab, u2, beq_self_eq_true]
  exact j2
end Go.Proofs.Yteoiedjnlljbmaa.Pure
