/- The law FieldLaws of the seat, over its printed functions. -/
import Derived.Test.YteoiedjnlljbmaaPureFieldInverse
import Derived.Test.YteoiedjnlljbmaaE
import Derived.Test.YteoiedjnlljbmaaMx4
set_option linter.unusedVariables false
set_option linter.unusedSimpArgs false
namespace Go.Proofs.Yteoiedjnlljbmaa.Pure
open Go.RowKit Go.Proofs.Yteoiedjnlljbmaa.M Go.Proofs.YteoiedjnlljbmaaW.PrintWords Go.Proofs.YteoiedjnlljbmaaW.PrintLast Go.Proofs.YteoiedjnlljbmaaW.PrintMore
theorem mul_small (k a b : Nat) (ha : a < 1024) (hb : b < 1024) : field_Tables_Mul.f k (En 1023) (Ln 1023) (a : Int) (b : Int) = some ((mu a b : Nat) : Int) := by
  rw [mul_is, Nat.mod_eq_of_lt ha, Nat.mod_eq_of_lt hb]
theorem add_small (a b : Nat) (ha : a < 1024) (hb : b < 1024) : field_Add.f (a : Int) (b : Int) = some ((a ^^^ b : Nat) : Int) := by
  rw [add_is a b (Nat.lt_trans ha (by decide)) (Nat.lt_trans hb (by decide)), Nat.mod_eq_of_lt (xor_lt ha hb)]
theorem mu_nil {a b : Nat} (ha : a < 1024) (hb : b < 1024) (h0 : a ≠ 0) : mu a b = 0 ↔ b = 0 := by
  constructor
  · intro h
    apply Classical.byContradiction
    intro hn
    unfold mu at h
    rw [if_neg (by rintro (x | x); exact h0 x; exact hn x)] at h
    exact ex_ne (mod_lt' _) h
  · intro h; rw [h, mu_zero]
theorem FieldLaws : blackboardlaw2_FieldLaws.Pure := by
  intro a b c ha hb hc
  have ha := bounds_u16 ha
  have hb := bounds_u16 hb
  have hc := bounds_u16 hc
  obtain ⟨a, rfl⟩ : ∃ n : Nat, a = (n : Int) := ⟨a.toNat, by omega⟩
  obtain ⟨b, rfl⟩ : ∃ n : Nat, b = (n : Int) := ⟨b.toNat, by omega⟩
  obtain ⟨c, rfl⟩ : ∃ n : Nat, c = (n : Int) := ⟨c.toNat, by omega⟩
  have hA := and1023 a (by omega)
  have hB := and1023 b (by omega)
  have hC := and1023 c (by omega)
  refine Ev.rounds ?_
  unfold blackboardlaw2_FieldLaws.f
  rw [hA, hB, hC]
  have lx : a % 1024 < 1024 := Nat.mod_lt _ (by decide)
  have ly : b % 1024 < 1024 := Nat.mod_lt _ (by decide)
  have lz : c % 1024 < 1024 := Nat.mod_lt _ (by decide)
  clear hA hB hC ha hb hc
  have hinv := fun k => inv_is k (a % 1024)
  generalize a % 1024 = x at *
  generalize b % 1024 = y at *
  generalize c % 1024 = z at *
  rw [Nat.mod_eq_of_lt lx] at hinv
  refine Ev.bind awake2 ?_
  simp only [if_true]
  refine Ev.bind make_is ?_
  dsimp only
  have m1 := fun k => mul_small k x y lx ly
  have m2 := fun k => mul_small k y x ly lx
  have m3 := fun k => mul_small k (mu x y) z (mu_lt _ _) lz
  have m4 := fun k => mul_small k y z ly lz
  have m5 := fun k => mul_small k x (mu y z) lx (mu_lt _ _)
  have m6 := add_small y z ly lz
  have m7 := fun k => mul_small k x (y ^^^ z) lx (xor_lt ly lz)
  have m8 := fun k => mul_small k x z lx lz
  have m9 := add_small (mu x y) (mu x z) (mu_lt _ _) (mu_lt _ _)
  rw [mu_comm y x] at m2
  rw [mu_assoc lx ly lz] at m3
  rw [mu_xor lx ly lz] at m7
  by_cases x0 : x = 0
  · have c0 : ((x : Nat) : Int) = 0 := by omega
    have v : mu x y = 0 := by rw [x0, zero_mu]
    have e : (((mu x y : Nat) : Int) == 0) = true := by rw [v]; rfl
    simp only [if_pos x0] at hinv
    simp only [hinv, m1, m2, m3, m4, m5, m6, m7, m8, m9, Option.bind_some, if_true, Bool.false_eq_true, if_false, if_pos c0, e, beq_self_eq_true]
    exact Ev.now _
  · have c0 : ¬ ((x : Nat) : Int) = 0 := by omega
    obtain ⟨ex_x, lo_x⟩ := ex_lo lx x0
    have iv : mu (ex ((1023 - lo x) % 1023)) x = 1 := by
      have h := mu_ex (mod_lt' (1023 - lo x)) lo_x
      rw [ex_x] at h
      rw [h, ← ex_zero]
      congr 1; omega
    have m10 := fun k => mul_small k (ex ((1023 - lo x) % 1023)) x (ex_lt _) lx
    rw [iv] at m10
    have e : ((((mu x y : Nat) : Int) == 0) == (((y : Nat) : Int) == 0)) = true := by
      have h := mu_nil lx ly x0
      by_cases y0 : y = 0
      · rw [h.mpr y0, y0]; rfl
      · have q1 : ¬ (((mu x y : Nat) : Int) = 0) := by
          intro hh; exact y0 (h.mp (Int.natCast_eq_zero.mp hh))
        have q2 : ¬ (((y : Nat) : Int) = 0) := fun hh => y0 (Int.natCast_eq_zero.mp hh)
        rw [beq_false_of_ne q1, beq_false_of_ne q2]; rfl
    have o1 : ((1 : Nat) : Int) = 1 := rfl
    simp only [if_neg x0] at hinv
    simp only [hinv, m1, m2, m3, m4, m5, m6, m7, m8, m9, m10, Option.bind_some, if_true, if_neg c0, e, o1]
    exact Ev.now _
end Go.Proofs.Yteoiedjnlljbmaa.Pure
