/- The law FieldKnown of the seat: the whole round, powers below nought, nought. -/
import Derived.Test.YteoiedjnlljbmaaDK
import Derived.Test.YteoiedjnlljbmaaKx4
set_option linter.unusedVariables false
set_option linter.unusedSimpArgs false
namespace Go.Proofs.Yteoiedjnlljbmaa.Pure
open Go.RowKit Go.Proofs.Yteoiedjnlljbmaa.K Go.Proofs.YteoiedjnlljbmaaW.PrintWords Go.Proofs.YteoiedjnlljbmaaW.PrintLast Go.Proofs.YteoiedjnlljbmaaW.PrintMore
theorem add_is (a b : Nat) (ha : a < 65536) (hb : b < 65536) : field_Add.f (a : Int) (b : Int) = some (((a ^^^ b) % 1024 : Nat) : Int) := by
  unfold field_Add.f
  rw [u16_xor_nat a b ha hb, Int.tmod_eq_emod_of_nonneg (Int.natCast_nonneg _)]; rfl
theorem awake2 : Ev (fun k => blackboardlaw2_awake.f k) true := by
  unfold blackboardlaw2_awake.f
  refine Ev.bind make_is ?_
  have v1 : ∀ k, field_Tables_Inv.f k (En 1023) (Ln 1023) 2 = some (516, true) := fun k => (inv_is k 2).trans (by decide +kernel)
  have v2 : ∀ k, field_Tables_Exp.f k (En 1023) (Ln 1023) 10 = some 9 := fun k => (exp_is k 10).trans (by decide +kernel)
  have v3 : ∀ k, field_Tables_Mul.f k (En 1023) (Ln 1023) 2 512 = some 9 := fun k => (mul_is k 2 512).trans (by decide +kernel)
  have v4 : ∀ k, field_Tables_Mul.f k (En 1023) (Ln 1023) 516 2 = some 1 := fun k => (mul_is k 516 2).trans (by decide +kernel)
  have v5 : field_Add.f 3 5 = some 6 := (add_is 3 5 (by decide) (by decide)).trans (by decide +kernel)
  simp only [v1, v2, v3, v4, v5, Option.bind_some, if_true, beq_self_eq_true]
  exact Ev.now _
/-- which symbols were met in i steps -/
def sawB (i a : Nat) : Bool := decide (a ≠ 0) && decide (lo a < i)
def saw (i : Nat) : List Bool := (List.range 1024).map (sawB i)
theorem saw_length (i : Nat) : (saw i).length = 1024 := by simp [saw]
theorem saw_get (i a : Nat) (h : a < 1024) : (saw i).getD a false = sawB i a := by
  rw [List.getD_eq_getElem?_getD, List.getElem?_eq_getElem (by rw [saw_length]; exact h)]
  simp [saw]
theorem saw_zero : saw 0 = List.replicate 1024 false := by
  apply List.ext_getElem
  · rw [saw_length, List.length_replicate]
  · intro a h1 h2
    simp only [saw, List.getElem_map, List.getElem_range, List.getElem_replicate]
    unfold sawB
    rw [decide_eq_false (Nat.not_lt_zero _), Bool.and_false]
theorem saw_no (i : Nat) (h : i < 1023) : sawB i (ex i) = false := by
  unfold sawB
  rw [lo_ex h, decide_eq_false (Nat.lt_irrefl _), Bool.and_false]
theorem saw_set (i : Nat) (h : i < 1023) : (saw i).set (ex i) true = saw (i + 1) := by
  apply List.ext_getElem
  · rw [List.length_set, saw_length, saw_length]
  · intro a h1 h2
    rw [saw_length] at h2
    rw [List.getElem_set]
    simp only [saw, List.getElem_map, List.getElem_range]
    unfold sawB
    by_cases e : ex i = a
    · rw [if_pos e, ← e, lo_ex h, decide_eq_true (ex_ne h), decide_eq_true (Nat.lt_succ_self _)]; rfl
    · rw [if_neg e]
      by_cases a0 : a = 0
      · rw [decide_eq_false (fun hh => hh a0), Bool.false_and, Bool.false_and]
      · congr 1
        apply decide_eq_decide.mpr
        constructor
        · intro x; exact Nat.lt_succ_of_lt x
        · intro x
          rcases Nat.lt_or_eq_of_le (Nat.le_of_lt_succ x) with y | y
          · exact y
          · exact absurd (by rw [← y]; exact (ex_lo h2 a0).1) e
theorem known_end : Ev (fun k => blackboardlaw2_FieldKnown.l0 k (saw 1023) 1 1023 (En 1023) (Ln 1023)) true := by
  have c1 : ¬ ((1023 : Int) < 1023) := by decide
  have i0 : ∀ k, field_Tables_Inv.f k (En 1023) (Ln 1023) 0 = some (0, false) := fun k => (inv_is k 0).trans rfl
  have l0 : ∀ k, field_Tables_Log.f k (En 1023) (Ln 1023) 1024 = some (0, false) := fun k => (log_is k 1024).trans rfl
  have i7 : ∀ k, field_Tables_Inv.f k (En 1023) (Ln 1023) 7 = some (((ex ((1023 - lo 7) % 1023) : Nat) : Int), true) := fun k => (inv_is k 7).trans (if_neg (by decide))
  have p1 : ∀ k, field_Tables_Pow.f k (En 1023) (Ln 1023) 0 0 = some 1 := fun k => (pow_is k 0 0).trans (by decide +kernel)
  have p2 : ∀ k, field_Tables_Pow.f k (En 1023) (Ln 1023) 0 5 = some 0 := fun k => (pow_is k 0 5).trans (by decide +kernel)
  have p3 : ∀ k, field_Tables_Pow.f k (En 1023) (Ln 1023) 0 (-5) = some 0 := fun k => (pow_is k 0 (-5)).trans (by decide +kernel)
  have p4 : ∀ k, field_Tables_Pow.f k (En 1023) (Ln 1023) 7 (-1) = some ((ex ((1023 - lo 7) % 1023) : Nat) : Int) := fun k => (pow_is k 7 (-1)).trans (by decide +kernel)
  have p5 : ∀ k, field_Tables_Pow.f k (En 1023) (Ln 1023) 7 1023 = some 1 := fun k => (pow_is k 7 1023).trans (by decide +kernel)
  have m1 : ∀ k, field_Tables_Mul.f k (En 1023) (Ln 1023) 1025 5 = some 5 := fun k => (mul_is k 1025 5).trans (by decide +kernel)
  have a1 : field_Add.f 1023 1024 = some 1023 := (add_is 1023 1024 (by decide) (by decide)).trans (by decide +kernel)
  have m2 : ∀ k, field_Tables_Mul.f k (En 1023) (Ln 1023) 512 512 = some ((ex 18 : Nat) : Int) := fun k => (mul_is k 512 512).trans (by decide +kernel)
  have e1 : ∀ k, field_Tables_Exp.f k (En 1023) (Ln 1023) 18 = some ((ex 18 : Nat) : Int) := fun k => (exp_is k 18).trans rfl
  refine Ev.one ?_
  simp only [blackboardlaw2_FieldKnown.l0, if_neg c1, i0, l0, i7, p1, p2, p3, p4, p5, m1, a1, m2, e1, Option.bind_some, if_true, Bool.false_eq_true, if_false, beq_self_eq_true]
  exact Ev.now _
theorem known_loop : ∀ (d i : Nat), i + d = 1023 → Ev (fun k => blackboardlaw2_FieldKnown.l0 k (saw i) ((ex (i % 1023) : Nat) : Int) (i : Int) (En 1023) (Ln 1023)) true := by
  intro d
  induction d with
  | zero =>
    intro i hi
    have : i = 1023 := by omega
    subst this
    have e : ex (1023 % 1023) = 1 := by decide +kernel
    rw [e]
    exact known_end
  | succ d ih =>
    intro i hi
    have h : i < 1023 := by omega
    have ih' := ih (i + 1) (by omega)
    have hx := ex_lt i
    have hx0 := ex_ne h
    have c1 : ((i : Int) < 1023) := Int.ofNat_lt.mpr h
    have c2 : 0 ≤ ((ex i : Nat) : Int) := Int.natCast_nonneg _
    have c3 : ((ex i : Nat) : Int) < ((saw i).length : Int) := by rw [saw_length]; exact Int.ofNat_lt.mpr hx
    have r1 : rdOf false (saw i) ((ex i : Nat) : Int) = false := by
      show (saw i).getD (ex i) false = false
      rw [saw_get i _ hx, saw_no i h]
    have lg : ∀ k, field_Tables_Log.f k (En 1023) (Ln 1023) ((ex i : Nat) : Int) = some ((i : Int), true) := fun k => by
      rw [log_is, Nat.mod_eq_of_lt hx, if_neg hx0, lo_ex h]
    have q1 : ((i : Int) % 1023).toNat = i := by omega
    have q2 : (((i : Int) - 1023) % 1023).toNat = i := by omega
    have q3 : (((i : Int) + 5115) % 1023).toNat = i := by omega
    have e1 : ∀ k, field_Tables_Exp.f k (En 1023) (Ln 1023) (i : Int) = some ((ex i : Nat) : Int) := fun k => by rw [exp_is, q1]
    have w1 : wrap64 ((i : Int) - 1023) = (i : Int) - 1023 := w64 (by omega) (by omega)
    have e2 : ∀ k, field_Tables_Exp.f k (En 1023) (Ln 1023) (wrap64 ((i : Int) - 1023)) = some ((ex i : Nat) : Int) := fun k => by rw [w1, exp_is, q2]
    clear w1
    have w2 : wrap64 ((i : Int) + 5115) = (i : Int) + 5115 := w64 (by omega) (by omega)
    have e3 : ∀ k, field_Tables_Exp.f k (En 1023) (Ln 1023) (wrap64 ((i : Int) + 5115)) = some ((ex i : Nat) : Int) := fun k => by rw [w2, exp_is, q3]
    clear w2
    have x2 : ex 1 = 2 := by decide +kernel
    have mm := mu_ex h (show 1 < 1023 by decide)
    rw [x2] at mm
    have m1 : ∀ k, field_Tables_Mul.f k (En 1023) (Ln 1023) ((ex i : Nat) : Int) 2 = some ((ex ((i + 1) % 1023) : Nat) : Int) := fun k => by
      have := mul_is k (ex i) 2
      rw [Nat.mod_eq_of_lt hx, show 2 % 1024 = 2 from rfl, mm] at this
      exact this
    have hw := wn1 (i := i) (Nat.le_trans (Nat.le_of_lt h) (by decide))
    have st := saw_set i h
    rw [Nat.mod_eq_of_lt h]
    refine Ev.one ?_
    simp only [blackboardlaw2_FieldKnown.l0, if_pos c1, lg, Option.bind_some, if_pos c2, if_pos c3, r1, Bool.false_eq_true, if_false, if_true, e1, e2, e3, m1, Int.toNat_natCast, st, hw]
    exact ih'
theorem FieldKnown : blackboardlaw2_FieldKnown.Pure := by
  refine Ev.rounds ?_
  unfold blackboardlaw2_FieldKnown.f
  refine Ev.bind awake2 ?_
  simp only [if_true]
  refine Ev.bind make_is ?_
  dsimp only
  have c : 1024 ≤ 281474976710656 := by decide
  have h := known_loop 1023 0 rfl
  rw [saw_zero, show ex (0 % 1023) = 1 by decide +kernel] at h
  simp only [if_pos c]
  exact h
end Go.Proofs.Yteoiedjnlljbmaa.Pure
