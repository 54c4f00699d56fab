/- The law FrontPlays of the seat, over its printed functions. -/
import Derived.Test.YtobdkncdjofihaaB
import Derived.Test.YtobdkncdjofihaaMx4
set_option linter.unusedVariables false
set_option linter.unusedSimpArgs false
namespace Go.Proofs.Ytobdkncdjofihaa.Pure
open Go.RowKit Go.Proofs.Ytobdkncdjofihaa.M Go.Proofs.YtobdkncdjofihaaW.PrintWords Go.Proofs.YtobdkncdjofihaaW.PrintLast

/-- what is told of block and page, and what is kept, are one -/
def Inv17 (a b c d x y s p : Int) : Prop := (x = -1 ∧ s = -1) ∨ (0 ≤ x ∧ s = x ∧ p = y ∧ gm a b c d = true ∧ 0 ≤ y ∧ y < b)
/-- the rest of the round, and the rounds behind it -/
def Next17 (a b c d : Int) (l : List S30) (i : Nat) : Prop := ∀ x y s p, Inv17 a b c d x y s p → Ev (fun k => blackboardlaw17_FrontPlays.l0 k l (gm a b c d) x y ((i + 1 : Nat) : Int) a b c d a b c d s p) true
theorem j7_ok (a b c d : Int) (l : List S30) (i : Nat) (hi : i ≤ 1000) (hn : Next17 a b c d l i) (x y s p : Int) (h : Inv17 a b c d x y s p) :
    Ev (fun k => blackboardlaw17_FrontPlays.j7 k l (gm a b c d) x y (i : Int) a b c d a b c d s p) true := by
  have e1 := wn1 (i := i) (by omega)
  refine Ev.one ?_
  have hn' := hn x y s p h
  rcases h with ⟨rfl, rfl⟩ | ⟨h0, rfl, rfl, hg, h1, h2⟩
  · simp only [blackboardlaw17_FrontPlays.j7, if_neg (show ¬ ((-1 : Int) ≥ 0) by omega)]
    refine Ev.one ?_
    simp only [blackboardlaw17_FrontPlays.j8, front_Front_Block.f, Option.bind_some, if_true, left_shut, e1]
    exact hn'
  · simp only [blackboardlaw17_FrontPlays.j7, if_pos (show s ≥ 0 by omega)]
    refine Ev.one ?_
    simp only [blackboardlaw17_FrontPlays.j8, front_Front_Block.f, Option.bind_some, if_true, left_open a b c d s p (by omega), e1]
    exact hn'
theorem j5_ok (a b c d : Int) (l : List S30) (i : Nat) (hi : i ≤ 1000) (hn : Next17 a b c d l i) (x y s p : Int) (o : Bool) (e0 e1 e2 : Int)
    (h : o = true ∧ e0 > 2 → (wrap64 (y + 1) = b → Inv17 a b c d (-1) (wrap64 (y + 1)) s p) ∧ (¬ wrap64 (y + 1) = b → Inv17 a b c d x (wrap64 (y + 1)) s p)) (h2 : ¬ (o = true ∧ e0 > 2) → Inv17 a b c d x y s p) :
    Ev (fun k => blackboardlaw17_FrontPlays.j5 k l (gm a b c d) x y (i : Int) o false a b c d a b c d s p e0 e1 e2) true := by
  have j6f : Inv17 a b c d x y s p → Ev (fun k => blackboardlaw17_FrontPlays.j6 k l (gm a b c d) x y (i : Int) false a b c d a b c d s p) true := fun h => by
    refine Ev.one ?_
    simp only [blackboardlaw17_FrontPlays.j6, Bool.false_eq_true, if_false]
    exact j7_ok a b c d l i hi hn x y s p h
  refine Ev.one ?_
  cases o with
  | false =>
    simp only [blackboardlaw17_FrontPlays.j5, Bool.false_eq_true, if_false]
    exact j6f (h2 (by simp))
  | true =>
    simp only [blackboardlaw17_FrontPlays.j5, Bool.false_eq_true, if_false, if_true]
    by_cases c0 : e0 > 2
    · rw [decide_eq_true c0]
      have h := h ⟨rfl, c0⟩
      refine Ev.one ?_
      by_cases c1 : wrap64 (y + 1) = b
      · simp only [blackboardlaw17_FrontPlays.j6, if_true, if_pos c1]
        exact j7_ok a b c d l i hi hn _ _ s p (h.1 c1)
      · simp only [blackboardlaw17_FrontPlays.j6, if_true, if_neg c1]
        exact j7_ok a b c d l i hi hn _ _ s p (h.2 c1)
    · rw [decide_eq_false c0]
      exact j6f (h2 (by simp [c0]))
/-- the arm of Next and Take -/
theorem j3_ok (a b c d : Int) (l : List S30) (i : Nat) (hi : i ≤ 1000) (hn : Next17 a b c d l i) (x y s p x38 e0 e1 e2 : Int) (h : Inv17 a b c d x y s p) :
    Ev (fun k => blackboardlaw17_FrontPlays.j3 k l (gm a b c d) x y (i : Int) x38 true a b c d a b c d s p e0 e1 e2) true := by
  refine Ev.one ?_
  rcases h with ⟨rfl, rfl⟩ | ⟨h0, rfl, rfl, hg, h1, h2⟩
  · have j4 : Ev (fun k => blackboardlaw17_FrontPlays.j4 k l (gm a b c d) (-1) y (i : Int) 0 0 false a b c d a b c d (-1) p e0 e1 e2) true := by
      refine Ev.one ?_
      have g1 : (false != decide ((-1 : Int) ≥ 0)) = false := by decide
      simp only [blackboardlaw17_FrontPlays.j4, g1, Bool.false_eq_true, if_false, if_true]
      exact j5_ok a b c d l i hi hn (-1) y (-1) p false e0 e1 e2 (by simp) (fun _ => .inl ⟨rfl, rfl⟩)
    by_cases ce : e0 > 2
    · simp only [blackboardlaw17_FrontPlays.j3, if_true, next_shut, Option.bind_some, if_pos ce, take_shut]
      exact j4
    · simp only [blackboardlaw17_FrontPlays.j3, if_true, next_shut, Option.bind_some, if_neg ce]
      exact j4
  · have hs : ¬ s = -1 := by omega
    have hb := gm_true hg
    have g1 : (true != decide (s ≥ 0)) = false := by rw [decide_eq_true h0]; rfl
    have j4 : ∀ s' p', (e0 > 2 → (wrap64 (p + 1) = b → Inv17 a b c d (-1) (wrap64 (p + 1)) s' p') ∧ (¬ wrap64 (p + 1) = b → Inv17 a b c d s (wrap64 (p + 1)) s' p')) → (¬ e0 > 2 → Inv17 a b c d s p s' p') → Ev (fun k => blackboardlaw17_FrontPlays.j4 k l (gm a b c d) s p (i : Int) s p true a b c d a b c d s' p' e0 e1 e2) true := fun s' p' u1 u2 => by
      refine Ev.one ?_
      simp only [blackboardlaw17_FrontPlays.j4, g1, Bool.false_eq_true, if_false, if_true]
      exact j5_ok a b c d l i hi hn s p s' p' true e0 e1 e2 (fun h => u1 h.2) (fun h => u2 (fun h3 => h ⟨rfl, h3⟩))
    by_cases ce : e0 > 2
    · by_cases c1 : wrap64 (p + 1) = b
      · simp only [blackboardlaw17_FrontPlays.j3, if_true, next_open a b c d s p hs, Option.bind_some, if_pos ce, take_last a b c d s p hs c1]
        exact j4 (-1) 0 (fun _ => ⟨fun _ => .inl ⟨rfl, rfl⟩, fun h => absurd c1 h⟩) (fun h => absurd ce h)
      · simp only [blackboardlaw17_FrontPlays.j3, if_true, next_open a b c d s p hs, Option.bind_some, if_pos ce, take_more a b c d s p hs c1]
        have e9 : wrap64 (p + 1) = p + 1 := w64 (by omega) (by omega)
        exact j4 s (wrap64 (p + 1)) (fun _ => ⟨fun h => absurd h c1, fun _ => .inr ⟨h0, rfl, rfl, hg, by omega, by omega⟩⟩) (fun h => absurd ce h)
    · simp only [blackboardlaw17_FrontPlays.j3, if_true, next_open a b c d s p hs, Option.bind_some, if_neg ce]
      exact j4 s p (fun h => absurd h ce) (fun _ => .inr ⟨h0, rfl, rfl, hg, h1, h2⟩)
theorem j3_no (a b c d : Int) (l : List S30) (i : Nat) (hi : i ≤ 1000) (hn : Next17 a b c d l i) (x y s p x38 e0 e1 e2 : Int) (h : Inv17 a b c d x y s p) :
    Ev (fun k => blackboardlaw17_FrontPlays.j3 k l (gm a b c d) x y (i : Int) x38 false a b c d a b c d s p e0 e1 e2) true := by
  refine Ev.one ?_
  by_cases ce : x38 = 6
  · have hx : s = x := by rcases h with ⟨rfl, rfl⟩ | ⟨_, rfl, _⟩ <;> rfl
    simp only [blackboardlaw17_FrontPlays.j3, Bool.false_eq_true, if_false, if_pos ce, front_Front_Shut.f, Option.bind_some, if_pos hx]
    exact j7_ok a b c d l i hi hn _ _ _ _ (.inl ⟨rfl, rfl⟩)
  · simp only [blackboardlaw17_FrontPlays.j3, Bool.false_eq_true, if_false, if_neg ce]
    exact j7_ok a b c d l i hi hn _ _ _ _ h
theorem j3_any (a b c d : Int) (l : List S30) (i : Nat) (hi : i ≤ 1000) (hn : Next17 a b c d l i) (x y s p x38 e0 e1 e2 : Int) (o : Bool) (h : Inv17 a b c d x y s p) :
    Ev (fun k => blackboardlaw17_FrontPlays.j3 k l (gm a b c d) x y (i : Int) x38 o a b c d a b c d s p e0 e1 e2) true := by
  cases o with
  | true => exact j3_ok a b c d l i hi hn x y s p x38 e0 e1 e2 h
  | false => exact j3_no a b c d l i hi hn x y s p x38 e0 e1 e2 h
/-- the arm of Open -/
theorem j2_ok (a b c d : Int) (l : List S30) (i : Nat) (hi : i ≤ 1000) (hn : Next17 a b c d l i) (x y s p e0 e1 e2 : Int) (o : Bool) (h : Inv17 a b c d x y s p) (ho : o = (gm a b c d && decide (x < 0) && inB a b e1 e2)) :
    Ev (fun k => blackboardlaw17_FrontPlays.j2 k l (gm a b c d) x y (i : Int) o a b c d a b c d s p e0 e1 e2) true := by
  refine Ev.one ?_
  rcases h with ⟨rfl, rfl⟩ | ⟨h0, rfl, rfl, hg, h1, h2⟩
  · rw [decide_eq_true (show (-1 : Int) < 0 by omega), Bool.and_true] at ho
    cases o with
    | true =>
      have ho := ho.symm
      have hh := Bool.and_eq_true_iff.mp ho
      have hin := hh.2
      unfold inB at hin
      simp only [Bool.and_eq_true, decide_eq_true_eq] at hin
      have g1 : (true != true) = false := rfl
      simp only [blackboardlaw17_FrontPlays.j2, open_shut a b c d p e1 e2 hh.1 hh.2, Option.bind_some, g1, Bool.false_eq_true, if_false, if_true]
      exact j7_ok a b c d l i hi hn _ _ _ _ (.inr ⟨by omega, rfl, rfl, hh.1, by omega, by omega⟩)
    | false =>
      have g1 : (false != false) = false := rfl
      simp only [blackboardlaw17_FrontPlays.j2, open_bad a b c d p e1 e2 ho.symm, Option.bind_some, g1, Bool.false_eq_true, if_false]
      exact j7_ok a b c d l i hi hn _ _ _ _ (.inl ⟨rfl, rfl⟩)
  · rw [decide_eq_false (show ¬ s < 0 by omega), Bool.and_false, Bool.false_and] at ho
    subst ho
    have g1 : (false != false) = false := rfl
    simp only [blackboardlaw17_FrontPlays.j2, open_open a b c d s p e1 e2 (by omega), Option.bind_some, g1, Bool.false_eq_true, if_false]
    exact j7_ok a b c d l i hi hn _ _ _ _ (.inr ⟨h0, rfl, rfl, hg, h1, h2⟩)
theorem j1_ok (a b c d : Int) (l : List S30) (i : Nat) (hi : i ≤ 1000) (hn : Next17 a b c d l i) (x y s p x38 e0 e1 e2 : Int) (o : Bool) (h : Inv17 a b c d x y s p) :
    Ev (fun k => blackboardlaw17_FrontPlays.j1 k l (gm a b c d) x y (i : Int) x38 o a b c d a b c d s p e0 e1 e2) true := by
  have j2 := fun o ho => j2_ok a b c d l i hi hn x y s p e0 e1 e2 o h ho
  have j3 := fun o => j3_any a b c d l i hi hn x y s p x38 e0 e1 e2 o h
  refine Ev.one ?_
  cases o with
  | false =>
    by_cases c2 : x38 = 2
    · simp only [blackboardlaw17_FrontPlays.j1, Bool.false_eq_true, if_false, if_pos c2]; exact j3 _
    · by_cases c3 : x38 = 3
      · simp only [blackboardlaw17_FrontPlays.j1, Bool.false_eq_true, if_false, if_neg c2, if_pos c3]; exact j3 _
      · by_cases c4 : x38 = 4
        · simp only [blackboardlaw17_FrontPlays.j1, Bool.false_eq_true, if_false, if_neg c2, if_neg c3, if_pos c4]; exact j3 _
        · simp only [blackboardlaw17_FrontPlays.j1, Bool.false_eq_true, if_false, if_neg c2, if_neg c3, if_neg c4]; exact j3 _
  | true =>
    by_cases c1 : gm a b c d = true
    · by_cases c2 : x < 0
      · by_cases c3 : e1 ≥ 0
        · by_cases c4 : e1 < a
          · by_cases c5 : e2 ≥ 0
            · simp only [blackboardlaw17_FrontPlays.j1, if_true, if_pos c1, if_pos c2, if_pos c3, if_pos c4, if_pos c5]
              exact j2 _ (by unfold inB; rw [c1, decide_eq_true c2, decide_eq_true (show 0 ≤ e1 from c3), decide_eq_true c4, decide_eq_true (show 0 ≤ e2 from c5)]; rfl)
            · simp only [blackboardlaw17_FrontPlays.j1, if_true, if_pos c1, if_pos c2, if_pos c3, if_pos c4, if_neg c5]
              exact j2 _ (by unfold inB; rw [decide_eq_false (show ¬ 0 ≤ e2 from c5)]; simp)
          · simp only [blackboardlaw17_FrontPlays.j1, if_true, if_pos c1, if_pos c2, if_pos c3, if_neg c4]
            exact j2 _ (by unfold inB; rw [decide_eq_false c4]; simp)
        · simp only [blackboardlaw17_FrontPlays.j1, if_true, if_pos c1, if_pos c2, if_neg c3]
          exact j2 _ (by unfold inB; rw [decide_eq_false (show ¬ 0 ≤ e1 from c3)]; simp)
      · simp only [blackboardlaw17_FrontPlays.j1, if_true, if_pos c1, if_neg c2]
        exact j2 _ (by rw [decide_eq_false c2]; simp)
    · simp only [blackboardlaw17_FrontPlays.j1, if_true, if_neg c1]
      exact j2 _ (by rw [Bool.eq_false_iff.mpr c1]; rfl)
theorem plays_loop (a b c d : Int) (l : List S30) (hl : l.length ≤ 300) : ∀ (n i : Nat), i + n = l.length → ∀ x y s p, Inv17 a b c d x y s p →
    Ev (fun k => blackboardlaw17_FrontPlays.l0 k l (gm a b c d) x y (i : Int) a b c d a b c d s p) true := by
  intro n
  induction n with
  | zero =>
    intro i hi x y s p _
    have c1 : ¬ ((i : Int) < (l.length : Int)) := by omega
    refine Ev.one ?_
    simp only [blackboardlaw17_FrontPlays.l0, if_neg c1]
    exact Ev.now _
  | succ n ih =>
    intro i hi x y s p h
    have c1 : ((i : Int) < (l.length : Int)) := by omega
    have c0 : 0 ≤ (i : Int) := by omega
    have hn : Next17 a b c d l i := fun x y s p h => ih (i + 1) (by omega) x y s p h
    refine Ev.one ?_
    by_cases c2 : (rd_T30 l (i : Int)).f0 = 0
    · simp only [blackboardlaw17_FrontPlays.l0, if_pos c1, if_pos c0, if_pos c2]
      exact j1_ok a b c d l i (by omega) hn x y s p _ _ _ _ _ h
    · simp only [blackboardlaw17_FrontPlays.l0, if_pos c1, if_pos c0, if_neg c2]
      exact j1_ok a b c d l i (by omega) hn x y s p _ _ _ _ _ h
theorem FrontPlays (a b c d : Int) (l : List S30) : ∃ k, blackboardlaw17_FrontPlays.f k a b c d l = some true := by
  refine Ev.rounds ?_
  unfold blackboardlaw17_FrontPlays.f
  simp only [awake17, refmay_is, Option.bind_some, if_true, front_New.f]
  by_cases cl : (l.length : Int) > 300
  · simp only [if_pos cl]; exact Ev.now _
  · simp only [if_neg cl]
    exact plays_loop a b c d l (by omega) l.length 0 (by omega) _ _ _ _ (.inl ⟨rfl, rfl⟩)
theorem FrontPlays.walk (a0_0 : Int) (a0_1 : Int) (a0_2 : Int) (a0_3 : Int) (A1 : Option Addr) (c1 : Nat) (l1 : List (M.S30)) (w : World) (wa0_0 : (Lit.int .i64 a0_0).wf = true) (wa0_1 : (Lit.int .i64 a0_1).wf = true) (wa0_2 : (Lit.int .i64 a0_2).wf = true) (wa0_3 : (Lit.int .i64 a0_3).wf = true) (r1 : Kd.C M.k30 w A1 l1.length l1) (k1 : l1.length ≤ c1) (m1 : l1.length ≤ maxLen) (y1 : l1.length * 24 ≤ 140737488351232) (g1 : ∀ y ∈ l1, ((Lit.int .i64 y.f0).wf = true ∧ (Lit.int .i64 y.f1).wf = true ∧ (Lit.int .i64 y.f2).wf = true)) :
    Calls Try.prog 3 #[.agg #[.int .i64 a0_0, .int .i64 a0_1, .int .i64 a0_2, .int .i64 a0_3], .slice A1 l1.length c1] w fun e w' => e = .returned (.bool true) ∧ Below w.heap.size w w' := by
  obtain ⟨k, h⟩ := FrontPlays a0_0 a0_1 a0_2 a0_3 l1
  exact blackboardlaw17_FrontPlays.calls k _ _ _ _ A1 c1 l1 true w r1 k1 h
end Go.Proofs.Ytobdkncdjofihaa.Pure
