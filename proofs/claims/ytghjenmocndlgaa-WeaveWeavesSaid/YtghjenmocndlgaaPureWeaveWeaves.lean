/- The law WeaveWeaves of the seat, over its printed functions. -/
import Derived.Test.YtghjenmocndlgaaL6
import Derived.Test.YtghjenmocndlgaaMx9
set_option linter.unusedVariables false
set_option linter.unusedSimpArgs false
namespace Go.Proofs.Ytghjenmocndlgaa.L6
open Go.RowKit Go.Proofs.Ytghjenmocndlgaa.M Go.Proofs.YtghjenmocndlgaaW.PrintWords Go.Proofs.YtghjenmocndlgaaW.PrintLast

theorem inOf_small (w : Int) (s : List Int) (hs : s.length ≤ 100000000) : (∀ x ∈ (inOf w s).1, x.length ≤ 1000000000000) ∧ (inOf w s).1.length ≤ 1000000000000 := by
  by_cases c1 : w < 1 ∨ 4 < w
  · rw [inOf_bad c1]; simp
  · by_cases c2 : s.length = 0 ∨ (s.length : Int) % w ≠ 0
    · rw [inOf_odd c1 c2]; simp
    · rw [inOf_good c1 c2]
      refine ⟨fun x hx => ?_, by simp [deal]; omega⟩
      simp only [deal, List.mem_map, List.mem_range] at hx
      obtain ⟨r, hr, rfl⟩ := hx
      rw [pick_length]
      have := Nat.div_le_self (s.length + (w.toNat - 1 - r)) w.toNat
      omega
theorem weaves_end (w : Int) (l : List (List Int)) (s : List Int) (hl : l.length ≤ 20) (hs : s.length ≤ 3000) (hall : ∀ i, i < l.length → (l.getD i []).length ≤ 1000) :
    Ev (fun k => blackboardlaw6_WeaveWeaves.l0 k w l s (l.length : Int)) true := by
  have c1 : ¬ ((l.length : Int) < (l.length : Int)) := by omega
  have hin := inOf_small w s (by omega)
  have tail : ∀ (x : List Int) (e : Int), x.length ≤ 1000000000000 → Ev (fun k => weave_Out.f k w l) (x, e) → Ev (fun k => blackboardlaw6_WeaveWeaves.j2 k w l x e false) true → Ev (fun k => blackboardlaw6_WeaveWeaves.l0 k w l s (l.length : Int)) true := by
    intro x e hx ho hj
    refine Ev.one ?_
    simp only [blackboardlaw6_WeaveWeaves.l0, if_neg c1, out_f]
    refine Ev.bind ho (Ev.bind ho (Ev.bind (in_is w s (by omega)) (Ev.bind (refin_is w s (by omega)) ?_)))
    simp only [if_true]
    have hsame := same_is x x hx
    simp only [decide_true] at hsame
    refine Ev.bind hsame ?_
    simp only [if_true]
    refine Ev.bind (rows_same _ hin.1 hin.2) ?_
    simpa using hj
  have stop : ∀ (x : List Int) (e : Int), e ≠ 0 → Ev (fun k => blackboardlaw6_WeaveWeaves.j2 k w l x e false) true := by
    intro x e he
    refine Ev.one ?_
    simp only [blackboardlaw6_WeaveWeaves.j2, Bool.false_eq_true, if_false, he]
    exact Ev.now _
  by_cases cb : w < 1 ∨ 4 < w ∨ (l.length : Int) ≠ w
  · exact tail [] 1 (by simp) (out_bad w l cb) (stop _ _ (by decide))
  · have hw : (l.length : Int) = w := by
      apply Classical.byContradiction
      intro h; exact cb (.inr (.inr h))
    have h1 : 1 ≤ l.length := by omega
    have h4 : l.length ≤ 4 := by omega
    subst hw
    by_cases ce : Even l
    · have hn := hall 0 (by omega)
      have hlen := inter_length l (l.getD 0 []).length
      have hmul : (l.getD 0 []).length * l.length ≤ 1000 * 4 := Nat.mul_le_mul hn h4
      refine tail _ 0 (by omega) (out_good l h1 h4 ce (by omega)) ?_
      refine Ev.one ?_
      simp only [blackboardlaw6_WeaveWeaves.j2, Bool.false_eq_true, if_false, if_true]
      have hpos : 1 * 1 ≤ (l.getD 0 []).length * l.length := Nat.mul_le_mul (by have := ce.1; omega) h1
      have hi := in_is (l.length : Int) (inter l (l.getD 0 []).length) (by omega)
      rw [inOf_good (by omega) (by
        rintro (h | h)
        · omega
        · rw [hlen] at h
          apply h
          rw [Int.natCast_mul, Int.mul_emod_left]), Int.toNat_natCast, deal_inter l h1 h4 _ ce.2] at hi
      refine Ev.bind hi ?_
      simp only [if_true]
      refine Ev.bind (rows_same l (fun x hx => ?_) (by omega)) (Ev.now _)
      obtain ⟨i, hi', rfl⟩ := List.mem_iff_getElem.1 hx
      have := hall i hi'
      rw [List.getD_eq_getElem?_getD, List.getElem?_eq_getElem hi', Option.getD_some] at this
      omega
    · exact tail [] 3 (by simp) (out_odd l h1 h4 ce) (stop _ _ (by decide))
theorem weaves_l0 (w : Int) (l : List (List Int)) (s : List Int) (hl : l.length ≤ 20) (hs : s.length ≤ 3000) : ∀ (d i : Nat), i + d = l.length → (∀ j, j < i → (l.getD j []).length ≤ 1000) →
    Ev (fun k => blackboardlaw6_WeaveWeaves.l0 k w l s (i : Int)) true := by
  intro d
  induction d with
  | zero =>
    intro i hi hall
    obtain rfl : i = l.length := by omega
    exact weaves_end w l s hl hs hall
  | succ d ih =>
    intro i hi hall
    have c1 : ((i : Int) < (l.length : Int)) := by omega
    have c2 : 0 ≤ (i : Int) := by omega
    refine Ev.one ?_
    simp only [blackboardlaw6_WeaveWeaves.l0, if_pos c1, if_pos c2, rdL, wn1 (show i ≤ 1000000000000000 by omega)]
    by_cases c3 : ((l.getD i []).length : Int) > 1000
    · simp only [c3, if_true]; exact Ev.now _
    · simp only [c3, if_false]
      refine ih (i + 1) (by omega) fun j hj => ?_
      by_cases e : j = i
      · subst e; omega
      · exact hall j (by omega)
theorem WeaveWeaves (w : Int) (l : List (List Int)) (s : List Int) : ∃ k, blackboardlaw6_WeaveWeaves.f k w l s = some true := by
  refine Ev.rounds ?_
  unfold blackboardlaw6_WeaveWeaves.f
  refine Ev.bind awake6 ?_
  simp only [if_true]
  have far : Ev (fun k => blackboardlaw6_WeaveWeaves.j0 k w l s true) true := by
    refine Ev.one ?_
    simp only [blackboardlaw6_WeaveWeaves.j0, if_true]; exact Ev.now _
  by_cases c1 : (l.length : Int) > 20
  · simp only [if_pos c1]; exact far
  · simp only [if_neg c1]
    by_cases c2 : (s.length : Int) > 3000
    · rw [decide_eq_true c2]; exact far
    · rw [decide_eq_false c2]
      refine Ev.one ?_
      simp only [blackboardlaw6_WeaveWeaves.j0, Bool.false_eq_true, if_false]
      exact weaves_l0 w l s (by omega) (by omega) l.length 0 (by omega) (fun j hj => absurd hj (Nat.not_lt_zero _))
theorem WeaveWeaves.walk (a0 : Int) (A1 : Option Addr) (c1 : Nat) (l1 : List (List (Int))) (A2 : Option Addr) (c2 : Nat) (l2 : List (Int)) (w : World) (w0 : (Lit.int .i64 a0).wf = true) (r1 : Kd.C (Kd.slice 22 (Kd.int .u16)) w A1 l1.length l1) (k1 : l1.length ≤ c1) (m1 : l1.length ≤ maxLen) (y1 : l1.length * 24 ≤ 140737488351232) (g1 : ∀ y ∈ l1, (y.length ≤ maxLen ∧ ∀ z0 ∈ y, (Lit.int .u16 z0).wf = true)) (r2 : Kd.C (Kd.int .u16) w A2 l2.length l2) (k2 : l2.length ≤ c2) (m2 : l2.length ≤ maxLen) (y2 : l2.length * 2 ≤ 140737488351232) (g2 : ∀ y ∈ l2, (Lit.int .u16 y).wf = true) :
    Calls Try.prog 4 #[.int .i64 a0, .slice A1 l1.length c1, .slice A2 l2.length c2] w fun e w' => e = .returned (.bool true) ∧ Below w.heap.size w w' := by
  obtain ⟨k, h⟩ := WeaveWeaves a0 l1 l2
  exact blackboardlaw6_WeaveWeaves.calls k a0 _ _ l1 _ _ l2 true w r1 k1 r2 k2 h
end Go.Proofs.Ytghjenmocndlgaa.L6
