/- The law PatrolGoes of the seat: round all pages, any geometry, any number of visits; what is due. -/
import Derived.Test.YtmdpfpfnchfocaaBG
import Derived.Test.YtmdpfpfnchfocaaGx4
set_option linter.unusedVariables false
set_option linter.unusedSimpArgs false
namespace Go.Proofs.Ytmdpfpfnchfocaa.Pure
open Go.RowKit Go.Proofs.Ytmdpfpfnchfocaa.G Go.Proofs.YtmdpfpfnchfocaaW.PrintWords Go.Proofs.YtmdpfpfnchfocaaW.PrintLast
/-! the rows -/
def even (x : S34) : Bool := Go.bits .and .i64 x.f1 1 == 0
def rowOf (x : S34) : S36 := ⟨x.f0, even x⟩
def rowsOf (l : List S34) : List S36 := l.map rowOf
def wantOf (l : List S34) : Bool := l.any fun x => even x && decide (4 ≤ x.f0)
theorem due_rows (l : List S34) : dueOne (rowsOf l) = wantOf l := by
  unfold dueOne rowsOf wantOf
  rw [List.any_map]
  congr 1
theorem rows_take (l : List S34) (i : Nat) (h : i < l.length) : rowsOf (l.take i) ++ [rowOf l[i]] = rowsOf (l.take (i + 1)) := by
  unfold rowsOf
  rw [List.take_add_one, List.getElem?_eq_getElem h, List.map_append]; rfl
theorem want_take (l : List S34) (i : Nat) (h : i < l.length) : wantOf (l.take (i + 1)) = (wantOf (l.take i) || (even l[i] && decide (4 ≤ l[i].f0))) := by
  unfold wantOf
  rw [List.take_add_one, List.getElem?_eq_getElem h, List.any_append]
  simp
theorem rd_at (l : List S34) (i : Nat) (h : i < l.length) : rd_T34 l (i : Int) = l[i] := by
  unfold rd_T34
  rw [Int.toNat_natCast, List.getD_eq_getElem?_getD, List.getElem?_eq_getElem h]; rfl
theorem due_is (l : List S36) : patrol_Due.f l = some (dueOne l) := rfl
theorem goes_l1 (l : List S34) (hn : l.length ≤ 200) :
    ∀ d i, i + d = l.length → Ev (fun k => blackboardlaw19_PatrolGoes.l1 k l (rowsOf (l.take i)) (wantOf (l.take i)) (i : Int)) true := by
  intro d
  induction d with
  | zero =>
    intro i hi
    obtain rfl : i = l.length := by omega
    have c1 : ¬ ((l.length : Int) < (l.length : Int)) := Int.lt_irrefl _
    refine Ev.one ?_
    rw [List.take_length]
    simp only [blackboardlaw19_PatrolGoes.l1, if_neg c1, due_is, due_rows, Option.bind_some, beq_self_eq_true]
    exact Ev.now _
  | succ d ih =>
    intro i hi
    have hil : i < l.length := by omega
    have i6 : i ≤ 1000000000000000 := by omega
    have lr : (rowsOf (l.take i)).length < 8796093022208 := by
      unfold rowsOf
      rw [List.length_map, List.length_take, Nat.min_eq_left (Nat.le_of_lt hil)]
      omega
    have ih' := ih (i + 1) (by omega)
    have hw := wn1 i6
    have c1 : ((i : Int) < (l.length : Int)) := Int.ofNat_lt.mpr hil
    have c2 : 0 ≤ (i : Int) := Int.natCast_nonneg _
    have e2 := rows_take l i hil
    rw [want_take l i hil, ← e2] at ih'
    refine Ev.one ?_
    simp only [blackboardlaw19_PatrolGoes.l1, if_pos c1, if_pos c2, rd_at l i hil, if_pos lr, Option.bind_some, hw]
    cases hq : wantOf (l.take i) with
    | true =>
      rw [hq, Bool.true_or] at ih'
      simp only [if_true]
      exact ih'
    | false =>
      rw [hq, Bool.false_or] at ih'
      simp only [Bool.false_eq_true, if_false]
      by_cases c : l[i].f0 ≥ 4
      · rw [decide_eq_true c, Bool.and_true] at ih'
        simp only [if_pos c]
        exact ih'
      · rw [decide_eq_false c, Bool.and_false] at ih'
        simp only [if_neg c]
        exact ih'
theorem goes_j2 (l : List S34) (hn : l.length ≤ 200) : Ev (fun k => blackboardlaw19_PatrolGoes.j2 k l false) true := by
  refine Ev.one ?_
  simp only [blackboardlaw19_PatrolGoes.j2, Bool.false_eq_true, if_false]
  exact goes_l1 l hn l.length 0 (Nat.zero_add _)
/-! a geometry that may be -/
theorem goes_end {p q : Nat} {c d : Int} (hg : gm p q c d = true) (hn : p * q ≤ 2048) (h8 : 8 ≤ p * q) (hq : 0 < q) (x1 : Int) (l : List S34) (hl : l.length ≤ 200) :
    Ev (fun k => (patrol_Visit.f k p q c d x1).bind fun bt176 => (if x1 < 0 then (if bt176.1 = 0 then (if bt176.2 = 0 then (if x1 ≥ 0 then (if ((p * q : Nat) : Int) > 0 then (if ((p * q : Nat) : Int) = 0 then (none) else (blackboardlaw19_PatrolGoes.j2 k l ((wrap64 ((wrap64 (bt176.1 * (q : Int))) + bt176.2)) != (Int.tmod x1 ((p * q : Nat) : Int))))) else (blackboardlaw19_PatrolGoes.j2 k l false)) else (blackboardlaw19_PatrolGoes.j2 k l false)) else (blackboardlaw19_PatrolGoes.j2 k l true)) else (blackboardlaw19_PatrolGoes.j2 k l true)) else (if ((p * q : Nat) : Int) = 0 then (if bt176.1 = 0 then (if bt176.2 = 0 then (if x1 ≥ 0 then (if ((p * q : Nat) : Int) > 0 then (none) else (blackboardlaw19_PatrolGoes.j2 k l false)) else (blackboardlaw19_PatrolGoes.j2 k l false)) else (blackboardlaw19_PatrolGoes.j2 k l true)) else (blackboardlaw19_PatrolGoes.j2 k l true)) else (if x1 ≥ 0 then (if ((p * q : Nat) : Int) > 0 then (blackboardlaw19_PatrolGoes.j2 k l ((wrap64 ((wrap64 (bt176.1 * (q : Int))) + bt176.2)) != (Int.tmod x1 ((p * q : Nat) : Int)))) else (blackboardlaw19_PatrolGoes.j2 k l false)) else (blackboardlaw19_PatrolGoes.j2 k l false))))) true := by
  have n0 : ¬ (((p * q : Nat) : Int) = 0) := by omega
  have n1 : ((p * q : Nat) : Int) > 0 := by omega
  have j := goes_j2 l hl
  by_cases cx : x1 < 0
  · have v : ∀ k, patrol_Visit.f (k + 1) p q c d x1 = some (0, 0) := fun k => by
      unfold patrol_Visit.f
      rw [if_pos cx]
      simp only [patrol_Visit.j0, if_true]
    have v' : Ev (fun k => patrol_Visit.f k p q c d x1) (0, 0) := Ev.one (by simp only [v]; exact Ev.now _)
    have c2 : ¬ x1 ≥ 0 := Int.not_le.mpr cx
    refine Ev.bind v' ?_
    simp only [if_pos cx, if_true, if_neg c2]
    exact j
  · have c2 : x1 ≥ 0 := Int.not_lt.mp cx
    obtain ⟨t, rfl⟩ : ∃ t : Nat, x1 = (t : Int) := ⟨x1.toNat, by omega⟩
    have hv := visit_is hg hn h8 hq t
    have hx : t % (p * q) < p * q := Nat.mod_lt _ (Nat.lt_of_lt_of_le (by decide) h8)
    have hm : Int.tmod (t : Int) ((p * q : Nat) : Int) = ((t % (p * q) : Nat) : Int) := by rw [Int.tmod_eq_emod_of_nonneg (Int.natCast_nonneg _), ← Int.natCast_emod]
    obtain ⟨p1, p2, p3, p4⟩ := page_at (p := p) hq hx
    have x6 : t % (p * q) ≤ 2048 := Nat.le_trans (Nat.le_of_lt hx) hn
    generalize t % (p * q) = x at *
    have wm := wmul (x / q) q (Nat.le_trans p4 (Nat.le_trans x6 (by decide)))
    have ha : wrap64 (((x / q * q : Nat) : Int) + ((x % q : Nat) : Int)) = (x : Int) := by
      rw [← Int.natCast_add, p3]
      clear wm p1 p2 p3 p4 hv hm hx n0 n1 j hn h8 hg
      exact w64 (by omega) (by omega)
    have hne : ((x : Int) != (x : Int)) = false := by simp
    refine Ev.bind hv ?_
    simp only [if_neg cx, if_neg n0, if_pos c2, if_pos n1, wm, ha, hm, hne]
    exact j
theorem goes_l0 {p q : Nat} {c d : Int} (hg : gm p q c d = true) (hn : p * q ≤ 2048) (h8 : 8 ≤ p * q) (hq : 0 < q) (x1 : Int) (l : List S34) (hl : l.length ≤ 200) (f : Nat) (hf : mn (wrap64 (wrap64 (2 * ((p * q : Nat) : Int)) + 3)) 600 = (f : Int)) (hf2 : f ≤ 600) :
    ∀ (m i : Nat), i + m = f → Ev (fun k => blackboardlaw19_PatrolGoes.l0 k x1 l ((p * q : Nat) : Int) (i : Int) p q c d p q c d (i : Int)) true := by
  have n0 : ¬ (((p * q : Nat) : Int) = 0) := by omega
  have n1 : ((p * q : Nat) : Int) > 0 := by omega
  intro m
  induction m with
  | zero =>
    intro i hi
    have c1 : ¬ ((i : Int) < (f : Int)) := by omega
    refine Ev.one ?_
    simp only [blackboardlaw19_PatrolGoes.l0, hf, if_neg c1]
    exact goes_end hg hn h8 hq x1 l hl
  | succ m ih =>
    intro i hi
    have i6 : i ≤ 1000 := by clear hf; omega
    have c1 : ((i : Int) < (f : Int)) := by clear hf; omega
    have i1 : i + 1 ≤ 1000000 := by clear hf; omega
    have ih' := ih (i + 1) (by clear hf; omega)
    have hnx := next_is hg hn h8 hq i (Nat.le_trans i6 (by decide))
    have hv := visit_is hg hn h8 hq i
    have hx : i % (p * q) < p * q := Nat.mod_lt _ (Nat.lt_of_lt_of_le (by decide) h8)
    have hrd := rounds_is hg hn h8 (i + 1) i1
    have hm : Int.tmod (i : Int) ((p * q : Nat) : Int) = ((i % (p * q) : Nat) : Int) := by rw [Int.tmod_eq_emod_of_nonneg (Int.natCast_nonneg _), ← Int.natCast_emod]
    have hd : Int.tdiv ((i + 1 : Nat) : Int) ((p * q : Nat) : Int) = (((i + 1) / (p * q) : Nat) : Int) := by rw [Int.tdiv_eq_ediv_of_nonneg (Int.natCast_nonneg _), ← Int.natCast_ediv]
    have hdl : (i + 1) / (p * q) ≤ 1000000 := Nat.le_trans (Nat.div_le_self _ _) i1
    have hdw : wrap64 (((i + 1) / (p * q) : Nat) : Int) = (((i + 1) / (p * q) : Nat) : Int) := by
      clear hd hm hrd hv hnx ih' hf n0 n1
      generalize (i + 1) / (p * q) = z at *
      clear hx hn h8 hg
      exact w64 (by omega) (by omega)
    have hw := wn1 (i := i) (Nat.le_trans i6 (by decide))
    obtain ⟨p1, p2, p3, p4⟩ := page_at (p := p) hq hx
    have x6 : i % (p * q) ≤ 2048 := Nat.le_trans (Nat.le_of_lt hx) hn
    have ha : ∀ x : Nat, x ≤ 2048 → x / q * q + x % q = x → wrap64 (((x / q * q : Nat) : Int) + ((x % q : Nat) : Int)) = (x : Int) := fun x h1 h2 => by
      rw [← Int.natCast_add, h2]
      clear hd hm hrd hv hnx ih' hf n0 n1 hdw hw hdl p1 p2 p3 p4 hx hn h8 hg h2 x6 c1 i6 i1 hi
      exact w64 (by omega) (by omega)
    have ha' := ha _ x6 p3
    have wm := wmul (i % (p * q) / q) q (Nat.le_trans p4 (Nat.le_trans x6 (by decide)))
    clear ha
    refine Ev.one ?_
    simp only [blackboardlaw19_PatrolGoes.l0, hf, if_pos c1]
    refine Ev.bind hnx ?_
    refine Ev.bind hv ?_
    simp only [if_true, if_neg n0, if_pos n1, wm, ha', hm, hrd, Option.bind_some, hw, hd, hdw]
    exact ih'
/-! one that may not be -/
theorem visit_no {a b c d : Int} (hg : ¬ gm a b c d = true) (t : Int) : Ev (fun k => patrol_Visit.f k a b c d t) (0, 0) := by
  have hgf : gm a b c d = false := Bool.eq_false_iff.mpr hg
  unfold patrol_Visit.f
  by_cases c1 : t < 0
  · simp only [if_pos c1]
    refine Ev.one ?_
    simp only [patrol_Visit.j0, if_true]
    exact Ev.now _
  · simp only [if_neg c1, may_is, hgf, Option.bind_some, Bool.not_false]
    refine Ev.one ?_
    simp only [patrol_Visit.j0, if_true]
    exact Ev.now _
theorem next_no {a b c d : Int} (hg : ¬ gm a b c d = true) (t : Int) : Ev (fun k => patrol_Patrol_Next.f k a b c d t) (0, 0, a, b, c, d, wrap64 (t + 1)) := by
  unfold patrol_Patrol_Next.f
  exact Ev.bind (visit_no hg t) (Ev.now _)
theorem goes_l0_no {a b c d : Int} (hg : ¬ gm a b c d = true) (x1 : Int) (l : List S34) (hl : l.length ≤ 200) :
    ∀ (m i : Nat) (t : Int), i + m = 3 → Ev (fun k => blackboardlaw19_PatrolGoes.l0 k x1 l 0 (i : Int) a b c d a b c d t) true := by
  have hf : mn (wrap64 (wrap64 (2 * 0) + 3)) 600 = 3 := by decide +kernel
  have z0 : ¬ ((0 : Int) > 0) := by decide
  have j := goes_j2 l hl
  intro m
  induction m with
  | zero =>
    intro i t hi
    have c1 : ¬ ((i : Int) < 3) := by clear hf; omega
    refine Ev.one ?_
    simp only [blackboardlaw19_PatrolGoes.l0, hf, if_neg c1]
    refine Ev.bind (visit_no hg x1) ?_
    by_cases cx : x1 < 0
    · have c2 : ¬ x1 ≥ 0 := Int.not_le.mpr cx
      simp only [if_pos cx, if_true, if_neg c2]
      exact j
    · have c2 : x1 ≥ 0 := Int.not_lt.mp cx
      simp only [if_neg cx, if_true, if_pos c2, if_neg z0]
      exact j
  | succ m ih =>
    intro i t hi
    have c1 : ((i : Int) < 3) := by clear hf; omega
    have hw := wn1 (i := i) (by clear hf; omega)
    refine Ev.one ?_
    simp only [blackboardlaw19_PatrolGoes.l0, hf, if_pos c1]
    refine Ev.bind (next_no hg t) ?_
    refine Ev.bind (visit_no hg i) ?_
    simp only [if_true, if_neg z0, hw]
    exact ih (i + 1) _ (by clear hf hw; omega)
theorem PatrolGoes (a b c d e : Int) (l : List S34) : ∃ k, blackboardlaw19_PatrolGoes.f k a b c d e l = some true := by
  refine Ev.rounds ?_
  unfold blackboardlaw19_PatrolGoes.f
  refine Ev.bind awake19 ?_
  simp only [if_true]
  by_cases c1 : (l.length : Int) > 200
  · simp only [if_pos c1]; exact Ev.now _
  have hl : l.length ≤ 200 := by omega
  simp only [if_neg c1, patrol_New.f, Option.bind_some, refmay_is]
  by_cases hg : gm a b c d = true
  · obtain ⟨p, q, rfl, rfl, h1, h2, h3, h4, h8, hn⟩ := gm_nat hg
    have wm := wmul p q (Nat.le_trans hn (by decide))
    have hf : mn (wrap64 (wrap64 (2 * ((p * q : Nat) : Int)) + 3)) 600 = ((min (2 * (p * q) + 3) 600 : Nat) : Int) := by
      clear wm hg c1
      generalize p * q = n at *
      have e1 : wrap64 (2 * (n : Int)) = 2 * (n : Int) := w64 (by omega) (by omega)
      rw [e1]
      clear e1
      have e2 : wrap64 (2 * (n : Int) + 3) = 2 * (n : Int) + 3 := w64 (by omega) (by omega)
      rw [e2]
      clear e2
      unfold mn
      split <;> omega
    have h := goes_l0 hg hn h8 (Nat.lt_of_lt_of_le (by decide) h3) e l hl _ hf (Nat.min_le_right _ _) (min (2 * (p * q) + 3) 600) 0 (Nat.zero_add _)
    simp only [if_pos hg, wm]
    refine Ev.one ?_
    simp only [blackboardlaw19_PatrolGoes.j0]
    exact h
  · have h := goes_l0_no hg e l hl 3 0 0 rfl
    simp only [if_neg hg]
    refine Ev.one ?_
    simp only [blackboardlaw19_PatrolGoes.j0]
    exact h
theorem PatrolGoes.walk (a0_0 : Int) (a0_1 : Int) (a0_2 : Int) (a0_3 : Int) (a1 : Int) (A2 : Option Addr) (c2 : Nat) (l2 : List (G.S34)) (w : World) (wa0_0 : (Lit.int .i64 a0_0).wf = true) (wa0_1 : (Lit.int .i64 a0_1).wf = true) (wa0_2 : (Lit.int .i64 a0_2).wf = true) (wa0_3 : (Lit.int .i64 a0_3).wf = true) (w1 : (Lit.int .i64 a1).wf = true) (r2 : Kd.C G.k34 w A2 l2.length l2) (k2 : l2.length ≤ c2) (m2 : l2.length ≤ maxLen) (y2 : l2.length * 16 ≤ 140737488351232) (g2 : ∀ y ∈ l2, ((Lit.int .i64 y.f0).wf = true ∧ (Lit.int .i64 y.f1).wf = true)) :
    Calls Try.prog 3 #[.agg #[.int .i64 a0_0, .int .i64 a0_1, .int .i64 a0_2, .int .i64 a0_3], .int .i64 a1, .slice A2 l2.length c2] w fun e w' => e = .returned (.bool true) ∧ Below w.heap.size w w' := by
  obtain ⟨k, h⟩ := PatrolGoes a0_0 a0_1 a0_2 a0_3 a1 l2
  exact blackboardlaw19_PatrolGoes.calls k _ _ _ _ _ A2 c2 l2 true w r2 k2 h
end Go.Proofs.Ytmdpfpfnchfocaa.Pure
