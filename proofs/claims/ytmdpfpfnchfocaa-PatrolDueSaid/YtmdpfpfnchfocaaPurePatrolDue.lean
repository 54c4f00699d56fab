/- The law PatrolDue of the seat: a page is due just if a codeword that can be read has four wrong or more. -/
import Derived.Test.YtmdpfpfnchfocaaB
import Derived.Test.YtmdpfpfnchfocaaMx5
set_option linter.unusedVariables false
set_option linter.unusedSimpArgs false
namespace Go.Proofs.Ytmdpfpfnchfocaa.Pure
open Go.RowKit Go.Proofs.Ytmdpfpfnchfocaa.M Go.Proofs.YtmdpfpfnchfocaaW.PrintWords Go.Proofs.YtmdpfpfnchfocaaW.PrintLast
/-- the rows that the law makes, and whether one of them is due -/
def rowOf (x : Int) : S36 := ⟨x % 9, true⟩
def rowsOf (l : List Int) : List S36 := l.map rowOf
def wantOf (l : List Int) : Bool := l.any fun x => decide (4 ≤ x % 9)
theorem due_rows (l : List Int) : dueOne (rowsOf l) = wantOf l := by
  unfold dueOne rowsOf wantOf
  rw [List.any_map]
  congr 1
theorem due_more (l : List Int) (i : Nat) (hi : i < l.length) (h : wantOf l = true) (hb : ∀ x ∈ l, 0 ≤ x ∧ x ≤ 255) :
    dueOne ((rowsOf l).set i ⟨wrap64 ((rd_T36 (rowsOf l) i).f0 + 1), (rd_T36 (rowsOf l) i).f1⟩) = true := by
  have hl : (rowsOf l).length = l.length := by simp [rowsOf]
  have hr : rd_T36 (rowsOf l) (i : Int) = rowOf l[i] := by
    unfold rd_T36
    rw [Int.toNat_natCast, List.getD_eq_getElem?_getD, List.getElem?_eq_getElem (by omega)]
    simp [rowsOf]
  rw [hr]
  have hx := hb _ (List.getElem_mem hi)
  unfold wantOf at h
  rw [List.any_eq_true] at h
  obtain ⟨x, hm, hd⟩ := h
  obtain ⟨j, hj, rfl⟩ := List.mem_iff_getElem.1 hm
  have hd := of_decide_eq_true hd
  have e1 : wrap64 ((rowOf l[i]).f0 + 1) = l[i] % 9 + 1 := w64 (show -9223372036854775808 ≤ l[i] % 9 + 1 by omega) (show l[i] % 9 + 1 ≤ 9223372036854775807 by omega)
  rw [e1]
  unfold dueOne
  rw [List.any_eq_true]
  by_cases c : i = j
  · subst c
    refine ⟨⟨l[i] % 9 + 1, true⟩, ?_, ?_⟩
    · rw [List.mem_iff_getElem]
      exact ⟨i, by rw [List.length_set]; omega, by rw [List.getElem_set_self]; rfl⟩
    · show (true && decide (4 ≤ l[i] % 9 + 1)) = true
      rw [decide_eq_true (by omega)]; rfl
  · refine ⟨rowOf l[j], ?_, ?_⟩
    · rw [List.mem_iff_getElem]
      exact ⟨j, by rw [List.length_set]; omega, by rw [List.getElem_set_ne c]; simp [rowsOf]⟩
    · show (true && decide (4 ≤ l[j] % 9)) = true
      rw [decide_eq_true hd]; rfl
theorem due_is (l : List S36) : patrol_Due.f l = some (dueOne l) := rfl
theorem due_end (l : List Int) (at_ : Int) (h0 : 0 ≤ at_) (h1 : at_ ≤ 255) (hn : l.length ≤ 100) (hp : 0 < l.length) (hb : ∀ x ∈ l, 0 ≤ x ∧ x ≤ 255) :
    Ev (fun k => blackboardlaw19_PatrolDue.l0 k l at_ (rowsOf l) (wantOf l) (l.length : Int)) true := by
  have hl : (rowsOf l).length = l.length := by simp [rowsOf]
  have e1 : Int.tmod (wrap64 at_) (((rowsOf l).length : Nat) : Int) = ((at_.toNat % l.length : Nat) : Int) := by
    rw [hl, w64 (by omega) (by omega), Int.tmod_eq_emod_of_nonneg h0, Int.natCast_emod, Int.toNat_of_nonneg h0]
  have hk : at_.toNat % l.length < l.length := Nat.mod_lt _ hp
  generalize at_.toNat % l.length = q at *
  have c1 : ¬ ((l.length : Int) < (l.length : Int)) := by omega
  have c2 : ¬ (((rowsOf l).length : Int) = 0) := by omega
  have c3 : 0 ≤ (q : Int) := by omega
  have c4 : (q : Int) < ((rowsOf l).length : Int) := by omega
  have e2 : dueOne [] = false := rfl
  have e3 := due_rows l
  have dm := due_more l q hk
  refine Ev.one ?_
  simp only [blackboardlaw19_PatrolDue.l0, if_neg c1, due_is, Option.bind_some, if_neg c2, e1, if_pos c3, if_pos c4, Int.toNat_natCast, e2, e3, beq_self_eq_true, if_true, Bool.not_false]
  cases hw : wantOf l with
  | false => simp only [Bool.false_eq_true, if_false]; exact Ev.now _
  | true => simp only [if_true, dm hw hb]; exact Ev.now _
theorem rows_take (l : List Int) (i : Nat) (h : i < l.length) : rowsOf (l.take i) ++ [rowOf l[i]] = rowsOf (l.take (i + 1)) := by
  unfold rowsOf
  rw [List.take_add_one, List.getElem?_eq_getElem h, List.map_append]; rfl
theorem want_take (l : List Int) (i : Nat) (h : i < l.length) : wantOf (l.take (i + 1)) = (wantOf (l.take i) || decide (4 ≤ l[i] % 9)) := by
  unfold wantOf
  rw [List.take_add_one, List.getElem?_eq_getElem h, List.any_append]
  simp
theorem due_loop (l : List Int) (at_ : Int) (h0 : 0 ≤ at_) (h1 : at_ ≤ 255) (hn : l.length ≤ 100) (hp : 0 < l.length) (hb : ∀ x ∈ l, 0 ≤ x ∧ x ≤ 255) :
    ∀ d i, i + d = l.length → Ev (fun k => blackboardlaw19_PatrolDue.l0 k l at_ (rowsOf (l.take i)) (wantOf (l.take i)) (i : Int)) true := by
  intro d
  induction d with
  | zero =>
    intro i hi
    obtain rfl : i = l.length := by omega
    rw [List.take_length]
    exact due_end l at_ h0 h1 hn hp hb
  | succ d ih =>
    intro i hi
    have hil : i < l.length := by omega
    have ih' := ih (i + 1) (by omega)
    have hw := wn1 (i := i) (by omega)
    have c1 : ((i : Int) < (l.length : Int)) := by omega
    have c2 : 0 ≤ (i : Int) := by omega
    have hbi := hb _ (List.getElem_mem hil)
    have e0 : rd l (i : Int) = l[i] := by
      unfold rd
      rw [Int.toNat_natCast, List.getD_eq_getElem?_getD, List.getElem?_eq_getElem hil]; rfl
    have e1 : Int.tmod (wrap64 (l[i])) 9 = l[i] % 9 := by rw [w64 (by omega) (by omega), Int.tmod_eq_emod_of_nonneg (by omega)]
    have lr : (rowsOf (l.take i)).length = i := by simp [rowsOf]; omega
    have c3 : (rowsOf (l.take i)).length < 8796093022208 := by rw [lr]; omega
    have e2 := rows_take l i hil
    unfold rowOf at e2
    rw [want_take l i hil] at ih'
    refine Ev.one ?_
    simp only [blackboardlaw19_PatrolDue.l0, if_pos c1, if_pos c2, e0, e1, if_pos c3, Option.bind_some, e2, hw]
    cases hq : wantOf (l.take i) with
    | true => rw [hq] at ih'; simp only [if_true]; exact ih'
    | false => rw [hq] at ih'; simp only [Bool.false_eq_true, if_false]; exact ih'
theorem PatrolDue : blackboardlaw19_PatrolDue.Pure := by
  intro l at_ hm hm2 hg ha
  have ha := bounds_u8 ha
  refine Ev.rounds ?_
  unfold blackboardlaw19_PatrolDue.f
  refine Ev.bind awake19 ?_
  simp only [if_true]
  have out : Ev (fun k => blackboardlaw19_PatrolDue.j0 k l at_ true) true := by
    refine Ev.one ?_
    simp only [blackboardlaw19_PatrolDue.j0, if_true]
    exact Ev.now _
  by_cases c0 : l.length = 0
  · have c : (l.length : Int) = 0 := by omega
    simp only [if_pos c]
    exact out
  · have c : ¬ (l.length : Int) = 0 := by omega
    simp only [if_neg c]
    by_cases c2 : l.length > 100
    · have d : decide ((l.length : Int) > 100) = true := decide_eq_true (by omega)
      rw [d]; exact out
    · have d : decide ((l.length : Int) > 100) = false := decide_eq_false (by omega)
      rw [d]
      refine Ev.one ?_
      simp only [blackboardlaw19_PatrolDue.j0, Bool.false_eq_true, if_false]
      exact due_loop l at_ (by omega) (by omega) (by omega) (by omega) (fun y hy => by have := bounds_u8 (hg y hy); omega) l.length 0 (by omega)
end Go.Proofs.Ytmdpfpfnchfocaa.Pure
