/- Counting, picking, turning: plain. -/
import Derived.Test.YtfgfjgjabcmheaaD
namespace Go.Proofs.Ytfgfjgjabcmheaa.M
open Go.RowKit Go.Proofs.YtfgfjgjabcmheaaW.PrintWords Go.Proofs.YtfgfjgjabcmheaaW.PrintLast Go.Proofs.YtfgfjgjabcmheaaW.PrintMore
set_option linter.unusedVariables false
set_option linter.unusedSimpArgs false
theorem list_range (s : List Int) : s = (List.range s.length).map (fun i : Nat => rd s (i : Int)) := by
  apply List.ext_getElem
  · simp
  · intro n h1 h2
    simp only [List.getElem_map, List.getElem_range]
    rw [rd_at s n h1]
theorem lst_count (s : List Int) (v : Int) : (lstP s v).length = s.count v := by
  unfold lstP
  rw [List.length_map, ← List.countP_eq_length_filter]
  conv => rhs; rw [list_range s]
  rw [List.count, List.countP_map]
  rfl
def csum (s : List Int) (t : Nat) : Int := ((List.range t).map fun j : Nat => ((lstP s ((j : Int) + 1)).length : Int)).sum
theorem csum_succ (s : List Int) (t : Nat) : csum s (t + 1) = csum s t + ((lstP s ((t : Int) + 1)).length : Int) := by
  unfold csum
  rw [List.range_succ, List.map_append, List.sum_append]
  simp
theorem lst_le (s : List Int) (v : Int) : (lstP s v).length ≤ s.length := by rw [lst_count]; exact List.count_le_length
theorem csum_le (s : List Int) : ∀ t : Nat, 0 ≤ csum s t ∧ csum s t ≤ (t : Int) * (s.length : Int)
  | 0 => by simp [csum]
  | t + 1 => by
    have ih := csum_le s t
    have hl := lst_le s ((t : Int) + 1)
    rw [csum_succ]
    refine ⟨by omega, ?_⟩
    have : ((t + 1 : Nat) : Int) * (s.length : Int) = (t : Int) * (s.length : Int) + (s.length : Int) := by rw [Int.natCast_add, Int.add_mul]; simp
    omega
def In4 (s : List Int) : Prop := ∀ x ∈ s, x = 1 ∨ x = 2 ∨ x = 3 ∨ x = 4
theorem count4 : ∀ s : List Int, In4 s → s.count 1 + s.count 2 + s.count 3 + s.count 4 = s.length
  | [], _ => rfl
  | x :: s, h => by
    have ih := count4 s (fun y hy => h y (List.mem_cons_of_mem _ hy))
    rcases h x List.mem_cons_self with rfl | rfl | rfl | rfl <;> simp [List.count_cons] <;> omega
theorem csum_all (s : List Int) (h : In4 s) : csum s 4 = (s.length : Int) := by
  have := count4 s h
  simp only [csum_succ, lst_count]
  simp only [csum, List.range_zero, List.map_nil, List.sum_nil]
  rw [show ((0 : Nat) : Int) + 1 = 1 from rfl, show ((1 : Nat) : Int) + 1 = 2 from rfl, show ((2 : Nat) : Int) + 1 = 3 from rfl, show ((3 : Nat) : Int) + 1 = 4 from rfl]
  omega
theorem which_get (s : List Int) (v : Int) (j : Nat) (h : j < s.length) : (whichP s v).getD j false = (s.getD j 0 == v) := by
  rw [List.getD_eq_getElem?_getD, List.getD_eq_getElem?_getD, List.getElem?_eq_getElem (by simpa [whichP] using h), List.getElem?_eq_getElem h]
  simp [whichP]
theorem pick_cases (s e : List Int) (he : e.length = s.length) : (∃ p : Nat, pickP (s, e) = ((p : Int), true) ∧ p < s.length ∧ s.getD p 0 = 1 ∧ 0 < (lstP s 1).length) ∨ (pickP (s, e) = (0, false) ∧ (lstP s 1).length = 0) := by
  have hw : (whichP s 1).length = s.length := by simp [whichP]
  unfold pickP
  cases hs : Pure.sel (Pure.okP e (whichP s 1)) (Pure.ltP e) (whichP s 1).length with
  | some p =>
    obtain ⟨h1, h2⟩ := Pure.sel_lt hs
    rw [hw] at h1
    have h3 : s.getD p 0 = 1 := by
      have : (whichP s 1).getD p false = true := by simp [Pure.okP] at h2; simpa using h2.2.2
      rw [which_get s 1 p h1] at this; simpa using this
    refine .inl ⟨p, rfl, h1, h3, ?_⟩
    rw [lst_count]
    refine List.count_pos_iff.2 ?_
    rw [List.getD_eq_getElem?_getD, List.getElem?_eq_getElem h1] at h3
    have h3 : s[p] = 1 := h3
    rw [← h3]; exact List.getElem_mem _
  | none =>
    have hn := Pure.sel_none hs
    refine .inr ⟨rfl, ?_⟩
    rw [lst_count]
    refine List.count_eq_zero.2 (fun hm => ?_)
    obtain ⟨j, hj, hj2⟩ := List.getElem_of_mem hm
    have := hn j (by rw [hw]; exact hj)
    have h4 : (whichP s 1).getD j false = true := by
      rw [which_get s 1 j hj, List.getD_eq_getElem?_getD, List.getElem?_eq_getElem hj]
      simp [hj2]
    unfold Pure.okP at this
    rw [h4, hw, he, decide_eq_true hj] at this
    exact absurd this (by simp)
theorem in4_set {s : List Int} (h : In4 s) (b : Nat) {v : Int} (hv : v = 1 ∨ v = 2 ∨ v = 3 ∨ v = 4) : In4 (s.set b v) := fun x hx => by
  rcases List.mem_or_eq_of_mem_set hx with h1 | h1
  · exact h x h1
  · rw [h1]; exact hv
theorem in4_at {s : List Int} (h : In4 s) (b : Nat) (hb : b < s.length) : s.getD b 0 = 1 ∨ s.getD b 0 = 2 ∨ s.getD b 0 = 3 ∨ s.getD b 0 = 4 := by
  rw [List.getD_eq_getElem?_getD, List.getElem?_eq_getElem hb]; exact h _ (List.getElem_mem _)
theorem turn_is (s e : List Int) (b : Nat) (t : Int) (hb : b < s.length) : turnF (s, e) (b : Int) t = if mayB (s.getD b 0) t = true then (true, (s.set b t, e)) else (false, (s, e)) := by
  unfold turnF
  have : rd s (b : Int) = s.getD b 0 := rfl
  simp only [thereB_of hb, this, Bool.true_and, Int.toNat_natCast]
theorem state_is (s e : List Int) (b : Nat) (hb : b < s.length) : stateF (s, e) (b : Int) = s.getD b 0 := by
  unfold stateF; rw [if_pos (thereB_of hb)]; rfl
theorem may4 (t : Int) : mayB 4 t = false := by unfold mayB; (repeat' split) <;> rfl
theorem mayB_in {a t : Int} (h : mayB a t = true) : t = 1 ∨ t = 2 ∨ t = 3 ∨ t = 4 := by
  unfold mayB at h
  (repeat' split at h) <;> simp_all
end Go.Proofs.Ytfgfjgjabcmheaa.M
