/- What the methods answer on levels: plain. -/
import Derived.Test.YtfgfjgjabcmheaaC
namespace Go.Proofs.Ytfgfjgjabcmheaa.M
open Go.RowKit Go.Proofs.YtfgfjgjabcmheaaW.PrintWords Go.Proofs.YtfgfjgjabcmheaaW.PrintLast Go.Proofs.YtfgfjgjabcmheaaW.PrintMore
set_option linter.unusedVariables false
set_option linter.unusedSimpArgs false
/-- k numbers: the first r are q + 1, the others q -/
def lvl (k q r : Nat) : List Int := (List.range k).map fun j : Nat => (q : Int) + if j < r then 1 else 0
theorem lvl_length (k q r : Nat) : (lvl k q r).length = k := by simp [lvl]
theorem lvl_get (k q r j : Nat) (h : j < k) : (lvl k q r).getD j 0 = (q : Int) + if j < r then 1 else 0 := by
  rw [List.getD_eq_getElem?_getD, List.getElem?_eq_getElem (by simpa [lvl] using h)]
  simp [lvl]
theorem lvl_full (k q : Nat) : lvl k q k = lvl k (q + 1) 0 := by
  apply List.ext_getElem
  · simp [lvl]
  · intro n h1 h2
    have : n < k := by simpa [lvl] using h1
    simp [lvl, this]
theorem lvl_set (k q r : Nat) (h : r < k) : (lvl k q r).set r ((q : Int) + 1) = lvl k q (r + 1) := by
  apply List.ext_getElem
  · simp [lvl]
  · intro n h1 h2
    rw [List.getElem_set]
    by_cases e : r = n
    · subst e; simp [lvl]
    · simp only [e, if_false, lvl, List.getElem_map, List.getElem_range]
      congr 1
      by_cases c : n < r
      · rw [if_pos c, if_pos (by omega)]
      · rw [if_neg c, if_neg (by omega)]
theorem which_free (k : Nat) : whichP (List.replicate k 1) 1 = List.replicate k true := by simp [whichP]
theorem rep_get (k j : Nat) (h : j < k) : (List.replicate k true).getD j false = true := by
  rw [List.getD_eq_getElem?_getD, List.getElem?_eq_getElem (by simpa using h)]
  simp
theorem lvl_ok (k q r j : Nat) (h : j < k) : Pure.okP (lvl k q r) (List.replicate k true) j = true := by
  unfold Pure.okP
  rw [rep_get k j h, lvl_length]
  simp [h]
theorem lvl_pick (k q r : Nat) (h : r < k) : pickP (List.replicate k 1, lvl k q r) = ((r : Int), true) := by
  have e : Pure.sel (Pure.okP (lvl k q r) (List.replicate k true)) (Pure.ltP (lvl k q r)) (List.replicate k true).length = some r := by
    refine Pure.sel_is (Pure.weakP _) (by simpa using h) (lvl_ok k q r r h) fun j hj _ => ?_
    have hj : j < k := by simpa using hj
    unfold Pure.ltP
    rw [lvl_get k q r j hj, lvl_get k q r r h]
    refine ⟨fun c => ?_, fun c => ?_⟩
    · rw [if_neg (by omega), if_pos c]; simp; omega
    · rw [if_neg (by omega), if_neg (by omega)]; simp
  unfold pickP
  rw [which_free, e]; rfl
theorem thereB_of {l : List Int} {r : Nat} (h : r < l.length) : thereB l (r : Int) = true := by simp [thereB, h]
theorem rd_set {l : List Int} {r : Nat} (h : r < l.length) (v : Int) : rd (l.set r v) (r : Int) = v := by
  rw [rd_at _ _ (by simpa using h)]; simp
theorem turn_at {l m : List Int} {r : Nat} {s : Int} (h : r < l.length) (hm : mayB (rd l (r : Int)) s = true) : turnF (l, m) (r : Int) s = (true, (l.set r s, m)) := by
  unfold turnF
  rw [if_pos (by rw [thereB_of h, hm]; rfl), Int.toNat_natCast]
theorem turn1 (k r : Nat) (m : List Int) (h : r < k) : turnF (List.replicate k 1, m) (r : Int) 2 = (true, ((List.replicate k 1).set r 2, m)) :=
  turn_at (by simpa using h) (by rw [rd_at _ _ (by simpa using h)]; simp [mayB])
theorem turn2 (k r : Nat) (m : List Int) (h : r < k) : turnF ((List.replicate k 1).set r 2, m) (r : Int) 3 = (true, ((List.replicate k 1).set r 3, m)) := by
  rw [turn_at (by simpa using h) (by rw [rd_set (by simpa using h)]; simp [mayB]), List.set_set]
theorem turn3 (k r : Nat) (m : List Int) (h : r < k) : turnF ((List.replicate k 1).set r 3, m) (r : Int) 1 = (true, (List.replicate k 1, m)) := by
  rw [turn_at (by simpa using h) (by rw [rd_set (by simpa using h)]; simp [mayB]), List.set_set]
  have : (List.replicate k (1 : Int)).set r 1 = List.replicate k 1 := by
    apply List.ext_getElem <;> simp [List.getElem_set]
  rw [this]
theorem erased1 (k q r : Nat) (h : r < k) (hq : q ≤ 1000) : erasedF (List.replicate k 1, lvl k q r) (r : Int) = (List.replicate k 1, lvl k q (r + 1)) := by
  unfold erasedF
  rw [if_pos (thereB_of (by simpa using h)), Int.toNat_natCast]
  have e : rd (lvl k q r) (r : Int) = (q : Int) := by
    show (lvl k q r).getD (r : Int).toNat 0 = q
    rw [Int.toNat_natCast, lvl_get k q r r h, if_neg (by omega)]; omega
  rw [e, Pure.w64 (by omega) (by omega), lvl_set k q r h]
theorem erases1 (k q r c : Nat) (h : c < k) : erasesF (List.replicate k 1, lvl k q r) (c : Int) = (q : Int) + if c < r then 1 else 0 := by
  unfold erasesF
  rw [if_pos (thereB_of (by simpa using h))]
  show (lvl k q r).getD (c : Int).toNat 0 = _
  rw [Int.toNat_natCast, lvl_get k q r c h]
theorem newY_lvl (k : Nat) : newY k = (List.replicate k 1, lvl k 0 0) := by
  have : lvl k 0 0 = List.replicate k 0 := by
    apply List.ext_getElem
    · simp [lvl]
    · intro n h1 h2; simp [lvl]
  rw [newY, this]
theorem newN_of {a : Int} {k : Nat} (h : a = (k : Int)) (hk : k ≤ 64) : newN a = k := by subst h; unfold newN; (repeat' split) <;> omega
end Go.Proofs.Ytfgfjgjabcmheaa.M
