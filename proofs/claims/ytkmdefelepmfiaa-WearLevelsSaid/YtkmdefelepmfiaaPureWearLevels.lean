/- The law WearLevels of the seat: whoever is picked again and again, and wiped, keeps all alike. -/
import Derived.Test.YtkmdefelepmfiaaB
import Derived.Test.YtkmdefelepmfiaaMx2
set_option linter.unusedVariables false
set_option linter.unusedSimpArgs false
namespace Go.Proofs.Ytkmdefelepmfiaa.Pure
open Go.RowKit Go.Proofs.Ytkmdefelepmfiaa.M Go.Proofs.YtkmdefelepmfiaaW.PrintWords Go.Proofs.YtkmdefelepmfiaaW.PrintLast

/-- k numbers: the first r are q + 1, the others q -/
def lvl (k q r : Nat) : List Int := (List.range k).map fun j : Nat => (q : Int) + if j < r then 1 else 0
theorem lvl_length (k q r : Nat) : (lvl k q r).length = k := by simp [lvl]
theorem lvl_get (k q r j : Nat) (h : j < k) : (lvl k q r).getD j 0 = (q : Int) + if j < r then 1 else 0 := by
  rw [List.getD_eq_getElem?_getD, List.getElem?_eq_getElem (by simpa [lvl] using h)]
  simp [lvl]
theorem lvl_full (k q : Nat) : lvl k q k = lvl k (q + 1) 0 := by
  apply List.ext_getElem
  · simp [lvl]
  · intro n h1 h2
    have : n < k := by simpa [lvl] using h1
    simp [lvl, this]
theorem lvl_set (k q r : Nat) (h : r < k) : (lvl k q r).set r ((q : Int) + 1) = lvl k q (r + 1) := by
  apply List.ext_getElem
  · simp [lvl]
  · intro n h1 h2
    rw [List.getElem_set]
    by_cases e : r = n
    · subst e; simp [lvl]
    · simp only [e, if_false, lvl, List.getElem_map, List.getElem_range]
      congr 1
      by_cases c : n < r
      · rw [if_pos c, if_pos (by omega)]
      · rw [if_neg c, if_neg (by omega)]
def yes (k : Nat) : List Bool := List.replicate k true
theorem yes_get (k j : Nat) (h : j < k) : (yes k).getD j false = true := by
  rw [List.getD_eq_getElem?_getD, List.getElem?_eq_getElem (by simpa [yes] using h)]
  simp [yes]
theorem lvl_ok (k q r j : Nat) (h : j < k) : okP (lvl k q r) (yes k) j = true := by
  unfold okP
  rw [yes_get k j h, lvl_length]
  simp [yes, h]
theorem lvl_pick (k q r : Nat) (h : r < k) : sel (okP (lvl k q r) (yes k)) (ltP (lvl k q r)) (yes k).length = some r := by
  refine sel_is (weakP _) (by simpa [yes] using h) (lvl_ok k q r r h) fun j hj _ => ?_
  have hj : j < k := by simpa [yes] using hj
  unfold ltP
  rw [lvl_get k q r j hj, lvl_get k q r r h]
  refine ⟨fun c => ?_, fun c => ?_⟩
  · rw [if_neg (by omega), if_pos c]; simp; omega
  · rw [if_neg (by omega), if_neg (by omega)]; simp
theorem lvl_gap (k q r : Nat) (h : r < k) (hq : q ≤ 1000000) : gapOf (lvl k q r) (yes k) ≤ 1 := by
  unfold gapOf
  rw [lvl_pick k q r h]
  simp only
  have ht := top_is (lvl k q r) (yes k) ((lvl k q r).getD r 0) (lvl k q r).length
  have e0 : (lvl k q r).getD r 0 = q := by rw [lvl_get k q r r h, if_neg (by omega)]; omega
  rw [e0] at ht ⊢
  rcases ht with h1 | ⟨j, h1, h2, h3, h4⟩
  · rw [h1, w64 (by omega) (by omega)]; omega
  · rw [lvl_length] at h1
    rw [h4, lvl_get k q r j h1]
    split <;> (rw [w64 (by omega) (by omega)]; omega)

theorem levels_l1 (k : Nat) (hk : 1 ≤ k) (hk2 : k ≤ 100) (x1 : Int) (hx : x1 ≤ 300) (h0 : 0 ≤ x1) : ∀ (d q r i : Nat), i = k * q + r → r < k → (i : Int) + d = x1 →
    Ev (fun n => blackboardlaw13_WearLevels.l1 n x1 (k : Int) (lvl k q r) (yes k) (i : Int)) true := by
  intro d
  induction d with
  | zero =>
    intro q r i hi hr hd
    refine Ev.one ?_
    have h1 : ¬ ((i : Int) < wrap64 x1) := by rw [w64 (by omega) (by omega)]; omega
    simp only [blackboardlaw13_WearLevels.l1, if_neg h1]
    exact Ev.now _
  | succ d ih =>
    intro q r i hi hr hd
    have hq : q ≤ i := by rw [hi]; exact Nat.le_trans (Nat.le_mul_of_pos_left q hk) (Nat.le_add_right _ _)
    have h1 : ((i : Int) < wrap64 x1) := by rw [w64 (by omega) (by omega)]; omega
    have hw : wrap64 ((i : Int) + 1) = ((i + 1 : Nat) : Int) := by rw [w64 (by omega) (by omega)]; rfl
    have hm : Int.tmod (i : Int) (k : Int) = (r : Int) := by
      rw [Int.tmod_eq_emod_of_nonneg (by omega), ← Int.natCast_emod, hi, Nat.mul_add_mod, Nat.mod_eq_of_lt hr]
    refine Ev.one ?_
    simp only [blackboardlaw13_WearLevels.l1, if_pos h1]
    refine Ev.bind (pick_is _ _ (by simp [yes]; omega)) ?_
    rw [lvl_pick k q r hr]
    have hk0 : ¬ ((k : Int) = 0) := by omega
    rw [show pr (some r) = ((r : Int), true) from rfl]
    simp only [if_true, if_neg hk0, hm]
    refine Ev.one ?_
    have h2 : ((r : Int) != (r : Int)) = false := by simp
    have h3 : 0 ≤ (r : Int) := by omega
    have h4 : (r : Int) < ((lvl k q r).length : Int) := by rw [lvl_length]; omega
    simp only [blackboardlaw13_WearLevels.j2, h2, Bool.false_eq_true, if_false, if_pos h3, if_pos h4, Option.bind_some]
    have e0 : rd (lvl k q r) (r : Int) = q := by
      show (lvl k q r).getD r 0 = q
      rw [lvl_get k q r r hr, if_neg (by omega)]; omega
    rw [e0, w64 (x := (q : Int) + 1) (by omega) (by omega)]
    have e1 : (lvl k q r).set ((r : Int)).toNat ((q : Int) + 1) = lvl k q (r + 1) := by rw [Int.toNat_natCast]; exact lvl_set k q r hr
    rw [e1, hw]
    by_cases c : r + 1 = k
    · rw [show lvl k q (r + 1) = lvl k (q + 1) 0 from by rw [c]; exact lvl_full k q]
      refine Ev.bind (gap_is _ _ (by rw [lvl_length]; omega) (by simp [yes]; omega)) ?_
      have hg := lvl_gap k (q + 1) 0 (by omega) (by omega)
      have hg' : ¬ (gapOf (lvl k (q + 1) 0) (yes k) > 1) := by omega
      simp only [if_neg hg']
      exact ih (q + 1) 0 (i + 1) (by rw [hi, Nat.mul_add, Nat.mul_one]; omega) (by omega) (by omega)
    · refine Ev.bind (gap_is _ _ (by rw [lvl_length]; omega) (by simp [yes]; omega)) ?_
      have hg := lvl_gap k q (r + 1) (by omega) (by omega)
      have hg' : ¬ (gapOf (lvl k q (r + 1)) (yes k) > 1) := by omega
      simp only [if_neg hg']
      exact ih q (r + 1) (i + 1) (by omega) (by omega) (by omega)

theorem levels_l0 (k : Nat) (hk : 1 ≤ k) (hk2 : k ≤ 100) (x1 : Int) (hx : x1 ≤ 300) (h0 : 0 ≤ x1) : ∀ (d i : Nat), i + d = k →
    Ev (fun n => blackboardlaw13_WearLevels.l0 n x1 (k : Int) (lvl k 0 0) (List.replicate i true ++ List.replicate d false) (i : Int)) true := by
  intro d
  induction d with
  | zero =>
    intro i hi
    obtain rfl : i = k := by omega
    refine Ev.one ?_
    have h1 : ¬ ((i : Int) < (i : Int)) := by omega
    simp only [blackboardlaw13_WearLevels.l0, if_neg h1]
    simpa [yes] using levels_l1 i hk hk2 x1 hx h0 x1.toNat 0 0 0 (by omega) (by omega) (by omega)
  | succ d ih =>
    intro i hi
    have ih' := ih (i + 1) (by omega)
    have h1 : ((i : Int) < (k : Int)) := by omega
    have h2 : 0 ≤ (i : Int) := by omega
    have h3 : (i : Int) < ((List.replicate i true ++ List.replicate (d + 1) false).length : Int) := by simp; omega
    have hw : wrap64 ((i : Int) + 1) = ((i + 1 : Nat) : Int) := by rw [w64 (by omega) (by omega)]; rfl
    have hs : (List.replicate i true ++ List.replicate (d + 1) false).set ((i : Int)).toNat true = List.replicate (i + 1) true ++ List.replicate d false := by
      rw [Int.toNat_natCast, List.set_append_right _ _ (by simp), List.length_replicate, Nat.sub_self, List.replicate_succ, List.set_cons_zero, List.replicate_succ', List.append_assoc]; rfl
    refine Ev.one ?_
    simp only [blackboardlaw13_WearLevels.l0, if_pos h1, if_pos h2, if_pos h3, hs, hw]
    exact ih'

theorem WearLevels : blackboardlaw13_WearLevels.Pure := by
  intro a b ha hb
  have ha := bounds_u8 ha
  have hb := bounds_u8 hb
  refine Ev.rounds ?_
  unfold blackboardlaw13_WearLevels.f
  refine Ev.bind awake13 ?_
  have e1 : wrap64 (1 + Int.tmod (wrap64 a) 20) = 1 + a % 20 := by
    rw [w64 (x := a) (by omega) (by omega), Int.tmod_eq_emod_of_nonneg (by omega), w64 (by omega) (by omega)]
  rw [e1]
  have h1 : 0 ≤ 1 + a % 20 := by omega
  have h2 : (1 + a % 20).toNat ≤ 35184372088832 := by omega
  have h3 : (1 + a % 20).toNat ≤ 281474976710656 := by omega
  simp only [if_true, if_pos h1, if_pos h2, if_pos h3]
  have h := levels_l0 (1 + a % 20).toNat (by omega) (by omega) b (by omega) (by omega) (1 + a % 20).toNat 0 (by omega)
  have e2 : lvl (1 + a % 20).toNat 0 0 = List.replicate (1 + a % 20).toNat 0 := by
    apply List.ext_getElem
    · simp [lvl]
    · intro n _ _; simp [lvl]
  rw [e2] at h
  rw [show (((1 + a % 20).toNat : Nat) : Int) = 1 + a % 20 from by omega] at h
  simpa using h
end Go.Proofs.Ytkmdefelepmfiaa.Pure
