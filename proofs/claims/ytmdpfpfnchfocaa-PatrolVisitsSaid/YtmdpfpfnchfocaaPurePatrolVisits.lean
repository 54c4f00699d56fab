/- The law PatrolVisits of the seat: whoever visits so many pages visits each as often as another one, or once more. -/
import Derived.Test.YtmdpfpfnchfocaaB
import Derived.Test.YtmdpfpfnchfocaaMx6
set_option linter.unusedVariables false
set_option linter.unusedSimpArgs false
namespace Go.Proofs.Ytmdpfpfnchfocaa.Pure
open Go.RowKit Go.Proofs.Ytmdpfpfnchfocaa.M Go.Proofs.YtmdpfpfnchfocaaW.PrintWords Go.Proofs.YtmdpfpfnchfocaaW.PrintLast
/-- k numbers: the first r are q + 1, the others q -/
def lvl (k q r : Nat) : List Int := (List.range k).map fun j : Nat => (q : Int) + if j < r then 1 else 0
theorem lvl_length (k q r : Nat) : (lvl k q r).length = k := by simp [lvl]
theorem lvl_get (k q r j : Nat) (h : j < k) : (lvl k q r).getD j 0 = (q : Int) + if j < r then 1 else 0 := by
  rw [List.getD_eq_getElem?_getD, List.getElem?_eq_getElem (by simpa [lvl] using h)]
  simp [lvl]
theorem lvl_full (k q : Nat) : lvl k q k = lvl k (q + 1) 0 := by
  apply List.ext_getElem
  · simp [lvl]
  · intro n h1 h2
    have : n < k := by simpa [lvl] using h1
    simp [lvl, this]
theorem lvl_set (k q r : Nat) (h : r < k) : (lvl k q r).set r ((q : Int) + 1) = lvl k q (r + 1) := by
  apply List.ext_getElem
  · simp [lvl]
  · intro n h1 h2
    rw [List.getElem_set]
    by_cases e : r = n
    · subst e; simp [lvl]
    · simp only [e, if_false, lvl, List.getElem_map, List.getElem_range]
      congr 1
      by_cases c : n < r
      · rw [if_pos c, if_pos (by omega)]
      · rw [if_neg c, if_neg (by omega)]
theorem wsub1 (i : Nat) (h : 0 < i) (h2 : i ≤ 1000000) : wrap64 ((i : Int) - 1) = ((i - 1 : Nat) : Int) := by rw [w64 (by omega) (by omega)]; omega
theorem lvl_down (u i r : Nat) : ¬ ((u : Int) + (if i < r then 1 else 0) > (u : Int) + if i - 1 < r then 1 else 0) := by
  by_cases x : i < r
  · rw [if_pos x, if_pos (by omega)]; omega
  · rw [if_neg x]; split <;> omega
theorem wadd1 (u : Nat) (h : u ≤ 1000000) : wrap64 ((u : Int) + 1) = (u : Int) + 1 := w64 (by omega) (by omega)
theorem up_ne (u : Int) : ¬ (u + 1 = u) := by omega
theorem visits_l1 {p q : Nat} {c d : Int} (hg : gm p q c d = true) (hn : p * q ≤ 2048) (h8 : 8 ≤ p * q) (t u r : Nat) (ht : t ≤ 1000) (hu : t / (p * q) = u) (hr : r < p * q) :
    ∀ (m i : Nat), i + m = p * q → Ev (fun k => blackboardlaw19_PatrolVisits.l1 k (lvl (p * q) u r) (i : Int) p q c d (t : Int)) true := by
  have hul : u ≤ t := by rw [← hu]; exact Nat.div_le_self _ _
  have hul2 : u ≤ 1000000 := Nat.le_trans hul (Nat.le_trans ht (by decide))
  have hrd := rounds_is hg hn h8 t (Nat.le_trans ht (by decide))
  rw [hu] at hrd
  have hlen := lvl_length (p * q) u r
  have hget : ∀ j : Nat, j < p * q → rd (lvl (p * q) u r) (j : Int) = (u : Int) + if j < r then 1 else 0 := fun j h => lvl_get (p * q) u r j h
  generalize lvl (p * q) u r = L at *
  generalize p * q = n at *
  clear hg h8 hu
  intro m
  induction m with
  | zero =>
    intro i hi
    have c1 : ¬ ((i : Int) < (L.length : Int)) := by rw [hlen]; clear hget hrd; omega
    refine Ev.one ?_
    simp only [blackboardlaw19_PatrolVisits.l1, if_neg c1]
    exact Ev.now _
  | succ m ih =>
    intro i hi
    have hil : i < n := by clear hget hrd hlen; omega
    have hi6 : i ≤ 1000000 := by clear hget hrd hlen; omega
    have ih' := ih (i + 1) (by clear hget hrd hlen; omega)
    have c1 : ((i : Int) < (L.length : Int)) := by rw [hlen]; exact Int.ofNat_lt.mpr hil
    have c2 : 0 ≤ (i : Int) := Int.natCast_nonneg _
    have r1 := hget i hil
    have r2 := hget (i - 1) (Nat.lt_of_le_of_lt (Nat.sub_le _ _) hil)
    have d1 : 0 ≤ ((i - 1 : Nat) : Int) := Int.natCast_nonneg _
    have d2 : ((i - 1 : Nat) : Int) < (L.length : Int) := by rw [hlen]; exact Int.ofNat_lt.mpr (Nat.lt_of_le_of_lt (Nat.sub_le _ _) hil)
    have d3 := lvl_down u i r
    have hw := wn1 (i := i) (Nat.le_trans hi6 (by decide))
    have e1 := wadd1 u hul2
    refine Ev.one ?_
    simp only [blackboardlaw19_PatrolVisits.l1, if_pos c1, if_pos c2, hrd, Option.bind_some, e1, hw]
    by_cases c3 : (i : Int) > 0
    · have e2 := wsub1 i (Int.ofNat_lt.mp c3) hi6
      simp only [if_pos c3, e2, if_pos d1, if_pos d2]
      generalize rd L (i : Int) = v at r1 ⊢
      generalize rd L ((i - 1 : Nat) : Int) = v2 at r2 ⊢
      subst r1
      subst r2
      simp only [if_neg d3]
      by_cases x : i < r
      · have c4 : ¬ ((u : Int) + (if i < r then 1 else 0) = (u : Int)) := by rw [if_pos x]; exact up_ne _
        have c5 : (u : Int) + (if i < r then 1 else 0) = (u : Int) + 1 := by rw [if_pos x]
        simp only [if_neg c4, if_pos c5]
        exact ih'
      · have c4 : (u : Int) + (if i < r then 1 else 0) = (u : Int) := by rw [if_neg x, Int.add_zero]
        simp only [if_pos c4]
        exact ih'
    · simp only [if_neg c3]
      generalize rd L (i : Int) = v at r1 ⊢
      subst r1
      by_cases x : i < r
      · have c4 : ¬ ((u : Int) + (if i < r then 1 else 0) = (u : Int)) := by rw [if_pos x]; exact up_ne _
        have c5 : (u : Int) + (if i < r then 1 else 0) = (u : Int) + 1 := by rw [if_pos x]
        simp only [if_neg c4, if_pos c5]
        exact ih'
      · have c4 : (u : Int) + (if i < r then 1 else 0) = (u : Int) := by rw [if_neg x, Int.add_zero]
        simp only [if_pos c4]
        exact ih'
theorem visits_l0 {p q : Nat} {c d : Int} (hg : gm p q c d = true) (hn : p * q ≤ 2048) (h8 : 8 ≤ p * q) (hq : 0 < q) (x1 : Int) (f : Nat) (hf : Int.tmod (wrap64 x1) 600 = (f : Int)) (hf2 : f ≤ 600) :
    ∀ (m i u r : Nat), i + m = f → i = p * q * u + r → r < p * q → Ev (fun k => blackboardlaw19_PatrolVisits.l0 k x1 (lvl (p * q) u r) (i : Int) p q c d p q c d (i : Int)) true := by
  intro m
  induction m with
  | zero =>
    intro i u r hi he hr
    have c1 : ¬ ((i : Int) < (f : Int)) := by omega
    have hu : i / (p * q) = u := by
      rw [he, Nat.mul_add_div (by omega), Nat.div_eq_of_lt hr, Nat.add_zero]
    have h := visits_l1 hg hn h8 i u r (by omega) hu hr (p * q) 0 (by omega)
    refine Ev.one ?_
    simp only [blackboardlaw19_PatrolVisits.l0, hf, if_neg c1]
    exact h
  | succ m ih =>
    intro i u r hi he hr
    have c1 : ((i : Int) < (f : Int)) := by omega
    have hul : u ≤ i := by
      rw [he]; exact Nat.le_trans (Nat.le_mul_of_pos_left u (by omega)) (Nat.le_add_right _ _)
    have hm : i % (p * q) = r := by rw [he, Nat.mul_add_mod, Nat.mod_eq_of_lt hr]
    have hnx := next_is hg hn h8 hq i (by omega)
    have hpa := page_at (p := p) hq hr
    have hi6 : i ≤ 1000000 := by omega
    rw [hm] at hnx
    have nx : Ev (fun k => blackboardlaw19_PatrolVisits.l0 k x1 (lvl (p * q) u (r + 1)) ((i + 1 : Nat) : Int) p q c d p q c d ((i + 1 : Nat) : Int)) true := by
      by_cases cr : r + 1 = p * q
      · rw [show lvl (p * q) u (r + 1) = lvl (p * q) (u + 1) 0 from by rw [cr]; exact lvl_full _ _]
        exact ih (i + 1) (u + 1) 0 (by omega) (by rw [Nat.mul_add, Nat.mul_one]; omega) (by omega)
      · exact ih (i + 1) u (r + 1) (by omega) (by omega) (by omega)
    have hw := wn1 (i := i) (Nat.le_trans hi6 (by decide))
    have e1 := wadd1 u (Nat.le_trans hul hi6)
    rw [← lvl_set (p * q) u r hr] at nx
    have hlen := lvl_length (p * q) u r
    have r1 : rd (lvl (p * q) u r) (r : Int) = (u : Int) := by
      show (lvl (p * q) u r).getD r 0 = (u : Int)
      rw [lvl_get _ _ _ _ hr, if_neg (Nat.lt_irrefl _), Int.add_zero]
    have d5 : 0 ≤ (r : Int) := Int.natCast_nonneg _
    have d6 : (r : Int) < ((lvl (p * q) u r).length : Int) := by rw [hlen]; exact Int.ofNat_lt.mpr hr
    obtain ⟨p1, p2, p3, p4⟩ := hpa
    have wm := wmul (r / q) q (Nat.le_trans p4 (Nat.le_trans (Nat.le_of_lt hr) (Nat.le_trans hn (by decide))))
    have ha : wrap64 (((r / q * q : Nat) : Int) + ((r % q : Nat) : Int)) = (r : Int) := by
      rw [← Int.natCast_add, p3]
      clear wm p1 p2 p3 p4 nx hnx hlen d5 d6 r1 e1 hw ih
      exact w64 (by omega) (by omega)
    clear p3 p4
    generalize lvl (p * q) u r = L at *
    generalize r / q = y at *
    generalize r % q = z at *
    have d1 : ¬ ((y : Int) < 0) := Int.not_lt.mpr (Int.natCast_nonneg _)
    have d2 : ¬ ((y : Int) ≥ (p : Int)) := Int.not_le.mpr (Int.ofNat_lt.mpr p1)
    have d3 : ¬ ((z : Int) < 0) := Int.not_lt.mpr (Int.natCast_nonneg _)
    have d4 : ¬ ((z : Int) ≥ (q : Int)) := Int.not_le.mpr (Int.ofNat_lt.mpr p2)
    refine Ev.one ?_
    simp only [blackboardlaw19_PatrolVisits.l0, hf, if_pos c1]
    refine Ev.bind hnx ?_
    simp only [if_neg d1, if_neg d2, if_neg d3, if_neg d4, wm, ha, if_pos d5, if_pos d6, r1, e1, Int.toNat_natCast, hw]
    exact nx
theorem PatrolVisits (a b c d e : Int) (he : (Lit.int .u16 e).wf = true) : ∃ k, blackboardlaw19_PatrolVisits.f k a b c d e = some true := by
  have he := bounds_u16 he
  refine Ev.rounds ?_
  unfold blackboardlaw19_PatrolVisits.f
  refine Ev.bind awake19 ?_
  simp only [refmay_is, Option.bind_some, if_true]
  have out : Ev (fun k => blackboardlaw19_PatrolVisits.j0 k e true a b c d) true := by
    refine Ev.one ?_
    simp only [blackboardlaw19_PatrolVisits.j0, if_true]
    exact Ev.now _
  by_cases hg : gm a b c d = true
  · obtain ⟨p, q, rfl, rfl, h1, h2, h3, h4, h8, hn⟩ := gm_nat hg
    have wm := wmul p q (Nat.le_trans hn (by decide))
    simp only [if_pos hg]
    rw [wm]
    by_cases c2 : ((p * q : Nat) : Int) > 200
    · rw [decide_eq_true c2]; exact out
    · rw [decide_eq_false c2]
      have hf : Int.tmod (wrap64 e) 600 = ((e % 600).toNat : Int) := by
        clear wm out c2 h8 hn hg
        rw [w64 (by omega) (by omega), Int.tmod_eq_emod_of_nonneg (by omega)]; omega
      have h := visits_l0 hg hn h8 (Nat.lt_of_lt_of_le (by decide) h3) e (e % 600).toNat hf (by clear wm hf out c2 h8 hn hg; omega) (e % 600).toNat 0 0 0 (Nat.zero_add _) rfl (Nat.lt_of_lt_of_le (by decide) h8)
      have e2 : lvl (p * q) 0 0 = List.replicate (p * q) 0 := by
        apply List.ext_getElem
        · simp [lvl]
        · intro n _ _; simp [lvl]
      rw [e2] at h
      have c3 : 0 ≤ ((p * q : Nat) : Int) := Int.natCast_nonneg _
      have c4 : p * q ≤ 35184372088832 := Nat.le_trans hn (by decide)
      refine Ev.one ?_
      simp only [blackboardlaw19_PatrolVisits.j0, Bool.false_eq_true, if_false, patrol_New.f, Option.bind_some, wm, if_pos c3, Int.toNat_natCast, if_pos c4]
      exact h
  · simp only [if_neg hg]
    exact out
theorem PatrolVisits.walk (a0_0 : Int) (a0_1 : Int) (a0_2 : Int) (a0_3 : Int) (a1 : Int) (w : World) (wa0_0 : (Lit.int .i64 a0_0).wf = true) (wa0_1 : (Lit.int .i64 a0_1).wf = true) (wa0_2 : (Lit.int .i64 a0_2).wf = true) (wa0_3 : (Lit.int .i64 a0_3).wf = true) (w1 : (Lit.int .u16 a1).wf = true) :
    Calls Try.prog 6 #[.agg #[.int .i64 a0_0, .int .i64 a0_1, .int .i64 a0_2, .int .i64 a0_3], .int .u16 a1] w fun e w' => e = .returned (.bool true) ∧ Below w.heap.size w w' := by
  obtain ⟨k, h⟩ := PatrolVisits a0_0 a0_1 a0_2 a0_3 a1 w1
  exact blackboardlaw19_PatrolVisits.calls k _ _ _ _ _ true w h
end Go.Proofs.Ytmdpfpfnchfocaa.Pure
