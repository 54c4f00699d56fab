/- The law PatrolRounds of the seat: in each round each page is visited just once. -/
import Derived.Test.YtmdpfpfnchfocaaB
import Derived.Test.YtmdpfpfnchfocaaMx4
set_option linter.unusedVariables false
set_option linter.unusedSimpArgs false
namespace Go.Proofs.Ytmdpfpfnchfocaa.Pure
open Go.RowKit Go.Proofs.Ytmdpfpfnchfocaa.M Go.Proofs.YtmdpfpfnchfocaaW.PrintWords Go.Proofs.YtmdpfpfnchfocaaW.PrintLast
/-- which of n pages were visited by i visits from page f on -/
def seenB (f n i j : Nat) : Bool := if f ≤ j then decide (j - f < i) else decide (j + n - f < i)
def seenL (f n i : Nat) : List Bool := (List.range n).map (seenB f n i)
theorem seenL_length (f n i : Nat) : (seenL f n i).length = n := by simp [seenL]
theorem seenL_get (f n i j : Nat) (h : j < n) : (seenL f n i).getD j false = seenB f n i j := by
  rw [List.getD_eq_getElem?_getD, List.getElem?_eq_getElem (by rw [seenL_length]; exact h)]
  simp [seenL]
/-- the page of visit i -/
def pg (f n i : Nat) : Nat := if f + i < n then f + i else f + i - n
theorem pg_lt (f n i : Nat) (hf : f < n) (hi : i < n) : pg f n i < n := by unfold pg; split <;> omega
theorem seen_no (f n i : Nat) (hf : f < n) (hi : i < n) : seenB f n i (pg f n i) = false := by
  unfold seenB pg
  split <;> split <;> (apply decide_eq_false; omega)
theorem seen_step (f n i j : Nat) (hf : f < n) (hi : i < n) (hj : j < n) : seenB f n (i + 1) j = (if pg f n i = j then true else seenB f n i j) := by
  by_cases c : f + i < n
  · have e : pg f n i = f + i := by unfold pg; rw [if_pos c]
    rw [e]
    unfold seenB
    by_cases d : f ≤ j
    · rw [if_pos d, if_pos d]
      by_cases x : f + i = j
      · rw [if_pos x]; exact decide_eq_true (by omega)
      · rw [if_neg x]; exact decide_eq_decide.mpr (by omega)
    · rw [if_neg d, if_neg d, if_neg (by omega)]; exact decide_eq_decide.mpr (by omega)
  · have e : pg f n i = f + i - n := by unfold pg; rw [if_neg c]
    rw [e]
    unfold seenB
    by_cases d : f ≤ j
    · rw [if_pos d, if_pos d, if_neg (by omega)]; exact decide_eq_decide.mpr (by omega)
    · rw [if_neg d, if_neg d]
      by_cases x : f + i - n = j
      · rw [if_pos x]; exact decide_eq_true (by omega)
      · rw [if_neg x]; exact decide_eq_decide.mpr (by omega)
theorem seenL_set (f n i : Nat) (hf : f < n) (hi : i < n) : (seenL f n i).set (pg f n i) true = seenL f n (i + 1) := by
  apply List.ext_getElem
  · rw [List.length_set, seenL_length, seenL_length]
  · intro j h1 h2
    rw [seenL_length] at h2
    rw [List.getElem_set]
    simp only [seenL, List.getElem_map, List.getElem_range]
    rw [seen_step f n i j hf hi h2]
theorem seenL_zero (f n : Nat) (hf : f < n) : seenL f n 0 = List.replicate n false := by
  apply List.ext_getElem
  · rw [seenL_length, List.length_replicate]
  · intro j h1 h2
    simp only [seenL, List.getElem_map, List.getElem_range, List.getElem_replicate]
    unfold seenB; split <;> rfl
theorem rounds_l1 {p q : Nat} {c d : Int} (hg : gm p q c d = true) (hn : p * q ≤ 2048) (h8 : 8 ≤ p * q) (hq : 0 < q) (t0 : Nat) (ht : t0 ≤ 1000) :
    ∀ (m i : Nat), i + m = p * q → Ev (fun k => blackboardlaw19_PatrolRounds.l1 k ((p * q : Nat) : Int) (seenL (t0 % (p * q)) (p * q) i) (i : Int) p q c d p q c d ((t0 + i : Nat) : Int)) true := by
  intro m
  induction m with
  | zero =>
    intro i hi
    have c1 : ¬ ((i : Int) < ((p * q : Nat) : Int)) := by omega
    refine Ev.one ?_
    simp only [blackboardlaw19_PatrolRounds.l1, if_neg c1]
    exact Ev.now _
  | succ m ih =>
    intro i hi
    have hil : i < p * q := by omega
    have c1 : ((i : Int) < ((p * q : Nat) : Int)) := by omega
    have hf : t0 % (p * q) < p * q := Nat.mod_lt _ (by omega)
    have hpg : (t0 + i) % (p * q) = pg (t0 % (p * q)) (p * q) i := mod_next t0 i (p * q) hil
    have hnx := next_is hg hn h8 hq (t0 + i) (by omega)
    have hpl := pg_lt (t0 % (p * q)) (p * q) i hf hil
    have hpa := page_at (p := p) hq hpl
    have hno := seen_no (t0 % (p * q)) (p * q) i hf hil
    have hst := seenL_set (t0 % (p * q)) (p * q) i hf hil
    have hlen := seenL_length (t0 % (p * q)) (p * q) i
    have hget := seenL_get (t0 % (p * q)) (p * q) i (pg (t0 % (p * q)) (p * q) i) hpl
    have hw := wn1 (i := i) (by omega)
    have ih' := ih (i + 1) (by omega)
    rw [hpg] at hnx
    rw [hno] at hget
    rw [← hst] at ih'
    generalize seenL (t0 % (p * q)) (p * q) i = L at *
    generalize pg (t0 % (p * q)) (p * q) i = x at *
    have e2 : t0 + (i + 1) = t0 + i + 1 := by omega
    rw [e2] at ih'
    have d5 : 0 ≤ (x : Int) := Int.natCast_nonneg _
    have d6 : (x : Int) < (L.length : Int) := by rw [hlen]; exact Int.ofNat_lt.mpr hpl
    obtain ⟨p1, p2, p3, p4⟩ := hpa
    have wm := wmul (x / q) q (Nat.le_trans p4 (by omega))
    have ha : wrap64 (((x / q * q : Nat) : Int) + ((x % q : Nat) : Int)) = (x : Int) := by
      rw [← Int.natCast_add, p3]
      clear wm p1 p2 p3 p4 ih' hst hget hnx hno hlen d5 d6
      exact w64 (by omega) (by omega)
    clear p3 p4
    generalize x / q = y at *
    generalize x % q = z at *
    have d1 : ¬ ((y : Int) < 0) := Int.not_lt.mpr (Int.natCast_nonneg _)
    have d2 : ¬ ((y : Int) ≥ (p : Int)) := Int.not_le.mpr (Int.ofNat_lt.mpr p1)
    have d3 : ¬ ((z : Int) < 0) := Int.not_lt.mpr (Int.natCast_nonneg _)
    have d4 : ¬ ((z : Int) ≥ (q : Int)) := Int.not_le.mpr (Int.ofNat_lt.mpr p2)
    have r1 : rdOf false L (x : Int) = L.getD x false := rfl
    refine Ev.one ?_
    simp only [blackboardlaw19_PatrolRounds.l1, if_pos c1]
    refine Ev.bind hnx ?_
    simp only [if_neg d1, if_neg d2, if_neg d3, if_neg d4, wm, ha, if_pos d5, if_pos d6, r1, hget, Bool.false_eq_true, if_false, Int.toNat_natCast, hw]
    exact ih'
theorem rounds_l0 {p q : Nat} {c d : Int} (hg : gm p q c d = true) (hn : p * q ≤ 2048) (h8 : 8 ≤ p * q) (hq : 0 < q) (x1 : Int) (f : Nat) (hf : Int.tmod (wrap64 x1) 50 = (f : Int)) (hf2 : f ≤ 50) :
    ∀ (m i : Nat), i + m = f → Ev (fun k => blackboardlaw19_PatrolRounds.l0 k x1 ((p * q : Nat) : Int) (i : Int) p q c d p q c d (i : Int)) true := by
  intro m
  induction m with
  | zero =>
    intro i hi
    have c1 : ¬ ((i : Int) < (f : Int)) := by omega
    have c2 : 0 ≤ ((p * q : Nat) : Int) := by omega
    have c3 : p * q ≤ 281474976710656 := by omega
    have hfl : i % (p * q) < p * q := Nat.mod_lt _ (by omega)
    have h := rounds_l1 hg hn h8 hq i (by omega) (p * q) 0 (by omega)
    rw [seenL_zero _ _ hfl, Nat.add_zero] at h
    refine Ev.one ?_
    simp only [blackboardlaw19_PatrolRounds.l0, hf, if_neg c1, if_pos c2, Int.toNat_natCast, if_pos c3]
    exact h
  | succ m ih =>
    intro i hi
    have c1 : ((i : Int) < (f : Int)) := by omega
    have hnx := next_is hg hn h8 hq i (by omega)
    have hw := wn1 (i := i) (by omega)
    refine Ev.one ?_
    simp only [blackboardlaw19_PatrolRounds.l0, hf, if_pos c1]
    refine Ev.bind hnx ?_
    simp only [hw]
    exact ih (i + 1) (by omega)
theorem PatrolRounds (a b c d e : Int) (he : (Lit.int .u8 e).wf = true) : ∃ k, blackboardlaw19_PatrolRounds.f k a b c d e = some true := by
  have he := bounds_u8 he
  refine Ev.rounds ?_
  unfold blackboardlaw19_PatrolRounds.f
  refine Ev.bind awake19 ?_
  simp only [refmay_is, Option.bind_some, if_true]
  by_cases hg : gm a b c d = true
  · obtain ⟨p, q, rfl, rfl, h1, h2, h3, h4, h8, hn⟩ := gm_nat hg
    have hf : Int.tmod (wrap64 e) 50 = ((e % 50).toNat : Int) := by
      rw [w64 (by omega) (by omega), Int.tmod_eq_emod_of_nonneg (by omega)]; omega
    have h := rounds_l0 hg hn h8 (by omega) e (e % 50).toNat hf (by omega) (e % 50).toNat 0 (by omega)
    simp only [if_pos hg, patrol_New.f, Option.bind_some, wmul p q (by omega)]
    exact h
  · simp only [if_neg hg]
    exact Ev.now _
theorem PatrolRounds.walk (a0_0 : Int) (a0_1 : Int) (a0_2 : Int) (a0_3 : Int) (a1 : Int) (w : World) (wa0_0 : (Lit.int .i64 a0_0).wf = true) (wa0_1 : (Lit.int .i64 a0_1).wf = true) (wa0_2 : (Lit.int .i64 a0_2).wf = true) (wa0_3 : (Lit.int .i64 a0_3).wf = true) (w1 : (Lit.int .u8 a1).wf = true) :
    Calls Try.prog 4 #[.agg #[.int .i64 a0_0, .int .i64 a0_1, .int .i64 a0_2, .int .i64 a0_3], .int .u8 a1] w fun e w' => e = .returned (.bool true) ∧ Below w.heap.size w w' := by
  obtain ⟨k, h⟩ := PatrolRounds a0_0 a0_1 a0_2 a0_3 a1 w1
  exact blackboardlaw19_PatrolRounds.calls k _ _ _ _ _ true w h
end Go.Proofs.Ytmdpfpfnchfocaa.Pure
