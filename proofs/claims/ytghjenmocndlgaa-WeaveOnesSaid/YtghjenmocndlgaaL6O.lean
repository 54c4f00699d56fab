/- What package weave's functions, and the document's own, come to, as lists: by hand. -/
import Derived.Test.YtghjenmocndlgaaOx3
import Derived.Test.YtghjenmocndlgaaOx4
import Derived.OpenShut
set_option linter.unusedVariables false
set_option linter.unusedSimpArgs false
namespace Go.Proofs.Ytghjenmocndlgaa.L6
open Go.RowKit Go.Proofs.Ytghjenmocndlgaa.O Go.Proofs.YtghjenmocndlgaaW.PrintWords Go.Proofs.YtghjenmocndlgaaW.PrintLast

theorem w64 {x : Int} (h0 : -9223372036854775808 ≤ x) (h1 : x ≤ 9223372036854775807) : wrap64 x = x := by unfold wrap64; omega
theorem wn1 {i : Nat} (h : i ≤ 1000000000000000) : wrap64 ((i : Int) + 1) = ((i + 1 : Nat) : Int) := by rw [w64 (by omega) (by omega)]; rfl
theorem Ev.one {α : Type} {g : Nat → Option α} {r : α} (h : Ev (fun k => g (k + 1)) r) : Ev g r := Ev.step (fun _ => rfl) h
theorem awake6 : Ev (fun k => blackboardlaw6_awake.f k) true := Ev.of (k := 40) blackboardlaw6_awake.mono (by decide +kernel)

/-! Same -/
theorem dist_loop (a b : List Int) (hl : a.length = b.length) (hL : a.length ≤ 1000000000000) : ∀ (d i : Nat) (x : Int), i + d = a.length → 0 ≤ x → x ≤ i →
    ∃ r, Ev (fun k => blackboardref1_Distance.l0 k a b x (i : Int)) r ∧ x ≤ r ∧ (r = x ↔ a.drop i = b.drop i) := by
  intro d
  induction d with
  | zero =>
    intro i x hi h0 hx
    refine ⟨x, ?_, Int.le_refl _, by rw [List.drop_of_length_le (by omega), List.drop_of_length_le (by omega)]; simp⟩
    refine Ev.one ?_
    have h1 : ¬ ((i : Int) < (a.length : Int)) := by omega
    simp only [blackboardref1_Distance.l0, if_neg h1]
    refine Ev.one ?_
    simp only [blackboardref1_Distance.j1, Bool.false_eq_true, if_false]
    exact Ev.now _
  | succ d ih =>
    intro i x hi h0 hx
    have ha : i < a.length := by omega
    have hb : i < b.length := by omega
    have h1 : ((i : Int) < (a.length : Int)) := by omega
    have h2 : ((i : Int) < (b.length : Int)) := by omega
    have h3 : 0 ≤ (i : Int) := by omega
    have da : a.drop i = rd a (i : Int) :: a.drop (i + 1) := by
      rw [List.drop_eq_getElem_cons ha]; congr 1
      unfold rd; rw [Int.toNat_natCast, List.getD_eq_getElem?_getD, List.getElem?_eq_getElem ha]; rfl
    have db : b.drop i = rd b (i : Int) :: b.drop (i + 1) := by
      rw [List.drop_eq_getElem_cons hb]; congr 1
      unfold rd; rw [Int.toNat_natCast, List.getD_eq_getElem?_getD, List.getElem?_eq_getElem hb]; rfl
    by_cases c : rd a (i : Int) = rd b (i : Int)
    · obtain ⟨r, hr, hxr, hiff⟩ := ih (i + 1) x (by omega) h0 (by omega)
      refine ⟨r, ?_, hxr, by rw [da, db, c]; simpa using hiff⟩
      refine Ev.one ?_
      simp only [blackboardref1_Distance.l0, if_pos h1, decide_eq_true h2]
      refine Ev.one ?_
      simp only [blackboardref1_Distance.j1, if_true, if_pos h3, if_pos h1, if_pos h2, if_pos c, wn1 (show i ≤ 1000000000000000 by omega)]
      exact hr
    · obtain ⟨r, hr, hxr, hiff⟩ := ih (i + 1) (x + 1) (by omega) (by omega) (by omega)
      refine ⟨r, ?_, by omega, ⟨fun h => absurd h (by omega), fun h => by rw [da, db] at h; exact absurd (List.cons.inj h).1 c⟩⟩
      refine Ev.one ?_
      simp only [blackboardref1_Distance.l0, if_pos h1, decide_eq_true h2]
      refine Ev.one ?_
      simp only [blackboardref1_Distance.j1, if_true, if_pos h3, if_pos h1, if_pos h2, if_neg c, wn1 (show i ≤ 1000000000000000 by omega), w64 (x := x + 1) (by omega) (by omega)]
      exact hr
theorem same_is (a b : List Int) (hL : a.length ≤ 1000000000000) : Ev (fun k => blackboardref1_Same.f k a b) (decide (a = b)) := by
  unfold blackboardref1_Same.f
  by_cases c : a.length = b.length
  · have c' : (a.length : Int) = (b.length : Int) := by omega
    simp only [if_pos c']
    obtain ⟨r, hr, h0, hiff⟩ := dist_loop a b c hL a.length 0 0 (by omega) (by omega) (by omega)
    refine Ev.bind (a := r) ?_ ?_
    · unfold blackboardref1_Distance.f
      have e1 : mx (a.length : Int) (b.length : Int) = a.length := by unfold mx; split <;> omega
      have e2 : mn (a.length : Int) (b.length : Int) = a.length := by unfold mn; split <;> omega
      rw [e1, e2, Int.sub_self, w64 (by omega) (by omega)]
      exact hr
    · have : (r == 0) = decide (a = b) := by
        rw [Bool.eq_iff_iff, beq_iff_eq, decide_eq_true_eq, hiff]; simp
      rw [this]
      exact Ev.now _
  · have c' : ¬ (a.length : Int) = (b.length : Int) := by omega
    simp only [if_neg c']
    rw [decide_eq_false (fun h => c (by rw [h]))]
    exact Ev.now _
/-! the document's Out is the program's -/
/-! Out -/
def col (l : List (List Int)) (i : Nat) : List Int := l.map fun x => x.getD i 0
def inter (l : List (List Int)) : Nat → List Int
  | 0 => []
  | n + 1 => inter l n ++ col l n
theorem inter_length (l : List (List Int)) : ∀ n, (inter l n).length = n * l.length
  | 0 => by simp [inter]
  | n + 1 => by simp [inter, inter_length l n, col, Nat.add_mul]
theorem inter_get (l : List (List Int)) (n q r : Nat) (hq : q < n) (hr : r < l.length) : (inter l n).getD (q * l.length + r) 0 = (l.getD r []).getD q 0 := by
  induction n with
  | zero => omega
  | succ n ih =>
    have hlen := inter_length l n
    rw [inter, List.getD_eq_getElem?_getD]
    by_cases c : q < n
    · have : (q + 1) * l.length ≤ n * l.length := Nat.mul_le_mul_right _ (by omega)
      rw [Nat.add_mul, Nat.one_mul] at this
      rw [List.getElem?_append_left (by omega), ← List.getD_eq_getElem?_getD]
      exact ih c
    · obtain rfl : q = n := by omega
      rw [List.getElem?_append_right (by omega), hlen, Nat.add_sub_cancel_left]
      simp only [col, List.getElem?_map, List.getElem?_eq_getElem hr, Option.map_some, Option.getD_some]
      rw [List.getD_eq_getElem?_getD (l := l), List.getElem?_eq_getElem hr, Option.getD_some]
theorem rdL (l : List (List Int)) (i : Nat) : rd_L1 l (i : Int) = l.getD i [] := rfl
theorem out_l1 (l : List (List Int)) (n : Nat) (hl : l.length ≤ 4) (hn : n ≤ 1000000) (hall : ∀ i, i < l.length → (l.getD i []).length = n) : ∀ (d i : Nat), i + d = n →
    Ev (fun k => weave_Out.l1 k (l.length : Int) l (n : Int) (inter l i) (i : Int)) (inter l n, 0) := by
  intro d
  induction d with
  | zero =>
    intro i hi
    obtain rfl : i = n := by omega
    have h1 : ¬ ((i : Int) < (i : Int)) := by omega
    refine Ev.one ?_
    simp only [weave_Out.l1, if_neg h1]
    exact Ev.now _
  | succ d ih =>
    intro i hi
    have h1 : ((i : Int) < (n : Int)) := by omega
    have hil := inter_length l i
    have hb : i * l.length ≤ 1000000 * 4 := Nat.mul_le_mul (by omega) hl
    have inner : ∀ (e j : Nat), j + e = l.length → Ev (fun k => weave_Out.l2 k (l.length : Int) l (n : Int) (inter l i ++ (l.take j).map fun x => x.getD i 0) (i : Int) (j : Int)) (inter l n, 0) := by
      intro e
      induction e with
      | zero =>
        intro j hj
        have h2 : ¬ ((j : Int) < (l.length : Int)) := by omega
        refine Ev.one ?_
        simp only [weave_Out.l2, if_neg h2, wn1 (show i ≤ 1000000000000000 by omega)]
        rw [List.take_of_length_le (by omega)]
        exact ih (i + 1) (by omega)
      | succ e ihe =>
        intro j hj
        have ihe' := ihe (j + 1) (by omega)
        have h2 : ((j : Int) < (l.length : Int)) := by omega
        have h3 : 0 ≤ (j : Int) := by omega
        have h4 : 0 ≤ (i : Int) := by omega
        have h5 : (i : Int) < ((rd_L1 l (j : Int)).length : Int) := by rw [rdL, hall j (by omega)]; exact h1
        have h6 : (inter l i ++ (l.take j).map fun x => x.getD i 0).length < 70368744177664 := by simp [hil]; omega
        refine Ev.one ?_
        simp only [weave_Out.l2, if_pos h2, if_pos h3, if_pos h4, if_pos h5, if_pos h6, wn1 (show j ≤ 1000000000000000 by omega)]
        have e1 : (inter l i ++ (l.take j).map fun x => x.getD i 0) ++ [rd (rd_L1 l (j : Int)) (i : Int)] = inter l i ++ (l.take (j + 1)).map fun x => x.getD i 0 := by
          rw [List.append_assoc, List.take_succ_eq_append_getElem (by omega), List.map_append]
          congr 2
          rw [rdL]
          unfold rd
          rw [Int.toNat_natCast, List.getD_eq_getElem?_getD (l := l), List.getElem?_eq_getElem (by omega), Option.getD_some]
          rfl
        rw [e1]
        exact ihe'
    refine Ev.one ?_
    simp only [weave_Out.l1, if_pos h1]
    have := inner l.length 0 (by omega)
    simpa using this
theorem out_bad (w : Int) (l : List (List Int)) (h : w < 1 ∨ 4 < w ∨ (l.length : Int) ≠ w) : Ev (fun k => weave_Out.f k w l) ([], 1) := by
  have fin : Ev (fun k => weave_Out.j0 k w l true) ([], 1) := by
    refine Ev.one ?_
    simp only [weave_Out.j0, if_true]
    exact Ev.now _
  unfold weave_Out.f
  by_cases c1 : w < 1
  · simp only [if_pos c1]; exact fin
  · simp only [if_neg c1]
    by_cases c2 : w > 4
    · simp only [if_pos c2]; exact fin
    · simp only [if_neg c2]
      have : ((l.length : Int) != w) = true := by rw [bne_iff_ne]; rcases h with h | h | h; omega; omega; exact h
      rw [this]; exact fin
theorem out_l0_bad (l : List (List Int)) (n : Int) (hl : l.length ≤ 4) (i0 : Nat) (hi0 : i0 < l.length) (hbad : ((l.getD i0 []).length : Int) ≠ n ∨ n = 0) : ∀ (d i : Nat), i + d = i0 →
    Ev (fun k => weave_Out.l0 k (l.length : Int) l n (i : Int)) ([], 3) := by
  intro d
  induction d with
  | zero =>
    intro i hi
    obtain rfl : i = i0 := by omega
    have h2 : ((i : Int) < (l.length : Int)) := by omega
    have h3 : 0 ≤ (i : Int) := by omega
    refine Ev.one ?_
    simp only [weave_Out.l0, if_pos h2, if_pos h3, rdL]
    by_cases c : ((l.getD i []).length : Int) = n
    · have h4 : n = 0 := by rcases hbad with h | h; exact absurd c h; exact h
      simp only [if_pos c, if_pos h4]
      exact Ev.now _
    · simp only [c, if_false]
      exact Ev.now _
  | succ d ih =>
    intro i hi
    have h2 : ((i : Int) < (l.length : Int)) := by omega
    have h3 : 0 ≤ (i : Int) := by omega
    refine Ev.one ?_
    simp only [weave_Out.l0, if_pos h2, if_pos h3, rdL, wn1 (show i ≤ 1000000000000000 by omega)]
    by_cases c : ((l.getD i []).length : Int) = n
    · simp only [if_pos c]
      by_cases c2 : n = 0
      · simp only [if_pos c2]; exact Ev.now _
      · simp only [if_neg c2]; exact ih (i + 1) (by omega)
    · simp only [if_neg c]
      exact Ev.now _
theorem out_l0_good (l : List (List Int)) (n : Nat) (hl : l.length ≤ 4) (hn0 : n ≠ 0) (hall : ∀ i, i < l.length → (l.getD i []).length = n) (r : List Int × Int) (hr : Ev (fun k => weave_Out.l1 k (l.length : Int) l (n : Int) [] 0) r) : ∀ (d i : Nat), i + d = l.length →
    Ev (fun k => weave_Out.l0 k (l.length : Int) l (n : Int) (i : Int)) r := by
  intro d
  induction d with
  | zero =>
    intro i hi
    have h2 : ¬ ((i : Int) < (l.length : Int)) := by omega
    refine Ev.one ?_
    simp only [weave_Out.l0, if_neg h2]
    exact hr
  | succ d ih =>
    intro i hi
    have h2 : ((i : Int) < (l.length : Int)) := by omega
    have h3 : 0 ≤ (i : Int) := by omega
    have h4 : ((l.getD i []).length : Int) = (n : Int) := by rw [hall i (by omega)]
    have h5 : ¬ ((n : Int) = 0) := by omega
    refine Ev.one ?_
    simp only [weave_Out.l0, if_pos h2, if_pos h3, rdL, if_pos h4, if_neg h5, wn1 (show i ≤ 1000000000000000 by omega)]
    exact ih (i + 1) (by omega)
/-- words that may be woven -/
def Even (l : List (List Int)) : Prop := (l.getD 0 []).length ≠ 0 ∧ ∀ i, i < l.length → (l.getD i []).length = (l.getD 0 []).length
theorem out_j0 (l : List (List Int)) (h1 : 1 ≤ l.length) (h4 : l.length ≤ 4) (r : List Int × Int) (h : Ev (fun k => weave_Out.l0 k (l.length : Int) l ((l.getD 0 []).length : Int) 0) r) : Ev (fun k => weave_Out.f k (l.length : Int) l) r := by
  unfold weave_Out.f
  have c1 : ¬ ((l.length : Int) < 1) := by omega
  have c2 : ¬ ((l.length : Int) > 4) := by omega
  have c3 : ((l.length : Int) != (l.length : Int)) = false := by simp
  have c4 : 0 < (l.length : Int) := by omega
  simp only [if_neg c1, if_neg c2, c3]
  refine Ev.one ?_
  simp only [weave_Out.j0, Bool.false_eq_true, if_false, if_pos c4]
  exact h
theorem out_odd (l : List (List Int)) (h1 : 1 ≤ l.length) (h4 : l.length ≤ 4) (h : ¬ Even l) : Ev (fun k => weave_Out.f k (l.length : Int) l) ([], 3) := by
  refine out_j0 l h1 h4 _ ?_
  by_cases c : (l.getD 0 []).length = 0
  · exact out_l0_bad l _ h4 0 (by omega) (.inr (by omega)) 0 0 rfl
  · have : ∃ i, i < l.length ∧ (l.getD i []).length ≠ (l.getD 0 []).length := by
      apply Classical.byContradiction
      intro hn
      exact h ⟨c, fun i hi => Classical.byContradiction fun hc => hn ⟨i, hi, hc⟩⟩
    obtain ⟨i, hi, hne⟩ := this
    exact out_l0_bad l ((l.getD 0 []).length : Int) h4 i hi (.inl (by omega)) i 0 (by omega)
theorem out_good (l : List (List Int)) (h1 : 1 ≤ l.length) (h4 : l.length ≤ 4) (h : Even l) (hn : (l.getD 0 []).length ≤ 1000000) : Ev (fun k => weave_Out.f k (l.length : Int) l) (inter l (l.getD 0 []).length, 0) := by
  refine out_j0 l h1 h4 _ ?_
  exact out_l0_good l _ h4 h.1 h.2 _ (out_l1 l _ h4 hn h.2 (l.getD 0 []).length 0 (by omega)) l.length 0 (by omega)

/-! In -/
def pick (w : Nat) (s : List Int) (r i : Nat) : List Int := (List.range ((i + (w - 1 - r)) / w)).map fun q => s.getD (q * w + r) 0
def deal (w : Nat) (s : List Int) (i : Nat) : List (List Int) := (List.range w).map fun r => pick w s r i
theorem pick_hit (w : Nat) (s : List Int) (i : Nat) (h1 : 1 ≤ w) (h4 : w ≤ 4) : pick w s (i % w) (i + 1) = pick w s (i % w) i ++ [s.getD i 0] := by
  have e : (i + 1 + (w - 1 - i % w)) / w = (i + (w - 1 - i % w)) / w + 1 ∧ (i + (w - 1 - i % w)) / w * w + i % w = i := by
    obtain rfl | rfl | rfl | rfl : w = 1 ∨ w = 2 ∨ w = 3 ∨ w = 4 := by omega
    all_goals omega
  unfold pick
  rw [e.1, List.range_succ, List.map_append]
  simp [e.2]
theorem pick_miss (w : Nat) (s : List Int) (r i : Nat) (h1 : 1 ≤ w) (h4 : w ≤ 4) (hr : r < w) (hne : r ≠ i % w) : pick w s r (i + 1) = pick w s r i := by
  have e : (i + 1 + (w - 1 - r)) / w = (i + (w - 1 - r)) / w := by
    obtain rfl | rfl | rfl | rfl : w = 1 ∨ w = 2 ∨ w = 3 ∨ w = 4 := by omega
    all_goals omega
  unfold pick
  rw [e]
theorem deal_length (w : Nat) (s : List Int) (i : Nat) : (deal w s i).length = w := by simp [deal]
theorem deal_get (w : Nat) (s : List Int) (i r : Nat) (h : r < w) : (deal w s i).getD r [] = pick w s r i := by
  unfold deal
  rw [List.getD_eq_getElem?_getD, List.getElem?_eq_getElem (by simpa using h)]
  simp
theorem deal_zero (w : Nat) (s : List Int) (h4 : w ≤ 4) : deal w s 0 = List.replicate w [] := by
  apply List.ext_getElem
  · simp [deal]
  · intro n h1 h2
    have hn : n < w := by simpa [deal] using h1
    simp only [deal, List.getElem_map, List.getElem_range, List.getElem_replicate, pick]
    have : (0 + (w - 1 - n)) / w = 0 := Nat.div_eq_of_lt (by omega)
    rw [this]; rfl
theorem deal_step (w : Nat) (s : List Int) (i : Nat) (h1 : 1 ≤ w) (h4 : w ≤ 4) : (deal w s i).set (i % w) ((deal w s i).getD (i % w) [] ++ [s.getD i 0]) = deal w s (i + 1) := by
  have hm : i % w < w := Nat.mod_lt _ (by omega)
  rw [deal_get w s i _ hm, ← pick_hit w s i h1 h4]
  apply List.ext_getElem
  · simp [deal]
  · intro n hn1 hn2
    have hn : n < w := by simpa [deal] using hn2
    rw [List.getElem_set]
    by_cases e : i % w = n
    · rw [if_pos e]; subst e; simp [deal]
    · rw [if_neg e]
      simp only [deal, List.getElem_map, List.getElem_range]
      exact (pick_miss w s n i h1 h4 hn (fun h => e h.symm)).symm
theorem pick_length (w : Nat) (s : List Int) (r i : Nat) : (pick w s r i).length = (i + (w - 1 - r)) / w := by simp [pick]
theorem pick_small (w : Nat) (s : List Int) (r i : Nat) (h : i + 4 ≤ 1000000000) (h4 : w ≤ 4) : (pick w s r i).length < 70368744177664 := by
  rw [pick_length]
  have := Nat.div_le_self (i + (w - 1 - r)) w
  omega
theorem in_loop (w : Nat) (s : List Int) (h1 : 1 ≤ w) (h4 : w ≤ 4) (hs : s.length ≤ 100000000) : ∀ (d i : Nat), i + d = s.length →
    Ev (fun k => weave_In.l0 k (w : Int) (deal w s i) s (s.length : Int) (i : Int)) (deal w s s.length, 0) := by
  intro d
  induction d with
  | zero =>
    intro i hi
    obtain rfl : i = s.length := by omega
    have c1 : ¬ ((s.length : Int) < (s.length : Int)) := by omega
    refine Ev.one ?_
    simp only [weave_In.l0, if_neg c1]
    exact Ev.now _
  | succ d ih =>
    intro i hi
    have ih' := ih (i + 1) (by omega)
    have c1 : ((i : Int) < (s.length : Int)) := by omega
    have c2 : 0 ≤ (i : Int) := by omega
    have c3 : ¬ ((w : Int) = 0) := by omega
    have hm : i % w < w := Nat.mod_lt _ (by omega)
    have et : Int.tmod (i : Int) (w : Int) = ((i % w : Nat) : Int) := by rw [Int.tmod_eq_emod_of_nonneg (by omega), ← Int.natCast_emod]
    have c4 : 0 ≤ ((i % w : Nat) : Int) := by omega
    have c5 : ((i % w : Nat) : Int) < ((deal w s i).length : Int) := by rw [deal_length]; omega
    have c6 : (rd_L1 (deal w s i) ((i % w : Nat) : Int)).length < 70368744177664 := by
      rw [rdL, deal_get w s i _ hm]; exact pick_small w s _ i (by omega) h4
    refine Ev.one ?_
    simp only [weave_In.l0, if_pos c1, if_pos c2, if_neg c3, et, if_pos c4, if_pos c5, if_pos c6, wn1 (show i ≤ 1000000000000000 by omega)]
    have e2 : (deal w s i).set ((i % w : Nat) : Int).toNat (rd_L1 (deal w s i) ((i % w : Nat) : Int) ++ [rd s (i : Int)]) = deal w s (i + 1) := by
      rw [rdL, Int.toNat_natCast]; exact deal_step w s i h1 h4
    rw [e2]
    exact ih'
/-- what In answers -/
def inOf (w : Int) (s : List Int) : List (List Int) × Int := if w < 1 ∨ 4 < w then ([], 1) else if s.length = 0 ∨ (s.length : Int) % w ≠ 0 then ([], 3) else (deal w.toNat s s.length, 0)
theorem inOf_bad {w : Int} {s : List Int} (h : w < 1 ∨ 4 < w) : inOf w s = ([], 1) := by unfold inOf; rw [if_pos h]
theorem inOf_odd {w : Int} {s : List Int} (h : ¬ (w < 1 ∨ 4 < w)) (h2 : s.length = 0 ∨ (s.length : Int) % w ≠ 0) : inOf w s = ([], 3) := by unfold inOf; rw [if_neg h, if_pos h2]
theorem inOf_good {w : Int} {s : List Int} (h : ¬ (w < 1 ∨ 4 < w)) (h2 : ¬ (s.length = 0 ∨ (s.length : Int) % w ≠ 0)) : inOf w s = (deal w.toNat s s.length, 0) := by unfold inOf; rw [if_neg h, if_neg h2]
theorem in_is (w : Int) (s : List Int) (hs : s.length ≤ 100000000) : Ev (fun k => weave_In.f k w s) (inOf w s) := by
  unfold weave_In.f weave_may.f
  by_cases c1 : w ≥ 1
  · by_cases c2 : w ≤ 4
    · have cw : ¬ (w < 1 ∨ 4 < w) := by omega
      simp only [if_pos c1, Option.bind_some, decide_eq_true c2, if_true]
      by_cases c3 : (s.length : Int) = 0
      · simp only [if_pos c3]
        rw [inOf_odd cw (.inl (by omega))]; exact Ev.now _
      · have c4 : ¬ w = 0 := by omega
        simp only [if_neg c3, if_neg c4]
        by_cases c5 : (s.length : Int) % w = 0
        · have c6 : 0 ≤ w := by omega
          have c7 : w.toNat ≤ 11728124029610 := by omega
          simp only [if_pos c5, if_pos c6, if_pos c7]
          rw [inOf_good cw (by rintro (h | h); exact c3 (by omega); exact h c5)]
          have := in_loop w.toNat s (by omega) (by omega) hs s.length 0 (by omega)
          rw [deal_zero _ _ (by omega), show ((w.toNat : Nat) : Int) = w from by omega] at this
          exact this
        · simp only [if_neg c5]
          rw [inOf_odd cw (.inr c5)]; exact Ev.now _
    · simp only [if_pos c1, Option.bind_some, decide_eq_false c2, Bool.false_eq_true, if_false]
      rw [inOf_bad (by omega)]; exact Ev.now _
  · simp only [if_neg c1, Option.bind_some, Bool.false_eq_true, if_false]
    rw [inOf_bad (by omega)]; exact Ev.now _
/-- what was woven is dealt out as it was -/
theorem deal_inter (l : List (List Int)) (h1 : 1 ≤ l.length) (h4 : l.length ≤ 4) (n : Nat) (hall : ∀ i, i < l.length → (l.getD i []).length = n) : deal l.length (inter l n) (inter l n).length = l := by
  apply List.ext_getElem
  · simp [deal]
  · intro r hr1 hr2
    have hr : r < l.length := hr2
    simp only [deal, List.getElem_map, List.getElem_range]
    have hlr : l[r].length = n := by
      have := hall r hr
      rwa [List.getD_eq_getElem?_getD, List.getElem?_eq_getElem hr, Option.getD_some] at this
    apply List.ext_getElem
    · rw [pick_length, inter_length, hlr]
      obtain h | h | h | h : l.length = 1 ∨ l.length = 2 ∨ l.length = 3 ∨ l.length = 4 := by omega
      all_goals (rw [h] at hr ⊢; omega)
    · intro q hq1 hq2
      have hq : q < n := by omega
      simp only [pick, List.getElem_map, List.getElem_range]
      rw [inter_get l n q r hq hr, List.getD_eq_getElem?_getD (l := l), List.getElem?_eq_getElem hr, Option.getD_some, List.getD_eq_getElem?_getD, List.getElem?_eq_getElem hq2, Option.getD_some]
end Go.Proofs.Ytghjenmocndlgaa.L6
