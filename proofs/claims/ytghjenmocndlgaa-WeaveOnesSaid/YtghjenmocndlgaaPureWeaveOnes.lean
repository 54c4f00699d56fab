/- The law WeaveOnes of the seat: one word is woven to itself; words of one symbol stand side by side. -/
import Derived.Test.YtghjenmocndlgaaL6O
import Derived.Test.YtghjenmocndlgaaOx5
set_option linter.unusedVariables false
set_option linter.unusedSimpArgs false
namespace Go.Proofs.Ytghjenmocndlgaa.Pure
open Go.RowKit Go.Proofs.Ytghjenmocndlgaa.L6 Go.Proofs.Ytghjenmocndlgaa.O Go.Proofs.YtghjenmocndlgaaW.PrintWords Go.Proofs.YtghjenmocndlgaaW.PrintLast
theorem list_ext_getD {a b : List Int} (hl : a.length = b.length) (h : ∀ i, i < b.length → a.getD i 0 = b.getD i 0) : a = b := by
  apply List.ext_getElem hl
  intro i h1 h2
  have := h i h2
  rw [List.getD_eq_getElem?_getD, List.getElem?_eq_getElem h1, List.getD_eq_getElem?_getD, List.getElem?_eq_getElem h2] at this
  exact this
theorem inter_one (s : List Int) : inter [s] s.length = s := by
  have hl : (inter [s] s.length).length = s.length := by rw [inter_length]; simp
  apply list_ext_getD hl
  intro i hi
  have := inter_get [s] s.length i 0 hi (show 0 < 1 by decide)
  rw [show i * [s].length + 0 = i by simp] at this
  rw [this]; rfl
theorem deal_one (s : List Int) : (deal 1 s s.length).getD 0 [] = s := by
  rw [deal_get 1 s s.length 0 (by decide)]
  have hl : (pick 1 s 0 s.length).length = s.length := by rw [pick_length]; simp
  apply list_ext_getD hl
  intro i hi
  unfold pick
  rw [List.getD_eq_getElem?_getD, List.getElem?_map, List.getElem?_range (by simpa using hi)]
  simp
/-- words of one symbol -/
def ones (s : List Int) (i : Nat) : List (List Int) := (s.take i).map fun x => [x]
theorem ones_length (s : List Int) (i : Nat) (h : i ≤ s.length) : (ones s i).length = i := by simp [ones]; omega
theorem ones_get (s : List Int) (i r : Nat) (h : i ≤ s.length) (hr : r < i) : (ones s i).getD r [] = [s.getD r 0] := by
  have h1 : r < (s.take i).length := by rw [List.length_take]; omega
  unfold ones
  rw [List.getD_eq_getElem?_getD, List.getElem?_map, List.getElem?_eq_getElem h1]
  simp [List.getD_eq_getElem?_getD, List.getElem?_eq_getElem (show r < s.length by omega)]
theorem ones_step (s : List Int) (i : Nat) (h : i < s.length) : ones s i ++ [[rd s (i : Int)]] = ones s (i + 1) := by
  have e : rd s (i : Int) = s[i] := by
    unfold rd
    rw [Int.toNat_natCast, List.getD_eq_getElem?_getD, List.getElem?_eq_getElem h]; rfl
  rw [e]
  unfold ones
  rw [List.take_add_one, List.getElem?_eq_getElem h, List.map_append]; rfl
theorem ones_even (s : List Int) (i : Nat) (h : i ≤ s.length) (h0 : 0 < i) : Even (ones s i) := by
  constructor
  · rw [ones_get s i 0 h h0]; simp
  · intro r hr
    rw [ones_length s i h] at hr
    rw [ones_get s i r h hr, ones_get s i 0 h h0]; rfl
theorem inter_ones (s : List Int) (i : Nat) (h : i ≤ s.length) (h0 : 0 < i) : inter (ones s i) ((ones s i).getD 0 []).length = s.take i := by
  have e1 : ((ones s i).getD 0 []).length = 1 := by rw [ones_get s i 0 h h0]; rfl
  rw [e1]
  have hl : (inter (ones s i) 1).length = (s.take i).length := by rw [inter_length, ones_length s i h, List.length_take]; omega
  apply list_ext_getD hl
  intro r hr
  rw [List.length_take] at hr
  have hri : r < i := by omega
  have := inter_get (ones s i) 1 0 r (by decide) (by rw [ones_length s i h]; exact hri)
  rw [Nat.zero_mul, Nat.zero_add] at this
  rw [this, ones_get s i r h hri]
  have h1 : r < (s.take i).length := by rw [List.length_take]; omega
  have q1 : (s.take i).getD r 0 = s[r] := by
    rw [List.getD_eq_getElem?_getD, List.getElem?_eq_getElem h1, List.getElem_take]; rfl
  have q2 : s.getD r 0 = s[r] := by
    rw [List.getD_eq_getElem?_getD, List.getElem?_eq_getElem (show r < s.length by omega)]; rfl
  rw [q1, q2]; rfl
theorem same_self (s : List Int) (hL : s.length ≤ 1000000000000) : Ev (fun k => blackboardref1_Same.f k s s) true := by
  have h := same_is s s hL
  rw [decide_eq_true rfl] at h
  exact h
theorem ones_loop (s : List Int) (h0 : 0 < s.length) (h1 : s.length ≤ 1000) (n : Nat) (hn : n ≤ s.length) (hn4 : n ≤ 4) (hn0 : 0 < n) :
    ∀ (d i : Nat), i + d = n → Ev (fun k => blackboardlaw6_WeaveOnes.l0 k s s 0 (deal 1 s s.length) 0 (n : Int) (ones s i) (i : Int)) true := by
  intro d
  induction d with
  | zero =>
    intro i hi
    obtain rfl : i = n := by omega
    have c1 : ¬ ((i : Int) < (i : Int)) := Int.lt_irrefl _
    have sl : s.length ≤ 1000000000000 := Nat.le_trans h1 (by decide)
    have ho := out_good (ones s i) (by rw [ones_length s i hn]; exact hn0) (by rw [ones_length s i hn]; exact hn4) (ones_even s i hn hn0) (by rw [ones_get s i 0 hn hn0]; exact (show 1 ≤ 1000000 by decide))
    rw [inter_ones s i hn hn0, ones_length s i hn] at ho
    have tl : (s.take i).length ≤ 1000000000000 := by rw [List.length_take]; exact Nat.le_trans (Nat.min_le_right _ _) sl
    have d1 : (((deal 1 s s.length).length : Nat) : Int) = 1 := by rw [deal_length]; rfl
    have d2 : 0 < (((deal 1 s s.length).length : Nat) : Int) := by rw [d1]; decide
    have r1 : rd_L1 (deal 1 s s.length) 0 = s := deal_one s
    have e0 : 0 ≤ (i : Int) := Int.natCast_nonneg _
    have e1 : (i : Int) ≤ (s.length : Int) := Int.ofNat_le.mpr hn
    refine Ev.one ?_
    simp only [blackboardlaw6_WeaveOnes.l0, if_neg c1]
    refine Ev.bind ho ?_
    simp only [if_true]
    refine Ev.bind (same_self s sl) ?_
    simp only [if_true, if_pos d1, if_pos d2, r1]
    refine Ev.bind (same_self s sl) ?_
    simp only [if_true, if_pos e0, if_pos e1, Int.toNat_natCast]
    exact Ev.bind (same_self (s.take i) tl) (Ev.now _)
  | succ d ih =>
    intro i hi
    have hin : i < n := by omega
    have his : i < s.length := by omega
    have ih' := ih (i + 1) (by omega)
    have c1 : ((i : Int) < (n : Int)) := Int.ofNat_lt.mpr hin
    have c2 : 0 ≤ (i : Int) := Int.natCast_nonneg _
    have c3 : (i : Int) < (s.length : Int) := Int.ofNat_lt.mpr his
    have c4 : (ones s i).length < 5864062014805 := by rw [ones_length s i (Nat.le_of_lt his)]; omega
    have hw := wn1 (i := i) (Nat.le_trans (Nat.le_of_lt his) (Nat.le_trans h1 (by decide)))
    have e := ones_step s i his
    refine Ev.one ?_
    simp only [blackboardlaw6_WeaveOnes.l0, if_pos c1, if_pos c2, if_pos c3, if_pos c4, e, hw]
    exact ih'
theorem WeaveOnes : blackboardlaw6_WeaveOnes.Pure := by
  intro s hm hm2 hg
  refine Ev.rounds ?_
  unfold blackboardlaw6_WeaveOnes.f
  refine Ev.bind awake6 ?_
  simp only [if_true]
  by_cases c0 : s.length = 0
  · have c : (s.length : Int) = 0 := by omega
    simp only [if_pos c]; exact Ev.now _
  have c : ¬ (s.length : Int) = 0 := by omega
  by_cases c2 : (s.length : Int) > 1000
  · simp only [if_neg c, if_pos c2]; exact Ev.now _
  have h1 : s.length ≤ 1000 := by omega
  have h0 : 0 < s.length := by omega
  have hmn : mn (s.length : Int) 4 = ((min s.length 4 : Nat) : Int) := by unfold mn; split <;> omega
  have hn0 : 0 < min s.length 4 := by omega
  have ho := out_good [s] (show 1 ≤ 1 by decide) (show 1 ≤ 4 by decide) ⟨by show s.length ≠ 0; exact c0, fun i hi => by
    have : i = 0 := by simp at hi; exact hi
    subst this; rfl⟩ (show s.length ≤ 1000000 from Nat.le_trans h1 (by decide))
  rw [show (([s] : List (List Int)).getD 0 []).length = s.length from rfl, inter_one] at ho
  have hi := in_is 1 s (Nat.le_trans h1 (by decide))
  rw [inOf_good (by omega) (by rintro (x | x); exact c0 x; exact x (Int.emod_one _))] at hi
  have h := ones_loop s h0 h1 (min s.length 4) (Nat.min_le_left _ _) (Nat.min_le_right _ _) hn0 (min s.length 4) 0 (Nat.zero_add _)
  simp only [if_neg c, if_neg c2, hmn]
  refine Ev.bind ho ?_
  refine Ev.bind hi ?_
  exact h
end Go.Proofs.Ytghjenmocndlgaa.Pure
