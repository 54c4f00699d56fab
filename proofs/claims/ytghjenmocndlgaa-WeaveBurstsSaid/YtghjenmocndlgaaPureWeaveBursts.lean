/- The law WeaveBursts of the seat: however many symbols stand in a row, from any place, no word has more of them than Burst tells, and one has just so many. -/
import Derived.Test.YtghjenmocndlgaaMx2
import Derived.OpenShut
namespace Go.Proofs.Ytghjenmocndlgaa.Pure
open Go.RowKit Go.Proofs.Ytghjenmocndlgaa.M Go.Proofs.YtghjenmocndlgaaW.PrintWords Go.Proofs.YtghjenmocndlgaaW.PrintLast

theorem w64 {x : Int} (h0 : -9223372036854775808 ≤ x) (h1 : x ≤ 9223372036854775807) : wrap64 x = x := by unfold wrap64; omega
theorem awake6 : Ev (fun k => blackboardlaw6_awake.f k) true := Ev.of (k := 40) blackboardlaw6_awake.mono (by decide +kernel)

/-- how many of the first i symbols from place f on are of word j, of w words -/
def cnt (w f i j : Int) : Int := (i + w - 1 - (j - f) % w) / w
theorem cnt_hit (w f i j : Int) (h1 : 1 ≤ w) (h4 : w ≤ 4) (hj : j = (f + i) % w) : cnt w f (i + 1) j = cnt w f i j + 1 ∧ cnt w f (i + 1) j = (i + w) / w := by
  unfold cnt
  obtain rfl | rfl | rfl | rfl : w = 1 ∨ w = 2 ∨ w = 3 ∨ w = 4 := by omega
  all_goals omega
theorem cnt_miss (w f i j : Int) (h1 : 1 ≤ w) (h4 : w ≤ 4) (h0 : 0 ≤ j) (hw : j < w) (hj : j ≠ (f + i) % w) : cnt w f (i + 1) j = cnt w f i j := by
  unfold cnt
  obtain rfl | rfl | rfl | rfl : w = 1 ∨ w = 2 ∨ w = 3 ∨ w = 4 := by omega
  all_goals omega
theorem cnt_nil (w f j : Int) (h1 : 1 ≤ w) (h4 : w ≤ 4) : cnt w f 0 j = 0 := by
  unfold cnt
  obtain rfl | rfl | rfl | rfl : w = 1 ∨ w = 2 ∨ w = 3 ∨ w = 4 := by omega
  all_goals omega
def cl (w f i : Int) : List Int := (List.range w.toNat).map fun j : Nat => cnt w f i (j : Int)
theorem cl_length (w f i : Int) : (cl w f i).length = w.toNat := by simp [cl]
theorem cl_rd (w f i j : Int) (h0 : 0 ≤ j) (h1 : j < w) : rd (cl w f i) j = cnt w f i j := by
  unfold rd cl
  rw [List.getD_eq_getElem?_getD, List.getElem?_eq_getElem (by simp; omega)]
  simp
  congr 1
  omega
theorem cl_zero (w f : Int) (h1 : 1 ≤ w) (h4 : w ≤ 4) : cl w f 0 = List.replicate w.toNat 0 := by
  apply List.ext_getElem
  · simp [cl]
  · intro n h2 h3
    simp [cl, cnt_nil w f n h1 h4]
theorem cl_step (w f i : Int) (h1 : 1 ≤ w) (h4 : w ≤ 4) : (cl w f i).set ((f + i) % w).toNat (cnt w f i ((f + i) % w) + 1) = cl w f (i + 1) := by
  have hm0 : 0 ≤ (f + i) % w := Int.emod_nonneg _ (by omega)
  apply List.ext_getElem
  · simp [cl]
  · intro n h2 h3
    rw [List.getElem_set]
    have hn : n < w.toNat := by simpa [cl] using h3
    by_cases e : ((f + i) % w).toNat = n
    · rw [if_pos e]
      have e2 : (f + i) % w = (n : Int) := by omega
      rw [e2, ← (cnt_hit w f i n h1 h4 e2.symm).1]
      simp [cl]
    · rw [if_neg e]
      simp only [cl, List.getElem_map, List.getElem_range]
      exact (cnt_miss w f i n h1 h4 (by omega) (by omega) (by omega)).symm

theorem burst_in (w f n : Int) (h1 : 1 ≤ w) (h4 : w ≤ 4) (hf : 0 ≤ f) (hn : 0 ≤ n) (hN : n ≤ 1000000) : weave_Burst.f w f n = some ((n + w - 1) / w) := by
  unfold weave_Burst.f weave_may.f
  rw [if_pos (by omega)]
  simp only [Option.bind_some]
  rw [if_pos (by simpa using h4), if_neg (by omega)]
  by_cases e : n ≤ 0
  · rw [if_pos e]
    obtain rfl : n = 0 := by omega
    obtain rfl | rfl | rfl | rfl : w = 1 ∨ w = 2 ∨ w = 3 ∨ w = 4 := by omega
    all_goals rfl
  · rw [if_neg e, if_neg (by omega), w64 (x := n - 1) (by omega) (by omega), Int.tdiv_eq_ediv_of_nonneg (by omega)]
    have hq : 0 ≤ (n - 1) / w ∧ (n - 1) / w ≤ n - 1 := by
      obtain rfl | rfl | rfl | rfl : w = 1 ∨ w = 2 ∨ w = 3 ∨ w = 4 := by omega
      all_goals omega
    rw [w64 (x := (n - 1) / w) (by omega) (by omega), w64 (x := (n - 1) / w + 1) (by omega) (by omega)]
    congr 1
    obtain rfl | rfl | rfl | rfl : w = 1 ∨ w = 2 ∨ w = 3 ∨ w = 4 := by omega
    all_goals omega
theorem burst_out (w f n : Int) (h : w < 1 ∨ 4 < w ∨ f < 0 ∨ n ≤ 0) : weave_Burst.f w f n = some 0 := by
  unfold weave_Burst.f weave_may.f
  by_cases c1 : w ≥ 1
  · rw [if_pos c1]
    simp only [Option.bind_some]
    by_cases c2 : w ≤ 4
    · rw [if_pos (by simpa using c2)]
      by_cases c3 : f < 0
      · rw [if_pos c3]
      · rw [if_neg c3, if_pos (by omega)]
    · rw [if_neg (by simpa using c2)]
  · rw [if_neg c1]; rfl

theorem bursts_loop (w f n : Int) (h1 : 1 ≤ w) (h4 : w ≤ 4) (hf : 0 ≤ f) (hF : f ≤ 1000000) (hN : n ≤ 1000000) (d : Nat) : ∀ i : Int, 0 ≤ i → i ≤ n → n - i = d →
    Ev (fun k => blackboardlaw6_bursts.l0 k w f n (cl w f i) ((i + w - 1) / w) i) true := by
  induction d with
  | zero =>
    intro i h0 hi hd
    obtain rfl : i = n := by omega
    refine Ev.step (f := fun k => (blackboardlaw6_awake.f k).bind fun _ => some true) (fun k => ?_) (Ev.bind awake6 (Ev.now _))
    simp only [blackboardlaw6_bursts.l0]
    rw [if_neg (by omega)]
    cases hk : blackboardlaw6_awake.f k with
    | none => rfl
    | some b =>
      have : b = true := by
        obtain ⟨K, hK⟩ := awake6
        have h2 := at_rounds blackboardlaw6_awake.mono (Nat.le_max_left k K) hk
        have h3 := hK _ (Nat.le_max_right k K)
        simpa using h2.symm.trans h3
      subst this
      simp only [Option.bind_some]
      rw [if_pos trivial, burst_in w f i h1 h4 hf h0 hN, burst_out 0 f i (by omega), burst_out w (-1) i (by omega), burst_out w f (-1) (by omega), burst_out 5 f i (by omega)]
      simp
  | succ d ih =>
    intro i h0 hi hd
    have hm0 : 0 ≤ (f + i) % w := Int.emod_nonneg _ (by omega)
    have hm1 : (f + i) % w < w := Int.emod_lt_of_pos _ (by omega)
    refine Ev.step (fun k => ?_) (ih (i + 1) (by omega) (by omega) (by omega))
    simp only [blackboardlaw6_bursts.l0]
    rw [if_pos (by omega), if_neg (by omega), w64 (x := f + i) (by omega) (by omega), Int.tmod_eq_emod_of_nonneg (by omega), if_pos hm0, if_pos (by rw [cl_length]; omega)]
    simp only [Option.bind_some]
    have hc := cnt_hit w f i _ h1 h4 rfl
    have hb : 0 ≤ (i + w) / w ∧ (i + w) / w ≤ i + w := by
      obtain rfl | rfl | rfl | rfl : w = 1 ∨ w = 2 ∨ w = 3 ∨ w = 4 := by omega
      all_goals omega
    rw [cl_rd w f i _ hm0 hm1, w64 (by omega) (by omega), cl_step w f i h1 h4, cl_rd w f (i + 1) _ hm0 hm1, hc.2, w64 (x := i + 1) (by omega) (by omega)]
    congr 1
    unfold mx
    obtain rfl | rfl | rfl | rfl : w = 1 ∨ w = 2 ∨ w = 3 ∨ w = 4 := by omega
    all_goals (split <;> omega)

theorem u8_of {a : Int} (h : (Lit.int .u8 a).wf = true) : 0 ≤ a ∧ a ≤ 255 := bounds_u8 h
theorem u16_of {a : Int} (h : (Lit.int .u16 a).wf = true) : 0 ≤ a ∧ a ≤ 65535 := bounds_u16 h

theorem WeaveBursts : blackboardlaw6_WeaveBursts.Pure := by
  intro a b c ha hb hc
  have ha := u8_of ha
  have hb := u16_of hb
  have hc := u16_of hc
  refine Ev.rounds ?_
  unfold blackboardlaw6_WeaveBursts.f
  refine Ev.bind awake6 ?_
  simp only [if_true]
  rw [w64 (x := a) (by omega) (by omega), Int.tmod_eq_emod_of_nonneg (by omega), w64 (x := 1 + a % 4) (by omega) (by omega), w64 (x := b) (by omega) (by omega), w64 (x := c) (by omega) (by omega), Int.tmod_eq_emod_of_nonneg (by omega)]
  refine Ev.bind (a := true) ?_ (Ev.now _)
  unfold blackboardlaw6_bursts.f
  have h := bursts_loop (1 + a % 4) b (c % 500) (by omega) (by omega) (by omega) (by omega) (by omega) (c % 500).toNat 0 (by omega) (by omega) (by omega)
  rw [cl_zero _ _ (by omega) (by omega)] at h
  rw [show (0 + (1 + a % 4) - 1) / (1 + a % 4) = 0 from Int.ediv_eq_zero_of_lt (by omega) (by omega)] at h
  exact Ev.congr (fun k => by rw [if_pos (by omega), if_pos (by omega)]) h
end Go.Proofs.Ytghjenmocndlgaa.Pure
