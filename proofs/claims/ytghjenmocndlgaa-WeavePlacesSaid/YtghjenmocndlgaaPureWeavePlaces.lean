/- The law WeavePlaces of the seat, over its printed functions. -/
import Derived.Test.YtghjenmocndlgaaL6
import Derived.Test.YtghjenmocndlgaaMx11
set_option linter.unusedVariables false
set_option linter.unusedSimpArgs false
namespace Go.Proofs.Ytghjenmocndlgaa.L6
open Go.RowKit Go.Proofs.Ytghjenmocndlgaa.M Go.Proofs.YtghjenmocndlgaaW.PrintWords Go.Proofs.YtghjenmocndlgaaW.PrintLast

theorem burst_in (w f n : Int) (h1 : 1 ≤ w) (h4 : w ≤ 4) (hf : 0 ≤ f) (hn : 0 ≤ n) (hN : n ≤ 1000000) : weave_Burst.f w f n = some ((n + w - 1) / w) := by
  unfold weave_Burst.f weave_may.f
  rw [if_pos (by omega)]
  simp only [Option.bind_some]
  rw [if_pos (by simpa using h4), if_neg (by omega)]
  by_cases e : n ≤ 0
  · rw [if_pos e]
    obtain rfl : n = 0 := by omega
    obtain rfl | rfl | rfl | rfl : w = 1 ∨ w = 2 ∨ w = 3 ∨ w = 4 := by omega
    all_goals rfl
  · rw [if_neg e, if_neg (by omega), w64 (x := n - 1) (by omega) (by omega), Int.tdiv_eq_ediv_of_nonneg (by omega)]
    have hq : 0 ≤ (n - 1) / w ∧ (n - 1) / w ≤ n - 1 := by
      obtain rfl | rfl | rfl | rfl : w = 1 ∨ w = 2 ∨ w = 3 ∨ w = 4 := by omega
      all_goals omega
    rw [w64 (x := (n - 1) / w) (by omega) (by omega), w64 (x := (n - 1) / w + 1) (by omega) (by omega)]
    congr 1
    obtain rfl | rfl | rfl | rfl : w = 1 ∨ w = 2 ∨ w = 3 ∨ w = 4 := by omega
    all_goals omega

theorem rdn (s : List Int) (n : Nat) : rd s (n : Int) = s.getD n 0 := by unfold rd; rw [Int.toNat_natCast]
theorem count_step (w q at_ i j : Nat) (h1 : 1 ≤ w) (h4 : w ≤ 4) (hi : i < w) : (j * w + i < at_ → j + 1 - (at_ - i + (w - 1)) / w = 0) ∧ (at_ ≤ j * w + i → j + 1 - (at_ - i + (w - 1)) / w = j - (at_ - i + (w - 1)) / w + 1) := by
  obtain rfl | rfl | rfl | rfl : w = 1 ∨ w = 2 ∨ w = 3 ∨ w = 4 := by omega
  all_goals omega
theorem count_end (w q at_ i : Nat) (h1 : 1 ≤ w) (h4 : w ≤ 4) (hi : i < w) (hat : at_ < q * w) : q - (at_ - i + (w - 1)) / w ≤ (q * w - at_ + w - 1) / w := by
  obtain rfl | rfl | rfl | rfl : w = 1 ∨ w = 2 ∨ w = 3 ∨ w = 4 := by omega
  all_goals omega
theorem rows_len (w q i : Nat) (h1 : 1 ≤ w) (h4 : w ≤ 4) (hi : i < w) : (q * w + (w - 1 - i)) / w = q := by
  obtain rfl | rfl | rfl | rfl : w = 1 ∨ w = 2 ∨ w = 3 ∨ w = 4 := by omega
  all_goals omega
theorem pick_get (w : Nat) (s : List Int) (r i j : Nat) (h : j < (i + (w - 1 - r)) / w) : (pick w s r i).getD j 0 = s.getD (j * w + r) 0 := by
  unfold pick
  rw [List.getD_eq_getElem?_getD, List.getElem?_eq_getElem (by simpa using h)]
  simp
theorem at_lt (w q i j : Nat) (h1 : 1 ≤ w) (h4 : w ≤ 4) (hi : i < w) (hj : j < q) : j * w + i < q * w := by
  obtain rfl | rfl | rfl | rfl : w = 1 ∨ w = 2 ∨ w = 3 ∨ w = 4 := by omega
  all_goals omega

theorem l2_step (k : Nat) (s : List Int) (wv : Int) (D B : List (List Int)) (cap i n j at_ j1 : Int) (rs rb : List Int) (v vb : Int)
    (g1 : 0 ≤ i) (g2 : i < (D.length : Int)) (g3 : i < (B.length : Int)) (r1 : rd_L1 D i = rs) (r2 : rd_L1 B i = rb)
    (g4 : j < (rs.length : Int)) (g4b : j < (rb.length : Int)) (g5 : 0 ≤ j) (e1 : wrap64 (wrap64 (j * wv) + i) = at_) (g6 : 0 ≤ at_) (g7 : at_ < (s.length : Int))
    (v1 : rd rs j = v) (v2 : rd rb j = vb) (v3 : rd s at_ = v) (e2 : wrap64 (j + 1) = j1) :
    blackboardlaw6_WeavePlaces.l2 (k + 1) s wv D B cap i n j = (if v = vb then blackboardlaw6_WeavePlaces.l2 k s wv D B cap i n j1 else blackboardlaw6_WeavePlaces.l2 k s wv D B cap i (wrap64 (n + 1)) j1) := by
  rw [blackboardlaw6_WeavePlaces.l2, if_pos g1, if_pos g2, r1, if_pos g4, if_pos g5, e1, if_pos g6, if_pos g7, v1, v3, if_pos rfl, if_pos g3, r2, if_pos g4b, v2, e2]
theorem l2_end (k : Nat) (s : List Int) (wv : Int) (D B : List (List Int)) (cap i n j i1 : Int) (rs : List Int)
    (g1 : 0 ≤ i) (g2 : i < (D.length : Int)) (r1 : rd_L1 D i = rs)
    (g4 : ¬ (j < (rs.length : Int))) (g5 : ¬ (n > cap)) (e2 : wrap64 (i + 1) = i1) :
    blackboardlaw6_WeavePlaces.l2 (k + 1) s wv D B cap i n j = blackboardlaw6_WeavePlaces.l1 k s wv D B cap i1 := by
  rw [blackboardlaw6_WeavePlaces.l2, if_pos g1, if_pos g2, r1, if_neg g4, if_neg g5, e2]
theorem place_at (w q i j : Nat) (hlt : j * w + i < q * w) (hjw : j * w ≤ q * w) (hqw : q * w ≤ 2000 * 4) : wrap64 (wrap64 ((j : Int) * (w : Int)) + (i : Int)) = ((j * w + i : Nat) : Int) := by
  rw [← Int.natCast_mul]
  generalize j * w = z at hlt hjw ⊢
  generalize q * w = y at hlt hjw hqw
  rw [w64 (x := (z : Int)) (by omega) (by omega), w64 (x := (z : Int) + (i : Int)) (by omega) (by omega), Int.natCast_add]
theorem stepn (pos at_ j n m : Nat) (hn : n ≤ j - m) (hc : (pos < at_ → j + 1 - m = 0) ∧ (at_ ≤ pos → j + 1 - m = j - m + 1)) : n ≤ j + 1 - m ∧ (at_ ≤ pos → n + 1 ≤ j + 1 - m) := ⟨by omega, fun h => by have := hc.2 h; omega⟩
/-- the inner loop over opaque tables -/
theorem places_in (w q at_ i : Nat) (s b : List Int) (D B : List (List Int)) (cap : Nat) (rs rb : List Int)
    (h1 : 1 ≤ w) (h4 : w ≤ 4) (hq : q ≤ 2000) (hiw : i < w) (hN : s.length = q * w) (hat : at_ < q * w) (hcap : cap = (q * w - at_ + w - 1) / w)
    (heq : ∀ j, j < at_ → b.getD j 0 = s.getD j 0)
    (hD : D.length = w) (hB : B.length = w) (r1 : rd_L1 D (i : Int) = rs) (r2 : rd_L1 B (i : Int) = rb) (hl1 : rs.length = q) (hl2 : rb.length = q)
    (v1 : ∀ j : Nat, j < q → rd rs (j : Int) = s.getD (j * w + i) 0) (v2 : ∀ j : Nat, j < q → rd rb (j : Int) = b.getD (j * w + i) 0)
    (next : Ev (fun k => blackboardlaw6_WeavePlaces.l1 k s (w : Int) D B (cap : Int) ((i + 1 : Nat) : Int)) true) :
    ∀ (e j n : Nat), j + e = q → n ≤ j - (at_ - i + (w - 1)) / w → Ev (fun k => blackboardlaw6_WeavePlaces.l2 k s (w : Int) D B (cap : Int) (i : Int) (n : Int) (j : Int)) true := by
  have hqw : q * w ≤ 2000 * 4 := Nat.mul_le_mul hq h4
  have hi2 : (i : Int) < (D.length : Int) := by omega
  have hi3 : (i : Int) < (B.length : Int) := by omega
  have hi4 : 0 ≤ (i : Int) := by omega
  intro e
  induction e with
  | zero =>
    intro j n hj hn
    have g4 : ¬ ((j : Int) < (rs.length : Int)) := by omega
    have hce := count_end w q at_ i h1 h4 hiw hat
    have hjq : j = q := by omega
    rw [hjq] at hn
    have g5 : ¬ ((n : Int) > (cap : Int)) := by omega
    refine Ev.one ?_
    simp only [l2_end _ s (w : Int) D B (cap : Int) (i : Int) (n : Int) (j : Int) ((i + 1 : Nat) : Int) rs hi4 hi2 r1 g4 g5 (wn1 (show i ≤ 1000000000000000 by omega))]
    exact next
  | succ e ihe =>
    intro j n hj hn
    have hjq : j < q := by omega
    have hlt := at_lt w q i j h1 h4 hiw hjq
    have hjw : j * w ≤ q * w := Nat.mul_le_mul_right _ (by omega)
    have g4 : ((j : Int) < (rs.length : Int)) := by omega
    have g4b : ((j : Int) < (rb.length : Int)) := by omega
    have g5 : 0 ≤ (j : Int) := by omega
    have e1 := place_at w q i j hlt hjw hqw
    have hc := count_step w q at_ i j h1 h4 hiw
    have hv1 := v1 j hjq
    have hv2 := v2 j hjq
    have hq1 := heq (j * w + i)
    generalize j * w + i = pos at hlt e1 hc hv1 hv2 hq1
    have g6 : 0 ≤ (pos : Int) := Int.natCast_nonneg _
    have g7 : (pos : Int) < (s.length : Int) := by rw [hN]; exact Int.ofNat_lt.mpr hlt
    have hz := stepn pos at_ j n ((at_ - i + (w - 1)) / w) hn hc
    have v3 : rd s (pos : Int) = s.getD pos 0 := rdn _ _
    refine Ev.one ?_
    simp only [l2_step _ s (w : Int) D B (cap : Int) (i : Int) (n : Int) (j : Int) (pos : Int) ((j + 1 : Nat) : Int) rs rb (s.getD pos 0) (b.getD pos 0) hi4 hi2 hi3 r1 r2 g4 g4b g5 e1 g6 g7 hv1 hv2 v3 (wn1 (show j ≤ 1000000000000000 by omega))]
    have hj1 : j + 1 + e = q := by rw [← hj, Nat.add_assoc, Nat.add_comm 1 e]
    by_cases c : s.getD pos 0 = b.getD pos 0
    · simp only [if_pos c]
      exact ihe (j + 1) n hj1 hz.1
    · have c2 : at_ ≤ pos := Nat.le_of_not_lt fun h => c (hq1 h).symm
      have hn9 : n ≤ 1000000000000000 := Nat.le_trans (Nat.le_trans hn (Nat.sub_le _ _)) (Nat.le_trans (Nat.le_of_lt hjq) (Nat.le_trans hq (by decide)))
      simp only [if_neg c, wn1 hn9]
      exact ihe (j + 1) (n + 1) hj1 (hz.2 c2)

set_option maxHeartbeats 2000000 in
theorem places_l1 (w q at_ : Nat) (s b : List Int) (h1 : 1 ≤ w) (h4 : w ≤ 4) (hN : s.length = q * w) (hbN : b.length = q * w) (hq : q ≤ 2000) (hat : at_ < q * w) (heq : ∀ j, j < at_ → b.getD j 0 = s.getD j 0) : ∀ (d i : Nat), i + d = w →
    Ev (fun k => blackboardlaw6_WeavePlaces.l1 k s (w : Int) (deal w s s.length) (deal w b b.length) (((q * w - at_ + w - 1) / w : Nat) : Int) (i : Int)) true := by
  intro d
  induction d with
  | zero =>
    intro i hi
    have c1 : ¬ ((i : Int) < (w : Int)) := by omega
    refine Ev.one ?_
    simp only [blackboardlaw6_WeavePlaces.l1, if_neg c1]
    exact Ev.now _
  | succ d ih =>
    intro i hi
    have c1 : ((i : Int) < (w : Int)) := by omega
    have hiw : i < w := by omega
    refine Ev.one ?_
    simp only [blackboardlaw6_WeavePlaces.l1, if_pos c1]
    have r1 : rd_L1 (deal w s s.length) (i : Int) = pick w s i (q * w) := by rw [rdL, deal_get w s _ i hiw, hN]
    have r2 : rd_L1 (deal w b b.length) (i : Int) = pick w b i (q * w) := by rw [rdL, deal_get w b _ i hiw, hbN]
    have hl1 : (pick w s i (q * w)).length = q := by rw [pick_length]; exact rows_len w q i h1 h4 hiw
    have hl2 : (pick w b i (q * w)).length = q := by rw [pick_length]; exact rows_len w q i h1 h4 hiw
    have hp : ∀ (z : List Int) (j : Nat), j < q → rd (pick w z i (q * w)) (j : Int) = z.getD (j * w + i) 0 := fun z j hj => by
      rw [rdn]
      exact pick_get w z i (q * w) j (by rw [rows_len w q i h1 h4 hiw]; exact hj)
    exact places_in w q at_ i s b (deal w s s.length) (deal w b b.length) ((q * w - at_ + w - 1) / w) _ _ h1 h4 hq hiw hN hat rfl heq (deal_length ..) (deal_length ..) r1 r2 hl1 hl2 (hp s) (hp b) (ih (i + 1) (by omega)) q 0 0 (by omega) (by omega)

set_option maxHeartbeats 2000000 in
theorem places_l0 (w q at_ : Nat) (s : List Int) (h1 : 1 ≤ w) (h4 : w ≤ 4) (hN : s.length = q * w) (hq : q ≤ 2000) (hat : at_ < q * w) : ∀ (d i : Nat) (b : List Int), i + d = q * w → at_ ≤ i → b.length = q * w → (∀ j, j < at_ → b.getD j 0 = s.getD j 0) →
    Ev (fun k => blackboardlaw6_WeavePlaces.l0 k s (w : Int) (deal w s s.length) 0 b (at_ : Int) (i : Int)) true := by
  have hqw : q * w ≤ 2000 * 4 := Nat.mul_le_mul hq h4
  intro d
  induction d with
  | zero =>
    intro i b hi hai hb heq
    have c1 : ¬ ((i : Int) < (s.length : Int)) := by omega
    refine Ev.one ?_
    simp only [blackboardlaw6_WeavePlaces.l0, if_neg c1]
    have hin := in_is (w : Int) b (by omega)
    have hodd : ¬ (b.length = 0 ∨ (b.length : Int) % (w : Int) ≠ 0) := by
      rintro (h | h)
      · omega
      · apply h; rw [hb, Int.natCast_mul, Int.mul_emod_left]
    rw [inOf_good (by omega) hodd, Int.toNat_natCast] at hin
    refine Ev.bind hin ?_
    have c2 : ((deal w s s.length).length : Int) = (w : Int) := by rw [deal_length]
    have c3 : (((deal w b b.length).length : Int) != (w : Int)) = false := by rw [deal_length]; simp
    simp only [if_true, if_pos c2, c3]
    refine Ev.one ?_
    have c4 : wrap64 ((s.length : Int) - (at_ : Int)) = ((q * w - at_ : Nat) : Int) := by rw [w64 (by omega) (by omega)]; omega
    have c5 := burst_in (w : Int) (at_ : Int) ((q * w - at_ : Nat) : Int) (by omega) (by omega) (by omega) (by omega) (by omega)
    have c6 : (((q * w - at_ : Nat) : Int) + (w : Int) - 1) / (w : Int) = (((q * w - at_ + w - 1) / w : Nat) : Int) := by
      rw [Int.natCast_ediv]; congr 1; omega
    rw [c6] at c5
    simp only [blackboardlaw6_WeavePlaces.j2, Bool.false_eq_true, if_false, c4, c5, Option.bind_some]
    exact places_l1 w q at_ s b h1 h4 hN hb hq hat heq w 0 (by omega)
  | succ d ih =>
    intro i b hi hai hb heq
    have c1 : ((i : Int) < (s.length : Int)) := by omega
    have c2 : 0 ≤ (i : Int) := by omega
    have c3 : ((i : Int) < (b.length : Int)) := by omega
    refine Ev.one ?_
    simp only [blackboardlaw6_WeavePlaces.l0, if_pos c1, if_pos c2, if_pos c3, wn1 (show i ≤ 1000000000000000 by omega)]
    refine ih (i + 1) _ (by omega) (by omega) (by simpa using hb) fun j hj => ?_
    rw [Int.toNat_natCast, List.getD_eq_getElem?_getD, List.getElem?_set_ne (by omega), ← List.getD_eq_getElem?_getD]
    exact heq j hj
set_option maxHeartbeats 2000000 in
theorem WeavePlaces (a : Int) (l : List Int) (f : Int) (ha : (Lit.int .u8 a).wf = true) (hf : (Lit.int .u16 f).wf = true) : ∃ k, blackboardlaw6_WeavePlaces.f k a l f = some true := by
  have ha := bounds_u8 ha
  have hf := bounds_u16 hf
  refine Ev.rounds ?_
  unfold blackboardlaw6_WeavePlaces.f
  refine Ev.bind awake6 ?_
  simp only [if_true]
  have e1 : wrap64 (1 + Int.tmod (wrap64 a) 4) = (((1 + a % 4).toNat : Nat) : Int) := by
    rw [w64 (x := a) (by omega) (by omega), Int.tmod_eq_emod_of_nonneg (by omega), w64 (by omega) (by omega)]; omega
  rw [e1]
  have h1 : 1 ≤ (1 + a % 4).toNat := by omega
  have h4 : (1 + a % 4).toNat ≤ 4 := by omega
  generalize (1 + a % 4).toNat = w at *
  have far : Ev (fun k => blackboardlaw6_WeavePlaces.j0 k l f (w : Int) true) true := by
    refine Ev.one ?_
    simp only [blackboardlaw6_WeavePlaces.j0, if_true]; exact Ev.now _
  by_cases c0 : (l.length : Int) = 0
  · simp only [if_pos c0]; exact far
  · simp only [if_neg c0]
    by_cases c1 : (l.length : Int) > 2000
    · rw [decide_eq_true c1]; exact far
    · rw [decide_eq_false c1]
      refine Ev.one ?_
      have hdm : l.length / w * w ≤ l.length := Nat.div_mul_le_self _ _
      have hdl : l.length / w ≤ l.length := Nat.div_le_self _ _
      have e2 : wrap64 (wrap64 ((l.length : Int) / (w : Int)) * (w : Int)) = ((l.length / w * w : Nat) : Int) := by
        have hx : (l.length : Int) / (w : Int) = ((l.length / w : Nat) : Int) := by rw [Int.natCast_ediv]
        rw [hx]
        clear hx
        generalize l.length / w = q at hdm hdl ⊢
        rw [w64 (x := (q : Int)) (by omega) (by omega), ← Int.natCast_mul]
        generalize q * w = y at hdm ⊢
        rw [w64 (x := (y : Int)) (by omega) (by omega)]
      have c2 : ¬ (w : Int) = 0 := by omega
      have c3 : 0 ≤ ((l.length / w * w : Nat) : Int) := by omega
      have c4 : ((l.length / w * w : Nat) : Int) ≤ (l.length : Int) := by omega
      simp only [blackboardlaw6_WeavePlaces.j0, Bool.false_eq_true, if_false, if_neg c2, e2, if_pos c3, if_pos c4, Int.toNat_natCast, Option.bind_some, List.nil_append, List.length_nil]
      have hN : (l.take (l.length / w * w)).length = l.length / w * w := by rw [List.length_take]; omega
      generalize l.take (l.length / w * w) = s at *
      generalize l.length / w = q at *
      by_cases c5 : (s.length : Int) = 0
      · simp only [c5, if_true]; exact Ev.now _
      · have c6 : 0 + s.length < 70368744177664 := by omega
        simp only [c5, if_false, if_pos c6]
        have hin := in_is (w : Int) s (by omega)
        have hodd : ¬ (s.length = 0 ∨ (s.length : Int) % (w : Int) ≠ 0) := by
          rintro (h | h)
          · omega
          · apply h; rw [hN, Int.natCast_mul, Int.mul_emod_left]
        rw [inOf_good (by omega) hodd, Int.toNat_natCast] at hin
        refine Ev.bind hin ?_
        have e3 : Int.tmod (wrap64 f) (s.length : Int) = (((f % (s.length : Int)).toNat : Nat) : Int) := by
          rw [w64 (by omega) (by omega), Int.tmod_eq_emod_of_nonneg (by omega)]
          have := Int.emod_nonneg f (b := (s.length : Int)) (by omega)
          omega
        have hm := Int.emod_lt_of_pos f (b := (s.length : Int)) (by omega)
        have hm0 := Int.emod_nonneg f (b := (s.length : Int)) (by omega)
        rw [e3]
        generalize hat : (f % (s.length : Int)).toNat = at_
        exact places_l0 w q at_ s h1 h4 hN (by omega) (by omega) (q * w - at_) at_ s (by omega) (Nat.le_refl _) hN (fun _ _ => rfl)
end Go.Proofs.Ytghjenmocndlgaa.L6
namespace Go.Proofs.Ytghjenmocndlgaa.Pure
open Go.Proofs.Ytghjenmocndlgaa.M
theorem WeavePlaces : blackboardlaw6_WeavePlaces.Pure := fun a l f ha _ _ _ hf => L6.WeavePlaces a l f ha hf
end Go.Proofs.Ytghjenmocndlgaa.Pure
