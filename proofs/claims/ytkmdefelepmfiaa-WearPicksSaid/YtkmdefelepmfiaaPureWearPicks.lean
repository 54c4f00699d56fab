/- The law WearPicks of the seat, over its printed functions: the program picks whom the document picks, the victim likewise, and the gap is the most less the least. -/
import Derived.Test.YtkmdefelepmfiaaB
import Derived.Test.YtkmdefelepmfiaaMx4
set_option linter.unusedVariables false
set_option linter.unusedSimpArgs false
namespace Go.Proofs.Ytkmdefelepmfiaa.Pure
open Go.RowKit Go.Proofs.Ytkmdefelepmfiaa.M Go.Proofs.YtkmdefelepmfiaaW.PrintWords Go.Proofs.YtkmdefelepmfiaaW.PrintLast

def encR : Option Nat → Int
  | none => -1
  | some b => (b : Int)
theorem encR_out (o : Option Nat) : (mx (encR o) 0, decide (encR o ≥ 0)) = pr o := by
  cases o with
  | none => rfl
  | some b =>
    have h : ¬ ((b : Int) < 0) := by omega
    have h2 : (b : Int) ≥ 0 := by omega
    show (mx (b : Int) 0, decide ((b : Int) ≥ 0)) = ((b : Int), true)
    unfold mx
    rw [if_neg h, decide_eq_true h2]
theorem sel_skip {ok : Nat → Bool} {lt : Nat → Nat → Bool} {i : Nat} (h : ok i = false) : sel ok lt (i + 1) = sel ok lt i := by
  rw [sel]; cases sel ok lt i <;> simp [h]
theorem okV_off (v e : List Int) (may : List Bool) (i : Nat) (h : ¬ (i < may.length ∧ i < e.length ∧ i < v.length)) (j : Nat) (hj : i ≤ j) : okV v e may j = false := by
  cases hh : okV v e may j with
  | false => rfl
  | true => simp [okV] at hh; exact absurd ⟨by omega, by omega, by omega⟩ h
theorem refV_out (v e : List Int) (may : List Bool) (i : Nat) (hi : i ≤ may.length) (h : ¬ (i < may.length ∧ i < e.length ∧ i < v.length)) :
    Ev (fun k => blackboardref15_Victim.j1 k v e may (encR (sel (okV v e may) (ltV v e) i)) (i : Int) false) (pr (sel (okV v e may) (ltV v e) may.length)) := by
  refine Ev.one ?_
  simp only [blackboardref15_Victim.j1, Bool.false_eq_true, if_false]
  have := sel_stay (ok := okV v e may) (lt := ltV v e) i (may.length - i) (okV_off v e may i h)
  rw [show i + (may.length - i) = may.length from by omega] at this
  rw [encR_out, ← this]
  exact Ev.now _
theorem refV_loop (v e : List Int) (may : List Bool) (hL : may.length ≤ 140737488351232) : ∀ d i, i + d = may.length →
    Ev (fun k => blackboardref15_Victim.l0 k v e may (encR (sel (okV v e may) (ltV v e) i)) (i : Int)) (pr (sel (okV v e may) (ltV v e) may.length)) := by
  intro d
  induction d with
  | zero =>
    intro i hi
    obtain rfl : i = may.length := by omega
    refine Ev.one ?_
    have h1 : ¬ ((may.length : Int) < (may.length : Int)) := by omega
    simp only [blackboardref15_Victim.l0, if_neg h1]
    exact refV_out v e may may.length (Nat.le_refl _) (by omega)
  | succ d ih =>
    intro i hi
    have ih' := ih (i + 1) (by omega)
    have hw : wrap64 ((i : Int) + 1) = ((i + 1 : Nat) : Int) := by rw [w64 (by omega) (by omega)]; rfl
    have h1 : ((i : Int) < (may.length : Int)) := by omega
    have h0 : 0 ≤ (i : Int) := by omega
    refine Ev.one ?_
    simp only [blackboardref15_Victim.l0, if_pos h1]
    by_cases ce : i < e.length
    · have h2 : (i : Int) < (e.length : Int) := by omega
      simp only [if_pos h2]
      by_cases cv : i < v.length
      · have h3 : (i : Int) < (v.length : Int) := by omega
        have h4 : decide ((i : Int) < (v.length : Int)) = true := decide_eq_true h3
        rw [h4]
        refine Ev.one ?_
        have hr : rdOf false may (i : Int) = may.getD i false := rfl
        simp only [blackboardref15_Victim.j1, if_true, if_pos h0, if_pos h1, hr, hw]
        have hokm : okV v e may i = may.getD i false := by
          unfold okV; rw [decide_eq_true (show i < may.length by omega), decide_eq_true cv, decide_eq_true ce]; simp only [Bool.true_and]
        cases hm : may.getD i false with
        | false =>
          have hs : sel (okV v e may) (ltV v e) (i + 1) = sel (okV v e may) (ltV v e) i := sel_skip (hokm.trans hm)
          rw [hs] at ih'
          simpa using ih'
        | true =>
          rw [hm] at hokm
          simp only [if_true]
          cases hs : sel (okV v e may) (ltV v e) i with
          | none =>
            have hs2 : sel (okV v e may) (ltV v e) (i + 1) = some i := by rw [sel, hs]; simp [hokm]
            rw [hs2] at ih'
            have h5 : encR none < 0 := by decide
            simp only [if_pos h5]
            exact ih'
          | some b =>
            have hb := sel_lt hs
            have hbb := hb.2
            simp [okV] at hbb
            have h5 : ¬ ((b : Int) < 0) := by omega
            have h6 : 0 ≤ (b : Int) := by omega
            have h7 : (b : Int) < (v.length : Int) := by omega
            have h8 : (b : Int) < (e.length : Int) := by omega
            rw [show encR (some b) = (b : Int) from rfl]
            simp only [if_neg h5, if_pos h3, if_pos h6, if_pos h7]
            have r1 : rd v (i : Int) = v.getD i 0 := rfl
            have r2 : rd v (b : Int) = v.getD b 0 := rfl
            have r3 : rd e (i : Int) = e.getD i 0 := rfl
            have r4 : rd e (b : Int) = e.getD b 0 := rfl
            simp only [r1, r2, r3, r4]
            by_cases c1 : v.getD i 0 < v.getD b 0
            · have hl : ltV v e i b = true := by unfold ltV; exact decide_eq_true (.inl c1)
              have hs2 : sel (okV v e may) (ltV v e) (i + 1) = some i := by rw [sel, hs]; simp [hokm, hl]
              rw [hs2] at ih'
              simp only [if_pos c1]
              exact ih'
            · simp only [if_neg c1]
              by_cases c2 : v.getD i 0 = v.getD b 0
              · simp only [if_pos c2, if_pos h2, if_pos h8]
                by_cases c3 : e.getD i 0 < e.getD b 0
                · have hl : ltV v e i b = true := by unfold ltV; exact decide_eq_true (.inr ⟨c2, c3⟩)
                  have hs2 : sel (okV v e may) (ltV v e) (i + 1) = some i := by rw [sel, hs]; simp [hokm, hl]
                  rw [hs2] at ih'
                  simp only [if_pos c3]
                  exact ih'
                · have hl : ltV v e i b = false := by unfold ltV; exact decide_eq_false (by rintro (h | ⟨_, h⟩) <;> contradiction)
                  have hs2 : sel (okV v e may) (ltV v e) (i + 1) = some b := by rw [sel, hs]; simp [hokm, hl]
                  rw [hs2] at ih'
                  simp only [if_neg c3]
                  exact ih'
              · have hl : ltV v e i b = false := by unfold ltV; exact decide_eq_false (by rintro (h | ⟨h, _⟩) <;> contradiction)
                have hs2 : sel (okV v e may) (ltV v e) (i + 1) = some b := by rw [sel, hs]; simp [hokm, hl]
                rw [hs2] at ih'
                simp only [if_neg c2]
                exact ih'
      · have h4 : decide ((i : Int) < (v.length : Int)) = false := decide_eq_false (by omega)
        rw [h4]
        exact refV_out v e may i (by omega) (by omega)
    · have h2 : ¬ (i : Int) < (e.length : Int) := by omega
      simp only [if_neg h2]
      exact refV_out v e may i (by omega) (by omega)
theorem refV_is (v e : List Int) (may : List Bool) (hL : may.length ≤ 140737488351232) : Ev (fun k => blackboardref15_Victim.f k v e may) (pr (sel (okV v e may) (ltV v e) may.length)) := by
  unfold blackboardref15_Victim.f
  exact refV_loop v e may hL may.length 0 (by omega)
theorem refP_is (e : List Int) (may : List Bool) (hE : e.length ≤ 35184372088832) (hL : may.length ≤ 140737488351232) : Ev (fun k => blackboardref15_Pick.f k e may) (pr (sel (okP e may) (ltP e) may.length)) := by
  unfold blackboardref15_Pick.f
  have h1 : 0 ≤ (e.length : Int) := by omega
  have h2 : ((e.length : Int)).toNat ≤ 35184372088832 := by omega
  simp only [if_pos h1, if_pos h2]
  rw [Int.toNat_natCast]
  have hs : sel (okP e may) (ltP e) may.length = sel (okV (List.replicate e.length 0) e may) (ltV (List.replicate e.length 0) e) may.length := by
    refine sel_congr (fun j _ => ?_) (fun a b ha hb => ?_)
    · unfold okP okV
      rw [List.length_replicate]
      cases decide (j < may.length) <;> cases decide (j < e.length) <;> rfl
    · have z : ∀ j, (List.replicate e.length (0 : Int)).getD j 0 = 0 := fun j => by
        rw [List.getD_eq_getElem?_getD]
        by_cases c : j < e.length
        · rw [List.getElem?_eq_getElem (by simpa using c)]; simp
        · rw [List.getElem?_eq_none (by simp; omega)]; rfl
      unfold ltP ltV
      rw [z a, z b]
      simp
  rw [hs]
  exact Ev.bind (refV_is _ e may hL) (Ev.now _)

/-- what the law's own loop keeps -/
def InvG (e : List Int) (may : List Bool) (i : Nat) (lo hi : Int) (first : Bool) : Prop :=
  match sel (okP e may) (ltP e) i with
  | none => first = true ∧ lo = 0 ∧ hi = 0
  | some b => first = false ∧ lo = e.getD b 0 ∧ (∀ j, j < i → okP e may j = true → e.getD j 0 ≤ hi) ∧ ∃ j, j < i ∧ okP e may j = true ∧ hi = e.getD j 0
theorem gap_inv (e : List Int) (may : List Bool) (i : Nat) (hi : i ≤ may.length) (lo h : Int) (first : Bool) (hI : InvG e may i lo h first) (hoff : ∀ j, i ≤ j → okP e may j = false) : gapOf e may = wrap64 (h - lo) := by
  have hs := sel_stay (ok := okP e may) (lt := ltP e) i (may.length - i) hoff
  rw [show i + (may.length - i) = may.length from by omega] at hs
  unfold gapOf
  unfold InvG at hI
  rw [hs]
  cases hb : sel (okP e may) (ltP e) i with
  | none =>
    rw [hb] at hI
    obtain ⟨_, rfl, rfl⟩ := hI
    show (0 : Int) = wrap64 (0 - 0)
    decide +kernel
  | some b =>
    rw [hb] at hI
    obtain ⟨_, rfl, h1, j, hj1, hj2, rfl⟩ := hI
    have hbs := sel_lt hb
    have hb2 := hbs.2
    simp [okP] at hb2
    simp [okP] at hj2
    have hge := top_ge e may (e.getD b 0) e.length
    have his := top_is e may (e.getD b 0) e.length
    have hj3 := hge.2 j (by omega) hj2.1 (by simpa using hj2.2.2)
    have e1 : top e may (e.getD b 0) e.length = e.getD j 0 := by
      rcases his with h2 | ⟨q, hq1, hq2, hq3, hq4⟩
      · rw [h2] at hj3 ⊢
        exact Int.le_antisymm (h1 b hbs.1 hbs.2) hj3
      · have hq : okP e may q = true := by unfold okP; rw [hq3, decide_eq_true hq1, decide_eq_true hq2]; rfl
        have hqi : q < i := by
          by_cases c : q < i
          · exact c
          · rw [hoff q (by omega)] at hq; exact absurd hq (by simp)
        rw [hq4] at hj3 ⊢
        exact Int.le_antisymm (h1 q hqi hq) hj3
    show wrap64 (top e may (e.getD b 0) e.length - e.getD b 0) = _
    rw [e1]
theorem okP_off (e : List Int) (may : List Bool) (i : Nat) (h : ¬ (i < may.length ∧ i < e.length)) (j : Nat) (hj : i ≤ j) : okP e may j = false := by
  cases hh : okP e may j with
  | false => rfl
  | true => simp [okP] at hh; exact absurd ⟨by omega, by omega⟩ h

theorem picks_out (e : List Int) (may : List Bool) (hE : e.length ≤ 140737488351232) (hL : may.length ≤ 140737488351232) (p q : Int × Bool) (i : Nat) (hi : i ≤ may.length) (lo h : Int) (first : Bool) (hI : InvG e may i lo h first)
    (hoff : ¬ (i < may.length ∧ i < e.length)) : Ev (fun k => blackboardlaw13_WearPicks.j2 k e may p.1 p.2 p.1 p.2 q.1 q.2 q.1 q.2 lo h first (i : Int) false) true := by
  refine Ev.one ?_
  have b1 : (p.2 == p.2) = true := by simp
  have b2 : (q.2 == q.2) = true := by simp
  simp only [blackboardlaw13_WearPicks.j2, Bool.false_eq_true, if_false, if_true, b1, b2]
  refine Ev.bind (gap_is e may hE hL) ?_
  rw [gap_inv e may i hi lo h first hI (okP_off e may i hoff)]
  simp only [beq_self_eq_true]
  exact Ev.now _
theorem picks_loop (e : List Int) (may : List Bool) (hE : e.length ≤ 140737488351232) (hL : may.length ≤ 140737488351232) (p q : Int × Bool) : ∀ d i (lo h : Int) (first : Bool), i + d = may.length → InvG e may i lo h first →
    Ev (fun k => blackboardlaw13_WearPicks.l0 k e may p.1 p.2 p.1 p.2 q.1 q.2 q.1 q.2 lo h first (i : Int)) true := by
  intro d
  induction d with
  | zero =>
    intro i lo h first hi hI
    obtain rfl : i = may.length := by omega
    refine Ev.one ?_
    have h1 : ¬ ((may.length : Int) < (may.length : Int)) := by omega
    simp only [blackboardlaw13_WearPicks.l0, if_neg h1]
    exact picks_out e may hE hL p q may.length (Nat.le_refl _) lo h first hI (by omega)
  | succ d ih =>
    intro i lo h first hi hI
    have hw : wrap64 ((i : Int) + 1) = ((i + 1 : Nat) : Int) := by rw [w64 (by omega) (by omega)]; rfl
    have h1 : ((i : Int) < (may.length : Int)) := by omega
    have h0 : 0 ≤ (i : Int) := by omega
    refine Ev.one ?_
    simp only [blackboardlaw13_WearPicks.l0, if_pos h1]
    by_cases ce : i < e.length
    · have h2 : (i : Int) < (e.length : Int) := by omega
      rw [decide_eq_true h2]
      refine Ev.one ?_
      have r3 : rd e (i : Int) = e.getD i 0 := rfl
      have hr : rdOf false may (i : Int) = may.getD i false := rfl
      simp only [blackboardlaw13_WearPicks.j2, if_true, if_pos h0, if_pos h2, r3]
      have b1 : (p.2 == p.2) = true := by simp
      have b2 : (q.2 == q.2) = true := by simp
      have far : Ev (fun k => blackboardlaw13_WearPicks.j3 k e may p.1 p.2 p.1 p.2 q.1 q.2 q.1 q.2 lo h first (i : Int) true) true := by
        refine Ev.one ?_
        simp only [blackboardlaw13_WearPicks.j3, if_true, b1, b2]
        exact Ev.now _
      by_cases c1 : e.getD i 0 < -1099511627776
      · simp only [if_pos c1]; exact far
      · simp only [if_neg c1]
        by_cases c2 : e.getD i 0 > 1099511627776
        · rw [decide_eq_true c2]; exact far
        · rw [decide_eq_false c2]
          refine Ev.one ?_
          simp only [blackboardlaw13_WearPicks.j3, Bool.false_eq_true, if_false, if_pos h0, if_pos h1, if_pos h2, hr, r3, hw]
          have hokm : okP e may i = may.getD i false := by
            unfold okP; rw [decide_eq_true (show i < may.length by omega), decide_eq_true ce]; simp only [Bool.true_and]
          cases hm : may.getD i false with
          | false =>
            have hs : sel (okP e may) (ltP e) (i + 1) = sel (okP e may) (ltP e) i := sel_skip (hokm.trans hm)
            simp only [Bool.false_eq_true, if_false]
            refine ih (i + 1) lo h first (by omega) ?_
            unfold InvG at hI ⊢
            rw [hs]
            cases hb : sel (okP e may) (ltP e) i with
            | none => rw [hb] at hI; exact hI
            | some b =>
              rw [hb] at hI
              obtain ⟨g1, g2, g3, j, g4, g5, g6⟩ := hI
              refine ⟨g1, g2, fun j hj hok => ?_, j, by omega, g5, g6⟩
              by_cases e1 : j = i
              · subst e1; rw [hokm, hm] at hok; exact absurd hok (by simp)
              · exact g3 j (by omega) hok
          | true =>
            rw [hm] at hokm
            simp only [if_true]
            cases first with
            | true =>
              simp only [if_true]
              refine ih (i + 1) _ _ _ (by omega) ?_
              unfold InvG at hI ⊢
              cases hb : sel (okP e may) (ltP e) i with
              | some b => rw [hb] at hI; exact absurd hI.1 (by simp)
              | none =>
                have hs2 : sel (okP e may) (ltP e) (i + 1) = some i := by rw [sel, hb]; simp [hokm]
                rw [hs2]
                have hn := sel_none hb
                have m1 : mn (e.getD i 0) (e.getD i 0) = e.getD i 0 := by unfold mn; split <;> rfl
                have m2 : mx (e.getD i 0) (e.getD i 0) = e.getD i 0 := by unfold mx; split <;> rfl
                rw [m1, m2]
                refine ⟨rfl, rfl, fun j hj hok => ?_, i, by omega, hokm, rfl⟩
                by_cases e1 : j = i
                · subst e1; exact Int.le_refl _
                · rw [hn j (by omega)] at hok; exact absurd hok (by simp)
            | false =>
              simp only [Bool.false_eq_true, if_false]
              refine ih (i + 1) _ _ _ (by omega) ?_
              unfold InvG at hI ⊢
              cases hb : sel (okP e may) (ltP e) i with
              | none => rw [hb] at hI; exact absurd hI.1 (by simp)
              | some b =>
                rw [hb] at hI
                obtain ⟨g1, g2, g3, j, g4, g5, g6⟩ := hI
                have top' : (∀ j, j < i + 1 → okP e may j = true → e.getD j 0 ≤ mx h (e.getD i 0)) ∧ ∃ j, j < i + 1 ∧ okP e may j = true ∧ mx h (e.getD i 0) = e.getD j 0 := by
                  refine ⟨fun j hj hok => ?_, ?_⟩
                  · by_cases e1 : j = i
                    · subst e1; unfold mx; split <;> omega
                    · have := g3 j (by omega) hok; unfold mx; split <;> omega
                  · unfold mx
                    split
                    · exact ⟨i, by omega, hokm, rfl⟩
                    · exact ⟨j, by omega, g5, g6⟩
                cases hl : ltP e i b with
                | true =>
                  have hs2 : sel (okP e may) (ltP e) (i + 1) = some i := by rw [sel, hb]; simp [hokm, hl]
                  rw [hs2]
                  have hl' : e.getD i 0 < e.getD b 0 := by unfold ltP at hl; exact of_decide_eq_true hl
                  refine ⟨rfl, by rw [g2]; unfold mn; rw [if_pos hl'], top'⟩
                | false =>
                  have hs2 : sel (okP e may) (ltP e) (i + 1) = some b := by rw [sel, hb]; simp [hokm, hl]
                  rw [hs2]
                  have hl' : ¬ e.getD i 0 < e.getD b 0 := by unfold ltP at hl; exact of_decide_eq_false hl
                  refine ⟨rfl, by rw [g2]; unfold mn; rw [if_neg hl'], top'⟩
    · have h2 : ¬ (i : Int) < (e.length : Int) := by omega
      rw [decide_eq_false h2]
      exact picks_out e may hE hL p q i (by omega) lo h first hI (by omega)

theorem WearPicks (v e : List Int) (may : List Bool) : ∃ k, blackboardlaw13_WearPicks.f k v e may = some true := by
  refine Ev.rounds ?_
  unfold blackboardlaw13_WearPicks.f
  refine Ev.bind awake13 ?_
  simp only [if_true]
  have far : Ev (fun k => blackboardlaw13_WearPicks.j0 k v e may true) true := by
    refine Ev.one ?_
    simp only [blackboardlaw13_WearPicks.j0, if_true]
    exact Ev.now _
  by_cases c0 : (v.length : Int) > 300
  · simp only [if_pos c0]; exact far
  · simp only [if_neg c0]
    by_cases c1 : (e.length : Int) > 300
    · simp only [if_pos c1]; exact far
    · simp only [if_neg c1]
      by_cases c2 : (may.length : Int) > 300
      · rw [decide_eq_true c2]; exact far
      · rw [decide_eq_false c2]
        refine Ev.one ?_
        simp only [blackboardlaw13_WearPicks.j0, Bool.false_eq_true, if_false]
        refine Ev.bind (pick_is e may (by omega)) (Ev.bind (refP_is e may (by omega) (by omega)) (Ev.bind (victim_is v e may (by omega)) (Ev.bind (refV_is v e may (by omega)) ?_)))
        exact picks_loop e may (by omega) (by omega) _ _ may.length 0 0 0 true (by omega) ⟨rfl, rfl, rfl⟩

theorem WearPicks.walk (A0 : Option Addr) (c0 : Nat) (l0 : List (Int)) (A1 : Option Addr) (c1 : Nat) (l1 : List (Int)) (A2 : Option Addr) (c2 : Nat) (l2 : List (Bool)) (w : World) (r0 : Kd.C (Kd.int .i64) w A0 l0.length l0) (k0 : l0.length ≤ c0) (m0 : l0.length ≤ maxLen) (y0 : l0.length * 8 ≤ 140737488351232) (g0 : ∀ y ∈ l0, (Lit.int .i64 y).wf = true) (r1 : Kd.C (Kd.int .i64) w A1 l1.length l1) (k1 : l1.length ≤ c1) (m1 : l1.length ≤ maxLen) (y1 : l1.length * 8 ≤ 140737488351232) (g1 : ∀ y ∈ l1, (Lit.int .i64 y).wf = true) (r2 : Kd.C Kd.bool w A2 l2.length l2) (k2 : l2.length ≤ c2) (m2 : l2.length ≤ maxLen) (y2 : l2.length * 1 ≤ 140737488351232) (g2 : ∀ y ∈ l2, True) :
    Calls Try.prog 5 #[.slice A0 l0.length c0, .slice A1 l1.length c1, .slice A2 l2.length c2] w fun e w' => e = .returned (.bool true) ∧ Below w.heap.size w w' := by
  obtain ⟨k, h⟩ := WearPicks l0 l1 l2
  exact blackboardlaw13_WearPicks.calls k _ _ l0 _ _ l1 _ _ l2 true w r0 k0 r1 k1 r2 k2 h
end Go.Proofs.Ytkmdefelepmfiaa.Pure
