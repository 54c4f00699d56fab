/- The document's own Pick and Turns answer as the program's; the list of a state, place by place: plain. -/
import Derived.Test.YtfgfjgjabcmheaaF
import Derived.Test.YtfgfjgjabcmheaaWalkWears
import Derived.Test.YtfgfjgjabcmheaaRx
namespace Go.Proofs.Ytfgfjgjabcmheaa.Pure
open Go.RowKit Go.Proofs.Ytfgfjgjabcmheaa.R Go.Proofs.YtfgfjgjabcmheaaW.PrintWords Go.Proofs.YtfgfjgjabcmheaaW.PrintLast
set_option linter.unusedVariables false
set_option linter.unusedSimpArgs false
def encR : Option Nat → Int
  | none => -1
  | some b => (b : Int)
theorem encR_out (o : Option Nat) : (mx (encR o) 0, decide (encR o ≥ 0)) = pr o := by
  cases o with
  | none => rfl
  | some b =>
    have h : ¬ ((b : Int) < 0) := by omega
    have h2 : (b : Int) ≥ 0 := by omega
    show (mx (b : Int) 0, decide ((b : Int) ≥ 0)) = ((b : Int), true)
    unfold mx
    rw [if_neg h, decide_eq_true h2]
theorem sel_skip {ok : Nat → Bool} {lt : Nat → Nat → Bool} {i : Nat} (h : ok i = false) : sel ok lt (i + 1) = sel ok lt i := by
  rw [sel]; cases sel ok lt i <;> simp [h]
theorem okV_off (v e : List Int) (may : List Bool) (i : Nat) (h : ¬ (i < may.length ∧ i < e.length ∧ i < v.length)) (j : Nat) (hj : i ≤ j) : okV v e may j = false := by
  cases hh : okV v e may j with
  | false => rfl
  | true => simp [okV] at hh; exact absurd ⟨by omega, by omega, by omega⟩ h
theorem refV_out (v e : List Int) (may : List Bool) (i : Nat) (hi : i ≤ may.length) (h : ¬ (i < may.length ∧ i < e.length ∧ i < v.length)) :
    Ev (fun k => blackboardref15_Victim.j1 k v e may (encR (sel (okV v e may) (ltV v e) i)) (i : Int) false) (pr (sel (okV v e may) (ltV v e) may.length)) := by
  refine Ev.one ?_
  simp only [blackboardref15_Victim.j1, Bool.false_eq_true, if_false]
  have := sel_stay (ok := okV v e may) (lt := ltV v e) i (may.length - i) (okV_off v e may i h)
  rw [show i + (may.length - i) = may.length from by omega] at this
  rw [encR_out, ← this]
  exact Ev.now _
theorem refV_loop (v e : List Int) (may : List Bool) (hL : may.length ≤ 140737488351232) : ∀ d i, i + d = may.length →
    Ev (fun k => blackboardref15_Victim.l0 k v e may (encR (sel (okV v e may) (ltV v e) i)) (i : Int)) (pr (sel (okV v e may) (ltV v e) may.length)) := by
  intro d
  induction d with
  | zero =>
    intro i hi
    obtain rfl : i = may.length := by omega
    refine Ev.one ?_
    have h1 : ¬ ((may.length : Int) < (may.length : Int)) := by omega
    simp only [blackboardref15_Victim.l0, if_neg h1]
    exact refV_out v e may may.length (Nat.le_refl _) (by omega)
  | succ d ih =>
    intro i hi
    have ih' := ih (i + 1) (by omega)
    have hw : wrap64 ((i : Int) + 1) = ((i + 1 : Nat) : Int) := by rw [w64 (by omega) (by omega)]; rfl
    have h1 : ((i : Int) < (may.length : Int)) := by omega
    have h0 : 0 ≤ (i : Int) := by omega
    refine Ev.one ?_
    simp only [blackboardref15_Victim.l0, if_pos h1]
    by_cases ce : i < e.length
    · have h2 : (i : Int) < (e.length : Int) := by omega
      simp only [if_pos h2]
      by_cases cv : i < v.length
      · have h3 : (i : Int) < (v.length : Int) := by omega
        have h4 : decide ((i : Int) < (v.length : Int)) = true := decide_eq_true h3
        rw [h4]
        refine Ev.one ?_
        have hr : rdOf false may (i : Int) = may.getD i false := rfl
        simp only [blackboardref15_Victim.j1, if_true, if_pos h0, if_pos h1, hr, hw]
        have hokm : okV v e may i = may.getD i false := by
          unfold okV; rw [decide_eq_true (show i < may.length by omega), decide_eq_true cv, decide_eq_true ce]; simp only [Bool.true_and]
        cases hm : may.getD i false with
        | false =>
          have hs : sel (okV v e may) (ltV v e) (i + 1) = sel (okV v e may) (ltV v e) i := sel_skip (hokm.trans hm)
          rw [hs] at ih'
          simpa using ih'
        | true =>
          rw [hm] at hokm
          simp only [if_true]
          cases hs : sel (okV v e may) (ltV v e) i with
          | none =>
            have hs2 : sel (okV v e may) (ltV v e) (i + 1) = some i := by rw [sel, hs]; simp [hokm]
            rw [hs2] at ih'
            have h5 : encR none < 0 := by decide
            simp only [if_pos h5]
            exact ih'
          | some b =>
            have hb := sel_lt hs
            have hbb := hb.2
            simp [okV] at hbb
            have h5 : ¬ ((b : Int) < 0) := by omega
            have h6 : 0 ≤ (b : Int) := by omega
            have h7 : (b : Int) < (v.length : Int) := by omega
            have h8 : (b : Int) < (e.length : Int) := by omega
            rw [show encR (some b) = (b : Int) from rfl]
            simp only [if_neg h5, if_pos h3, if_pos h6, if_pos h7]
            have r1 : rd v (i : Int) = v.getD i 0 := rfl
            have r2 : rd v (b : Int) = v.getD b 0 := rfl
            have r3 : rd e (i : Int) = e.getD i 0 := rfl
            have r4 : rd e (b : Int) = e.getD b 0 := rfl
            simp only [r1, r2, r3, r4]
            by_cases c1 : v.getD i 0 < v.getD b 0
            · have hl : ltV v e i b = true := by unfold ltV; exact decide_eq_true (.inl c1)
              have hs2 : sel (okV v e may) (ltV v e) (i + 1) = some i := by rw [sel, hs]; simp [hokm, hl]
              rw [hs2] at ih'
              simp only [if_pos c1]
              exact ih'
            · simp only [if_neg c1]
              by_cases c2 : v.getD i 0 = v.getD b 0
              · simp only [if_pos c2, if_pos h2, if_pos h8]
                by_cases c3 : e.getD i 0 < e.getD b 0
                · have hl : ltV v e i b = true := by unfold ltV; exact decide_eq_true (.inr ⟨c2, c3⟩)
                  have hs2 : sel (okV v e may) (ltV v e) (i + 1) = some i := by rw [sel, hs]; simp [hokm, hl]
                  rw [hs2] at ih'
                  simp only [if_pos c3]
                  exact ih'
                · have hl : ltV v e i b = false := by unfold ltV; exact decide_eq_false (by rintro (h | ⟨_, h⟩) <;> contradiction)
                  have hs2 : sel (okV v e may) (ltV v e) (i + 1) = some b := by rw [sel, hs]; simp [hokm, hl]
                  rw [hs2] at ih'
                  simp only [if_neg c3]
                  exact ih'
              · have hl : ltV v e i b = false := by unfold ltV; exact decide_eq_false (by rintro (h | ⟨h, _⟩) <;> contradiction)
                have hs2 : sel (okV v e may) (ltV v e) (i + 1) = some b := by rw [sel, hs]; simp [hokm, hl]
                rw [hs2] at ih'
                simp only [if_neg c2]
                exact ih'
      · have h4 : decide ((i : Int) < (v.length : Int)) = false := decide_eq_false (by omega)
        rw [h4]
        exact refV_out v e may i (by omega) (by omega)
    · have h2 : ¬ (i : Int) < (e.length : Int) := by omega
      simp only [if_neg h2]
      exact refV_out v e may i (by omega) (by omega)
theorem refV_is (v e : List Int) (may : List Bool) (hL : may.length ≤ 140737488351232) : Ev (fun k => blackboardref15_Victim.f k v e may) (pr (sel (okV v e may) (ltV v e) may.length)) := by
  unfold blackboardref15_Victim.f
  exact refV_loop v e may hL may.length 0 (by omega)
theorem refP_is (e : List Int) (may : List Bool) (hE : e.length ≤ 35184372088832) (hL : may.length ≤ 140737488351232) : Ev (fun k => blackboardref15_Pick.f k e may) (pr (sel (okP e may) (ltP e) may.length)) := by
  unfold blackboardref15_Pick.f
  have h1 : 0 ≤ (e.length : Int) := by omega
  have h2 : ((e.length : Int)).toNat ≤ 35184372088832 := by omega
  simp only [if_pos h1, if_pos h2]
  rw [Int.toNat_natCast]
  have hs : sel (okP e may) (ltP e) may.length = sel (okV (List.replicate e.length 0) e may) (ltV (List.replicate e.length 0) e) may.length := by
    refine sel_congr (fun j _ => ?_) (fun a b ha hb => ?_)
    · unfold okP okV
      rw [List.length_replicate]
      cases decide (j < may.length) <;> cases decide (j < e.length) <;> rfl
    · have z : ∀ j, (List.replicate e.length (0 : Int)).getD j 0 = 0 := fun j => by
        rw [List.getD_eq_getElem?_getD]
        by_cases c : j < e.length
        · rw [List.getElem?_eq_getElem (by simpa using c)]; simp
        · rw [List.getElem?_eq_none (by simp; omega)]; rfl
      unfold ltP ltV
      rw [z a, z b]
      simp
  rw [hs]
  exact Ev.bind (refV_is _ e may hL) (Ev.now _)
end Go.Proofs.Ytfgfjgjabcmheaa.Pure
namespace Go.Proofs.Ytfgfjgjabcmheaa.M
open Go.RowKit Go.Proofs.YtfgfjgjabcmheaaW.PrintWords Go.Proofs.YtfgfjgjabcmheaaW.PrintLast Go.Proofs.YtfgfjgjabcmheaaW.PrintMore Go.Proofs.Ytfgfjgjabcmheaa.Rw
theorem Row.C {k : IntKind} {t : TypeId} {W : World} {q : Nat} {xs : List Int} (h : Row (Value.int k) t W q xs) (hm : xs.length ≤ 9223372036854775807) : Kd.C (Kd.int k) W (some ⟨q, 0, none⟩) xs.length xs := by
  have := row_of_block (base := 0) (ok := fun _ => True) h (Nat.zero_le _) hm trivial
  exact (Kd.R_reads' this).2.2
theorem Row.Cb {t : TypeId} {W : World} {q : Nat} {xs : List Bool} (h : Row Value.bool t W q xs) (hm : xs.length ≤ 9223372036854775807) : Kd.C Kd.bool W (some ⟨q, 0, none⟩) xs.length xs := by
  have : Kd.R Kd.bool t W 0 (fun _ => True) (.slice (some ⟨q, 0, none⟩) xs.length xs.length) xs := by
    refine Kd.R_of_own ⟨by simp [encs], .inr ⟨q, xs.length, _, rfl, Nat.zero_le _, h, Nat.le_refl _, hm, by simp, ?_⟩⟩ (fun k' hk => trivial)
    simp only [encs]; exact List.take_of_length_le (by simp)
  exact (Kd.R_reads' this).2.2
theorem refPick_calls (s e : List Int) (p : Int) (ok : Bool) (he : e.length = s.length) (hl : s.length ≤ 64) (hp : pickP (s, e) = (p, ok)) {q0 q1 : Nat} {w : World} (h0 : Row (Value.int .i64) 3 w q0 e) (h1 : Row Value.bool 4 w q1 (whichP s 1)) :
    Calls Try.prog 17 #[.slice (some ⟨q0, 0, none⟩) e.length e.length, .slice (some ⟨q1, 0, none⟩) (whichP s 1).length (whichP s 1).length] w fun e' w' => e' = .returned (.tuple #[.int .i64 p, .bool ok]) ∧ Below w.heap.size w w' := by
  obtain ⟨K, hK⟩ := Pure.refP_is e (whichP s 1) (by omega) (by simp [whichP]; omega)
  have := hK K (Nat.le_refl _)
  have hk : R.blackboardref15_Pick.f K e (whichP s 1) = some (p, ok) := this.trans (congrArg some hp)
  exact R.blackboardref15_Pick.calls K (some ⟨q0, 0, none⟩) e.length e (some ⟨q1, 0, none⟩) (whichP s 1).length (whichP s 1) p ok w (Row.C h0 (by omega)) (Nat.le_refl _) (Row.Cb h1 (by simp [whichP]; omega)) (Nat.le_refl _) hk
theorem turns_calls (a t : Int) (ha : a = 1 ∨ a = 2 ∨ a = 3 ∨ a = 4) (w : World) : Calls Try.prog 15 #[.int .i64 a, .int .i64 t] w fun e w' => e = .returned (.bool (mayB a t)) ∧ Drawn0 w w' := by
  refine R.blackboardref15_Turns.calls a t (mayB a t) w ?_
  unfold R.blackboardref15_Turns.f mayB
  rcases ha with rfl | rfl | rfl | rfl <;> by_cases h2 : t = 2 <;> by_cases h3 : t = 3 <;> by_cases h1 : t = 1 <;> by_cases h4 : t = 4 <;> simp_all
/-- how many of the first b are such -/
def cntB (s : List Int) (v : Int) (b : Nat) : Nat := ((List.range b).filter (fun i : Nat => rd s (i : Int) == v)).length
theorem cntB_succ (s : List Int) (v : Int) (b : Nat) : cntB s v (b + 1) = cntB s v b + if rd s (b : Int) == v then 1 else 0 := by
  unfold cntB
  rw [List.range_succ, List.filter_append, List.length_append]
  cases h : rd s (b : Int) == v <;> simp [h]
theorem cntB_all (s : List Int) (v : Int) : cntB s v s.length = (lstP s v).length := by simp [cntB, lstP]
theorem cntB_le (s : List Int) (v : Int) (b : Nat) : cntB s v b ≤ b := by unfold cntB; exact Nat.le_trans (List.length_filter_le _ _) (by simp)
theorem lst_at (s : List Int) (v : Int) (b : Nat) (hb : b < s.length) (hv : (rd s (b : Int) == v) = true) : cntB s v b < (lstP s v).length ∧ (lstP s v).getD (cntB s v b) 0 = (b : Int) := by
  have hr : List.range s.length = List.range b ++ b :: (List.range (s.length - (b + 1))).map (fun x => x + (b + 1)) := by
    apply List.ext_getElem
    · simp; omega
    · intro n h1 h2
      simp only [List.getElem_range]
      rcases Nat.lt_trichotomy n b with h | h | h
      · rw [List.getElem_append_left (by simpa using h)]; simp
      · subst h; rw [List.getElem_append_right (by simp)]; simp
      · rw [List.getElem_append_right (by simp; omega)]
        obtain ⟨m, rfl⟩ : ∃ m, n = b + 1 + m := ⟨n - (b + 1), by omega⟩
        simp [show b + 1 + m - b = m + 1 from by omega]; omega
  have hl : lstP s v = (((List.range b).filter (fun i : Nat => rd s (i : Int) == v)).map Int.ofNat) ++ (b : Int) :: ((((List.range (s.length - (b + 1))).map (fun x => x + (b + 1))).filter (fun i : Nat => rd s (i : Int) == v)).map Int.ofNat) := by
    unfold lstP
    rw [hr, List.filter_append, List.filter_cons, if_pos hv, List.map_append, List.map_cons]
    rfl
  have hlen : cntB s v b = (((List.range b).filter (fun i : Nat => rd s (i : Int) == v)).map Int.ofNat).length := by simp [cntB]
  rw [hl, hlen]
  refine ⟨by simp, ?_⟩
  rw [List.getD_eq_getElem?_getD, List.getElem?_append_right (Nat.le_refl _)]
  simp
end Go.Proofs.Ytfgfjgjabcmheaa.M
