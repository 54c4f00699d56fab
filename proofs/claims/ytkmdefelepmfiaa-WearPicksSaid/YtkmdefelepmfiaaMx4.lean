/- Printed for this seat by a program of this session (over the kit's print), with contracts of its own laid in. -/
import Derived.Test.YtkmdefelepmfiaaMx0
import Derived.Test.YtkmdefelepmfiaaMx1
import Derived.Test.YtkmdefelepmfiaaMx3
namespace Go.Proofs.Ytkmdefelepmfiaa.M
open Go.RowKit Go.Proofs.YtkmdefelepmfiaaW.PrintWords Go.Proofs.YtkmdefelepmfiaaW.PrintLast Go.Proofs.YtkmdefelepmfiaaW.PrintMore
attribute [local go_sem] max2_int min2_int max_two min_two max_three min_three max_four min_four   -- for this text's walks alone
set_option linter.unusedVariables false
set_option linter.unusedSimpArgs false

/-! ### blackboardlaw13_WearPicks: function 5 -/
mutual
def blackboardlaw13_WearPicks.j0 : Nat → List Int → List Int → List Bool → Bool → Option (Bool)
  | 0, _, _, _, _ => none
  | k + 1, x0, x1, x2, x33 => if x33 = true then (some true) else ((wear_Pick.f k x1 x2).bind fun bt167 => ((blackboardref15_Pick.f k x1 x2).bind fun bt169 => ((wear_Victim.f k x0 x1 x2).bind fun bt171 => ((blackboardref15_Victim.f k x0 x1 x2).bind fun bt173 => (blackboardlaw13_WearPicks.l0 k x1 x2 bt167.1 bt167.2 bt169.1 bt169.2 bt171.1 bt171.2 bt173.1 bt173.2 0 0 true 0)))))
def blackboardlaw13_WearPicks.l0 : Nat → List Int → List Bool → Int → Bool → Int → Bool → Int → Bool → Int → Bool → Int → Int → Bool → Int → Option (Bool)
  | 0, _, _, _, _, _, _, _, _, _, _, _, _, _, _ => none
  | k + 1, x1, x2, x7, x8, x9, x10, x11, x12, x13, x14, x15, x16, x17, x18 => if x18 < (x2.length : Int) then (blackboardlaw13_WearPicks.j2 k x1 x2 x7 x8 x9 x10 x11 x12 x13 x14 x15 x16 x17 x18 (decide (x18 < (x1.length : Int)))) else (blackboardlaw13_WearPicks.j2 k x1 x2 x7 x8 x9 x10 x11 x12 x13 x14 x15 x16 x17 x18 false)
def blackboardlaw13_WearPicks.j2 : Nat → List Int → List Bool → Int → Bool → Int → Bool → Int → Bool → Int → Bool → Int → Int → Bool → Int → Bool → Option (Bool)
  | 0, _, _, _, _, _, _, _, _, _, _, _, _, _, _, _ => none
  | k + 1, x1, x2, x7, x8, x9, x10, x11, x12, x13, x14, x15, x16, x17, x18, x69 => if x69 = true then (if 0 ≤ x18 then (if x18 < (x1.length : Int) then (if (rd x1 x18) < (-1099511627776) then (blackboardlaw13_WearPicks.j3 k x1 x2 x7 x8 x9 x10 x11 x12 x13 x14 x15 x16 x17 x18 true) else (blackboardlaw13_WearPicks.j3 k x1 x2 x7 x8 x9 x10 x11 x12 x13 x14 x15 x16 x17 x18 (decide ((rd x1 x18) > 1099511627776)))) else (none)) else (none)) else (if x7 = x9 then (if (x8 == x10) = true then (if x11 = x13 then (if (x12 == x14) = true then ((wear_Gap.f k x1 x2).bind fun t175 => (some (t175 == (wrap64 (x16 - x15))))) else (some false)) else (some false)) else (some false)) else (some false))
def blackboardlaw13_WearPicks.j3 : Nat → List Int → List Bool → Int → Bool → Int → Bool → Int → Bool → Int → Bool → Int → Int → Bool → Int → Bool → Option (Bool)
  | 0, _, _, _, _, _, _, _, _, _, _, _, _, _, _, _ => none
  | k + 1, x1, x2, x7, x8, x9, x10, x11, x12, x13, x14, x15, x16, x17, x18, x83 => if x83 = true then (if x7 = x9 then (if (x8 == x10) = true then (if x11 = x13 then (some (x12 == x14)) else (some false)) else (some false)) else (some false)) else (if 0 ≤ x18 then (if x18 < (x2.length : Int) then (if rdOf false x2 x18 = true then (if x17 = true then (if x18 < (x1.length : Int) then (blackboardlaw13_WearPicks.l0 k x1 x2 x7 x8 x9 x10 x11 x12 x13 x14 (mn (rd x1 x18) (rd x1 x18)) (mx (rd x1 x18) (rd x1 x18)) false (wrap64 (x18 + 1))) else (none)) else (if x18 < (x1.length : Int) then (blackboardlaw13_WearPicks.l0 k x1 x2 x7 x8 x9 x10 x11 x12 x13 x14 (mn x15 (rd x1 x18)) (mx x16 (rd x1 x18)) x17 (wrap64 (x18 + 1))) else (none))) else (blackboardlaw13_WearPicks.l0 k x1 x2 x7 x8 x9 x10 x11 x12 x13 x14 x15 x16 x17 (wrap64 (x18 + 1)))) else (none)) else (none))
end
def blackboardlaw13_WearPicks.f (k : Nat) (l0 : List Int) (l1 : List Int) (l2 : List Bool) : Option (Bool) := (blackboardlaw13_awake.f k).bind fun t166 => (if t166 = true then (if (l0.length : Int) > 300 then (blackboardlaw13_WearPicks.j0 k l0 l1 l2 true) else (if (l1.length : Int) > 300 then (blackboardlaw13_WearPicks.j0 k l0 l1 l2 true) else (blackboardlaw13_WearPicks.j0 k l0 l1 l2 (decide ((l2.length : Int) > 300))))) else (some false))
theorem blackboardlaw13_WearPicks.mono_l : ∀ k, (∀ y0 y1 y2 y3, LeO (blackboardlaw13_WearPicks.j0 k y0 y1 y2 y3) (blackboardlaw13_WearPicks.j0 (k + 1) y0 y1 y2 y3)) ∧ (∀ y0 y1 y2 y3 y4 y5 y6 y7 y8 y9 y10 y11 y12 y13, LeO (blackboardlaw13_WearPicks.l0 k y0 y1 y2 y3 y4 y5 y6 y7 y8 y9 y10 y11 y12 y13) (blackboardlaw13_WearPicks.l0 (k + 1) y0 y1 y2 y3 y4 y5 y6 y7 y8 y9 y10 y11 y12 y13)) ∧ (∀ y0 y1 y2 y3 y4 y5 y6 y7 y8 y9 y10 y11 y12 y13 y14, LeO (blackboardlaw13_WearPicks.j2 k y0 y1 y2 y3 y4 y5 y6 y7 y8 y9 y10 y11 y12 y13 y14) (blackboardlaw13_WearPicks.j2 (k + 1) y0 y1 y2 y3 y4 y5 y6 y7 y8 y9 y10 y11 y12 y13 y14)) ∧ (∀ y0 y1 y2 y3 y4 y5 y6 y7 y8 y9 y10 y11 y12 y13 y14, LeO (blackboardlaw13_WearPicks.j3 k y0 y1 y2 y3 y4 y5 y6 y7 y8 y9 y10 y11 y12 y13 y14) (blackboardlaw13_WearPicks.j3 (k + 1) y0 y1 y2 y3 y4 y5 y6 y7 y8 y9 y10 y11 y12 y13 y14))
  | 0 => ⟨fun _ _ _ _ r h => by simp [blackboardlaw13_WearPicks.j0] at h, fun _ _ _ _ _ _ _ _ _ _ _ _ _ _ r h => by simp [blackboardlaw13_WearPicks.l0] at h, fun _ _ _ _ _ _ _ _ _ _ _ _ _ _ _ r h => by simp [blackboardlaw13_WearPicks.j2] at h, fun _ _ _ _ _ _ _ _ _ _ _ _ _ _ _ r h => by simp [blackboardlaw13_WearPicks.j3] at h⟩
  | k + 1 => by
    obtain ⟨ih0, ih1, ih2, ih3⟩ := blackboardlaw13_WearPicks.mono_l k
    refine ⟨?_, ?_, ?_, ?_⟩
    · intro y0 y1 y2 y3
      unfold blackboardlaw13_WearPicks.j0
      repeat' first
      | (with_reducible exact ih0 _ _ _ _)
      | (with_reducible exact ih1 _ _ _ _ _ _ _ _ _ _ _ _ _ _)
      | (with_reducible exact ih2 _ _ _ _ _ _ _ _ _ _ _ _ _ _ _)
      | (with_reducible exact ih3 _ _ _ _ _ _ _ _ _ _ _ _ _ _ _)
      | (with_reducible exact blackboardlaw13_awake.mono _)
      | (with_reducible exact blackboardref15_Pick.mono _ _ _)
      | (with_reducible exact blackboardref15_Victim.mono _ _ _ _)
      | (with_reducible exact wear_Gap.mono _ _ _)
      | (with_reducible exact wear_Pick.mono _ _ _)
      | (with_reducible exact wear_Victim.mono _ _ _ _)
      | (with_reducible exact LeO.refl _)
      | (with_reducible exact LeO.none _)
      | (with_reducible refine LeO.ite ?_ ?_)
      | (with_reducible refine LeO.bind ?_ (fun _ => ?_))
      | exact ih0 _ _ _ _
      | exact ih1 _ _ _ _ _ _ _ _ _ _ _ _ _ _
      | exact ih2 _ _ _ _ _ _ _ _ _ _ _ _ _ _ _
      | exact ih3 _ _ _ _ _ _ _ _ _ _ _ _ _ _ _
      | exact blackboardlaw13_awake.mono _
      | exact blackboardref15_Pick.mono _ _ _
      | exact blackboardref15_Victim.mono _ _ _ _
      | exact wear_Gap.mono _ _ _
      | exact wear_Pick.mono _ _ _
      | exact wear_Victim.mono _ _ _ _
      | exact LeO.none _
      | refine LeO.ite ?_ ?_
      | refine LeO.bind ?_ (fun _ => ?_)
    · intro y0 y1 y2 y3 y4 y5 y6 y7 y8 y9 y10 y11 y12 y13
      unfold blackboardlaw13_WearPicks.l0
      repeat' first
      | (with_reducible exact ih0 _ _ _ _)
      | (with_reducible exact ih1 _ _ _ _ _ _ _ _ _ _ _ _ _ _)
      | (with_reducible exact ih2 _ _ _ _ _ _ _ _ _ _ _ _ _ _ _)
      | (with_reducible exact ih3 _ _ _ _ _ _ _ _ _ _ _ _ _ _ _)
      | (with_reducible exact blackboardlaw13_awake.mono _)
      | (with_reducible exact blackboardref15_Pick.mono _ _ _)
      | (with_reducible exact blackboardref15_Victim.mono _ _ _ _)
      | (with_reducible exact wear_Gap.mono _ _ _)
      | (with_reducible exact wear_Pick.mono _ _ _)
      | (with_reducible exact wear_Victim.mono _ _ _ _)
      | (with_reducible exact LeO.refl _)
      | (with_reducible exact LeO.none _)
      | (with_reducible refine LeO.ite ?_ ?_)
      | (with_reducible refine LeO.bind ?_ (fun _ => ?_))
      | exact ih0 _ _ _ _
      | exact ih1 _ _ _ _ _ _ _ _ _ _ _ _ _ _
      | exact ih2 _ _ _ _ _ _ _ _ _ _ _ _ _ _ _
      | exact ih3 _ _ _ _ _ _ _ _ _ _ _ _ _ _ _
      | exact blackboardlaw13_awake.mono _
      | exact blackboardref15_Pick.mono _ _ _
      | exact blackboardref15_Victim.mono _ _ _ _
      | exact wear_Gap.mono _ _ _
      | exact wear_Pick.mono _ _ _
      | exact wear_Victim.mono _ _ _ _
      | exact LeO.none _
      | refine LeO.ite ?_ ?_
      | refine LeO.bind ?_ (fun _ => ?_)
    · intro y0 y1 y2 y3 y4 y5 y6 y7 y8 y9 y10 y11 y12 y13 y14
      unfold blackboardlaw13_WearPicks.j2
      repeat' first
      | (with_reducible exact ih0 _ _ _ _)
      | (with_reducible exact ih1 _ _ _ _ _ _ _ _ _ _ _ _ _ _)
      | (with_reducible exact ih2 _ _ _ _ _ _ _ _ _ _ _ _ _ _ _)
      | (with_reducible exact ih3 _ _ _ _ _ _ _ _ _ _ _ _ _ _ _)
      | (with_reducible exact blackboardlaw13_awake.mono _)
      | (with_reducible exact blackboardref15_Pick.mono _ _ _)
      | (with_reducible exact blackboardref15_Victim.mono _ _ _ _)
      | (with_reducible exact wear_Gap.mono _ _ _)
      | (with_reducible exact wear_Pick.mono _ _ _)
      | (with_reducible exact wear_Victim.mono _ _ _ _)
      | (with_reducible exact LeO.refl _)
      | (with_reducible exact LeO.none _)
      | (with_reducible refine LeO.ite ?_ ?_)
      | (with_reducible refine LeO.bind ?_ (fun _ => ?_))
      | exact ih0 _ _ _ _
      | exact ih1 _ _ _ _ _ _ _ _ _ _ _ _ _ _
      | exact ih2 _ _ _ _ _ _ _ _ _ _ _ _ _ _ _
      | exact ih3 _ _ _ _ _ _ _ _ _ _ _ _ _ _ _
      | exact blackboardlaw13_awake.mono _
      | exact blackboardref15_Pick.mono _ _ _
      | exact blackboardref15_Victim.mono _ _ _ _
      | exact wear_Gap.mono _ _ _
      | exact wear_Pick.mono _ _ _
      | exact wear_Victim.mono _ _ _ _
      | exact LeO.none _
      | refine LeO.ite ?_ ?_
      | refine LeO.bind ?_ (fun _ => ?_)
    · intro y0 y1 y2 y3 y4 y5 y6 y7 y8 y9 y10 y11 y12 y13 y14
      unfold blackboardlaw13_WearPicks.j3
      repeat' first
      | (with_reducible exact ih0 _ _ _ _)
      | (with_reducible exact ih1 _ _ _ _ _ _ _ _ _ _ _ _ _ _)
      | (with_reducible exact ih2 _ _ _ _ _ _ _ _ _ _ _ _ _ _ _)
      | (with_reducible exact ih3 _ _ _ _ _ _ _ _ _ _ _ _ _ _ _)
      | (with_reducible exact blackboardlaw13_awake.mono _)
      | (with_reducible exact blackboardref15_Pick.mono _ _ _)
      | (with_reducible exact blackboardref15_Victim.mono _ _ _ _)
      | (with_reducible exact wear_Gap.mono _ _ _)
      | (with_reducible exact wear_Pick.mono _ _ _)
      | (with_reducible exact wear_Victim.mono _ _ _ _)
      | (with_reducible exact LeO.refl _)
      | (with_reducible exact LeO.none _)
      | (with_reducible refine LeO.ite ?_ ?_)
      | (with_reducible refine LeO.bind ?_ (fun _ => ?_))
      | exact ih0 _ _ _ _
      | exact ih1 _ _ _ _ _ _ _ _ _ _ _ _ _ _
      | exact ih2 _ _ _ _ _ _ _ _ _ _ _ _ _ _ _
      | exact ih3 _ _ _ _ _ _ _ _ _ _ _ _ _ _ _
      | exact blackboardlaw13_awake.mono _
      | exact blackboardref15_Pick.mono _ _ _
      | exact blackboardref15_Victim.mono _ _ _ _
      | exact wear_Gap.mono _ _ _
      | exact wear_Pick.mono _ _ _
      | exact wear_Victim.mono _ _ _ _
      | exact LeO.none _
      | refine LeO.ite ?_ ?_
      | refine LeO.bind ?_ (fun _ => ?_)
theorem blackboardlaw13_WearPicks.mono : ∀ a0 a1 a2 k, LeO (blackboardlaw13_WearPicks.f k a0 a1 a2) (blackboardlaw13_WearPicks.f (k + 1) a0 a1 a2) := by
  intro a0 a1 a2 k
  obtain ⟨ih0, ih1, ih2, ih3⟩ := blackboardlaw13_WearPicks.mono_l k
  unfold blackboardlaw13_WearPicks.f
  repeat' first
      | (with_reducible exact ih0 _ _ _ _)
      | (with_reducible exact ih1 _ _ _ _ _ _ _ _ _ _ _ _ _ _)
      | (with_reducible exact ih2 _ _ _ _ _ _ _ _ _ _ _ _ _ _ _)
      | (with_reducible exact ih3 _ _ _ _ _ _ _ _ _ _ _ _ _ _ _)
      | (with_reducible exact blackboardlaw13_awake.mono _)
      | (with_reducible exact blackboardref15_Pick.mono _ _ _)
      | (with_reducible exact blackboardref15_Victim.mono _ _ _ _)
      | (with_reducible exact wear_Gap.mono _ _ _)
      | (with_reducible exact wear_Pick.mono _ _ _)
      | (with_reducible exact wear_Victim.mono _ _ _ _)
      | (with_reducible exact LeO.refl _)
      | (with_reducible exact LeO.none _)
      | (with_reducible refine LeO.ite ?_ ?_)
      | (with_reducible refine LeO.bind ?_ (fun _ => ?_))
      | exact ih0 _ _ _ _
      | exact ih1 _ _ _ _ _ _ _ _ _ _ _ _ _ _
      | exact ih2 _ _ _ _ _ _ _ _ _ _ _ _ _ _ _
      | exact ih3 _ _ _ _ _ _ _ _ _ _ _ _ _ _ _
      | exact blackboardlaw13_awake.mono _
      | exact blackboardref15_Pick.mono _ _ _
      | exact blackboardref15_Victim.mono _ _ _ _
      | exact wear_Gap.mono _ _ _
      | exact wear_Pick.mono _ _ _
      | exact wear_Victim.mono _ _ _ _
      | exact LeO.none _
      | refine LeO.ite ?_ ?_
      | refine LeO.bind ?_ (fun _ => ?_)
set_option maxHeartbeats 8000000 in
set_option maxRecDepth 100000 in
theorem blackboardlaw13_WearPicks.calls (k : Nat) (A0 : Option Addr) (c0 : Nat) (l0 : List Int) (A1 : Option Addr) (c1 : Nat) (l1 : List Int) (A2 : Option Addr) (c2 : Nat) (l2 : List Bool) (r : Bool) (w : World) (hr0 : Kd.C (Kd.int .i64) w A0 l0.length l0) (hc0 : l0.length ≤ c0) (hr1 : Kd.C (Kd.int .i64) w A1 l1.length l1) (hc1 : l1.length ≤ c1) (hr2 : Kd.C Kd.bool w A2 l2.length l2) (hc2 : l2.length ≤ c2) (h : blackboardlaw13_WearPicks.f k l0 l1 l2 = some r) :
    Calls Try.prog 5 #[.slice A0 l0.length c0, .slice A1 l1.length c1, .slice A2 l2.length c2] w fun e w' => e = .returned (.bool r) ∧ Below w.heap.size w w' := by
  have HR0 := Aside0.mk hr0
  have HC0 := Aside0.mk hc0
  clear hr0 hc0
  have HR1 := Aside0.mk hr1
  have HC1 := Aside0.mk hc1
  clear hr1 hc1
  have HR2 := Aside0.mk hr2
  have HC2 := Aside0.mk hc2
  clear hr2 hc2
  have HB := Aside0.mk (Below.refl w.heap.size w)
  have H : ((blackboardlaw13_awake.f k).bind fun t166 => (if t166 = true then (if (l0.length : Int) > 300 then (blackboardlaw13_WearPicks.j0 k l0 l1 l2 true) else (if (l1.length : Int) > 300 then (blackboardlaw13_WearPicks.j0 k l0 l1 l2 true) else (blackboardlaw13_WearPicks.j0 k l0 l1 l2 (decide ((l2.length : Int) > 300))))) else (some false))) = some r := h
  clear h
  replace H := Option.bind_eq_some_iff.mp H
  obtain ⟨t166, A40, H⟩ := H
  replace H : (if t166 = true then (if (l0.length : Int) > 300 then (blackboardlaw13_WearPicks.j0 k l0 l1 l2 true) else (if (l1.length : Int) > 300 then (blackboardlaw13_WearPicks.j0 k l0 l1 l2 true) else (blackboardlaw13_WearPicks.j0 k l0 l1 l2 (decide ((l2.length : Int) > 300))))) else (some false)) = some r := H
  have A4 := Aside0.mk A40
  clear A40
  by_cases c5 : t166 = true
  · subst c5
    have H1 : (if (l0.length : Int) > 300 then (blackboardlaw13_WearPicks.j0 k l0 l1 l2 true) else (if (l1.length : Int) > 300 then (blackboardlaw13_WearPicks.j0 k l0 l1 l2 true) else (blackboardlaw13_WearPicks.j0 k l0 l1 l2 (decide ((l2.length : Int) > 300))))) = some r := by rw [if_pos rfl] at H; exact H
    clear H
    have H := H1
    clear H1
    have HC6 := Aside0.mk H
    clear H
    go_enter Try.func5, Try.ntmps5
    go_upto_region 3 with (first | (go_at_call 8; (with_reducible refine (blackboardlaw13_awake.calls k  true _ A4.out).mono ?_); rintro e w7 ⟨rfl, hb⟩; have n0_ := Aside0.mk (below_step (by repeat (first | (with_reducible first | exact HB.out | apply below_alloc | apply pw_below_drewN | apply below_drew1) | exact HB.out)) hb); clear HB; have HB := n0_; clear n0_; (try clear hb); (try clear hb2); (try clear hk); (try clear hi)))
    repeat (go_quiet (first | (go_at_call 8; (with_reducible refine (blackboardlaw13_awake.calls k  true _ A4.out).mono ?_); rintro e w7 ⟨rfl, hb⟩; have n0_ := Aside0.mk (below_step (by repeat (first | (with_reducible first | exact HB.out | apply below_alloc | apply pw_below_drewN | apply below_drew1) | exact HB.out)) hb); clear HB; have HB := n0_; clear n0_; (try clear hb); (try clear hb2); (try clear hk); (try clear hi))); go_upto_region 3 with (first | (go_at_call 8; (with_reducible refine (blackboardlaw13_awake.calls k  true _ A4.out).mono ?_); rintro e w7 ⟨rfl, hb⟩; have n0_ := Aside0.mk (below_step (by repeat (first | (with_reducible first | exact HB.out | apply below_alloc | apply pw_below_drewN | apply below_drew1) | exact HB.out)) hb); clear HB; have HB := n0_; clear n0_; (try clear hb); (try clear hb2); (try clear hk); (try clear hi))))
    (try simp only [Act.put, List.setIfInBounds_toArray, List.set_cons_zero, List.set_cons_succ])
    go_cut [33] (fun v33 wc => ∃ (kq : Nat) (x33_5 : Bool), v33 = .bool x33_5 ∧ Aside0 (blackboardlaw13_WearPicks.j0 kq l0 l1 l2 x33_5 = some r) ∧ Aside0 (kq ≤ k) ∧ Aside0 (Below w.heap.size w wc))
    case first =>
      have H := HC6.out
      clear HC6
      by_cases c8 : (l0.length : Int) > 300
      · rw [if_pos c8] at H
        have c8b0 : decide (300 < (l0.length : Int)) = true := decide_eq_true c8
        have c8b1 : decide (300 < l0.length) = true := decide_eq_true (by omega)
        clear c8
        (first | rw [c8b0] | (simp only [i64_w, i32_w]; rw [c8b0]) | skip)
        have H' := Aside0.mk H
        clear H
        go_wp2
        repeat (go_quiet (fail); try go_wp2)
        go_meet
        case rel => exact ⟨_, (true), (by first | rfl | (simp; done) | (simp [*]; done)), H', ⟨by first | omega | exact Nat.le_refl _⟩, ⟨by repeat (first | (with_reducible first | exact HB.out | apply below_alloc | apply pw_below_drewN | apply below_drew1) | exact HB.out)⟩⟩
      · rw [if_neg c8] at H
        have c8b0 : decide (300 < (l0.length : Int)) = false := decide_eq_false c8
        have c8b1 : decide (300 < l0.length) = false := decide_eq_false (by omega)
        clear c8
        (first | rw [c8b0] | (simp only [i64_w, i32_w]; rw [c8b0]) | skip)
        by_cases c9 : (l1.length : Int) > 300
        · rw [if_pos c9] at H
          have c9b0 : decide (300 < (l1.length : Int)) = true := decide_eq_true c9
          have c9b1 : decide (300 < l1.length) = true := decide_eq_true (by omega)
          clear c9
          have H' := Aside0.mk H
          clear H
          go_wp2
          repeat (go_quiet (fail); try go_wp2)
          go_meet
          case rel => exact ⟨_, (true), (by first | rfl | (simp; done) | (simp [*]; done)), H', ⟨by first | omega | exact Nat.le_refl _⟩, ⟨by repeat (first | (with_reducible first | exact HB.out | apply below_alloc | apply pw_below_drewN | apply below_drew1) | exact HB.out)⟩⟩
        · rw [if_neg c9] at H
          have c9b0 : decide (300 < (l1.length : Int)) = false := decide_eq_false c9
          have c9b1 : decide (300 < l1.length) = false := decide_eq_false (by omega)
          clear c9
          have H' := Aside0.mk H
          clear H
          go_wp2
          repeat (go_quiet (fail); try go_wp2)
          go_meet
          case rel => exact ⟨_, (decide ((l2.length : Int) > 300)), (by first | rfl | (simp; done) | (simp [*]; done)), H', ⟨by first | omega | exact Nat.le_refl _⟩, ⟨by repeat (first | (with_reducible first | exact HB.out | apply below_alloc | apply pw_below_drewN | apply below_drew1) | exact HB.out)⟩⟩
    case rest =>
      clear HC6
      try clear c1
      try clear c2
      try clear p2
      try clear c5
      try clear c8
      try clear c8b0
      try clear c8b1
      try clear c9
      try clear c9b0
      try clear c9b1
      obtain ⟨kq, x33_5, rfl, HA, HJ5, HB⟩ := hcut
      cases kq with
      | zero => exact absurd HA.out (by simp [blackboardlaw13_WearPicks.j0])
      | succ kj5 =>
        have H := HA.out
        clear HA
        simp only [blackboardlaw13_WearPicks.j0] at H
        by_cases c10 : x33_5 = true
        · subst c10
          have H1 : (some true) = some r := by rw [if_pos rfl] at H; exact H
          clear H
          have H := H1
          clear H1
          obtain rfl := Option.some.inj H
          go_wp2
          repeat (go_quiet (fail); try go_wp2)
          go_ret
          exact ⟨by first | rfl | (simp [errW_none, errW_some] <;> rfl) | (simp [*, errW_none, errW_some] <;> rfl), by repeat (first | (with_reducible first | exact HB.out | apply below_alloc | apply pw_below_drewN | apply below_drew1) | exact HB.out)⟩
        · replace c10 := Bool.eq_false_iff.mpr c10
          subst c10
          have H1 : ((wear_Pick.f kj5 l1 l2).bind fun bt167 => ((blackboardref15_Pick.f kj5 l1 l2).bind fun bt169 => ((wear_Victim.f kj5 l0 l1 l2).bind fun bt171 => ((blackboardref15_Victim.f kj5 l0 l1 l2).bind fun bt173 => (blackboardlaw13_WearPicks.l0 kj5 l1 l2 bt167.1 bt167.2 bt169.1 bt169.2 bt171.1 bt171.2 bt173.1 bt173.2 0 0 true 0))))) = some r := by rw [if_neg (show ¬ (false = true) by decide)] at H; exact H
          clear H
          have H := H1
          clear H1
          replace H := Option.bind_eq_some_iff.mp H
          obtain ⟨⟨t167, t168⟩, A110, H⟩ := H
          replace H : ((blackboardref15_Pick.f kj5 l1 l2).bind fun bt169 => ((wear_Victim.f kj5 l0 l1 l2).bind fun bt171 => ((blackboardref15_Victim.f kj5 l0 l1 l2).bind fun bt173 => (blackboardlaw13_WearPicks.l0 kj5 l1 l2 t167 t168 bt169.1 bt169.2 bt171.1 bt171.2 bt173.1 bt173.2 0 0 true 0)))) = some r := H
          have A11 := Aside0.mk A110
          clear A110
          replace H := Option.bind_eq_some_iff.mp H
          obtain ⟨⟨t169, t170⟩, A120, H⟩ := H
          replace H : ((wear_Victim.f kj5 l0 l1 l2).bind fun bt171 => ((blackboardref15_Victim.f kj5 l0 l1 l2).bind fun bt173 => (blackboardlaw13_WearPicks.l0 kj5 l1 l2 t167 t168 t169 t170 bt171.1 bt171.2 bt173.1 bt173.2 0 0 true 0))) = some r := H
          have A12 := Aside0.mk A120
          clear A120
          replace H := Option.bind_eq_some_iff.mp H
          obtain ⟨⟨t171, t172⟩, A130, H⟩ := H
          replace H : ((blackboardref15_Victim.f kj5 l0 l1 l2).bind fun bt173 => (blackboardlaw13_WearPicks.l0 kj5 l1 l2 t167 t168 t169 t170 t171 t172 bt173.1 bt173.2 0 0 true 0)) = some r := H
          have A13 := Aside0.mk A130
          clear A130
          replace H := Option.bind_eq_some_iff.mp H
          obtain ⟨⟨t173, t174⟩, A140, H⟩ := H
          replace H : (blackboardlaw13_WearPicks.l0 kj5 l1 l2 t167 t168 t169 t170 t171 t172 t173 t174 0 0 true 0) = some r := H
          have A14 := Aside0.mk A140
          clear A140
          have H' := Aside0.mk H
          clear H
          go_wp2_with (first | (go_at_call 9; (with_reducible refine (wear_Pick.calls kj5 (fun k_ => k_ < w.heap.size) _ _ l1 _ _ l2 t167 t168 _ ?side1 ?side2 ?side3 A11.out).mono ?_); (case side1 => exact Kd.V_mk HC1.out (Kd.F_below (Kd.C_F (Kd.heap_int .i64) HR1.out) (by repeat (first | (with_reducible first | exact HB.out | apply below_alloc | apply pw_below_drewN | apply below_drew1) | exact HB.out)))); (case side2 => repeat (first | exact (Kd.C_below HR2.out HB.out) | (with_reducible refine Kd.C_alloc ?_ _) | (with_reducible refine Kd.C_drewN ?_ _) | (with_reducible refine Kd.C_drew ?_))); (case side3 => exact HC2.out); rintro e w15 ⟨rfl, hb⟩; have n0_ := Aside0.mk (below_step (by repeat (first | (with_reducible first | exact HB.out | apply below_alloc | apply pw_below_drewN | apply below_drew1) | exact HB.out)) hb); clear HB; have HB := n0_; clear n0_; (try clear hb); (try clear hb2); (try clear hk); (try clear hi)) | (go_at_call 11; (with_reducible refine (blackboardref15_Pick.calls kj5 _ _ l1 _ _ l2 t169 t170 _ ?side1 ?side2 ?side3 ?side4 A12.out).mono ?_); (case side1 => repeat (first | exact (Kd.C_below HR1.out HB.out) | (with_reducible refine Kd.C_alloc ?_ _) | (with_reducible refine Kd.C_drewN ?_ _) | (with_reducible refine Kd.C_drew ?_))); (case side2 => exact HC1.out); (case side3 => repeat (first | exact (Kd.C_below HR2.out HB.out) | (with_reducible refine Kd.C_alloc ?_ _) | (with_reducible refine Kd.C_drewN ?_ _) | (with_reducible refine Kd.C_drew ?_))); (case side4 => exact HC2.out); rintro e w16 ⟨rfl, hb⟩; have n0_ := Aside0.mk (below_step (by repeat (first | (with_reducible first | exact HB.out | apply below_alloc | apply pw_below_drewN | apply below_drew1) | exact HB.out)) hb); clear HB; have HB := n0_; clear n0_; (try clear hb); (try clear hb2); (try clear hk); (try clear hi)) | (go_at_call 12; (with_reducible refine (wear_Victim.calls kj5 (fun k_ => k_ < w.heap.size) _ _ l0 (fun k_ => k_ < w.heap.size) _ _ l1 _ _ l2 t171 t172 _ ?side1 ?side2 ?side3 ?side4 A13.out).mono ?_); (case side1 => exact Kd.V_mk HC0.out (Kd.F_below (Kd.C_F (Kd.heap_int .i64) HR0.out) (by repeat (first | (with_reducible first | exact HB.out | apply below_alloc | apply pw_below_drewN | apply below_drew1) | exact HB.out)))); (case side2 => exact Kd.V_mk HC1.out (Kd.F_below (Kd.C_F (Kd.heap_int .i64) HR1.out) (by repeat (first | (with_reducible first | exact HB.out | apply below_alloc | apply pw_below_drewN | apply below_drew1) | exact HB.out)))); (case side3 => repeat (first | exact (Kd.C_below HR2.out HB.out) | (with_reducible refine Kd.C_alloc ?_ _) | (with_reducible refine Kd.C_drewN ?_ _) | (with_reducible refine Kd.C_drew ?_))); (case side4 => exact HC2.out); rintro e w17 ⟨rfl, hb⟩; have n0_ := Aside0.mk (below_step (by repeat (first | (with_reducible first | exact HB.out | apply below_alloc | apply pw_below_drewN | apply below_drew1) | exact HB.out)) hb); clear HB; have HB := n0_; clear n0_; (try clear hb); (try clear hb2); (try clear hk); (try clear hi)) | (go_at_call 13; (with_reducible refine (blackboardref15_Victim.calls kj5 _ _ l0 _ _ l1 _ _ l2 t173 t174 _ ?side1 ?side2 ?side3 ?side4 ?side5 ?side6 A14.out).mono ?_); (case side1 => repeat (first | exact (Kd.C_below HR0.out HB.out) | (with_reducible refine Kd.C_alloc ?_ _) | (with_reducible refine Kd.C_drewN ?_ _) | (with_reducible refine Kd.C_drew ?_))); (case side2 => exact HC0.out); (case side3 => repeat (first | exact (Kd.C_below HR1.out HB.out) | (with_reducible refine Kd.C_alloc ?_ _) | (with_reducible refine Kd.C_drewN ?_ _) | (with_reducible refine Kd.C_drew ?_))); (case side4 => exact HC1.out); (case side5 => repeat (first | exact (Kd.C_below HR2.out HB.out) | (with_reducible refine Kd.C_alloc ?_ _) | (with_reducible refine Kd.C_drewN ?_ _) | (with_reducible refine Kd.C_drew ?_))); (case side6 => exact HC2.out); rintro e w18 ⟨rfl, hb⟩; have n0_ := Aside0.mk (below_step (by repeat (first | (with_reducible first | exact HB.out | apply below_alloc | apply pw_below_drewN | apply below_drew1) | exact HB.out)) hb); clear HB; have HB := n0_; clear n0_; (try clear hb); (try clear hb2); (try clear hk); (try clear hi)))
          repeat (go_quiet (first | (go_at_call 9; (with_reducible refine (wear_Pick.calls kj5 (fun k_ => k_ < w.heap.size) _ _ l1 _ _ l2 t167 t168 _ ?side1 ?side2 ?side3 A11.out).mono ?_); (case side1 => exact Kd.V_mk HC1.out (Kd.F_below (Kd.C_F (Kd.heap_int .i64) HR1.out) (by repeat (first | (with_reducible first | exact HB.out | apply below_alloc | apply pw_below_drewN | apply below_drew1) | exact HB.out)))); (case side2 => repeat (first | exact (Kd.C_below HR2.out HB.out) | (with_reducible refine Kd.C_alloc ?_ _) | (with_reducible refine Kd.C_drewN ?_ _) | (with_reducible refine Kd.C_drew ?_))); (case side3 => exact HC2.out); rintro e w15 ⟨rfl, hb⟩; have n0_ := Aside0.mk (below_step (by repeat (first | (with_reducible first | exact HB.out | apply below_alloc | apply pw_below_drewN | apply below_drew1) | exact HB.out)) hb); clear HB; have HB := n0_; clear n0_; (try clear hb); (try clear hb2); (try clear hk); (try clear hi)) | (go_at_call 11; (with_reducible refine (blackboardref15_Pick.calls kj5 _ _ l1 _ _ l2 t169 t170 _ ?side1 ?side2 ?side3 ?side4 A12.out).mono ?_); (case side1 => repeat (first | exact (Kd.C_below HR1.out HB.out) | (with_reducible refine Kd.C_alloc ?_ _) | (with_reducible refine Kd.C_drewN ?_ _) | (with_reducible refine Kd.C_drew ?_))); (case side2 => exact HC1.out); (case side3 => repeat (first | exact (Kd.C_below HR2.out HB.out) | (with_reducible refine Kd.C_alloc ?_ _) | (with_reducible refine Kd.C_drewN ?_ _) | (with_reducible refine Kd.C_drew ?_))); (case side4 => exact HC2.out); rintro e w16 ⟨rfl, hb⟩; have n0_ := Aside0.mk (below_step (by repeat (first | (with_reducible first | exact HB.out | apply below_alloc | apply pw_below_drewN | apply below_drew1) | exact HB.out)) hb); clear HB; have HB := n0_; clear n0_; (try clear hb); (try clear hb2); (try clear hk); (try clear hi)) | (go_at_call 12; (with_reducible refine (wear_Victim.calls kj5 (fun k_ => k_ < w.heap.size) _ _ l0 (fun k_ => k_ < w.heap.size) _ _ l1 _ _ l2 t171 t172 _ ?side1 ?side2 ?side3 ?side4 A13.out).mono ?_); (case side1 => exact Kd.V_mk HC0.out (Kd.F_below (Kd.C_F (Kd.heap_int .i64) HR0.out) (by repeat (first | (with_reducible first | exact HB.out | apply below_alloc | apply pw_below_drewN | apply below_drew1) | exact HB.out)))); (case side2 => exact Kd.V_mk HC1.out (Kd.F_below (Kd.C_F (Kd.heap_int .i64) HR1.out) (by repeat (first | (with_reducible first | exact HB.out | apply below_alloc | apply pw_below_drewN | apply below_drew1) | exact HB.out)))); (case side3 => repeat (first | exact (Kd.C_below HR2.out HB.out) | (with_reducible refine Kd.C_alloc ?_ _) | (with_reducible refine Kd.C_drewN ?_ _) | (with_reducible refine Kd.C_drew ?_))); (case side4 => exact HC2.out); rintro e w17 ⟨rfl, hb⟩; have n0_ := Aside0.mk (below_step (by repeat (first | (with_reducible first | exact HB.out | apply below_alloc | apply pw_below_drewN | apply below_drew1) | exact HB.out)) hb); clear HB; have HB := n0_; clear n0_; (try clear hb); (try clear hb2); (try clear hk); (try clear hi)) | (go_at_call 13; (with_reducible refine (blackboardref15_Victim.calls kj5 _ _ l0 _ _ l1 _ _ l2 t173 t174 _ ?side1 ?side2 ?side3 ?side4 ?side5 ?side6 A14.out).mono ?_); (case side1 => repeat (first | exact (Kd.C_below HR0.out HB.out) | (with_reducible refine Kd.C_alloc ?_ _) | (with_reducible refine Kd.C_drewN ?_ _) | (with_reducible refine Kd.C_drew ?_))); (case side2 => exact HC0.out); (case side3 => repeat (first | exact (Kd.C_below HR1.out HB.out) | (with_reducible refine Kd.C_alloc ?_ _) | (with_reducible refine Kd.C_drewN ?_ _) | (with_reducible refine Kd.C_drew ?_))); (case side4 => exact HC1.out); (case side5 => repeat (first | exact (Kd.C_below HR2.out HB.out) | (with_reducible refine Kd.C_alloc ?_ _) | (with_reducible refine Kd.C_drewN ?_ _) | (with_reducible refine Kd.C_drew ?_))); (case side6 => exact HC2.out); rintro e w18 ⟨rfl, hb⟩; have n0_ := Aside0.mk (below_step (by repeat (first | (with_reducible first | exact HB.out | apply below_alloc | apply pw_below_drewN | apply below_drew1) | exact HB.out)) hb); clear HB; have HB := n0_; clear n0_; (try clear hb); (try clear hb2); (try clear hk); (try clear hi))); try go_wp2_with (first | (go_at_call 9; (with_reducible refine (wear_Pick.calls kj5 (fun k_ => k_ < w.heap.size) _ _ l1 _ _ l2 t167 t168 _ ?side1 ?side2 ?side3 A11.out).mono ?_); (case side1 => exact Kd.V_mk HC1.out (Kd.F_below (Kd.C_F (Kd.heap_int .i64) HR1.out) (by repeat (first | (with_reducible first | exact HB.out | apply below_alloc | apply pw_below_drewN | apply below_drew1) | exact HB.out)))); (case side2 => repeat (first | exact (Kd.C_below HR2.out HB.out) | (with_reducible refine Kd.C_alloc ?_ _) | (with_reducible refine Kd.C_drewN ?_ _) | (with_reducible refine Kd.C_drew ?_))); (case side3 => exact HC2.out); rintro e w15 ⟨rfl, hb⟩; have n0_ := Aside0.mk (below_step (by repeat (first | (with_reducible first | exact HB.out | apply below_alloc | apply pw_below_drewN | apply below_drew1) | exact HB.out)) hb); clear HB; have HB := n0_; clear n0_; (try clear hb); (try clear hb2); (try clear hk); (try clear hi)) | (go_at_call 11; (with_reducible refine (blackboardref15_Pick.calls kj5 _ _ l1 _ _ l2 t169 t170 _ ?side1 ?side2 ?side3 ?side4 A12.out).mono ?_); (case side1 => repeat (first | exact (Kd.C_below HR1.out HB.out) | (with_reducible refine Kd.C_alloc ?_ _) | (with_reducible refine Kd.C_drewN ?_ _) | (with_reducible refine Kd.C_drew ?_))); (case side2 => exact HC1.out); (case side3 => repeat (first | exact (Kd.C_below HR2.out HB.out) | (with_reducible refine Kd.C_alloc ?_ _) | (with_reducible refine Kd.C_drewN ?_ _) | (with_reducible refine Kd.C_drew ?_))); (case side4 => exact HC2.out); rintro e w16 ⟨rfl, hb⟩; have n0_ := Aside0.mk (below_step (by repeat (first | (with_reducible first | exact HB.out | apply below_alloc | apply pw_below_drewN | apply below_drew1) | exact HB.out)) hb); clear HB; have HB := n0_; clear n0_; (try clear hb); (try clear hb2); (try clear hk); (try clear hi)) | (go_at_call 12; (with_reducible refine (wear_Victim.calls kj5 (fun k_ => k_ < w.heap.size) _ _ l0 (fun k_ => k_ < w.heap.size) _ _ l1 _ _ l2 t171 t172 _ ?side1 ?side2 ?side3 ?side4 A13.out).mono ?_); (case side1 => exact Kd.V_mk HC0.out (Kd.F_below (Kd.C_F (Kd.heap_int .i64) HR0.out) (by repeat (first | (with_reducible first | exact HB.out | apply below_alloc | apply pw_below_drewN | apply below_drew1) | exact HB.out)))); (case side2 => exact Kd.V_mk HC1.out (Kd.F_below (Kd.C_F (Kd.heap_int .i64) HR1.out) (by repeat (first | (with_reducible first | exact HB.out | apply below_alloc | apply pw_below_drewN | apply below_drew1) | exact HB.out)))); (case side3 => repeat (first | exact (Kd.C_below HR2.out HB.out) | (with_reducible refine Kd.C_alloc ?_ _) | (with_reducible refine Kd.C_drewN ?_ _) | (with_reducible refine Kd.C_drew ?_))); (case side4 => exact HC2.out); rintro e w17 ⟨rfl, hb⟩; have n0_ := Aside0.mk (below_step (by repeat (first | (with_reducible first | exact HB.out | apply below_alloc | apply pw_below_drewN | apply below_drew1) | exact HB.out)) hb); clear HB; have HB := n0_; clear n0_; (try clear hb); (try clear hb2); (try clear hk); (try clear hi)) | (go_at_call 13; (with_reducible refine (blackboardref15_Victim.calls kj5 _ _ l0 _ _ l1 _ _ l2 t173 t174 _ ?side1 ?side2 ?side3 ?side4 ?side5 ?side6 A14.out).mono ?_); (case side1 => repeat (first | exact (Kd.C_below HR0.out HB.out) | (with_reducible refine Kd.C_alloc ?_ _) | (with_reducible refine Kd.C_drewN ?_ _) | (with_reducible refine Kd.C_drew ?_))); (case side2 => exact HC0.out); (case side3 => repeat (first | exact (Kd.C_below HR1.out HB.out) | (with_reducible refine Kd.C_alloc ?_ _) | (with_reducible refine Kd.C_drewN ?_ _) | (with_reducible refine Kd.C_drew ?_))); (case side4 => exact HC1.out); (case side5 => repeat (first | exact (Kd.C_below HR2.out HB.out) | (with_reducible refine Kd.C_alloc ?_ _) | (with_reducible refine Kd.C_drewN ?_ _) | (with_reducible refine Kd.C_drew ?_))); (case side6 => exact HC2.out); rintro e w18 ⟨rfl, hb⟩; have n0_ := Aside0.mk (below_step (by repeat (first | (with_reducible first | exact HB.out | apply below_alloc | apply pw_below_drewN | apply below_drew1) | exact HB.out)) hb); clear HB; have HB := n0_; clear n0_; (try clear hb); (try clear hb2); (try clear hk); (try clear hi))))
          go_loopg [15, 16, 17, 18] kj5 (fun kq v15 v16 v17 v18 w' => ∃ (x15_2 : Int) (x16_2 : Int) (x17_2 : Bool) (x18_2 : Int), v15 = .int .i64 x15_2 ∧ v16 = .int .i64 x16_2 ∧ v17 = .bool x17_2 ∧ v18 = .int .i64 x18_2 ∧ Aside0 (blackboardlaw13_WearPicks.l0 kq l1 l2 t167 t168 t169 t170 t171 t172 t173 t174 x15_2 x16_2 x17_2 x18_2 = some r) ∧ Aside0 (kq ≤ kj5) ∧ Aside0 (Below w.heap.size w w'))
          case atStart => exact ⟨(0), (0), (true), (0), (by first | rfl | (simp; done) | (simp [*]; done)), (by first | rfl | (simp; done) | (simp [*]; done)), (by first | rfl | (simp; done) | (simp [*]; done)), (by first | rfl | (simp; done) | (simp [*]; done)), H', ⟨Nat.le_refl _⟩, ⟨by repeat (first | (with_reducible first | exact HB.out | apply below_alloc | apply pw_below_drewN | apply below_drew1) | exact HB.out)⟩⟩
          case round =>
            clear H'
            try clear c1
            try clear c2
            try clear p2
            try clear c5
            try clear c8
            try clear c8b0
            try clear c8b1
            try clear c9
            try clear c9b0
            try clear c9b1
            try clear c10
            try clear p2
            obtain ⟨x15_2, x16_2, x17_2, x18_2, rfl, rfl, rfl, rfl, HA, HK2, HB⟩ := hrel
            cases gk with
            | zero => exact absurd HA.out (by simp [blackboardlaw13_WearPicks.l0])
            | succ k2 =>
              have H := HA.out
              clear HA
              simp only [blackboardlaw13_WearPicks.l0] at H
              have HC19 := Aside0.mk H
              clear H
              go_upto_region 12 with (fail)
              repeat (go_quiet (fail); go_upto_region 12 with (fail))
              go_cut [69] (fun v69 wc => ∃ (kq : Nat) (x69_18 : Bool), v69 = .bool x69_18 ∧ Aside0 (blackboardlaw13_WearPicks.j2 kq l1 l2 t167 t168 t169 t170 t171 t172 t173 t174 x15_2 x16_2 x17_2 x18_2 x69_18 = some r) ∧ Aside0 (kq ≤ k2) ∧ Aside0 (Below w.heap.size w wc))
              case first =>
                have H := HC19.out
                clear HC19
                by_cases c20 : x18_2 < (l2.length : Int)
                · rw [if_pos c20] at H
                  have c20b0 : decide (x18_2 < (l2.length : Int)) = true := decide_eq_true c20
                  clear c20
                  (first | rw [c20b0] | (simp only [i64_w, i32_w]; rw [c20b0]) | skip)
                  have H' := Aside0.mk H
                  clear H
                  go_wp2
                  repeat (go_quiet (fail); try go_wp2)
                  go_meet
                  case rel => exact ⟨_, (decide (x18_2 < (l1.length : Int))), (by first | rfl | (simp; done) | (simp [*]; done)), H', ⟨by have := HJ5.out; have := HK2.out; first | omega | exact Nat.le_refl _⟩, ⟨by repeat (first | (with_reducible first | exact HB.out | apply below_alloc | apply pw_below_drewN | apply below_drew1) | exact HB.out)⟩⟩
                · rw [if_neg c20] at H
                  have c20b0 : decide (x18_2 < (l2.length : Int)) = false := decide_eq_false c20
                  clear c20
                  (first | rw [c20b0] | (simp only [i64_w, i32_w]; rw [c20b0]) | skip)
                  have H' := Aside0.mk H
                  clear H
                  go_wp2
                  repeat (go_quiet (fail); try go_wp2)
                  go_meet
                  case rel => exact ⟨_, (false), (by first | rfl | (simp; done) | (simp [*]; done)), H', ⟨by have := HJ5.out; have := HK2.out; first | omega | exact Nat.le_refl _⟩, ⟨by repeat (first | (with_reducible first | exact HB.out | apply below_alloc | apply pw_below_drewN | apply below_drew1) | exact HB.out)⟩⟩
              case rest =>
                clear HC19
                try clear c1
                try clear c2
                try clear p2
                try clear c5
                try clear c8
                try clear c8b0
                try clear c8b1
                try clear c9
                try clear c9b0
                try clear c9b1
                try clear c10
                try clear c20
                try clear c20b0
                try clear p2
                obtain ⟨kq, x69_18, rfl, HA, HJ18, HB⟩ := hcut
                cases kq with
                | zero => exact absurd HA.out (by simp [blackboardlaw13_WearPicks.j2])
                | succ kj18 =>
                  have H := HA.out
                  clear HA
                  simp only [blackboardlaw13_WearPicks.j2] at H
                  by_cases c21 : x69_18 = true
                  · subst c21
                    have H1 : (if 0 ≤ x18_2 then (if x18_2 < (l1.length : Int) then (if (rd l1 x18_2) < (-1099511627776) then (blackboardlaw13_WearPicks.j3 kj18 l1 l2 t167 t168 t169 t170 t171 t172 t173 t174 x15_2 x16_2 x17_2 x18_2 true) else (blackboardlaw13_WearPicks.j3 kj18 l1 l2 t167 t168 t169 t170 t171 t172 t173 t174 x15_2 x16_2 x17_2 x18_2 (decide ((rd l1 x18_2) > 1099511627776)))) else (none)) else (none)) = some r := by rw [if_pos rfl] at H; exact H
                    clear H
                    have H := H1
                    clear H1
                    have HC22 := Aside0.mk H
                    clear H
                    go_upto_region 14 with (fail)
                    repeat (go_quiet (fail); go_upto_region 14 with (fail))
                    go_cut [83] (fun v83 wc => ∃ (kq : Nat) (x83_21 : Bool), v83 = .bool x83_21 ∧ Aside0 (blackboardlaw13_WearPicks.j3 kq l1 l2 t167 t168 t169 t170 t171 t172 t173 t174 x15_2 x16_2 x17_2 x18_2 x83_21 = some r) ∧ Aside0 (kq ≤ kj18) ∧ Aside0 (Below w.heap.size w wc))
                    case first =>
                      have H := HC22.out
                      clear HC22
                      by_cases c23 : 0 ≤ x18_2
                      · rw [if_pos c23] at H
                        have c23b0 : decide (0 ≤ x18_2) = true := decide_eq_true c23
                        clear c23
                        (first | rw [c23b0] | (simp only [i64_w, i32_w]; rw [c23b0]) | skip)
                        by_cases c24 : x18_2 < (l1.length : Int)
                        · rw [if_pos c24] at H
                          have c24b0 : decide (x18_2 < (l1.length : Int)) = true := decide_eq_true c24
                          clear c24
                          by_cases c25 : (rd l1 x18_2) < (-1099511627776)
                          · rw [if_pos c25] at H
                            have c25b0 : decide ((rd l1 x18_2) < (-1099511627776)) = true := decide_eq_true c25
                            clear c25
                            have H' := Aside0.mk H
                            clear H
                            have p176 : 0 ≤ (x18_2 : Int) := of_decide_eq_true (by first | (with_reducible assumption) | assumption)
                            have q176 : x18_2 < (l1.length : Int) := of_decide_eq_true (by first | (with_reducible assumption) | assumption)
                            obtain ⟨ad176, e176, hx176_0⟩ := Kd.at_int HR1.out x18_2 p176 q176
                            cases e176
                            replace hx176_0 := (HB.out.cell (World.block_lt_of_cell? w _ hx176_0)).trans hx176_0
                            replace p176 := eq_true p176
                            replace q176 := eq_true q176
                            go_wp2
                            repeat (go_quiet (fail); try go_wp2)
                            go_meet
                            case rel => exact ⟨_, (true), (by first | rfl | (simp; done) | (simp [*]; done)), H', ⟨by have := HJ5.out; have := HK2.out; have := HJ18.out; first | omega | exact Nat.le_refl _⟩, ⟨by repeat (first | (with_reducible first | exact HB.out | apply below_alloc | apply pw_below_drewN | apply below_drew1) | exact HB.out)⟩⟩
                          · rw [if_neg c25] at H
                            have c25b0 : decide ((rd l1 x18_2) < (-1099511627776)) = false := decide_eq_false c25
                            clear c25
                            have H' := Aside0.mk H
                            clear H
                            have p176 : 0 ≤ (x18_2 : Int) := of_decide_eq_true (by first | (with_reducible assumption) | assumption)
                            have q176 : x18_2 < (l1.length : Int) := of_decide_eq_true (by first | (with_reducible assumption) | assumption)
                            obtain ⟨ad176, e176, hx176_0⟩ := Kd.at_int HR1.out x18_2 p176 q176
                            cases e176
                            replace hx176_0 := (HB.out.cell (World.block_lt_of_cell? w _ hx176_0)).trans hx176_0
                            replace p176 := eq_true p176
                            replace q176 := eq_true q176
                            have p177 : 0 ≤ (x18_2 : Int) := of_decide_eq_true (by first | (with_reducible assumption) | assumption)
                            have q177 : x18_2 < (l1.length : Int) := of_decide_eq_true (by first | (with_reducible assumption) | assumption)
                            obtain ⟨ad177, e177, hx177_0⟩ := Kd.at_int HR1.out x18_2 p177 q177
                            obtain rfl : ad176 = ad177 := (by injection e177)
                            replace hx177_0 := (HB.out.cell (World.block_lt_of_cell? w _ hx177_0)).trans hx177_0
                            replace p177 := eq_true p177
                            replace q177 := eq_true q177
                            go_wp2
                            repeat (go_quiet (fail); try go_wp2)
                            go_meet
                            case rel => exact ⟨_, (decide ((rd l1 x18_2) > 1099511627776)), (by first | rfl | (simp; done) | (simp [*]; done)), H', ⟨by have := HJ5.out; have := HK2.out; have := HJ18.out; first | omega | exact Nat.le_refl _⟩, ⟨by repeat (first | (with_reducible first | exact HB.out | apply below_alloc | apply pw_below_drewN | apply below_drew1) | exact HB.out)⟩⟩
                        · rw [if_neg c24] at H
                          exact absurd H (by simp)
                      · rw [if_neg c23] at H
                        exact absurd H (by simp)
                    case rest =>
                      clear HC22
                      try clear c1
                      try clear p1
                      try clear q1
                      try clear hx1
                      try clear c2
                      try clear p2
                      try clear c5
                      try clear c8
                      try clear c8b0
                      try clear c8b1
                      try clear c9
                      try clear c9b0
                      try clear c9b1
                      try clear c10
                      try clear p17
                      try clear q17
                      try clear hx17
                      try clear c20
                      try clear c20b0
                      try clear c21
                      try clear c23
                      try clear c23b0
                      try clear c24
                      try clear c24b0
                      try clear c25
                      try clear c25b0
                      try clear hx176_0
                      try clear hx177_0
                      try clear p176
                      try clear p177
                      try clear p2
                      try clear q176
                      try clear q177
                      obtain ⟨kq, x83_21, rfl, HA, HJ21, HB⟩ := hcut
                      cases kq with
                      | zero => exact absurd HA.out (by simp [blackboardlaw13_WearPicks.j3])
                      | succ kj21 =>
                        have H := HA.out
                        clear HA
                        simp only [blackboardlaw13_WearPicks.j3] at H
                        by_cases c26 : x83_21 = true
                        · subst c26
                          have H1 : (if t167 = t169 then (if (t168 == t170) = true then (if t171 = t173 then (some (t172 == t174)) else (some false)) else (some false)) else (some false)) = some r := by rw [if_pos rfl] at H; exact H
                          clear H
                          have H := H1
                          clear H1
                          by_cases c27 : t167 = t169
                          · rw [if_pos c27] at H
                            have c27b0 : (t167 == t169) = true := beq_iff_eq.mpr c27
                            have c27b1 : (t167 != t169) = false := bne_eq_false_iff_eq.mpr c27
                            clear c27
                            by_cases c28 : (t168 == t170) = true
                            · rw [if_pos c28] at H
                              have c28b0 : (t168 == t170) = true := c28
                              (try (have c28b1 : decide (t168 = t170) = true := by simpa using c28))
                              (try (have c28b2 : (t168 == t170) = true := by simpa using c28))
                              clear c28
                              by_cases c29 : t171 = t173
                              · rw [if_pos c29] at H
                                have c29b0 : (t171 == t173) = true := beq_iff_eq.mpr c29
                                have c29b1 : (t171 != t173) = false := bne_eq_false_iff_eq.mpr c29
                                clear c29
                                obtain rfl := Option.some.inj H
                                go_wp2
                                repeat (go_quiet (fail); try go_wp2)
                                go_ret
                                exact ⟨by first | rfl | (simp [errW_none, errW_some] <;> rfl) | (simp [*, errW_none, errW_some] <;> rfl), by repeat (first | (with_reducible first | exact HB.out | apply below_alloc | apply pw_below_drewN | apply below_drew1) | exact HB.out)⟩
                              · rw [if_neg c29] at H
                                have c29b0 : (t171 == t173) = false := beq_eq_false_iff_ne.mpr c29
                                have c29b1 : (t171 != t173) = true := bne_iff_ne.mpr c29
                                obtain rfl := Option.some.inj H
                                go_wp2
                                repeat (go_quiet (fail); try go_wp2)
                                go_ret
                                exact ⟨by first | rfl | (simp [errW_none, errW_some] <;> rfl) | (simp [*, errW_none, errW_some] <;> rfl), by repeat (first | (with_reducible first | exact HB.out | apply below_alloc | apply pw_below_drewN | apply below_drew1) | exact HB.out)⟩
                            · rw [if_neg c28] at H
                              have c28b0 : (t168 == t170) = false := by simpa using c28
                              (try (have c28b1 : decide (t168 = t170) = false := by simpa using c28))
                              (try (have c28b2 : (t168 == t170) = false := by simpa using c28))
                              (try (have c28b3 : ¬ (t168 = t170) := by simpa using c28))
                              clear c28
                              obtain rfl := Option.some.inj H
                              go_wp2
                              repeat (go_quiet (fail); try go_wp2)
                              go_ret
                              exact ⟨by first | rfl | (simp [errW_none, errW_some] <;> rfl) | (simp [*, errW_none, errW_some] <;> rfl), by repeat (first | (with_reducible first | exact HB.out | apply below_alloc | apply pw_below_drewN | apply below_drew1) | exact HB.out)⟩
                          · rw [if_neg c27] at H
                            have c27b0 : (t167 == t169) = false := beq_eq_false_iff_ne.mpr c27
                            have c27b1 : (t167 != t169) = true := bne_iff_ne.mpr c27
                            obtain rfl := Option.some.inj H
                            go_wp2
                            repeat (go_quiet (fail); try go_wp2)
                            go_ret
                            exact ⟨by first | rfl | (simp [errW_none, errW_some] <;> rfl) | (simp [*, errW_none, errW_some] <;> rfl), by repeat (first | (with_reducible first | exact HB.out | apply below_alloc | apply pw_below_drewN | apply below_drew1) | exact HB.out)⟩
                        · replace c26 := Bool.eq_false_iff.mpr c26
                          subst c26
                          have H1 : (if 0 ≤ x18_2 then (if x18_2 < (l2.length : Int) then (if rdOf false l2 x18_2 = true then (if x17_2 = true then (if x18_2 < (l1.length : Int) then (blackboardlaw13_WearPicks.l0 kj21 l1 l2 t167 t168 t169 t170 t171 t172 t173 t174 (mn (rd l1 x18_2) (rd l1 x18_2)) (mx (rd l1 x18_2) (rd l1 x18_2)) false (wrap64 (x18_2 + 1))) else (none)) else (if x18_2 < (l1.length : Int) then (blackboardlaw13_WearPicks.l0 kj21 l1 l2 t167 t168 t169 t170 t171 t172 t173 t174 (mn x15_2 (rd l1 x18_2)) (mx x16_2 (rd l1 x18_2)) x17_2 (wrap64 (x18_2 + 1))) else (none))) else (blackboardlaw13_WearPicks.l0 kj21 l1 l2 t167 t168 t169 t170 t171 t172 t173 t174 x15_2 x16_2 x17_2 (wrap64 (x18_2 + 1)))) else (none)) else (none)) = some r := by rw [if_neg (show ¬ (false = true) by decide)] at H; exact H
                          clear H
                          have H := H1
                          clear H1
                          by_cases c30 : 0 ≤ x18_2
                          · rw [if_pos c30] at H
                            have c30b0 : decide (0 ≤ x18_2) = true := decide_eq_true c30
                            clear c30
                            by_cases c31 : x18_2 < (l2.length : Int)
                            · rw [if_pos c31] at H
                              have c31b0 : decide (x18_2 < (l2.length : Int)) = true := decide_eq_true c31
                              clear c31
                              obtain ⟨bq32, hbq32⟩ : ∃ b_ : Bool, b_ = (rdOf false l2 x18_2) := ⟨_, rfl⟩
                              replace H : (if bq32 = true then (if x17_2 = true then (if x18_2 < (l1.length : Int) then (blackboardlaw13_WearPicks.l0 kj21 l1 l2 t167 t168 t169 t170 t171 t172 t173 t174 (mn (rd l1 x18_2) (rd l1 x18_2)) (mx (rd l1 x18_2) (rd l1 x18_2)) false (wrap64 (x18_2 + 1))) else (none)) else (if x18_2 < (l1.length : Int) then (blackboardlaw13_WearPicks.l0 kj21 l1 l2 t167 t168 t169 t170 t171 t172 t173 t174 (mn x15_2 (rd l1 x18_2)) (mx x16_2 (rd l1 x18_2)) x17_2 (wrap64 (x18_2 + 1))) else (none))) else (blackboardlaw13_WearPicks.l0 kj21 l1 l2 t167 t168 t169 t170 t171 t172 t173 t174 x15_2 x16_2 x17_2 (wrap64 (x18_2 + 1)))) = some r := by rw [← hbq32] at H; exact H
                              have Nbq32 := Aside0.mk hbq32
                              clear hbq32
                              by_cases c33 : bq32 = true
                              · subst c33
                                have H1 : (if x17_2 = true then (if x18_2 < (l1.length : Int) then (blackboardlaw13_WearPicks.l0 kj21 l1 l2 t167 t168 t169 t170 t171 t172 t173 t174 (mn (rd l1 x18_2) (rd l1 x18_2)) (mx (rd l1 x18_2) (rd l1 x18_2)) false (wrap64 (x18_2 + 1))) else (none)) else (if x18_2 < (l1.length : Int) then (blackboardlaw13_WearPicks.l0 kj21 l1 l2 t167 t168 t169 t170 t171 t172 t173 t174 (mn x15_2 (rd l1 x18_2)) (mx x16_2 (rd l1 x18_2)) x17_2 (wrap64 (x18_2 + 1))) else (none))) = some r := by rw [if_pos rfl] at H; exact H
                                clear H
                                have H := H1
                                clear H1
                                by_cases c34 : x17_2 = true
                                · subst c34
                                  have H1 : (if x18_2 < (l1.length : Int) then (blackboardlaw13_WearPicks.l0 kj21 l1 l2 t167 t168 t169 t170 t171 t172 t173 t174 (mn (rd l1 x18_2) (rd l1 x18_2)) (mx (rd l1 x18_2) (rd l1 x18_2)) false (wrap64 (x18_2 + 1))) else (none)) = some r := by rw [if_pos rfl] at H; exact H
                                  clear H
                                  have H := H1
                                  clear H1
                                  by_cases c35 : x18_2 < (l1.length : Int)
                                  · rw [if_pos c35] at H
                                    have c35b0 : decide (x18_2 < (l1.length : Int)) = true := decide_eq_true c35
                                    clear c35
                                    obtain ⟨ji36, hji36⟩ : ∃ j_ : Int, (mn (rd l1 x18_2) (rd l1 x18_2)) = j_ := ⟨_, rfl⟩
                                    replace H : (blackboardlaw13_WearPicks.l0 kj21 l1 l2 t167 t168 t169 t170 t171 t172 t173 t174 ji36 (mx (rd l1 x18_2) (rd l1 x18_2)) false (wrap64 (x18_2 + 1))) = some r := by first | (rw [hji36] at H; exact H) | (simp only [hji36] at H ⊢; exact H)
                                    have hji36_ : (if (rd l1 x18_2) < (rd l1 x18_2) then (rd l1 x18_2) else (rd l1 x18_2)) = ji36 := hji36
                                    obtain ⟨ji37, hji37⟩ : ∃ j_ : Int, (mx (rd l1 x18_2) (rd l1 x18_2)) = j_ := ⟨_, rfl⟩
                                    replace H : (blackboardlaw13_WearPicks.l0 kj21 l1 l2 t167 t168 t169 t170 t171 t172 t173 t174 ji36 ji37 false (wrap64 (x18_2 + 1))) = some r := by first | (rw [hji37] at H; exact H) | (simp only [hji37] at H ⊢; exact H)
                                    have hji37_ : (if (rd l1 x18_2) < (rd l1 x18_2) then (rd l1 x18_2) else (rd l1 x18_2)) = ji37 := hji37
                                    have H' := Aside0.mk H
                                    clear H
                                    have p178 : 0 ≤ (x18_2 : Int) := of_decide_eq_true (by first | (with_reducible assumption) | assumption)
                                    have q178 : x18_2 < (l2.length : Int) := of_decide_eq_true (by first | (with_reducible assumption) | assumption)
                                    obtain ⟨ad178, e178, hx178_0⟩ := Kd.at_bool HR2.out x18_2 p178 q178
                                    (try rw [← Nbq32.out] at hx178_0)
                                    cases e178
                                    replace hx178_0 := (HB.out.cell (World.block_lt_of_cell? w _ hx178_0)).trans hx178_0
                                    replace p178 := eq_true p178
                                    replace q178 := eq_true q178
                                    have p179 : 0 ≤ (x18_2 : Int) := of_decide_eq_true (by first | (with_reducible assumption) | assumption)
                                    have q179 : x18_2 < (l1.length : Int) := of_decide_eq_true (by first | (with_reducible assumption) | assumption)
                                    obtain ⟨ad179, e179, hx179_0⟩ := Kd.at_int HR1.out x18_2 p179 q179
                                    cases e179
                                    replace hx179_0 := (HB.out.cell (World.block_lt_of_cell? w _ hx179_0)).trans hx179_0
                                    replace p179 := eq_true p179
                                    replace q179 := eq_true q179
                                    have p180 : 0 ≤ (x18_2 : Int) := of_decide_eq_true (by first | (with_reducible assumption) | assumption)
                                    have q180 : x18_2 < (l1.length : Int) := of_decide_eq_true (by first | (with_reducible assumption) | assumption)
                                    obtain ⟨ad180, e180, hx180_0⟩ := Kd.at_int HR1.out x18_2 p180 q180
                                    obtain rfl : ad179 = ad180 := (by injection e180)
                                    replace hx180_0 := (HB.out.cell (World.block_lt_of_cell? w _ hx180_0)).trans hx180_0
                                    replace p180 := eq_true p180
                                    replace q180 := eq_true q180
                                    have p181 : 0 ≤ (x18_2 : Int) := of_decide_eq_true (by first | (with_reducible assumption) | assumption)
                                    have q181 : x18_2 < (l1.length : Int) := of_decide_eq_true (by first | (with_reducible assumption) | assumption)
                                    obtain ⟨ad181, e181, hx181_0⟩ := Kd.at_int HR1.out x18_2 p181 q181
                                    obtain rfl : ad179 = ad181 := (by injection e181)
                                    replace hx181_0 := (HB.out.cell (World.block_lt_of_cell? w _ hx181_0)).trans hx181_0
                                    replace p181 := eq_true p181
                                    replace q181 := eq_true q181
                                    have p182 : 0 ≤ (x18_2 : Int) := of_decide_eq_true (by first | (with_reducible assumption) | assumption)
                                    have q182 : x18_2 < (l1.length : Int) := of_decide_eq_true (by first | (with_reducible assumption) | assumption)
                                    obtain ⟨ad182, e182, hx182_0⟩ := Kd.at_int HR1.out x18_2 p182 q182
                                    obtain rfl : ad179 = ad182 := (by injection e182)
                                    replace hx182_0 := (HB.out.cell (World.block_lt_of_cell? w _ hx182_0)).trans hx182_0
                                    replace p182 := eq_true p182
                                    replace q182 := eq_true q182
                                    go_wp2
                                    repeat (go_quiet (fail); try go_wp2)
                                    go_roundg kj21
                                    case measure => have := HJ5.out; have := HK2.out; have := HJ18.out; have := HJ21.out; omega
                                    case rel => exact ⟨(ji36), (ji37), (false), (wrap64 (x18_2 + 1)), (by first | rfl | (simp; done) | (simp only [← hji36] <;> (first | rfl | (simp; done) | (unfold mn; simp; done) | (unfold mx; simp; done))) | (simp [*]; done)), (by first | rfl | (simp; done) | (simp only [← hji37] <;> (first | rfl | (simp; done) | (unfold mn; simp; done) | (unfold mx; simp; done))) | (simp [*]; done)), (by first | rfl | (simp; done) | (simp [*]; done)), (by first | rfl | (simp; done) | (simp [*]; done)), H', ⟨by have := HJ5.out; have := HK2.out; have := HJ18.out; have := HJ21.out; omega⟩, ⟨by repeat (first | (with_reducible first | exact HB.out | apply below_alloc | apply pw_below_drewN | apply below_drew1) | exact HB.out)⟩⟩
                                  · rw [if_neg c35] at H
                                    exact absurd H (by simp)
                                · replace c34 := Bool.eq_false_iff.mpr c34
                                  subst c34
                                  have H1 : (if x18_2 < (l1.length : Int) then (blackboardlaw13_WearPicks.l0 kj21 l1 l2 t167 t168 t169 t170 t171 t172 t173 t174 (mn x15_2 (rd l1 x18_2)) (mx x16_2 (rd l1 x18_2)) false (wrap64 (x18_2 + 1))) else (none)) = some r := by rw [if_neg (show ¬ (false = true) by decide)] at H; exact H
                                  clear H
                                  have H := H1
                                  clear H1
                                  by_cases c38 : x18_2 < (l1.length : Int)
                                  · rw [if_pos c38] at H
                                    have c38b0 : decide (x18_2 < (l1.length : Int)) = true := decide_eq_true c38
                                    clear c38
                                    obtain ⟨ji39, hji39⟩ : ∃ j_ : Int, (mn x15_2 (rd l1 x18_2)) = j_ := ⟨_, rfl⟩
                                    replace H : (blackboardlaw13_WearPicks.l0 kj21 l1 l2 t167 t168 t169 t170 t171 t172 t173 t174 ji39 (mx x16_2 (rd l1 x18_2)) false (wrap64 (x18_2 + 1))) = some r := by first | (rw [hji39] at H; exact H) | (simp only [hji39] at H ⊢; exact H)
                                    have hji39_ : (if (rd l1 x18_2) < x15_2 then (rd l1 x18_2) else x15_2) = ji39 := hji39
                                    obtain ⟨ji40, hji40⟩ : ∃ j_ : Int, (mx x16_2 (rd l1 x18_2)) = j_ := ⟨_, rfl⟩
                                    replace H : (blackboardlaw13_WearPicks.l0 kj21 l1 l2 t167 t168 t169 t170 t171 t172 t173 t174 ji39 ji40 false (wrap64 (x18_2 + 1))) = some r := by first | (rw [hji40] at H; exact H) | (simp only [hji40] at H ⊢; exact H)
                                    have hji40_ : (if x16_2 < (rd l1 x18_2) then (rd l1 x18_2) else x16_2) = ji40 := hji40
                                    have H' := Aside0.mk H
                                    clear H
                                    have p178 : 0 ≤ (x18_2 : Int) := of_decide_eq_true (by first | (with_reducible assumption) | assumption)
                                    have q178 : x18_2 < (l2.length : Int) := of_decide_eq_true (by first | (with_reducible assumption) | assumption)
                                    obtain ⟨ad178, e178, hx178_0⟩ := Kd.at_bool HR2.out x18_2 p178 q178
                                    (try rw [← Nbq32.out] at hx178_0)
                                    cases e178
                                    replace hx178_0 := (HB.out.cell (World.block_lt_of_cell? w _ hx178_0)).trans hx178_0
                                    replace p178 := eq_true p178
                                    replace q178 := eq_true q178
                                    have p183 : 0 ≤ (x18_2 : Int) := of_decide_eq_true (by first | (with_reducible assumption) | assumption)
                                    have q183 : x18_2 < (l1.length : Int) := of_decide_eq_true (by first | (with_reducible assumption) | assumption)
                                    obtain ⟨ad183, e183, hx183_0⟩ := Kd.at_int HR1.out x18_2 p183 q183
                                    cases e183
                                    replace hx183_0 := (HB.out.cell (World.block_lt_of_cell? w _ hx183_0)).trans hx183_0
                                    replace p183 := eq_true p183
                                    replace q183 := eq_true q183
                                    have p184 : 0 ≤ (x18_2 : Int) := of_decide_eq_true (by first | (with_reducible assumption) | assumption)
                                    have q184 : x18_2 < (l1.length : Int) := of_decide_eq_true (by first | (with_reducible assumption) | assumption)
                                    obtain ⟨ad184, e184, hx184_0⟩ := Kd.at_int HR1.out x18_2 p184 q184
                                    obtain rfl : ad183 = ad184 := (by injection e184)
                                    replace hx184_0 := (HB.out.cell (World.block_lt_of_cell? w _ hx184_0)).trans hx184_0
                                    replace p184 := eq_true p184
                                    replace q184 := eq_true q184
                                    go_wp2
                                    repeat (go_quiet (fail); try go_wp2)
                                    go_roundg kj21
                                    case measure => have := HJ5.out; have := HK2.out; have := HJ18.out; have := HJ21.out; omega
                                    case rel => exact ⟨(ji39), (ji40), (false), (wrap64 (x18_2 + 1)), (by first | rfl | (simp; done) | (simp only [← hji39] <;> (first | rfl | (simp; done) | (unfold mn; simp; done) | (unfold mx; simp; done))) | (simp [*]; done)), (by first | rfl | (simp; done) | (simp only [← hji40] <;> (first | rfl | (simp; done) | (unfold mn; simp; done) | (unfold mx; simp; done))) | (simp [*]; done)), (by first | rfl | (simp; done) | (simp [*]; done)), (by first | rfl | (simp; done) | (simp [*]; done)), H', ⟨by have := HJ5.out; have := HK2.out; have := HJ18.out; have := HJ21.out; omega⟩, ⟨by repeat (first | (with_reducible first | exact HB.out | apply below_alloc | apply pw_below_drewN | apply below_drew1) | exact HB.out)⟩⟩
                                  · rw [if_neg c38] at H
                                    exact absurd H (by simp)
                              · replace c33 := Bool.eq_false_iff.mpr c33
                                subst c33
                                have H1 : (blackboardlaw13_WearPicks.l0 kj21 l1 l2 t167 t168 t169 t170 t171 t172 t173 t174 x15_2 x16_2 x17_2 (wrap64 (x18_2 + 1))) = some r := by rw [if_neg (show ¬ (false = true) by decide)] at H; exact H
                                clear H
                                have H := H1
                                clear H1
                                have H' := Aside0.mk H
                                clear H
                                have p178 : 0 ≤ (x18_2 : Int) := of_decide_eq_true (by first | (with_reducible assumption) | assumption)
                                have q178 : x18_2 < (l2.length : Int) := of_decide_eq_true (by first | (with_reducible assumption) | assumption)
                                obtain ⟨ad178, e178, hx178_0⟩ := Kd.at_bool HR2.out x18_2 p178 q178
                                (try rw [← Nbq32.out] at hx178_0)
                                cases e178
                                replace hx178_0 := (HB.out.cell (World.block_lt_of_cell? w _ hx178_0)).trans hx178_0
                                replace p178 := eq_true p178
                                replace q178 := eq_true q178
                                go_wp2
                                repeat (go_quiet (fail); try go_wp2)
                                go_roundg kj21
                                case measure => have := HJ5.out; have := HK2.out; have := HJ18.out; have := HJ21.out; omega
                                case rel => exact ⟨(x15_2), (x16_2), (x17_2), (wrap64 (x18_2 + 1)), (by first | rfl | (simp; done) | (simp [*]; done)), (by first | rfl | (simp; done) | (simp [*]; done)), (by first | rfl | (simp; done) | (simp [*]; done)), (by first | rfl | (simp; done) | (simp [*]; done)), H', ⟨by have := HJ5.out; have := HK2.out; have := HJ18.out; have := HJ21.out; omega⟩, ⟨by repeat (first | (with_reducible first | exact HB.out | apply below_alloc | apply pw_below_drewN | apply below_drew1) | exact HB.out)⟩⟩
                            · rw [if_neg c31] at H
                              exact absurd H (by simp)
                          · rw [if_neg c30] at H
                            exact absurd H (by simp)
                  · replace c21 := Bool.eq_false_iff.mpr c21
                    subst c21
                    have H1 : (if t167 = t169 then (if (t168 == t170) = true then (if t171 = t173 then (if (t172 == t174) = true then ((wear_Gap.f kj18 l1 l2).bind fun t175 => (some (t175 == (wrap64 (x16_2 - x15_2))))) else (some false)) else (some false)) else (some false)) else (some false)) = some r := by rw [if_neg (show ¬ (false = true) by decide)] at H; exact H
                    clear H
                    have H := H1
                    clear H1
                    by_cases c41 : t167 = t169
                    · rw [if_pos c41] at H
                      have c41b0 : (t167 == t169) = true := beq_iff_eq.mpr c41
                      have c41b1 : (t167 != t169) = false := bne_eq_false_iff_eq.mpr c41
                      clear c41
                      by_cases c42 : (t168 == t170) = true
                      · rw [if_pos c42] at H
                        have c42b0 : (t168 == t170) = true := c42
                        (try (have c42b1 : decide (t168 = t170) = true := by simpa using c42))
                        (try (have c42b2 : (t168 == t170) = true := by simpa using c42))
                        clear c42
                        by_cases c43 : t171 = t173
                        · rw [if_pos c43] at H
                          have c43b0 : (t171 == t173) = true := beq_iff_eq.mpr c43
                          have c43b1 : (t171 != t173) = false := bne_eq_false_iff_eq.mpr c43
                          clear c43
                          by_cases c44 : (t172 == t174) = true
                          · rw [if_pos c44] at H
                            have c44b0 : (t172 == t174) = true := c44
                            (try (have c44b1 : decide (t172 = t174) = true := by simpa using c44))
                            (try (have c44b2 : (t172 == t174) = true := by simpa using c44))
                            clear c44
                            replace H := Option.bind_eq_some_iff.mp H
                            obtain ⟨t175, A450, H⟩ := H
                            replace H : (some (t175 == (wrap64 (x16_2 - x15_2)))) = some r := H
                            have A45 := Aside0.mk A450
                            clear A450
                            obtain rfl := Option.some.inj H
                            go_wp2_with (first | (go_at_call 10; (with_reducible refine (wear_Gap.calls kj18 _ _ l1 _ _ l2 t175 _ ?side1 ?side2 ?side3 ?side4 A45.out).mono ?_); (case side1 => repeat (first | exact (Kd.C_below HR1.out HB.out) | (with_reducible refine Kd.C_alloc ?_ _) | (with_reducible refine Kd.C_drewN ?_ _) | (with_reducible refine Kd.C_drew ?_))); (case side2 => exact HC1.out); (case side3 => repeat (first | exact (Kd.C_below HR2.out HB.out) | (with_reducible refine Kd.C_alloc ?_ _) | (with_reducible refine Kd.C_drewN ?_ _) | (with_reducible refine Kd.C_drew ?_))); (case side4 => exact HC2.out); rintro e w46 ⟨rfl, hb⟩; have n0_ := Aside0.mk (below_step (by repeat (first | (with_reducible first | exact HB.out | apply below_alloc | apply pw_below_drewN | apply below_drew1) | exact HB.out)) hb); clear HB; have HB := n0_; clear n0_; (try clear hb); (try clear hb2); (try clear hk); (try clear hi)))
                            repeat (go_quiet (first | (go_at_call 10; (with_reducible refine (wear_Gap.calls kj18 _ _ l1 _ _ l2 t175 _ ?side1 ?side2 ?side3 ?side4 A45.out).mono ?_); (case side1 => repeat (first | exact (Kd.C_below HR1.out HB.out) | (with_reducible refine Kd.C_alloc ?_ _) | (with_reducible refine Kd.C_drewN ?_ _) | (with_reducible refine Kd.C_drew ?_))); (case side2 => exact HC1.out); (case side3 => repeat (first | exact (Kd.C_below HR2.out HB.out) | (with_reducible refine Kd.C_alloc ?_ _) | (with_reducible refine Kd.C_drewN ?_ _) | (with_reducible refine Kd.C_drew ?_))); (case side4 => exact HC2.out); rintro e w46 ⟨rfl, hb⟩; have n0_ := Aside0.mk (below_step (by repeat (first | (with_reducible first | exact HB.out | apply below_alloc | apply pw_below_drewN | apply below_drew1) | exact HB.out)) hb); clear HB; have HB := n0_; clear n0_; (try clear hb); (try clear hb2); (try clear hk); (try clear hi))); try go_wp2_with (first | (go_at_call 10; (with_reducible refine (wear_Gap.calls kj18 _ _ l1 _ _ l2 t175 _ ?side1 ?side2 ?side3 ?side4 A45.out).mono ?_); (case side1 => repeat (first | exact (Kd.C_below HR1.out HB.out) | (with_reducible refine Kd.C_alloc ?_ _) | (with_reducible refine Kd.C_drewN ?_ _) | (with_reducible refine Kd.C_drew ?_))); (case side2 => exact HC1.out); (case side3 => repeat (first | exact (Kd.C_below HR2.out HB.out) | (with_reducible refine Kd.C_alloc ?_ _) | (with_reducible refine Kd.C_drewN ?_ _) | (with_reducible refine Kd.C_drew ?_))); (case side4 => exact HC2.out); rintro e w46 ⟨rfl, hb⟩; have n0_ := Aside0.mk (below_step (by repeat (first | (with_reducible first | exact HB.out | apply below_alloc | apply pw_below_drewN | apply below_drew1) | exact HB.out)) hb); clear HB; have HB := n0_; clear n0_; (try clear hb); (try clear hb2); (try clear hk); (try clear hi))))
                            go_ret
                            exact ⟨by first | rfl | (simp [errW_none, errW_some] <;> rfl) | (simp [*, errW_none, errW_some] <;> rfl), by repeat (first | (with_reducible first | exact HB.out | apply below_alloc | apply pw_below_drewN | apply below_drew1) | exact HB.out)⟩
                          · rw [if_neg c44] at H
                            have c44b0 : (t172 == t174) = false := by simpa using c44
                            (try (have c44b1 : decide (t172 = t174) = false := by simpa using c44))
                            (try (have c44b2 : (t172 == t174) = false := by simpa using c44))
                            (try (have c44b3 : ¬ (t172 = t174) := by simpa using c44))
                            clear c44
                            obtain rfl := Option.some.inj H
                            go_wp2
                            repeat (go_quiet (fail); try go_wp2)
                            go_ret
                            exact ⟨by first | rfl | (simp [errW_none, errW_some] <;> rfl) | (simp [*, errW_none, errW_some] <;> rfl), by repeat (first | (with_reducible first | exact HB.out | apply below_alloc | apply pw_below_drewN | apply below_drew1) | exact HB.out)⟩
                        · rw [if_neg c43] at H
                          have c43b0 : (t171 == t173) = false := beq_eq_false_iff_ne.mpr c43
                          have c43b1 : (t171 != t173) = true := bne_iff_ne.mpr c43
                          obtain rfl := Option.some.inj H
                          go_wp2
                          repeat (go_quiet (fail); try go_wp2)
                          go_ret
                          exact ⟨by first | rfl | (simp [errW_none, errW_some] <;> rfl) | (simp [*, errW_none, errW_some] <;> rfl), by repeat (first | (with_reducible first | exact HB.out | apply below_alloc | apply pw_below_drewN | apply below_drew1) | exact HB.out)⟩
                      · rw [if_neg c42] at H
                        have c42b0 : (t168 == t170) = false := by simpa using c42
                        (try (have c42b1 : decide (t168 = t170) = false := by simpa using c42))
                        (try (have c42b2 : (t168 == t170) = false := by simpa using c42))
                        (try (have c42b3 : ¬ (t168 = t170) := by simpa using c42))
                        clear c42
                        obtain rfl := Option.some.inj H
                        go_wp2
                        repeat (go_quiet (fail); try go_wp2)
                        go_ret
                        exact ⟨by first | rfl | (simp [errW_none, errW_some] <;> rfl) | (simp [*, errW_none, errW_some] <;> rfl), by repeat (first | (with_reducible first | exact HB.out | apply below_alloc | apply pw_below_drewN | apply below_drew1) | exact HB.out)⟩
                    · rw [if_neg c41] at H
                      have c41b0 : (t167 == t169) = false := beq_eq_false_iff_ne.mpr c41
                      have c41b1 : (t167 != t169) = true := bne_iff_ne.mpr c41
                      obtain rfl := Option.some.inj H
                      go_wp2
                      repeat (go_quiet (fail); try go_wp2)
                      go_ret
                      exact ⟨by first | rfl | (simp [errW_none, errW_some] <;> rfl) | (simp [*, errW_none, errW_some] <;> rfl), by repeat (first | (with_reducible first | exact HB.out | apply below_alloc | apply pw_below_drewN | apply below_drew1) | exact HB.out)⟩
  · replace c5 := Bool.eq_false_iff.mpr c5
    subst c5
    have H1 : (some false) = some r := by rw [if_neg (show ¬ (false = true) by decide)] at H; exact H
    clear H
    have H := H1
    clear H1
    obtain rfl := Option.some.inj H
    go_enter Try.func5, Try.ntmps5
    go_wp2_with (first | (go_at_call 8; (with_reducible refine (blackboardlaw13_awake.calls k  false _ A4.out).mono ?_); rintro e w47 ⟨rfl, hb⟩; have n0_ := Aside0.mk (below_step (by repeat (first | (with_reducible first | exact HB.out | apply below_alloc | apply pw_below_drewN | apply below_drew1) | exact HB.out)) hb); clear HB; have HB := n0_; clear n0_; (try clear hb); (try clear hb2); (try clear hk); (try clear hi)))
    repeat (go_quiet (first | (go_at_call 8; (with_reducible refine (blackboardlaw13_awake.calls k  false _ A4.out).mono ?_); rintro e w47 ⟨rfl, hb⟩; have n0_ := Aside0.mk (below_step (by repeat (first | (with_reducible first | exact HB.out | apply below_alloc | apply pw_below_drewN | apply below_drew1) | exact HB.out)) hb); clear HB; have HB := n0_; clear n0_; (try clear hb); (try clear hb2); (try clear hk); (try clear hi))); try go_wp2_with (first | (go_at_call 8; (with_reducible refine (blackboardlaw13_awake.calls k  false _ A4.out).mono ?_); rintro e w47 ⟨rfl, hb⟩; have n0_ := Aside0.mk (below_step (by repeat (first | (with_reducible first | exact HB.out | apply below_alloc | apply pw_below_drewN | apply below_drew1) | exact HB.out)) hb); clear HB; have HB := n0_; clear n0_; (try clear hb); (try clear hb2); (try clear hk); (try clear hi))))
    go_ret
    exact ⟨by first | rfl | (simp [errW_none, errW_some] <;> rfl) | (simp [*, errW_none, errW_some] <;> rfl), by repeat (first | (with_reducible first | exact HB.out | apply below_alloc | apply pw_below_drewN | apply below_drew1) | exact HB.out)⟩

end Go.Proofs.Ytkmdefelepmfiaa.M
