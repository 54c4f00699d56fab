/- Printed for this seat by a program of this session (over the kit's print), with contracts of its own laid in. -/
import Derived.Test.YtfgfjgjabcmheaaRx0
import Derived.BigQuiet
namespace Go.Proofs.Ytfgfjgjabcmheaa.R
open Go.RowKit Go.Proofs.YtfgfjgjabcmheaaW.PrintWords Go.Proofs.YtfgfjgjabcmheaaW.PrintLast Go.Proofs.YtfgfjgjabcmheaaW.PrintMore
attribute [local go_sem] max2_int min2_int max_two min_two max_three min_three max_four min_four   -- for this text's walks alone
set_option linter.unusedVariables false
set_option linter.unusedSimpArgs false

/-! ### blackboardref15_Victim: function 23 -/
mutual
def blackboardref15_Victim.l0 : Nat → List Int → List Int → List Bool → Int → Int → Option (Int × Bool)
  | 0, _, _, _, _, _ => none
  | k + 1, x0, x1, x2, x8, x9 => if x9 < (x2.length : Int) then (if x9 < (x1.length : Int) then (blackboardref15_Victim.j1 k x0 x1 x2 x8 x9 (decide (x9 < (x0.length : Int)))) else (blackboardref15_Victim.j1 k x0 x1 x2 x8 x9 false)) else (blackboardref15_Victim.j1 k x0 x1 x2 x8 x9 false)
def blackboardref15_Victim.j1 : Nat → List Int → List Int → List Bool → Int → Int → Bool → Option (Int × Bool)
  | 0, _, _, _, _, _, _ => none
  | k + 1, x0, x1, x2, x8, x9, x25 => if x25 = true then (if 0 ≤ x9 then (if x9 < (x2.length : Int) then (if rdOf false x2 x9 = true then (if x8 < 0 then (blackboardref15_Victim.l0 k x0 x1 x2 x9 (wrap64 (x9 + 1))) else (if x9 < (x0.length : Int) then (if 0 ≤ x8 then (if x8 < (x0.length : Int) then (if (rd x0 x9) < (rd x0 x8) then (blackboardref15_Victim.l0 k x0 x1 x2 x9 (wrap64 (x9 + 1))) else (if (rd x0 x9) = (rd x0 x8) then (if x9 < (x1.length : Int) then (if x8 < (x1.length : Int) then (if (rd x1 x9) < (rd x1 x8) then (blackboardref15_Victim.l0 k x0 x1 x2 x9 (wrap64 (x9 + 1))) else (blackboardref15_Victim.l0 k x0 x1 x2 x8 (wrap64 (x9 + 1)))) else (none)) else (none)) else (blackboardref15_Victim.l0 k x0 x1 x2 x8 (wrap64 (x9 + 1))))) else (none)) else (none)) else (none))) else (blackboardref15_Victim.l0 k x0 x1 x2 x8 (wrap64 (x9 + 1)))) else (none)) else (none)) else (some (mx x8 0, decide (x8 ≥ 0)))
end
def blackboardref15_Victim.f (k : Nat) (l0 : List Int) (l1 : List Int) (l2 : List Bool) : Option (Int × Bool) := blackboardref15_Victim.l0 k l0 l1 l2 (-1) 0
theorem blackboardref15_Victim.mono_l : ∀ k, (∀ y0 y1 y2 y3 y4, LeO (blackboardref15_Victim.l0 k y0 y1 y2 y3 y4) (blackboardref15_Victim.l0 (k + 1) y0 y1 y2 y3 y4)) ∧ (∀ y0 y1 y2 y3 y4 y5, LeO (blackboardref15_Victim.j1 k y0 y1 y2 y3 y4 y5) (blackboardref15_Victim.j1 (k + 1) y0 y1 y2 y3 y4 y5))
  | 0 => ⟨fun _ _ _ _ _ r h => by simp [blackboardref15_Victim.l0] at h, fun _ _ _ _ _ _ r h => by simp [blackboardref15_Victim.j1] at h⟩
  | k + 1 => by
    obtain ⟨ih0, ih1⟩ := blackboardref15_Victim.mono_l k
    refine ⟨?_, ?_⟩
    · intro y0 y1 y2 y3 y4
      unfold blackboardref15_Victim.l0
      repeat' first
      | (with_reducible exact ih0 _ _ _ _ _)
      | (with_reducible exact ih1 _ _ _ _ _ _)
      | (with_reducible exact LeO.refl _)
      | (with_reducible exact LeO.none _)
      | (with_reducible refine LeO.ite ?_ ?_)
      | (with_reducible refine LeO.bind ?_ (fun _ => ?_))
      | exact ih0 _ _ _ _ _
      | exact ih1 _ _ _ _ _ _
      | exact LeO.none _
      | refine LeO.ite ?_ ?_
      | refine LeO.bind ?_ (fun _ => ?_)
    · intro y0 y1 y2 y3 y4 y5
      unfold blackboardref15_Victim.j1
      repeat' first
      | (with_reducible exact ih0 _ _ _ _ _)
      | (with_reducible exact ih1 _ _ _ _ _ _)
      | (with_reducible exact LeO.refl _)
      | (with_reducible exact LeO.none _)
      | (with_reducible refine LeO.ite ?_ ?_)
      | (with_reducible refine LeO.bind ?_ (fun _ => ?_))
      | exact ih0 _ _ _ _ _
      | exact ih1 _ _ _ _ _ _
      | exact LeO.none _
      | refine LeO.ite ?_ ?_
      | refine LeO.bind ?_ (fun _ => ?_)
theorem blackboardref15_Victim.mono : ∀ a0 a1 a2 k, LeO (blackboardref15_Victim.f k a0 a1 a2) (blackboardref15_Victim.f (k + 1) a0 a1 a2) := by
  intro a0 a1 a2 k
  obtain ⟨ih0, ih1⟩ := blackboardref15_Victim.mono_l k
  unfold blackboardref15_Victim.f
  repeat' first
      | (with_reducible exact ih0 _ _ _ _ _)
      | (with_reducible exact ih1 _ _ _ _ _ _)
      | (with_reducible exact LeO.refl _)
      | (with_reducible exact LeO.none _)
      | (with_reducible refine LeO.ite ?_ ?_)
      | (with_reducible refine LeO.bind ?_ (fun _ => ?_))
      | exact ih0 _ _ _ _ _
      | exact ih1 _ _ _ _ _ _
      | exact LeO.none _
      | refine LeO.ite ?_ ?_
      | refine LeO.bind ?_ (fun _ => ?_)
set_option maxHeartbeats 8000000 in
set_option maxRecDepth 100000 in
theorem blackboardref15_Victim.calls (k : Nat) (A0 : Option Addr) (c0 : Nat) (l0 : List Int) (A1 : Option Addr) (c1 : Nat) (l1 : List Int) (A2 : Option Addr) (c2 : Nat) (l2 : List Bool) (r1 : Int) (r2 : Bool) (w : World) (hr0 : Kd.C (Kd.int .i64) w A0 l0.length l0) (hc0 : l0.length ≤ c0) (hr1 : Kd.C (Kd.int .i64) w A1 l1.length l1) (hc1 : l1.length ≤ c1) (hr2 : Kd.C Kd.bool w A2 l2.length l2) (hc2 : l2.length ≤ c2) (h : blackboardref15_Victim.f k l0 l1 l2 = some (r1, r2)) :
    Calls Try.prog 23 #[.slice A0 l0.length c0, .slice A1 l1.length c1, .slice A2 l2.length c2] w fun e w' => e = .returned (.tuple #[.int .i64 r1, .bool r2]) ∧ Below w.heap.size w w' := by
  have HR0 := Aside0.mk hr0
  have HC0 := Aside0.mk hc0
  clear hr0 hc0
  have HR1 := Aside0.mk hr1
  have HC1 := Aside0.mk hc1
  clear hr1 hc1
  have HR2 := Aside0.mk hr2
  have HC2 := Aside0.mk hc2
  clear hr2 hc2
  have HB := Aside0.mk (Below.refl w.heap.size w)
  have H : (blackboardref15_Victim.l0 k l0 l1 l2 (-1) 0) = some (r1, r2) := h
  clear h
  have H' := Aside0.mk H
  clear H
  go_enter Try.func23, Try.ntmps23
  go_wp2
  repeat (go_quiet (fail); try go_wp2)
  go_loopg [8, 9] k (fun kq v8 v9 w' => ∃ (x8_1 : Int) (x9_1 : Int), v8 = .int .i64 x8_1 ∧ v9 = .int .i64 x9_1 ∧ Aside0 (blackboardref15_Victim.l0 kq l0 l1 l2 x8_1 x9_1 = some (r1, r2)) ∧ Aside0 (kq ≤ k) ∧ Aside0 (Below w.heap.size w w'))
  case atStart => exact ⟨((-1)), (0), (by first | rfl | (simp; done) | (simp [*]; done)), (by first | rfl | (simp; done) | (simp [*]; done)), H', ⟨Nat.le_refl _⟩, ⟨by repeat (first | (with_reducible first | exact HB.out | apply below_alloc | apply pw_below_drewN | apply below_drew1) | exact HB.out)⟩⟩
  case round =>
    clear H'
    try clear c1
    try clear c2
    try clear p2
    obtain ⟨x8_1, x9_1, rfl, rfl, HA, HK1, HB⟩ := hrel
    cases gk with
    | zero => exact absurd HA.out (by simp [blackboardref15_Victim.l0])
    | succ k1 =>
      have H := HA.out
      clear HA
      simp only [blackboardref15_Victim.l0] at H
      have HC4 := Aside0.mk H
      clear H
      go_upto_region 3 with (fail)
      repeat (go_quiet (fail); go_upto_region 3 with (fail))
      go_cut [25] (fun v25 wc => ∃ (kq : Nat) (x25_3 : Bool), v25 = .bool x25_3 ∧ Aside0 (blackboardref15_Victim.j1 kq l0 l1 l2 x8_1 x9_1 x25_3 = some (r1, r2)) ∧ Aside0 (kq ≤ k1) ∧ Aside0 (Below w.heap.size w wc))
      case first =>
        have H := HC4.out
        clear HC4
        by_cases c5 : x9_1 < (l2.length : Int)
        · rw [if_pos c5] at H
          have c5b0 : decide (x9_1 < (l2.length : Int)) = true := decide_eq_true c5
          clear c5
          (first | rw [c5b0] | (simp only [i64_w, i32_w]; rw [c5b0]) | skip)
          by_cases c6 : x9_1 < (l1.length : Int)
          · rw [if_pos c6] at H
            have c6b0 : decide (x9_1 < (l1.length : Int)) = true := decide_eq_true c6
            clear c6
            have H' := Aside0.mk H
            clear H
            go_wp2
            repeat (go_quiet (fail); try go_wp2)
            go_meet
            case rel => exact ⟨_, (decide (x9_1 < (l0.length : Int))), (by first | rfl | (simp; done) | (simp [*]; done)), H', ⟨by have := HK1.out; first | omega | exact Nat.le_refl _⟩, ⟨by repeat (first | (with_reducible first | exact HB.out | apply below_alloc | apply pw_below_drewN | apply below_drew1) | exact HB.out)⟩⟩
          · rw [if_neg c6] at H
            have c6b0 : decide (x9_1 < (l1.length : Int)) = false := decide_eq_false c6
            clear c6
            have H' := Aside0.mk H
            clear H
            go_wp2
            repeat (go_quiet (fail); try go_wp2)
            go_meet
            case rel => exact ⟨_, (false), (by first | rfl | (simp; done) | (simp [*]; done)), H', ⟨by have := HK1.out; first | omega | exact Nat.le_refl _⟩, ⟨by repeat (first | (with_reducible first | exact HB.out | apply below_alloc | apply pw_below_drewN | apply below_drew1) | exact HB.out)⟩⟩
        · rw [if_neg c5] at H
          have c5b0 : decide (x9_1 < (l2.length : Int)) = false := decide_eq_false c5
          clear c5
          (first | rw [c5b0] | (simp only [i64_w, i32_w]; rw [c5b0]) | skip)
          have H' := Aside0.mk H
          clear H
          go_wp2
          repeat (go_quiet (fail); try go_wp2)
          go_meet
          case rel => exact ⟨_, (false), (by first | rfl | (simp; done) | (simp [*]; done)), H', ⟨by have := HK1.out; first | omega | exact Nat.le_refl _⟩, ⟨by repeat (first | (with_reducible first | exact HB.out | apply below_alloc | apply pw_below_drewN | apply below_drew1) | exact HB.out)⟩⟩
      case rest =>
        clear HC4
        try clear c1
        try clear c2
        try clear p2
        try clear c5
        try clear c5b0
        try clear c6
        try clear c6b0
        try clear p2
        obtain ⟨kq, x25_3, rfl, HA, HJ3, HB⟩ := hcut
        cases kq with
        | zero => exact absurd HA.out (by simp [blackboardref15_Victim.j1])
        | succ kj3 =>
          have H := HA.out
          clear HA
          simp only [blackboardref15_Victim.j1] at H
          by_cases c7 : x25_3 = true
          · subst c7
            have H1 : (if 0 ≤ x9_1 then (if x9_1 < (l2.length : Int) then (if rdOf false l2 x9_1 = true then (if x8_1 < 0 then (blackboardref15_Victim.l0 kj3 l0 l1 l2 x9_1 (wrap64 (x9_1 + 1))) else (if x9_1 < (l0.length : Int) then (if 0 ≤ x8_1 then (if x8_1 < (l0.length : Int) then (if (rd l0 x9_1) < (rd l0 x8_1) then (blackboardref15_Victim.l0 kj3 l0 l1 l2 x9_1 (wrap64 (x9_1 + 1))) else (if (rd l0 x9_1) = (rd l0 x8_1) then (if x9_1 < (l1.length : Int) then (if x8_1 < (l1.length : Int) then (if (rd l1 x9_1) < (rd l1 x8_1) then (blackboardref15_Victim.l0 kj3 l0 l1 l2 x9_1 (wrap64 (x9_1 + 1))) else (blackboardref15_Victim.l0 kj3 l0 l1 l2 x8_1 (wrap64 (x9_1 + 1)))) else (none)) else (none)) else (blackboardref15_Victim.l0 kj3 l0 l1 l2 x8_1 (wrap64 (x9_1 + 1))))) else (none)) else (none)) else (none))) else (blackboardref15_Victim.l0 kj3 l0 l1 l2 x8_1 (wrap64 (x9_1 + 1)))) else (none)) else (none)) = some (r1, r2) := by rw [if_pos rfl] at H; exact H
            clear H
            have H := H1
            clear H1
            by_cases c8 : 0 ≤ x9_1
            · rw [if_pos c8] at H
              have c8b0 : decide (0 ≤ x9_1) = true := decide_eq_true c8
              clear c8
              by_cases c9 : x9_1 < (l2.length : Int)
              · rw [if_pos c9] at H
                have c9b0 : decide (x9_1 < (l2.length : Int)) = true := decide_eq_true c9
                clear c9
                obtain ⟨bq10, hbq10⟩ : ∃ b_ : Bool, b_ = (rdOf false l2 x9_1) := ⟨_, rfl⟩
                replace H : (if bq10 = true then (if x8_1 < 0 then (blackboardref15_Victim.l0 kj3 l0 l1 l2 x9_1 (wrap64 (x9_1 + 1))) else (if x9_1 < (l0.length : Int) then (if 0 ≤ x8_1 then (if x8_1 < (l0.length : Int) then (if (rd l0 x9_1) < (rd l0 x8_1) then (blackboardref15_Victim.l0 kj3 l0 l1 l2 x9_1 (wrap64 (x9_1 + 1))) else (if (rd l0 x9_1) = (rd l0 x8_1) then (if x9_1 < (l1.length : Int) then (if x8_1 < (l1.length : Int) then (if (rd l1 x9_1) < (rd l1 x8_1) then (blackboardref15_Victim.l0 kj3 l0 l1 l2 x9_1 (wrap64 (x9_1 + 1))) else (blackboardref15_Victim.l0 kj3 l0 l1 l2 x8_1 (wrap64 (x9_1 + 1)))) else (none)) else (none)) else (blackboardref15_Victim.l0 kj3 l0 l1 l2 x8_1 (wrap64 (x9_1 + 1))))) else (none)) else (none)) else (none))) else (blackboardref15_Victim.l0 kj3 l0 l1 l2 x8_1 (wrap64 (x9_1 + 1)))) = some (r1, r2) := by rw [← hbq10] at H; exact H
                have Nbq10 := Aside0.mk hbq10
                clear hbq10
                by_cases c11 : bq10 = true
                · subst c11
                  have H1 : (if x8_1 < 0 then (blackboardref15_Victim.l0 kj3 l0 l1 l2 x9_1 (wrap64 (x9_1 + 1))) else (if x9_1 < (l0.length : Int) then (if 0 ≤ x8_1 then (if x8_1 < (l0.length : Int) then (if (rd l0 x9_1) < (rd l0 x8_1) then (blackboardref15_Victim.l0 kj3 l0 l1 l2 x9_1 (wrap64 (x9_1 + 1))) else (if (rd l0 x9_1) = (rd l0 x8_1) then (if x9_1 < (l1.length : Int) then (if x8_1 < (l1.length : Int) then (if (rd l1 x9_1) < (rd l1 x8_1) then (blackboardref15_Victim.l0 kj3 l0 l1 l2 x9_1 (wrap64 (x9_1 + 1))) else (blackboardref15_Victim.l0 kj3 l0 l1 l2 x8_1 (wrap64 (x9_1 + 1)))) else (none)) else (none)) else (blackboardref15_Victim.l0 kj3 l0 l1 l2 x8_1 (wrap64 (x9_1 + 1))))) else (none)) else (none)) else (none))) = some (r1, r2) := by rw [if_pos rfl] at H; exact H
                  clear H
                  have H := H1
                  clear H1
                  by_cases c12 : x8_1 < 0
                  · rw [if_pos c12] at H
                    have c12b0 : decide (x8_1 < 0) = true := decide_eq_true c12
                    clear c12
                    have H' := Aside0.mk H
                    clear H
                    have p101 : 0 ≤ (x9_1 : Int) := of_decide_eq_true (by first | (with_reducible assumption) | assumption)
                    have q101 : x9_1 < (l2.length : Int) := of_decide_eq_true (by first | (with_reducible assumption) | assumption)
                    obtain ⟨ad101, e101, hx101_0⟩ := Kd.at_bool HR2.out x9_1 p101 q101
                    (try rw [← Nbq10.out] at hx101_0)
                    cases e101
                    replace hx101_0 := (HB.out.cell (World.block_lt_of_cell? w _ hx101_0)).trans hx101_0
                    replace p101 := eq_true p101
                    replace q101 := eq_true q101
                    go_wp2
                    repeat (go_quiet (fail); try go_wp2)
                    go_roundg kj3
                    case measure => have := HK1.out; have := HJ3.out; omega
                    case rel => exact ⟨(x9_1), (wrap64 (x9_1 + 1)), (by first | rfl | (simp; done) | (simp [*]; done)), (by first | rfl | (simp; done) | (simp [*]; done)), H', ⟨by have := HK1.out; have := HJ3.out; omega⟩, ⟨by repeat (first | (with_reducible first | exact HB.out | apply below_alloc | apply pw_below_drewN | apply below_drew1) | exact HB.out)⟩⟩
                  · rw [if_neg c12] at H
                    have c12b0 : decide (x8_1 < 0) = false := decide_eq_false c12
                    clear c12
                    by_cases c13 : x9_1 < (l0.length : Int)
                    · rw [if_pos c13] at H
                      have c13b0 : decide (x9_1 < (l0.length : Int)) = true := decide_eq_true c13
                      clear c13
                      by_cases c14 : 0 ≤ x8_1
                      · rw [if_pos c14] at H
                        have c14b0 : decide (0 ≤ x8_1) = true := decide_eq_true c14
                        clear c14
                        by_cases c15 : x8_1 < (l0.length : Int)
                        · rw [if_pos c15] at H
                          have c15b0 : decide (x8_1 < (l0.length : Int)) = true := decide_eq_true c15
                          clear c15
                          by_cases c16 : (rd l0 x9_1) < (rd l0 x8_1)
                          · rw [if_pos c16] at H
                            have c16b0 : decide ((rd l0 x9_1) < (rd l0 x8_1)) = true := decide_eq_true c16
                            clear c16
                            have H' := Aside0.mk H
                            clear H
                            have p101 : 0 ≤ (x9_1 : Int) := of_decide_eq_true (by first | (with_reducible assumption) | assumption)
                            have q101 : x9_1 < (l2.length : Int) := of_decide_eq_true (by first | (with_reducible assumption) | assumption)
                            obtain ⟨ad101, e101, hx101_0⟩ := Kd.at_bool HR2.out x9_1 p101 q101
                            (try rw [← Nbq10.out] at hx101_0)
                            cases e101
                            replace hx101_0 := (HB.out.cell (World.block_lt_of_cell? w _ hx101_0)).trans hx101_0
                            replace p101 := eq_true p101
                            replace q101 := eq_true q101
                            have p102 : 0 ≤ (x9_1 : Int) := of_decide_eq_true (by first | (with_reducible assumption) | assumption)
                            have q102 : x9_1 < (l0.length : Int) := of_decide_eq_true (by first | (with_reducible assumption) | assumption)
                            obtain ⟨ad102, e102, hx102_0⟩ := Kd.at_int HR0.out x9_1 p102 q102
                            cases e102
                            replace hx102_0 := (HB.out.cell (World.block_lt_of_cell? w _ hx102_0)).trans hx102_0
                            replace p102 := eq_true p102
                            replace q102 := eq_true q102
                            have p103 : 0 ≤ (x8_1 : Int) := of_decide_eq_true (by first | (with_reducible assumption) | assumption)
                            have q103 : x8_1 < (l0.length : Int) := of_decide_eq_true (by first | (with_reducible assumption) | assumption)
                            obtain ⟨ad103, e103, hx103_0⟩ := Kd.at_int HR0.out x8_1 p103 q103
                            obtain rfl : ad102 = ad103 := (by injection e103)
                            replace hx103_0 := (HB.out.cell (World.block_lt_of_cell? w _ hx103_0)).trans hx103_0
                            replace p103 := eq_true p103
                            replace q103 := eq_true q103
                            go_wp2
                            repeat (go_quiet (fail); try go_wp2)
                            go_roundg kj3
                            case measure => have := HK1.out; have := HJ3.out; omega
                            case rel => exact ⟨(x9_1), (wrap64 (x9_1 + 1)), (by first | rfl | (simp; done) | (simp [*]; done)), (by first | rfl | (simp; done) | (simp [*]; done)), H', ⟨by have := HK1.out; have := HJ3.out; omega⟩, ⟨by repeat (first | (with_reducible first | exact HB.out | apply below_alloc | apply pw_below_drewN | apply below_drew1) | exact HB.out)⟩⟩
                          · rw [if_neg c16] at H
                            have c16b0 : decide ((rd l0 x9_1) < (rd l0 x8_1)) = false := decide_eq_false c16
                            clear c16
                            by_cases c17 : (rd l0 x9_1) = (rd l0 x8_1)
                            · rw [if_pos c17] at H
                              have c17b0 : ((rd l0 x9_1) == (rd l0 x8_1)) = true := beq_iff_eq.mpr c17
                              have c17b1 : ((rd l0 x9_1) != (rd l0 x8_1)) = false := bne_eq_false_iff_eq.mpr c17
                              clear c17
                              by_cases c18 : x9_1 < (l1.length : Int)
                              · rw [if_pos c18] at H
                                have c18b0 : decide (x9_1 < (l1.length : Int)) = true := decide_eq_true c18
                                clear c18
                                by_cases c19 : x8_1 < (l1.length : Int)
                                · rw [if_pos c19] at H
                                  have c19b0 : decide (x8_1 < (l1.length : Int)) = true := decide_eq_true c19
                                  clear c19
                                  by_cases c20 : (rd l1 x9_1) < (rd l1 x8_1)
                                  · rw [if_pos c20] at H
                                    have c20b0 : decide ((rd l1 x9_1) < (rd l1 x8_1)) = true := decide_eq_true c20
                                    clear c20
                                    have H' := Aside0.mk H
                                    clear H
                                    have p101 : 0 ≤ (x9_1 : Int) := of_decide_eq_true (by first | (with_reducible assumption) | assumption)
                                    have q101 : x9_1 < (l2.length : Int) := of_decide_eq_true (by first | (with_reducible assumption) | assumption)
                                    obtain ⟨ad101, e101, hx101_0⟩ := Kd.at_bool HR2.out x9_1 p101 q101
                                    (try rw [← Nbq10.out] at hx101_0)
                                    cases e101
                                    replace hx101_0 := (HB.out.cell (World.block_lt_of_cell? w _ hx101_0)).trans hx101_0
                                    replace p101 := eq_true p101
                                    replace q101 := eq_true q101
                                    have p102 : 0 ≤ (x9_1 : Int) := of_decide_eq_true (by first | (with_reducible assumption) | assumption)
                                    have q102 : x9_1 < (l0.length : Int) := of_decide_eq_true (by first | (with_reducible assumption) | assumption)
                                    obtain ⟨ad102, e102, hx102_0⟩ := Kd.at_int HR0.out x9_1 p102 q102
                                    cases e102
                                    replace hx102_0 := (HB.out.cell (World.block_lt_of_cell? w _ hx102_0)).trans hx102_0
                                    replace p102 := eq_true p102
                                    replace q102 := eq_true q102
                                    have p103 : 0 ≤ (x8_1 : Int) := of_decide_eq_true (by first | (with_reducible assumption) | assumption)
                                    have q103 : x8_1 < (l0.length : Int) := of_decide_eq_true (by first | (with_reducible assumption) | assumption)
                                    obtain ⟨ad103, e103, hx103_0⟩ := Kd.at_int HR0.out x8_1 p103 q103
                                    obtain rfl : ad102 = ad103 := (by injection e103)
                                    replace hx103_0 := (HB.out.cell (World.block_lt_of_cell? w _ hx103_0)).trans hx103_0
                                    replace p103 := eq_true p103
                                    replace q103 := eq_true q103
                                    have p104 : 0 ≤ (x9_1 : Int) := of_decide_eq_true (by first | (with_reducible assumption) | assumption)
                                    have q104 : x9_1 < (l0.length : Int) := of_decide_eq_true (by first | (with_reducible assumption) | assumption)
                                    obtain ⟨ad104, e104, hx104_0⟩ := Kd.at_int HR0.out x9_1 p104 q104
                                    obtain rfl : ad102 = ad104 := (by injection e104)
                                    replace hx104_0 := (HB.out.cell (World.block_lt_of_cell? w _ hx104_0)).trans hx104_0
                                    replace p104 := eq_true p104
                                    replace q104 := eq_true q104
                                    have p105 : 0 ≤ (x8_1 : Int) := of_decide_eq_true (by first | (with_reducible assumption) | assumption)
                                    have q105 : x8_1 < (l0.length : Int) := of_decide_eq_true (by first | (with_reducible assumption) | assumption)
                                    obtain ⟨ad105, e105, hx105_0⟩ := Kd.at_int HR0.out x8_1 p105 q105
                                    obtain rfl : ad102 = ad105 := (by injection e105)
                                    replace hx105_0 := (HB.out.cell (World.block_lt_of_cell? w _ hx105_0)).trans hx105_0
                                    replace p105 := eq_true p105
                                    replace q105 := eq_true q105
                                    have p106 : 0 ≤ (x9_1 : Int) := of_decide_eq_true (by first | (with_reducible assumption) | assumption)
                                    have q106 : x9_1 < (l1.length : Int) := of_decide_eq_true (by first | (with_reducible assumption) | assumption)
                                    obtain ⟨ad106, e106, hx106_0⟩ := Kd.at_int HR1.out x9_1 p106 q106
                                    cases e106
                                    replace hx106_0 := (HB.out.cell (World.block_lt_of_cell? w _ hx106_0)).trans hx106_0
                                    replace p106 := eq_true p106
                                    replace q106 := eq_true q106
                                    have p107 : 0 ≤ (x8_1 : Int) := of_decide_eq_true (by first | (with_reducible assumption) | assumption)
                                    have q107 : x8_1 < (l1.length : Int) := of_decide_eq_true (by first | (with_reducible assumption) | assumption)
                                    obtain ⟨ad107, e107, hx107_0⟩ := Kd.at_int HR1.out x8_1 p107 q107
                                    obtain rfl : ad106 = ad107 := (by injection e107)
                                    replace hx107_0 := (HB.out.cell (World.block_lt_of_cell? w _ hx107_0)).trans hx107_0
                                    replace p107 := eq_true p107
                                    replace q107 := eq_true q107
                                    go_wp2
                                    repeat (go_quiet (fail); try go_wp2)
                                    go_roundg kj3
                                    case measure => have := HK1.out; have := HJ3.out; omega
                                    case rel => exact ⟨(x9_1), (wrap64 (x9_1 + 1)), (by first | rfl | (simp; done) | (simp [*]; done)), (by first | rfl | (simp; done) | (simp [*]; done)), H', ⟨by have := HK1.out; have := HJ3.out; omega⟩, ⟨by repeat (first | (with_reducible first | exact HB.out | apply below_alloc | apply pw_below_drewN | apply below_drew1) | exact HB.out)⟩⟩
                                  · rw [if_neg c20] at H
                                    have c20b0 : decide ((rd l1 x9_1) < (rd l1 x8_1)) = false := decide_eq_false c20
                                    clear c20
                                    have H' := Aside0.mk H
                                    clear H
                                    have p101 : 0 ≤ (x9_1 : Int) := of_decide_eq_true (by first | (with_reducible assumption) | assumption)
                                    have q101 : x9_1 < (l2.length : Int) := of_decide_eq_true (by first | (with_reducible assumption) | assumption)
                                    obtain ⟨ad101, e101, hx101_0⟩ := Kd.at_bool HR2.out x9_1 p101 q101
                                    (try rw [← Nbq10.out] at hx101_0)
                                    cases e101
                                    replace hx101_0 := (HB.out.cell (World.block_lt_of_cell? w _ hx101_0)).trans hx101_0
                                    replace p101 := eq_true p101
                                    replace q101 := eq_true q101
                                    have p102 : 0 ≤ (x9_1 : Int) := of_decide_eq_true (by first | (with_reducible assumption) | assumption)
                                    have q102 : x9_1 < (l0.length : Int) := of_decide_eq_true (by first | (with_reducible assumption) | assumption)
                                    obtain ⟨ad102, e102, hx102_0⟩ := Kd.at_int HR0.out x9_1 p102 q102
                                    cases e102
                                    replace hx102_0 := (HB.out.cell (World.block_lt_of_cell? w _ hx102_0)).trans hx102_0
                                    replace p102 := eq_true p102
                                    replace q102 := eq_true q102
                                    have p103 : 0 ≤ (x8_1 : Int) := of_decide_eq_true (by first | (with_reducible assumption) | assumption)
                                    have q103 : x8_1 < (l0.length : Int) := of_decide_eq_true (by first | (with_reducible assumption) | assumption)
                                    obtain ⟨ad103, e103, hx103_0⟩ := Kd.at_int HR0.out x8_1 p103 q103
                                    obtain rfl : ad102 = ad103 := (by injection e103)
                                    replace hx103_0 := (HB.out.cell (World.block_lt_of_cell? w _ hx103_0)).trans hx103_0
                                    replace p103 := eq_true p103
                                    replace q103 := eq_true q103
                                    have p104 : 0 ≤ (x9_1 : Int) := of_decide_eq_true (by first | (with_reducible assumption) | assumption)
                                    have q104 : x9_1 < (l0.length : Int) := of_decide_eq_true (by first | (with_reducible assumption) | assumption)
                                    obtain ⟨ad104, e104, hx104_0⟩ := Kd.at_int HR0.out x9_1 p104 q104
                                    obtain rfl : ad102 = ad104 := (by injection e104)
                                    replace hx104_0 := (HB.out.cell (World.block_lt_of_cell? w _ hx104_0)).trans hx104_0
                                    replace p104 := eq_true p104
                                    replace q104 := eq_true q104
                                    have p105 : 0 ≤ (x8_1 : Int) := of_decide_eq_true (by first | (with_reducible assumption) | assumption)
                                    have q105 : x8_1 < (l0.length : Int) := of_decide_eq_true (by first | (with_reducible assumption) | assumption)
                                    obtain ⟨ad105, e105, hx105_0⟩ := Kd.at_int HR0.out x8_1 p105 q105
                                    obtain rfl : ad102 = ad105 := (by injection e105)
                                    replace hx105_0 := (HB.out.cell (World.block_lt_of_cell? w _ hx105_0)).trans hx105_0
                                    replace p105 := eq_true p105
                                    replace q105 := eq_true q105
                                    have p106 : 0 ≤ (x9_1 : Int) := of_decide_eq_true (by first | (with_reducible assumption) | assumption)
                                    have q106 : x9_1 < (l1.length : Int) := of_decide_eq_true (by first | (with_reducible assumption) | assumption)
                                    obtain ⟨ad106, e106, hx106_0⟩ := Kd.at_int HR1.out x9_1 p106 q106
                                    cases e106
                                    replace hx106_0 := (HB.out.cell (World.block_lt_of_cell? w _ hx106_0)).trans hx106_0
                                    replace p106 := eq_true p106
                                    replace q106 := eq_true q106
                                    have p107 : 0 ≤ (x8_1 : Int) := of_decide_eq_true (by first | (with_reducible assumption) | assumption)
                                    have q107 : x8_1 < (l1.length : Int) := of_decide_eq_true (by first | (with_reducible assumption) | assumption)
                                    obtain ⟨ad107, e107, hx107_0⟩ := Kd.at_int HR1.out x8_1 p107 q107
                                    obtain rfl : ad106 = ad107 := (by injection e107)
                                    replace hx107_0 := (HB.out.cell (World.block_lt_of_cell? w _ hx107_0)).trans hx107_0
                                    replace p107 := eq_true p107
                                    replace q107 := eq_true q107
                                    go_wp2
                                    repeat (go_quiet (fail); try go_wp2)
                                    go_roundg kj3
                                    case measure => have := HK1.out; have := HJ3.out; omega
                                    case rel => exact ⟨(x8_1), (wrap64 (x9_1 + 1)), (by first | rfl | (simp; done) | (simp [*]; done)), (by first | rfl | (simp; done) | (simp [*]; done)), H', ⟨by have := HK1.out; have := HJ3.out; omega⟩, ⟨by repeat (first | (with_reducible first | exact HB.out | apply below_alloc | apply pw_below_drewN | apply below_drew1) | exact HB.out)⟩⟩
                                · rw [if_neg c19] at H
                                  exact absurd H (by simp)
                              · rw [if_neg c18] at H
                                exact absurd H (by simp)
                            · rw [if_neg c17] at H
                              have c17b0 : ((rd l0 x9_1) == (rd l0 x8_1)) = false := beq_eq_false_iff_ne.mpr c17
                              have c17b1 : ((rd l0 x9_1) != (rd l0 x8_1)) = true := bne_iff_ne.mpr c17
                              have H' := Aside0.mk H
                              clear H
                              have p101 : 0 ≤ (x9_1 : Int) := of_decide_eq_true (by first | (with_reducible assumption) | assumption)
                              have q101 : x9_1 < (l2.length : Int) := of_decide_eq_true (by first | (with_reducible assumption) | assumption)
                              obtain ⟨ad101, e101, hx101_0⟩ := Kd.at_bool HR2.out x9_1 p101 q101
                              (try rw [← Nbq10.out] at hx101_0)
                              cases e101
                              replace hx101_0 := (HB.out.cell (World.block_lt_of_cell? w _ hx101_0)).trans hx101_0
                              replace p101 := eq_true p101
                              replace q101 := eq_true q101
                              have p102 : 0 ≤ (x9_1 : Int) := of_decide_eq_true (by first | (with_reducible assumption) | assumption)
                              have q102 : x9_1 < (l0.length : Int) := of_decide_eq_true (by first | (with_reducible assumption) | assumption)
                              obtain ⟨ad102, e102, hx102_0⟩ := Kd.at_int HR0.out x9_1 p102 q102
                              cases e102
                              replace hx102_0 := (HB.out.cell (World.block_lt_of_cell? w _ hx102_0)).trans hx102_0
                              replace p102 := eq_true p102
                              replace q102 := eq_true q102
                              have p103 : 0 ≤ (x8_1 : Int) := of_decide_eq_true (by first | (with_reducible assumption) | assumption)
                              have q103 : x8_1 < (l0.length : Int) := of_decide_eq_true (by first | (with_reducible assumption) | assumption)
                              obtain ⟨ad103, e103, hx103_0⟩ := Kd.at_int HR0.out x8_1 p103 q103
                              obtain rfl : ad102 = ad103 := (by injection e103)
                              replace hx103_0 := (HB.out.cell (World.block_lt_of_cell? w _ hx103_0)).trans hx103_0
                              replace p103 := eq_true p103
                              replace q103 := eq_true q103
                              have p104 : 0 ≤ (x9_1 : Int) := of_decide_eq_true (by first | (with_reducible assumption) | assumption)
                              have q104 : x9_1 < (l0.length : Int) := of_decide_eq_true (by first | (with_reducible assumption) | assumption)
                              obtain ⟨ad104, e104, hx104_0⟩ := Kd.at_int HR0.out x9_1 p104 q104
                              obtain rfl : ad102 = ad104 := (by injection e104)
                              replace hx104_0 := (HB.out.cell (World.block_lt_of_cell? w _ hx104_0)).trans hx104_0
                              replace p104 := eq_true p104
                              replace q104 := eq_true q104
                              have p105 : 0 ≤ (x8_1 : Int) := of_decide_eq_true (by first | (with_reducible assumption) | assumption)
                              have q105 : x8_1 < (l0.length : Int) := of_decide_eq_true (by first | (with_reducible assumption) | assumption)
                              obtain ⟨ad105, e105, hx105_0⟩ := Kd.at_int HR0.out x8_1 p105 q105
                              obtain rfl : ad102 = ad105 := (by injection e105)
                              replace hx105_0 := (HB.out.cell (World.block_lt_of_cell? w _ hx105_0)).trans hx105_0
                              replace p105 := eq_true p105
                              replace q105 := eq_true q105
                              go_wp2
                              repeat (go_quiet (fail); try go_wp2)
                              go_roundg kj3
                              case measure => have := HK1.out; have := HJ3.out; omega
                              case rel => exact ⟨(x8_1), (wrap64 (x9_1 + 1)), (by first | rfl | (simp; done) | (simp [*]; done)), (by first | rfl | (simp; done) | (simp [*]; done)), H', ⟨by have := HK1.out; have := HJ3.out; omega⟩, ⟨by repeat (first | (with_reducible first | exact HB.out | apply below_alloc | apply pw_below_drewN | apply below_drew1) | exact HB.out)⟩⟩
                        · rw [if_neg c15] at H
                          exact absurd H (by simp)
                      · rw [if_neg c14] at H
                        exact absurd H (by simp)
                    · rw [if_neg c13] at H
                      exact absurd H (by simp)
                · replace c11 := Bool.eq_false_iff.mpr c11
                  subst c11
                  have H1 : (blackboardref15_Victim.l0 kj3 l0 l1 l2 x8_1 (wrap64 (x9_1 + 1))) = some (r1, r2) := by rw [if_neg (show ¬ (false = true) by decide)] at H; exact H
                  clear H
                  have H := H1
                  clear H1
                  have H' := Aside0.mk H
                  clear H
                  have p101 : 0 ≤ (x9_1 : Int) := of_decide_eq_true (by first | (with_reducible assumption) | assumption)
                  have q101 : x9_1 < (l2.length : Int) := of_decide_eq_true (by first | (with_reducible assumption) | assumption)
                  obtain ⟨ad101, e101, hx101_0⟩ := Kd.at_bool HR2.out x9_1 p101 q101
                  (try rw [← Nbq10.out] at hx101_0)
                  cases e101
                  replace hx101_0 := (HB.out.cell (World.block_lt_of_cell? w _ hx101_0)).trans hx101_0
                  replace p101 := eq_true p101
                  replace q101 := eq_true q101
                  go_wp2
                  repeat (go_quiet (fail); try go_wp2)
                  go_roundg kj3
                  case measure => have := HK1.out; have := HJ3.out; omega
                  case rel => exact ⟨(x8_1), (wrap64 (x9_1 + 1)), (by first | rfl | (simp; done) | (simp [*]; done)), (by first | rfl | (simp; done) | (simp [*]; done)), H', ⟨by have := HK1.out; have := HJ3.out; omega⟩, ⟨by repeat (first | (with_reducible first | exact HB.out | apply below_alloc | apply pw_below_drewN | apply below_drew1) | exact HB.out)⟩⟩
              · rw [if_neg c9] at H
                exact absurd H (by simp)
            · rw [if_neg c8] at H
              exact absurd H (by simp)
          · replace c7 := Bool.eq_false_iff.mpr c7
            subst c7
            have H1 : (some (mx x8_1 0, decide (x8_1 ≥ 0))) = some (r1, r2) := by rw [if_neg (show ¬ (false = true) by decide)] at H; exact H
            clear H
            have H := H1
            clear H1
            obtain ⟨ji21, hji21⟩ : ∃ j_ : Int, (mx x8_1 0) = j_ := ⟨_, rfl⟩
            replace H : (some (ji21, decide (x8_1 ≥ 0))) = some (r1, r2) := by first | (rw [hji21] at H; exact H) | (simp only [hji21] at H ⊢; exact H)
            have hji21_ : (if x8_1 < 0 then 0 else x8_1) = ji21 := hji21
            simp only [Option.some.injEq, Prod.mk.injEq] at H
            obtain ⟨rfl, rfl⟩ := H
            go_wp2
            repeat (go_quiet (fail); try go_wp2)
            go_ret2
            exact ⟨by first | rfl | (simp [errW_none, errW_some] <;> rfl) | (simp only [← hji21]; first | rfl | (simp [errW_none, errW_some] <;> rfl)) | (simp [*, errW_none, errW_some] <;> rfl), by repeat (first | (with_reducible first | exact HB.out | apply below_alloc | apply pw_below_drewN | apply below_drew1) | exact HB.out)⟩

end Go.Proofs.Ytfgfjgjabcmheaa.R
