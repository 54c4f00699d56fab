/- Printed for this seat by a program of this session (over the kit's print), with contracts of its own laid in. -/
import Derived.Test.YtkmdefelepmfiaaVx0
import Derived.BigQuiet
namespace Go.Proofs.Ytkmdefelepmfiaa.V
open Go.RowKit Go.Proofs.YtkmdefelepmfiaaW.PrintWords Go.Proofs.YtkmdefelepmfiaaW.PrintLast Go.Proofs.YtkmdefelepmfiaaW.PrintMore
attribute [local go_sem] max2_int min2_int max_two min_two max_three min_three max_four min_four   -- for this text's walks alone
set_option linter.unusedVariables false
set_option linter.unusedSimpArgs false

/-! ### wear_there: function 15 -/
def wear_there.l0 : Nat → Int → List Bool → List (List Int) → Int → Int → Option (Bool)
  | 0, _, _, _, _, _ => none
  | k + 1, x0, x1, x9, x10, x11 => if x11 < x10 then (if 0 ≤ x11 then (if x11 < (x9.length : Int) then (if x0 ≥ ((rd_L1 x9 x11).length : Int) then (some false) else (wear_there.l0 k x0 x1 x9 x10 (wrap64 (x11 + 1)))) else (none)) else (none)) else (if 0 ≤ x0 then (if x0 < (x1.length : Int) then (some (rdOf false x1 x0)) else (none)) else (none))
def wear_there.f (k : Nat) (a0 : Int) (l1 : List Bool) (l2 : List (List Int)) : Option (Bool) := wear_there.l0 k a0 l1 l2 (l2.length : Int) 0
theorem wear_there.mono_l : ∀ k, (∀ y0 y1 y2 y3 y4, LeO (wear_there.l0 k y0 y1 y2 y3 y4) (wear_there.l0 (k + 1) y0 y1 y2 y3 y4))
  | 0 => fun _ _ _ _ _ r h => by simp [wear_there.l0] at h
  | k + 1 => by
    have ih0 := wear_there.mono_l k
    · intro y0 y1 y2 y3 y4
      unfold wear_there.l0
      repeat' first
      | (with_reducible exact ih0 _ _ _ _ _)
      | (with_reducible exact LeO.refl _)
      | (with_reducible exact LeO.none _)
      | (with_reducible refine LeO.ite ?_ ?_)
      | (with_reducible refine LeO.bind ?_ (fun _ => ?_))
      | exact ih0 _ _ _ _ _
      | exact LeO.none _
      | refine LeO.ite ?_ ?_
      | refine LeO.bind ?_ (fun _ => ?_)
theorem wear_there.mono : ∀ a0 a1 a2 k, LeO (wear_there.f k a0 a1 a2) (wear_there.f (k + 1) a0 a1 a2) := by
  intro a0 a1 a2 k
  have ih0 := wear_there.mono_l k
  unfold wear_there.f
  repeat' first
      | (with_reducible exact ih0 _ _ _ _ _)
      | (with_reducible exact LeO.refl _)
      | (with_reducible exact LeO.none _)
      | (with_reducible refine LeO.ite ?_ ?_)
      | (with_reducible refine LeO.bind ?_ (fun _ => ?_))
      | exact ih0 _ _ _ _ _
      | exact LeO.none _
      | refine LeO.ite ?_ ?_
      | refine LeO.bind ?_ (fun _ => ?_)
set_option maxHeartbeats 8000000 in
set_option maxRecDepth 100000 in
theorem wear_there.calls (k : Nat) (a0 : Int) (A1 : Option Addr) (c1 : Nat) (l1 : List Bool) (A2 : Option Addr) (c2 : Nat) (l2 : List (List Int)) (r : Bool) (w : World) (hr1 : Kd.C Kd.bool w A1 l1.length l1) (hc1 : l1.length ≤ c1) (hr2 : Kd.C (Kd.slice 3 (Kd.int .i64)) w A2 l2.length l2) (hc2 : l2.length ≤ c2) (h : wear_there.f k a0 l1 l2 = some r) :
    Calls Try.prog 15 #[.int .i64 a0, .slice A1 l1.length c1, .slice A2 l2.length c2] w fun e w' => e = .returned (.bool r) ∧ Drawn0 w w' := by
  have HR1 := Aside0.mk hr1
  have HC1 := Aside0.mk hc1
  clear hr1 hc1
  have HR2 := Aside0.mk hr2
  have HC2 := Aside0.mk hc2
  clear hr2 hc2
  have H : (wear_there.l0 k a0 l1 l2 (l2.length : Int) 0) = some r := h
  clear h
  have H' := Aside0.mk H
  clear H
  go_enter Try.func15, Try.ntmps15
  go_wp2
  go_loopg [11] k (fun kq v11 w' => ∃ (x11_1 : Int), v11 = .int .i64 x11_1 ∧ Aside0 (wear_there.l0 kq a0 l1 l2 (l2.length : Int) x11_1 = some r) ∧ Aside0 (kq ≤ k) ∧ Drawn0 w w')
  case atStart => exact ⟨(0), (by first | rfl | (simp; done) | (simp [*]; done)), H', ⟨Nat.le_refl _⟩, by repeat (first | exact Drawn0.refl _ | apply Drawn0.step)⟩
  case round =>
    clear H'
    try clear c1
    try clear c2
    try clear p2
    obtain ⟨x11_1, rfl, HA, HK1, ⟨m1, rfl⟩⟩ := hrel
    cases gk with
    | zero => exact absurd HA.out (by simp [wear_there.l0])
    | succ k1 =>
      have H := HA.out
      clear HA
      simp only [wear_there.l0] at H
      by_cases c4 : x11_1 < (l2.length : Int)
      · rw [if_pos c4] at H
        have c4b0 : decide (x11_1 < (l2.length : Int)) = true := decide_eq_true c4
        clear c4
        by_cases c5 : 0 ≤ x11_1
        · rw [if_pos c5] at H
          have c5b0 : decide (0 ≤ x11_1) = true := decide_eq_true c5
          clear c5
          by_cases c6 : x11_1 < (l2.length : Int)
          · rw [if_pos c6] at H
            have c6b0 : decide (x11_1 < (l2.length : Int)) = true := decide_eq_true c6
            clear c6
            by_cases c7 : a0 ≥ ((rd_L1 l2 x11_1).length : Int)
            · rw [if_pos c7] at H
              have c7b0 : decide (((rd_L1 l2 x11_1).length : Int) ≤ a0) = true := decide_eq_true c7
              clear c7
              obtain rfl := Option.some.inj H
              have p101 : 0 ≤ (x11_1 : Int) := of_decide_eq_true (by first | (with_reducible assumption) | assumption)
              have q101 : x11_1 < (l2.length : Int) := of_decide_eq_true (by first | (with_reducible assumption) | assumption)
              obtain ⟨ad101, A101_0, c101_0, e101, hx101_0, hl101_0, hi101_0⟩ := at_L1 HR2.out x11_1 p101 q101
              cases e101
              have HR101_0 := Aside0.mk hi101_0
              have HC101_0 := Aside0.mk hl101_0
              clear hi101_0 hl101_0
              replace p101 := eq_true p101
              replace q101 := eq_true q101
              go_wp2
              go_ret
              exact ⟨by first | rfl | (simp; done) | (simp [*]; done), by repeat (first | exact Drawn0.refl _ | apply Drawn0.step)⟩
            · rw [if_neg c7] at H
              have c7b0 : decide (((rd_L1 l2 x11_1).length : Int) ≤ a0) = false := decide_eq_false c7
              clear c7
              have H' := Aside0.mk H
              clear H
              have p101 : 0 ≤ (x11_1 : Int) := of_decide_eq_true (by first | (with_reducible assumption) | assumption)
              have q101 : x11_1 < (l2.length : Int) := of_decide_eq_true (by first | (with_reducible assumption) | assumption)
              obtain ⟨ad101, A101_0, c101_0, e101, hx101_0, hl101_0, hi101_0⟩ := at_L1 HR2.out x11_1 p101 q101
              cases e101
              have HR101_0 := Aside0.mk hi101_0
              have HC101_0 := Aside0.mk hl101_0
              clear hi101_0 hl101_0
              replace p101 := eq_true p101
              replace q101 := eq_true q101
              go_wp2
              go_roundg k1
              case measure => have := HK1.out; omega
              case rel => exact ⟨(wrap64 (x11_1 + 1)), (by first | rfl | (simp; done) | (simp [*]; done)), H', ⟨by have := HK1.out; omega⟩, by repeat (first | exact Drawn0.refl _ | apply Drawn0.step)⟩
          · rw [if_neg c6] at H
            exact absurd H (by simp)
        · rw [if_neg c5] at H
          exact absurd H (by simp)
      · rw [if_neg c4] at H
        have c4b0 : decide (x11_1 < (l2.length : Int)) = false := decide_eq_false c4
        clear c4
        by_cases c8 : 0 ≤ a0
        · rw [if_pos c8] at H
          have c8b0 : decide (0 ≤ a0) = true := decide_eq_true c8
          clear c8
          by_cases c9 : a0 < (l1.length : Int)
          · rw [if_pos c9] at H
            have c9b0 : decide (a0 < (l1.length : Int)) = true := decide_eq_true c9
            clear c9
            obtain rfl := Option.some.inj H
            have p102 : 0 ≤ (a0 : Int) := of_decide_eq_true (by first | (with_reducible assumption) | assumption)
            have q102 : a0 < (l1.length : Int) := of_decide_eq_true (by first | (with_reducible assumption) | assumption)
            obtain ⟨ad102, e102, hx102_0⟩ := Kd.at_bool HR1.out a0 p102 q102
            cases e102
            replace p102 := eq_true p102
            replace q102 := eq_true q102
            go_wp2
            go_ret
            exact ⟨by first | rfl | (simp; done) | (simp [*]; done), by repeat (first | exact Drawn0.refl _ | apply Drawn0.step)⟩
          · rw [if_neg c9] at H
            exact absurd H (by simp)
        · rw [if_neg c8] at H
          exact absurd H (by simp)

/-! ### wear_less: function 16 -/
def wear_less.l0 : Nat → Int → Int → List (List Int) → Int → Int → Option (Bool)
  | 0, _, _, _, _, _ => none
  | k + 1, x0, x1, x9, x10, x11 => if x11 < x10 then (if 0 ≤ x11 then (if x11 < (x9.length : Int) then (if 0 ≤ x0 then (if x0 < ((rd_L1 x9 x11).length : Int) then (if 0 ≤ x1 then (if x1 < ((rd_L1 x9 x11).length : Int) then (if (rd (rd_L1 x9 x11) x0) = (rd (rd_L1 x9 x11) x1) then (wear_less.l0 k x0 x1 x9 x10 (wrap64 (x11 + 1))) else (some (decide ((rd (rd_L1 x9 x11) x0) < (rd (rd_L1 x9 x11) x1))))) else (none)) else (none)) else (none)) else (none)) else (none)) else (none)) else (some false)
def wear_less.f (k : Nat) (a0 : Int) (a1 : Int) (l2 : List (List Int)) : Option (Bool) := wear_less.l0 k a0 a1 l2 (l2.length : Int) 0
theorem wear_less.mono_l : ∀ k, (∀ y0 y1 y2 y3 y4, LeO (wear_less.l0 k y0 y1 y2 y3 y4) (wear_less.l0 (k + 1) y0 y1 y2 y3 y4))
  | 0 => fun _ _ _ _ _ r h => by simp [wear_less.l0] at h
  | k + 1 => by
    have ih0 := wear_less.mono_l k
    · intro y0 y1 y2 y3 y4
      unfold wear_less.l0
      repeat' first
      | (with_reducible exact ih0 _ _ _ _ _)
      | (with_reducible exact LeO.refl _)
      | (with_reducible exact LeO.none _)
      | (with_reducible refine LeO.ite ?_ ?_)
      | (with_reducible refine LeO.bind ?_ (fun _ => ?_))
      | exact ih0 _ _ _ _ _
      | exact LeO.none _
      | refine LeO.ite ?_ ?_
      | refine LeO.bind ?_ (fun _ => ?_)
theorem wear_less.mono : ∀ a0 a1 a2 k, LeO (wear_less.f k a0 a1 a2) (wear_less.f (k + 1) a0 a1 a2) := by
  intro a0 a1 a2 k
  have ih0 := wear_less.mono_l k
  unfold wear_less.f
  repeat' first
      | (with_reducible exact ih0 _ _ _ _ _)
      | (with_reducible exact LeO.refl _)
      | (with_reducible exact LeO.none _)
      | (with_reducible refine LeO.ite ?_ ?_)
      | (with_reducible refine LeO.bind ?_ (fun _ => ?_))
      | exact ih0 _ _ _ _ _
      | exact LeO.none _
      | refine LeO.ite ?_ ?_
      | refine LeO.bind ?_ (fun _ => ?_)
set_option maxHeartbeats 8000000 in
set_option maxRecDepth 100000 in
theorem wear_less.calls (k : Nat) (a0 : Int) (a1 : Int) (A2 : Option Addr) (c2 : Nat) (l2 : List (List Int)) (r : Bool) (w : World) (hr2 : Kd.C (Kd.slice 3 (Kd.int .i64)) w A2 l2.length l2) (hc2 : l2.length ≤ c2) (h : wear_less.f k a0 a1 l2 = some r) :
    Calls Try.prog 16 #[.int .i64 a0, .int .i64 a1, .slice A2 l2.length c2] w fun e w' => e = .returned (.bool r) ∧ Drawn0 w w' := by
  have HR2 := Aside0.mk hr2
  have HC2 := Aside0.mk hc2
  clear hr2 hc2
  have H : (wear_less.l0 k a0 a1 l2 (l2.length : Int) 0) = some r := h
  clear h
  have H' := Aside0.mk H
  clear H
  go_enter Try.func16, Try.ntmps16
  go_wp2
  repeat (go_quiet (fail); try go_wp2)
  go_loopg [11] k (fun kq v11 w' => ∃ (x11_1 : Int), v11 = .int .i64 x11_1 ∧ Aside0 (wear_less.l0 kq a0 a1 l2 (l2.length : Int) x11_1 = some r) ∧ Aside0 (kq ≤ k) ∧ Drawn0 w w')
  case atStart => exact ⟨(0), (by first | rfl | (simp; done) | (simp [*]; done)), H', ⟨Nat.le_refl _⟩, by repeat (first | exact Drawn0.refl _ | apply Drawn0.step)⟩
  case round =>
    clear H'
    try clear c1
    try clear c2
    try clear p2
    obtain ⟨x11_1, rfl, HA, HK1, ⟨m1, rfl⟩⟩ := hrel
    cases gk with
    | zero => exact absurd HA.out (by simp [wear_less.l0])
    | succ k1 =>
      have H := HA.out
      clear HA
      simp only [wear_less.l0] at H
      by_cases c4 : x11_1 < (l2.length : Int)
      · rw [if_pos c4] at H
        have c4b0 : decide (x11_1 < (l2.length : Int)) = true := decide_eq_true c4
        clear c4
        by_cases c5 : 0 ≤ x11_1
        · rw [if_pos c5] at H
          have c5b0 : decide (0 ≤ x11_1) = true := decide_eq_true c5
          clear c5
          by_cases c6 : x11_1 < (l2.length : Int)
          · rw [if_pos c6] at H
            have c6b0 : decide (x11_1 < (l2.length : Int)) = true := decide_eq_true c6
            clear c6
            by_cases c7 : 0 ≤ a0
            · rw [if_pos c7] at H
              have c7b0 : decide (0 ≤ a0) = true := decide_eq_true c7
              clear c7
              by_cases c8 : a0 < ((rd_L1 l2 x11_1).length : Int)
              · rw [if_pos c8] at H
                have c8b0 : decide (a0 < ((rd_L1 l2 x11_1).length : Int)) = true := decide_eq_true c8
                clear c8
                by_cases c9 : 0 ≤ a1
                · rw [if_pos c9] at H
                  have c9b0 : decide (0 ≤ a1) = true := decide_eq_true c9
                  clear c9
                  by_cases c10 : a1 < ((rd_L1 l2 x11_1).length : Int)
                  · rw [if_pos c10] at H
                    have c10b0 : decide (a1 < ((rd_L1 l2 x11_1).length : Int)) = true := decide_eq_true c10
                    clear c10
                    by_cases c11 : (rd (rd_L1 l2 x11_1) a0) = (rd (rd_L1 l2 x11_1) a1)
                    · rw [if_pos c11] at H
                      have c11b0 : ((rd (rd_L1 l2 x11_1) a0) == (rd (rd_L1 l2 x11_1) a1)) = true := beq_iff_eq.mpr c11
                      have c11b1 : ((rd (rd_L1 l2 x11_1) a0) != (rd (rd_L1 l2 x11_1) a1)) = false := bne_eq_false_iff_eq.mpr c11
                      clear c11
                      have H' := Aside0.mk H
                      clear H
                      have p103 : 0 ≤ (x11_1 : Int) := of_decide_eq_true (by first | (with_reducible assumption) | assumption)
                      have q103 : x11_1 < (l2.length : Int) := of_decide_eq_true (by first | (with_reducible assumption) | assumption)
                      obtain ⟨ad103, A103_0, c103_0, e103, hx103_0, hl103_0, hi103_0⟩ := at_L1 HR2.out x11_1 p103 q103
                      cases e103
                      have HR103_0 := Aside0.mk hi103_0
                      have HC103_0 := Aside0.mk hl103_0
                      clear hi103_0 hl103_0
                      replace p103 := eq_true p103
                      replace q103 := eq_true q103
                      have p104 : 0 ≤ (a0 : Int) := of_decide_eq_true (by first | (with_reducible assumption) | assumption)
                      have q104 : a0 < ((rd_L1 l2 x11_1).length : Int) := of_decide_eq_true (by first | (with_reducible assumption) | assumption)
                      obtain ⟨ad104, e104, hx104_0⟩ := Kd.at_int HR103_0.out a0 p104 q104
                      cases e104
                      replace p104 := eq_true p104
                      replace q104 := eq_true q104
                      have p105 : 0 ≤ (a1 : Int) := of_decide_eq_true (by first | (with_reducible assumption) | assumption)
                      have q105 : a1 < ((rd_L1 l2 x11_1).length : Int) := of_decide_eq_true (by first | (with_reducible assumption) | assumption)
                      obtain ⟨ad105, e105, hx105_0⟩ := Kd.at_int HR103_0.out a1 p105 q105
                      obtain rfl : ad104 = ad105 := (by injection e105)
                      replace p105 := eq_true p105
                      replace q105 := eq_true q105
                      go_wp2
                      repeat (go_quiet (fail); try go_wp2)
                      go_roundg k1
                      case measure => have := HK1.out; omega
                      case rel => exact ⟨(wrap64 (x11_1 + 1)), (by first | rfl | (simp; done) | (simp [*]; done)), H', ⟨by have := HK1.out; omega⟩, by repeat (first | exact Drawn0.refl _ | apply Drawn0.step)⟩
                    · rw [if_neg c11] at H
                      have c11b0 : ((rd (rd_L1 l2 x11_1) a0) == (rd (rd_L1 l2 x11_1) a1)) = false := beq_eq_false_iff_ne.mpr c11
                      have c11b1 : ((rd (rd_L1 l2 x11_1) a0) != (rd (rd_L1 l2 x11_1) a1)) = true := bne_iff_ne.mpr c11
                      obtain rfl := Option.some.inj H
                      have p103 : 0 ≤ (x11_1 : Int) := of_decide_eq_true (by first | (with_reducible assumption) | assumption)
                      have q103 : x11_1 < (l2.length : Int) := of_decide_eq_true (by first | (with_reducible assumption) | assumption)
                      obtain ⟨ad103, A103_0, c103_0, e103, hx103_0, hl103_0, hi103_0⟩ := at_L1 HR2.out x11_1 p103 q103
                      cases e103
                      have HR103_0 := Aside0.mk hi103_0
                      have HC103_0 := Aside0.mk hl103_0
                      clear hi103_0 hl103_0
                      replace p103 := eq_true p103
                      replace q103 := eq_true q103
                      have p104 : 0 ≤ (a0 : Int) := of_decide_eq_true (by first | (with_reducible assumption) | assumption)
                      have q104 : a0 < ((rd_L1 l2 x11_1).length : Int) := of_decide_eq_true (by first | (with_reducible assumption) | assumption)
                      obtain ⟨ad104, e104, hx104_0⟩ := Kd.at_int HR103_0.out a0 p104 q104
                      cases e104
                      replace p104 := eq_true p104
                      replace q104 := eq_true q104
                      have p105 : 0 ≤ (a1 : Int) := of_decide_eq_true (by first | (with_reducible assumption) | assumption)
                      have q105 : a1 < ((rd_L1 l2 x11_1).length : Int) := of_decide_eq_true (by first | (with_reducible assumption) | assumption)
                      obtain ⟨ad105, e105, hx105_0⟩ := Kd.at_int HR103_0.out a1 p105 q105
                      obtain rfl : ad104 = ad105 := (by injection e105)
                      replace p105 := eq_true p105
                      replace q105 := eq_true q105
                      have p106 : 0 ≤ (a0 : Int) := of_decide_eq_true (by first | (with_reducible assumption) | assumption)
                      have q106 : a0 < ((rd_L1 l2 x11_1).length : Int) := of_decide_eq_true (by first | (with_reducible assumption) | assumption)
                      obtain ⟨ad106, e106, hx106_0⟩ := Kd.at_int HR103_0.out a0 p106 q106
                      obtain rfl : ad104 = ad106 := (by injection e106)
                      replace p106 := eq_true p106
                      replace q106 := eq_true q106
                      have p107 : 0 ≤ (a1 : Int) := of_decide_eq_true (by first | (with_reducible assumption) | assumption)
                      have q107 : a1 < ((rd_L1 l2 x11_1).length : Int) := of_decide_eq_true (by first | (with_reducible assumption) | assumption)
                      obtain ⟨ad107, e107, hx107_0⟩ := Kd.at_int HR103_0.out a1 p107 q107
                      obtain rfl : ad104 = ad107 := (by injection e107)
                      replace p107 := eq_true p107
                      replace q107 := eq_true q107
                      go_wp2
                      repeat (go_quiet (fail); try go_wp2)
                      go_ret
                      exact ⟨by first | rfl | (simp; done) | (simp [*]; done), by repeat (first | exact Drawn0.refl _ | apply Drawn0.step)⟩
                  · rw [if_neg c10] at H
                    exact absurd H (by simp)
                · rw [if_neg c9] at H
                  exact absurd H (by simp)
              · rw [if_neg c8] at H
                exact absurd H (by simp)
            · rw [if_neg c7] at H
              exact absurd H (by simp)
          · rw [if_neg c6] at H
            exact absurd H (by simp)
        · rw [if_neg c5] at H
          exact absurd H (by simp)
      · rw [if_neg c4] at H
        have c4b0 : decide (x11_1 < (l2.length : Int)) = false := decide_eq_false c4
        clear c4
        obtain rfl := Option.some.inj H
        go_wp2
        repeat (go_quiet (fail); try go_wp2)
        go_ret
        exact ⟨by first | rfl | (simp; done) | (simp [*]; done), by repeat (first | exact Drawn0.refl _ | apply Drawn0.step)⟩

end Go.Proofs.Ytkmdefelepmfiaa.V
