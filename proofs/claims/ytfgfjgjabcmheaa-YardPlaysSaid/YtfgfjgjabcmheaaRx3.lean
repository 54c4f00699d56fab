/- Printed for this seat by a program of this session (over the kit's print), with contracts of its own laid in. -/
import Derived.Test.YtfgfjgjabcmheaaRx0
namespace Go.Proofs.Ytfgfjgjabcmheaa.R
open Go.RowKit Go.Proofs.YtfgfjgjabcmheaaW.PrintWords Go.Proofs.YtfgfjgjabcmheaaW.PrintLast Go.Proofs.YtfgfjgjabcmheaaW.PrintMore
attribute [local go_sem] max2_int min2_int max_two min_two max_three min_three max_four min_four   -- for this text's walks alone
set_option linter.unusedVariables false
set_option linter.unusedSimpArgs false

/-! ### blackboardref15_Turns: function 15 -/
def blackboardref15_Turns.f (a0 : Int) (a1 : Int) : Option (Bool) := if a0 = 1 then (if a1 = 2 then (some true) else (if a0 = 2 then (if a1 = 3 then (some true) else (if a0 = 3 then (if a1 = 1 then (some true) else (if a0 ≥ 1 then (if a0 < 4 then (some (a1 == 4)) else (some false)) else (some false))) else (if a0 ≥ 1 then (if a0 < 4 then (some (a1 == 4)) else (some false)) else (some false)))) else (if a0 = 3 then (if a1 = 1 then (some true) else (if a0 ≥ 1 then (if a0 < 4 then (some (a1 == 4)) else (some false)) else (some false))) else (if a0 ≥ 1 then (if a0 < 4 then (some (a1 == 4)) else (some false)) else (some false))))) else (if a0 = 2 then (if a1 = 3 then (some true) else (if a0 = 3 then (if a1 = 1 then (some true) else (if a0 ≥ 1 then (if a0 < 4 then (some (a1 == 4)) else (some false)) else (some false))) else (if a0 ≥ 1 then (if a0 < 4 then (some (a1 == 4)) else (some false)) else (some false)))) else (if a0 = 3 then (if a1 = 1 then (some true) else (if a0 ≥ 1 then (if a0 < 4 then (some (a1 == 4)) else (some false)) else (some false))) else (if a0 ≥ 1 then (if a0 < 4 then (some (a1 == 4)) else (some false)) else (some false))))
set_option maxHeartbeats 8000000 in
set_option maxRecDepth 100000 in
theorem blackboardref15_Turns.calls (a0 : Int) (a1 : Int) (r : Bool) (w : World) (h : blackboardref15_Turns.f a0 a1 = some r) :
    Calls Try.prog 15 #[.int .i64 a0, .int .i64 a1] w fun e w' => e = .returned (.bool r) ∧ Drawn0 w w' := by
  have H : (if a0 = 1 then (if a1 = 2 then (some true) else (if a0 = 2 then (if a1 = 3 then (some true) else (if a0 = 3 then (if a1 = 1 then (some true) else (if a0 ≥ 1 then (if a0 < 4 then (some (a1 == 4)) else (some false)) else (some false))) else (if a0 ≥ 1 then (if a0 < 4 then (some (a1 == 4)) else (some false)) else (some false)))) else (if a0 = 3 then (if a1 = 1 then (some true) else (if a0 ≥ 1 then (if a0 < 4 then (some (a1 == 4)) else (some false)) else (some false))) else (if a0 ≥ 1 then (if a0 < 4 then (some (a1 == 4)) else (some false)) else (some false))))) else (if a0 = 2 then (if a1 = 3 then (some true) else (if a0 = 3 then (if a1 = 1 then (some true) else (if a0 ≥ 1 then (if a0 < 4 then (some (a1 == 4)) else (some false)) else (some false))) else (if a0 ≥ 1 then (if a0 < 4 then (some (a1 == 4)) else (some false)) else (some false)))) else (if a0 = 3 then (if a1 = 1 then (some true) else (if a0 ≥ 1 then (if a0 < 4 then (some (a1 == 4)) else (some false)) else (some false))) else (if a0 ≥ 1 then (if a0 < 4 then (some (a1 == 4)) else (some false)) else (some false))))) = some r := h
  clear h
  by_cases c3 : a0 = 1
  · rw [if_pos c3] at H
    have c3b0 : (a0 == 1) = true := beq_iff_eq.mpr c3
    have c3b1 : (a0 != 1) = false := bne_eq_false_iff_eq.mpr c3
    clear c3
    by_cases c4 : a1 = 2
    · rw [if_pos c4] at H
      have c4b0 : (a1 == 2) = true := beq_iff_eq.mpr c4
      have c4b1 : (a1 != 2) = false := bne_eq_false_iff_eq.mpr c4
      clear c4
      obtain rfl := Option.some.inj H
      go_enter Try.func15, Try.ntmps15
      go_wp2
      go_ret
      exact ⟨by first | rfl | (simp; done) | (simp [*]; done), by repeat (first | exact Drawn0.refl _ | apply Drawn0.step)⟩
    · rw [if_neg c4] at H
      have c4b0 : (a1 == 2) = false := beq_eq_false_iff_ne.mpr c4
      have c4b1 : (a1 != 2) = true := bne_iff_ne.mpr c4
      by_cases c5 : a0 = 2
      · rw [if_pos c5] at H
        have c5b0 : (a0 == 2) = true := beq_iff_eq.mpr c5
        have c5b1 : (a0 != 2) = false := bne_eq_false_iff_eq.mpr c5
        clear c5
        by_cases c6 : a1 = 3
        · rw [if_pos c6] at H
          have c6b0 : (a1 == 3) = true := beq_iff_eq.mpr c6
          have c6b1 : (a1 != 3) = false := bne_eq_false_iff_eq.mpr c6
          clear c6
          obtain rfl := Option.some.inj H
          go_enter Try.func15, Try.ntmps15
          go_wp2
          go_ret
          exact ⟨by first | rfl | (simp; done) | (simp [*]; done), by repeat (first | exact Drawn0.refl _ | apply Drawn0.step)⟩
        · rw [if_neg c6] at H
          have c6b0 : (a1 == 3) = false := beq_eq_false_iff_ne.mpr c6
          have c6b1 : (a1 != 3) = true := bne_iff_ne.mpr c6
          by_cases c7 : a0 = 3
          · rw [if_pos c7] at H
            have c7b0 : (a0 == 3) = true := beq_iff_eq.mpr c7
            have c7b1 : (a0 != 3) = false := bne_eq_false_iff_eq.mpr c7
            clear c7
            by_cases c8 : a1 = 1
            · rw [if_pos c8] at H
              have c8b0 : (a1 == 1) = true := beq_iff_eq.mpr c8
              have c8b1 : (a1 != 1) = false := bne_eq_false_iff_eq.mpr c8
              clear c8
              obtain rfl := Option.some.inj H
              go_enter Try.func15, Try.ntmps15
              go_wp2
              go_ret
              exact ⟨by first | rfl | (simp; done) | (simp [*]; done), by repeat (first | exact Drawn0.refl _ | apply Drawn0.step)⟩
            · rw [if_neg c8] at H
              have c8b0 : (a1 == 1) = false := beq_eq_false_iff_ne.mpr c8
              have c8b1 : (a1 != 1) = true := bne_iff_ne.mpr c8
              by_cases c9 : a0 ≥ 1
              · rw [if_pos c9] at H
                have c9b0 : decide (1 ≤ a0) = true := decide_eq_true c9
                clear c9
                by_cases c10 : a0 < 4
                · rw [if_pos c10] at H
                  have c10b0 : decide (a0 < 4) = true := decide_eq_true c10
                  clear c10
                  obtain rfl := Option.some.inj H
                  go_enter Try.func15, Try.ntmps15
                  go_wp2
                  go_ret
                  exact ⟨by first | rfl | (simp; done) | (simp [*]; done), by repeat (first | exact Drawn0.refl _ | apply Drawn0.step)⟩
                · rw [if_neg c10] at H
                  have c10b0 : decide (a0 < 4) = false := decide_eq_false c10
                  clear c10
                  obtain rfl := Option.some.inj H
                  go_enter Try.func15, Try.ntmps15
                  go_wp2
                  go_ret
                  exact ⟨by first | rfl | (simp; done) | (simp [*]; done), by repeat (first | exact Drawn0.refl _ | apply Drawn0.step)⟩
              · rw [if_neg c9] at H
                have c9b0 : decide (1 ≤ a0) = false := decide_eq_false c9
                clear c9
                obtain rfl := Option.some.inj H
                go_enter Try.func15, Try.ntmps15
                go_wp2
                go_ret
                exact ⟨by first | rfl | (simp; done) | (simp [*]; done), by repeat (first | exact Drawn0.refl _ | apply Drawn0.step)⟩
          · rw [if_neg c7] at H
            have c7b0 : (a0 == 3) = false := beq_eq_false_iff_ne.mpr c7
            have c7b1 : (a0 != 3) = true := bne_iff_ne.mpr c7
            by_cases c11 : a0 ≥ 1
            · rw [if_pos c11] at H
              have c11b0 : decide (1 ≤ a0) = true := decide_eq_true c11
              clear c11
              by_cases c12 : a0 < 4
              · rw [if_pos c12] at H
                have c12b0 : decide (a0 < 4) = true := decide_eq_true c12
                clear c12
                obtain rfl := Option.some.inj H
                go_enter Try.func15, Try.ntmps15
                go_wp2
                go_ret
                exact ⟨by first | rfl | (simp; done) | (simp [*]; done), by repeat (first | exact Drawn0.refl _ | apply Drawn0.step)⟩
              · rw [if_neg c12] at H
                have c12b0 : decide (a0 < 4) = false := decide_eq_false c12
                clear c12
                obtain rfl := Option.some.inj H
                go_enter Try.func15, Try.ntmps15
                go_wp2
                go_ret
                exact ⟨by first | rfl | (simp; done) | (simp [*]; done), by repeat (first | exact Drawn0.refl _ | apply Drawn0.step)⟩
            · rw [if_neg c11] at H
              have c11b0 : decide (1 ≤ a0) = false := decide_eq_false c11
              clear c11
              obtain rfl := Option.some.inj H
              go_enter Try.func15, Try.ntmps15
              go_wp2
              go_ret
              exact ⟨by first | rfl | (simp; done) | (simp [*]; done), by repeat (first | exact Drawn0.refl _ | apply Drawn0.step)⟩
      · rw [if_neg c5] at H
        have c5b0 : (a0 == 2) = false := beq_eq_false_iff_ne.mpr c5
        have c5b1 : (a0 != 2) = true := bne_iff_ne.mpr c5
        by_cases c13 : a0 = 3
        · rw [if_pos c13] at H
          have c13b0 : (a0 == 3) = true := beq_iff_eq.mpr c13
          have c13b1 : (a0 != 3) = false := bne_eq_false_iff_eq.mpr c13
          clear c13
          by_cases c14 : a1 = 1
          · rw [if_pos c14] at H
            have c14b0 : (a1 == 1) = true := beq_iff_eq.mpr c14
            have c14b1 : (a1 != 1) = false := bne_eq_false_iff_eq.mpr c14
            clear c14
            obtain rfl := Option.some.inj H
            go_enter Try.func15, Try.ntmps15
            go_wp2
            go_ret
            exact ⟨by first | rfl | (simp; done) | (simp [*]; done), by repeat (first | exact Drawn0.refl _ | apply Drawn0.step)⟩
          · rw [if_neg c14] at H
            have c14b0 : (a1 == 1) = false := beq_eq_false_iff_ne.mpr c14
            have c14b1 : (a1 != 1) = true := bne_iff_ne.mpr c14
            by_cases c15 : a0 ≥ 1
            · rw [if_pos c15] at H
              have c15b0 : decide (1 ≤ a0) = true := decide_eq_true c15
              clear c15
              by_cases c16 : a0 < 4
              · rw [if_pos c16] at H
                have c16b0 : decide (a0 < 4) = true := decide_eq_true c16
                clear c16
                obtain rfl := Option.some.inj H
                go_enter Try.func15, Try.ntmps15
                go_wp2
                go_ret
                exact ⟨by first | rfl | (simp; done) | (simp [*]; done), by repeat (first | exact Drawn0.refl _ | apply Drawn0.step)⟩
              · rw [if_neg c16] at H
                have c16b0 : decide (a0 < 4) = false := decide_eq_false c16
                clear c16
                obtain rfl := Option.some.inj H
                go_enter Try.func15, Try.ntmps15
                go_wp2
                go_ret
                exact ⟨by first | rfl | (simp; done) | (simp [*]; done), by repeat (first | exact Drawn0.refl _ | apply Drawn0.step)⟩
            · rw [if_neg c15] at H
              have c15b0 : decide (1 ≤ a0) = false := decide_eq_false c15
              clear c15
              obtain rfl := Option.some.inj H
              go_enter Try.func15, Try.ntmps15
              go_wp2
              go_ret
              exact ⟨by first | rfl | (simp; done) | (simp [*]; done), by repeat (first | exact Drawn0.refl _ | apply Drawn0.step)⟩
        · rw [if_neg c13] at H
          have c13b0 : (a0 == 3) = false := beq_eq_false_iff_ne.mpr c13
          have c13b1 : (a0 != 3) = true := bne_iff_ne.mpr c13
          by_cases c17 : a0 ≥ 1
          · rw [if_pos c17] at H
            have c17b0 : decide (1 ≤ a0) = true := decide_eq_true c17
            clear c17
            by_cases c18 : a0 < 4
            · rw [if_pos c18] at H
              have c18b0 : decide (a0 < 4) = true := decide_eq_true c18
              clear c18
              obtain rfl := Option.some.inj H
              go_enter Try.func15, Try.ntmps15
              go_wp2
              go_ret
              exact ⟨by first | rfl | (simp; done) | (simp [*]; done), by repeat (first | exact Drawn0.refl _ | apply Drawn0.step)⟩
            · rw [if_neg c18] at H
              have c18b0 : decide (a0 < 4) = false := decide_eq_false c18
              clear c18
              obtain rfl := Option.some.inj H
              go_enter Try.func15, Try.ntmps15
              go_wp2
              go_ret
              exact ⟨by first | rfl | (simp; done) | (simp [*]; done), by repeat (first | exact Drawn0.refl _ | apply Drawn0.step)⟩
          · rw [if_neg c17] at H
            have c17b0 : decide (1 ≤ a0) = false := decide_eq_false c17
            clear c17
            obtain rfl := Option.some.inj H
            go_enter Try.func15, Try.ntmps15
            go_wp2
            go_ret
            exact ⟨by first | rfl | (simp; done) | (simp [*]; done), by repeat (first | exact Drawn0.refl _ | apply Drawn0.step)⟩
  · rw [if_neg c3] at H
    have c3b0 : (a0 == 1) = false := beq_eq_false_iff_ne.mpr c3
    have c3b1 : (a0 != 1) = true := bne_iff_ne.mpr c3
    by_cases c19 : a0 = 2
    · rw [if_pos c19] at H
      have c19b0 : (a0 == 2) = true := beq_iff_eq.mpr c19
      have c19b1 : (a0 != 2) = false := bne_eq_false_iff_eq.mpr c19
      clear c19
      by_cases c20 : a1 = 3
      · rw [if_pos c20] at H
        have c20b0 : (a1 == 3) = true := beq_iff_eq.mpr c20
        have c20b1 : (a1 != 3) = false := bne_eq_false_iff_eq.mpr c20
        clear c20
        obtain rfl := Option.some.inj H
        go_enter Try.func15, Try.ntmps15
        go_wp2
        go_ret
        exact ⟨by first | rfl | (simp; done) | (simp [*]; done), by repeat (first | exact Drawn0.refl _ | apply Drawn0.step)⟩
      · rw [if_neg c20] at H
        have c20b0 : (a1 == 3) = false := beq_eq_false_iff_ne.mpr c20
        have c20b1 : (a1 != 3) = true := bne_iff_ne.mpr c20
        by_cases c21 : a0 = 3
        · rw [if_pos c21] at H
          have c21b0 : (a0 == 3) = true := beq_iff_eq.mpr c21
          have c21b1 : (a0 != 3) = false := bne_eq_false_iff_eq.mpr c21
          clear c21
          by_cases c22 : a1 = 1
          · rw [if_pos c22] at H
            have c22b0 : (a1 == 1) = true := beq_iff_eq.mpr c22
            have c22b1 : (a1 != 1) = false := bne_eq_false_iff_eq.mpr c22
            clear c22
            obtain rfl := Option.some.inj H
            go_enter Try.func15, Try.ntmps15
            go_wp2
            go_ret
            exact ⟨by first | rfl | (simp; done) | (simp [*]; done), by repeat (first | exact Drawn0.refl _ | apply Drawn0.step)⟩
          · rw [if_neg c22] at H
            have c22b0 : (a1 == 1) = false := beq_eq_false_iff_ne.mpr c22
            have c22b1 : (a1 != 1) = true := bne_iff_ne.mpr c22
            by_cases c23 : a0 ≥ 1
            · rw [if_pos c23] at H
              have c23b0 : decide (1 ≤ a0) = true := decide_eq_true c23
              clear c23
              by_cases c24 : a0 < 4
              · rw [if_pos c24] at H
                have c24b0 : decide (a0 < 4) = true := decide_eq_true c24
                clear c24
                obtain rfl := Option.some.inj H
                go_enter Try.func15, Try.ntmps15
                go_wp2
                go_ret
                exact ⟨by first | rfl | (simp; done) | (simp [*]; done), by repeat (first | exact Drawn0.refl _ | apply Drawn0.step)⟩
              · rw [if_neg c24] at H
                have c24b0 : decide (a0 < 4) = false := decide_eq_false c24
                clear c24
                obtain rfl := Option.some.inj H
                go_enter Try.func15, Try.ntmps15
                go_wp2
                go_ret
                exact ⟨by first | rfl | (simp; done) | (simp [*]; done), by repeat (first | exact Drawn0.refl _ | apply Drawn0.step)⟩
            · rw [if_neg c23] at H
              have c23b0 : decide (1 ≤ a0) = false := decide_eq_false c23
              clear c23
              obtain rfl := Option.some.inj H
              go_enter Try.func15, Try.ntmps15
              go_wp2
              go_ret
              exact ⟨by first | rfl | (simp; done) | (simp [*]; done), by repeat (first | exact Drawn0.refl _ | apply Drawn0.step)⟩
        · rw [if_neg c21] at H
          have c21b0 : (a0 == 3) = false := beq_eq_false_iff_ne.mpr c21
          have c21b1 : (a0 != 3) = true := bne_iff_ne.mpr c21
          by_cases c25 : a0 ≥ 1
          · rw [if_pos c25] at H
            have c25b0 : decide (1 ≤ a0) = true := decide_eq_true c25
            clear c25
            by_cases c26 : a0 < 4
            · rw [if_pos c26] at H
              have c26b0 : decide (a0 < 4) = true := decide_eq_true c26
              clear c26
              obtain rfl := Option.some.inj H
              go_enter Try.func15, Try.ntmps15
              go_wp2
              go_ret
              exact ⟨by first | rfl | (simp; done) | (simp [*]; done), by repeat (first | exact Drawn0.refl _ | apply Drawn0.step)⟩
            · rw [if_neg c26] at H
              have c26b0 : decide (a0 < 4) = false := decide_eq_false c26
              clear c26
              obtain rfl := Option.some.inj H
              go_enter Try.func15, Try.ntmps15
              go_wp2
              go_ret
              exact ⟨by first | rfl | (simp; done) | (simp [*]; done), by repeat (first | exact Drawn0.refl _ | apply Drawn0.step)⟩
          · rw [if_neg c25] at H
            have c25b0 : decide (1 ≤ a0) = false := decide_eq_false c25
            clear c25
            obtain rfl := Option.some.inj H
            go_enter Try.func15, Try.ntmps15
            go_wp2
            go_ret
            exact ⟨by first | rfl | (simp; done) | (simp [*]; done), by repeat (first | exact Drawn0.refl _ | apply Drawn0.step)⟩
    · rw [if_neg c19] at H
      have c19b0 : (a0 == 2) = false := beq_eq_false_iff_ne.mpr c19
      have c19b1 : (a0 != 2) = true := bne_iff_ne.mpr c19
      by_cases c27 : a0 = 3
      · rw [if_pos c27] at H
        have c27b0 : (a0 == 3) = true := beq_iff_eq.mpr c27
        have c27b1 : (a0 != 3) = false := bne_eq_false_iff_eq.mpr c27
        clear c27
        by_cases c28 : a1 = 1
        · rw [if_pos c28] at H
          have c28b0 : (a1 == 1) = true := beq_iff_eq.mpr c28
          have c28b1 : (a1 != 1) = false := bne_eq_false_iff_eq.mpr c28
          clear c28
          obtain rfl := Option.some.inj H
          go_enter Try.func15, Try.ntmps15
          go_wp2
          go_ret
          exact ⟨by first | rfl | (simp; done) | (simp [*]; done), by repeat (first | exact Drawn0.refl _ | apply Drawn0.step)⟩
        · rw [if_neg c28] at H
          have c28b0 : (a1 == 1) = false := beq_eq_false_iff_ne.mpr c28
          have c28b1 : (a1 != 1) = true := bne_iff_ne.mpr c28
          by_cases c29 : a0 ≥ 1
          · rw [if_pos c29] at H
            have c29b0 : decide (1 ≤ a0) = true := decide_eq_true c29
            clear c29
            by_cases c30 : a0 < 4
            · rw [if_pos c30] at H
              have c30b0 : decide (a0 < 4) = true := decide_eq_true c30
              clear c30
              obtain rfl := Option.some.inj H
              go_enter Try.func15, Try.ntmps15
              go_wp2
              go_ret
              exact ⟨by first | rfl | (simp; done) | (simp [*]; done), by repeat (first | exact Drawn0.refl _ | apply Drawn0.step)⟩
            · rw [if_neg c30] at H
              have c30b0 : decide (a0 < 4) = false := decide_eq_false c30
              clear c30
              obtain rfl := Option.some.inj H
              go_enter Try.func15, Try.ntmps15
              go_wp2
              go_ret
              exact ⟨by first | rfl | (simp; done) | (simp [*]; done), by repeat (first | exact Drawn0.refl _ | apply Drawn0.step)⟩
          · rw [if_neg c29] at H
            have c29b0 : decide (1 ≤ a0) = false := decide_eq_false c29
            clear c29
            obtain rfl := Option.some.inj H
            go_enter Try.func15, Try.ntmps15
            go_wp2
            go_ret
            exact ⟨by first | rfl | (simp; done) | (simp [*]; done), by repeat (first | exact Drawn0.refl _ | apply Drawn0.step)⟩
      · rw [if_neg c27] at H
        have c27b0 : (a0 == 3) = false := beq_eq_false_iff_ne.mpr c27
        have c27b1 : (a0 != 3) = true := bne_iff_ne.mpr c27
        by_cases c31 : a0 ≥ 1
        · rw [if_pos c31] at H
          have c31b0 : decide (1 ≤ a0) = true := decide_eq_true c31
          clear c31
          by_cases c32 : a0 < 4
          · rw [if_pos c32] at H
            have c32b0 : decide (a0 < 4) = true := decide_eq_true c32
            clear c32
            obtain rfl := Option.some.inj H
            go_enter Try.func15, Try.ntmps15
            go_wp2
            go_ret
            exact ⟨by first | rfl | (simp; done) | (simp [*]; done), by repeat (first | exact Drawn0.refl _ | apply Drawn0.step)⟩
          · rw [if_neg c32] at H
            have c32b0 : decide (a0 < 4) = false := decide_eq_false c32
            clear c32
            obtain rfl := Option.some.inj H
            go_enter Try.func15, Try.ntmps15
            go_wp2
            go_ret
            exact ⟨by first | rfl | (simp; done) | (simp [*]; done), by repeat (first | exact Drawn0.refl _ | apply Drawn0.step)⟩
        · rw [if_neg c31] at H
          have c31b0 : decide (1 ≤ a0) = false := decide_eq_false c31
          clear c31
          obtain rfl := Option.some.inj H
          go_enter Try.func15, Try.ntmps15
          go_wp2
          go_ret
          exact ⟨by first | rfl | (simp; done) | (simp [*]; done), by repeat (first | exact Drawn0.refl _ | apply Drawn0.step)⟩

/-- THE ONE PURE STATEMENT of blackboardref15_Turns: yours. -/
def blackboardref15_Turns.Pure : Prop := ∀ (a0 : Int) (a1 : Int), (Lit.int .i64 a0).wf = true → (Lit.int .i64 a1).wf = true → blackboardref15_Turns.f a0 a1 = some true
theorem blackboardref15_Turns.walk (P : blackboardref15_Turns.Pure) (a0 : Int) (a1 : Int) (w : World) (w0 : (Lit.int .i64 a0).wf = true) (w1 : (Lit.int .i64 a1).wf = true) :
    Calls Try.prog 15 #[.int .i64 a0, .int .i64 a1] w fun e w' => e = .returned (.bool true) ∧ Below w.heap.size w w' := by
  have h := P a0 a1 w0 w1
  refine (blackboardref15_Turns.calls a0 a1 true w h).mono ?_
  rintro e w' ⟨rfl, hd⟩
  exact ⟨rfl, hd.below⟩

end Go.Proofs.Ytfgfjgjabcmheaa.R
