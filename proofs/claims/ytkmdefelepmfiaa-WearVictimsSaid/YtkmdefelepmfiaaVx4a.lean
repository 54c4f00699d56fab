/- Printed for this seat by a program of this session (over the kit's print), with contracts of its own laid in. -/
import Derived.Test.YtkmdefelepmfiaaVx0
import Derived.Test.YtkmdefelepmfiaaVx3
import Derived.BigQuiet
namespace Go.Proofs.Ytkmdefelepmfiaa.V
open Go.RowKit Go.Proofs.YtkmdefelepmfiaaW.PrintWords Go.Proofs.YtkmdefelepmfiaaW.PrintLast Go.Proofs.YtkmdefelepmfiaaW.PrintMore
attribute [local go_sem] max2_int min2_int max_two min_two max_three min_three max_four min_four   -- for this text's walks alone
set_option linter.unusedVariables false
set_option linter.unusedSimpArgs false

/-! ### blackboardlaw13_WearVictims: function 7 -/
mutual
def blackboardlaw13_WearVictims.l0 : Nat → List (S35) → List Int → List Int → List Int → List Bool → Int → Option (Bool)
 | 0, _, _, _, _, _, _ => none
 | k + 1, x0, x3, x4, x5, x6, x7 => if x7 < (x0.length : Int) then (if 0 ≤ x7 then ((some (([wrap64 ((rd_T35 x0 x7).f0)] : List Int) : List Int)).bind fun y143 => (if x3.length + y143.length < 17592186044416 then ((some (x3 ++ y143 : List Int)).bind fun y146 => ((some (([wrap64 ((rd_T35 x0 x7).f1)] : List Int) : List Int)).bind fun y150 => (if x4.length + y150.length < 17592186044416 then ((some (x4 ++ y150 : List Int)).bind fun y153 => ((some (([((Go.bits .and .u8 ((rd_T35 x0 x7).f2) 1) == 1)] : List Bool) : List Bool)).bind fun y157 => (if x6.length + y157.length < 140737488355328 then ((some (x6 ++ y157 : List Bool)).bind fun y160 => (if (Go.bits .and .u8 ((rd_T35 x0 x7).f2) 1) = 0 then (blackboardlaw13_WearVictims.j1 k x0 y146 y153 x5 y160 x7 0) else (blackboardlaw13_WearVictims.j1 k x0 y146 y153 x5 y160 x7 (wrap64 ((rd_T35 x0 x7).f0))))) else (none)))) else (none)))) else (none))) else (none)) else ((wear_Victim.f k x3 x4 x6).bind fun bt171 => ((wear_Victim.f k x5 x4 x6).bind fun bt173 => (if bt171.1 = bt173.1 then (blackboardlaw13_WearVictims.j2 k x0 x3 x4 x6 bt171.1 bt171.2 (bt171.2 != bt173.2)) else (blackboardlaw13_WearVictims.j2 k x0 x3 x4 x6 bt171.1 bt171.2 true))))
def blackboardlaw13_WearVictims.j1 : Nat → List (S35) → List Int → List Int → List Int → List Bool → Int → Int → Option (Bool)
 | 0, _, _, _, _, _, _, _ => none
 | k + 1, x0, x3, x4, x5, x6, x7, x8 => (some (([x8] : List Int) : List Int)).bind fun y165 => (if x5.length + y165.length < 17592186044416 then (blackboardlaw13_WearVictims.l0 k x0 x3 x4 (x5 ++ y165) x6 (wrap64 (x7 + 1))) else (none))
def blackboardlaw13_WearVictims.j2 : Nat → List (S35) → List Int → List Int → List Bool → Int → Bool → Bool → Option (Bool)
 | 0, _, _, _, _, _, _, _ => none
 | k + 1, x0, x3, x4, x6, x9, x10, x91 => if x91 = true then (some false) else (blackboardlaw13_WearVictims.l1 k x0 x3 x4 x6 x9 x10 0)
def blackboardlaw13_WearVictims.l1 : Nat → List (S35) → List Int → List Int → List Bool → Int → Bool → Int → Option (Bool)
 | 0, _, _, _, _, _, _, _ => none
 | k + 1, x0, x3, x4, x6, x9, x10, x13 => if x13 < (x0.length : Int) then (if 0 ≤ x13 then (if x13 < (x6.length : Int) then (if rdOf false x6 x13 = true then (if x10 = true then (if x13 < (x3.length : Int) then (if 0 ≤ x9 then (if x9 < (x3.length : Int) then (if (rd x3 x13) < (rd x3 x9) then (blackboardlaw13_WearVictims.j4 k x0 x3 x4 x6 x9 x10 x13 true) else (if (rd x3 x13) = (rd x3 x9) then (if x13 < (x4.length : Int) then (if x9 < (x4.length : Int) then (if (rd x4 x13) < (rd x4 x9) then (blackboardlaw13_WearVictims.j4 k x0 x3 x4 x6 x9 x10 x13 true) else (if (rd x4 x13) = (rd x4 x9) then (blackboardlaw13_WearVictims.j4 k x0 x3 x4 x6 x9 x10 x13 (decide (x13 < x9))) else (blackboardlaw13_WearVictims.j4 k x0 x3 x4 x6 x9 x10 x13 false))) else (none)) else (none)) else (blackboardlaw13_WearVictims.j4 k x0 x3 x4 x6 x9 x10 x13 false))) else (none)) else (none)) else (none)) else (blackboardlaw13_WearVictims.j4 k x0 x3 x4 x6 x9 x10 x13 true)) else (blackboardlaw13_WearVictims.j4 k x0 x3 x4 x6 x9 x10 x13 false)) else (none)) else (none)) else (if x10 = true then (if 0 ≤ x9 then (if x9 < (x6.length : Int) then (blackboardlaw13_WearVictims.j5 k (rdOf false x6 x9)) else (none)) else (none)) else (blackboardlaw13_WearVictims.j5 k true))
def blackboardlaw13_WearVictims.j4 : Nat → List (S35) → List Int → List Int → List Bool → Int → Bool → Int → Bool → Option (Bool)
 | 0, _, _, _, _, _, _, _, _ => none
 | k + 1, x0, x3, x4, x6, x9, x10, x13, x154 => if x154 = true then (some false) else (blackboardlaw13_WearVictims.l1 k x0 x3 x4 x6 x9 x10 (wrap64 (x13 + 1)))
def blackboardlaw13_WearVictims.j5 : Nat → Bool → Option (Bool)
 | 0, _ => none
 | k + 1, x2 => some x2
end
def blackboardlaw13_WearVictims.f (k : Nat) (l0 : List (S35)) : Option (Bool) := (blackboardlaw13_awake.f k).bind fun t141 => (if t141 = true then (if (l0.length : Int) > 200 then (some true) else (blackboardlaw13_WearVictims.l0 k l0 ([] : List Int) ([] : List Int) ([] : List Int) ([] : List Bool) 0)) else (some false))
theorem blackboardlaw13_WearVictims.mono_l : ∀ k, (∀ y0 y1 y2 y3 y4 y5, LeO (blackboardlaw13_WearVictims.l0 k y0 y1 y2 y3 y4 y5) (blackboardlaw13_WearVictims.l0 (k + 1) y0 y1 y2 y3 y4 y5)) ∧ (∀ y0 y1 y2 y3 y4 y5 y6, LeO (blackboardlaw13_WearVictims.j1 k y0 y1 y2 y3 y4 y5 y6) (blackboardlaw13_WearVictims.j1 (k + 1) y0 y1 y2 y3 y4 y5 y6)) ∧ (∀ y0 y1 y2 y3 y4 y5 y6, LeO (blackboardlaw13_WearVictims.j2 k y0 y1 y2 y3 y4 y5 y6) (blackboardlaw13_WearVictims.j2 (k + 1) y0 y1 y2 y3 y4 y5 y6)) ∧ (∀ y0 y1 y2 y3 y4 y5 y6, LeO (blackboardlaw13_WearVictims.l1 k y0 y1 y2 y3 y4 y5 y6) (blackboardlaw13_WearVictims.l1 (k + 1) y0 y1 y2 y3 y4 y5 y6)) ∧ (∀ y0 y1 y2 y3 y4 y5 y6 y7, LeO (blackboardlaw13_WearVictims.j4 k y0 y1 y2 y3 y4 y5 y6 y7) (blackboardlaw13_WearVictims.j4 (k + 1) y0 y1 y2 y3 y4 y5 y6 y7)) ∧ (∀ y0, LeO (blackboardlaw13_WearVictims.j5 k y0) (blackboardlaw13_WearVictims.j5 (k + 1) y0))
 | 0 => ⟨fun _ _ _ _ _ _ r h => by simp [blackboardlaw13_WearVictims.l0] at h, fun _ _ _ _ _ _ _ r h => by simp [blackboardlaw13_WearVictims.j1] at h, fun _ _ _ _ _ _ _ r h => by simp [blackboardlaw13_WearVictims.j2] at h, fun _ _ _ _ _ _ _ r h => by simp [blackboardlaw13_WearVictims.l1] at h, fun _ _ _ _ _ _ _ _ r h => by simp [blackboardlaw13_WearVictims.j4] at h, fun _ r h => by simp [blackboardlaw13_WearVictims.j5] at h⟩
 | k + 1 => by
  obtain ⟨ih0, ih1, ih2, ih3, ih4, ih5⟩ := blackboardlaw13_WearVictims.mono_l k
  refine ⟨?_, ?_, ?_, ?_, ?_, ?_⟩
  ·
   intro y0 y1 y2 y3 y4 y5
   unfold blackboardlaw13_WearVictims.l0
   repeat' first
   | (with_reducible exact ih0 _ _ _ _ _ _)
   | (with_reducible exact ih1 _ _ _ _ _ _ _)
   | (with_reducible exact ih2 _ _ _ _ _ _ _)
   | (with_reducible exact ih3 _ _ _ _ _ _ _)
   | (with_reducible exact ih4 _ _ _ _ _ _ _ _)
   | (with_reducible exact ih5 _)
   | (with_reducible exact blackboardlaw13_awake.mono _)
   | (with_reducible exact wear_Victim.mono _ _ _ _)
   | (with_reducible exact LeO.refl _)
   | (with_reducible exact LeO.none _)
   | (with_reducible refine LeO.ite ?_ ?_)
   | (with_reducible refine LeO.bind ?_ (fun _ => ?_))
   | exact ih0 _ _ _ _ _ _
   | exact ih1 _ _ _ _ _ _ _
   | exact ih2 _ _ _ _ _ _ _
   | exact ih3 _ _ _ _ _ _ _
   | exact ih4 _ _ _ _ _ _ _ _
   | exact ih5 _
   | exact blackboardlaw13_awake.mono _
   | exact wear_Victim.mono _ _ _ _
   | exact LeO.none _
   | refine LeO.ite ?_ ?_
   | refine LeO.bind ?_ (fun _ => ?_)
  ·
   intro y0 y1 y2 y3 y4 y5 y6
   unfold blackboardlaw13_WearVictims.j1
   repeat' first
   | (with_reducible exact ih0 _ _ _ _ _ _)
   | (with_reducible exact ih1 _ _ _ _ _ _ _)
   | (with_reducible exact ih2 _ _ _ _ _ _ _)
   | (with_reducible exact ih3 _ _ _ _ _ _ _)
   | (with_reducible exact ih4 _ _ _ _ _ _ _ _)
   | (with_reducible exact ih5 _)
   | (with_reducible exact blackboardlaw13_awake.mono _)
   | (with_reducible exact wear_Victim.mono _ _ _ _)
   | (with_reducible exact LeO.refl _)
   | (with_reducible exact LeO.none _)
   | (with_reducible refine LeO.ite ?_ ?_)
   | (with_reducible refine LeO.bind ?_ (fun _ => ?_))
   | exact ih0 _ _ _ _ _ _
   | exact ih1 _ _ _ _ _ _ _
   | exact ih2 _ _ _ _ _ _ _
   | exact ih3 _ _ _ _ _ _ _
   | exact ih4 _ _ _ _ _ _ _ _
   | exact ih5 _
   | exact blackboardlaw13_awake.mono _
   | exact wear_Victim.mono _ _ _ _
   | exact LeO.none _
   | refine LeO.ite ?_ ?_
   | refine LeO.bind ?_ (fun _ => ?_)
  ·
   intro y0 y1 y2 y3 y4 y5 y6
   unfold blackboardlaw13_WearVictims.j2
   repeat' first
   | (with_reducible exact ih0 _ _ _ _ _ _)
   | (with_reducible exact ih1 _ _ _ _ _ _ _)
   | (with_reducible exact ih2 _ _ _ _ _ _ _)
   | (with_reducible exact ih3 _ _ _ _ _ _ _)
   | (with_reducible exact ih4 _ _ _ _ _ _ _ _)
   | (with_reducible exact ih5 _)
   | (with_reducible exact blackboardlaw13_awake.mono _)
   | (with_reducible exact wear_Victim.mono _ _ _ _)
   | (with_reducible exact LeO.refl _)
   | (with_reducible exact LeO.none _)
   | (with_reducible refine LeO.ite ?_ ?_)
   | (with_reducible refine LeO.bind ?_ (fun _ => ?_))
   | exact ih0 _ _ _ _ _ _
   | exact ih1 _ _ _ _ _ _ _
   | exact ih2 _ _ _ _ _ _ _
   | exact ih3 _ _ _ _ _ _ _
   | exact ih4 _ _ _ _ _ _ _ _
   | exact ih5 _
   | exact blackboardlaw13_awake.mono _
   | exact wear_Victim.mono _ _ _ _
   | exact LeO.none _
   | refine LeO.ite ?_ ?_
   | refine LeO.bind ?_ (fun _ => ?_)
  ·
   intro y0 y1 y2 y3 y4 y5 y6
   unfold blackboardlaw13_WearVictims.l1
   repeat' first
   | (with_reducible exact ih0 _ _ _ _ _ _)
   | (with_reducible exact ih1 _ _ _ _ _ _ _)
   | (with_reducible exact ih2 _ _ _ _ _ _ _)
   | (with_reducible exact ih3 _ _ _ _ _ _ _)
   | (with_reducible exact ih4 _ _ _ _ _ _ _ _)
   | (with_reducible exact ih5 _)
   | (with_reducible exact blackboardlaw13_awake.mono _)
   | (with_reducible exact wear_Victim.mono _ _ _ _)
   | (with_reducible exact LeO.refl _)
   | (with_reducible exact LeO.none _)
   | (with_reducible refine LeO.ite ?_ ?_)
   | (with_reducible refine LeO.bind ?_ (fun _ => ?_))
   | exact ih0 _ _ _ _ _ _
   | exact ih1 _ _ _ _ _ _ _
   | exact ih2 _ _ _ _ _ _ _
   | exact ih3 _ _ _ _ _ _ _
   | exact ih4 _ _ _ _ _ _ _ _
   | exact ih5 _
   | exact blackboardlaw13_awake.mono _
   | exact wear_Victim.mono _ _ _ _
   | exact LeO.none _
   | refine LeO.ite ?_ ?_
   | refine LeO.bind ?_ (fun _ => ?_)
  ·
   intro y0 y1 y2 y3 y4 y5 y6 y7
   unfold blackboardlaw13_WearVictims.j4
   repeat' first
   | (with_reducible exact ih0 _ _ _ _ _ _)
   | (with_reducible exact ih1 _ _ _ _ _ _ _)
   | (with_reducible exact ih2 _ _ _ _ _ _ _)
   | (with_reducible exact ih3 _ _ _ _ _ _ _)
   | (with_reducible exact ih4 _ _ _ _ _ _ _ _)
   | (with_reducible exact ih5 _)
   | (with_reducible exact blackboardlaw13_awake.mono _)
   | (with_reducible exact wear_Victim.mono _ _ _ _)
   | (with_reducible exact LeO.refl _)
   | (with_reducible exact LeO.none _)
   | (with_reducible refine LeO.ite ?_ ?_)
   | (with_reducible refine LeO.bind ?_ (fun _ => ?_))
   | exact ih0 _ _ _ _ _ _
   | exact ih1 _ _ _ _ _ _ _
   | exact ih2 _ _ _ _ _ _ _
   | exact ih3 _ _ _ _ _ _ _
   | exact ih4 _ _ _ _ _ _ _ _
   | exact ih5 _
   | exact blackboardlaw13_awake.mono _
   | exact wear_Victim.mono _ _ _ _
   | exact LeO.none _
   | refine LeO.ite ?_ ?_
   | refine LeO.bind ?_ (fun _ => ?_)
  ·
   intro y0
   unfold blackboardlaw13_WearVictims.j5
   repeat' first
   | (with_reducible exact ih0 _ _ _ _ _ _)
   | (with_reducible exact ih1 _ _ _ _ _ _ _)
   | (with_reducible exact ih2 _ _ _ _ _ _ _)
   | (with_reducible exact ih3 _ _ _ _ _ _ _)
   | (with_reducible exact ih4 _ _ _ _ _ _ _ _)
   | (with_reducible exact ih5 _)
   | (with_reducible exact blackboardlaw13_awake.mono _)
   | (with_reducible exact wear_Victim.mono _ _ _ _)
   | (with_reducible exact LeO.refl _)
   | (with_reducible exact LeO.none _)
   | (with_reducible refine LeO.ite ?_ ?_)
   | (with_reducible refine LeO.bind ?_ (fun _ => ?_))
   | exact ih0 _ _ _ _ _ _
   | exact ih1 _ _ _ _ _ _ _
   | exact ih2 _ _ _ _ _ _ _
   | exact ih3 _ _ _ _ _ _ _
   | exact ih4 _ _ _ _ _ _ _ _
   | exact ih5 _
   | exact blackboardlaw13_awake.mono _
   | exact wear_Victim.mono _ _ _ _
   | exact LeO.none _
   | refine LeO.ite ?_ ?_
   | refine LeO.bind ?_ (fun _ => ?_)
theorem blackboardlaw13_WearVictims.mono : ∀ a0 k, LeO (blackboardlaw13_WearVictims.f k a0) (blackboardlaw13_WearVictims.f (k + 1) a0) := by
 intro a0 k
 obtain ⟨ih0, ih1, ih2, ih3, ih4, ih5⟩ := blackboardlaw13_WearVictims.mono_l k
 unfold blackboardlaw13_WearVictims.f
 repeat' first
   | (with_reducible exact ih0 _ _ _ _ _ _)
   | (with_reducible exact ih1 _ _ _ _ _ _ _)
   | (with_reducible exact ih2 _ _ _ _ _ _ _)
   | (with_reducible exact ih3 _ _ _ _ _ _ _)
   | (with_reducible exact ih4 _ _ _ _ _ _ _ _)
   | (with_reducible exact ih5 _)
   | (with_reducible exact blackboardlaw13_awake.mono _)
   | (with_reducible exact wear_Victim.mono _ _ _ _)
   | (with_reducible exact LeO.refl _)
   | (with_reducible exact LeO.none _)
   | (with_reducible refine LeO.ite ?_ ?_)
   | (with_reducible refine LeO.bind ?_ (fun _ => ?_))
   | exact ih0 _ _ _ _ _ _
   | exact ih1 _ _ _ _ _ _ _
   | exact ih2 _ _ _ _ _ _ _
   | exact ih3 _ _ _ _ _ _ _
   | exact ih4 _ _ _ _ _ _ _ _
   | exact ih5 _
   | exact blackboardlaw13_awake.mono _
   | exact wear_Victim.mono _ _ _ _
   | exact LeO.none _
   | refine LeO.ite ?_ ?_
   | refine LeO.bind ?_ (fun _ => ?_)
def blackboardlaw13_WearVictims.T10 : Bool × List (List Nat × List Nat) := (true, [([], []), ([], []), ([], []), ([1, 2], [1, 2]), ([3], [3]), ([4], [4]), ([5], [5]), ([6], [6]), ([0, 7], [0, 7]), ([], []), ([], []), ([], []), ([10, 11], [10, 11]), ([12], [12]), ([13], [13]), ([14], [14]), ([15], [15]), ([9, 16, 8], [9, 16]), ([], []), ([], []), ([], []), ([19, 20], [19, 20]), ([21], [21]), ([22], [22]), ([23], [23]), ([24], [24]), ([25], [25]), ([18, 26, 17], [18, 26]), ([8, 27, 0, 1, 2, 3, 4, 5, 6, 7, 8], [0, 8]), ([17, 28, 0, 1, 2, 3, 4, 5, 6, 7, 8, 9, 10, 11, 12, 13, 14, 15, 16, 17, 28], [9, 17]), ([27, 29, 0, 1, 2, 3, 4, 5, 6, 7, 8, 9, 10, 11, 12, 13, 14, 15, 16, 17, 18, 19, 20, 21, 22, 23, 24, 25, 26, 27, 28, 29], [18, 27])])
def blackboardlaw13_WearVictims.B10 : List Nat := [0, 0, 0, 6, 14, 30, 62, 126, 255, 0, 0, 0, 3072, 7168, 15360, 31744, 64512, 131071, 0, 0, 0, 1572864, 3670016, 7864320, 16252928, 33030144, 66584576, 134217727, 268435455, 536870911, 1073741823]
theorem blackboardlaw13_WearVictims.tab10 : rtab .any (opsOf Try.f7 10) = blackboardlaw13_WearVictims.T10 := by kernel_rfl
theorem blackboardlaw13_WearVictims.bits10 : waitsOk blackboardlaw13_WearVictims.T10.2 blackboardlaw13_WearVictims.B10 = true := by kernel_rfl
theorem blackboardlaw13_WearVictims.j2_no (y0 : Nat) (y1 : List (S35)) (y2 : List Int) (y3 : List Int) (y4 : List Bool) (y5 : Int) (y6 : Bool) : ¬ blackboardlaw13_WearVictims.j2 y0 y1 y2 y3 y4 y5 y6 true = some true := by
 cases y0 <;> simp [blackboardlaw13_WearVictims.j2]
theorem blackboardlaw13_WearVictims.j4_no (y0 : Nat) (y1 : List (S35)) (y2 : List Int) (y3 : List Int) (y4 : List Bool) (y5 : Int) (y6 : Bool) (y7 : Int) : ¬ blackboardlaw13_WearVictims.j4 y0 y1 y2 y3 y4 y5 y6 y7 true = some true := by
 cases y0 <;> simp [blackboardlaw13_WearVictims.j4]
abbrev WearVictims.q0 : Array Bool := #[true, true, true, true, true, true, true, true, true, true, true, true, true, true, true, true, true, true, true, true, true, true, true, true, true, true, true, false, false, false, false]
abbrev WearVictims.q1 : Array Bool := #[true, true, true, true, true, true, true, true, true, true, true, true, true, true, true, true, true, true, true, true, true, true, true, true, true, true, false, false, false, false, false]
abbrev WearVictims.q2 : Array Bool := #[true, true, true, true, true, true, true, true, true, true, true, true, true, true, true, true, true, false, true, true, true, true, true, true, true, true, true, false, false, false, false]
abbrev WearVictims.q3 : Array Bool := #[true, true, true, true, true, true, true, true, true, true, true, true, true, true, true, true, true, false, true, true, true, true, true, true, true, true, false, false, false, false, false]
abbrev WearVictims.q4 : Array Bool := #[true, true, true, true, true, true, true, true, true, true, true, true, true, true, true, true, false, false, true, true, true, true, true, true, true, true, true, false, false, false, false]
abbrev WearVictims.q5 : Array Bool := #[true, true, true, true, true, true, true, true, false, true, true, true, true, true, true, true, true, false, true, true, true, true, true, true, true, true, true, false, false, false, false]
abbrev WearVictims.q6 : Array Bool := #[true, true, true, true, true, true, true, true, true, true, true, true, true, true, true, true, false, false, true, true, true, true, true, true, true, true, false, false, false, false, false]
abbrev WearVictims.q7 : Array Bool := #[true, true, true, true, true, true, true, true, false, true, true, true, true, true, true, true, true, false, true, true, true, true, true, true, true, true, false, false, false, false, false]
abbrev WearVictims.q8 : Array Bool := #[true, true, true, true, true, true, true, true, false, true, true, true, true, true, true, true, false, false, true, true, true, true, true, true, true, true, true, false, false, false, false]
abbrev WearVictims.q9 : Array Bool := #[true, true, true, true, true, true, true, false, false, true, true, true, true, true, true, true, true, false, true, true, true, true, true, true, true, true, true, false, false, false, false]
abbrev WearVictims.q10 : Array Bool := #[true, true, true, true, true, true, true, true, false, true, true, true, true, true, true, true, false, false, true, true, true, true, true, true, true, true, false, false, false, false, false]
abbrev WearVictims.q11 : Array Bool := #[true, true, true, true, true, true, true, false, false, true, true, true, true, true, true, true, true, false, true, true, true, true, true, true, true, true, false, false, false, false, false]
abbrev WearVictims.q12 : Array Bool := #[true, true, true, true, true, true, true, false, false, true, true, true, true, true, true, true, false, false, true, true, true, true, true, true, true, true, true, false, false, false, false]
theorem r1 {α : Type} {d : Kd α} {e : Nat} {w : World} {base : Nat} {ok : Nat → Prop} {v : Value} {xs : List α} (h : Kd.R d e w base ok v xs) (o : Obj) : Kd.R d e (w.alloc o) base ok v xs := Kd.R_alloc h o
theorem r2 {α : Type} {d : Kd α} {e : Nat} {w : World} {base : Nat} {ok : Nat → Prop} {v : Value} {xs : List α} (h : Kd.R d e w base ok v xs) (m : Nat) : Kd.R d e (w.drewN m) base ok v xs := Kd.R_drewN h m
theorem r3 {α : Type} {d : Kd α} {e : Nat} {w : World} {base : Nat} {ok : Nat → Prop} {v : Value} {xs : List α} (h : Kd.R d e w base ok v xs) : Kd.R d e w.drew base ok v xs := Kd.R_drew h
theorem cl_ {w W : World} {a : Addr} {v : Value} (hb : Below w.heap.size w W) (h : w.cell? a = some v) : W.cell? a = some v := (hb.cell (World.block_lt_of_cell? w _ h)).trans h
theorem p1 {α : Type} (l : List α) (i : Nat) (a : α) : l.toArray.setIfInBounds i a = (l.set i a).toArray := List.setIfInBounds_toArray l i a
theorem p2 {α : Type} (x : α) (xs : List α) (a : α) : (x :: xs).set 0 a = a :: xs := List.set_cons_zero
theorem p3 {α : Type} (x : α) (xs : List α) (n : Nat) (a : α) : (x :: xs).set (n + 1) a = x :: xs.set n a := List.set_cons_succ
theorem b1 {w W : World} (h : Below w.heap.size w W) (o : Obj) : Below w.heap.size w (W.alloc o) := below_alloc h o
theorem b2 {B : Nat} {w W : World} (h : Below B w W) (n : Nat) : Below B w (W.drewN n) := pw_below_drewN h n
theorem b3 {base : Nat} {w W : World} (h : Below base w W) : Below base w W.drew := below_drew1 h
end Go.Proofs.Ytkmdefelepmfiaa.V
