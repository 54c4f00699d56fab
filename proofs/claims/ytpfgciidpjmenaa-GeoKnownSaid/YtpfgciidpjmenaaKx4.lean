/- Printed for this seat by a program of this session (over the kit's print), with contracts of its own laid in. -/
import Derived.Test.YtpfgciidpjmenaaKx0
import Derived.Test.YtpfgciidpjmenaaKx1
import Derived.Test.YtpfgciidpjmenaaKx2
import Derived.Test.YtpfgciidpjmenaaKx3
namespace Go.Proofs.Ytpfgciidpjmenaa.K
open Go.RowKit Go.Proofs.YtpfgciidpjmenaaW.PrintWords Go.Proofs.YtpfgciidpjmenaaW.PrintLast Go.Proofs.YtpfgciidpjmenaaW.PrintMore
attribute [local go_sem] max2_int min2_int max_two min_two max_three min_three max_four min_four   -- for this text's walks alone
set_option linter.unusedVariables false
set_option linter.unusedSimpArgs false

/-! ### blackboardlaw7_GeoKnown: function 4 -/
mutual
def blackboardlaw7_GeoKnown.l0 : Nat → List (S23) → List (S23) → Int → Option (Bool)
 | 0, _, _, _ => none
 | k + 1, x1, x2, x3 => if x3 < (x1.length : Int) then (if 0 ≤ x3 then ((geo_May.f ((rd_T23 x1 x3).f0) ((rd_T23 x1 x3).f1) ((rd_T23 x1 x3).f2) ((rd_T23 x1 x3).f3)).bind fun t139 => (if t139 = true then ((geo_Cells.f ((rd_T23 x1 x3).f0) ((rd_T23 x1 x3).f1) ((rd_T23 x1 x3).f2) ((rd_T23 x1 x3).f3)).bind fun t141 => (if t141 = (wrap64 (((rd_T23 x1 x3).f2) * (wrap64 (((rd_T23 x1 x3).f3) + 16)))) then ((geo_Size.f ((rd_T23 x1 x3).f0) ((rd_T23 x1 x3).f1) ((rd_T23 x1 x3).f2) ((rd_T23 x1 x3).f3)).bind fun t145 => (blackboardlaw7_GeoKnown.j1 k x1 x2 x3 (decide (t145 < 1)))) else (blackboardlaw7_GeoKnown.j1 k x1 x2 x3 true))) else (blackboardlaw7_GeoKnown.j1 k x1 x2 x3 true))) else (none)) else (blackboardlaw7_GeoKnown.l1 k x1 x2 0)
def blackboardlaw7_GeoKnown.j1 : Nat → List (S23) → List (S23) → Int → Bool → Option (Bool)
 | 0, _, _, _, _ => none
 | k + 1, x1, x2, x3, x63 => if x63 = true then (some false) else (blackboardlaw7_GeoKnown.l0 k x1 x2 (wrap64 (x3 + 1)))
def blackboardlaw7_GeoKnown.l1 : Nat → List (S23) → List (S23) → Int → Option (Bool)
 | 0, _, _, _ => none
 | k + 1, x1, x2, x4 => if x4 < (x2.length : Int) then (if 0 ≤ x4 then ((geo_May.f ((rd_T23 x2 x4).f0) ((rd_T23 x2 x4).f1) ((rd_T23 x2 x4).f2) ((rd_T23 x2 x4).f3)).bind fun t147 => (if t147 = true then (blackboardlaw7_GeoKnown.j3 k x1 x2 x4 true) else ((geo_Cells.f ((rd_T23 x2 x4).f0) ((rd_T23 x2 x4).f1) ((rd_T23 x2 x4).f2) ((rd_T23 x2 x4).f3)).bind fun t149 => (if t149 = 0 then ((geo_Size.f ((rd_T23 x2 x4).f0) ((rd_T23 x2 x4).f1) ((rd_T23 x2 x4).f2) ((rd_T23 x2 x4).f3)).bind fun t151 => (if t151 = 0 then ((geo_Count.f ((rd_T23 x2 x4).f0) ((rd_T23 x2 x4).f1) ((rd_T23 x2 x4).f2) ((rd_T23 x2 x4).f3)).bind fun t153 => (if t153 = 0 then ((geo_Lpns.f k ((rd_T23 x2 x4).f0) ((rd_T23 x2 x4).f1) ((rd_T23 x2 x4).f2) ((rd_T23 x2 x4).f3) 0).bind fun t155 => (blackboardlaw7_GeoKnown.j3 k x1 x2 x4 (t155 != 0))) else (blackboardlaw7_GeoKnown.j3 k x1 x2 x4 true))) else (blackboardlaw7_GeoKnown.j3 k x1 x2 x4 true))) else (blackboardlaw7_GeoKnown.j3 k x1 x2 x4 true))))) else (none)) else (if 1 < (x1.length : Int) then ((geo_Count.f ((rd_T23 x1 1).f0) ((rd_T23 x1 1).f1) ((rd_T23 x1 1).f2) ((rd_T23 x1 1).f3)).bind fun t158 => (if t158 = 2048 then ((geo_Size.f ((rd_T23 x1 1).f0) ((rd_T23 x1 1).f1) ((rd_T23 x1 1).f2) ((rd_T23 x1 1).f3)).bind fun t159 => (if t159 = 310 then ((geo_Lpns.f k ((rd_T23 x1 1).f0) ((rd_T23 x1 1).f1) ((rd_T23 x1 1).f2) ((rd_T23 x1 1).f3) 0).bind fun t160 => (if t160 = 976 then ((geo_Lpns.f k ((rd_T23 x1 1).f0) ((rd_T23 x1 1).f1) ((rd_T23 x1 1).f2) ((rd_T23 x1 1).f3) 60).bind fun t161 => (if t161 = 16 then ((geo_Lpns.f k ((rd_T23 x1 1).f0) ((rd_T23 x1 1).f1) ((rd_T23 x1 1).f2) ((rd_T23 x1 1).f3) 61).bind fun t162 => (if t162 = 0 then ((geo_Lpns.f k ((rd_T23 x1 1).f0) ((rd_T23 x1 1).f1) ((rd_T23 x1 1).f2) ((rd_T23 x1 1).f3) (-1)).bind fun t163 => (if t163 = 0 then (if 0 < (x1.length : Int) then ((geo_Lpns.f k ((rd_T23 x1 0).f0) ((rd_T23 x1 0).f1) ((rd_T23 x1 0).f2) ((rd_T23 x1 0).f3) 0).bind fun t165 => (some (t165 == 1))) else (none)) else (some false))) else (some false))) else (some false))) else (some false))) else (some false))) else (some false))) else (none))
def blackboardlaw7_GeoKnown.j3 : Nat → List (S23) → List (S23) → Int → Bool → Option (Bool)
 | 0, _, _, _, _ => none
 | k + 1, x1, x2, x4, x106 => if x106 = true then (some false) else (blackboardlaw7_GeoKnown.l1 k x1 x2 (wrap64 (x4 + 1)))
end
def blackboardlaw7_GeoKnown.f (k : Nat)  : Option (Bool) := (blackboardlaw7_awake.f k).bind fun t131 => (if t131 = true then (blackboardlaw7_GeoKnown.l0 k (([(⟨4, 2, 1, 9⟩ : S23), (⟨64, 32, 4, 64⟩ : S23), (⟨4, 2, 3, 3⟩ : S23)] : List (S23))) (([(⟨0, 0, 0, 0⟩ : S23), (⟨3, 2, 1, 9⟩ : S23), (⟨65, 2, 1, 9⟩ : S23), (⟨4, 1, 1, 9⟩ : S23), (⟨4, 33, 1, 9⟩ : S23), (⟨4, 2, 0, 9⟩ : S23), (⟨4, 2, 5, 9⟩ : S23), (⟨4, 2, 1, 8⟩ : S23), (⟨4, 2, 2, 4⟩ : S23), (⟨4, 2, 1, 65⟩ : S23), (⟨4, 2, (-1), (-9)⟩ : S23)] : List (S23))) 0) else (some false))
theorem blackboardlaw7_GeoKnown.mono_l : ∀ k, (∀ y0 y1 y2, LeO (blackboardlaw7_GeoKnown.l0 k y0 y1 y2) (blackboardlaw7_GeoKnown.l0 (k + 1) y0 y1 y2)) ∧ (∀ y0 y1 y2 y3, LeO (blackboardlaw7_GeoKnown.j1 k y0 y1 y2 y3) (blackboardlaw7_GeoKnown.j1 (k + 1) y0 y1 y2 y3)) ∧ (∀ y0 y1 y2, LeO (blackboardlaw7_GeoKnown.l1 k y0 y1 y2) (blackboardlaw7_GeoKnown.l1 (k + 1) y0 y1 y2)) ∧ (∀ y0 y1 y2 y3, LeO (blackboardlaw7_GeoKnown.j3 k y0 y1 y2 y3) (blackboardlaw7_GeoKnown.j3 (k + 1) y0 y1 y2 y3))
 | 0 => ⟨fun _ _ _ r h => by simp [blackboardlaw7_GeoKnown.l0] at h, fun _ _ _ _ r h => by simp [blackboardlaw7_GeoKnown.j1] at h, fun _ _ _ r h => by simp [blackboardlaw7_GeoKnown.l1] at h, fun _ _ _ _ r h => by simp [blackboardlaw7_GeoKnown.j3] at h⟩
 | k + 1 => by
  obtain ⟨ih0, ih1, ih2, ih3⟩ := blackboardlaw7_GeoKnown.mono_l k
  refine ⟨?_, ?_, ?_, ?_⟩
  ·
   intro y0 y1 y2
   unfold blackboardlaw7_GeoKnown.l0
   repeat' first
   | (with_reducible exact ih0 _ _ _)
   | (with_reducible exact ih1 _ _ _ _)
   | (with_reducible exact ih2 _ _ _)
   | (with_reducible exact ih3 _ _ _ _)
   | (with_reducible exact blackboardlaw7_awake.mono _)
   | (with_reducible exact geo_Lpns.mono _ _ _ _ _ _)
   | (with_reducible exact LeO.refl _)
   | (with_reducible exact LeO.none _)
   | (with_reducible refine LeO.ite ?_ ?_)
   | (with_reducible refine LeO.bind ?_ (fun _ => ?_))
   | exact ih0 _ _ _
   | exact ih1 _ _ _ _
   | exact ih2 _ _ _
   | exact ih3 _ _ _ _
   | exact blackboardlaw7_awake.mono _
   | exact geo_Lpns.mono _ _ _ _ _ _
   | exact LeO.none _
   | refine LeO.ite ?_ ?_
   | refine LeO.bind ?_ (fun _ => ?_)
  ·
   intro y0 y1 y2 y3
   unfold blackboardlaw7_GeoKnown.j1
   repeat' first
   | (with_reducible exact ih0 _ _ _)
   | (with_reducible exact ih1 _ _ _ _)
   | (with_reducible exact ih2 _ _ _)
   | (with_reducible exact ih3 _ _ _ _)
   | (with_reducible exact blackboardlaw7_awake.mono _)
   | (with_reducible exact geo_Lpns.mono _ _ _ _ _ _)
   | (with_reducible exact LeO.refl _)
   | (with_reducible exact LeO.none _)
   | (with_reducible refine LeO.ite ?_ ?_)
   | (with_reducible refine LeO.bind ?_ (fun _ => ?_))
   | exact ih0 _ _ _
   | exact ih1 _ _ _ _
   | exact ih2 _ _ _
   | exact ih3 _ _ _ _
   | exact blackboardlaw7_awake.mono _
   | exact geo_Lpns.mono _ _ _ _ _ _
   | exact LeO.none _
   | refine LeO.ite ?_ ?_
   | refine LeO.bind ?_ (fun _ => ?_)
  ·
   intro y0 y1 y2
   unfold blackboardlaw7_GeoKnown.l1
   repeat' first
   | (with_reducible exact ih0 _ _ _)
   | (with_reducible exact ih1 _ _ _ _)
   | (with_reducible exact ih2 _ _ _)
   | (with_reducible exact ih3 _ _ _ _)
   | (with_reducible exact blackboardlaw7_awake.mono _)
   | (with_reducible exact geo_Lpns.mono _ _ _ _ _ _)
   | (with_reducible exact LeO.refl _)
   | (with_reducible exact LeO.none _)
   | (with_reducible refine LeO.ite ?_ ?_)
   | (with_reducible refine LeO.bind ?_ (fun _ => ?_))
   | exact ih0 _ _ _
   | exact ih1 _ _ _ _
   | exact ih2 _ _ _
   | exact ih3 _ _ _ _
   | exact blackboardlaw7_awake.mono _
   | exact geo_Lpns.mono _ _ _ _ _ _
   | exact LeO.none _
   | refine LeO.ite ?_ ?_
   | refine LeO.bind ?_ (fun _ => ?_)
  ·
   intro y0 y1 y2 y3
   unfold blackboardlaw7_GeoKnown.j3
   repeat' first
   | (with_reducible exact ih0 _ _ _)
   | (with_reducible exact ih1 _ _ _ _)
   | (with_reducible exact ih2 _ _ _)
   | (with_reducible exact ih3 _ _ _ _)
   | (with_reducible exact blackboardlaw7_awake.mono _)
   | (with_reducible exact geo_Lpns.mono _ _ _ _ _ _)
   | (with_reducible exact LeO.refl _)
   | (with_reducible exact LeO.none _)
   | (with_reducible refine LeO.ite ?_ ?_)
   | (with_reducible refine LeO.bind ?_ (fun _ => ?_))
   | exact ih0 _ _ _
   | exact ih1 _ _ _ _
   | exact ih2 _ _ _
   | exact ih3 _ _ _ _
   | exact blackboardlaw7_awake.mono _
   | exact geo_Lpns.mono _ _ _ _ _ _
   | exact LeO.none _
   | refine LeO.ite ?_ ?_
   | refine LeO.bind ?_ (fun _ => ?_)
theorem blackboardlaw7_GeoKnown.mono : ∀ k, LeO (blackboardlaw7_GeoKnown.f k ) (blackboardlaw7_GeoKnown.f (k + 1) ) := by
 intro  k
 obtain ⟨ih0, ih1, ih2, ih3⟩ := blackboardlaw7_GeoKnown.mono_l k
 unfold blackboardlaw7_GeoKnown.f
 repeat' first
   | (with_reducible exact ih0 _ _ _)
   | (with_reducible exact ih1 _ _ _ _)
   | (with_reducible exact ih2 _ _ _)
   | (with_reducible exact ih3 _ _ _ _)
   | (with_reducible exact blackboardlaw7_awake.mono _)
   | (with_reducible exact geo_Lpns.mono _ _ _ _ _ _)
   | (with_reducible exact LeO.refl _)
   | (with_reducible exact LeO.none _)
   | (with_reducible refine LeO.ite ?_ ?_)
   | (with_reducible refine LeO.bind ?_ (fun _ => ?_))
   | exact ih0 _ _ _
   | exact ih1 _ _ _ _
   | exact ih2 _ _ _
   | exact ih3 _ _ _ _
   | exact blackboardlaw7_awake.mono _
   | exact geo_Lpns.mono _ _ _ _ _ _
   | exact LeO.none _
   | refine LeO.ite ?_ ?_
   | refine LeO.bind ?_ (fun _ => ?_)
def blackboardlaw7_GeoKnown.T8 : Bool × List (List Nat × List Nat) := (true, [([], []), ([], []), ([0, 1], [0, 1]), ([2], [2]), ([3], [3]), ([4], [4]), ([5, 4], [5]), ([6], [6]), ([6], [6]), ([7, 8, 6], [6, 7, 8]), ([9, 6], [6, 9]), ([10, 6, 6], [6, 10]), ([6], [6]), ([6], [6]), ([12, 13, 6], [6, 12, 13]), ([14, 6], [6, 14]), ([15, 6], [6, 15]), ([6], [6]), ([6], [6]), ([17, 18, 6], [6, 17, 18]), ([19, 6], [6, 19]), ([20, 6], [6, 20]), ([21, 6], [6, 21]), ([16, 22, 6], [6, 16, 22]), ([11, 23, 6], [6, 11, 23]), ([6, 24], [6, 24]), ([25, 11], [25]), ([26], [26]), ([26], [26]), ([27, 28, 26], [26, 27, 28]), ([29, 26], [26, 29]), ([30, 26, 26], [26, 30]), ([31, 26], [26, 31]), ([26, 32], [26, 32])])
def blackboardlaw7_GeoKnown.B8 : List Nat := [0, 0, 3, 7, 15, 31, 63, 127, 127, 511, 1023, 2047, 127, 127, 12415, 28799, 61567, 127, 127, 393343, 917631, 1966207, 4063359, 8384639, 16777215, 33554431, 67108863, 134217727, 134217727, 536870911, 1073741823, 2147483647, 4294967295, 8589934591]
theorem blackboardlaw7_GeoKnown.tab8 : rtab .any (opsOf Try.f4 8) = blackboardlaw7_GeoKnown.T8 := by kernel_rfl
theorem blackboardlaw7_GeoKnown.bits8 : waitsOk blackboardlaw7_GeoKnown.T8.2 blackboardlaw7_GeoKnown.B8 = true := by kernel_rfl
set_option maxHeartbeats 8000000 in
set_option maxRecDepth 100000 in
theorem blackboardlaw7_GeoKnown.calls (k : Nat)  (r : Bool) (w : World) (h : blackboardlaw7_GeoKnown.f k  = some r) :
  Calls Try.prog 4 #[] w fun e w' => e = .returned (.bool r) ∧ Below w.heap.size w w' := by
 have hu23 := Try.underlying23
 have HB := Aside0.mk (Below.refl w.heap.size w)
 have H : ((blackboardlaw7_awake.f k).bind fun t131 => (if t131 = true then (blackboardlaw7_GeoKnown.l0 k (([(⟨4, 2, 1, 9⟩ : S23), (⟨64, 32, 4, 64⟩ : S23), (⟨4, 2, 3, 3⟩ : S23)] : List (S23))) (([(⟨0, 0, 0, 0⟩ : S23), (⟨3, 2, 1, 9⟩ : S23), (⟨65, 2, 1, 9⟩ : S23), (⟨4, 1, 1, 9⟩ : S23), (⟨4, 33, 1, 9⟩ : S23), (⟨4, 2, 0, 9⟩ : S23), (⟨4, 2, 5, 9⟩ : S23), (⟨4, 2, 1, 8⟩ : S23), (⟨4, 2, 2, 4⟩ : S23), (⟨4, 2, 1, 65⟩ : S23), (⟨4, 2, (-1), (-9)⟩ : S23)] : List (S23))) 0) else (some false))) = some r := h
 clear h
 replace H := Option.bind_eq_some_iff.mp H
 obtain ⟨t131, A10, H⟩ := H
 replace H : (if t131 = true then (blackboardlaw7_GeoKnown.l0 k (([(⟨4, 2, 1, 9⟩ : S23), (⟨64, 32, 4, 64⟩ : S23), (⟨4, 2, 3, 3⟩ : S23)] : List (S23))) (([(⟨0, 0, 0, 0⟩ : S23), (⟨3, 2, 1, 9⟩ : S23), (⟨65, 2, 1, 9⟩ : S23), (⟨4, 1, 1, 9⟩ : S23), (⟨4, 33, 1, 9⟩ : S23), (⟨4, 2, 0, 9⟩ : S23), (⟨4, 2, 5, 9⟩ : S23), (⟨4, 2, 1, 8⟩ : S23), (⟨4, 2, 2, 4⟩ : S23), (⟨4, 2, 1, 65⟩ : S23), (⟨4, 2, (-1), (-9)⟩ : S23)] : List (S23))) 0) else (some false)) = some r := H
 have A1 := Aside0.mk A10
 clear A10
 by_cases c2 : t131 = true
 ·
  subst c2
  have H1 : (blackboardlaw7_GeoKnown.l0 k (([(⟨4, 2, 1, 9⟩ : S23), (⟨64, 32, 4, 64⟩ : S23), (⟨4, 2, 3, 3⟩ : S23)] : List (S23))) (([(⟨0, 0, 0, 0⟩ : S23), (⟨3, 2, 1, 9⟩ : S23), (⟨65, 2, 1, 9⟩ : S23), (⟨4, 1, 1, 9⟩ : S23), (⟨4, 33, 1, 9⟩ : S23), (⟨4, 2, 0, 9⟩ : S23), (⟨4, 2, 5, 9⟩ : S23), (⟨4, 2, 1, 8⟩ : S23), (⟨4, 2, 2, 4⟩ : S23), (⟨4, 2, 1, 65⟩ : S23), (⟨4, 2, (-1), (-9)⟩ : S23)] : List (S23))) 0) = some r := by rw [if_pos rfl] at H; exact H
  clear H
  have H := H1
  clear H1
  obtain ⟨y132, hy132⟩ : ∃ y_ : List (S23), y_ = (([(⟨4, 2, 1, 9⟩ : S23), (⟨64, 32, 4, 64⟩ : S23), (⟨4, 2, 3, 3⟩ : S23)] : List (S23))) := ⟨_, rfl⟩
  replace H : (blackboardlaw7_GeoKnown.l0 k y132 (([(⟨0, 0, 0, 0⟩ : S23), (⟨3, 2, 1, 9⟩ : S23), (⟨65, 2, 1, 9⟩ : S23), (⟨4, 1, 1, 9⟩ : S23), (⟨4, 33, 1, 9⟩ : S23), (⟨4, 2, 0, 9⟩ : S23), (⟨4, 2, 5, 9⟩ : S23), (⟨4, 2, 1, 8⟩ : S23), (⟨4, 2, 2, 4⟩ : S23), (⟨4, 2, 1, 65⟩ : S23), (⟨4, 2, (-1), (-9)⟩ : S23)] : List (S23))) 0) = some r := by first | (rw [hy132]; with_reducible exact H) | (have H2_ := (Option.bind_some _ _).symm.trans H; rw [hy132]; with_reducible exact H2_) | (have H2_ := (Option.bind_some _ _).symm.trans H; with_reducible exact H2_) | with_reducible exact H | (rw [hy132]; exact H) | exact H
  have Ny132 := Aside0.mk hy132
  clear hy132
  obtain ⟨y135, hy135⟩ : ∃ y_ : List (S23), y_ = (([(⟨0, 0, 0, 0⟩ : S23), (⟨3, 2, 1, 9⟩ : S23), (⟨65, 2, 1, 9⟩ : S23), (⟨4, 1, 1, 9⟩ : S23), (⟨4, 33, 1, 9⟩ : S23), (⟨4, 2, 0, 9⟩ : S23), (⟨4, 2, 5, 9⟩ : S23), (⟨4, 2, 1, 8⟩ : S23), (⟨4, 2, 2, 4⟩ : S23), (⟨4, 2, 1, 65⟩ : S23), (⟨4, 2, (-1), (-9)⟩ : S23)] : List (S23))) := ⟨_, rfl⟩
  replace H : (blackboardlaw7_GeoKnown.l0 k y132 y135 0) = some r := by first | (rw [hy135]; with_reducible exact H) | (have H2_ := (Option.bind_some _ _).symm.trans H; rw [hy135]; with_reducible exact H2_) | (have H2_ := (Option.bind_some _ _).symm.trans H; with_reducible exact H2_) | with_reducible exact H | (rw [hy135]; exact H) | exact H
  have Ny135 := Aside0.mk hy135
  clear hy135
  have H' := Aside0.mk H
  clear H
  go_enter Try.func4, Try.ntmps4
  go_wp2_with (first | ((with_reducible refine gate_callee (f := 8) rfl ?_); refine goesL_ (some 6) rfl rfl Try.func8 (by kernel_rfl) rfl #[] rfl (by (try simp only [List.map_toArray, List.map_cons, List.map_nil]); first | done | rfl | (simp only [List.length_drop, List.length_take]; rfl)) ?_; (with_reducible refine (blackboardlaw7_awake.calls k  true _ A1.out).mono ?_); rintro e w3 ⟨rfl, hb⟩; refine ⟨_, rfl, ?_⟩; have n0_ := Aside0.mk (below_step (by repeat (first | (with_reducible first | exact HB.out | apply below_alloc | apply pw_below_drewN | apply below_drew1) | exact HB.out)) hb); clear HB; have HB := n0_; clear n0_; (try clear hb); (try clear hb2); (try clear hk); (try clear hi)) | ((with_reducible refine gate_dst (N := 11) rfl ?_); refine Kd.R_lit k23 _ 23 ?hg (N := 11) ?hd (xs := ([(⟨4, 2, 1, 9⟩ : S23), (⟨64, 32, 4, 64⟩ : S23), (⟨4, 2, 3, 3⟩ : S23)] : List (S23))) (inner := [.int .i64 4, .int .i64 2, .int .i64 1, .int .i64 9, .int .i64 64, .int .i64 32, .int .i64 4, .int .i64 64, .int .i64 4, .int .i64 2, .int .i64 3, .int .i64 3]) (ok := fun _ => True) (okp := fun _ => True) ?hr ?hp (fun _ hk => hk) trivial (Below.refl _ _) (Nat.le_refl _) (by simp) ?_; (case hd => rfl); (case hg => rfl); (case hr => first | (go_simp; done) | (go_simp; rfl)); (case hp => exact (Reps.c4 (show Kd.M k23 _ _ _ (⟨4, 2, 1, 9⟩ : S23) [.int .i64 4, .int .i64 2, .int .i64 1, .int .i64 9] from (k23_mkM _ _ _ (⟨4, 2, 1, 9⟩ : S23) )) (Reps.c4 (show Kd.M k23 _ _ _ (⟨64, 32, 4, 64⟩ : S23) [.int .i64 64, .int .i64 32, .int .i64 4, .int .i64 64] from (k23_mkM _ _ _ (⟨64, 32, 4, 64⟩ : S23) )) (Reps.c4 (show Kd.M k23 _ _ _ (⟨4, 2, 3, 3⟩ : S23) [.int .i64 4, .int .i64 2, .int .i64 3, .int .i64 3] from (k23_mkM _ _ _ (⟨4, 2, 3, 3⟩ : S23) )) (Reps.none _ _))))); intro v133 w4 ho5 hb hg_ hnew_; clear hg_ hnew_; (first | rw [← Ny132.out] at ho5 | (simp only [Int.reduceToNat] at ho5; rw [← Ny132.out] at ho5)); have n0_ := Aside0.mk (Kd.R_lower ho5 (below_size (by repeat (first | (with_reducible first | exact HB.out | apply below_alloc | apply pw_below_drewN | apply below_drew1) | exact HB.out)))); have n1_ := Aside0.mk (below_step (by repeat (first | (with_reducible first | exact HB.out | apply below_alloc | apply pw_below_drewN | apply below_drew1) | exact HB.out)) hb); clear HB; have HO134 := n0_; have HB := n1_; clear n0_ n1_; clear hb ho5) | ((with_reducible refine gate_dst (N := 23) rfl ?_); refine Kd.R_lit k23 _ 23 ?hg (N := 23) ?hd (xs := ([(⟨0, 0, 0, 0⟩ : S23), (⟨3, 2, 1, 9⟩ : S23), (⟨65, 2, 1, 9⟩ : S23), (⟨4, 1, 1, 9⟩ : S23), (⟨4, 33, 1, 9⟩ : S23), (⟨4, 2, 0, 9⟩ : S23), (⟨4, 2, 5, 9⟩ : S23), (⟨4, 2, 1, 8⟩ : S23), (⟨4, 2, 2, 4⟩ : S23), (⟨4, 2, 1, 65⟩ : S23), (⟨4, 2, (-1), (-9)⟩ : S23)] : List (S23))) (inner := [.int .i64 0, .int .i64 0, .int .i64 0, .int .i64 0, .int .i64 3, .int .i64 2, .int .i64 1, .int .i64 9, .int .i64 65, .int .i64 2, .int .i64 1, .int .i64 9, .int .i64 4, .int .i64 1, .int .i64 1, .int .i64 9, .int .i64 4, .int .i64 33, .int .i64 1, .int .i64 9, .int .i64 4, .int .i64 2, .int .i64 0, .int .i64 9, .int .i64 4, .int .i64 2, .int .i64 5, .int .i64 9, .int .i64 4, .int .i64 2, .int .i64 1, .int .i64 8, .int .i64 4, .int .i64 2, .int .i64 2, .int .i64 4, .int .i64 4, .int .i64 2, .int .i64 1, .int .i64 65, .int .i64 4, .int .i64 2, .int .i64 (-1), .int .i64 (-9)]) (ok := fun _ => True) (okp := fun _ => True) ?hr ?hp (fun _ hk => hk) trivial (Below.refl _ _) (Nat.le_refl _) (by simp) ?_; (case hd => rfl); (case hg => rfl); (case hr => first | (go_simp; done) | (go_simp; rfl)); (case hp => exact (Reps.c4 (show Kd.M k23 _ _ _ (⟨0, 0, 0, 0⟩ : S23) [.int .i64 0, .int .i64 0, .int .i64 0, .int .i64 0] from (k23_mkM _ _ _ (⟨0, 0, 0, 0⟩ : S23) )) (Reps.c4 (show Kd.M k23 _ _ _ (⟨3, 2, 1, 9⟩ : S23) [.int .i64 3, .int .i64 2, .int .i64 1, .int .i64 9] from (k23_mkM _ _ _ (⟨3, 2, 1, 9⟩ : S23) )) (Reps.c4 (show Kd.M k23 _ _ _ (⟨65, 2, 1, 9⟩ : S23) [.int .i64 65, .int .i64 2, .int .i64 1, .int .i64 9] from (k23_mkM _ _ _ (⟨65, 2, 1, 9⟩ : S23) )) (Reps.c4 (show Kd.M k23 _ _ _ (⟨4, 1, 1, 9⟩ : S23) [.int .i64 4, .int .i64 1, .int .i64 1, .int .i64 9] from (k23_mkM _ _ _ (⟨4, 1, 1, 9⟩ : S23) )) (Reps.c4 (show Kd.M k23 _ _ _ (⟨4, 33, 1, 9⟩ : S23) [.int .i64 4, .int .i64 33, .int .i64 1, .int .i64 9] from (k23_mkM _ _ _ (⟨4, 33, 1, 9⟩ : S23) )) (Reps.c4 (show Kd.M k23 _ _ _ (⟨4, 2, 0, 9⟩ : S23) [.int .i64 4, .int .i64 2, .int .i64 0, .int .i64 9] from (k23_mkM _ _ _ (⟨4, 2, 0, 9⟩ : S23) )) (Reps.c4 (show Kd.M k23 _ _ _ (⟨4, 2, 5, 9⟩ : S23) [.int .i64 4, .int .i64 2, .int .i64 5, .int .i64 9] from (k23_mkM _ _ _ (⟨4, 2, 5, 9⟩ : S23) )) (Reps.c4 (show Kd.M k23 _ _ _ (⟨4, 2, 1, 8⟩ : S23) [.int .i64 4, .int .i64 2, .int .i64 1, .int .i64 8] from (k23_mkM _ _ _ (⟨4, 2, 1, 8⟩ : S23) )) (Reps.c4 (show Kd.M k23 _ _ _ (⟨4, 2, 2, 4⟩ : S23) [.int .i64 4, .int .i64 2, .int .i64 2, .int .i64 4] from (k23_mkM _ _ _ (⟨4, 2, 2, 4⟩ : S23) )) (Reps.c4 (show Kd.M k23 _ _ _ (⟨4, 2, 1, 65⟩ : S23) [.int .i64 4, .int .i64 2, .int .i64 1, .int .i64 65] from (k23_mkM _ _ _ (⟨4, 2, 1, 65⟩ : S23) )) (Reps.c4 (show Kd.M k23 _ _ _ (⟨4, 2, (-1), (-9)⟩ : S23) [.int .i64 4, .int .i64 2, .int .i64 (-1), .int .i64 (-9)] from (k23_mkM _ _ _ (⟨4, 2, (-1), (-9)⟩ : S23) )) (Reps.none _ _))))))))))))); intro v136 w6 ho7 hb hg_ hnew_; clear hg_ hnew_; (first | rw [← Ny135.out] at ho7 | (simp only [Int.reduceToNat] at ho7; rw [← Ny135.out] at ho7)); have n0_ := Aside0.mk (Kd.R_elder' (by (with_reducible repeat (first | apply Kd.R_alloc | apply Kd.R_drewN | apply Kd.R_drew)); exact HO134.out) (Kd.R_base ho7) hb); have n1_ := Aside0.mk (Kd.R_lower (Kd.R_new' ho7 (Kd.R_lt (by (with_reducible repeat (first | apply Kd.R_alloc | apply Kd.R_drewN | apply Kd.R_drew)); exact HO134.out))) (below_size (by repeat (first | (with_reducible first | exact HB.out | apply below_alloc | apply pw_below_drewN | apply below_drew1) | exact HB.out)))); have n2_ := Aside0.mk (below_step (by repeat (first | (with_reducible first | exact HB.out | apply below_alloc | apply pw_below_drewN | apply below_drew1) | exact HB.out)) hb); clear HO134; clear HB; have HO134 := n0_; have HO137 := n1_; have HB := n2_; clear n0_ n1_ n2_; clear hb ho7))
  go_loopg [3] k (fun kq v3 w' => ∃ (x3_1 : Int), v3 = .int .i64 x3_1 ∧ Aside0 (blackboardlaw7_GeoKnown.l0 kq y132 y135 x3_1 = some r) ∧ Aside0 (kq ≤ k) ∧ Aside0 (Kd.R k23 23 w' w.heap.size (fun k_ => some k_ ≠ (v136 : Value).ownBlock) v133 y132) ∧ Aside0 (Kd.R k23 23 w' w.heap.size (fun k_ => some k_ ≠ (v133 : Value).ownBlock) v136 y135) ∧ Aside0 (Below w.heap.size w w'))
  case atStart => exact ⟨(0), (by first | rfl | (simp; done) | (simp [*]; done)), H', ⟨Nat.le_refl _⟩, ⟨by (with_reducible repeat (first | apply Kd.R_alloc | apply Kd.R_drewN | apply Kd.R_drew)); exact Kd.R_mono HO134.out (fun _ hk => hk.2)⟩, ⟨by (with_reducible repeat (first | apply Kd.R_alloc | apply Kd.R_drewN | apply Kd.R_drew)); exact Kd.R_mono HO137.out (fun _ hk => hk.2)⟩, ⟨by repeat (first | (with_reducible first | exact HB.out | apply below_alloc | apply pw_below_drewN | apply below_drew1) | exact HB.out)⟩⟩
  case round =>
   clear H'
   try clear c2
   try clear p2
   try clear c4
   obtain ⟨x3_1, rfl, HA, HK1, HO_1, HO_2, HB⟩ := hrel
   cases gk with
   | zero => exact absurd HA.out (by simp [blackboardlaw7_GeoKnown.l0])
   | succ k1 =>
    have H := HA.out
    clear HA
    simp only [blackboardlaw7_GeoKnown.l0] at H
    by_cases c8 : x3_1 < (y132.length : Int)
    ·
     rw [if_pos c8] at H
     have c8b0 : decide (x3_1 < (y132.length : Int)) = true := decide_eq_true c8
     clear c8
     have HC9 := Aside0.mk H
     clear H
     obtain ⟨Ao10, co10, eo10⟩ := Kd.R_slice HO_1.out
     subst eo10
     go_upto_region 8 with (fail)
     go_cut [63] (fun v63 wc => ∃ (kq : Nat) (x63_8 : Bool), v63 = .bool x63_8 ∧ Aside0 (blackboardlaw7_GeoKnown.j1 kq y132 y135 x3_1 x63_8 = some r) ∧ Aside0 (kq ≤ k1) ∧ Aside0 (Kd.R k23 23 wc w.heap.size (fun k_ => some k_ ≠ (v136 : Value).ownBlock) (.slice Ao10 y132.length co10) y132) ∧ Aside0 (Kd.R k23 23 wc w.heap.size (fun k_ => some k_ ≠ ((.slice Ao10 y132.length co10) : Value).ownBlock) v136 y135) ∧ Aside0 (Below w.heap.size w wc))
     case first =>
      have H := HC9.out
      clear HC9
      by_cases c11 : 0 ≤ x3_1
      ·
       rw [if_pos c11] at H
       have c11b0 : decide (0 ≤ x3_1) = true := decide_eq_true c11
       clear c11
       (first | rw [c11b0] | (simp only [i64_w, i32_w]; rw [c11b0]) | skip)
       replace H := Option.bind_eq_some_iff.mp H
       obtain ⟨t139, A120, H⟩ := H
       replace H : (if t139 = true then ((geo_Cells.f ((rd_T23 y132 x3_1).f0) ((rd_T23 y132 x3_1).f1) ((rd_T23 y132 x3_1).f2) ((rd_T23 y132 x3_1).f3)).bind fun t141 => (if t141 = (wrap64 (((rd_T23 y132 x3_1).f2) * (wrap64 (((rd_T23 y132 x3_1).f3) + 16)))) then ((geo_Size.f ((rd_T23 y132 x3_1).f0) ((rd_T23 y132 x3_1).f1) ((rd_T23 y132 x3_1).f2) ((rd_T23 y132 x3_1).f3)).bind fun t145 => (blackboardlaw7_GeoKnown.j1 k1 y132 y135 x3_1 (decide (t145 < 1)))) else (blackboardlaw7_GeoKnown.j1 k1 y132 y135 x3_1 true))) else (blackboardlaw7_GeoKnown.j1 k1 y132 y135 x3_1 true)) = some r := H
       have A12 := Aside0.mk A120
       clear A120
       by_cases c13 : t139 = true
       ·
        subst c13
        have H1 : ((geo_Cells.f ((rd_T23 y132 x3_1).f0) ((rd_T23 y132 x3_1).f1) ((rd_T23 y132 x3_1).f2) ((rd_T23 y132 x3_1).f3)).bind fun t141 => (if t141 = (wrap64 (((rd_T23 y132 x3_1).f2) * (wrap64 (((rd_T23 y132 x3_1).f3) + 16)))) then ((geo_Size.f ((rd_T23 y132 x3_1).f0) ((rd_T23 y132 x3_1).f1) ((rd_T23 y132 x3_1).f2) ((rd_T23 y132 x3_1).f3)).bind fun t145 => (blackboardlaw7_GeoKnown.j1 k1 y132 y135 x3_1 (decide (t145 < 1)))) else (blackboardlaw7_GeoKnown.j1 k1 y132 y135 x3_1 true))) = some r := by rw [if_pos rfl] at H; exact H
        clear H
        have H := H1
        clear H1
        replace H := Option.bind_eq_some_iff.mp H
        obtain ⟨t141, A140, H⟩ := H
        replace H : (if t141 = (wrap64 (((rd_T23 y132 x3_1).f2) * (wrap64 (((rd_T23 y132 x3_1).f3) + 16)))) then ((geo_Size.f ((rd_T23 y132 x3_1).f0) ((rd_T23 y132 x3_1).f1) ((rd_T23 y132 x3_1).f2) ((rd_T23 y132 x3_1).f3)).bind fun t145 => (blackboardlaw7_GeoKnown.j1 k1 y132 y135 x3_1 (decide (t145 < 1)))) else (blackboardlaw7_GeoKnown.j1 k1 y132 y135 x3_1 true)) = some r := H
        have A14 := Aside0.mk A140
        clear A140
        by_cases c15 : t141 = (wrap64 (((rd_T23 y132 x3_1).f2) * (wrap64 (((rd_T23 y132 x3_1).f3) + 16))))
        ·
         rw [if_pos c15] at H
         have c15b0 : (t141 == (wrap64 (((rd_T23 y132 x3_1).f2) * (wrap64 (((rd_T23 y132 x3_1).f3) + 16))))) = true := beq_iff_eq.mpr c15
         have c15b1 : (t141 != (wrap64 (((rd_T23 y132 x3_1).f2) * (wrap64 (((rd_T23 y132 x3_1).f3) + 16))))) = false := bne_eq_false_iff_eq.mpr c15
         clear c15
         replace H := Option.bind_eq_some_iff.mp H
         obtain ⟨t145, A160, H⟩ := H
         replace H : (blackboardlaw7_GeoKnown.j1 k1 y132 y135 x3_1 (decide (t145 < 1))) = some r := H
         have A16 := Aside0.mk A160
         clear A160
         have H' := Aside0.mk H
         clear H
         try go_wp2
         have n0_ := Aside0.mk (Kd.R_drew HO_1.out)
         have n1_ := Aside0.mk (Kd.R_drew HO_2.out)
         have n2_ := Aside0.mk (below_drew1 HB.out)
         clear HO_1
         clear HO_2
         clear HB
         have HO_1 := n0_
         have HO_2 := n1_
         have HB := n2_
         clear n0_ n1_ n2_
         have p138 : 0 ≤ (x3_1 : Int) := of_decide_eq_true (by first | (with_reducible assumption) | assumption)
         have q138 : x3_1 < (y132.length : Int) := of_decide_eq_true (by first | (with_reducible assumption) | assumption)
         obtain ⟨ad138, e138, hx138_0, hx138_1, hx138_2, hx138_3⟩ := at_T23 (Kd.R_reads' HO_1.out).2.2 x3_1 p138 q138
         cases e138
         replace p138 := eq_true p138
         replace q138 := eq_true q138
         have p140 : 0 ≤ (x3_1 : Int) := of_decide_eq_true (by first | (with_reducible assumption) | assumption)
         have q140 : x3_1 < (y132.length : Int) := of_decide_eq_true (by first | (with_reducible assumption) | assumption)
         obtain ⟨ad140, e140, hx140_0, hx140_1, hx140_2, hx140_3⟩ := at_T23 (Kd.R_reads' HO_1.out).2.2 x3_1 p140 q140
         obtain rfl : ad138 = ad140 := (by injection e140)
         replace p140 := eq_true p140
         replace q140 := eq_true q140
         have p142 : 0 ≤ (x3_1 : Int) := of_decide_eq_true (by first | (with_reducible assumption) | assumption)
         have q142 : x3_1 < (y132.length : Int) := of_decide_eq_true (by first | (with_reducible assumption) | assumption)
         obtain ⟨ad142, e142, hx142_0, hx142_1, hx142_2, hx142_3⟩ := at_T23 (Kd.R_reads' HO_1.out).2.2 x3_1 p142 q142
         obtain rfl : ad138 = ad142 := (by injection e142)
         replace p142 := eq_true p142
         replace q142 := eq_true q142
         have p143 : 0 ≤ (x3_1 : Int) := of_decide_eq_true (by first | (with_reducible assumption) | assumption)
         have q143 : x3_1 < (y132.length : Int) := of_decide_eq_true (by first | (with_reducible assumption) | assumption)
         obtain ⟨ad143, e143, hx143_0, hx143_1, hx143_2, hx143_3⟩ := at_T23 (Kd.R_reads' HO_1.out).2.2 x3_1 p143 q143
         obtain rfl : ad138 = ad143 := (by injection e143)
         replace p143 := eq_true p143
         replace q143 := eq_true q143
         have p144 : 0 ≤ (x3_1 : Int) := of_decide_eq_true (by first | (with_reducible assumption) | assumption)
         have q144 : x3_1 < (y132.length : Int) := of_decide_eq_true (by first | (with_reducible assumption) | assumption)
         obtain ⟨ad144, e144, hx144_0, hx144_1, hx144_2, hx144_3⟩ := at_T23 (Kd.R_reads' HO_1.out).2.2 x3_1 p144 q144
         obtain rfl : ad138 = ad144 := (by injection e144)
         replace p144 := eq_true p144
         replace q144 := eq_true q144
         refine start_ (n := 34) (S := fun w' => w'.cell? (ad138.add ((x3_1).toNat * 4)) = some (.int .i64 ((rd_T23 y132 x3_1).f0)) ∧ w'.cell? ⟨(ad138.add ((x3_1).toNat * 4)).block, (ad138.add ((x3_1).toNat * 4)).off + 1, none⟩ = some (.int .i64 ((rd_T23 y132 x3_1).f1)) ∧ w'.cell? ⟨(ad138.add ((x3_1).toNat * 4)).block, (ad138.add ((x3_1).toNat * 4)).off + 2, none⟩ = some (.int .i64 ((rd_T23 y132 x3_1).f2)) ∧ w'.cell? ⟨(ad138.add ((x3_1).toNat * 4)).block, (ad138.add ((x3_1).toNat * 4)).off + 3, none⟩ = some (.int .i64 ((rd_T23 y132 x3_1).f3)) ∧ w'.cell? (ad138.add ((x3_1).toNat * 4)) = some (.int .i64 ((rd_T23 y132 x3_1).f0)) ∧ w'.cell? ⟨(ad138.add ((x3_1).toNat * 4)).block, (ad138.add ((x3_1).toNat * 4)).off + 1, none⟩ = some (.int .i64 ((rd_T23 y132 x3_1).f1)) ∧ w'.cell? ⟨(ad138.add ((x3_1).toNat * 4)).block, (ad138.add ((x3_1).toNat * 4)).off + 2, none⟩ = some (.int .i64 ((rd_T23 y132 x3_1).f2)) ∧ w'.cell? ⟨(ad138.add ((x3_1).toNat * 4)).block, (ad138.add ((x3_1).toNat * 4)).off + 3, none⟩ = some (.int .i64 ((rd_T23 y132 x3_1).f3)) ∧ w'.cell? (ad138.add ((x3_1).toNat * 4)) = some (.int .i64 ((rd_T23 y132 x3_1).f0)) ∧ w'.cell? ⟨(ad138.add ((x3_1).toNat * 4)).block, (ad138.add ((x3_1).toNat * 4)).off + 1, none⟩ = some (.int .i64 ((rd_T23 y132 x3_1).f1)) ∧ w'.cell? ⟨(ad138.add ((x3_1).toNat * 4)).block, (ad138.add ((x3_1).toNat * 4)).off + 2, none⟩ = some (.int .i64 ((rd_T23 y132 x3_1).f2)) ∧ w'.cell? ⟨(ad138.add ((x3_1).toNat * 4)).block, (ad138.add ((x3_1).toNat * 4)).off + 3, none⟩ = some (.int .i64 ((rd_T23 y132 x3_1).f3)) ∧ w'.cell? (ad138.add ((x3_1).toNat * 4)) = some (.int .i64 ((rd_T23 y132 x3_1).f0)) ∧ w'.cell? ⟨(ad138.add ((x3_1).toNat * 4)).block, (ad138.add ((x3_1).toNat * 4)).off + 1, none⟩ = some (.int .i64 ((rd_T23 y132 x3_1).f1)) ∧ w'.cell? ⟨(ad138.add ((x3_1).toNat * 4)).block, (ad138.add ((x3_1).toNat * 4)).off + 2, none⟩ = some (.int .i64 ((rd_T23 y132 x3_1).f2)) ∧ w'.cell? ⟨(ad138.add ((x3_1).toNat * 4)).block, (ad138.add ((x3_1).toNat * 4)).off + 3, none⟩ = some (.int .i64 ((rd_T23 y132 x3_1).f3)) ∧ w'.cell? (ad138.add ((x3_1).toNat * 4)) = some (.int .i64 ((rd_T23 y132 x3_1).f0)) ∧ w'.cell? ⟨(ad138.add ((x3_1).toNat * 4)).block, (ad138.add ((x3_1).toNat * 4)).off + 1, none⟩ = some (.int .i64 ((rd_T23 y132 x3_1).f1)) ∧ w'.cell? ⟨(ad138.add ((x3_1).toNat * 4)).block, (ad138.add ((x3_1).toNat * 4)).off + 2, none⟩ = some (.int .i64 ((rd_T23 y132 x3_1).f2)) ∧ w'.cell? ⟨(ad138.add ((x3_1).toNat * 4)).block, (ad138.add ((x3_1).toNat * 4)).off + 3, none⟩ = some (.int .i64 ((rd_T23 y132 x3_1).f3))) (ds := []) #[false, false, false, false, false, false, false, false, false, false, false, false, false, false, false, false, false, false, false, false, false, false, false, false, false, false, false, false, false, false, false, false, false, false] (by kernel_rfl) rfl rfl ⟨hx138_0, hx138_1, hx138_2, hx138_3, hx140_0, hx140_1, hx140_2, hx140_3, hx142_0, hx142_1, hx142_2, hx142_3, hx143_0, hx143_1, hx143_2, hx143_3, hx144_0, hx144_1, hx144_2, hx144_3⟩ (fun hHeld => ?_); refine with_tabW blackboardlaw7_GeoKnown.tab8 blackboardlaw7_GeoKnown.bits8 (fun HT_ HW_ => ?_)
         generalize wr.drew = w17 at HO_1 HO_2 HB hx138_0 hx138_1 hx138_2 hx138_3 hx140_0 hx140_1 hx140_2 hx140_3 hx142_0 hx142_1 hx142_2 hx142_3 hx143_0 hx143_1 hx143_2 hx143_3 hx144_0 hx144_1 hx144_2 hx144_3 hHeld ⊢
         refine pure_ (i := 0) (N := some 30) (v := ?_) (a' := ?_) #[true, false, false, false, false, false, false, false, false, false, false, false, false, false, false, false, false, false, false, false, false, false, false, false, false, false, false, false, false, false, false, false, false, false] rfl rfl (any_of HT_.out (by kernel_rfl)) (fun _ _ _ h => h) (Or.inl ⟨by rfl, ?_⟩) ?_ ?_
         rotate_left
         ·
          intro w'
          go_simp
          with_reducible rfl
         rotate_left
         ·
          simp only [Act.put, List.setIfInBounds_toArray, List.set_cons_zero, List.set_cons_succ, i64_w, i32_w]
          rfl
         refine pure_ (i := 1) (N := some 31) (v := ?_) (a' := ?_) #[true, true, false, false, false, false, false, false, false, false, false, false, false, false, false, false, false, false, false, false, false, false, false, false, false, false, false, false, false, false, false, false, false, false] rfl rfl (any_of HT_.out (by kernel_rfl)) (fun _ _ _ h => h) (Or.inl ⟨by rfl, ?_⟩) ?_ ?_
         rotate_left
         ·
          intro w'
          go_simp
          with_reducible rfl
         rotate_left
         ·
          simp only [Act.put, List.setIfInBounds_toArray, List.set_cons_zero, List.set_cons_succ, i64_w, i32_w]
          rfl
         refine pure_ (i := 2) (N := some 32) (v := ?_) (a' := ?_) #[true, true, true, false, false, false, false, false, false, false, false, false, false, false, false, false, false, false, false, false, false, false, false, false, false, false, false, false, false, false, false, false, false, false] rfl rfl (any_of HT_.out (by kernel_rfl)) (fun _ _ _ h => h) (Or.inl ⟨by rfl, ?_⟩) ?_ ?_
         rotate_left
         ·
          intro w'
          go_simp
          with_reducible rfl
         rotate_left
         ·
          simp only [Act.put, List.setIfInBounds_toArray, List.set_cons_zero, List.set_cons_succ, i64_w, i32_w]
          rfl
         refine take_ (i := 3) (N := some 33) (v := ?_) (a' := ?_) #[true, true, true, true, false, false, false, false, false, false, false, false, false, false, false, false, false, false, false, false, false, false, false, false, false, false, false, false, false, false, false, false, false, false] rfl rfl (take_ofW HT_.out HW_.out (by kernel_rfl)) (fun _ _ _ h => h) (Or.inl ⟨by rfl, ?_⟩) hHeld ?_ ?_
         rotate_left
         ·
          rintro w' ⟨s0, s1, s2, s3, s4, s5, s6, s7, s8, s9, s10, s11, s12, s13, s14, s15, s16, s17, s18, s19⟩
          go_simp
          with_reducible rfl
         rotate_left
         ·
          simp only [Act.put, List.setIfInBounds_toArray, List.set_cons_zero, List.set_cons_succ, i64_w, i32_w]
          rfl
         refine one_ (i := 4) (N := some 34) #[true, true, true, true, true, false, false, false, false, false, false, false, false, false, false, false, false, false, false, false, false, false, false, false, false, false, false, false, false, false, false, false, false, false] rfl rfl (one_of HT_.out (by kernel_rfl)) (by decide) (fun K hK => ?_)
         refine goes_ Try.func12 (by kernel_rfl) rfl #[.agg #[.int .i64 ((rd_T23 y132 x3_1).f0), .int .i64 ((rd_T23 y132 x3_1).f1), .int .i64 ((rd_T23 y132 x3_1).f2), .int .i64 ((rd_T23 y132 x3_1).f3)]] (by rfl) rfl rfl (by (try simp only [List.map_toArray, List.map_cons, List.map_nil]); first | done | rfl | (simp only [List.length_drop, List.length_take]; rfl)) ?_
         with_reducible refine (geo_May.calls ((rd_T23 y132 x3_1).f0) ((rd_T23 y132 x3_1).f1) ((rd_T23 y132 x3_1).f2) ((rd_T23 y132 x3_1).f3) true _ A12.out).mono ?_
         rintro e w18 ⟨rfl, hb⟩
         have HS0_ := (hb.cell (World.block_lt_of_cell? _ _ (hHeld.1))).trans (hHeld.1)
         have HS1_ := (hb.cell (World.block_lt_of_cell? _ _ (hHeld.2.1))).trans (hHeld.2.1)
         have HS2_ := (hb.cell (World.block_lt_of_cell? _ _ (hHeld.2.2.1))).trans (hHeld.2.2.1)
         have HS3_ := (hb.cell (World.block_lt_of_cell? _ _ (hHeld.2.2.2.1))).trans (hHeld.2.2.2.1)
         have HS4_ := (hb.cell (World.block_lt_of_cell? _ _ (hHeld.2.2.2.2.1))).trans (hHeld.2.2.2.2.1)
         have HS5_ := (hb.cell (World.block_lt_of_cell? _ _ (hHeld.2.2.2.2.2.1))).trans (hHeld.2.2.2.2.2.1)
         have HS6_ := (hb.cell (World.block_lt_of_cell? _ _ (hHeld.2.2.2.2.2.2.1))).trans (hHeld.2.2.2.2.2.2.1)
         have HS7_ := (hb.cell (World.block_lt_of_cell? _ _ (hHeld.2.2.2.2.2.2.2.1))).trans (hHeld.2.2.2.2.2.2.2.1)
         have HS8_ := (hb.cell (World.block_lt_of_cell? _ _ (hHeld.2.2.2.2.2.2.2.2.1))).trans (hHeld.2.2.2.2.2.2.2.2.1)
         have HS9_ := (hb.cell (World.block_lt_of_cell? _ _ (hHeld.2.2.2.2.2.2.2.2.2.1))).trans (hHeld.2.2.2.2.2.2.2.2.2.1)
         have HS10_ := (hb.cell (World.block_lt_of_cell? _ _ (hHeld.2.2.2.2.2.2.2.2.2.2.1))).trans (hHeld.2.2.2.2.2.2.2.2.2.2.1)
         have HS11_ := (hb.cell (World.block_lt_of_cell? _ _ (hHeld.2.2.2.2.2.2.2.2.2.2.2.1))).trans (hHeld.2.2.2.2.2.2.2.2.2.2.2.1)
         have HS12_ := (hb.cell (World.block_lt_of_cell? _ _ (hHeld.2.2.2.2.2.2.2.2.2.2.2.2.1))).trans (hHeld.2.2.2.2.2.2.2.2.2.2.2.2.1)
         have HS13_ := (hb.cell (World.block_lt_of_cell? _ _ (hHeld.2.2.2.2.2.2.2.2.2.2.2.2.2.1))).trans (hHeld.2.2.2.2.2.2.2.2.2.2.2.2.2.1)
         have HS14_ := (hb.cell (World.block_lt_of_cell? _ _ (hHeld.2.2.2.2.2.2.2.2.2.2.2.2.2.2.1))).trans (hHeld.2.2.2.2.2.2.2.2.2.2.2.2.2.2.1)
         have HS15_ := (hb.cell (World.block_lt_of_cell? _ _ (hHeld.2.2.2.2.2.2.2.2.2.2.2.2.2.2.2.1))).trans (hHeld.2.2.2.2.2.2.2.2.2.2.2.2.2.2.2.1)
         have HS16_ := (hb.cell (World.block_lt_of_cell? _ _ (hHeld.2.2.2.2.2.2.2.2.2.2.2.2.2.2.2.2.1))).trans (hHeld.2.2.2.2.2.2.2.2.2.2.2.2.2.2.2.2.1)
         have HS17_ := (hb.cell (World.block_lt_of_cell? _ _ (hHeld.2.2.2.2.2.2.2.2.2.2.2.2.2.2.2.2.2.1))).trans (hHeld.2.2.2.2.2.2.2.2.2.2.2.2.2.2.2.2.2.1)
         have HS18_ := (hb.cell (World.block_lt_of_cell? _ _ (hHeld.2.2.2.2.2.2.2.2.2.2.2.2.2.2.2.2.2.2.1))).trans (hHeld.2.2.2.2.2.2.2.2.2.2.2.2.2.2.2.2.2.2.1)
         have HS19_ := (hb.cell (World.block_lt_of_cell? _ _ (hHeld.2.2.2.2.2.2.2.2.2.2.2.2.2.2.2.2.2.2.2))).trans (hHeld.2.2.2.2.2.2.2.2.2.2.2.2.2.2.2.2.2.2.2)
         refine ⟨_, rfl, ?_⟩
         have n0_ := Aside0.mk (Kd.R_below (by (with_reducible repeat (first | apply Kd.R_alloc | apply Kd.R_drewN | apply Kd.R_drew)); exact HO_1.out) hb)
         have n1_ := Aside0.mk (Kd.R_below (by (with_reducible repeat (first | apply Kd.R_alloc | apply Kd.R_drewN | apply Kd.R_drew)); exact HO_2.out) hb)
         have n2_ := Aside0.mk (below_step (by repeat (first | (with_reducible first | exact HB.out | apply below_alloc | apply pw_below_drewN | apply below_drew1) | exact HB.out)) hb)
         clear HO_1
         clear HO_2
         clear HB
         have HO_1 := n0_
         have HO_2 := n1_
         have HB := n2_
         clear n0_ n1_ n2_
         (try clear hb)
         (try clear hb2)
         (try clear hk)
         (try clear hi)
         refine hK.out _ _ ⟨HS0_, HS1_, HS2_, HS3_, HS4_, HS5_, HS6_, HS7_, HS8_, HS9_, HS10_, HS11_, HS12_, HS13_, HS14_, HS15_, HS16_, HS17_, HS18_, HS19_⟩ (fun hHeld => ?_)
         clear hK K
         refine norm_ (a' := ?_) ?_ ?_
         rotate_left
         ·
          show Act.put _ (some 34) _ = _
          simp only [Act.put, List.setIfInBounds_toArray, List.set_cons_zero, List.set_cons_succ, i64_w, i32_w]
          rfl
         refine pure_ (i := 5) (N := some 35) (v := ?_) (a' := ?_) #[true, true, true, true, true, true, false, false, false, false, false, false, false, false, false, false, false, false, false, false, false, false, false, false, false, false, false, false, false, false, false, false, false, false] rfl rfl (any_of HT_.out (by kernel_rfl)) (fun _ _ _ h => h) (Or.inl ⟨by rfl, ?_⟩) ?_ ?_
         rotate_left
         ·
          intro w'
          go_simp
          with_reducible rfl
         rotate_left
         ·
          simp only [Act.put, List.setIfInBounds_toArray, List.set_cons_zero, List.set_cons_succ, i64_w, i32_w]
          rfl
         refine pure_ (i := 6) (N := some 36) (v := ?_) (a' := ?_) #[true, true, true, true, true, true, true, false, false, false, false, false, false, false, false, false, false, false, false, false, false, false, false, false, false, false, false, false, false, false, false, false, false, false] rfl rfl (any_of HT_.out (by kernel_rfl)) (fun _ _ _ h => h) (Or.inl ⟨by rfl, ?_⟩) ?_ ?_
         rotate_left
         ·
          intro w'
          go_simp
          with_reducible rfl
         rotate_left
         ·
          simp only [Act.put, List.setIfInBounds_toArray, List.set_cons_zero, List.set_cons_succ, i64_w, i32_w]
          rfl
         refine pure_ (i := 7) (N := some 37) (v := ?_) (a' := ?_) #[true, true, true, true, true, true, true, true, false, false, false, false, false, false, false, false, false, false, false, false, false, false, false, false, false, false, false, false, false, false, false, false, false, false] rfl rfl (any_of HT_.out (by kernel_rfl)) (fun _ _ _ h => h) (Or.inl ⟨by rfl, ?_⟩) ?_ ?_
         rotate_left
         ·
          intro w'
          go_simp
          with_reducible rfl
         rotate_left
         ·
          simp only [Act.put, List.setIfInBounds_toArray, List.set_cons_zero, List.set_cons_succ, i64_w, i32_w]
          rfl
         refine pure_ (i := 8) (N := some 38) (v := ?_) (a' := ?_) #[true, true, true, true, true, true, true, true, true, false, false, false, false, false, false, false, false, false, false, false, false, false, false, false, false, false, false, false, false, false, false, false, false, false] rfl rfl (any_of HT_.out (by kernel_rfl)) (fun _ _ _ h => h) (Or.inl ⟨by rfl, ?_⟩) ?_ ?_
         rotate_left
         ·
          intro w'
          go_simp
          with_reducible rfl
         rotate_left
         ·
          simp only [Act.put, List.setIfInBounds_toArray, List.set_cons_zero, List.set_cons_succ, i64_w, i32_w]
          rfl
         refine pure_ (i := 9) (N := some 39) (v := ?_) (a' := ?_) #[true, true, true, true, true, true, true, true, true, true, false, false, false, false, false, false, false, false, false, false, false, false, false, false, false, false, false, false, false, false, false, false, false, false] rfl rfl (any_of HT_.out (by kernel_rfl)) (fun _ _ _ h => h) (Or.inl ⟨by rfl, ?_⟩) ?_ ?_
         rotate_left
         ·
          intro w'
          go_simp
          with_reducible rfl
         rotate_left
         ·
          simp only [Act.put, List.setIfInBounds_toArray, List.set_cons_zero, List.set_cons_succ, i64_w, i32_w]
          rfl
         refine pure_ (i := 12) (N := some 42) (v := ?_) (a' := ?_) #[true, true, true, true, true, true, true, true, true, true, false, false, true, false, false, false, false, false, false, false, false, false, false, false, false, false, false, false, false, false, false, false, false, false] rfl rfl (any_of HT_.out (by kernel_rfl)) (fun _ _ _ h => h) (Or.inl ⟨by rfl, ?_⟩) ?_ ?_
         rotate_left
         ·
          intro w'
          go_simp
          with_reducible rfl
         rotate_left
         ·
          simp only [Act.put, List.setIfInBounds_toArray, List.set_cons_zero, List.set_cons_succ, i64_w, i32_w]
          rfl
         refine pure_ (i := 13) (N := some 43) (v := ?_) (a' := ?_) #[true, true, true, true, true, true, true, true, true, true, false, false, true, true, false, false, false, false, false, false, false, false, false, false, false, false, false, false, false, false, false, false, false, false] rfl rfl (any_of HT_.out (by kernel_rfl)) (fun _ _ _ h => h) (Or.inl ⟨by rfl, ?_⟩) ?_ ?_
         rotate_left
         ·
          intro w'
          go_simp
          with_reducible rfl
         rotate_left
         ·
          simp only [Act.put, List.setIfInBounds_toArray, List.set_cons_zero, List.set_cons_succ, i64_w, i32_w]
          rfl
         refine pure_ (i := 14) (N := some 44) (v := ?_) (a' := ?_) #[true, true, true, true, true, true, true, true, true, true, false, false, true, true, true, false, false, false, false, false, false, false, false, false, false, false, false, false, false, false, false, false, false, false] rfl rfl (any_of HT_.out (by kernel_rfl)) (fun _ _ _ h => h) (Or.inl ⟨by rfl, ?_⟩) ?_ ?_
         rotate_left
         ·
          intro w'
          go_simp
          with_reducible rfl
         rotate_left
         ·
          simp only [Act.put, List.setIfInBounds_toArray, List.set_cons_zero, List.set_cons_succ, i64_w, i32_w]
          rfl
         refine pure_ (i := 15) (N := some 45) (v := ?_) (a' := ?_) #[true, true, true, true, true, true, true, true, true, true, false, false, true, true, true, true, false, false, false, false, false, false, false, false, false, false, false, false, false, false, false, false, false, false] rfl rfl (any_of HT_.out (by kernel_rfl)) (fun _ _ _ h => h) (Or.inl ⟨by rfl, ?_⟩) ?_ ?_
         rotate_left
         ·
          intro w'
          go_simp
          with_reducible rfl
         rotate_left
         ·
          simp only [Act.put, List.setIfInBounds_toArray, List.set_cons_zero, List.set_cons_succ, i64_w, i32_w]
          rfl
         refine pure_ (i := 17) (N := some 47) (v := ?_) (a' := ?_) #[true, true, true, true, true, true, true, true, true, true, false, false, true, true, true, true, false, true, false, false, false, false, false, false, false, false, false, false, false, false, false, false, false, false] rfl rfl (any_of HT_.out (by kernel_rfl)) (fun _ _ _ h => h) (Or.inl ⟨by rfl, ?_⟩) ?_ ?_
         rotate_left
         ·
          intro w'
          go_simp
          with_reducible rfl
         rotate_left
         ·
          simp only [Act.put, List.setIfInBounds_toArray, List.set_cons_zero, List.set_cons_succ, i64_w, i32_w]
          rfl
         refine pure_ (i := 18) (N := some 48) (v := ?_) (a' := ?_) #[true, true, true, true, true, true, true, true, true, true, false, false, true, true, true, true, false, true, true, false, false, false, false, false, false, false, false, false, false, false, false, false, false, false] rfl rfl (any_of HT_.out (by kernel_rfl)) (fun _ _ _ h => h) (Or.inl ⟨by rfl, ?_⟩) ?_ ?_
         rotate_left
         ·
          intro w'
          go_simp
          with_reducible rfl
         rotate_left
         ·
          simp only [Act.put, List.setIfInBounds_toArray, List.set_cons_zero, List.set_cons_succ, i64_w, i32_w]
          rfl
         refine pure_ (i := 19) (N := some 49) (v := ?_) (a' := ?_) #[true, true, true, true, true, true, true, true, true, true, false, false, true, true, true, true, false, true, true, true, false, false, false, false, false, false, false, false, false, false, false, false, false, false] rfl rfl (any_of HT_.out (by kernel_rfl)) (fun _ _ _ h => h) (Or.inl ⟨by rfl, ?_⟩) ?_ ?_
         rotate_left
         ·
          intro w'
          go_simp
          with_reducible rfl
         rotate_left
         ·
          simp only [Act.put, List.setIfInBounds_toArray, List.set_cons_zero, List.set_cons_succ, i64_w, i32_w]
          rfl
         refine pure_ (i := 20) (N := some 50) (v := ?_) (a' := ?_) #[true, true, true, true, true, true, true, true, true, true, false, false, true, true, true, true, false, true, true, true, true, false, false, false, false, false, false, false, false, false, false, false, false, false] rfl rfl (any_of HT_.out (by kernel_rfl)) (fun _ _ _ h => h) (Or.inl ⟨by rfl, ?_⟩) ?_ ?_
         rotate_left
         ·
          intro w'
          go_simp
          with_reducible rfl
         rotate_left
         ·
          simp only [Act.put, List.setIfInBounds_toArray, List.set_cons_zero, List.set_cons_succ, i64_w, i32_w]
          rfl
         refine take_ (i := 10) (N := some 40) (v := ?_) (a' := ?_) #[true, true, true, true, true, true, true, true, true, true, true, false, true, true, true, true, false, true, true, true, true, false, false, false, false, false, false, false, false, false, false, false, false, false] rfl rfl (take_ofW HT_.out HW_.out (by kernel_rfl)) (fun _ _ _ h => h) (Or.inl ⟨by rfl, ?_⟩) hHeld ?_ ?_
         rotate_left
         ·
          rintro w' ⟨s0, s1, s2, s3, s4, s5, s6, s7, s8, s9, s10, s11, s12, s13, s14, s15, s16, s17, s18, s19⟩
          go_simp
          with_reducible rfl
         rotate_left
         ·
          simp only [Act.put, List.setIfInBounds_toArray, List.set_cons_zero, List.set_cons_succ, i64_w, i32_w]
          rfl
         refine take_ (i := 16) (N := some 46) (v := ?_) (a' := ?_) #[true, true, true, true, true, true, true, true, true, true, true, false, true, true, true, true, true, true, true, true, true, false, false, false, false, false, false, false, false, false, false, false, false, false] rfl rfl (take_ofW HT_.out HW_.out (by kernel_rfl)) (fun _ _ _ h => h) (Or.inl ⟨by rfl, ?_⟩) hHeld ?_ ?_
         rotate_left
         ·
          rintro w' ⟨s0, s1, s2, s3, s4, s5, s6, s7, s8, s9, s10, s11, s12, s13, s14, s15, s16, s17, s18, s19⟩
          go_simp
          with_reducible rfl
         rotate_left
         ·
          simp only [Act.put, List.setIfInBounds_toArray, List.set_cons_zero, List.set_cons_succ, i64_w, i32_w]
          rfl
         refine take_ (i := 21) (N := some 51) (v := ?_) (a' := ?_) #[true, true, true, true, true, true, true, true, true, true, true, false, true, true, true, true, true, true, true, true, true, true, false, false, false, false, false, false, false, false, false, false, false, false] rfl rfl (take_ofW HT_.out HW_.out (by kernel_rfl)) (fun _ _ _ h => h) (Or.inl ⟨by rfl, ?_⟩) hHeld ?_ ?_
         rotate_left
         ·
          rintro w' ⟨s0, s1, s2, s3, s4, s5, s6, s7, s8, s9, s10, s11, s12, s13, s14, s15, s16, s17, s18, s19⟩
          go_simp
          with_reducible rfl
         rotate_left
         ·
          simp only [Act.put, List.setIfInBounds_toArray, List.set_cons_zero, List.set_cons_succ, i64_w, i32_w]
          rfl
         refine pure_ (i := 22) (N := some 52) (v := ?_) (a' := ?_) #[true, true, true, true, true, true, true, true, true, true, true, false, true, true, true, true, true, true, true, true, true, true, true, false, false, false, false, false, false, false, false, false, false, false] rfl rfl (any_of HT_.out (by kernel_rfl)) (fun _ _ _ h => h) (Or.inl ⟨by rfl, ?_⟩) ?_ ?_
         rotate_left
         ·
          intro w'
          go_simp
          with_reducible rfl
         rotate_left
         ·
          simp only [Act.put, List.setIfInBounds_toArray, List.set_cons_zero, List.set_cons_succ, i64_w, i32_w]
          rfl
         refine pure_ (i := 23) (N := some 53) (v := ?_) (a' := ?_) #[true, true, true, true, true, true, true, true, true, true, true, false, true, true, true, true, true, true, true, true, true, true, true, true, false, false, false, false, false, false, false, false, false, false] rfl rfl (any_of HT_.out (by kernel_rfl)) (fun _ _ _ h => h) (Or.inl ⟨by rfl, ?_⟩) ?_ ?_
         rotate_left
         ·
          intro w'
          go_simp
          with_reducible rfl
         rotate_left
         ·
          simp only [Act.put, List.setIfInBounds_toArray, List.set_cons_zero, List.set_cons_succ, i64_w, i32_w]
          rfl
         refine one_ (i := 11) (N := some 41) #[true, true, true, true, true, true, true, true, true, true, true, true, true, true, true, true, true, true, true, true, true, true, true, true, false, false, false, false, false, false, false, false, false, false] rfl rfl (one_of HT_.out (by kernel_rfl)) (by decide) (fun K hK => ?_)
         refine goes_ Try.func13 (by kernel_rfl) rfl #[.agg #[.int .i64 ((rd_T23 y132 x3_1).f0), .int .i64 ((rd_T23 y132 x3_1).f1), .int .i64 ((rd_T23 y132 x3_1).f2), .int .i64 ((rd_T23 y132 x3_1).f3)]] (by rfl) rfl rfl (by (try simp only [List.map_toArray, List.map_cons, List.map_nil]); first | done | rfl | (simp only [List.length_drop, List.length_take]; rfl)) ?_
         with_reducible refine (geo_Cells.calls ((rd_T23 y132 x3_1).f0) ((rd_T23 y132 x3_1).f1) ((rd_T23 y132 x3_1).f2) ((rd_T23 y132 x3_1).f3) t141 _ A14.out).mono ?_
         rintro e w19 ⟨rfl, hb⟩
         have HS0_ := (hb.cell (World.block_lt_of_cell? _ _ (hHeld.1))).trans (hHeld.1)
         have HS1_ := (hb.cell (World.block_lt_of_cell? _ _ (hHeld.2.1))).trans (hHeld.2.1)
         have HS2_ := (hb.cell (World.block_lt_of_cell? _ _ (hHeld.2.2.1))).trans (hHeld.2.2.1)
         have HS3_ := (hb.cell (World.block_lt_of_cell? _ _ (hHeld.2.2.2.1))).trans (hHeld.2.2.2.1)
         have HS4_ := (hb.cell (World.block_lt_of_cell? _ _ (hHeld.2.2.2.2.1))).trans (hHeld.2.2.2.2.1)
         have HS5_ := (hb.cell (World.block_lt_of_cell? _ _ (hHeld.2.2.2.2.2.1))).trans (hHeld.2.2.2.2.2.1)
         have HS6_ := (hb.cell (World.block_lt_of_cell? _ _ (hHeld.2.2.2.2.2.2.1))).trans (hHeld.2.2.2.2.2.2.1)
         have HS7_ := (hb.cell (World.block_lt_of_cell? _ _ (hHeld.2.2.2.2.2.2.2.1))).trans (hHeld.2.2.2.2.2.2.2.1)
         have HS8_ := (hb.cell (World.block_lt_of_cell? _ _ (hHeld.2.2.2.2.2.2.2.2.1))).trans (hHeld.2.2.2.2.2.2.2.2.1)
         have HS9_ := (hb.cell (World.block_lt_of_cell? _ _ (hHeld.2.2.2.2.2.2.2.2.2.1))).trans (hHeld.2.2.2.2.2.2.2.2.2.1)
         have HS10_ := (hb.cell (World.block_lt_of_cell? _ _ (hHeld.2.2.2.2.2.2.2.2.2.2.1))).trans (hHeld.2.2.2.2.2.2.2.2.2.2.1)
         have HS11_ := (hb.cell (World.block_lt_of_cell? _ _ (hHeld.2.2.2.2.2.2.2.2.2.2.2.1))).trans (hHeld.2.2.2.2.2.2.2.2.2.2.2.1)
         have HS12_ := (hb.cell (World.block_lt_of_cell? _ _ (hHeld.2.2.2.2.2.2.2.2.2.2.2.2.1))).trans (hHeld.2.2.2.2.2.2.2.2.2.2.2.2.1)
         have HS13_ := (hb.cell (World.block_lt_of_cell? _ _ (hHeld.2.2.2.2.2.2.2.2.2.2.2.2.2.1))).trans (hHeld.2.2.2.2.2.2.2.2.2.2.2.2.2.1)
         have HS14_ := (hb.cell (World.block_lt_of_cell? _ _ (hHeld.2.2.2.2.2.2.2.2.2.2.2.2.2.2.1))).trans (hHeld.2.2.2.2.2.2.2.2.2.2.2.2.2.2.1)
         have HS15_ := (hb.cell (World.block_lt_of_cell? _ _ (hHeld.2.2.2.2.2.2.2.2.2.2.2.2.2.2.2.1))).trans (hHeld.2.2.2.2.2.2.2.2.2.2.2.2.2.2.2.1)
         have HS16_ := (hb.cell (World.block_lt_of_cell? _ _ (hHeld.2.2.2.2.2.2.2.2.2.2.2.2.2.2.2.2.1))).trans (hHeld.2.2.2.2.2.2.2.2.2.2.2.2.2.2.2.2.1)
         have HS17_ := (hb.cell (World.block_lt_of_cell? _ _ (hHeld.2.2.2.2.2.2.2.2.2.2.2.2.2.2.2.2.2.1))).trans (hHeld.2.2.2.2.2.2.2.2.2.2.2.2.2.2.2.2.2.1)
         have HS18_ := (hb.cell (World.block_lt_of_cell? _ _ (hHeld.2.2.2.2.2.2.2.2.2.2.2.2.2.2.2.2.2.2.1))).trans (hHeld.2.2.2.2.2.2.2.2.2.2.2.2.2.2.2.2.2.2.1)
         have HS19_ := (hb.cell (World.block_lt_of_cell? _ _ (hHeld.2.2.2.2.2.2.2.2.2.2.2.2.2.2.2.2.2.2.2))).trans (hHeld.2.2.2.2.2.2.2.2.2.2.2.2.2.2.2.2.2.2.2)
         refine ⟨_, rfl, ?_⟩
         have n0_ := Aside0.mk (Kd.R_below (by (with_reducible repeat (first | apply Kd.R_alloc | apply Kd.R_drewN | apply Kd.R_drew)); exact HO_1.out) hb)
         have n1_ := Aside0.mk (Kd.R_below (by (with_reducible repeat (first | apply Kd.R_alloc | apply Kd.R_drewN | apply Kd.R_drew)); exact HO_2.out) hb)
         have n2_ := Aside0.mk (below_step (by repeat (first | (with_reducible first | exact HB.out | apply below_alloc | apply pw_below_drewN | apply below_drew1) | exact HB.out)) hb)
         clear HO_1
         clear HO_2
         clear HB
         have HO_1 := n0_
         have HO_2 := n1_
         have HB := n2_
         clear n0_ n1_ n2_
         (try clear hb)
         (try clear hb2)
         (try clear hk)
         (try clear hi)
         refine hK.out _ _ ⟨HS0_, HS1_, HS2_, HS3_, HS4_, HS5_, HS6_, HS7_, HS8_, HS9_, HS10_, HS11_, HS12_, HS13_, HS14_, HS15_, HS16_, HS17_, HS18_, HS19_⟩ (fun hHeld => ?_)
         clear hK K
         refine norm_ (a' := ?_) ?_ ?_
         rotate_left
         ·
          show Act.put _ (some 41) _ = _
          simp only [Act.put, List.setIfInBounds_toArray, List.set_cons_zero, List.set_cons_succ, i64_w, i32_w]
          rfl
         refine pure_ (i := 24) (N := some 54) (v := ?_) (a' := ?_) #[true, true, true, true, true, true, true, true, true, true, true, true, true, true, true, true, true, true, true, true, true, true, true, true, true, false, false, false, false, false, false, false, false, false] rfl rfl (any_of HT_.out (by kernel_rfl)) (fun _ _ _ h => h) (Or.inl ⟨by rfl, ?_⟩) ?_ ?_
         rotate_left
         ·
          intro w'
          go_simp
          with_reducible rfl
         rotate_left
         ·
          simp only [Act.put, List.setIfInBounds_toArray, List.set_cons_zero, List.set_cons_succ, i64_w, i32_w]
          rfl
         refine pure_ (i := 25) (N := some 55) (v := ?_) (a' := ?_) #[true, true, true, true, true, true, true, true, true, true, true, true, true, true, true, true, true, true, true, true, true, true, true, true, true, true, false, false, false, false, false, false, false, false] rfl rfl (any_of HT_.out (by kernel_rfl)) (fun _ _ _ h => h) (Or.inl ⟨by rfl, ?_⟩) ?_ ?_
         rotate_left
         ·
          intro w'
          go_simp
          with_reducible rfl
         rotate_left
         ·
          simp only [Act.put, List.setIfInBounds_toArray, List.set_cons_zero, List.set_cons_succ, i64_w, i32_w]
          rfl
         refine pure_ (i := 26) (N := some 56) (v := ?_) (a' := ?_) #[true, true, true, true, true, true, true, true, true, true, true, true, true, true, true, true, true, true, true, true, true, true, true, true, true, true, true, false, false, false, false, false, false, false] rfl rfl (any_of HT_.out (by kernel_rfl)) (fun _ _ _ h => h) (Or.inl ⟨by rfl, ?_⟩) ?_ ?_
         rotate_left
         ·
          intro w'
          go_simp
          with_reducible rfl
         rotate_left
         ·
          simp only [Act.put, List.setIfInBounds_toArray, List.set_cons_zero, List.set_cons_succ, i64_w, i32_w]
          rfl
         refine pure_ (i := 27) (N := some 57) (v := ?_) (a' := ?_) #[true, true, true, true, true, true, true, true, true, true, true, true, true, true, true, true, true, true, true, true, true, true, true, true, true, true, true, true, false, false, false, false, false, false] rfl rfl (any_of HT_.out (by kernel_rfl)) (fun _ _ _ h => h) (Or.inl ⟨by rfl, ?_⟩) ?_ ?_
         rotate_left
         ·
          intro w'
          go_simp
          with_reducible rfl
         rotate_left
         ·
          simp only [Act.put, List.setIfInBounds_toArray, List.set_cons_zero, List.set_cons_succ, i64_w, i32_w]
          rfl
         refine pure_ (i := 28) (N := some 58) (v := ?_) (a' := ?_) #[true, true, true, true, true, true, true, true, true, true, true, true, true, true, true, true, true, true, true, true, true, true, true, true, true, true, true, true, true, false, false, false, false, false] rfl rfl (any_of HT_.out (by kernel_rfl)) (fun _ _ _ h => h) (Or.inl ⟨by rfl, ?_⟩) ?_ ?_
         rotate_left
         ·
          intro w'
          go_simp
          with_reducible rfl
         rotate_left
         ·
          simp only [Act.put, List.setIfInBounds_toArray, List.set_cons_zero, List.set_cons_succ, i64_w, i32_w]
          rfl
         refine pure_ (i := 29) (N := some 59) (v := ?_) (a' := ?_) #[true, true, true, true, true, true, true, true, true, true, true, true, true, true, true, true, true, true, true, true, true, true, true, true, true, true, true, true, true, true, false, false, false, false] rfl rfl (any_of HT_.out (by kernel_rfl)) (fun _ _ _ h => h) (Or.inl ⟨by rfl, ?_⟩) ?_ ?_
         rotate_left
         ·
          intro w'
          go_simp
          with_reducible rfl
         rotate_left
         ·
          simp only [Act.put, List.setIfInBounds_toArray, List.set_cons_zero, List.set_cons_succ, i64_w, i32_w]
          rfl
         refine take_ (i := 30) (N := some 60) (v := ?_) (a' := ?_) #[true, true, true, true, true, true, true, true, true, true, true, true, true, true, true, true, true, true, true, true, true, true, true, true, true, true, true, true, true, true, true, false, false, false] rfl rfl (take_ofW HT_.out HW_.out (by kernel_rfl)) (fun _ _ _ h => h) (Or.inl ⟨by rfl, ?_⟩) hHeld ?_ ?_
         rotate_left
         ·
          rintro w' ⟨s0, s1, s2, s3, s4, s5, s6, s7, s8, s9, s10, s11, s12, s13, s14, s15, s16, s17, s18, s19⟩
          go_simp
          with_reducible rfl
         rotate_left
         ·
          simp only [Act.put, List.setIfInBounds_toArray, List.set_cons_zero, List.set_cons_succ, i64_w, i32_w]
          rfl
         refine one_ (i := 31) (N := some 61) #[true, true, true, true, true, true, true, true, true, true, true, true, true, true, true, true, true, true, true, true, true, true, true, true, true, true, true, true, true, true, true, true, false, false] rfl rfl (one_of HT_.out (by kernel_rfl)) (by decide) (fun K hK => ?_)
         refine goes_ Try.func15 (by kernel_rfl) rfl #[.agg #[.int .i64 ((rd_T23 y132 x3_1).f0), .int .i64 ((rd_T23 y132 x3_1).f1), .int .i64 ((rd_T23 y132 x3_1).f2), .int .i64 ((rd_T23 y132 x3_1).f3)]] (by rfl) rfl rfl (by (try simp only [List.map_toArray, List.map_cons, List.map_nil]); first | done | rfl | (simp only [List.length_drop, List.length_take]; rfl)) ?_
         with_reducible refine (geo_Size.calls ((rd_T23 y132 x3_1).f0) ((rd_T23 y132 x3_1).f1) ((rd_T23 y132 x3_1).f2) ((rd_T23 y132 x3_1).f3) t145 _ A16.out).mono ?_
         rintro e w20 ⟨rfl, hb⟩
         have HS0_ := (hb.cell (World.block_lt_of_cell? _ _ (hHeld.1))).trans (hHeld.1)
         have HS1_ := (hb.cell (World.block_lt_of_cell? _ _ (hHeld.2.1))).trans (hHeld.2.1)
         have HS2_ := (hb.cell (World.block_lt_of_cell? _ _ (hHeld.2.2.1))).trans (hHeld.2.2.1)
         have HS3_ := (hb.cell (World.block_lt_of_cell? _ _ (hHeld.2.2.2.1))).trans (hHeld.2.2.2.1)
         have HS4_ := (hb.cell (World.block_lt_of_cell? _ _ (hHeld.2.2.2.2.1))).trans (hHeld.2.2.2.2.1)
         have HS5_ := (hb.cell (World.block_lt_of_cell? _ _ (hHeld.2.2.2.2.2.1))).trans (hHeld.2.2.2.2.2.1)
         have HS6_ := (hb.cell (World.block_lt_of_cell? _ _ (hHeld.2.2.2.2.2.2.1))).trans (hHeld.2.2.2.2.2.2.1)
         have HS7_ := (hb.cell (World.block_lt_of_cell? _ _ (hHeld.2.2.2.2.2.2.2.1))).trans (hHeld.2.2.2.2.2.2.2.1)
         have HS8_ := (hb.cell (World.block_lt_of_cell? _ _ (hHeld.2.2.2.2.2.2.2.2.1))).trans (hHeld.2.2.2.2.2.2.2.2.1)
         have HS9_ := (hb.cell (World.block_lt_of_cell? _ _ (hHeld.2.2.2.2.2.2.2.2.2.1))).trans (hHeld.2.2.2.2.2.2.2.2.2.1)
         have HS10_ := (hb.cell (World.block_lt_of_cell? _ _ (hHeld.2.2.2.2.2.2.2.2.2.2.1))).trans (hHeld.2.2.2.2.2.2.2.2.2.2.1)
         have HS11_ := (hb.cell (World.block_lt_of_cell? _ _ (hHeld.2.2.2.2.2.2.2.2.2.2.2.1))).trans (hHeld.2.2.2.2.2.2.2.2.2.2.2.1)
         have HS12_ := (hb.cell (World.block_lt_of_cell? _ _ (hHeld.2.2.2.2.2.2.2.2.2.2.2.2.1))).trans (hHeld.2.2.2.2.2.2.2.2.2.2.2.2.1)
         have HS13_ := (hb.cell (World.block_lt_of_cell? _ _ (hHeld.2.2.2.2.2.2.2.2.2.2.2.2.2.1))).trans (hHeld.2.2.2.2.2.2.2.2.2.2.2.2.2.1)
         have HS14_ := (hb.cell (World.block_lt_of_cell? _ _ (hHeld.2.2.2.2.2.2.2.2.2.2.2.2.2.2.1))).trans (hHeld.2.2.2.2.2.2.2.2.2.2.2.2.2.2.1)
         have HS15_ := (hb.cell (World.block_lt_of_cell? _ _ (hHeld.2.2.2.2.2.2.2.2.2.2.2.2.2.2.2.1))).trans (hHeld.2.2.2.2.2.2.2.2.2.2.2.2.2.2.2.1)
         have HS16_ := (hb.cell (World.block_lt_of_cell? _ _ (hHeld.2.2.2.2.2.2.2.2.2.2.2.2.2.2.2.2.1))).trans (hHeld.2.2.2.2.2.2.2.2.2.2.2.2.2.2.2.2.1)
         have HS17_ := (hb.cell (World.block_lt_of_cell? _ _ (hHeld.2.2.2.2.2.2.2.2.2.2.2.2.2.2.2.2.2.1))).trans (hHeld.2.2.2.2.2.2.2.2.2.2.2.2.2.2.2.2.2.1)
         have HS18_ := (hb.cell (World.block_lt_of_cell? _ _ (hHeld.2.2.2.2.2.2.2.2.2.2.2.2.2.2.2.2.2.2.1))).trans (hHeld.2.2.2.2.2.2.2.2.2.2.2.2.2.2.2.2.2.2.1)
         have HS19_ := (hb.cell (World.block_lt_of_cell? _ _ (hHeld.2.2.2.2.2.2.2.2.2.2.2.2.2.2.2.2.2.2.2))).trans (hHeld.2.2.2.2.2.2.2.2.2.2.2.2.2.2.2.2.2.2.2)
         refine ⟨_, rfl, ?_⟩
         have n0_ := Aside0.mk (Kd.R_below (by (with_reducible repeat (first | apply Kd.R_alloc | apply Kd.R_drewN | apply Kd.R_drew)); exact HO_1.out) hb)
         have n1_ := Aside0.mk (Kd.R_below (by (with_reducible repeat (first | apply Kd.R_alloc | apply Kd.R_drewN | apply Kd.R_drew)); exact HO_2.out) hb)
         have n2_ := Aside0.mk (below_step (by repeat (first | (with_reducible first | exact HB.out | apply below_alloc | apply pw_below_drewN | apply below_drew1) | exact HB.out)) hb)
         clear HO_1
         clear HO_2
         clear HB
         have HO_1 := n0_
         have HO_2 := n1_
         have HB := n2_
         clear n0_ n1_ n2_
         (try clear hb)
         (try clear hb2)
         (try clear hk)
         (try clear hi)
         refine hK.out _ _ ⟨HS0_, HS1_, HS2_, HS3_, HS4_, HS5_, HS6_, HS7_, HS8_, HS9_, HS10_, HS11_, HS12_, HS13_, HS14_, HS15_, HS16_, HS17_, HS18_, HS19_⟩ (fun hHeld => ?_)
         clear hK K
         refine norm_ (a' := ?_) ?_ ?_
         rotate_left
         ·
          show Act.put _ (some 61) _ = _
          simp only [Act.put, List.setIfInBounds_toArray, List.set_cons_zero, List.set_cons_succ, i64_w, i32_w]
          rfl
         refine pure_ (i := 32) (N := some 62) (v := ?_) (a' := ?_) #[true, true, true, true, true, true, true, true, true, true, true, true, true, true, true, true, true, true, true, true, true, true, true, true, true, true, true, true, true, true, true, true, true, false] rfl rfl (any_of HT_.out (by kernel_rfl)) (fun _ _ _ h => h) (Or.inl ⟨by rfl, ?_⟩) ?_ ?_
         rotate_left
         ·
          intro w'
          go_simp
          with_reducible rfl
         rotate_left
         ·
          simp only [Act.put, List.setIfInBounds_toArray, List.set_cons_zero, List.set_cons_succ, i64_w, i32_w]
          rfl
         refine pure_ (i := 33) (N := some 63) (v := ?_) (a' := ?_) #[true, true, true, true, true, true, true, true, true, true, true, true, true, true, true, true, true, true, true, true, true, true, true, true, true, true, true, true, true, true, true, true, true, true] rfl rfl (any_of HT_.out (by kernel_rfl)) (fun _ _ _ h => h) (Or.inl ⟨by rfl, ?_⟩) ?_ ?_
         rotate_left
         ·
          intro w'
          go_simp
          with_reducible rfl
         rotate_left
         ·
          simp only [Act.put, List.setIfInBounds_toArray, List.set_cons_zero, List.set_cons_succ, i64_w, i32_w]
          rfl
         refine done_ (done_of HT_.out (by kernel_rfl)) ?_
         try go_wp2
         go_meet
         case rel => exact ⟨_, (decide (t145 < 1)), (by first | rfl | (simp; done) | (simp [*]; done)), H', ⟨by have := HK1.out; first | omega | exact Nat.le_refl _⟩, ⟨by (with_reducible repeat (first | apply Kd.R_alloc | apply Kd.R_drewN | apply Kd.R_drew)); exact HO_1.out⟩, ⟨by (with_reducible repeat (first | apply Kd.R_alloc | apply Kd.R_drewN | apply Kd.R_drew)); exact HO_2.out⟩, ⟨by repeat (first | (with_reducible first | exact HB.out | apply below_alloc | apply pw_below_drewN | apply below_drew1) | exact HB.out)⟩⟩
        ·
         rw [if_neg c15] at H
         have c15b0 : (t141 == (wrap64 (((rd_T23 y132 x3_1).f2) * (wrap64 (((rd_T23 y132 x3_1).f3) + 16))))) = false := beq_eq_false_iff_ne.mpr c15
         have c15b1 : (t141 != (wrap64 (((rd_T23 y132 x3_1).f2) * (wrap64 (((rd_T23 y132 x3_1).f3) + 16))))) = true := bne_iff_ne.mpr c15
         have H' := Aside0.mk H
         clear H
         try go_wp2
         have n0_ := Aside0.mk (Kd.R_drew HO_1.out)
         have n1_ := Aside0.mk (Kd.R_drew HO_2.out)
         have n2_ := Aside0.mk (below_drew1 HB.out)
         clear HO_1
         clear HO_2
         clear HB
         have HO_1 := n0_
         have HO_2 := n1_
         have HB := n2_
         clear n0_ n1_ n2_
         have p138 : 0 ≤ (x3_1 : Int) := of_decide_eq_true (by first | (with_reducible assumption) | assumption)
         have q138 : x3_1 < (y132.length : Int) := of_decide_eq_true (by first | (with_reducible assumption) | assumption)
         obtain ⟨ad138, e138, hx138_0, hx138_1, hx138_2, hx138_3⟩ := at_T23 (Kd.R_reads' HO_1.out).2.2 x3_1 p138 q138
         cases e138
         replace p138 := eq_true p138
         replace q138 := eq_true q138
         have p140 : 0 ≤ (x3_1 : Int) := of_decide_eq_true (by first | (with_reducible assumption) | assumption)
         have q140 : x3_1 < (y132.length : Int) := of_decide_eq_true (by first | (with_reducible assumption) | assumption)
         obtain ⟨ad140, e140, hx140_0, hx140_1, hx140_2, hx140_3⟩ := at_T23 (Kd.R_reads' HO_1.out).2.2 x3_1 p140 q140
         obtain rfl : ad138 = ad140 := (by injection e140)
         replace p140 := eq_true p140
         replace q140 := eq_true q140
         have p142 : 0 ≤ (x3_1 : Int) := of_decide_eq_true (by first | (with_reducible assumption) | assumption)
         have q142 : x3_1 < (y132.length : Int) := of_decide_eq_true (by first | (with_reducible assumption) | assumption)
         obtain ⟨ad142, e142, hx142_0, hx142_1, hx142_2, hx142_3⟩ := at_T23 (Kd.R_reads' HO_1.out).2.2 x3_1 p142 q142
         obtain rfl : ad138 = ad142 := (by injection e142)
         replace p142 := eq_true p142
         replace q142 := eq_true q142
         have p143 : 0 ≤ (x3_1 : Int) := of_decide_eq_true (by first | (with_reducible assumption) | assumption)
         have q143 : x3_1 < (y132.length : Int) := of_decide_eq_true (by first | (with_reducible assumption) | assumption)
         obtain ⟨ad143, e143, hx143_0, hx143_1, hx143_2, hx143_3⟩ := at_T23 (Kd.R_reads' HO_1.out).2.2 x3_1 p143 q143
         obtain rfl : ad138 = ad143 := (by injection e143)
         replace p143 := eq_true p143
         replace q143 := eq_true q143
         refine start_ (n := 34) (S := fun w' => w'.cell? (ad138.add ((x3_1).toNat * 4)) = some (.int .i64 ((rd_T23 y132 x3_1).f0)) ∧ w'.cell? ⟨(ad138.add ((x3_1).toNat * 4)).block, (ad138.add ((x3_1).toNat * 4)).off + 1, none⟩ = some (.int .i64 ((rd_T23 y132 x3_1).f1)) ∧ w'.cell? ⟨(ad138.add ((x3_1).toNat * 4)).block, (ad138.add ((x3_1).toNat * 4)).off + 2, none⟩ = some (.int .i64 ((rd_T23 y132 x3_1).f2)) ∧ w'.cell? ⟨(ad138.add ((x3_1).toNat * 4)).block, (ad138.add ((x3_1).toNat * 4)).off + 3, none⟩ = some (.int .i64 ((rd_T23 y132 x3_1).f3)) ∧ w'.cell? (ad138.add ((x3_1).toNat * 4)) = some (.int .i64 ((rd_T23 y132 x3_1).f0)) ∧ w'.cell? ⟨(ad138.add ((x3_1).toNat * 4)).block, (ad138.add ((x3_1).toNat * 4)).off + 1, none⟩ = some (.int .i64 ((rd_T23 y132 x3_1).f1)) ∧ w'.cell? ⟨(ad138.add ((x3_1).toNat * 4)).block, (ad138.add ((x3_1).toNat * 4)).off + 2, none⟩ = some (.int .i64 ((rd_T23 y132 x3_1).f2)) ∧ w'.cell? ⟨(ad138.add ((x3_1).toNat * 4)).block, (ad138.add ((x3_1).toNat * 4)).off + 3, none⟩ = some (.int .i64 ((rd_T23 y132 x3_1).f3)) ∧ w'.cell? (ad138.add ((x3_1).toNat * 4)) = some (.int .i64 ((rd_T23 y132 x3_1).f0)) ∧ w'.cell? ⟨(ad138.add ((x3_1).toNat * 4)).block, (ad138.add ((x3_1).toNat * 4)).off + 1, none⟩ = some (.int .i64 ((rd_T23 y132 x3_1).f1)) ∧ w'.cell? ⟨(ad138.add ((x3_1).toNat * 4)).block, (ad138.add ((x3_1).toNat * 4)).off + 2, none⟩ = some (.int .i64 ((rd_T23 y132 x3_1).f2)) ∧ w'.cell? ⟨(ad138.add ((x3_1).toNat * 4)).block, (ad138.add ((x3_1).toNat * 4)).off + 3, none⟩ = some (.int .i64 ((rd_T23 y132 x3_1).f3)) ∧ w'.cell? (ad138.add ((x3_1).toNat * 4)) = some (.int .i64 ((rd_T23 y132 x3_1).f0)) ∧ w'.cell? ⟨(ad138.add ((x3_1).toNat * 4)).block, (ad138.add ((x3_1).toNat * 4)).off + 1, none⟩ = some (.int .i64 ((rd_T23 y132 x3_1).f1)) ∧ w'.cell? ⟨(ad138.add ((x3_1).toNat * 4)).block, (ad138.add ((x3_1).toNat * 4)).off + 2, none⟩ = some (.int .i64 ((rd_T23 y132 x3_1).f2)) ∧ w'.cell? ⟨(ad138.add ((x3_1).toNat * 4)).block, (ad138.add ((x3_1).toNat * 4)).off + 3, none⟩ = some (.int .i64 ((rd_T23 y132 x3_1).f3))) (ds := []) #[false, false, false, false, false, false, false, false, false, false, false, false, false, false, false, false, false, false, false, false, false, false, false, false, false, false, false, false, false, false, false, false, false, false] (by kernel_rfl) rfl rfl ⟨hx138_0, hx138_1, hx138_2, hx138_3, hx140_0, hx140_1, hx140_2, hx140_3, hx142_0, hx142_1, hx142_2, hx142_3, hx143_0, hx143_1, hx143_2, hx143_3⟩ (fun hHeld => ?_); refine with_tabW blackboardlaw7_GeoKnown.tab8 blackboardlaw7_GeoKnown.bits8 (fun HT_ HW_ => ?_)
         generalize wr.drew = w21 at HO_1 HO_2 HB hx138_0 hx138_1 hx138_2 hx138_3 hx140_0 hx140_1 hx140_2 hx140_3 hx142_0 hx142_1 hx142_2 hx142_3 hx143_0 hx143_1 hx143_2 hx143_3 hHeld ⊢
         refine pure_ (i := 0) (N := some 30) (v := ?_) (a' := ?_) #[true, false, false, false, false, false, false, false, false, false, false, false, false, false, false, false, false, false, false, false, false, false, false, false, false, false, false, false, false, false, false, false, false, false] rfl rfl (any_of HT_.out (by kernel_rfl)) (fun _ _ _ h => h) (Or.inl ⟨by rfl, ?_⟩) ?_ ?_
         rotate_left
         ·
          intro w'
          go_simp
          with_reducible rfl
         rotate_left
         ·
          simp only [Act.put, List.setIfInBounds_toArray, List.set_cons_zero, List.set_cons_succ, i64_w, i32_w]
          rfl
         refine pure_ (i := 1) (N := some 31) (v := ?_) (a' := ?_) #[true, true, false, false, false, false, false, false, false, false, false, false, false, false, false, false, false, false, false, false, false, false, false, false, false, false, false, false, false, false, false, false, false, false] rfl rfl (any_of HT_.out (by kernel_rfl)) (fun _ _ _ h => h) (Or.inl ⟨by rfl, ?_⟩) ?_ ?_
         rotate_left
         ·
          intro w'
          go_simp
          with_reducible rfl
         rotate_left
         ·
          simp only [Act.put, List.setIfInBounds_toArray, List.set_cons_zero, List.set_cons_succ, i64_w, i32_w]
          rfl
         refine pure_ (i := 2) (N := some 32) (v := ?_) (a' := ?_) #[true, true, true, false, false, false, false, false, false, false, false, false, false, false, false, false, false, false, false, false, false, false, false, false, false, false, false, false, false, false, false, false, false, false] rfl rfl (any_of HT_.out (by kernel_rfl)) (fun _ _ _ h => h) (Or.inl ⟨by rfl, ?_⟩) ?_ ?_
         rotate_left
         ·
          intro w'
          go_simp
          with_reducible rfl
         rotate_left
         ·
          simp only [Act.put, List.setIfInBounds_toArray, List.set_cons_zero, List.set_cons_succ, i64_w, i32_w]
          rfl
         refine take_ (i := 3) (N := some 33) (v := ?_) (a' := ?_) #[true, true, true, true, false, false, false, false, false, false, false, false, false, false, false, false, false, false, false, false, false, false, false, false, false, false, false, false, false, false, false, false, false, false] rfl rfl (take_ofW HT_.out HW_.out (by kernel_rfl)) (fun _ _ _ h => h) (Or.inl ⟨by rfl, ?_⟩) hHeld ?_ ?_
         rotate_left
         ·
          rintro w' ⟨s0, s1, s2, s3, s4, s5, s6, s7, s8, s9, s10, s11, s12, s13, s14, s15⟩
          go_simp
          with_reducible rfl
         rotate_left
         ·
          simp only [Act.put, List.setIfInBounds_toArray, List.set_cons_zero, List.set_cons_succ, i64_w, i32_w]
          rfl
         refine one_ (i := 4) (N := some 34) #[true, true, true, true, true, false, false, false, false, false, false, false, false, false, false, false, false, false, false, false, false, false, false, false, false, false, false, false, false, false, false, false, false, false] rfl rfl (one_of HT_.out (by kernel_rfl)) (by decide) (fun K hK => ?_)
         refine goes_ Try.func12 (by kernel_rfl) rfl #[.agg #[.int .i64 ((rd_T23 y132 x3_1).f0), .int .i64 ((rd_T23 y132 x3_1).f1), .int .i64 ((rd_T23 y132 x3_1).f2), .int .i64 ((rd_T23 y132 x3_1).f3)]] (by rfl) rfl rfl (by (try simp only [List.map_toArray, List.map_cons, List.map_nil]); first | done | rfl | (simp only [List.length_drop, List.length_take]; rfl)) ?_
         with_reducible refine (geo_May.calls ((rd_T23 y132 x3_1).f0) ((rd_T23 y132 x3_1).f1) ((rd_T23 y132 x3_1).f2) ((rd_T23 y132 x3_1).f3) true _ A12.out).mono ?_
         rintro e w22 ⟨rfl, hb⟩
         have HS0_ := (hb.cell (World.block_lt_of_cell? _ _ (hHeld.1))).trans (hHeld.1)
         have HS1_ := (hb.cell (World.block_lt_of_cell? _ _ (hHeld.2.1))).trans (hHeld.2.1)
         have HS2_ := (hb.cell (World.block_lt_of_cell? _ _ (hHeld.2.2.1))).trans (hHeld.2.2.1)
         have HS3_ := (hb.cell (World.block_lt_of_cell? _ _ (hHeld.2.2.2.1))).trans (hHeld.2.2.2.1)
         have HS4_ := (hb.cell (World.block_lt_of_cell? _ _ (hHeld.2.2.2.2.1))).trans (hHeld.2.2.2.2.1)
         have HS5_ := (hb.cell (World.block_lt_of_cell? _ _ (hHeld.2.2.2.2.2.1))).trans (hHeld.2.2.2.2.2.1)
         have HS6_ := (hb.cell (World.block_lt_of_cell? _ _ (hHeld.2.2.2.2.2.2.1))).trans (hHeld.2.2.2.2.2.2.1)
         have HS7_ := (hb.cell (World.block_lt_of_cell? _ _ (hHeld.2.2.2.2.2.2.2.1))).trans (hHeld.2.2.2.2.2.2.2.1)
         have HS8_ := (hb.cell (World.block_lt_of_cell? _ _ (hHeld.2.2.2.2.2.2.2.2.1))).trans (hHeld.2.2.2.2.2.2.2.2.1)
         have HS9_ := (hb.cell (World.block_lt_of_cell? _ _ (hHeld.2.2.2.2.2.2.2.2.2.1))).trans (hHeld.2.2.2.2.2.2.2.2.2.1)
         have HS10_ := (hb.cell (World.block_lt_of_cell? _ _ (hHeld.2.2.2.2.2.2.2.2.2.2.1))).trans (hHeld.2.2.2.2.2.2.2.2.2.2.1)
         have HS11_ := (hb.cell (World.block_lt_of_cell? _ _ (hHeld.2.2.2.2.2.2.2.2.2.2.2.1))).trans (hHeld.2.2.2.2.2.2.2.2.2.2.2.1)
         have HS12_ := (hb.cell (World.block_lt_of_cell? _ _ (hHeld.2.2.2.2.2.2.2.2.2.2.2.2.1))).trans (hHeld.2.2.2.2.2.2.2.2.2.2.2.2.1)
         have HS13_ := (hb.cell (World.block_lt_of_cell? _ _ (hHeld.2.2.2.2.2.2.2.2.2.2.2.2.2.1))).trans (hHeld.2.2.2.2.2.2.2.2.2.2.2.2.2.1)
         have HS14_ := (hb.cell (World.block_lt_of_cell? _ _ (hHeld.2.2.2.2.2.2.2.2.2.2.2.2.2.2.1))).trans (hHeld.2.2.2.2.2.2.2.2.2.2.2.2.2.2.1)
         have HS15_ := (hb.cell (World.block_lt_of_cell? _ _ (hHeld.2.2.2.2.2.2.2.2.2.2.2.2.2.2.2))).trans (hHeld.2.2.2.2.2.2.2.2.2.2.2.2.2.2.2)
         refine ⟨_, rfl, ?_⟩
         have n0_ := Aside0.mk (Kd.R_below (by (with_reducible repeat (first | apply Kd.R_alloc | apply Kd.R_drewN | apply Kd.R_drew)); exact HO_1.out) hb)
         have n1_ := Aside0.mk (Kd.R_below (by (with_reducible repeat (first | apply Kd.R_alloc | apply Kd.R_drewN | apply Kd.R_drew)); exact HO_2.out) hb)
         have n2_ := Aside0.mk (below_step (by repeat (first | (with_reducible first | exact HB.out | apply below_alloc | apply pw_below_drewN | apply below_drew1) | exact HB.out)) hb)
         clear HO_1
         clear HO_2
         clear HB
         have HO_1 := n0_
         have HO_2 := n1_
         have HB := n2_
         clear n0_ n1_ n2_
         (try clear hb)
         (try clear hb2)
         (try clear hk)
         (try clear hi)
         refine hK.out _ _ ⟨HS0_, HS1_, HS2_, HS3_, HS4_, HS5_, HS6_, HS7_, HS8_, HS9_, HS10_, HS11_, HS12_, HS13_, HS14_, HS15_⟩ (fun hHeld => ?_)
         clear hK K
         refine norm_ (a' := ?_) ?_ ?_
         rotate_left
         ·
          show Act.put _ (some 34) _ = _
          simp only [Act.put, List.setIfInBounds_toArray, List.set_cons_zero, List.set_cons_succ, i64_w, i32_w]
          rfl
         refine pure_ (i := 5) (N := some 35) (v := ?_) (a' := ?_) #[true, true, true, true, true, true, false, false, false, false, false, false, false, false, false, false, false, false, false, false, false, false, false, false, false, false, false, false, false, false, false, false, false, false] rfl rfl (any_of HT_.out (by kernel_rfl)) (fun _ _ _ h => h) (Or.inl ⟨by rfl, ?_⟩) ?_ ?_
         rotate_left
         ·
          intro w'
          go_simp
          with_reducible rfl
         rotate_left
         ·
          simp only [Act.put, List.setIfInBounds_toArray, List.set_cons_zero, List.set_cons_succ, i64_w, i32_w]
          rfl
         refine pure_ (i := 6) (N := some 36) (v := ?_) (a' := ?_) #[true, true, true, true, true, true, true, false, false, false, false, false, false, false, false, false, false, false, false, false, false, false, false, false, false, false, false, false, false, false, false, false, false, false] rfl rfl (any_of HT_.out (by kernel_rfl)) (fun _ _ _ h => h) (Or.inl ⟨by rfl, ?_⟩) ?_ ?_
         rotate_left
         ·
          intro w'
          go_simp
          with_reducible rfl
         rotate_left
         ·
          simp only [Act.put, List.setIfInBounds_toArray, List.set_cons_zero, List.set_cons_succ, i64_w, i32_w]
          rfl
         refine pure_ (i := 7) (N := some 37) (v := ?_) (a' := ?_) #[true, true, true, true, true, true, true, true, false, false, false, false, false, false, false, false, false, false, false, false, false, false, false, false, false, false, false, false, false, false, false, false, false, false] rfl rfl (any_of HT_.out (by kernel_rfl)) (fun _ _ _ h => h) (Or.inl ⟨by rfl, ?_⟩) ?_ ?_
         rotate_left
         ·
          intro w'
          go_simp
          with_reducible rfl
         rotate_left
         ·
          simp only [Act.put, List.setIfInBounds_toArray, List.set_cons_zero, List.set_cons_succ, i64_w, i32_w]
          rfl
         refine pure_ (i := 8) (N := some 38) (v := ?_) (a' := ?_) #[true, true, true, true, true, true, true, true, true, false, false, false, false, false, false, false, false, false, false, false, false, false, false, false, false, false, false, false, false, false, false, false, false, false] rfl rfl (any_of HT_.out (by kernel_rfl)) (fun _ _ _ h => h) (Or.inl ⟨by rfl, ?_⟩) ?_ ?_
         rotate_left
         ·
          intro w'
          go_simp
          with_reducible rfl
         rotate_left
         ·
          simp only [Act.put, List.setIfInBounds_toArray, List.set_cons_zero, List.set_cons_succ, i64_w, i32_w]
          rfl
         refine pure_ (i := 9) (N := some 39) (v := ?_) (a' := ?_) #[true, true, true, true, true, true, true, true, true, true, false, false, false, false, false, false, false, false, false, false, false, false, false, false, false, false, false, false, false, false, false, false, false, false] rfl rfl (any_of HT_.out (by kernel_rfl)) (fun _ _ _ h => h) (Or.inl ⟨by rfl, ?_⟩) ?_ ?_
         rotate_left
         ·
          intro w'
          go_simp
          with_reducible rfl
         rotate_left
         ·
          simp only [Act.put, List.setIfInBounds_toArray, List.set_cons_zero, List.set_cons_succ, i64_w, i32_w]
          rfl
         refine pure_ (i := 12) (N := some 42) (v := ?_) (a' := ?_) #[true, true, true, true, true, true, true, true, true, true, false, false, true, false, false, false, false, false, false, false, false, false, false, false, false, false, false, false, false, false, false, false, false, false] rfl rfl (any_of HT_.out (by kernel_rfl)) (fun _ _ _ h => h) (Or.inl ⟨by rfl, ?_⟩) ?_ ?_
         rotate_left
         ·
          intro w'
          go_simp
          with_reducible rfl
         rotate_left
         ·
          simp only [Act.put, List.setIfInBounds_toArray, List.set_cons_zero, List.set_cons_succ, i64_w, i32_w]
          rfl
         refine pure_ (i := 13) (N := some 43) (v := ?_) (a' := ?_) #[true, true, true, true, true, true, true, true, true, true, false, false, true, true, false, false, false, false, false, false, false, false, false, false, false, false, false, false, false, false, false, false, false, false] rfl rfl (any_of HT_.out (by kernel_rfl)) (fun _ _ _ h => h) (Or.inl ⟨by rfl, ?_⟩) ?_ ?_
         rotate_left
         ·
          intro w'
          go_simp
          with_reducible rfl
         rotate_left
         ·
          simp only [Act.put, List.setIfInBounds_toArray, List.set_cons_zero, List.set_cons_succ, i64_w, i32_w]
          rfl
         refine pure_ (i := 14) (N := some 44) (v := ?_) (a' := ?_) #[true, true, true, true, true, true, true, true, true, true, false, false, true, true, true, false, false, false, false, false, false, false, false, false, false, false, false, false, false, false, false, false, false, false] rfl rfl (any_of HT_.out (by kernel_rfl)) (fun _ _ _ h => h) (Or.inl ⟨by rfl, ?_⟩) ?_ ?_
         rotate_left
         ·
          intro w'
          go_simp
          with_reducible rfl
         rotate_left
         ·
          simp only [Act.put, List.setIfInBounds_toArray, List.set_cons_zero, List.set_cons_succ, i64_w, i32_w]
          rfl
         refine pure_ (i := 15) (N := some 45) (v := ?_) (a' := ?_) #[true, true, true, true, true, true, true, true, true, true, false, false, true, true, true, true, false, false, false, false, false, false, false, false, false, false, false, false, false, false, false, false, false, false] rfl rfl (any_of HT_.out (by kernel_rfl)) (fun _ _ _ h => h) (Or.inl ⟨by rfl, ?_⟩) ?_ ?_
         rotate_left
         ·
          intro w'
          go_simp
          with_reducible rfl
         rotate_left
         ·
          simp only [Act.put, List.setIfInBounds_toArray, List.set_cons_zero, List.set_cons_succ, i64_w, i32_w]
          rfl
         refine pure_ (i := 17) (N := some 47) (v := ?_) (a' := ?_) #[true, true, true, true, true, true, true, true, true, true, false, false, true, true, true, true, false, true, false, false, false, false, false, false, false, false, false, false, false, false, false, false, false, false] rfl rfl (any_of HT_.out (by kernel_rfl)) (fun _ _ _ h => h) (Or.inl ⟨by rfl, ?_⟩) ?_ ?_
         rotate_left
         ·
          intro w'
          go_simp
          with_reducible rfl
         rotate_left
         ·
          simp only [Act.put, List.setIfInBounds_toArray, List.set_cons_zero, List.set_cons_succ, i64_w, i32_w]
          rfl
         refine pure_ (i := 18) (N := some 48) (v := ?_) (a' := ?_) #[true, true, true, true, true, true, true, true, true, true, false, false, true, true, true, true, false, true, true, false, false, false, false, false, false, false, false, false, false, false, false, false, false, false] rfl rfl (any_of HT_.out (by kernel_rfl)) (fun _ _ _ h => h) (Or.inl ⟨by rfl, ?_⟩) ?_ ?_
         rotate_left
         ·
          intro w'
          go_simp
          with_reducible rfl
         rotate_left
         ·
          simp only [Act.put, List.setIfInBounds_toArray, List.set_cons_zero, List.set_cons_succ, i64_w, i32_w]
          rfl
         refine pure_ (i := 19) (N := some 49) (v := ?_) (a' := ?_) #[true, true, true, true, true, true, true, true, true, true, false, false, true, true, true, true, false, true, true, true, false, false, false, false, false, false, false, false, false, false, false, false, false, false] rfl rfl (any_of HT_.out (by kernel_rfl)) (fun _ _ _ h => h) (Or.inl ⟨by rfl, ?_⟩) ?_ ?_
         rotate_left
         ·
          intro w'
          go_simp
          with_reducible rfl
         rotate_left
         ·
          simp only [Act.put, List.setIfInBounds_toArray, List.set_cons_zero, List.set_cons_succ, i64_w, i32_w]
          rfl
         refine pure_ (i := 20) (N := some 50) (v := ?_) (a' := ?_) #[true, true, true, true, true, true, true, true, true, true, false, false, true, true, true, true, false, true, true, true, true, false, false, false, false, false, false, false, false, false, false, false, false, false] rfl rfl (any_of HT_.out (by kernel_rfl)) (fun _ _ _ h => h) (Or.inl ⟨by rfl, ?_⟩) ?_ ?_
         rotate_left
         ·
          intro w'
          go_simp
          with_reducible rfl
         rotate_left
         ·
          simp only [Act.put, List.setIfInBounds_toArray, List.set_cons_zero, List.set_cons_succ, i64_w, i32_w]
          rfl
         refine take_ (i := 10) (N := some 40) (v := ?_) (a' := ?_) #[true, true, true, true, true, true, true, true, true, true, true, false, true, true, true, true, false, true, true, true, true, false, false, false, false, false, false, false, false, false, false, false, false, false] rfl rfl (take_ofW HT_.out HW_.out (by kernel_rfl)) (fun _ _ _ h => h) (Or.inl ⟨by rfl, ?_⟩) hHeld ?_ ?_
         rotate_left
         ·
          rintro w' ⟨s0, s1, s2, s3, s4, s5, s6, s7, s8, s9, s10, s11, s12, s13, s14, s15⟩
          go_simp
          with_reducible rfl
         rotate_left
         ·
          simp only [Act.put, List.setIfInBounds_toArray, List.set_cons_zero, List.set_cons_succ, i64_w, i32_w]
          rfl
         refine take_ (i := 16) (N := some 46) (v := ?_) (a' := ?_) #[true, true, true, true, true, true, true, true, true, true, true, false, true, true, true, true, true, true, true, true, true, false, false, false, false, false, false, false, false, false, false, false, false, false] rfl rfl (take_ofW HT_.out HW_.out (by kernel_rfl)) (fun _ _ _ h => h) (Or.inl ⟨by rfl, ?_⟩) hHeld ?_ ?_
         rotate_left
         ·
          rintro w' ⟨s0, s1, s2, s3, s4, s5, s6, s7, s8, s9, s10, s11, s12, s13, s14, s15⟩
          go_simp
          with_reducible rfl
         rotate_left
         ·
          simp only [Act.put, List.setIfInBounds_toArray, List.set_cons_zero, List.set_cons_succ, i64_w, i32_w]
          rfl
         refine take_ (i := 21) (N := some 51) (v := ?_) (a' := ?_) #[true, true, true, true, true, true, true, true, true, true, true, false, true, true, true, true, true, true, true, true, true, true, false, false, false, false, false, false, false, false, false, false, false, false] rfl rfl (take_ofW HT_.out HW_.out (by kernel_rfl)) (fun _ _ _ h => h) (Or.inl ⟨by rfl, ?_⟩) hHeld ?_ ?_
         rotate_left
         ·
          rintro w' ⟨s0, s1, s2, s3, s4, s5, s6, s7, s8, s9, s10, s11, s12, s13, s14, s15⟩
          go_simp
          with_reducible rfl
         rotate_left
         ·
          simp only [Act.put, List.setIfInBounds_toArray, List.set_cons_zero, List.set_cons_succ, i64_w, i32_w]
          rfl
         refine pure_ (i := 22) (N := some 52) (v := ?_) (a' := ?_) #[true, true, true, true, true, true, true, true, true, true, true, false, true, true, true, true, true, true, true, true, true, true, true, false, false, false, false, false, false, false, false, false, false, false] rfl rfl (any_of HT_.out (by kernel_rfl)) (fun _ _ _ h => h) (Or.inl ⟨by rfl, ?_⟩) ?_ ?_
         rotate_left
         ·
          intro w'
          go_simp
          with_reducible rfl
         rotate_left
         ·
          simp only [Act.put, List.setIfInBounds_toArray, List.set_cons_zero, List.set_cons_succ, i64_w, i32_w]
          rfl
         refine pure_ (i := 23) (N := some 53) (v := ?_) (a' := ?_) #[true, true, true, true, true, true, true, true, true, true, true, false, true, true, true, true, true, true, true, true, true, true, true, true, false, false, false, false, false, false, false, false, false, false] rfl rfl (any_of HT_.out (by kernel_rfl)) (fun _ _ _ h => h) (Or.inl ⟨by rfl, ?_⟩) ?_ ?_
         rotate_left
         ·
          intro w'
          go_simp
          with_reducible rfl
         rotate_left
         ·
          simp only [Act.put, List.setIfInBounds_toArray, List.set_cons_zero, List.set_cons_succ, i64_w, i32_w]
          rfl
         refine one_ (i := 11) (N := some 41) #[true, true, true, true, true, true, true, true, true, true, true, true, true, true, true, true, true, true, true, true, true, true, true, true, false, false, false, false, false, false, false, false, false, false] rfl rfl (one_of HT_.out (by kernel_rfl)) (by decide) (fun K hK => ?_)
         refine goes_ Try.func13 (by kernel_rfl) rfl #[.agg #[.int .i64 ((rd_T23 y132 x3_1).f0), .int .i64 ((rd_T23 y132 x3_1).f1), .int .i64 ((rd_T23 y132 x3_1).f2), .int .i64 ((rd_T23 y132 x3_1).f3)]] (by rfl) rfl rfl (by (try simp only [List.map_toArray, List.map_cons, List.map_nil]); first | done | rfl | (simp only [List.length_drop, List.length_take]; rfl)) ?_
         with_reducible refine (geo_Cells.calls ((rd_T23 y132 x3_1).f0) ((rd_T23 y132 x3_1).f1) ((rd_T23 y132 x3_1).f2) ((rd_T23 y132 x3_1).f3) t141 _ A14.out).mono ?_
         rintro e w23 ⟨rfl, hb⟩
         have HS0_ := (hb.cell (World.block_lt_of_cell? _ _ (hHeld.1))).trans (hHeld.1)
         have HS1_ := (hb.cell (World.block_lt_of_cell? _ _ (hHeld.2.1))).trans (hHeld.2.1)
         have HS2_ := (hb.cell (World.block_lt_of_cell? _ _ (hHeld.2.2.1))).trans (hHeld.2.2.1)
         have HS3_ := (hb.cell (World.block_lt_of_cell? _ _ (hHeld.2.2.2.1))).trans (hHeld.2.2.2.1)
         have HS4_ := (hb.cell (World.block_lt_of_cell? _ _ (hHeld.2.2.2.2.1))).trans (hHeld.2.2.2.2.1)
         have HS5_ := (hb.cell (World.block_lt_of_cell? _ _ (hHeld.2.2.2.2.2.1))).trans (hHeld.2.2.2.2.2.1)
         have HS6_ := (hb.cell (World.block_lt_of_cell? _ _ (hHeld.2.2.2.2.2.2.1))).trans (hHeld.2.2.2.2.2.2.1)
         have HS7_ := (hb.cell (World.block_lt_of_cell? _ _ (hHeld.2.2.2.2.2.2.2.1))).trans (hHeld.2.2.2.2.2.2.2.1)
         have HS8_ := (hb.cell (World.block_lt_of_cell? _ _ (hHeld.2.2.2.2.2.2.2.2.1))).trans (hHeld.2.2.2.2.2.2.2.2.1)
         have HS9_ := (hb.cell (World.block_lt_of_cell? _ _ (hHeld.2.2.2.2.2.2.2.2.2.1))).trans (hHeld.2.2.2.2.2.2.2.2.2.1)
         have HS10_ := (hb.cell (World.block_lt_of_cell? _ _ (hHeld.2.2.2.2.2.2.2.2.2.2.1))).trans (hHeld.2.2.2.2.2.2.2.2.2.2.1)
         have HS11_ := (hb.cell (World.block_lt_of_cell? _ _ (hHeld.2.2.2.2.2.2.2.2.2.2.2.1))).trans (hHeld.2.2.2.2.2.2.2.2.2.2.2.1)
         have HS12_ := (hb.cell (World.block_lt_of_cell? _ _ (hHeld.2.2.2.2.2.2.2.2.2.2.2.2.1))).trans (hHeld.2.2.2.2.2.2.2.2.2.2.2.2.1)
         have HS13_ := (hb.cell (World.block_lt_of_cell? _ _ (hHeld.2.2.2.2.2.2.2.2.2.2.2.2.2.1))).trans (hHeld.2.2.2.2.2.2.2.2.2.2.2.2.2.1)
         have HS14_ := (hb.cell (World.block_lt_of_cell? _ _ (hHeld.2.2.2.2.2.2.2.2.2.2.2.2.2.2.1))).trans (hHeld.2.2.2.2.2.2.2.2.2.2.2.2.2.2.1)
         have HS15_ := (hb.cell (World.block_lt_of_cell? _ _ (hHeld.2.2.2.2.2.2.2.2.2.2.2.2.2.2.2))).trans (hHeld.2.2.2.2.2.2.2.2.2.2.2.2.2.2.2)
         refine ⟨_, rfl, ?_⟩
         have n0_ := Aside0.mk (Kd.R_below (by (with_reducible repeat (first | apply Kd.R_alloc | apply Kd.R_drewN | apply Kd.R_drew)); exact HO_1.out) hb)
         have n1_ := Aside0.mk (Kd.R_below (by (with_reducible repeat (first | apply Kd.R_alloc | apply Kd.R_drewN | apply Kd.R_drew)); exact HO_2.out) hb)
         have n2_ := Aside0.mk (below_step (by repeat (first | (with_reducible first | exact HB.out | apply below_alloc | apply pw_below_drewN | apply below_drew1) | exact HB.out)) hb)
         clear HO_1
         clear HO_2
         clear HB
         have HO_1 := n0_
         have HO_2 := n1_
         have HB := n2_
         clear n0_ n1_ n2_
         (try clear hb)
         (try clear hb2)
         (try clear hk)
         (try clear hi)
         refine hK.out _ _ ⟨HS0_, HS1_, HS2_, HS3_, HS4_, HS5_, HS6_, HS7_, HS8_, HS9_, HS10_, HS11_, HS12_, HS13_, HS14_, HS15_⟩ (fun hHeld => ?_)
         clear hK K
         refine norm_ (a' := ?_) ?_ ?_
         rotate_left
         ·
          show Act.put _ (some 41) _ = _
          simp only [Act.put, List.setIfInBounds_toArray, List.set_cons_zero, List.set_cons_succ, i64_w, i32_w]
          rfl
         refine pure_ (i := 24) (N := some 54) (v := ?_) (a' := ?_) #[true, true, true, true, true, true, true, true, true, true, true, true, true, true, true, true, true, true, true, true, true, true, true, true, true, false, false, false, false, false, false, false, false, false] rfl rfl (any_of HT_.out (by kernel_rfl)) (fun _ _ _ h => h) (Or.inl ⟨by rfl, ?_⟩) ?_ ?_
         rotate_left
         ·
          intro w'
          go_simp
          with_reducible rfl
         rotate_left
         ·
          simp only [Act.put, List.setIfInBounds_toArray, List.set_cons_zero, List.set_cons_succ, i64_w, i32_w]
          rfl
         refine pure_ (i := 25) (N := some 55) (v := ?_) (a' := ?_) #[true, true, true, true, true, true, true, true, true, true, true, true, true, true, true, true, true, true, true, true, true, true, true, true, true, true, false, false, false, false, false, false, false, false] rfl rfl (any_of HT_.out (by kernel_rfl)) (fun _ _ _ h => h) (Or.inl ⟨by rfl, ?_⟩) ?_ ?_
         rotate_left
         ·
          intro w'
          go_simp
          with_reducible rfl
         rotate_left
         ·
          simp only [Act.put, List.setIfInBounds_toArray, List.set_cons_zero, List.set_cons_succ, i64_w, i32_w]
          rfl
         refine pure_ (i := 26) (N := some 56) (v := ?_) (a' := ?_) #[true, true, true, true, true, true, true, true, true, true, true, true, true, true, true, true, true, true, true, true, true, true, true, true, true, true, true, false, false, false, false, false, false, false] rfl rfl (any_of HT_.out (by kernel_rfl)) (fun _ _ _ h => h) (Or.inl ⟨by rfl, ?_⟩) ?_ ?_
         rotate_left
         ·
          intro w'
          go_simp
          with_reducible rfl
         rotate_left
         ·
          simp only [Act.put, List.setIfInBounds_toArray, List.set_cons_zero, List.set_cons_succ, i64_w, i32_w]
          rfl
         refine pure_ (i := 27) (N := some 57) (v := undef) (a' := ?_) #[true, true, true, true, true, true, true, true, true, true, true, true, true, true, true, true, true, true, true, true, true, true, true, true, true, true, true, true, false, false, false, false, false, false] rfl rfl (any_of HT_.out (by kernel_rfl)) (fun _ _ _ h => h) (Or.inr ⟨by rfl, rfl⟩) ?_ ?_
         rotate_left
         ·
          simp only [Act.put, List.setIfInBounds_toArray, List.set_cons_zero, List.set_cons_succ, i64_w, i32_w]
          rfl
         refine pure_ (i := 28) (N := some 58) (v := undef) (a' := ?_) #[true, true, true, true, true, true, true, true, true, true, true, true, true, true, true, true, true, true, true, true, true, true, true, true, true, true, true, true, true, false, false, false, false, false] rfl rfl (any_of HT_.out (by kernel_rfl)) (fun _ _ _ h => h) (Or.inr ⟨by rfl, rfl⟩) ?_ ?_
         rotate_left
         ·
          simp only [Act.put, List.setIfInBounds_toArray, List.set_cons_zero, List.set_cons_succ, i64_w, i32_w]
          rfl
         refine pure_ (i := 29) (N := some 59) (v := undef) (a' := ?_) #[true, true, true, true, true, true, true, true, true, true, true, true, true, true, true, true, true, true, true, true, true, true, true, true, true, true, true, true, true, true, false, false, false, false] rfl rfl (any_of HT_.out (by kernel_rfl)) (fun _ _ _ h => h) (Or.inr ⟨by rfl, rfl⟩) ?_ ?_
         rotate_left
         ·
          simp only [Act.put, List.setIfInBounds_toArray, List.set_cons_zero, List.set_cons_succ, i64_w, i32_w]
          rfl
         refine pure_ (i := 30) (N := some 60) (v := undef) (a' := ?_) #[true, true, true, true, true, true, true, true, true, true, true, true, true, true, true, true, true, true, true, true, true, true, true, true, true, true, true, true, true, true, true, false, false, false] rfl rfl (any_of HT_.out (by kernel_rfl)) (fun _ _ _ h => h) (Or.inr ⟨by rfl, rfl⟩) ?_ ?_
         rotate_left
         ·
          simp only [Act.put, List.setIfInBounds_toArray, List.set_cons_zero, List.set_cons_succ, i64_w, i32_w]
          rfl
         refine pure_ (i := 31) (N := some 61) (v := undef) (a' := ?_) #[true, true, true, true, true, true, true, true, true, true, true, true, true, true, true, true, true, true, true, true, true, true, true, true, true, true, true, true, true, true, true, true, false, false] rfl rfl (any_of HT_.out (by kernel_rfl)) (fun _ _ _ h => h) (Or.inr ⟨by rfl, rfl⟩) ?_ ?_
         rotate_left
         ·
          simp only [Act.put, List.setIfInBounds_toArray, List.set_cons_zero, List.set_cons_succ, i64_w, i32_w]
          rfl
         refine pure_ (i := 32) (N := some 62) (v := undef) (a' := ?_) #[true, true, true, true, true, true, true, true, true, true, true, true, true, true, true, true, true, true, true, true, true, true, true, true, true, true, true, true, true, true, true, true, true, false] rfl rfl (any_of HT_.out (by kernel_rfl)) (fun _ _ _ h => h) (Or.inr ⟨by rfl, rfl⟩) ?_ ?_
         rotate_left
         ·
          simp only [Act.put, List.setIfInBounds_toArray, List.set_cons_zero, List.set_cons_succ, i64_w, i32_w]
          rfl
         refine pure_ (i := 33) (N := some 63) (v := ?_) (a' := ?_) #[true, true, true, true, true, true, true, true, true, true, true, true, true, true, true, true, true, true, true, true, true, true, true, true, true, true, true, true, true, true, true, true, true, true] rfl rfl (any_of HT_.out (by kernel_rfl)) (fun _ _ _ h => h) (Or.inl ⟨by rfl, ?_⟩) ?_ ?_
         rotate_left
         ·
          intro w'
          go_simp
          with_reducible rfl
         rotate_left
         ·
          simp only [Act.put, List.setIfInBounds_toArray, List.set_cons_zero, List.set_cons_succ, i64_w, i32_w]
          rfl
         refine done_ (done_of HT_.out (by kernel_rfl)) ?_
         try go_wp2
         go_meet
         case rel => exact ⟨_, (true), (by first | rfl | (simp; done) | (simp [*]; done)), H', ⟨by have := HK1.out; first | omega | exact Nat.le_refl _⟩, ⟨by (with_reducible repeat (first | apply Kd.R_alloc | apply Kd.R_drewN | apply Kd.R_drew)); exact HO_1.out⟩, ⟨by (with_reducible repeat (first | apply Kd.R_alloc | apply Kd.R_drewN | apply Kd.R_drew)); exact HO_2.out⟩, ⟨by repeat (first | (with_reducible first | exact HB.out | apply below_alloc | apply pw_below_drewN | apply below_drew1) | exact HB.out)⟩⟩
       ·
        replace c13 := Bool.eq_false_iff.mpr c13
        subst c13
        have H1 : (blackboardlaw7_GeoKnown.j1 k1 y132 y135 x3_1 true) = some r := by rw [if_neg (show ¬ (false = true) by decide)] at H; exact H
        clear H
        have H := H1
        clear H1
        have H' := Aside0.mk H
        clear H
        try go_wp2
        have n0_ := Aside0.mk (Kd.R_drew HO_1.out)
        have n1_ := Aside0.mk (Kd.R_drew HO_2.out)
        have n2_ := Aside0.mk (below_drew1 HB.out)
        clear HO_1
        clear HO_2
        clear HB
        have HO_1 := n0_
        have HO_2 := n1_
        have HB := n2_
        clear n0_ n1_ n2_
        have p138 : 0 ≤ (x3_1 : Int) := of_decide_eq_true (by first | (with_reducible assumption) | assumption)
        have q138 : x3_1 < (y132.length : Int) := of_decide_eq_true (by first | (with_reducible assumption) | assumption)
        obtain ⟨ad138, e138, hx138_0, hx138_1, hx138_2, hx138_3⟩ := at_T23 (Kd.R_reads' HO_1.out).2.2 x3_1 p138 q138
        cases e138
        replace p138 := eq_true p138
        replace q138 := eq_true q138
        refine start_ (n := 34) (S := fun w' => w'.cell? (ad138.add ((x3_1).toNat * 4)) = some (.int .i64 ((rd_T23 y132 x3_1).f0)) ∧ w'.cell? ⟨(ad138.add ((x3_1).toNat * 4)).block, (ad138.add ((x3_1).toNat * 4)).off + 1, none⟩ = some (.int .i64 ((rd_T23 y132 x3_1).f1)) ∧ w'.cell? ⟨(ad138.add ((x3_1).toNat * 4)).block, (ad138.add ((x3_1).toNat * 4)).off + 2, none⟩ = some (.int .i64 ((rd_T23 y132 x3_1).f2)) ∧ w'.cell? ⟨(ad138.add ((x3_1).toNat * 4)).block, (ad138.add ((x3_1).toNat * 4)).off + 3, none⟩ = some (.int .i64 ((rd_T23 y132 x3_1).f3))) (ds := []) #[false, false, false, false, false, false, false, false, false, false, false, false, false, false, false, false, false, false, false, false, false, false, false, false, false, false, false, false, false, false, false, false, false, false] (by kernel_rfl) rfl rfl ⟨hx138_0, hx138_1, hx138_2, hx138_3⟩ (fun hHeld => ?_); refine with_tabW blackboardlaw7_GeoKnown.tab8 blackboardlaw7_GeoKnown.bits8 (fun HT_ HW_ => ?_)
        generalize wr.drew = w24 at HO_1 HO_2 HB hx138_0 hx138_1 hx138_2 hx138_3 hHeld ⊢
        refine pure_ (i := 0) (N := some 30) (v := ?_) (a' := ?_) #[true, false, false, false, false, false, false, false, false, false, false, false, false, false, false, false, false, false, false, false, false, false, false, false, false, false, false, false, false, false, false, false, false, false] rfl rfl (any_of HT_.out (by kernel_rfl)) (fun _ _ _ h => h) (Or.inl ⟨by rfl, ?_⟩) ?_ ?_
        rotate_left
        ·
         intro w'
         go_simp
         with_reducible rfl
        rotate_left
        ·
         simp only [Act.put, List.setIfInBounds_toArray, List.set_cons_zero, List.set_cons_succ, i64_w, i32_w]
         rfl
        refine pure_ (i := 1) (N := some 31) (v := ?_) (a' := ?_) #[true, true, false, false, false, false, false, false, false, false, false, false, false, false, false, false, false, false, false, false, false, false, false, false, false, false, false, false, false, false, false, false, false, false] rfl rfl (any_of HT_.out (by kernel_rfl)) (fun _ _ _ h => h) (Or.inl ⟨by rfl, ?_⟩) ?_ ?_
        rotate_left
        ·
         intro w'
         go_simp
         with_reducible rfl
        rotate_left
        ·
         simp only [Act.put, List.setIfInBounds_toArray, List.set_cons_zero, List.set_cons_succ, i64_w, i32_w]
         rfl
        refine pure_ (i := 2) (N := some 32) (v := ?_) (a' := ?_) #[true, true, true, false, false, false, false, false, false, false, false, false, false, false, false, false, false, false, false, false, false, false, false, false, false, false, false, false, false, false, false, false, false, false] rfl rfl (any_of HT_.out (by kernel_rfl)) (fun _ _ _ h => h) (Or.inl ⟨by rfl, ?_⟩) ?_ ?_
        rotate_left
        ·
         intro w'
         go_simp
         with_reducible rfl
        rotate_left
        ·
         simp only [Act.put, List.setIfInBounds_toArray, List.set_cons_zero, List.set_cons_succ, i64_w, i32_w]
         rfl
        refine take_ (i := 3) (N := some 33) (v := ?_) (a' := ?_) #[true, true, true, true, false, false, false, false, false, false, false, false, false, false, false, false, false, false, false, false, false, false, false, false, false, false, false, false, false, false, false, false, false, false] rfl rfl (take_ofW HT_.out HW_.out (by kernel_rfl)) (fun _ _ _ h => h) (Or.inl ⟨by rfl, ?_⟩) hHeld ?_ ?_
        rotate_left
        ·
         rintro w' ⟨s0, s1, s2, s3⟩
         go_simp
         with_reducible rfl
        rotate_left
        ·
         simp only [Act.put, List.setIfInBounds_toArray, List.set_cons_zero, List.set_cons_succ, i64_w, i32_w]
         rfl
        refine one_ (i := 4) (N := some 34) #[true, true, true, true, true, false, false, false, false, false, false, false, false, false, false, false, false, false, false, false, false, false, false, false, false, false, false, false, false, false, false, false, false, false] rfl rfl (one_of HT_.out (by kernel_rfl)) (by decide) (fun K hK => ?_)
        refine goes_ Try.func12 (by kernel_rfl) rfl #[.agg #[.int .i64 ((rd_T23 y132 x3_1).f0), .int .i64 ((rd_T23 y132 x3_1).f1), .int .i64 ((rd_T23 y132 x3_1).f2), .int .i64 ((rd_T23 y132 x3_1).f3)]] (by rfl) rfl rfl (by (try simp only [List.map_toArray, List.map_cons, List.map_nil]); first | done | rfl | (simp only [List.length_drop, List.length_take]; rfl)) ?_
        with_reducible refine (geo_May.calls ((rd_T23 y132 x3_1).f0) ((rd_T23 y132 x3_1).f1) ((rd_T23 y132 x3_1).f2) ((rd_T23 y132 x3_1).f3) false _ A12.out).mono ?_
        rintro e w25 ⟨rfl, hb⟩
        have HS0_ := (hb.cell (World.block_lt_of_cell? _ _ (hHeld.1))).trans (hHeld.1)
        have HS1_ := (hb.cell (World.block_lt_of_cell? _ _ (hHeld.2.1))).trans (hHeld.2.1)
        have HS2_ := (hb.cell (World.block_lt_of_cell? _ _ (hHeld.2.2.1))).trans (hHeld.2.2.1)
        have HS3_ := (hb.cell (World.block_lt_of_cell? _ _ (hHeld.2.2.2))).trans (hHeld.2.2.2)
        refine ⟨_, rfl, ?_⟩
        have n0_ := Aside0.mk (Kd.R_below (by (with_reducible repeat (first | apply Kd.R_alloc | apply Kd.R_drewN | apply Kd.R_drew)); exact HO_1.out) hb)
        have n1_ := Aside0.mk (Kd.R_below (by (with_reducible repeat (first | apply Kd.R_alloc | apply Kd.R_drewN | apply Kd.R_drew)); exact HO_2.out) hb)
        have n2_ := Aside0.mk (below_step (by repeat (first | (with_reducible first | exact HB.out | apply below_alloc | apply pw_below_drewN | apply below_drew1) | exact HB.out)) hb)
        clear HO_1
        clear HO_2
        clear HB
        have HO_1 := n0_
        have HO_2 := n1_
        have HB := n2_
        clear n0_ n1_ n2_
        (try clear hb)
        (try clear hb2)
        (try clear hk)
        (try clear hi)
        refine hK.out _ _ ⟨HS0_, HS1_, HS2_, HS3_⟩ (fun hHeld => ?_)
        clear hK K
        refine norm_ (a' := ?_) ?_ ?_
        rotate_left
        ·
         show Act.put _ (some 34) _ = _
         simp only [Act.put, List.setIfInBounds_toArray, List.set_cons_zero, List.set_cons_succ, i64_w, i32_w]
         rfl
        refine pure_ (i := 5) (N := some 35) (v := ?_) (a' := ?_) #[true, true, true, true, true, true, false, false, false, false, false, false, false, false, false, false, false, false, false, false, false, false, false, false, false, false, false, false, false, false, false, false, false, false] rfl rfl (any_of HT_.out (by kernel_rfl)) (fun _ _ _ h => h) (Or.inl ⟨by rfl, ?_⟩) ?_ ?_
        rotate_left
        ·
         intro w'
         go_simp
         with_reducible rfl
        rotate_left
        ·
         simp only [Act.put, List.setIfInBounds_toArray, List.set_cons_zero, List.set_cons_succ, i64_w, i32_w]
         rfl
        refine pure_ (i := 6) (N := some 36) (v := ?_) (a' := ?_) #[true, true, true, true, true, true, true, false, false, false, false, false, false, false, false, false, false, false, false, false, false, false, false, false, false, false, false, false, false, false, false, false, false, false] rfl rfl (any_of HT_.out (by kernel_rfl)) (fun _ _ _ h => h) (Or.inl ⟨by rfl, ?_⟩) ?_ ?_
        rotate_left
        ·
         intro w'
         go_simp
         with_reducible rfl
        rotate_left
        ·
         simp only [Act.put, List.setIfInBounds_toArray, List.set_cons_zero, List.set_cons_succ, i64_w, i32_w]
         rfl
        refine pure_ (i := 7) (N := some 37) (v := undef) (a' := ?_) #[true, true, true, true, true, true, true, true, false, false, false, false, false, false, false, false, false, false, false, false, false, false, false, false, false, false, false, false, false, false, false, false, false, false] rfl rfl (any_of HT_.out (by kernel_rfl)) (fun _ _ _ h => h) (Or.inr ⟨by rfl, rfl⟩) ?_ ?_
        rotate_left
        ·
         simp only [Act.put, List.setIfInBounds_toArray, List.set_cons_zero, List.set_cons_succ, i64_w, i32_w]
         rfl
        refine pure_ (i := 8) (N := some 38) (v := undef) (a' := ?_) #[true, true, true, true, true, true, true, true, true, false, false, false, false, false, false, false, false, false, false, false, false, false, false, false, false, false, false, false, false, false, false, false, false, false] rfl rfl (any_of HT_.out (by kernel_rfl)) (fun _ _ _ h => h) (Or.inr ⟨by rfl, rfl⟩) ?_ ?_
        rotate_left
        ·
         simp only [Act.put, List.setIfInBounds_toArray, List.set_cons_zero, List.set_cons_succ, i64_w, i32_w]
         rfl
        refine pure_ (i := 9) (N := some 39) (v := undef) (a' := ?_) #[true, true, true, true, true, true, true, true, true, true, false, false, false, false, false, false, false, false, false, false, false, false, false, false, false, false, false, false, false, false, false, false, false, false] rfl rfl (any_of HT_.out (by kernel_rfl)) (fun _ _ _ h => h) (Or.inr ⟨by rfl, rfl⟩) ?_ ?_
        rotate_left
        ·
         simp only [Act.put, List.setIfInBounds_toArray, List.set_cons_zero, List.set_cons_succ, i64_w, i32_w]
         rfl
        refine pure_ (i := 10) (N := some 40) (v := undef) (a' := ?_) #[true, true, true, true, true, true, true, true, true, true, true, false, false, false, false, false, false, false, false, false, false, false, false, false, false, false, false, false, false, false, false, false, false, false] rfl rfl (any_of HT_.out (by kernel_rfl)) (fun _ _ _ h => h) (Or.inr ⟨by rfl, rfl⟩) ?_ ?_
        rotate_left
        ·
         simp only [Act.put, List.setIfInBounds_toArray, List.set_cons_zero, List.set_cons_succ, i64_w, i32_w]
         rfl
        refine pure_ (i := 11) (N := some 41) (v := undef) (a' := ?_) #[true, true, true, true, true, true, true, true, true, true, true, true, false, false, false, false, false, false, false, false, false, false, false, false, false, false, false, false, false, false, false, false, false, false] rfl rfl (any_of HT_.out (by kernel_rfl)) (fun _ _ _ h => h) (Or.inr ⟨by rfl, rfl⟩) ?_ ?_
        rotate_left
        ·
         simp only [Act.put, List.setIfInBounds_toArray, List.set_cons_zero, List.set_cons_succ, i64_w, i32_w]
         rfl
        refine pure_ (i := 12) (N := some 42) (v := undef) (a' := ?_) #[true, true, true, true, true, true, true, true, true, true, true, true, true, false, false, false, false, false, false, false, false, false, false, false, false, false, false, false, false, false, false, false, false, false] rfl rfl (any_of HT_.out (by kernel_rfl)) (fun _ _ _ h => h) (Or.inr ⟨by rfl, rfl⟩) ?_ ?_
        rotate_left
        ·
         simp only [Act.put, List.setIfInBounds_toArray, List.set_cons_zero, List.set_cons_succ, i64_w, i32_w]
         rfl
        refine pure_ (i := 13) (N := some 43) (v := undef) (a' := ?_) #[true, true, true, true, true, true, true, true, true, true, true, true, true, true, false, false, false, false, false, false, false, false, false, false, false, false, false, false, false, false, false, false, false, false] rfl rfl (any_of HT_.out (by kernel_rfl)) (fun _ _ _ h => h) (Or.inr ⟨by rfl, rfl⟩) ?_ ?_
        rotate_left
        ·
         simp only [Act.put, List.setIfInBounds_toArray, List.set_cons_zero, List.set_cons_succ, i64_w, i32_w]
         rfl
        refine pure_ (i := 14) (N := some 44) (v := undef) (a' := ?_) #[true, true, true, true, true, true, true, true, true, true, true, true, true, true, true, false, false, false, false, false, false, false, false, false, false, false, false, false, false, false, false, false, false, false] rfl rfl (any_of HT_.out (by kernel_rfl)) (fun _ _ _ h => h) (Or.inr ⟨by rfl, rfl⟩) ?_ ?_
        rotate_left
        ·
         simp only [Act.put, List.setIfInBounds_toArray, List.set_cons_zero, List.set_cons_succ, i64_w, i32_w]
         rfl
        refine pure_ (i := 15) (N := some 45) (v := undef) (a' := ?_) #[true, true, true, true, true, true, true, true, true, true, true, true, true, true, true, true, false, false, false, false, false, false, false, false, false, false, false, false, false, false, false, false, false, false] rfl rfl (any_of HT_.out (by kernel_rfl)) (fun _ _ _ h => h) (Or.inr ⟨by rfl, rfl⟩) ?_ ?_
        rotate_left
        ·
         simp only [Act.put, List.setIfInBounds_toArray, List.set_cons_zero, List.set_cons_succ, i64_w, i32_w]
         rfl
        refine pure_ (i := 16) (N := some 46) (v := undef) (a' := ?_) #[true, true, true, true, true, true, true, true, true, true, true, true, true, true, true, true, true, false, false, false, false, false, false, false, false, false, false, false, false, false, false, false, false, false] rfl rfl (any_of HT_.out (by kernel_rfl)) (fun _ _ _ h => h) (Or.inr ⟨by rfl, rfl⟩) ?_ ?_
        rotate_left
        ·
         simp only [Act.put, List.setIfInBounds_toArray, List.set_cons_zero, List.set_cons_succ, i64_w, i32_w]
         rfl
        refine pure_ (i := 17) (N := some 47) (v := undef) (a' := ?_) #[true, true, true, true, true, true, true, true, true, true, true, true, true, true, true, true, true, true, false, false, false, false, false, false, false, false, false, false, false, false, false, false, false, false] rfl rfl (any_of HT_.out (by kernel_rfl)) (fun _ _ _ h => h) (Or.inr ⟨by rfl, rfl⟩) ?_ ?_
        rotate_left
        ·
         simp only [Act.put, List.setIfInBounds_toArray, List.set_cons_zero, List.set_cons_succ, i64_w, i32_w]
         rfl
        refine pure_ (i := 18) (N := some 48) (v := undef) (a' := ?_) #[true, true, true, true, true, true, true, true, true, true, true, true, true, true, true, true, true, true, true, false, false, false, false, false, false, false, false, false, false, false, false, false, false, false] rfl rfl (any_of HT_.out (by kernel_rfl)) (fun _ _ _ h => h) (Or.inr ⟨by rfl, rfl⟩) ?_ ?_
        rotate_left
        ·
         simp only [Act.put, List.setIfInBounds_toArray, List.set_cons_zero, List.set_cons_succ, i64_w, i32_w]
         rfl
        refine pure_ (i := 19) (N := some 49) (v := undef) (a' := ?_) #[true, true, true, true, true, true, true, true, true, true, true, true, true, true, true, true, true, true, true, true, false, false, false, false, false, false, false, false, false, false, false, false, false, false] rfl rfl (any_of HT_.out (by kernel_rfl)) (fun _ _ _ h => h) (Or.inr ⟨by rfl, rfl⟩) ?_ ?_
        rotate_left
        ·
         simp only [Act.put, List.setIfInBounds_toArray, List.set_cons_zero, List.set_cons_succ, i64_w, i32_w]
         rfl
        refine pure_ (i := 20) (N := some 50) (v := undef) (a' := ?_) #[true, true, true, true, true, true, true, true, true, true, true, true, true, true, true, true, true, true, true, true, true, false, false, false, false, false, false, false, false, false, false, false, false, false] rfl rfl (any_of HT_.out (by kernel_rfl)) (fun _ _ _ h => h) (Or.inr ⟨by rfl, rfl⟩) ?_ ?_
        rotate_left
        ·
         simp only [Act.put, List.setIfInBounds_toArray, List.set_cons_zero, List.set_cons_succ, i64_w, i32_w]
         rfl
        refine pure_ (i := 21) (N := some 51) (v := undef) (a' := ?_) #[true, true, true, true, true, true, true, true, true, true, true, true, true, true, true, true, true, true, true, true, true, true, false, false, false, false, false, false, false, false, false, false, false, false] rfl rfl (any_of HT_.out (by kernel_rfl)) (fun _ _ _ h => h) (Or.inr ⟨by rfl, rfl⟩) ?_ ?_
        rotate_left
        ·
         simp only [Act.put, List.setIfInBounds_toArray, List.set_cons_zero, List.set_cons_succ, i64_w, i32_w]
         rfl
        refine pure_ (i := 22) (N := some 52) (v := undef) (a' := ?_) #[true, true, true, true, true, true, true, true, true, true, true, true, true, true, true, true, true, true, true, true, true, true, true, false, false, false, false, false, false, false, false, false, false, false] rfl rfl (any_of HT_.out (by kernel_rfl)) (fun _ _ _ h => h) (Or.inr ⟨by rfl, rfl⟩) ?_ ?_
        rotate_left
        ·
         simp only [Act.put, List.setIfInBounds_toArray, List.set_cons_zero, List.set_cons_succ, i64_w, i32_w]
         rfl
        refine pure_ (i := 23) (N := some 53) (v := undef) (a' := ?_) #[true, true, true, true, true, true, true, true, true, true, true, true, true, true, true, true, true, true, true, true, true, true, true, true, false, false, false, false, false, false, false, false, false, false] rfl rfl (any_of HT_.out (by kernel_rfl)) (fun _ _ _ h => h) (Or.inr ⟨by rfl, rfl⟩) ?_ ?_
        rotate_left
        ·
         simp only [Act.put, List.setIfInBounds_toArray, List.set_cons_zero, List.set_cons_succ, i64_w, i32_w]
         rfl
        refine pure_ (i := 24) (N := some 54) (v := undef) (a' := ?_) #[true, true, true, true, true, true, true, true, true, true, true, true, true, true, true, true, true, true, true, true, true, true, true, true, true, false, false, false, false, false, false, false, false, false] rfl rfl (any_of HT_.out (by kernel_rfl)) (fun _ _ _ h => h) (Or.inr ⟨by rfl, rfl⟩) ?_ ?_
        rotate_left
        ·
         simp only [Act.put, List.setIfInBounds_toArray, List.set_cons_zero, List.set_cons_succ, i64_w, i32_w]
         rfl
        refine pure_ (i := 25) (N := some 55) (v := ?_) (a' := ?_) #[true, true, true, true, true, true, true, true, true, true, true, true, true, true, true, true, true, true, true, true, true, true, true, true, true, true, false, false, false, false, false, false, false, false] rfl rfl (any_of HT_.out (by kernel_rfl)) (fun _ _ _ h => h) (Or.inl ⟨by rfl, ?_⟩) ?_ ?_
        rotate_left
        ·
         intro w'
         go_simp
         with_reducible rfl
        rotate_left
        ·
         simp only [Act.put, List.setIfInBounds_toArray, List.set_cons_zero, List.set_cons_succ, i64_w, i32_w]
         rfl
        refine pure_ (i := 26) (N := some 56) (v := ?_) (a' := ?_) #[true, true, true, true, true, true, true, true, true, true, true, true, true, true, true, true, true, true, true, true, true, true, true, true, true, true, true, false, false, false, false, false, false, false] rfl rfl (any_of HT_.out (by kernel_rfl)) (fun _ _ _ h => h) (Or.inl ⟨by rfl, ?_⟩) ?_ ?_
        rotate_left
        ·
         intro w'
         go_simp
         with_reducible rfl
        rotate_left
        ·
         simp only [Act.put, List.setIfInBounds_toArray, List.set_cons_zero, List.set_cons_succ, i64_w, i32_w]
         rfl
        refine pure_ (i := 27) (N := some 57) (v := undef) (a' := ?_) #[true, true, true, true, true, true, true, true, true, true, true, true, true, true, true, true, true, true, true, true, true, true, true, true, true, true, true, true, false, false, false, false, false, false] rfl rfl (any_of HT_.out (by kernel_rfl)) (fun _ _ _ h => h) (Or.inr ⟨by rfl, rfl⟩) ?_ ?_
        rotate_left
        ·
         simp only [Act.put, List.setIfInBounds_toArray, List.set_cons_zero, List.set_cons_succ, i64_w, i32_w]
         rfl
        refine pure_ (i := 28) (N := some 58) (v := undef) (a' := ?_) #[true, true, true, true, true, true, true, true, true, true, true, true, true, true, true, true, true, true, true, true, true, true, true, true, true, true, true, true, true, false, false, false, false, false] rfl rfl (any_of HT_.out (by kernel_rfl)) (fun _ _ _ h => h) (Or.inr ⟨by rfl, rfl⟩) ?_ ?_
        rotate_left
        ·
         simp only [Act.put, List.setIfInBounds_toArray, List.set_cons_zero, List.set_cons_succ, i64_w, i32_w]
         rfl
        refine pure_ (i := 29) (N := some 59) (v := undef) (a' := ?_) #[true, true, true, true, true, true, true, true, true, true, true, true, true, true, true, true, true, true, true, true, true, true, true, true, true, true, true, true, true, true, false, false, false, false] rfl rfl (any_of HT_.out (by kernel_rfl)) (fun _ _ _ h => h) (Or.inr ⟨by rfl, rfl⟩) ?_ ?_
        rotate_left
        ·
         simp only [Act.put, List.setIfInBounds_toArray, List.set_cons_zero, List.set_cons_succ, i64_w, i32_w]
         rfl
        refine pure_ (i := 30) (N := some 60) (v := undef) (a' := ?_) #[true, true, true, true, true, true, true, true, true, true, true, true, true, true, true, true, true, true, true, true, true, true, true, true, true, true, true, true, true, true, true, false, false, false] rfl rfl (any_of HT_.out (by kernel_rfl)) (fun _ _ _ h => h) (Or.inr ⟨by rfl, rfl⟩) ?_ ?_
        rotate_left
        ·
         simp only [Act.put, List.setIfInBounds_toArray, List.set_cons_zero, List.set_cons_succ, i64_w, i32_w]
         rfl
        refine pure_ (i := 31) (N := some 61) (v := undef) (a' := ?_) #[true, true, true, true, true, true, true, true, true, true, true, true, true, true, true, true, true, true, true, true, true, true, true, true, true, true, true, true, true, true, true, true, false, false] rfl rfl (any_of HT_.out (by kernel_rfl)) (fun _ _ _ h => h) (Or.inr ⟨by rfl, rfl⟩) ?_ ?_
        rotate_left
        ·
         simp only [Act.put, List.setIfInBounds_toArray, List.set_cons_zero, List.set_cons_succ, i64_w, i32_w]
         rfl
        refine pure_ (i := 32) (N := some 62) (v := undef) (a' := ?_) #[true, true, true, true, true, true, true, true, true, true, true, true, true, true, true, true, true, true, true, true, true, true, true, true, true, true, true, true, true, true, true, true, true, false] rfl rfl (any_of HT_.out (by kernel_rfl)) (fun _ _ _ h => h) (Or.inr ⟨by rfl, rfl⟩) ?_ ?_
        rotate_left
        ·
         simp only [Act.put, List.setIfInBounds_toArray, List.set_cons_zero, List.set_cons_succ, i64_w, i32_w]
         rfl
        refine pure_ (i := 33) (N := some 63) (v := ?_) (a' := ?_) #[true, true, true, true, true, true, true, true, true, true, true, true, true, true, true, true, true, true, true, true, true, true, true, true, true, true, true, true, true, true, true, true, true, true] rfl rfl (any_of HT_.out (by kernel_rfl)) (fun _ _ _ h => h) (Or.inl ⟨by rfl, ?_⟩) ?_ ?_
        rotate_left
        ·
         intro w'
         go_simp
         with_reducible rfl
        rotate_left
        ·
         simp only [Act.put, List.setIfInBounds_toArray, List.set_cons_zero, List.set_cons_succ, i64_w, i32_w]
         rfl
        refine done_ (done_of HT_.out (by kernel_rfl)) ?_
        try go_wp2
        go_meet
        case rel => exact ⟨_, (true), (by first | rfl | (simp; done) | (simp [*]; done)), H', ⟨by have := HK1.out; first | omega | exact Nat.le_refl _⟩, ⟨by (with_reducible repeat (first | apply Kd.R_alloc | apply Kd.R_drewN | apply Kd.R_drew)); exact HO_1.out⟩, ⟨by (with_reducible repeat (first | apply Kd.R_alloc | apply Kd.R_drewN | apply Kd.R_drew)); exact HO_2.out⟩, ⟨by repeat (first | (with_reducible first | exact HB.out | apply below_alloc | apply pw_below_drewN | apply below_drew1) | exact HB.out)⟩⟩
      ·
       rw [if_neg c11] at H
       exact absurd H (by simp)
     case rest =>
      clear HC9
      try clear c1
      try clear p1
      try clear q1
      try clear hx1
      try clear p2
      try clear p6
      try clear c11
      try clear c12
      try clear c13
      try clear p13
      try clear q13
      try clear hx13
      try clear p14
      try clear q14
      try clear hx14
      try clear c15
      try clear c15b0
      try clear c15b1
      try clear hx138_0
      try clear hx138_1
      try clear hx138_2
      try clear hx138_3
      try clear hx140_0
      try clear hx140_1
      try clear hx140_2
      try clear hx140_3
      try clear hx142_0
      try clear hx142_1
      try clear hx142_2
      try clear hx142_3
      try clear hx143_0
      try clear hx143_1
      try clear hx143_2
      try clear hx143_3
      try clear p138
      try clear p140
      try clear p142
      try clear p143
      try clear q138
      try clear q140
      try clear q142
      try clear q143
      obtain ⟨kq, x63_8, rfl, HA, HJ8, HO_1, HO_2, HB⟩ := hcut
      cases kq with
      | zero => exact absurd HA.out (by simp [blackboardlaw7_GeoKnown.j1])
      | succ kj8 =>
       have H := HA.out
       clear HA
       simp only [blackboardlaw7_GeoKnown.j1] at H
       by_cases c26 : x63_8 = true
       ·
        subst c26
        have H1 : (some false) = some r := by rw [if_pos rfl] at H; exact H
        clear H
        have H := H1
        clear H1
        obtain rfl := Option.some.inj H
        go_wp2
        go_ret
        exact ⟨by first | rfl | (simp [errW_none, errW_some] <;> rfl) | (simp [*, errW_none, errW_some] <;> rfl), by repeat (first | (with_reducible first | exact HB.out | apply below_alloc | apply pw_below_drewN | apply below_drew1) | exact HB.out)⟩
       ·
        replace c26 := Bool.eq_false_iff.mpr c26
        subst c26
        have H1 : (blackboardlaw7_GeoKnown.l0 kj8 y132 y135 (wrap64 (x3_1 + 1))) = some r := by rw [if_neg (show ¬ (false = true) by decide)] at H; exact H
        clear H
        have H := H1
        clear H1
        have H' := Aside0.mk H
        clear H
        go_wp2
        go_roundg kj8
        case measure => have := HK1.out; have := HJ8.out; omega
        case rel => exact ⟨(wrap64 (x3_1 + 1)), (by first | rfl | (simp; done) | (simp [*]; done)), H', ⟨by have := HK1.out; have := HJ8.out; omega⟩, ⟨by (with_reducible repeat (first | apply Kd.R_alloc | apply Kd.R_drewN | apply Kd.R_drew)); exact HO_1.out⟩, ⟨by (with_reducible repeat (first | apply Kd.R_alloc | apply Kd.R_drewN | apply Kd.R_drew)); exact HO_2.out⟩, ⟨by repeat (first | (with_reducible first | exact HB.out | apply below_alloc | apply pw_below_drewN | apply below_drew1) | exact HB.out)⟩⟩
    ·
     rw [if_neg c8] at H
     have c8b0 : decide (x3_1 < (y132.length : Int)) = false := decide_eq_false c8
     clear c8
     have H' := Aside0.mk H
     clear H
     obtain ⟨Ao27, co27, eo27⟩ := Kd.R_slice HO_1.out
     subst eo27
     go_wp2
     go_loopg [4] k1 (fun kq v4 w' => ∃ (x4_2 : Int), v4 = .int .i64 x4_2 ∧ Aside0 (blackboardlaw7_GeoKnown.l1 kq y132 y135 x4_2 = some r) ∧ Aside0 (kq ≤ k1) ∧ Aside0 (Kd.R k23 23 w' w.heap.size (fun k_ => some k_ ≠ (v136 : Value).ownBlock) (.slice Ao27 y132.length co27) y132) ∧ Aside0 (Kd.R k23 23 w' w.heap.size (fun k_ => some k_ ≠ ((.slice Ao27 y132.length co27) : Value).ownBlock) v136 y135) ∧ Aside0 (Below w.heap.size w w'))
     case atStart => exact ⟨(0), (by first | rfl | (simp; done) | (simp [*]; done)), H', ⟨Nat.le_refl _⟩, ⟨by (with_reducible repeat (first | apply Kd.R_alloc | apply Kd.R_drewN | apply Kd.R_drew)); exact HO_1.out⟩, ⟨by (with_reducible repeat (first | apply Kd.R_alloc | apply Kd.R_drewN | apply Kd.R_drew)); exact HO_2.out⟩, ⟨by repeat (first | (with_reducible first | exact HB.out | apply below_alloc | apply pw_below_drewN | apply below_drew1) | exact HB.out)⟩⟩
     case round =>
      clear H'
      try clear c1
      try clear p1
      try clear q1
      try clear hx1
      try clear c2
      try clear p2
      try clear p6
      try clear c8
      try clear c8b0
      try clear c11
      try clear c12
      try clear c13
      try clear p13
      try clear q13
      try clear hx13
      try clear p14
      try clear q14
      try clear hx14
      try clear c15
      try clear c15b0
      try clear c15b1
      try clear c26
      try clear hx138_0
      try clear hx138_1
      try clear hx138_2
      try clear hx138_3
      try clear hx140_0
      try clear hx140_1
      try clear hx140_2
      try clear hx140_3
      try clear hx142_0
      try clear hx142_1
      try clear hx142_2
      try clear hx142_3
      try clear hx143_0
      try clear hx143_1
      try clear hx143_2
      try clear hx143_3
      try clear p1
      try clear p13
      try clear p138
      try clear p14
      try clear p140
      try clear p142
      try clear p143
      try clear p2
      try clear p6
      try clear q1
      try clear q13
      try clear q138
      try clear q14
      try clear q140
      try clear q142
      try clear q143
      obtain ⟨x4_2, rfl, HA, HK2, HO_1, HO_2, HB⟩ := hrel
      cases gk with
      | zero => exact absurd HA.out (by simp [blackboardlaw7_GeoKnown.l1])
      | succ k2 =>
       have H := HA.out
       clear HA
       simp only [blackboardlaw7_GeoKnown.l1] at H
       by_cases c28 : x4_2 < (y135.length : Int)
       ·
        rw [if_pos c28] at H
        have c28b0 : decide (x4_2 < (y135.length : Int)) = true := decide_eq_true c28
        clear c28
        have HC29 := Aside0.mk H
        clear H
        obtain ⟨Ao30, co30, eo30⟩ := Kd.R_slice HO_2.out
        subst eo30
        go_upto_region 13 with (fail)
        go_cut [106] (fun v106 wc => ∃ (kq : Nat) (x106_28 : Bool), v106 = .bool x106_28 ∧ Aside0 (blackboardlaw7_GeoKnown.j3 kq y132 y135 x4_2 x106_28 = some r) ∧ Aside0 (kq ≤ k2) ∧ Aside0 (Kd.R k23 23 wc w.heap.size (fun k_ => some k_ ≠ ((.slice Ao30 y135.length co30) : Value).ownBlock) (.slice Ao27 y132.length co27) y132) ∧ Aside0 (Kd.R k23 23 wc w.heap.size (fun k_ => some k_ ≠ ((.slice Ao27 y132.length co27) : Value).ownBlock) (.slice Ao30 y135.length co30) y135) ∧ Aside0 (Below w.heap.size w wc))
        case first =>
         have H := HC29.out
         clear HC29
         by_cases c31 : 0 ≤ x4_2
         ·
          rw [if_pos c31] at H
          have c31b0 : decide (0 ≤ x4_2) = true := decide_eq_true c31
          clear c31
          (first | rw [c31b0] | (simp only [i64_w, i32_w]; rw [c31b0]) | skip)
          replace H := Option.bind_eq_some_iff.mp H
          obtain ⟨t147, A320, H⟩ := H
          replace H : (if t147 = true then (blackboardlaw7_GeoKnown.j3 k2 y132 y135 x4_2 true) else ((geo_Cells.f ((rd_T23 y135 x4_2).f0) ((rd_T23 y135 x4_2).f1) ((rd_T23 y135 x4_2).f2) ((rd_T23 y135 x4_2).f3)).bind fun t149 => (if t149 = 0 then ((geo_Size.f ((rd_T23 y135 x4_2).f0) ((rd_T23 y135 x4_2).f1) ((rd_T23 y135 x4_2).f2) ((rd_T23 y135 x4_2).f3)).bind fun t151 => (if t151 = 0 then ((geo_Count.f ((rd_T23 y135 x4_2).f0) ((rd_T23 y135 x4_2).f1) ((rd_T23 y135 x4_2).f2) ((rd_T23 y135 x4_2).f3)).bind fun t153 => (if t153 = 0 then ((geo_Lpns.f k2 ((rd_T23 y135 x4_2).f0) ((rd_T23 y135 x4_2).f1) ((rd_T23 y135 x4_2).f2) ((rd_T23 y135 x4_2).f3) 0).bind fun t155 => (blackboardlaw7_GeoKnown.j3 k2 y132 y135 x4_2 (t155 != 0))) else (blackboardlaw7_GeoKnown.j3 k2 y132 y135 x4_2 true))) else (blackboardlaw7_GeoKnown.j3 k2 y132 y135 x4_2 true))) else (blackboardlaw7_GeoKnown.j3 k2 y132 y135 x4_2 true)))) = some r := H
          have A32 := Aside0.mk A320
          clear A320
          by_cases c33 : t147 = true
          ·
           subst c33
           have H1 : (blackboardlaw7_GeoKnown.j3 k2 y132 y135 x4_2 true) = some r := by rw [if_pos rfl] at H; exact H
           clear H
           have H := H1
           clear H1
           have H' := Aside0.mk H
           clear H
           have p146 : 0 ≤ (x4_2 : Int) := of_decide_eq_true (by first | (with_reducible assumption) | assumption)
           have q146 : x4_2 < (y135.length : Int) := of_decide_eq_true (by first | (with_reducible assumption) | assumption)
           obtain ⟨ad146, e146, hx146_0, hx146_1, hx146_2, hx146_3⟩ := at_T23 (Kd.R_reads' HO_2.out).2.2 x4_2 p146 q146
           cases e146
           replace p146 := eq_true p146
           replace q146 := eq_true q146
           go_wp2_with (first | ((with_reducible refine gate_callee (f := 12) rfl ?_); refine goesL_ (some 74) rfl rfl Try.func12 (by kernel_rfl) rfl #[.agg #[.int .i64 ((rd_T23 y135 x4_2).f0), .int .i64 ((rd_T23 y135 x4_2).f1), .int .i64 ((rd_T23 y135 x4_2).f2), .int .i64 ((rd_T23 y135 x4_2).f3)]] rfl (by (try simp only [List.map_toArray, List.map_cons, List.map_nil]); first | done | rfl | (simp only [List.length_drop, List.length_take]; rfl)) ?_; (with_reducible refine (geo_May.calls ((rd_T23 y135 x4_2).f0) ((rd_T23 y135 x4_2).f1) ((rd_T23 y135 x4_2).f2) ((rd_T23 y135 x4_2).f3) true _ A32.out).mono ?_); rintro e w34 ⟨rfl, hb⟩; refine ⟨_, rfl, ?_⟩; have n0_ := Aside0.mk (Kd.R_below (by (with_reducible repeat (first | apply Kd.R_alloc | apply Kd.R_drewN | apply Kd.R_drew)); exact HO_1.out) hb); have n1_ := Aside0.mk (Kd.R_below (by (with_reducible repeat (first | apply Kd.R_alloc | apply Kd.R_drewN | apply Kd.R_drew)); exact HO_2.out) hb); have n2_ := Aside0.mk (below_step (by repeat (first | (with_reducible first | exact HB.out | apply below_alloc | apply pw_below_drewN | apply below_drew1) | exact HB.out)) hb); clear HO_1; clear HO_2; clear HB; have HO_1 := n0_; have HO_2 := n1_; have HB := n2_; clear n0_ n1_ n2_; (try clear hb); (try clear hb2); (try clear hk); (try clear hi)))
           go_meet
           case rel => exact ⟨_, (true), (by first | rfl | (simp; done) | (simp [*]; done)), H', ⟨by have := HK1.out; have := HK2.out; first | omega | exact Nat.le_refl _⟩, ⟨by (with_reducible repeat (first | apply Kd.R_alloc | apply Kd.R_drewN | apply Kd.R_drew)); exact HO_1.out⟩, ⟨by (with_reducible repeat (first | apply Kd.R_alloc | apply Kd.R_drewN | apply Kd.R_drew)); exact HO_2.out⟩, ⟨by repeat (first | (with_reducible first | exact HB.out | apply below_alloc | apply pw_below_drewN | apply below_drew1) | exact HB.out)⟩⟩
          ·
           replace c33 := Bool.eq_false_iff.mpr c33
           subst c33
           have H1 : ((geo_Cells.f ((rd_T23 y135 x4_2).f0) ((rd_T23 y135 x4_2).f1) ((rd_T23 y135 x4_2).f2) ((rd_T23 y135 x4_2).f3)).bind fun t149 => (if t149 = 0 then ((geo_Size.f ((rd_T23 y135 x4_2).f0) ((rd_T23 y135 x4_2).f1) ((rd_T23 y135 x4_2).f2) ((rd_T23 y135 x4_2).f3)).bind fun t151 => (if t151 = 0 then ((geo_Count.f ((rd_T23 y135 x4_2).f0) ((rd_T23 y135 x4_2).f1) ((rd_T23 y135 x4_2).f2) ((rd_T23 y135 x4_2).f3)).bind fun t153 => (if t153 = 0 then ((geo_Lpns.f k2 ((rd_T23 y135 x4_2).f0) ((rd_T23 y135 x4_2).f1) ((rd_T23 y135 x4_2).f2) ((rd_T23 y135 x4_2).f3) 0).bind fun t155 => (blackboardlaw7_GeoKnown.j3 k2 y132 y135 x4_2 (t155 != 0))) else (blackboardlaw7_GeoKnown.j3 k2 y132 y135 x4_2 true))) else (blackboardlaw7_GeoKnown.j3 k2 y132 y135 x4_2 true))) else (blackboardlaw7_GeoKnown.j3 k2 y132 y135 x4_2 true))) = some r := by rw [if_neg (show ¬ (false = true) by decide)] at H; exact H
           clear H
           have H := H1
           clear H1
           replace H := Option.bind_eq_some_iff.mp H
           obtain ⟨t149, A350, H⟩ := H
           replace H : (if t149 = 0 then ((geo_Size.f ((rd_T23 y135 x4_2).f0) ((rd_T23 y135 x4_2).f1) ((rd_T23 y135 x4_2).f2) ((rd_T23 y135 x4_2).f3)).bind fun t151 => (if t151 = 0 then ((geo_Count.f ((rd_T23 y135 x4_2).f0) ((rd_T23 y135 x4_2).f1) ((rd_T23 y135 x4_2).f2) ((rd_T23 y135 x4_2).f3)).bind fun t153 => (if t153 = 0 then ((geo_Lpns.f k2 ((rd_T23 y135 x4_2).f0) ((rd_T23 y135 x4_2).f1) ((rd_T23 y135 x4_2).f2) ((rd_T23 y135 x4_2).f3) 0).bind fun t155 => (blackboardlaw7_GeoKnown.j3 k2 y132 y135 x4_2 (t155 != 0))) else (blackboardlaw7_GeoKnown.j3 k2 y132 y135 x4_2 true))) else (blackboardlaw7_GeoKnown.j3 k2 y132 y135 x4_2 true))) else (blackboardlaw7_GeoKnown.j3 k2 y132 y135 x4_2 true)) = some r := H
           have A35 := Aside0.mk A350
           clear A350
           by_cases c36 : t149 = 0
           ·
            rw [if_pos c36] at H
            have c36b0 : (t149 == 0) = true := beq_iff_eq.mpr c36
            have c36b1 : (t149 != 0) = false := bne_eq_false_iff_eq.mpr c36
            clear c36
            replace H := Option.bind_eq_some_iff.mp H
            obtain ⟨t151, A370, H⟩ := H
            replace H : (if t151 = 0 then ((geo_Count.f ((rd_T23 y135 x4_2).f0) ((rd_T23 y135 x4_2).f1) ((rd_T23 y135 x4_2).f2) ((rd_T23 y135 x4_2).f3)).bind fun t153 => (if t153 = 0 then ((geo_Lpns.f k2 ((rd_T23 y135 x4_2).f0) ((rd_T23 y135 x4_2).f1) ((rd_T23 y135 x4_2).f2) ((rd_T23 y135 x4_2).f3) 0).bind fun t155 => (blackboardlaw7_GeoKnown.j3 k2 y132 y135 x4_2 (t155 != 0))) else (blackboardlaw7_GeoKnown.j3 k2 y132 y135 x4_2 true))) else (blackboardlaw7_GeoKnown.j3 k2 y132 y135 x4_2 true)) = some r := H
            have A37 := Aside0.mk A370
            clear A370
            by_cases c38 : t151 = 0
            ·
             rw [if_pos c38] at H
             have c38b0 : (t151 == 0) = true := beq_iff_eq.mpr c38
             have c38b1 : (t151 != 0) = false := bne_eq_false_iff_eq.mpr c38
             clear c38
             replace H := Option.bind_eq_some_iff.mp H
             obtain ⟨t153, A390, H⟩ := H
             replace H : (if t153 = 0 then ((geo_Lpns.f k2 ((rd_T23 y135 x4_2).f0) ((rd_T23 y135 x4_2).f1) ((rd_T23 y135 x4_2).f2) ((rd_T23 y135 x4_2).f3) 0).bind fun t155 => (blackboardlaw7_GeoKnown.j3 k2 y132 y135 x4_2 (t155 != 0))) else (blackboardlaw7_GeoKnown.j3 k2 y132 y135 x4_2 true)) = some r := H
             have A39 := Aside0.mk A390
             clear A390
             by_cases c40 : t153 = 0
             ·
              rw [if_pos c40] at H
              have c40b0 : (t153 == 0) = true := beq_iff_eq.mpr c40
              have c40b1 : (t153 != 0) = false := bne_eq_false_iff_eq.mpr c40
              clear c40
              replace H := Option.bind_eq_some_iff.mp H
              obtain ⟨t155, A410, H⟩ := H
              replace H : (blackboardlaw7_GeoKnown.j3 k2 y132 y135 x4_2 (t155 != 0)) = some r := H
              have A41 := Aside0.mk A410
              clear A410
              have H' := Aside0.mk H
              clear H
              have p146 : 0 ≤ (x4_2 : Int) := of_decide_eq_true (by first | (with_reducible assumption) | assumption)
              have q146 : x4_2 < (y135.length : Int) := of_decide_eq_true (by first | (with_reducible assumption) | assumption)
              obtain ⟨ad146, e146, hx146_0, hx146_1, hx146_2, hx146_3⟩ := at_T23 (Kd.R_reads' HO_2.out).2.2 x4_2 p146 q146
              cases e146
              replace p146 := eq_true p146
              replace q146 := eq_true q146
              go_wp2_with (first | ((with_reducible refine gate_callee (f := 12) rfl ?_); refine goesL_ (some 74) rfl rfl Try.func12 (by kernel_rfl) rfl #[.agg #[.int .i64 ((rd_T23 y135 x4_2).f0), .int .i64 ((rd_T23 y135 x4_2).f1), .int .i64 ((rd_T23 y135 x4_2).f2), .int .i64 ((rd_T23 y135 x4_2).f3)]] rfl (by (try simp only [List.map_toArray, List.map_cons, List.map_nil]); first | done | rfl | (simp only [List.length_drop, List.length_take]; rfl)) ?_; (with_reducible refine (geo_May.calls ((rd_T23 y135 x4_2).f0) ((rd_T23 y135 x4_2).f1) ((rd_T23 y135 x4_2).f2) ((rd_T23 y135 x4_2).f3) false _ A32.out).mono ?_); rintro e w42 ⟨rfl, hb⟩; refine ⟨_, rfl, ?_⟩; have n0_ := Aside0.mk (Kd.R_below (by (with_reducible repeat (first | apply Kd.R_alloc | apply Kd.R_drewN | apply Kd.R_drew)); exact HO_1.out) hb); have n1_ := Aside0.mk (Kd.R_below (by (with_reducible repeat (first | apply Kd.R_alloc | apply Kd.R_drewN | apply Kd.R_drew)); exact HO_2.out) hb); have n2_ := Aside0.mk (below_step (by repeat (first | (with_reducible first | exact HB.out | apply below_alloc | apply pw_below_drewN | apply below_drew1) | exact HB.out)) hb); clear HO_1; clear HO_2; clear HB; have HO_1 := n0_; have HO_2 := n1_; have HB := n2_; clear n0_ n1_ n2_; (try clear hb); (try clear hb2); (try clear hk); (try clear hi); have p148 : 0 ≤ (x4_2 : Int) := of_decide_eq_true (by first | (with_reducible assumption) | assumption); have q148 : x4_2 < (y135.length : Int) := of_decide_eq_true (by first | (with_reducible assumption) | assumption); obtain ⟨ad148, e148, hx148_0, hx148_1, hx148_2, hx148_3⟩ := at_T23 (Kd.R_reads' HO_2.out).2.2 x4_2 p148 q148; obtain rfl : ad146 = ad148 := (by injection e148); replace p148 := eq_true p148; replace q148 := eq_true q148) | (go_at_call 13; (with_reducible refine (geo_Cells.calls ((rd_T23 y135 x4_2).f0) ((rd_T23 y135 x4_2).f1) ((rd_T23 y135 x4_2).f2) ((rd_T23 y135 x4_2).f3) t149 _ A35.out).mono ?_); rintro e w43 ⟨rfl, hb⟩; have n0_ := Aside0.mk (Kd.R_below (by (with_reducible repeat (first | apply Kd.R_alloc | apply Kd.R_drewN | apply Kd.R_drew)); exact HO_1.out) hb); have n1_ := Aside0.mk (Kd.R_below (by (with_reducible repeat (first | apply Kd.R_alloc | apply Kd.R_drewN | apply Kd.R_drew)); exact HO_2.out) hb); have n2_ := Aside0.mk (below_step (by repeat (first | (with_reducible first | exact HB.out | apply below_alloc | apply pw_below_drewN | apply below_drew1) | exact HB.out)) hb); clear HO_1; clear HO_2; clear HB; have HO_1 := n0_; have HO_2 := n1_; have HB := n2_; clear n0_ n1_ n2_; (try clear hb); (try clear hb2); (try clear hk); (try clear hi); have p150 : 0 ≤ (x4_2 : Int) := of_decide_eq_true (by first | (with_reducible assumption) | assumption); have q150 : x4_2 < (y135.length : Int) := of_decide_eq_true (by first | (with_reducible assumption) | assumption); obtain ⟨ad150, e150, hx150_0, hx150_1, hx150_2, hx150_3⟩ := at_T23 (Kd.R_reads' HO_2.out).2.2 x4_2 p150 q150; obtain rfl : ad146 = ad150 := (by injection e150); replace p150 := eq_true p150; replace q150 := eq_true q150) | (go_at_call 15; (with_reducible refine (geo_Size.calls ((rd_T23 y135 x4_2).f0) ((rd_T23 y135 x4_2).f1) ((rd_T23 y135 x4_2).f2) ((rd_T23 y135 x4_2).f3) t151 _ A37.out).mono ?_); rintro e w44 ⟨rfl, hb⟩; have n0_ := Aside0.mk (Kd.R_below (by (with_reducible repeat (first | apply Kd.R_alloc | apply Kd.R_drewN | apply Kd.R_drew)); exact HO_1.out) hb); have n1_ := Aside0.mk (Kd.R_below (by (with_reducible repeat (first | apply Kd.R_alloc | apply Kd.R_drewN | apply Kd.R_drew)); exact HO_2.out) hb); have n2_ := Aside0.mk (below_step (by repeat (first | (with_reducible first | exact HB.out | apply below_alloc | apply pw_below_drewN | apply below_drew1) | exact HB.out)) hb); clear HO_1; clear HO_2; clear HB; have HO_1 := n0_; have HO_2 := n1_; have HB := n2_; clear n0_ n1_ n2_; (try clear hb); (try clear hb2); (try clear hk); (try clear hi); have p152 : 0 ≤ (x4_2 : Int) := of_decide_eq_true (by first | (with_reducible assumption) | assumption); have q152 : x4_2 < (y135.length : Int) := of_decide_eq_true (by first | (with_reducible assumption) | assumption); obtain ⟨ad152, e152, hx152_0, hx152_1, hx152_2, hx152_3⟩ := at_T23 (Kd.R_reads' HO_2.out).2.2 x4_2 p152 q152; obtain rfl : ad146 = ad152 := (by injection e152); replace p152 := eq_true p152; replace q152 := eq_true q152) | (go_at_call 17; (with_reducible refine (geo_Count.calls ((rd_T23 y135 x4_2).f0) ((rd_T23 y135 x4_2).f1) ((rd_T23 y135 x4_2).f2) ((rd_T23 y135 x4_2).f3) t153 _ A39.out).mono ?_); rintro e w45 ⟨rfl, hb⟩; have n0_ := Aside0.mk (Kd.R_below (by (with_reducible repeat (first | apply Kd.R_alloc | apply Kd.R_drewN | apply Kd.R_drew)); exact HO_1.out) hb); have n1_ := Aside0.mk (Kd.R_below (by (with_reducible repeat (first | apply Kd.R_alloc | apply Kd.R_drewN | apply Kd.R_drew)); exact HO_2.out) hb); have n2_ := Aside0.mk (below_step (by repeat (first | (with_reducible first | exact HB.out | apply below_alloc | apply pw_below_drewN | apply below_drew1) | exact HB.out)) hb); clear HO_1; clear HO_2; clear HB; have HO_1 := n0_; have HO_2 := n1_; have HB := n2_; clear n0_ n1_ n2_; (try clear hb); (try clear hb2); (try clear hk); (try clear hi); have p154 : 0 ≤ (x4_2 : Int) := of_decide_eq_true (by first | (with_reducible assumption) | assumption); have q154 : x4_2 < (y135.length : Int) := of_decide_eq_true (by first | (with_reducible assumption) | assumption); obtain ⟨ad154, e154, hx154_0, hx154_1, hx154_2, hx154_3⟩ := at_T23 (Kd.R_reads' HO_2.out).2.2 x4_2 p154 q154; obtain rfl : ad146 = ad154 := (by injection e154); replace p154 := eq_true p154; replace q154 := eq_true q154) | (go_at_call 18; (with_reducible refine (geo_Lpns.calls k2 ((rd_T23 y135 x4_2).f0) ((rd_T23 y135 x4_2).f1) ((rd_T23 y135 x4_2).f2) ((rd_T23 y135 x4_2).f3) 0 t155 _ A41.out).mono ?_); rintro e w46 ⟨rfl, hb⟩; have n0_ := Aside0.mk (Kd.R_below (by (with_reducible repeat (first | apply Kd.R_alloc | apply Kd.R_drewN | apply Kd.R_drew)); exact HO_1.out) hb); have n1_ := Aside0.mk (Kd.R_below (by (with_reducible repeat (first | apply Kd.R_alloc | apply Kd.R_drewN | apply Kd.R_drew)); exact HO_2.out) hb); have n2_ := Aside0.mk (below_step (by repeat (first | (with_reducible first | exact HB.out | apply below_alloc | apply pw_below_drewN | apply below_drew1) | exact HB.out)) hb); clear HO_1; clear HO_2; clear HB; have HO_1 := n0_; have HO_2 := n1_; have HB := n2_; clear n0_ n1_ n2_; (try clear hb); (try clear hb2); (try clear hk); (try clear hi)))
              go_meet
              case rel => exact ⟨_, ((t155 != 0)), (by first | rfl | (simp; done) | (simp [*]; done)), H', ⟨by have := HK1.out; have := HK2.out; first | omega | exact Nat.le_refl _⟩, ⟨by (with_reducible repeat (first | apply Kd.R_alloc | apply Kd.R_drewN | apply Kd.R_drew)); exact HO_1.out⟩, ⟨by (with_reducible repeat (first | apply Kd.R_alloc | apply Kd.R_drewN | apply Kd.R_drew)); exact HO_2.out⟩, ⟨by repeat (first | (with_reducible first | exact HB.out | apply below_alloc | apply pw_below_drewN | apply below_drew1) | exact HB.out)⟩⟩
             ·
              rw [if_neg c40] at H
              have c40b0 : (t153 == 0) = false := beq_eq_false_iff_ne.mpr c40
              have c40b1 : (t153 != 0) = true := bne_iff_ne.mpr c40
              have H' := Aside0.mk H
              clear H
              have p146 : 0 ≤ (x4_2 : Int) := of_decide_eq_true (by first | (with_reducible assumption) | assumption)
              have q146 : x4_2 < (y135.length : Int) := of_decide_eq_true (by first | (with_reducible assumption) | assumption)
              obtain ⟨ad146, e146, hx146_0, hx146_1, hx146_2, hx146_3⟩ := at_T23 (Kd.R_reads' HO_2.out).2.2 x4_2 p146 q146
              cases e146
              replace p146 := eq_true p146
              replace q146 := eq_true q146
              go_wp2_with (first | ((with_reducible refine gate_callee (f := 12) rfl ?_); refine goesL_ (some 74) rfl rfl Try.func12 (by kernel_rfl) rfl #[.agg #[.int .i64 ((rd_T23 y135 x4_2).f0), .int .i64 ((rd_T23 y135 x4_2).f1), .int .i64 ((rd_T23 y135 x4_2).f2), .int .i64 ((rd_T23 y135 x4_2).f3)]] rfl (by (try simp only [List.map_toArray, List.map_cons, List.map_nil]); first | done | rfl | (simp only [List.length_drop, List.length_take]; rfl)) ?_; (with_reducible refine (geo_May.calls ((rd_T23 y135 x4_2).f0) ((rd_T23 y135 x4_2).f1) ((rd_T23 y135 x4_2).f2) ((rd_T23 y135 x4_2).f3) false _ A32.out).mono ?_); rintro e w47 ⟨rfl, hb⟩; refine ⟨_, rfl, ?_⟩; have n0_ := Aside0.mk (Kd.R_below (by (with_reducible repeat (first | apply Kd.R_alloc | apply Kd.R_drewN | apply Kd.R_drew)); exact HO_1.out) hb); have n1_ := Aside0.mk (Kd.R_below (by (with_reducible repeat (first | apply Kd.R_alloc | apply Kd.R_drewN | apply Kd.R_drew)); exact HO_2.out) hb); have n2_ := Aside0.mk (below_step (by repeat (first | (with_reducible first | exact HB.out | apply below_alloc | apply pw_below_drewN | apply below_drew1) | exact HB.out)) hb); clear HO_1; clear HO_2; clear HB; have HO_1 := n0_; have HO_2 := n1_; have HB := n2_; clear n0_ n1_ n2_; (try clear hb); (try clear hb2); (try clear hk); (try clear hi); have p148 : 0 ≤ (x4_2 : Int) := of_decide_eq_true (by first | (with_reducible assumption) | assumption); have q148 : x4_2 < (y135.length : Int) := of_decide_eq_true (by first | (with_reducible assumption) | assumption); obtain ⟨ad148, e148, hx148_0, hx148_1, hx148_2, hx148_3⟩ := at_T23 (Kd.R_reads' HO_2.out).2.2 x4_2 p148 q148; obtain rfl : ad146 = ad148 := (by injection e148); replace p148 := eq_true p148; replace q148 := eq_true q148) | (go_at_call 13; (with_reducible refine (geo_Cells.calls ((rd_T23 y135 x4_2).f0) ((rd_T23 y135 x4_2).f1) ((rd_T23 y135 x4_2).f2) ((rd_T23 y135 x4_2).f3) t149 _ A35.out).mono ?_); rintro e w48 ⟨rfl, hb⟩; have n0_ := Aside0.mk (Kd.R_below (by (with_reducible repeat (first | apply Kd.R_alloc | apply Kd.R_drewN | apply Kd.R_drew)); exact HO_1.out) hb); have n1_ := Aside0.mk (Kd.R_below (by (with_reducible repeat (first | apply Kd.R_alloc | apply Kd.R_drewN | apply Kd.R_drew)); exact HO_2.out) hb); have n2_ := Aside0.mk (below_step (by repeat (first | (with_reducible first | exact HB.out | apply below_alloc | apply pw_below_drewN | apply below_drew1) | exact HB.out)) hb); clear HO_1; clear HO_2; clear HB; have HO_1 := n0_; have HO_2 := n1_; have HB := n2_; clear n0_ n1_ n2_; (try clear hb); (try clear hb2); (try clear hk); (try clear hi); have p150 : 0 ≤ (x4_2 : Int) := of_decide_eq_true (by first | (with_reducible assumption) | assumption); have q150 : x4_2 < (y135.length : Int) := of_decide_eq_true (by first | (with_reducible assumption) | assumption); obtain ⟨ad150, e150, hx150_0, hx150_1, hx150_2, hx150_3⟩ := at_T23 (Kd.R_reads' HO_2.out).2.2 x4_2 p150 q150; obtain rfl : ad146 = ad150 := (by injection e150); replace p150 := eq_true p150; replace q150 := eq_true q150) | (go_at_call 15; (with_reducible refine (geo_Size.calls ((rd_T23 y135 x4_2).f0) ((rd_T23 y135 x4_2).f1) ((rd_T23 y135 x4_2).f2) ((rd_T23 y135 x4_2).f3) t151 _ A37.out).mono ?_); rintro e w49 ⟨rfl, hb⟩; have n0_ := Aside0.mk (Kd.R_below (by (with_reducible repeat (first | apply Kd.R_alloc | apply Kd.R_drewN | apply Kd.R_drew)); exact HO_1.out) hb); have n1_ := Aside0.mk (Kd.R_below (by (with_reducible repeat (first | apply Kd.R_alloc | apply Kd.R_drewN | apply Kd.R_drew)); exact HO_2.out) hb); have n2_ := Aside0.mk (below_step (by repeat (first | (with_reducible first | exact HB.out | apply below_alloc | apply pw_below_drewN | apply below_drew1) | exact HB.out)) hb); clear HO_1; clear HO_2; clear HB; have HO_1 := n0_; have HO_2 := n1_; have HB := n2_; clear n0_ n1_ n2_; (try clear hb); (try clear hb2); (try clear hk); (try clear hi); have p152 : 0 ≤ (x4_2 : Int) := of_decide_eq_true (by first | (with_reducible assumption) | assumption); have q152 : x4_2 < (y135.length : Int) := of_decide_eq_true (by first | (with_reducible assumption) | assumption); obtain ⟨ad152, e152, hx152_0, hx152_1, hx152_2, hx152_3⟩ := at_T23 (Kd.R_reads' HO_2.out).2.2 x4_2 p152 q152; obtain rfl : ad146 = ad152 := (by injection e152); replace p152 := eq_true p152; replace q152 := eq_true q152) | (go_at_call 17; (with_reducible refine (geo_Count.calls ((rd_T23 y135 x4_2).f0) ((rd_T23 y135 x4_2).f1) ((rd_T23 y135 x4_2).f2) ((rd_T23 y135 x4_2).f3) t153 _ A39.out).mono ?_); rintro e w50 ⟨rfl, hb⟩; have n0_ := Aside0.mk (Kd.R_below (by (with_reducible repeat (first | apply Kd.R_alloc | apply Kd.R_drewN | apply Kd.R_drew)); exact HO_1.out) hb); have n1_ := Aside0.mk (Kd.R_below (by (with_reducible repeat (first | apply Kd.R_alloc | apply Kd.R_drewN | apply Kd.R_drew)); exact HO_2.out) hb); have n2_ := Aside0.mk (below_step (by repeat (first | (with_reducible first | exact HB.out | apply below_alloc | apply pw_below_drewN | apply below_drew1) | exact HB.out)) hb); clear HO_1; clear HO_2; clear HB; have HO_1 := n0_; have HO_2 := n1_; have HB := n2_; clear n0_ n1_ n2_; (try clear hb); (try clear hb2); (try clear hk); (try clear hi)))
              go_meet
              case rel => exact ⟨_, (true), (by first | rfl | (simp; done) | (simp [*]; done)), H', ⟨by have := HK1.out; have := HK2.out; first | omega | exact Nat.le_refl _⟩, ⟨by (with_reducible repeat (first | apply Kd.R_alloc | apply Kd.R_drewN | apply Kd.R_drew)); exact HO_1.out⟩, ⟨by (with_reducible repeat (first | apply Kd.R_alloc | apply Kd.R_drewN | apply Kd.R_drew)); exact HO_2.out⟩, ⟨by repeat (first | (with_reducible first | exact HB.out | apply below_alloc | apply pw_below_drewN | apply below_drew1) | exact HB.out)⟩⟩
            ·
             rw [if_neg c38] at H
             have c38b0 : (t151 == 0) = false := beq_eq_false_iff_ne.mpr c38
             have c38b1 : (t151 != 0) = true := bne_iff_ne.mpr c38
             have H' := Aside0.mk H
             clear H
             have p146 : 0 ≤ (x4_2 : Int) := of_decide_eq_true (by first | (with_reducible assumption) | assumption)
             have q146 : x4_2 < (y135.length : Int) := of_decide_eq_true (by first | (with_reducible assumption) | assumption)
             obtain ⟨ad146, e146, hx146_0, hx146_1, hx146_2, hx146_3⟩ := at_T23 (Kd.R_reads' HO_2.out).2.2 x4_2 p146 q146
             cases e146
             replace p146 := eq_true p146
             replace q146 := eq_true q146
             go_wp2_with (first | ((with_reducible refine gate_callee (f := 12) rfl ?_); refine goesL_ (some 74) rfl rfl Try.func12 (by kernel_rfl) rfl #[.agg #[.int .i64 ((rd_T23 y135 x4_2).f0), .int .i64 ((rd_T23 y135 x4_2).f1), .int .i64 ((rd_T23 y135 x4_2).f2), .int .i64 ((rd_T23 y135 x4_2).f3)]] rfl (by (try simp only [List.map_toArray, List.map_cons, List.map_nil]); first | done | rfl | (simp only [List.length_drop, List.length_take]; rfl)) ?_; (with_reducible refine (geo_May.calls ((rd_T23 y135 x4_2).f0) ((rd_T23 y135 x4_2).f1) ((rd_T23 y135 x4_2).f2) ((rd_T23 y135 x4_2).f3) false _ A32.out).mono ?_); rintro e w51 ⟨rfl, hb⟩; refine ⟨_, rfl, ?_⟩; have n0_ := Aside0.mk (Kd.R_below (by (with_reducible repeat (first | apply Kd.R_alloc | apply Kd.R_drewN | apply Kd.R_drew)); exact HO_1.out) hb); have n1_ := Aside0.mk (Kd.R_below (by (with_reducible repeat (first | apply Kd.R_alloc | apply Kd.R_drewN | apply Kd.R_drew)); exact HO_2.out) hb); have n2_ := Aside0.mk (below_step (by repeat (first | (with_reducible first | exact HB.out | apply below_alloc | apply pw_below_drewN | apply below_drew1) | exact HB.out)) hb); clear HO_1; clear HO_2; clear HB; have HO_1 := n0_; have HO_2 := n1_; have HB := n2_; clear n0_ n1_ n2_; (try clear hb); (try clear hb2); (try clear hk); (try clear hi); have p148 : 0 ≤ (x4_2 : Int) := of_decide_eq_true (by first | (with_reducible assumption) | assumption); have q148 : x4_2 < (y135.length : Int) := of_decide_eq_true (by first | (with_reducible assumption) | assumption); obtain ⟨ad148, e148, hx148_0, hx148_1, hx148_2, hx148_3⟩ := at_T23 (Kd.R_reads' HO_2.out).2.2 x4_2 p148 q148; obtain rfl : ad146 = ad148 := (by injection e148); replace p148 := eq_true p148; replace q148 := eq_true q148) | (go_at_call 13; (with_reducible refine (geo_Cells.calls ((rd_T23 y135 x4_2).f0) ((rd_T23 y135 x4_2).f1) ((rd_T23 y135 x4_2).f2) ((rd_T23 y135 x4_2).f3) t149 _ A35.out).mono ?_); rintro e w52 ⟨rfl, hb⟩; have n0_ := Aside0.mk (Kd.R_below (by (with_reducible repeat (first | apply Kd.R_alloc | apply Kd.R_drewN | apply Kd.R_drew)); exact HO_1.out) hb); have n1_ := Aside0.mk (Kd.R_below (by (with_reducible repeat (first | apply Kd.R_alloc | apply Kd.R_drewN | apply Kd.R_drew)); exact HO_2.out) hb); have n2_ := Aside0.mk (below_step (by repeat (first | (with_reducible first | exact HB.out | apply below_alloc | apply pw_below_drewN | apply below_drew1) | exact HB.out)) hb); clear HO_1; clear HO_2; clear HB; have HO_1 := n0_; have HO_2 := n1_; have HB := n2_; clear n0_ n1_ n2_; (try clear hb); (try clear hb2); (try clear hk); (try clear hi); have p150 : 0 ≤ (x4_2 : Int) := of_decide_eq_true (by first | (with_reducible assumption) | assumption); have q150 : x4_2 < (y135.length : Int) := of_decide_eq_true (by first | (with_reducible assumption) | assumption); obtain ⟨ad150, e150, hx150_0, hx150_1, hx150_2, hx150_3⟩ := at_T23 (Kd.R_reads' HO_2.out).2.2 x4_2 p150 q150; obtain rfl : ad146 = ad150 := (by injection e150); replace p150 := eq_true p150; replace q150 := eq_true q150) | (go_at_call 15; (with_reducible refine (geo_Size.calls ((rd_T23 y135 x4_2).f0) ((rd_T23 y135 x4_2).f1) ((rd_T23 y135 x4_2).f2) ((rd_T23 y135 x4_2).f3) t151 _ A37.out).mono ?_); rintro e w53 ⟨rfl, hb⟩; have n0_ := Aside0.mk (Kd.R_below (by (with_reducible repeat (first | apply Kd.R_alloc | apply Kd.R_drewN | apply Kd.R_drew)); exact HO_1.out) hb); have n1_ := Aside0.mk (Kd.R_below (by (with_reducible repeat (first | apply Kd.R_alloc | apply Kd.R_drewN | apply Kd.R_drew)); exact HO_2.out) hb); have n2_ := Aside0.mk (below_step (by repeat (first | (with_reducible first | exact HB.out | apply below_alloc | apply pw_below_drewN | apply below_drew1) | exact HB.out)) hb); clear HO_1; clear HO_2; clear HB; have HO_1 := n0_; have HO_2 := n1_; have HB := n2_; clear n0_ n1_ n2_; (try clear hb); (try clear hb2); (try clear hk); (try clear hi)))
             go_meet
             case rel => exact ⟨_, (true), (by first | rfl | (simp; done) | (simp [*]; done)), H', ⟨by have := HK1.out; have := HK2.out; first | omega | exact Nat.le_refl _⟩, ⟨by (with_reducible repeat (first | apply Kd.R_alloc | apply Kd.R_drewN | apply Kd.R_drew)); exact HO_1.out⟩, ⟨by (with_reducible repeat (first | apply Kd.R_alloc | apply Kd.R_drewN | apply Kd.R_drew)); exact HO_2.out⟩, ⟨by repeat (first | (with_reducible first | exact HB.out | apply below_alloc | apply pw_below_drewN | apply below_drew1) | exact HB.out)⟩⟩
           ·
            rw [if_neg c36] at H
            have c36b0 : (t149 == 0) = false := beq_eq_false_iff_ne.mpr c36
            have c36b1 : (t149 != 0) = true := bne_iff_ne.mpr c36
            have H' := Aside0.mk H
            clear H
            have p146 : 0 ≤ (x4_2 : Int) := of_decide_eq_true (by first | (with_reducible assumption) | assumption)
            have q146 : x4_2 < (y135.length : Int) := of_decide_eq_true (by first | (with_reducible assumption) | assumption)
            obtain ⟨ad146, e146, hx146_0, hx146_1, hx146_2, hx146_3⟩ := at_T23 (Kd.R_reads' HO_2.out).2.2 x4_2 p146 q146
            cases e146
            replace p146 := eq_true p146
            replace q146 := eq_true q146
            go_wp2_with (first | ((with_reducible refine gate_callee (f := 12) rfl ?_); refine goesL_ (some 74) rfl rfl Try.func12 (by kernel_rfl) rfl #[.agg #[.int .i64 ((rd_T23 y135 x4_2).f0), .int .i64 ((rd_T23 y135 x4_2).f1), .int .i64 ((rd_T23 y135 x4_2).f2), .int .i64 ((rd_T23 y135 x4_2).f3)]] rfl (by (try simp only [List.map_toArray, List.map_cons, List.map_nil]); first | done | rfl | (simp only [List.length_drop, List.length_take]; rfl)) ?_; (with_reducible refine (geo_May.calls ((rd_T23 y135 x4_2).f0) ((rd_T23 y135 x4_2).f1) ((rd_T23 y135 x4_2).f2) ((rd_T23 y135 x4_2).f3) false _ A32.out).mono ?_); rintro e w54 ⟨rfl, hb⟩; refine ⟨_, rfl, ?_⟩; have n0_ := Aside0.mk (Kd.R_below (by (with_reducible repeat (first | apply Kd.R_alloc | apply Kd.R_drewN | apply Kd.R_drew)); exact HO_1.out) hb); have n1_ := Aside0.mk (Kd.R_below (by (with_reducible repeat (first | apply Kd.R_alloc | apply Kd.R_drewN | apply Kd.R_drew)); exact HO_2.out) hb); have n2_ := Aside0.mk (below_step (by repeat (first | (with_reducible first | exact HB.out | apply below_alloc | apply pw_below_drewN | apply below_drew1) | exact HB.out)) hb); clear HO_1; clear HO_2; clear HB; have HO_1 := n0_; have HO_2 := n1_; have HB := n2_; clear n0_ n1_ n2_; (try clear hb); (try clear hb2); (try clear hk); (try clear hi); have p148 : 0 ≤ (x4_2 : Int) := of_decide_eq_true (by first | (with_reducible assumption) | assumption); have q148 : x4_2 < (y135.length : Int) := of_decide_eq_true (by first | (with_reducible assumption) | assumption); obtain ⟨ad148, e148, hx148_0, hx148_1, hx148_2, hx148_3⟩ := at_T23 (Kd.R_reads' HO_2.out).2.2 x4_2 p148 q148; obtain rfl : ad146 = ad148 := (by injection e148); replace p148 := eq_true p148; replace q148 := eq_true q148) | (go_at_call 13; (with_reducible refine (geo_Cells.calls ((rd_T23 y135 x4_2).f0) ((rd_T23 y135 x4_2).f1) ((rd_T23 y135 x4_2).f2) ((rd_T23 y135 x4_2).f3) t149 _ A35.out).mono ?_); rintro e w55 ⟨rfl, hb⟩; have n0_ := Aside0.mk (Kd.R_below (by (with_reducible repeat (first | apply Kd.R_alloc | apply Kd.R_drewN | apply Kd.R_drew)); exact HO_1.out) hb); have n1_ := Aside0.mk (Kd.R_below (by (with_reducible repeat (first | apply Kd.R_alloc | apply Kd.R_drewN | apply Kd.R_drew)); exact HO_2.out) hb); have n2_ := Aside0.mk (below_step (by repeat (first | (with_reducible first | exact HB.out | apply below_alloc | apply pw_below_drewN | apply below_drew1) | exact HB.out)) hb); clear HO_1; clear HO_2; clear HB; have HO_1 := n0_; have HO_2 := n1_; have HB := n2_; clear n0_ n1_ n2_; (try clear hb); (try clear hb2); (try clear hk); (try clear hi)))
            go_meet
            case rel => exact ⟨_, (true), (by first | rfl | (simp; done) | (simp [*]; done)), H', ⟨by have := HK1.out; have := HK2.out; first | omega | exact Nat.le_refl _⟩, ⟨by (with_reducible repeat (first | apply Kd.R_alloc | apply Kd.R_drewN | apply Kd.R_drew)); exact HO_1.out⟩, ⟨by (with_reducible repeat (first | apply Kd.R_alloc | apply Kd.R_drewN | apply Kd.R_drew)); exact HO_2.out⟩, ⟨by repeat (first | (with_reducible first | exact HB.out | apply below_alloc | apply pw_below_drewN | apply below_drew1) | exact HB.out)⟩⟩
         ·
          rw [if_neg c31] at H
          exact absurd H (by simp)
        case rest =>
         clear HC29
         try clear c1
         try clear p1
         try clear q1
         try clear hx1
         try clear c2
         try clear p2
         try clear c3
         try clear c4
         try clear p6
         try clear c8
         try clear c8b0
         try clear c11
         try clear c12
         try clear c13
         try clear p13
         try clear q13
         try clear hx13
         try clear p14
         try clear q14
         try clear hx14
         try clear c15
         try clear c15b0
         try clear c15b1
         try clear p15
         try clear q15
         try clear hx15
         try clear c26
         try clear c28
         try clear c28b0
         try clear c31
         try clear c31b0
         try clear c33
         try clear c36
         try clear c36b0
         try clear c36b1
         try clear c38
         try clear c38b0
         try clear c38b1
         try clear c40
         try clear c40b0
         try clear c40b1
         try clear hx138_0
         try clear hx138_1
         try clear hx138_2
         try clear hx138_3
         try clear hx140_0
         try clear hx140_1
         try clear hx140_2
         try clear hx140_3
         try clear hx142_0
         try clear hx142_1
         try clear hx142_2
         try clear hx142_3
         try clear hx143_0
         try clear hx143_1
         try clear hx143_2
         try clear hx143_3
         try clear hx146_0
         try clear hx146_1
         try clear hx146_2
         try clear hx146_3
         try clear hx148_0
         try clear hx148_1
         try clear hx148_2
         try clear hx148_3
         try clear hx150_0
         try clear hx150_1
         try clear hx150_2
         try clear hx150_3
         try clear hx152_0
         try clear hx152_1
         try clear hx152_2
         try clear hx152_3
         try clear hx154_0
         try clear hx154_1
         try clear hx154_2
         try clear hx154_3
         try clear p1
         try clear p13
         try clear p138
         try clear p14
         try clear p140
         try clear p142
         try clear p143
         try clear p146
         try clear p148
         try clear p150
         try clear p152
         try clear p154
         try clear p2
         try clear p6
         try clear q1
         try clear q13
         try clear q138
         try clear q14
         try clear q140
         try clear q142
         try clear q143
         try clear q146
         try clear q148
         try clear q150
         try clear q152
         try clear q154
         obtain ⟨kq, x106_28, rfl, HA, HJ28, HO_1, HO_2, HB⟩ := hcut
         cases kq with
         | zero => exact absurd HA.out (by simp [blackboardlaw7_GeoKnown.j3])
         | succ kj28 =>
          have H := HA.out
          clear HA
          simp only [blackboardlaw7_GeoKnown.j3] at H
          by_cases c56 : x106_28 = true
          ·
           subst c56
           have H1 : (some false) = some r := by rw [if_pos rfl] at H; exact H
           clear H
           have H := H1
           clear H1
           obtain rfl := Option.some.inj H
           go_wp2
           go_ret
           exact ⟨by first | rfl | (simp [errW_none, errW_some] <;> rfl) | (simp [*, errW_none, errW_some] <;> rfl), by repeat (first | (with_reducible first | exact HB.out | apply below_alloc | apply pw_below_drewN | apply below_drew1) | exact HB.out)⟩
          ·
           replace c56 := Bool.eq_false_iff.mpr c56
           subst c56
           have H1 : (blackboardlaw7_GeoKnown.l1 kj28 y132 y135 (wrap64 (x4_2 + 1))) = some r := by rw [if_neg (show ¬ (false = true) by decide)] at H; exact H
           clear H
           have H := H1
           clear H1
           have H' := Aside0.mk H
           clear H
           go_wp2
           go_roundg kj28
           case measure => have := HK1.out; have := HK2.out; have := HJ28.out; omega
           case rel => exact ⟨(wrap64 (x4_2 + 1)), (by first | rfl | (simp; done) | (simp [*]; done)), H', ⟨by have := HK1.out; have := HK2.out; have := HJ28.out; omega⟩, ⟨by (with_reducible repeat (first | apply Kd.R_alloc | apply Kd.R_drewN | apply Kd.R_drew)); exact HO_1.out⟩, ⟨by (with_reducible repeat (first | apply Kd.R_alloc | apply Kd.R_drewN | apply Kd.R_drew)); exact HO_2.out⟩, ⟨by repeat (first | (with_reducible first | exact HB.out | apply below_alloc | apply pw_below_drewN | apply below_drew1) | exact HB.out)⟩⟩
       ·
        rw [if_neg c28] at H
        have c28b0 : decide (x4_2 < (y135.length : Int)) = false := decide_eq_false c28
        clear c28
        by_cases c57 : 1 < (y132.length : Int)
        ·
         rw [if_pos c57] at H
         have c57b0 : decide (1 < (y132.length : Int)) = true := decide_eq_true c57
         have c57b1 : decide (1 < y132.length) = true := decide_eq_true (by omega)
         clear c57
         replace H := Option.bind_eq_some_iff.mp H
         obtain ⟨t158, A580, H⟩ := H
         replace H : (if t158 = 2048 then ((geo_Size.f ((rd_T23 y132 1).f0) ((rd_T23 y132 1).f1) ((rd_T23 y132 1).f2) ((rd_T23 y132 1).f3)).bind fun t159 => (if t159 = 310 then ((geo_Lpns.f k2 ((rd_T23 y132 1).f0) ((rd_T23 y132 1).f1) ((rd_T23 y132 1).f2) ((rd_T23 y132 1).f3) 0).bind fun t160 => (if t160 = 976 then ((geo_Lpns.f k2 ((rd_T23 y132 1).f0) ((rd_T23 y132 1).f1) ((rd_T23 y132 1).f2) ((rd_T23 y132 1).f3) 60).bind fun t161 => (if t161 = 16 then ((geo_Lpns.f k2 ((rd_T23 y132 1).f0) ((rd_T23 y132 1).f1) ((rd_T23 y132 1).f2) ((rd_T23 y132 1).f3) 61).bind fun t162 => (if t162 = 0 then ((geo_Lpns.f k2 ((rd_T23 y132 1).f0) ((rd_T23 y132 1).f1) ((rd_T23 y132 1).f2) ((rd_T23 y132 1).f3) (-1)).bind fun t163 => (if t163 = 0 then (if 0 < (y132.length : Int) then ((geo_Lpns.f k2 ((rd_T23 y132 0).f0) ((rd_T23 y132 0).f1) ((rd_T23 y132 0).f2) ((rd_T23 y132 0).f3) 0).bind fun t165 => (some (t165 == 1))) else (none)) else (some false))) else (some false))) else (some false))) else (some false))) else (some false))) else (some false)) = some r := H
         have A58 := Aside0.mk A580
         clear A580
         by_cases c59 : t158 = 2048
         ·
          rw [if_pos c59] at H
          have c59b0 : (t158 == 2048) = true := beq_iff_eq.mpr c59
          have c59b1 : (t158 != 2048) = false := bne_eq_false_iff_eq.mpr c59
          clear c59
          replace H := Option.bind_eq_some_iff.mp H
          obtain ⟨t159, A600, H⟩ := H
          replace H : (if t159 = 310 then ((geo_Lpns.f k2 ((rd_T23 y132 1).f0) ((rd_T23 y132 1).f1) ((rd_T23 y132 1).f2) ((rd_T23 y132 1).f3) 0).bind fun t160 => (if t160 = 976 then ((geo_Lpns.f k2 ((rd_T23 y132 1).f0) ((rd_T23 y132 1).f1) ((rd_T23 y132 1).f2) ((rd_T23 y132 1).f3) 60).bind fun t161 => (if t161 = 16 then ((geo_Lpns.f k2 ((rd_T23 y132 1).f0) ((rd_T23 y132 1).f1) ((rd_T23 y132 1).f2) ((rd_T23 y132 1).f3) 61).bind fun t162 => (if t162 = 0 then ((geo_Lpns.f k2 ((rd_T23 y132 1).f0) ((rd_T23 y132 1).f1) ((rd_T23 y132 1).f2) ((rd_T23 y132 1).f3) (-1)).bind fun t163 => (if t163 = 0 then (if 0 < (y132.length : Int) then ((geo_Lpns.f k2 ((rd_T23 y132 0).f0) ((rd_T23 y132 0).f1) ((rd_T23 y132 0).f2) ((rd_T23 y132 0).f3) 0).bind fun t165 => (some (t165 == 1))) else (none)) else (some false))) else (some false))) else (some false))) else (some false))) else (some false)) = some r := H
          have A60 := Aside0.mk A600
          clear A600
          by_cases c61 : t159 = 310
          ·
           rw [if_pos c61] at H
           have c61b0 : (t159 == 310) = true := beq_iff_eq.mpr c61
           have c61b1 : (t159 != 310) = false := bne_eq_false_iff_eq.mpr c61
           clear c61
           replace H := Option.bind_eq_some_iff.mp H
           obtain ⟨t160, A620, H⟩ := H
           replace H : (if t160 = 976 then ((geo_Lpns.f k2 ((rd_T23 y132 1).f0) ((rd_T23 y132 1).f1) ((rd_T23 y132 1).f2) ((rd_T23 y132 1).f3) 60).bind fun t161 => (if t161 = 16 then ((geo_Lpns.f k2 ((rd_T23 y132 1).f0) ((rd_T23 y132 1).f1) ((rd_T23 y132 1).f2) ((rd_T23 y132 1).f3) 61).bind fun t162 => (if t162 = 0 then ((geo_Lpns.f k2 ((rd_T23 y132 1).f0) ((rd_T23 y132 1).f1) ((rd_T23 y132 1).f2) ((rd_T23 y132 1).f3) (-1)).bind fun t163 => (if t163 = 0 then (if 0 < (y132.length : Int) then ((geo_Lpns.f k2 ((rd_T23 y132 0).f0) ((rd_T23 y132 0).f1) ((rd_T23 y132 0).f2) ((rd_T23 y132 0).f3) 0).bind fun t165 => (some (t165 == 1))) else (none)) else (some false))) else (some false))) else (some false))) else (some false)) = some r := H
           have A62 := Aside0.mk A620
           clear A620
           by_cases c63 : t160 = 976
           ·
            rw [if_pos c63] at H
            have c63b0 : (t160 == 976) = true := beq_iff_eq.mpr c63
            have c63b1 : (t160 != 976) = false := bne_eq_false_iff_eq.mpr c63
            clear c63
            replace H := Option.bind_eq_some_iff.mp H
            obtain ⟨t161, A640, H⟩ := H
            replace H : (if t161 = 16 then ((geo_Lpns.f k2 ((rd_T23 y132 1).f0) ((rd_T23 y132 1).f1) ((rd_T23 y132 1).f2) ((rd_T23 y132 1).f3) 61).bind fun t162 => (if t162 = 0 then ((geo_Lpns.f k2 ((rd_T23 y132 1).f0) ((rd_T23 y132 1).f1) ((rd_T23 y132 1).f2) ((rd_T23 y132 1).f3) (-1)).bind fun t163 => (if t163 = 0 then (if 0 < (y132.length : Int) then ((geo_Lpns.f k2 ((rd_T23 y132 0).f0) ((rd_T23 y132 0).f1) ((rd_T23 y132 0).f2) ((rd_T23 y132 0).f3) 0).bind fun t165 => (some (t165 == 1))) else (none)) else (some false))) else (some false))) else (some false)) = some r := H
            have A64 := Aside0.mk A640
            clear A640
            by_cases c65 : t161 = 16
            ·
             rw [if_pos c65] at H
             have c65b0 : (t161 == 16) = true := beq_iff_eq.mpr c65
             have c65b1 : (t161 != 16) = false := bne_eq_false_iff_eq.mpr c65
             clear c65
             replace H := Option.bind_eq_some_iff.mp H
             obtain ⟨t162, A660, H⟩ := H
             replace H : (if t162 = 0 then ((geo_Lpns.f k2 ((rd_T23 y132 1).f0) ((rd_T23 y132 1).f1) ((rd_T23 y132 1).f2) ((rd_T23 y132 1).f3) (-1)).bind fun t163 => (if t163 = 0 then (if 0 < (y132.length : Int) then ((geo_Lpns.f k2 ((rd_T23 y132 0).f0) ((rd_T23 y132 0).f1) ((rd_T23 y132 0).f2) ((rd_T23 y132 0).f3) 0).bind fun t165 => (some (t165 == 1))) else (none)) else (some false))) else (some false)) = some r := H
             have A66 := Aside0.mk A660
             clear A660
             by_cases c67 : t162 = 0
             ·
              rw [if_pos c67] at H
              have c67b0 : (t162 == 0) = true := beq_iff_eq.mpr c67
              have c67b1 : (t162 != 0) = false := bne_eq_false_iff_eq.mpr c67
              clear c67
              replace H := Option.bind_eq_some_iff.mp H
              obtain ⟨t163, A680, H⟩ := H
              replace H : (if t163 = 0 then (if 0 < (y132.length : Int) then ((geo_Lpns.f k2 ((rd_T23 y132 0).f0) ((rd_T23 y132 0).f1) ((rd_T23 y132 0).f2) ((rd_T23 y132 0).f3) 0).bind fun t165 => (some (t165 == 1))) else (none)) else (some false)) = some r := H
              have A68 := Aside0.mk A680
              clear A680
              by_cases c69 : t163 = 0
              ·
               rw [if_pos c69] at H
               have c69b0 : (t163 == 0) = true := beq_iff_eq.mpr c69
               have c69b1 : (t163 != 0) = false := bne_eq_false_iff_eq.mpr c69
               clear c69
               by_cases c70 : 0 < (y132.length : Int)
               ·
                rw [if_pos c70] at H
                have c70b0 : decide (0 < (y132.length : Int)) = true := decide_eq_true c70
                have c70b1 : decide (0 < y132.length) = true := decide_eq_true (by omega)
                clear c70
                replace H := Option.bind_eq_some_iff.mp H
                obtain ⟨t165, A710, H⟩ := H
                replace H : (some (t165 == 1)) = some r := H
                have A71 := Aside0.mk A710
                clear A710
                obtain rfl := Option.some.inj H
                obtain ⟨Ao72, co72, eo72⟩ := Kd.R_slice HO_2.out
                subst eo72
                have p156 : 0 ≤ (1 : Int) := (by omega)
                have q156 : 1 < (y132.length : Int) := of_decide_eq_true (by first | (with_reducible assumption) | assumption)
                obtain ⟨ad156, e156, hx156_0, hx156_1, hx156_2, hx156_3⟩ := at_T23 (Kd.R_reads' HO_1.out).2.2 1 p156 q156
                cases e156
                (try simp only [show (1 : Int).toNat = 1 from rfl, Nat.reduceMul, Nat.reduceEqDiff, Go.Addr.add, ↓reduceIte] at hx156_0)
                (try simp only [show (1 : Int).toNat = 1 from rfl, Nat.reduceMul, Nat.reduceEqDiff, Go.Addr.add, ↓reduceIte] at hx156_1)
                (try simp only [show (1 : Int).toNat = 1 from rfl, Nat.reduceMul, Nat.reduceEqDiff, Go.Addr.add, ↓reduceIte] at hx156_2)
                (try simp only [show (1 : Int).toNat = 1 from rfl, Nat.reduceMul, Nat.reduceEqDiff, Go.Addr.add, ↓reduceIte] at hx156_3)
                have qi156 : (1 < y132.length) = True := eq_true (by omega)
                (try rw [show ((1 : Int)).toNat = 1 from rfl] at hx156_0)
                (try rw [show 1 * 4 = 4 from rfl] at hx156_0)
                (try rw [show ((1 : Int)).toNat = 1 from rfl] at hx156_1)
                (try rw [show 1 * 4 = 4 from rfl] at hx156_1)
                (try rw [show ((1 : Int)).toNat = 1 from rfl] at hx156_2)
                (try rw [show 1 * 4 = 4 from rfl] at hx156_2)
                (try rw [show ((1 : Int)).toNat = 1 from rfl] at hx156_3)
                (try rw [show 1 * 4 = 4 from rfl] at hx156_3)
                replace p156 := eq_true p156
                replace q156 := eq_true q156
                go_wp2_with (first | ((with_reducible refine gate_dst (N := 5) rfl ?_); refine box_event ?hg (N := 5) ?hd (cs := #[.int .i64 0, .int .i64 0, .int .i64 0, .int .i64 0]) (t := 23) ?hr ?_; (case hd => rfl); (case hg => rfl); (case hr => first | (go_simp; done) | (go_simp; rfl)); intro gb157 hg w73 hbox hb; have n0_ := Aside0.mk (Kd.R_below (Kd.R_elderB (by (with_reducible repeat (first | apply Kd.R_alloc | apply Kd.R_drewN | apply Kd.R_drew)); exact HO_1.out) gb157 (Nat.le_of_eq hg.symm)) hb); have n1_ := Aside0.mk (Kd.R_below (Kd.R_elderB (by (with_reducible repeat (first | apply Kd.R_alloc | apply Kd.R_drewN | apply Kd.R_drew)); exact HO_2.out) gb157 (Nat.le_of_eq hg.symm)) hb); have n2_ := Aside0.mk (below_step (by repeat (first | (with_reducible first | exact HB.out | apply below_alloc | apply pw_below_drewN | apply below_drew1) | exact HB.out)) hb); have n3_ := Aside0.mk (hbox); have n4_ := Aside0.mk ((by rw [hg]; exact (below_size (by repeat (first | (with_reducible first | exact HB.out | apply below_alloc | apply pw_below_drewN | apply below_drew1) | exact HB.out))) : w.heap.size ≤ gb157)); have n5_ := Aside0.mk ((by rw [hg]; exact (below_size (by repeat (first | (with_reducible first | exact HB.out | apply below_alloc | apply pw_below_drewN | apply below_drew1) | exact HB.out))) : w.heap.size ≤ gb157)); clear HO_1; clear HO_2; clear HB; have HO_1 := n0_; have HO_2 := n1_; have HB := n2_; have BK157 := n3_; have GW157 := n4_; have GE157 := n5_; clear n0_ n1_ n2_ n3_ n4_ n5_; clear hb hbox hg; have hcz74_0 : w73.cell? ⟨gb157, 0, none⟩ = some (.int .i64 0) := (blk_cell BK157.out 0).trans rfl; have hcz74_1 : w73.cell? ⟨gb157, 1, none⟩ = some (.int .i64 0) := (blk_cell BK157.out 1).trans rfl; have hcz74_2 : w73.cell? ⟨gb157, 2, none⟩ = some (.int .i64 0) := (blk_cell BK157.out 2).trans rfl; have hcz74_3 : w73.cell? ⟨gb157, 3, none⟩ = some (.int .i64 0) := (blk_cell BK157.out 3).trans rfl; have hfz74_0 := blk_frozen BK157.out 0; have hfz74_1 := blk_frozen BK157.out 1; have hfz74_2 := blk_frozen BK157.out 2; have hfz74_3 := blk_frozen BK157.out 3) | ((with_reducible refine gate_callee (f := 17) rfl ?_); refine goesL_ (some 111) rfl rfl Try.func17 (by kernel_rfl) rfl #[.agg #[.int .i64 ((rd_T23 y132 1).f0), .int .i64 ((rd_T23 y132 1).f1), .int .i64 ((rd_T23 y132 1).f2), .int .i64 ((rd_T23 y132 1).f3)]] rfl (by (try simp only [List.map_toArray, List.map_cons, List.map_nil]); first | done | rfl | (simp only [List.length_drop, List.length_take]; rfl)) ?_; (with_reducible refine (geo_Count.calls ((rd_T23 y132 1).f0) ((rd_T23 y132 1).f1) ((rd_T23 y132 1).f2) ((rd_T23 y132 1).f3) t158 _ A58.out).mono ?_); rintro e w75 ⟨rfl, hb⟩; refine ⟨_, rfl, ?_⟩; have n0_ := Aside0.mk (Kd.R_below (by (with_reducible repeat (first | apply Kd.R_alloc | apply Kd.R_drewN | apply Kd.R_drew)); exact (Kd.R_mono (Kd.R_far (p := ⟨gb157, 3, none⟩) (Kd.R_far (p := ⟨gb157, 2, none⟩) (Kd.R_far (p := ⟨gb157, 1, none⟩) (Kd.R_far (p := ⟨gb157, 0, none⟩) (Kd.R_mono HO_1.out (fun k_ hk => (⟨hk, hk.2⟩ : _ ∧ k_ ≠ gb157))) (fun _ hk => hk.2) (.int .i64 ((rd_T23 y132 1).f0))) (fun _ hk => hk.2) (.int .i64 ((rd_T23 y132 1).f1))) (fun _ hk => hk.2) (.int .i64 ((rd_T23 y132 1).f2))) (fun _ hk => hk.2) (.int .i64 ((rd_T23 y132 1).f3))) (fun _ h_ => h_.1))) hb); have n1_ := Aside0.mk (Kd.R_below (by (with_reducible repeat (first | apply Kd.R_alloc | apply Kd.R_drewN | apply Kd.R_drew)); exact (Kd.R_mono (Kd.R_far (p := ⟨gb157, 3, none⟩) (Kd.R_far (p := ⟨gb157, 2, none⟩) (Kd.R_far (p := ⟨gb157, 1, none⟩) (Kd.R_far (p := ⟨gb157, 0, none⟩) (Kd.R_mono HO_2.out (fun k_ hk => (⟨hk, hk.2⟩ : _ ∧ k_ ≠ gb157))) (fun _ hk => hk.2) (.int .i64 ((rd_T23 y132 1).f0))) (fun _ hk => hk.2) (.int .i64 ((rd_T23 y132 1).f1))) (fun _ hk => hk.2) (.int .i64 ((rd_T23 y132 1).f2))) (fun _ hk => hk.2) (.int .i64 ((rd_T23 y132 1).f3))) (fun _ h_ => h_.1))) hb); have n2_ := Aside0.mk (blk_below (g := gb157) (o := .cells #[.int .i64 ((rd_T23 y132 1).f0), .int .i64 ((rd_T23 y132 1).f1), .int .i64 ((rd_T23 y132 1).f2), .int .i64 ((rd_T23 y132 1).f3)] 23 (0, 0)) (by (with_reducible repeat (first | refine blk_drewN ?_ _ | refine blk_drew ?_ | refine blk_alloc ?_ _)); refine blk_put (cs := #[.int .i64 ((rd_T23 y132 1).f0), .int .i64 ((rd_T23 y132 1).f1), .int .i64 ((rd_T23 y132 1).f2), .int .i64 0]) ?_ 3 _ rfl; (with_reducible repeat (first | refine blk_drewN ?_ _ | refine blk_drew ?_ | refine blk_alloc ?_ _)); refine blk_put (cs := #[.int .i64 ((rd_T23 y132 1).f0), .int .i64 ((rd_T23 y132 1).f1), .int .i64 0, .int .i64 0]) ?_ 2 _ rfl; (with_reducible repeat (first | refine blk_drewN ?_ _ | refine blk_drew ?_ | refine blk_alloc ?_ _)); refine blk_put (cs := #[.int .i64 ((rd_T23 y132 1).f0), .int .i64 0, .int .i64 0, .int .i64 0]) ?_ 1 _ rfl; (with_reducible repeat (first | refine blk_drewN ?_ _ | refine blk_drew ?_ | refine blk_alloc ?_ _)); refine blk_put (cs := #[.int .i64 0, .int .i64 0, .int .i64 0, .int .i64 0]) ?_ 0 _ rfl; (with_reducible repeat (first | refine blk_drewN ?_ _ | refine blk_drew ?_ | refine blk_alloc ?_ _)); exact BK157.out) hb); have n3_ := Aside0.mk (below_step (by repeat (first | (with_reducible first | exact HB.out | apply below_alloc | apply pw_below_drewN | apply below_drew1 | refine below_set ?_ GE157.out) | exact HB.out)) hb); clear HO_1; clear HO_2; clear BK157; clear HB; have HO_1 := n0_; have HO_2 := n1_; have BK157 := n2_; have HB := n3_; clear n0_ n1_ n2_ n3_; (try clear hb); (try clear hb2); (try clear hk); (try clear hi); have hcz76_0 : w75.cell? ⟨gb157, 0, none⟩ = some (.int .i64 ((rd_T23 y132 1).f0)) := (blk_cell BK157.out 0).trans rfl; have hcz76_1 : w75.cell? ⟨gb157, 1, none⟩ = some (.int .i64 ((rd_T23 y132 1).f1)) := (blk_cell BK157.out 1).trans rfl; have hcz76_2 : w75.cell? ⟨gb157, 2, none⟩ = some (.int .i64 ((rd_T23 y132 1).f2)) := (blk_cell BK157.out 2).trans rfl; have hcz76_3 : w75.cell? ⟨gb157, 3, none⟩ = some (.int .i64 ((rd_T23 y132 1).f3)) := (blk_cell BK157.out 3).trans rfl; have hfz76_0 := blk_frozen BK157.out 0; have hfz76_1 := blk_frozen BK157.out 1; have hfz76_2 := blk_frozen BK157.out 2; have hfz76_3 := blk_frozen BK157.out 3) | (go_at_call 15; (with_reducible refine (geo_Size.calls ((rd_T23 y132 1).f0) ((rd_T23 y132 1).f1) ((rd_T23 y132 1).f2) ((rd_T23 y132 1).f3) t159 _ A60.out).mono ?_); rintro e w77 ⟨rfl, hb⟩; have n0_ := Aside0.mk (Kd.R_below (by (with_reducible repeat (first | apply Kd.R_alloc | apply Kd.R_drewN | apply Kd.R_drew)); exact HO_1.out) hb); have n1_ := Aside0.mk (Kd.R_below (by (with_reducible repeat (first | apply Kd.R_alloc | apply Kd.R_drewN | apply Kd.R_drew)); exact HO_2.out) hb); have n2_ := Aside0.mk (blk_below (g := gb157) (o := .cells #[.int .i64 ((rd_T23 y132 1).f0), .int .i64 ((rd_T23 y132 1).f1), .int .i64 ((rd_T23 y132 1).f2), .int .i64 ((rd_T23 y132 1).f3)] 23 (0, 0)) (by (with_reducible repeat (first | refine blk_drewN ?_ _ | refine blk_drew ?_ | refine blk_alloc ?_ _)); exact BK157.out) hb); have n3_ := Aside0.mk (below_step (by repeat (first | (with_reducible first | exact HB.out | apply below_alloc | apply pw_below_drewN | apply below_drew1 | refine below_set ?_ GE157.out) | exact HB.out)) hb); clear HO_1; clear HO_2; clear BK157; clear HB; have HO_1 := n0_; have HO_2 := n1_; have BK157 := n2_; have HB := n3_; clear n0_ n1_ n2_ n3_; (try clear hb); (try clear hb2); (try clear hk); (try clear hi); have hcz78_0 : w77.cell? ⟨gb157, 0, none⟩ = some (.int .i64 ((rd_T23 y132 1).f0)) := (blk_cell BK157.out 0).trans rfl; have hcz78_1 : w77.cell? ⟨gb157, 1, none⟩ = some (.int .i64 ((rd_T23 y132 1).f1)) := (blk_cell BK157.out 1).trans rfl; have hcz78_2 : w77.cell? ⟨gb157, 2, none⟩ = some (.int .i64 ((rd_T23 y132 1).f2)) := (blk_cell BK157.out 2).trans rfl; have hcz78_3 : w77.cell? ⟨gb157, 3, none⟩ = some (.int .i64 ((rd_T23 y132 1).f3)) := (blk_cell BK157.out 3).trans rfl; have hfz78_0 := blk_frozen BK157.out 0; have hfz78_1 := blk_frozen BK157.out 1; have hfz78_2 := blk_frozen BK157.out 2; have hfz78_3 := blk_frozen BK157.out 3) | (go_at_call 18; (with_reducible refine (geo_Lpns.calls k2 ((rd_T23 y132 1).f0) ((rd_T23 y132 1).f1) ((rd_T23 y132 1).f2) ((rd_T23 y132 1).f3) 0 t160 _ A62.out).mono ?_); rintro e w79 ⟨rfl, hb⟩; have n0_ := Aside0.mk (Kd.R_below (by (with_reducible repeat (first | apply Kd.R_alloc | apply Kd.R_drewN | apply Kd.R_drew)); exact HO_1.out) hb); have n1_ := Aside0.mk (Kd.R_below (by (with_reducible repeat (first | apply Kd.R_alloc | apply Kd.R_drewN | apply Kd.R_drew)); exact HO_2.out) hb); have n2_ := Aside0.mk (blk_below (g := gb157) (o := .cells #[.int .i64 ((rd_T23 y132 1).f0), .int .i64 ((rd_T23 y132 1).f1), .int .i64 ((rd_T23 y132 1).f2), .int .i64 ((rd_T23 y132 1).f3)] 23 (0, 0)) (by (with_reducible repeat (first | refine blk_drewN ?_ _ | refine blk_drew ?_ | refine blk_alloc ?_ _)); exact BK157.out) hb); have n3_ := Aside0.mk (below_step (by repeat (first | (with_reducible first | exact HB.out | apply below_alloc | apply pw_below_drewN | apply below_drew1 | refine below_set ?_ GE157.out) | exact HB.out)) hb); clear HO_1; clear HO_2; clear BK157; clear HB; have HO_1 := n0_; have HO_2 := n1_; have BK157 := n2_; have HB := n3_; clear n0_ n1_ n2_ n3_; (try clear hb); (try clear hb2); (try clear hk); (try clear hi); have hcz80_0 : w79.cell? ⟨gb157, 0, none⟩ = some (.int .i64 ((rd_T23 y132 1).f0)) := (blk_cell BK157.out 0).trans rfl; have hcz80_1 : w79.cell? ⟨gb157, 1, none⟩ = some (.int .i64 ((rd_T23 y132 1).f1)) := (blk_cell BK157.out 1).trans rfl; have hcz80_2 : w79.cell? ⟨gb157, 2, none⟩ = some (.int .i64 ((rd_T23 y132 1).f2)) := (blk_cell BK157.out 2).trans rfl; have hcz80_3 : w79.cell? ⟨gb157, 3, none⟩ = some (.int .i64 ((rd_T23 y132 1).f3)) := (blk_cell BK157.out 3).trans rfl; have hfz80_0 := blk_frozen BK157.out 0; have hfz80_1 := blk_frozen BK157.out 1; have hfz80_2 := blk_frozen BK157.out 2; have hfz80_3 := blk_frozen BK157.out 3) | (go_at_call 18; (with_reducible refine (geo_Lpns.calls k2 ((rd_T23 y132 1).f0) ((rd_T23 y132 1).f1) ((rd_T23 y132 1).f2) ((rd_T23 y132 1).f3) 60 t161 _ A64.out).mono ?_); rintro e w81 ⟨rfl, hb⟩; have n0_ := Aside0.mk (Kd.R_below (by (with_reducible repeat (first | apply Kd.R_alloc | apply Kd.R_drewN | apply Kd.R_drew)); exact HO_1.out) hb); have n1_ := Aside0.mk (Kd.R_below (by (with_reducible repeat (first | apply Kd.R_alloc | apply Kd.R_drewN | apply Kd.R_drew)); exact HO_2.out) hb); have n2_ := Aside0.mk (blk_below (g := gb157) (o := .cells #[.int .i64 ((rd_T23 y132 1).f0), .int .i64 ((rd_T23 y132 1).f1), .int .i64 ((rd_T23 y132 1).f2), .int .i64 ((rd_T23 y132 1).f3)] 23 (0, 0)) (by (with_reducible repeat (first | refine blk_drewN ?_ _ | refine blk_drew ?_ | refine blk_alloc ?_ _)); exact BK157.out) hb); have n3_ := Aside0.mk (below_step (by repeat (first | (with_reducible first | exact HB.out | apply below_alloc | apply pw_below_drewN | apply below_drew1 | refine below_set ?_ GE157.out) | exact HB.out)) hb); clear HO_1; clear HO_2; clear BK157; clear HB; have HO_1 := n0_; have HO_2 := n1_; have BK157 := n2_; have HB := n3_; clear n0_ n1_ n2_ n3_; (try clear hb); (try clear hb2); (try clear hk); (try clear hi); have hcz82_0 : w81.cell? ⟨gb157, 0, none⟩ = some (.int .i64 ((rd_T23 y132 1).f0)) := (blk_cell BK157.out 0).trans rfl; have hcz82_1 : w81.cell? ⟨gb157, 1, none⟩ = some (.int .i64 ((rd_T23 y132 1).f1)) := (blk_cell BK157.out 1).trans rfl; have hcz82_2 : w81.cell? ⟨gb157, 2, none⟩ = some (.int .i64 ((rd_T23 y132 1).f2)) := (blk_cell BK157.out 2).trans rfl; have hcz82_3 : w81.cell? ⟨gb157, 3, none⟩ = some (.int .i64 ((rd_T23 y132 1).f3)) := (blk_cell BK157.out 3).trans rfl; have hfz82_0 := blk_frozen BK157.out 0; have hfz82_1 := blk_frozen BK157.out 1; have hfz82_2 := blk_frozen BK157.out 2; have hfz82_3 := blk_frozen BK157.out 3) | (go_at_call 18; (with_reducible refine (geo_Lpns.calls k2 ((rd_T23 y132 1).f0) ((rd_T23 y132 1).f1) ((rd_T23 y132 1).f2) ((rd_T23 y132 1).f3) 61 t162 _ A66.out).mono ?_); rintro e w83 ⟨rfl, hb⟩; have n0_ := Aside0.mk (Kd.R_below (by (with_reducible repeat (first | apply Kd.R_alloc | apply Kd.R_drewN | apply Kd.R_drew)); exact HO_1.out) hb); have n1_ := Aside0.mk (Kd.R_below (by (with_reducible repeat (first | apply Kd.R_alloc | apply Kd.R_drewN | apply Kd.R_drew)); exact HO_2.out) hb); have n2_ := Aside0.mk (blk_below (g := gb157) (o := .cells #[.int .i64 ((rd_T23 y132 1).f0), .int .i64 ((rd_T23 y132 1).f1), .int .i64 ((rd_T23 y132 1).f2), .int .i64 ((rd_T23 y132 1).f3)] 23 (0, 0)) (by (with_reducible repeat (first | refine blk_drewN ?_ _ | refine blk_drew ?_ | refine blk_alloc ?_ _)); exact BK157.out) hb); have n3_ := Aside0.mk (below_step (by repeat (first | (with_reducible first | exact HB.out | apply below_alloc | apply pw_below_drewN | apply below_drew1 | refine below_set ?_ GE157.out) | exact HB.out)) hb); clear HO_1; clear HO_2; clear BK157; clear HB; have HO_1 := n0_; have HO_2 := n1_; have BK157 := n2_; have HB := n3_; clear n0_ n1_ n2_ n3_; (try clear hb); (try clear hb2); (try clear hk); (try clear hi); have hcz84_0 : w83.cell? ⟨gb157, 0, none⟩ = some (.int .i64 ((rd_T23 y132 1).f0)) := (blk_cell BK157.out 0).trans rfl; have hcz84_1 : w83.cell? ⟨gb157, 1, none⟩ = some (.int .i64 ((rd_T23 y132 1).f1)) := (blk_cell BK157.out 1).trans rfl; have hcz84_2 : w83.cell? ⟨gb157, 2, none⟩ = some (.int .i64 ((rd_T23 y132 1).f2)) := (blk_cell BK157.out 2).trans rfl; have hcz84_3 : w83.cell? ⟨gb157, 3, none⟩ = some (.int .i64 ((rd_T23 y132 1).f3)) := (blk_cell BK157.out 3).trans rfl; have hfz84_0 := blk_frozen BK157.out 0; have hfz84_1 := blk_frozen BK157.out 1; have hfz84_2 := blk_frozen BK157.out 2; have hfz84_3 := blk_frozen BK157.out 3) | (go_at_call 18; (with_reducible refine (geo_Lpns.calls k2 ((rd_T23 y132 1).f0) ((rd_T23 y132 1).f1) ((rd_T23 y132 1).f2) ((rd_T23 y132 1).f3) (-1) t163 _ A68.out).mono ?_); rintro e w85 ⟨rfl, hb⟩; have n0_ := Aside0.mk (Kd.R_below (by (with_reducible repeat (first | apply Kd.R_alloc | apply Kd.R_drewN | apply Kd.R_drew)); exact HO_1.out) hb); have n1_ := Aside0.mk (Kd.R_below (by (with_reducible repeat (first | apply Kd.R_alloc | apply Kd.R_drewN | apply Kd.R_drew)); exact HO_2.out) hb); have n2_ := Aside0.mk (blk_below (g := gb157) (o := .cells #[.int .i64 ((rd_T23 y132 1).f0), .int .i64 ((rd_T23 y132 1).f1), .int .i64 ((rd_T23 y132 1).f2), .int .i64 ((rd_T23 y132 1).f3)] 23 (0, 0)) (by (with_reducible repeat (first | refine blk_drewN ?_ _ | refine blk_drew ?_ | refine blk_alloc ?_ _)); exact BK157.out) hb); have n3_ := Aside0.mk (below_step (by repeat (first | (with_reducible first | exact HB.out | apply below_alloc | apply pw_below_drewN | apply below_drew1 | refine below_set ?_ GE157.out) | exact HB.out)) hb); clear HO_1; clear HO_2; clear BK157; clear HB; have HO_1 := n0_; have HO_2 := n1_; have BK157 := n2_; have HB := n3_; clear n0_ n1_ n2_ n3_; (try clear hb); (try clear hb2); (try clear hk); (try clear hi); have p164 : 0 ≤ (0 : Int) := (by omega); have q164 : 0 < (y132.length : Int) := of_decide_eq_true (by first | (with_reducible assumption) | assumption); obtain ⟨ad164, e164, hx164_0, hx164_1, hx164_2, hx164_3⟩ := at_T23 (Kd.R_reads' HO_1.out).2.2 0 p164 q164; obtain rfl : ad156 = ad164 := (by injection e164); have qi164 : (0 < y132.length) = True := eq_true (by omega); (try rw [show ((0 : Int)).toNat = 0 from rfl] at hx164_0); (try rw [show 0 * 4 = 0 from rfl] at hx164_0); (try rw [Addr.add_zero'] at hx164_0); (try rw [show ((0 : Int)).toNat = 0 from rfl] at hx164_1); (try rw [show 0 * 4 = 0 from rfl] at hx164_1); (try rw [Addr.add_zero'] at hx164_1); (try rw [show ((0 : Int)).toNat = 0 from rfl] at hx164_2); (try rw [show 0 * 4 = 0 from rfl] at hx164_2); (try rw [Addr.add_zero'] at hx164_2); (try rw [show ((0 : Int)).toNat = 0 from rfl] at hx164_3); (try rw [show 0 * 4 = 0 from rfl] at hx164_3); (try rw [Addr.add_zero'] at hx164_3); replace p164 := eq_true p164; replace q164 := eq_true q164) | (go_at_call 18; (with_reducible refine (geo_Lpns.calls k2 ((rd_T23 y132 0).f0) ((rd_T23 y132 0).f1) ((rd_T23 y132 0).f2) ((rd_T23 y132 0).f3) 0 t165 _ A71.out).mono ?_); rintro e w86 ⟨rfl, hb⟩; have n0_ := Aside0.mk (Kd.R_below (by (with_reducible repeat (first | apply Kd.R_alloc | apply Kd.R_drewN | apply Kd.R_drew)); exact HO_1.out) hb); have n1_ := Aside0.mk (Kd.R_below (by (with_reducible repeat (first | apply Kd.R_alloc | apply Kd.R_drewN | apply Kd.R_drew)); exact HO_2.out) hb); have n2_ := Aside0.mk (blk_below (g := gb157) (o := .cells #[.int .i64 ((rd_T23 y132 1).f0), .int .i64 ((rd_T23 y132 1).f1), .int .i64 ((rd_T23 y132 1).f2), .int .i64 ((rd_T23 y132 1).f3)] 23 (0, 0)) (by (with_reducible repeat (first | refine blk_drewN ?_ _ | refine blk_drew ?_ | refine blk_alloc ?_ _)); exact BK157.out) hb); have n3_ := Aside0.mk (below_step (by repeat (first | (with_reducible first | exact HB.out | apply below_alloc | apply pw_below_drewN | apply below_drew1 | refine below_set ?_ GE157.out) | exact HB.out)) hb); clear HO_1; clear HO_2; clear BK157; clear HB; have HO_1 := n0_; have HO_2 := n1_; have BK157 := n2_; have HB := n3_; clear n0_ n1_ n2_ n3_; (try clear hb); (try clear hb2); (try clear hk); (try clear hi)))
                go_ret
                exact ⟨by first | rfl | (simp [errW_none, errW_some] <;> rfl) | (simp [*, errW_none, errW_some] <;> rfl), by repeat (first | (with_reducible first | exact HB.out | apply below_alloc | apply pw_below_drewN | apply below_drew1 | refine below_set ?_ GE157.out) | exact HB.out)⟩
               ·
                rw [if_neg c70] at H
                exact absurd H (by simp)
              ·
               rw [if_neg c69] at H
               have c69b0 : (t163 == 0) = false := beq_eq_false_iff_ne.mpr c69
               have c69b1 : (t163 != 0) = true := bne_iff_ne.mpr c69
               obtain rfl := Option.some.inj H
               obtain ⟨Ao87, co87, eo87⟩ := Kd.R_slice HO_2.out
               subst eo87
               have p156 : 0 ≤ (1 : Int) := (by omega)
               have q156 : 1 < (y132.length : Int) := of_decide_eq_true (by first | (with_reducible assumption) | assumption)
               obtain ⟨ad156, e156, hx156_0, hx156_1, hx156_2, hx156_3⟩ := at_T23 (Kd.R_reads' HO_1.out).2.2 1 p156 q156
               cases e156
               (try simp only [show (1 : Int).toNat = 1 from rfl, Nat.reduceMul, Nat.reduceEqDiff, Go.Addr.add, ↓reduceIte] at hx156_0)
               (try simp only [show (1 : Int).toNat = 1 from rfl, Nat.reduceMul, Nat.reduceEqDiff, Go.Addr.add, ↓reduceIte] at hx156_1)
               (try simp only [show (1 : Int).toNat = 1 from rfl, Nat.reduceMul, Nat.reduceEqDiff, Go.Addr.add, ↓reduceIte] at hx156_2)
               (try simp only [show (1 : Int).toNat = 1 from rfl, Nat.reduceMul, Nat.reduceEqDiff, Go.Addr.add, ↓reduceIte] at hx156_3)
               have qi156 : (1 < y132.length) = True := eq_true (by omega)
               (try rw [show ((1 : Int)).toNat = 1 from rfl] at hx156_0)
               (try rw [show 1 * 4 = 4 from rfl] at hx156_0)
               (try rw [show ((1 : Int)).toNat = 1 from rfl] at hx156_1)
               (try rw [show 1 * 4 = 4 from rfl] at hx156_1)
               (try rw [show ((1 : Int)).toNat = 1 from rfl] at hx156_2)
               (try rw [show 1 * 4 = 4 from rfl] at hx156_2)
               (try rw [show ((1 : Int)).toNat = 1 from rfl] at hx156_3)
               (try rw [show 1 * 4 = 4 from rfl] at hx156_3)
               replace p156 := eq_true p156
               replace q156 := eq_true q156
               go_wp2_with (first | ((with_reducible refine gate_dst (N := 5) rfl ?_); refine box_event ?hg (N := 5) ?hd (cs := #[.int .i64 0, .int .i64 0, .int .i64 0, .int .i64 0]) (t := 23) ?hr ?_; (case hd => rfl); (case hg => rfl); (case hr => first | (go_simp; done) | (go_simp; rfl)); intro gb157 hg w88 hbox hb; have n0_ := Aside0.mk (Kd.R_below (Kd.R_elderB (by (with_reducible repeat (first | apply Kd.R_alloc | apply Kd.R_drewN | apply Kd.R_drew)); exact HO_1.out) gb157 (Nat.le_of_eq hg.symm)) hb); have n1_ := Aside0.mk (Kd.R_below (Kd.R_elderB (by (with_reducible repeat (first | apply Kd.R_alloc | apply Kd.R_drewN | apply Kd.R_drew)); exact HO_2.out) gb157 (Nat.le_of_eq hg.symm)) hb); have n2_ := Aside0.mk (below_step (by repeat (first | (with_reducible first | exact HB.out | apply below_alloc | apply pw_below_drewN | apply below_drew1) | exact HB.out)) hb); have n3_ := Aside0.mk (hbox); have n4_ := Aside0.mk ((by rw [hg]; exact (below_size (by repeat (first | (with_reducible first | exact HB.out | apply below_alloc | apply pw_below_drewN | apply below_drew1) | exact HB.out))) : w.heap.size ≤ gb157)); have n5_ := Aside0.mk ((by rw [hg]; exact (below_size (by repeat (first | (with_reducible first | exact HB.out | apply below_alloc | apply pw_below_drewN | apply below_drew1) | exact HB.out))) : w.heap.size ≤ gb157)); clear HO_1; clear HO_2; clear HB; have HO_1 := n0_; have HO_2 := n1_; have HB := n2_; have BK157 := n3_; have GW157 := n4_; have GE157 := n5_; clear n0_ n1_ n2_ n3_ n4_ n5_; clear hb hbox hg; have hcz89_0 : w88.cell? ⟨gb157, 0, none⟩ = some (.int .i64 0) := (blk_cell BK157.out 0).trans rfl; have hcz89_1 : w88.cell? ⟨gb157, 1, none⟩ = some (.int .i64 0) := (blk_cell BK157.out 1).trans rfl; have hcz89_2 : w88.cell? ⟨gb157, 2, none⟩ = some (.int .i64 0) := (blk_cell BK157.out 2).trans rfl; have hcz89_3 : w88.cell? ⟨gb157, 3, none⟩ = some (.int .i64 0) := (blk_cell BK157.out 3).trans rfl; have hfz89_0 := blk_frozen BK157.out 0; have hfz89_1 := blk_frozen BK157.out 1; have hfz89_2 := blk_frozen BK157.out 2; have hfz89_3 := blk_frozen BK157.out 3) | ((with_reducible refine gate_callee (f := 17) rfl ?_); refine goesL_ (some 111) rfl rfl Try.func17 (by kernel_rfl) rfl #[.agg #[.int .i64 ((rd_T23 y132 1).f0), .int .i64 ((rd_T23 y132 1).f1), .int .i64 ((rd_T23 y132 1).f2), .int .i64 ((rd_T23 y132 1).f3)]] rfl (by (try simp only [List.map_toArray, List.map_cons, List.map_nil]); first | done | rfl | (simp only [List.length_drop, List.length_take]; rfl)) ?_; (with_reducible refine (geo_Count.calls ((rd_T23 y132 1).f0) ((rd_T23 y132 1).f1) ((rd_T23 y132 1).f2) ((rd_T23 y132 1).f3) t158 _ A58.out).mono ?_); rintro e w90 ⟨rfl, hb⟩; refine ⟨_, rfl, ?_⟩; have n0_ := Aside0.mk (Kd.R_below (by (with_reducible repeat (first | apply Kd.R_alloc | apply Kd.R_drewN | apply Kd.R_drew)); exact (Kd.R_mono (Kd.R_far (p := ⟨gb157, 3, none⟩) (Kd.R_far (p := ⟨gb157, 2, none⟩) (Kd.R_far (p := ⟨gb157, 1, none⟩) (Kd.R_far (p := ⟨gb157, 0, none⟩) (Kd.R_mono HO_1.out (fun k_ hk => (⟨hk, hk.2⟩ : _ ∧ k_ ≠ gb157))) (fun _ hk => hk.2) (.int .i64 ((rd_T23 y132 1).f0))) (fun _ hk => hk.2) (.int .i64 ((rd_T23 y132 1).f1))) (fun _ hk => hk.2) (.int .i64 ((rd_T23 y132 1).f2))) (fun _ hk => hk.2) (.int .i64 ((rd_T23 y132 1).f3))) (fun _ h_ => h_.1))) hb); have n1_ := Aside0.mk (Kd.R_below (by (with_reducible repeat (first | apply Kd.R_alloc | apply Kd.R_drewN | apply Kd.R_drew)); exact (Kd.R_mono (Kd.R_far (p := ⟨gb157, 3, none⟩) (Kd.R_far (p := ⟨gb157, 2, none⟩) (Kd.R_far (p := ⟨gb157, 1, none⟩) (Kd.R_far (p := ⟨gb157, 0, none⟩) (Kd.R_mono HO_2.out (fun k_ hk => (⟨hk, hk.2⟩ : _ ∧ k_ ≠ gb157))) (fun _ hk => hk.2) (.int .i64 ((rd_T23 y132 1).f0))) (fun _ hk => hk.2) (.int .i64 ((rd_T23 y132 1).f1))) (fun _ hk => hk.2) (.int .i64 ((rd_T23 y132 1).f2))) (fun _ hk => hk.2) (.int .i64 ((rd_T23 y132 1).f3))) (fun _ h_ => h_.1))) hb); have n2_ := Aside0.mk (blk_below (g := gb157) (o := .cells #[.int .i64 ((rd_T23 y132 1).f0), .int .i64 ((rd_T23 y132 1).f1), .int .i64 ((rd_T23 y132 1).f2), .int .i64 ((rd_T23 y132 1).f3)] 23 (0, 0)) (by (with_reducible repeat (first | refine blk_drewN ?_ _ | refine blk_drew ?_ | refine blk_alloc ?_ _)); refine blk_put (cs := #[.int .i64 ((rd_T23 y132 1).f0), .int .i64 ((rd_T23 y132 1).f1), .int .i64 ((rd_T23 y132 1).f2), .int .i64 0]) ?_ 3 _ rfl; (with_reducible repeat (first | refine blk_drewN ?_ _ | refine blk_drew ?_ | refine blk_alloc ?_ _)); refine blk_put (cs := #[.int .i64 ((rd_T23 y132 1).f0), .int .i64 ((rd_T23 y132 1).f1), .int .i64 0, .int .i64 0]) ?_ 2 _ rfl; (with_reducible repeat (first | refine blk_drewN ?_ _ | refine blk_drew ?_ | refine blk_alloc ?_ _)); refine blk_put (cs := #[.int .i64 ((rd_T23 y132 1).f0), .int .i64 0, .int .i64 0, .int .i64 0]) ?_ 1 _ rfl; (with_reducible repeat (first | refine blk_drewN ?_ _ | refine blk_drew ?_ | refine blk_alloc ?_ _)); refine blk_put (cs := #[.int .i64 0, .int .i64 0, .int .i64 0, .int .i64 0]) ?_ 0 _ rfl; (with_reducible repeat (first | refine blk_drewN ?_ _ | refine blk_drew ?_ | refine blk_alloc ?_ _)); exact BK157.out) hb); have n3_ := Aside0.mk (below_step (by repeat (first | (with_reducible first | exact HB.out | apply below_alloc | apply pw_below_drewN | apply below_drew1 | refine below_set ?_ GE157.out) | exact HB.out)) hb); clear HO_1; clear HO_2; clear BK157; clear HB; have HO_1 := n0_; have HO_2 := n1_; have BK157 := n2_; have HB := n3_; clear n0_ n1_ n2_ n3_; (try clear hb); (try clear hb2); (try clear hk); (try clear hi); have hcz91_0 : w90.cell? ⟨gb157, 0, none⟩ = some (.int .i64 ((rd_T23 y132 1).f0)) := (blk_cell BK157.out 0).trans rfl; have hcz91_1 : w90.cell? ⟨gb157, 1, none⟩ = some (.int .i64 ((rd_T23 y132 1).f1)) := (blk_cell BK157.out 1).trans rfl; have hcz91_2 : w90.cell? ⟨gb157, 2, none⟩ = some (.int .i64 ((rd_T23 y132 1).f2)) := (blk_cell BK157.out 2).trans rfl; have hcz91_3 : w90.cell? ⟨gb157, 3, none⟩ = some (.int .i64 ((rd_T23 y132 1).f3)) := (blk_cell BK157.out 3).trans rfl; have hfz91_0 := blk_frozen BK157.out 0; have hfz91_1 := blk_frozen BK157.out 1; have hfz91_2 := blk_frozen BK157.out 2; have hfz91_3 := blk_frozen BK157.out 3) | (go_at_call 15; (with_reducible refine (geo_Size.calls ((rd_T23 y132 1).f0) ((rd_T23 y132 1).f1) ((rd_T23 y132 1).f2) ((rd_T23 y132 1).f3) t159 _ A60.out).mono ?_); rintro e w92 ⟨rfl, hb⟩; have n0_ := Aside0.mk (Kd.R_below (by (with_reducible repeat (first | apply Kd.R_alloc | apply Kd.R_drewN | apply Kd.R_drew)); exact HO_1.out) hb); have n1_ := Aside0.mk (Kd.R_below (by (with_reducible repeat (first | apply Kd.R_alloc | apply Kd.R_drewN | apply Kd.R_drew)); exact HO_2.out) hb); have n2_ := Aside0.mk (blk_below (g := gb157) (o := .cells #[.int .i64 ((rd_T23 y132 1).f0), .int .i64 ((rd_T23 y132 1).f1), .int .i64 ((rd_T23 y132 1).f2), .int .i64 ((rd_T23 y132 1).f3)] 23 (0, 0)) (by (with_reducible repeat (first | refine blk_drewN ?_ _ | refine blk_drew ?_ | refine blk_alloc ?_ _)); exact BK157.out) hb); have n3_ := Aside0.mk (below_step (by repeat (first | (with_reducible first | exact HB.out | apply below_alloc | apply pw_below_drewN | apply below_drew1 | refine below_set ?_ GE157.out) | exact HB.out)) hb); clear HO_1; clear HO_2; clear BK157; clear HB; have HO_1 := n0_; have HO_2 := n1_; have BK157 := n2_; have HB := n3_; clear n0_ n1_ n2_ n3_; (try clear hb); (try clear hb2); (try clear hk); (try clear hi); have hcz93_0 : w92.cell? ⟨gb157, 0, none⟩ = some (.int .i64 ((rd_T23 y132 1).f0)) := (blk_cell BK157.out 0).trans rfl; have hcz93_1 : w92.cell? ⟨gb157, 1, none⟩ = some (.int .i64 ((rd_T23 y132 1).f1)) := (blk_cell BK157.out 1).trans rfl; have hcz93_2 : w92.cell? ⟨gb157, 2, none⟩ = some (.int .i64 ((rd_T23 y132 1).f2)) := (blk_cell BK157.out 2).trans rfl; have hcz93_3 : w92.cell? ⟨gb157, 3, none⟩ = some (.int .i64 ((rd_T23 y132 1).f3)) := (blk_cell BK157.out 3).trans rfl; have hfz93_0 := blk_frozen BK157.out 0; have hfz93_1 := blk_frozen BK157.out 1; have hfz93_2 := blk_frozen BK157.out 2; have hfz93_3 := blk_frozen BK157.out 3) | (go_at_call 18; (with_reducible refine (geo_Lpns.calls k2 ((rd_T23 y132 1).f0) ((rd_T23 y132 1).f1) ((rd_T23 y132 1).f2) ((rd_T23 y132 1).f3) 0 t160 _ A62.out).mono ?_); rintro e w94 ⟨rfl, hb⟩; have n0_ := Aside0.mk (Kd.R_below (by (with_reducible repeat (first | apply Kd.R_alloc | apply Kd.R_drewN | apply Kd.R_drew)); exact HO_1.out) hb); have n1_ := Aside0.mk (Kd.R_below (by (with_reducible repeat (first | apply Kd.R_alloc | apply Kd.R_drewN | apply Kd.R_drew)); exact HO_2.out) hb); have n2_ := Aside0.mk (blk_below (g := gb157) (o := .cells #[.int .i64 ((rd_T23 y132 1).f0), .int .i64 ((rd_T23 y132 1).f1), .int .i64 ((rd_T23 y132 1).f2), .int .i64 ((rd_T23 y132 1).f3)] 23 (0, 0)) (by (with_reducible repeat (first | refine blk_drewN ?_ _ | refine blk_drew ?_ | refine blk_alloc ?_ _)); exact BK157.out) hb); have n3_ := Aside0.mk (below_step (by repeat (first | (with_reducible first | exact HB.out | apply below_alloc | apply pw_below_drewN | apply below_drew1 | refine below_set ?_ GE157.out) | exact HB.out)) hb); clear HO_1; clear HO_2; clear BK157; clear HB; have HO_1 := n0_; have HO_2 := n1_; have BK157 := n2_; have HB := n3_; clear n0_ n1_ n2_ n3_; (try clear hb); (try clear hb2); (try clear hk); (try clear hi); have hcz95_0 : w94.cell? ⟨gb157, 0, none⟩ = some (.int .i64 ((rd_T23 y132 1).f0)) := (blk_cell BK157.out 0).trans rfl; have hcz95_1 : w94.cell? ⟨gb157, 1, none⟩ = some (.int .i64 ((rd_T23 y132 1).f1)) := (blk_cell BK157.out 1).trans rfl; have hcz95_2 : w94.cell? ⟨gb157, 2, none⟩ = some (.int .i64 ((rd_T23 y132 1).f2)) := (blk_cell BK157.out 2).trans rfl; have hcz95_3 : w94.cell? ⟨gb157, 3, none⟩ = some (.int .i64 ((rd_T23 y132 1).f3)) := (blk_cell BK157.out 3).trans rfl; have hfz95_0 := blk_frozen BK157.out 0; have hfz95_1 := blk_frozen BK157.out 1; have hfz95_2 := blk_frozen BK157.out 2; have hfz95_3 := blk_frozen BK157.out 3) | (go_at_call 18; (with_reducible refine (geo_Lpns.calls k2 ((rd_T23 y132 1).f0) ((rd_T23 y132 1).f1) ((rd_T23 y132 1).f2) ((rd_T23 y132 1).f3) 60 t161 _ A64.out).mono ?_); rintro e w96 ⟨rfl, hb⟩; have n0_ := Aside0.mk (Kd.R_below (by (with_reducible repeat (first | apply Kd.R_alloc | apply Kd.R_drewN | apply Kd.R_drew)); exact HO_1.out) hb); have n1_ := Aside0.mk (Kd.R_below (by (with_reducible repeat (first | apply Kd.R_alloc | apply Kd.R_drewN | apply Kd.R_drew)); exact HO_2.out) hb); have n2_ := Aside0.mk (blk_below (g := gb157) (o := .cells #[.int .i64 ((rd_T23 y132 1).f0), .int .i64 ((rd_T23 y132 1).f1), .int .i64 ((rd_T23 y132 1).f2), .int .i64 ((rd_T23 y132 1).f3)] 23 (0, 0)) (by (with_reducible repeat (first | refine blk_drewN ?_ _ | refine blk_drew ?_ | refine blk_alloc ?_ _)); exact BK157.out) hb); have n3_ := Aside0.mk (below_step (by repeat (first | (with_reducible first | exact HB.out | apply below_alloc | apply pw_below_drewN | apply below_drew1 | refine below_set ?_ GE157.out) | exact HB.out)) hb); clear HO_1; clear HO_2; clear BK157; clear HB; have HO_1 := n0_; have HO_2 := n1_; have BK157 := n2_; have HB := n3_; clear n0_ n1_ n2_ n3_; (try clear hb); (try clear hb2); (try clear hk); (try clear hi); have hcz97_0 : w96.cell? ⟨gb157, 0, none⟩ = some (.int .i64 ((rd_T23 y132 1).f0)) := (blk_cell BK157.out 0).trans rfl; have hcz97_1 : w96.cell? ⟨gb157, 1, none⟩ = some (.int .i64 ((rd_T23 y132 1).f1)) := (blk_cell BK157.out 1).trans rfl; have hcz97_2 : w96.cell? ⟨gb157, 2, none⟩ = some (.int .i64 ((rd_T23 y132 1).f2)) := (blk_cell BK157.out 2).trans rfl; have hcz97_3 : w96.cell? ⟨gb157, 3, none⟩ = some (.int .i64 ((rd_T23 y132 1).f3)) := (blk_cell BK157.out 3).trans rfl; have hfz97_0 := blk_frozen BK157.out 0; have hfz97_1 := blk_frozen BK157.out 1; have hfz97_2 := blk_frozen BK157.out 2; have hfz97_3 := blk_frozen BK157.out 3) | (go_at_call 18; (with_reducible refine (geo_Lpns.calls k2 ((rd_T23 y132 1).f0) ((rd_T23 y132 1).f1) ((rd_T23 y132 1).f2) ((rd_T23 y132 1).f3) 61 t162 _ A66.out).mono ?_); rintro e w98 ⟨rfl, hb⟩; have n0_ := Aside0.mk (Kd.R_below (by (with_reducible repeat (first | apply Kd.R_alloc | apply Kd.R_drewN | apply Kd.R_drew)); exact HO_1.out) hb); have n1_ := Aside0.mk (Kd.R_below (by (with_reducible repeat (first | apply Kd.R_alloc | apply Kd.R_drewN | apply Kd.R_drew)); exact HO_2.out) hb); have n2_ := Aside0.mk (blk_below (g := gb157) (o := .cells #[.int .i64 ((rd_T23 y132 1).f0), .int .i64 ((rd_T23 y132 1).f1), .int .i64 ((rd_T23 y132 1).f2), .int .i64 ((rd_T23 y132 1).f3)] 23 (0, 0)) (by (with_reducible repeat (first | refine blk_drewN ?_ _ | refine blk_drew ?_ | refine blk_alloc ?_ _)); exact BK157.out) hb); have n3_ := Aside0.mk (below_step (by repeat (first | (with_reducible first | exact HB.out | apply below_alloc | apply pw_below_drewN | apply below_drew1 | refine below_set ?_ GE157.out) | exact HB.out)) hb); clear HO_1; clear HO_2; clear BK157; clear HB; have HO_1 := n0_; have HO_2 := n1_; have BK157 := n2_; have HB := n3_; clear n0_ n1_ n2_ n3_; (try clear hb); (try clear hb2); (try clear hk); (try clear hi); have hcz99_0 : w98.cell? ⟨gb157, 0, none⟩ = some (.int .i64 ((rd_T23 y132 1).f0)) := (blk_cell BK157.out 0).trans rfl; have hcz99_1 : w98.cell? ⟨gb157, 1, none⟩ = some (.int .i64 ((rd_T23 y132 1).f1)) := (blk_cell BK157.out 1).trans rfl; have hcz99_2 : w98.cell? ⟨gb157, 2, none⟩ = some (.int .i64 ((rd_T23 y132 1).f2)) := (blk_cell BK157.out 2).trans rfl; have hcz99_3 : w98.cell? ⟨gb157, 3, none⟩ = some (.int .i64 ((rd_T23 y132 1).f3)) := (blk_cell BK157.out 3).trans rfl; have hfz99_0 := blk_frozen BK157.out 0; have hfz99_1 := blk_frozen BK157.out 1; have hfz99_2 := blk_frozen BK157.out 2; have hfz99_3 := blk_frozen BK157.out 3) | (go_at_call 18; (with_reducible refine (geo_Lpns.calls k2 ((rd_T23 y132 1).f0) ((rd_T23 y132 1).f1) ((rd_T23 y132 1).f2) ((rd_T23 y132 1).f3) (-1) t163 _ A68.out).mono ?_); rintro e w100 ⟨rfl, hb⟩; have n0_ := Aside0.mk (Kd.R_below (by (with_reducible repeat (first | apply Kd.R_alloc | apply Kd.R_drewN | apply Kd.R_drew)); exact HO_1.out) hb); have n1_ := Aside0.mk (Kd.R_below (by (with_reducible repeat (first | apply Kd.R_alloc | apply Kd.R_drewN | apply Kd.R_drew)); exact HO_2.out) hb); have n2_ := Aside0.mk (blk_below (g := gb157) (o := .cells #[.int .i64 ((rd_T23 y132 1).f0), .int .i64 ((rd_T23 y132 1).f1), .int .i64 ((rd_T23 y132 1).f2), .int .i64 ((rd_T23 y132 1).f3)] 23 (0, 0)) (by (with_reducible repeat (first | refine blk_drewN ?_ _ | refine blk_drew ?_ | refine blk_alloc ?_ _)); exact BK157.out) hb); have n3_ := Aside0.mk (below_step (by repeat (first | (with_reducible first | exact HB.out | apply below_alloc | apply pw_below_drewN | apply below_drew1 | refine below_set ?_ GE157.out) | exact HB.out)) hb); clear HO_1; clear HO_2; clear BK157; clear HB; have HO_1 := n0_; have HO_2 := n1_; have BK157 := n2_; have HB := n3_; clear n0_ n1_ n2_ n3_; (try clear hb); (try clear hb2); (try clear hk); (try clear hi)))
               go_ret
               exact ⟨by first | rfl | (simp [errW_none, errW_some] <;> rfl) | (simp [*, errW_none, errW_some] <;> rfl), by repeat (first | (with_reducible first | exact HB.out | apply below_alloc | apply pw_below_drewN | apply below_drew1 | refine below_set ?_ GE157.out) | exact HB.out)⟩
             ·
              rw [if_neg c67] at H
              have c67b0 : (t162 == 0) = false := beq_eq_false_iff_ne.mpr c67
              have c67b1 : (t162 != 0) = true := bne_iff_ne.mpr c67
              obtain rfl := Option.some.inj H
              obtain ⟨Ao101, co101, eo101⟩ := Kd.R_slice HO_2.out
              subst eo101
              have p156 : 0 ≤ (1 : Int) := (by omega)
              have q156 : 1 < (y132.length : Int) := of_decide_eq_true (by first | (with_reducible assumption) | assumption)
              obtain ⟨ad156, e156, hx156_0, hx156_1, hx156_2, hx156_3⟩ := at_T23 (Kd.R_reads' HO_1.out).2.2 1 p156 q156
              cases e156
              (try simp only [show (1 : Int).toNat = 1 from rfl, Nat.reduceMul, Nat.reduceEqDiff, Go.Addr.add, ↓reduceIte] at hx156_0)
              (try simp only [show (1 : Int).toNat = 1 from rfl, Nat.reduceMul, Nat.reduceEqDiff, Go.Addr.add, ↓reduceIte] at hx156_1)
              (try simp only [show (1 : Int).toNat = 1 from rfl, Nat.reduceMul, Nat.reduceEqDiff, Go.Addr.add, ↓reduceIte] at hx156_2)
              (try simp only [show (1 : Int).toNat = 1 from rfl, Nat.reduceMul, Nat.reduceEqDiff, Go.Addr.add, ↓reduceIte] at hx156_3)
              have qi156 : (1 < y132.length) = True := eq_true (by omega)
              (try rw [show ((1 : Int)).toNat = 1 from rfl] at hx156_0)
              (try rw [show 1 * 4 = 4 from rfl] at hx156_0)
              (try rw [show ((1 : Int)).toNat = 1 from rfl] at hx156_1)
              (try rw [show 1 * 4 = 4 from rfl] at hx156_1)
              (try rw [show ((1 : Int)).toNat = 1 from rfl] at hx156_2)
              (try rw [show 1 * 4 = 4 from rfl] at hx156_2)
              (try rw [show ((1 : Int)).toNat = 1 from rfl] at hx156_3)
              (try rw [show 1 * 4 = 4 from rfl] at hx156_3)
              replace p156 := eq_true p156
              replace q156 := eq_true q156
              go_wp2_with (first | ((with_reducible refine gate_dst (N := 5) rfl ?_); refine box_event ?hg (N := 5) ?hd (cs := #[.int .i64 0, .int .i64 0, .int .i64 0, .int .i64 0]) (t := 23) ?hr ?_; (case hd => rfl); (case hg => rfl); (case hr => first | (go_simp; done) | (go_simp; rfl)); intro gb157 hg w102 hbox hb; have n0_ := Aside0.mk (Kd.R_below (Kd.R_elderB (by (with_reducible repeat (first | apply Kd.R_alloc | apply Kd.R_drewN | apply Kd.R_drew)); exact HO_1.out) gb157 (Nat.le_of_eq hg.symm)) hb); have n1_ := Aside0.mk (Kd.R_below (Kd.R_elderB (by (with_reducible repeat (first | apply Kd.R_alloc | apply Kd.R_drewN | apply Kd.R_drew)); exact HO_2.out) gb157 (Nat.le_of_eq hg.symm)) hb); have n2_ := Aside0.mk (below_step (by repeat (first | (with_reducible first | exact HB.out | apply below_alloc | apply pw_below_drewN | apply below_drew1) | exact HB.out)) hb); have n3_ := Aside0.mk (hbox); have n4_ := Aside0.mk ((by rw [hg]; exact (below_size (by repeat (first | (with_reducible first | exact HB.out | apply below_alloc | apply pw_below_drewN | apply below_drew1) | exact HB.out))) : w.heap.size ≤ gb157)); have n5_ := Aside0.mk ((by rw [hg]; exact (below_size (by repeat (first | (with_reducible first | exact HB.out | apply below_alloc | apply pw_below_drewN | apply below_drew1) | exact HB.out))) : w.heap.size ≤ gb157)); clear HO_1; clear HO_2; clear HB; have HO_1 := n0_; have HO_2 := n1_; have HB := n2_; have BK157 := n3_; have GW157 := n4_; have GE157 := n5_; clear n0_ n1_ n2_ n3_ n4_ n5_; clear hb hbox hg; have hcz103_0 : w102.cell? ⟨gb157, 0, none⟩ = some (.int .i64 0) := (blk_cell BK157.out 0).trans rfl; have hcz103_1 : w102.cell? ⟨gb157, 1, none⟩ = some (.int .i64 0) := (blk_cell BK157.out 1).trans rfl; have hcz103_2 : w102.cell? ⟨gb157, 2, none⟩ = some (.int .i64 0) := (blk_cell BK157.out 2).trans rfl; have hcz103_3 : w102.cell? ⟨gb157, 3, none⟩ = some (.int .i64 0) := (blk_cell BK157.out 3).trans rfl; have hfz103_0 := blk_frozen BK157.out 0; have hfz103_1 := blk_frozen BK157.out 1; have hfz103_2 := blk_frozen BK157.out 2; have hfz103_3 := blk_frozen BK157.out 3) | ((with_reducible refine gate_callee (f := 17) rfl ?_); refine goesL_ (some 111) rfl rfl Try.func17 (by kernel_rfl) rfl #[.agg #[.int .i64 ((rd_T23 y132 1).f0), .int .i64 ((rd_T23 y132 1).f1), .int .i64 ((rd_T23 y132 1).f2), .int .i64 ((rd_T23 y132 1).f3)]] rfl (by (try simp only [List.map_toArray, List.map_cons, List.map_nil]); first | done | rfl | (simp only [List.length_drop, List.length_take]; rfl)) ?_; (with_reducible refine (geo_Count.calls ((rd_T23 y132 1).f0) ((rd_T23 y132 1).f1) ((rd_T23 y132 1).f2) ((rd_T23 y132 1).f3) t158 _ A58.out).mono ?_); rintro e w104 ⟨rfl, hb⟩; refine ⟨_, rfl, ?_⟩; have n0_ := Aside0.mk (Kd.R_below (by (with_reducible repeat (first | apply Kd.R_alloc | apply Kd.R_drewN | apply Kd.R_drew)); exact (Kd.R_mono (Kd.R_far (p := ⟨gb157, 3, none⟩) (Kd.R_far (p := ⟨gb157, 2, none⟩) (Kd.R_far (p := ⟨gb157, 1, none⟩) (Kd.R_far (p := ⟨gb157, 0, none⟩) (Kd.R_mono HO_1.out (fun k_ hk => (⟨hk, hk.2⟩ : _ ∧ k_ ≠ gb157))) (fun _ hk => hk.2) (.int .i64 ((rd_T23 y132 1).f0))) (fun _ hk => hk.2) (.int .i64 ((rd_T23 y132 1).f1))) (fun _ hk => hk.2) (.int .i64 ((rd_T23 y132 1).f2))) (fun _ hk => hk.2) (.int .i64 ((rd_T23 y132 1).f3))) (fun _ h_ => h_.1))) hb); have n1_ := Aside0.mk (Kd.R_below (by (with_reducible repeat (first | apply Kd.R_alloc | apply Kd.R_drewN | apply Kd.R_drew)); exact (Kd.R_mono (Kd.R_far (p := ⟨gb157, 3, none⟩) (Kd.R_far (p := ⟨gb157, 2, none⟩) (Kd.R_far (p := ⟨gb157, 1, none⟩) (Kd.R_far (p := ⟨gb157, 0, none⟩) (Kd.R_mono HO_2.out (fun k_ hk => (⟨hk, hk.2⟩ : _ ∧ k_ ≠ gb157))) (fun _ hk => hk.2) (.int .i64 ((rd_T23 y132 1).f0))) (fun _ hk => hk.2) (.int .i64 ((rd_T23 y132 1).f1))) (fun _ hk => hk.2) (.int .i64 ((rd_T23 y132 1).f2))) (fun _ hk => hk.2) (.int .i64 ((rd_T23 y132 1).f3))) (fun _ h_ => h_.1))) hb); have n2_ := Aside0.mk (blk_below (g := gb157) (o := .cells #[.int .i64 ((rd_T23 y132 1).f0), .int .i64 ((rd_T23 y132 1).f1), .int .i64 ((rd_T23 y132 1).f2), .int .i64 ((rd_T23 y132 1).f3)] 23 (0, 0)) (by (with_reducible repeat (first | refine blk_drewN ?_ _ | refine blk_drew ?_ | refine blk_alloc ?_ _)); refine blk_put (cs := #[.int .i64 ((rd_T23 y132 1).f0), .int .i64 ((rd_T23 y132 1).f1), .int .i64 ((rd_T23 y132 1).f2), .int .i64 0]) ?_ 3 _ rfl; (with_reducible repeat (first | refine blk_drewN ?_ _ | refine blk_drew ?_ | refine blk_alloc ?_ _)); refine blk_put (cs := #[.int .i64 ((rd_T23 y132 1).f0), .int .i64 ((rd_T23 y132 1).f1), .int .i64 0, .int .i64 0]) ?_ 2 _ rfl; (with_reducible repeat (first | refine blk_drewN ?_ _ | refine blk_drew ?_ | refine blk_alloc ?_ _)); refine blk_put (cs := #[.int .i64 ((rd_T23 y132 1).f0), .int .i64 0, .int .i64 0, .int .i64 0]) ?_ 1 _ rfl; (with_reducible repeat (first | refine blk_drewN ?_ _ | refine blk_drew ?_ | refine blk_alloc ?_ _)); refine blk_put (cs := #[.int .i64 0, .int .i64 0, .int .i64 0, .int .i64 0]) ?_ 0 _ rfl; (with_reducible repeat (first | refine blk_drewN ?_ _ | refine blk_drew ?_ | refine blk_alloc ?_ _)); exact BK157.out) hb); have n3_ := Aside0.mk (below_step (by repeat (first | (with_reducible first | exact HB.out | apply below_alloc | apply pw_below_drewN | apply below_drew1 | refine below_set ?_ GE157.out) | exact HB.out)) hb); clear HO_1; clear HO_2; clear BK157; clear HB; have HO_1 := n0_; have HO_2 := n1_; have BK157 := n2_; have HB := n3_; clear n0_ n1_ n2_ n3_; (try clear hb); (try clear hb2); (try clear hk); (try clear hi); have hcz105_0 : w104.cell? ⟨gb157, 0, none⟩ = some (.int .i64 ((rd_T23 y132 1).f0)) := (blk_cell BK157.out 0).trans rfl; have hcz105_1 : w104.cell? ⟨gb157, 1, none⟩ = some (.int .i64 ((rd_T23 y132 1).f1)) := (blk_cell BK157.out 1).trans rfl; have hcz105_2 : w104.cell? ⟨gb157, 2, none⟩ = some (.int .i64 ((rd_T23 y132 1).f2)) := (blk_cell BK157.out 2).trans rfl; have hcz105_3 : w104.cell? ⟨gb157, 3, none⟩ = some (.int .i64 ((rd_T23 y132 1).f3)) := (blk_cell BK157.out 3).trans rfl; have hfz105_0 := blk_frozen BK157.out 0; have hfz105_1 := blk_frozen BK157.out 1; have hfz105_2 := blk_frozen BK157.out 2; have hfz105_3 := blk_frozen BK157.out 3) | (go_at_call 15; (with_reducible refine (geo_Size.calls ((rd_T23 y132 1).f0) ((rd_T23 y132 1).f1) ((rd_T23 y132 1).f2) ((rd_T23 y132 1).f3) t159 _ A60.out).mono ?_); rintro e w106 ⟨rfl, hb⟩; have n0_ := Aside0.mk (Kd.R_below (by (with_reducible repeat (first | apply Kd.R_alloc | apply Kd.R_drewN | apply Kd.R_drew)); exact HO_1.out) hb); have n1_ := Aside0.mk (Kd.R_below (by (with_reducible repeat (first | apply Kd.R_alloc | apply Kd.R_drewN | apply Kd.R_drew)); exact HO_2.out) hb); have n2_ := Aside0.mk (blk_below (g := gb157) (o := .cells #[.int .i64 ((rd_T23 y132 1).f0), .int .i64 ((rd_T23 y132 1).f1), .int .i64 ((rd_T23 y132 1).f2), .int .i64 ((rd_T23 y132 1).f3)] 23 (0, 0)) (by (with_reducible repeat (first | refine blk_drewN ?_ _ | refine blk_drew ?_ | refine blk_alloc ?_ _)); exact BK157.out) hb); have n3_ := Aside0.mk (below_step (by repeat (first | (with_reducible first | exact HB.out | apply below_alloc | apply pw_below_drewN | apply below_drew1 | refine below_set ?_ GE157.out) | exact HB.out)) hb); clear HO_1; clear HO_2; clear BK157; clear HB; have HO_1 := n0_; have HO_2 := n1_; have BK157 := n2_; have HB := n3_; clear n0_ n1_ n2_ n3_; (try clear hb); (try clear hb2); (try clear hk); (try clear hi); have hcz107_0 : w106.cell? ⟨gb157, 0, none⟩ = some (.int .i64 ((rd_T23 y132 1).f0)) := (blk_cell BK157.out 0).trans rfl; have hcz107_1 : w106.cell? ⟨gb157, 1, none⟩ = some (.int .i64 ((rd_T23 y132 1).f1)) := (blk_cell BK157.out 1).trans rfl; have hcz107_2 : w106.cell? ⟨gb157, 2, none⟩ = some (.int .i64 ((rd_T23 y132 1).f2)) := (blk_cell BK157.out 2).trans rfl; have hcz107_3 : w106.cell? ⟨gb157, 3, none⟩ = some (.int .i64 ((rd_T23 y132 1).f3)) := (blk_cell BK157.out 3).trans rfl; have hfz107_0 := blk_frozen BK157.out 0; have hfz107_1 := blk_frozen BK157.out 1; have hfz107_2 := blk_frozen BK157.out 2; have hfz107_3 := blk_frozen BK157.out 3) | (go_at_call 18; (with_reducible refine (geo_Lpns.calls k2 ((rd_T23 y132 1).f0) ((rd_T23 y132 1).f1) ((rd_T23 y132 1).f2) ((rd_T23 y132 1).f3) 0 t160 _ A62.out).mono ?_); rintro e w108 ⟨rfl, hb⟩; have n0_ := Aside0.mk (Kd.R_below (by (with_reducible repeat (first | apply Kd.R_alloc | apply Kd.R_drewN | apply Kd.R_drew)); exact HO_1.out) hb); have n1_ := Aside0.mk (Kd.R_below (by (with_reducible repeat (first | apply Kd.R_alloc | apply Kd.R_drewN | apply Kd.R_drew)); exact HO_2.out) hb); have n2_ := Aside0.mk (blk_below (g := gb157) (o := .cells #[.int .i64 ((rd_T23 y132 1).f0), .int .i64 ((rd_T23 y132 1).f1), .int .i64 ((rd_T23 y132 1).f2), .int .i64 ((rd_T23 y132 1).f3)] 23 (0, 0)) (by (with_reducible repeat (first | refine blk_drewN ?_ _ | refine blk_drew ?_ | refine blk_alloc ?_ _)); exact BK157.out) hb); have n3_ := Aside0.mk (below_step (by repeat (first | (with_reducible first | exact HB.out | apply below_alloc | apply pw_below_drewN | apply below_drew1 | refine below_set ?_ GE157.out) | exact HB.out)) hb); clear HO_1; clear HO_2; clear BK157; clear HB; have HO_1 := n0_; have HO_2 := n1_; have BK157 := n2_; have HB := n3_; clear n0_ n1_ n2_ n3_; (try clear hb); (try clear hb2); (try clear hk); (try clear hi); have hcz109_0 : w108.cell? ⟨gb157, 0, none⟩ = some (.int .i64 ((rd_T23 y132 1).f0)) := (blk_cell BK157.out 0).trans rfl; have hcz109_1 : w108.cell? ⟨gb157, 1, none⟩ = some (.int .i64 ((rd_T23 y132 1).f1)) := (blk_cell BK157.out 1).trans rfl; have hcz109_2 : w108.cell? ⟨gb157, 2, none⟩ = some (.int .i64 ((rd_T23 y132 1).f2)) := (blk_cell BK157.out 2).trans rfl; have hcz109_3 : w108.cell? ⟨gb157, 3, none⟩ = some (.int .i64 ((rd_T23 y132 1).f3)) := (blk_cell BK157.out 3).trans rfl; have hfz109_0 := blk_frozen BK157.out 0; have hfz109_1 := blk_frozen BK157.out 1; have hfz109_2 := blk_frozen BK157.out 2; have hfz109_3 := blk_frozen BK157.out 3) | (go_at_call 18; (with_reducible refine (geo_Lpns.calls k2 ((rd_T23 y132 1).f0) ((rd_T23 y132 1).f1) ((rd_T23 y132 1).f2) ((rd_T23 y132 1).f3) 60 t161 _ A64.out).mono ?_); rintro e w110 ⟨rfl, hb⟩; have n0_ := Aside0.mk (Kd.R_below (by (with_reducible repeat (first | apply Kd.R_alloc | apply Kd.R_drewN | apply Kd.R_drew)); exact HO_1.out) hb); have n1_ := Aside0.mk (Kd.R_below (by (with_reducible repeat (first | apply Kd.R_alloc | apply Kd.R_drewN | apply Kd.R_drew)); exact HO_2.out) hb); have n2_ := Aside0.mk (blk_below (g := gb157) (o := .cells #[.int .i64 ((rd_T23 y132 1).f0), .int .i64 ((rd_T23 y132 1).f1), .int .i64 ((rd_T23 y132 1).f2), .int .i64 ((rd_T23 y132 1).f3)] 23 (0, 0)) (by (with_reducible repeat (first | refine blk_drewN ?_ _ | refine blk_drew ?_ | refine blk_alloc ?_ _)); exact BK157.out) hb); have n3_ := Aside0.mk (below_step (by repeat (first | (with_reducible first | exact HB.out | apply below_alloc | apply pw_below_drewN | apply below_drew1 | refine below_set ?_ GE157.out) | exact HB.out)) hb); clear HO_1; clear HO_2; clear BK157; clear HB; have HO_1 := n0_; have HO_2 := n1_; have BK157 := n2_; have HB := n3_; clear n0_ n1_ n2_ n3_; (try clear hb); (try clear hb2); (try clear hk); (try clear hi); have hcz111_0 : w110.cell? ⟨gb157, 0, none⟩ = some (.int .i64 ((rd_T23 y132 1).f0)) := (blk_cell BK157.out 0).trans rfl; have hcz111_1 : w110.cell? ⟨gb157, 1, none⟩ = some (.int .i64 ((rd_T23 y132 1).f1)) := (blk_cell BK157.out 1).trans rfl; have hcz111_2 : w110.cell? ⟨gb157, 2, none⟩ = some (.int .i64 ((rd_T23 y132 1).f2)) := (blk_cell BK157.out 2).trans rfl; have hcz111_3 : w110.cell? ⟨gb157, 3, none⟩ = some (.int .i64 ((rd_T23 y132 1).f3)) := (blk_cell BK157.out 3).trans rfl; have hfz111_0 := blk_frozen BK157.out 0; have hfz111_1 := blk_frozen BK157.out 1; have hfz111_2 := blk_frozen BK157.out 2; have hfz111_3 := blk_frozen BK157.out 3) | (go_at_call 18; (with_reducible refine (geo_Lpns.calls k2 ((rd_T23 y132 1).f0) ((rd_T23 y132 1).f1) ((rd_T23 y132 1).f2) ((rd_T23 y132 1).f3) 61 t162 _ A66.out).mono ?_); rintro e w112 ⟨rfl, hb⟩; have n0_ := Aside0.mk (Kd.R_below (by (with_reducible repeat (first | apply Kd.R_alloc | apply Kd.R_drewN | apply Kd.R_drew)); exact HO_1.out) hb); have n1_ := Aside0.mk (Kd.R_below (by (with_reducible repeat (first | apply Kd.R_alloc | apply Kd.R_drewN | apply Kd.R_drew)); exact HO_2.out) hb); have n2_ := Aside0.mk (blk_below (g := gb157) (o := .cells #[.int .i64 ((rd_T23 y132 1).f0), .int .i64 ((rd_T23 y132 1).f1), .int .i64 ((rd_T23 y132 1).f2), .int .i64 ((rd_T23 y132 1).f3)] 23 (0, 0)) (by (with_reducible repeat (first | refine blk_drewN ?_ _ | refine blk_drew ?_ | refine blk_alloc ?_ _)); exact BK157.out) hb); have n3_ := Aside0.mk (below_step (by repeat (first | (with_reducible first | exact HB.out | apply below_alloc | apply pw_below_drewN | apply below_drew1 | refine below_set ?_ GE157.out) | exact HB.out)) hb); clear HO_1; clear HO_2; clear BK157; clear HB; have HO_1 := n0_; have HO_2 := n1_; have BK157 := n2_; have HB := n3_; clear n0_ n1_ n2_ n3_; (try clear hb); (try clear hb2); (try clear hk); (try clear hi)))
              go_ret
              exact ⟨by first | rfl | (simp [errW_none, errW_some] <;> rfl) | (simp [*, errW_none, errW_some] <;> rfl), by repeat (first | (with_reducible first | exact HB.out | apply below_alloc | apply pw_below_drewN | apply below_drew1 | refine below_set ?_ GE157.out) | exact HB.out)⟩
            ·
             rw [if_neg c65] at H
             have c65b0 : (t161 == 16) = false := beq_eq_false_iff_ne.mpr c65
             have c65b1 : (t161 != 16) = true := bne_iff_ne.mpr c65
             obtain rfl := Option.some.inj H
             obtain ⟨Ao113, co113, eo113⟩ := Kd.R_slice HO_2.out
             subst eo113
             have p156 : 0 ≤ (1 : Int) := (by omega)
             have q156 : 1 < (y132.length : Int) := of_decide_eq_true (by first | (with_reducible assumption) | assumption)
             obtain ⟨ad156, e156, hx156_0, hx156_1, hx156_2, hx156_3⟩ := at_T23 (Kd.R_reads' HO_1.out).2.2 1 p156 q156
             cases e156
             (try simp only [show (1 : Int).toNat = 1 from rfl, Nat.reduceMul, Nat.reduceEqDiff, Go.Addr.add, ↓reduceIte] at hx156_0)
             (try simp only [show (1 : Int).toNat = 1 from rfl, Nat.reduceMul, Nat.reduceEqDiff, Go.Addr.add, ↓reduceIte] at hx156_1)
             (try simp only [show (1 : Int).toNat = 1 from rfl, Nat.reduceMul, Nat.reduceEqDiff, Go.Addr.add, ↓reduceIte] at hx156_2)
             (try simp only [show (1 : Int).toNat = 1 from rfl, Nat.reduceMul, Nat.reduceEqDiff, Go.Addr.add, ↓reduceIte] at hx156_3)
             have qi156 : (1 < y132.length) = True := eq_true (by omega)
             (try rw [show ((1 : Int)).toNat = 1 from rfl] at hx156_0)
             (try rw [show 1 * 4 = 4 from rfl] at hx156_0)
             (try rw [show ((1 : Int)).toNat = 1 from rfl] at hx156_1)
             (try rw [show 1 * 4 = 4 from rfl] at hx156_1)
             (try rw [show ((1 : Int)).toNat = 1 from rfl] at hx156_2)
             (try rw [show 1 * 4 = 4 from rfl] at hx156_2)
             (try rw [show ((1 : Int)).toNat = 1 from rfl] at hx156_3)
             (try rw [show 1 * 4 = 4 from rfl] at hx156_3)
             replace p156 := eq_true p156
             replace q156 := eq_true q156
             go_wp2_with (first | ((with_reducible refine gate_dst (N := 5) rfl ?_); refine box_event ?hg (N := 5) ?hd (cs := #[.int .i64 0, .int .i64 0, .int .i64 0, .int .i64 0]) (t := 23) ?hr ?_; (case hd => rfl); (case hg => rfl); (case hr => first | (go_simp; done) | (go_simp; rfl)); intro gb157 hg w114 hbox hb; have n0_ := Aside0.mk (Kd.R_below (Kd.R_elderB (by (with_reducible repeat (first | apply Kd.R_alloc | apply Kd.R_drewN | apply Kd.R_drew)); exact HO_1.out) gb157 (Nat.le_of_eq hg.symm)) hb); have n1_ := Aside0.mk (Kd.R_below (Kd.R_elderB (by (with_reducible repeat (first | apply Kd.R_alloc | apply Kd.R_drewN | apply Kd.R_drew)); exact HO_2.out) gb157 (Nat.le_of_eq hg.symm)) hb); have n2_ := Aside0.mk (below_step (by repeat (first | (with_reducible first | exact HB.out | apply below_alloc | apply pw_below_drewN | apply below_drew1) | exact HB.out)) hb); have n3_ := Aside0.mk (hbox); have n4_ := Aside0.mk ((by rw [hg]; exact (below_size (by repeat (first | (with_reducible first | exact HB.out | apply below_alloc | apply pw_below_drewN | apply below_drew1) | exact HB.out))) : w.heap.size ≤ gb157)); have n5_ := Aside0.mk ((by rw [hg]; exact (below_size (by repeat (first | (with_reducible first | exact HB.out | apply below_alloc | apply pw_below_drewN | apply below_drew1) | exact HB.out))) : w.heap.size ≤ gb157)); clear HO_1; clear HO_2; clear HB; have HO_1 := n0_; have HO_2 := n1_; have HB := n2_; have BK157 := n3_; have GW157 := n4_; have GE157 := n5_; clear n0_ n1_ n2_ n3_ n4_ n5_; clear hb hbox hg; have hcz115_0 : w114.cell? ⟨gb157, 0, none⟩ = some (.int .i64 0) := (blk_cell BK157.out 0).trans rfl; have hcz115_1 : w114.cell? ⟨gb157, 1, none⟩ = some (.int .i64 0) := (blk_cell BK157.out 1).trans rfl; have hcz115_2 : w114.cell? ⟨gb157, 2, none⟩ = some (.int .i64 0) := (blk_cell BK157.out 2).trans rfl; have hcz115_3 : w114.cell? ⟨gb157, 3, none⟩ = some (.int .i64 0) := (blk_cell BK157.out 3).trans rfl; have hfz115_0 := blk_frozen BK157.out 0; have hfz115_1 := blk_frozen BK157.out 1; have hfz115_2 := blk_frozen BK157.out 2; have hfz115_3 := blk_frozen BK157.out 3) | ((with_reducible refine gate_callee (f := 17) rfl ?_); refine goesL_ (some 111) rfl rfl Try.func17 (by kernel_rfl) rfl #[.agg #[.int .i64 ((rd_T23 y132 1).f0), .int .i64 ((rd_T23 y132 1).f1), .int .i64 ((rd_T23 y132 1).f2), .int .i64 ((rd_T23 y132 1).f3)]] rfl (by (try simp only [List.map_toArray, List.map_cons, List.map_nil]); first | done | rfl | (simp only [List.length_drop, List.length_take]; rfl)) ?_; (with_reducible refine (geo_Count.calls ((rd_T23 y132 1).f0) ((rd_T23 y132 1).f1) ((rd_T23 y132 1).f2) ((rd_T23 y132 1).f3) t158 _ A58.out).mono ?_); rintro e w116 ⟨rfl, hb⟩; refine ⟨_, rfl, ?_⟩; have n0_ := Aside0.mk (Kd.R_below (by (with_reducible repeat (first | apply Kd.R_alloc | apply Kd.R_drewN | apply Kd.R_drew)); exact (Kd.R_mono (Kd.R_far (p := ⟨gb157, 3, none⟩) (Kd.R_far (p := ⟨gb157, 2, none⟩) (Kd.R_far (p := ⟨gb157, 1, none⟩) (Kd.R_far (p := ⟨gb157, 0, none⟩) (Kd.R_mono HO_1.out (fun k_ hk => (⟨hk, hk.2⟩ : _ ∧ k_ ≠ gb157))) (fun _ hk => hk.2) (.int .i64 ((rd_T23 y132 1).f0))) (fun _ hk => hk.2) (.int .i64 ((rd_T23 y132 1).f1))) (fun _ hk => hk.2) (.int .i64 ((rd_T23 y132 1).f2))) (fun _ hk => hk.2) (.int .i64 ((rd_T23 y132 1).f3))) (fun _ h_ => h_.1))) hb); have n1_ := Aside0.mk (Kd.R_below (by (with_reducible repeat (first | apply Kd.R_alloc | apply Kd.R_drewN | apply Kd.R_drew)); exact (Kd.R_mono (Kd.R_far (p := ⟨gb157, 3, none⟩) (Kd.R_far (p := ⟨gb157, 2, none⟩) (Kd.R_far (p := ⟨gb157, 1, none⟩) (Kd.R_far (p := ⟨gb157, 0, none⟩) (Kd.R_mono HO_2.out (fun k_ hk => (⟨hk, hk.2⟩ : _ ∧ k_ ≠ gb157))) (fun _ hk => hk.2) (.int .i64 ((rd_T23 y132 1).f0))) (fun _ hk => hk.2) (.int .i64 ((rd_T23 y132 1).f1))) (fun _ hk => hk.2) (.int .i64 ((rd_T23 y132 1).f2))) (fun _ hk => hk.2) (.int .i64 ((rd_T23 y132 1).f3))) (fun _ h_ => h_.1))) hb); have n2_ := Aside0.mk (blk_below (g := gb157) (o := .cells #[.int .i64 ((rd_T23 y132 1).f0), .int .i64 ((rd_T23 y132 1).f1), .int .i64 ((rd_T23 y132 1).f2), .int .i64 ((rd_T23 y132 1).f3)] 23 (0, 0)) (by (with_reducible repeat (first | refine blk_drewN ?_ _ | refine blk_drew ?_ | refine blk_alloc ?_ _)); refine blk_put (cs := #[.int .i64 ((rd_T23 y132 1).f0), .int .i64 ((rd_T23 y132 1).f1), .int .i64 ((rd_T23 y132 1).f2), .int .i64 0]) ?_ 3 _ rfl; (with_reducible repeat (first | refine blk_drewN ?_ _ | refine blk_drew ?_ | refine blk_alloc ?_ _)); refine blk_put (cs := #[.int .i64 ((rd_T23 y132 1).f0), .int .i64 ((rd_T23 y132 1).f1), .int .i64 0, .int .i64 0]) ?_ 2 _ rfl; (with_reducible repeat (first | refine blk_drewN ?_ _ | refine blk_drew ?_ | refine blk_alloc ?_ _)); refine blk_put (cs := #[.int .i64 ((rd_T23 y132 1).f0), .int .i64 0, .int .i64 0, .int .i64 0]) ?_ 1 _ rfl; (with_reducible repeat (first | refine blk_drewN ?_ _ | refine blk_drew ?_ | refine blk_alloc ?_ _)); refine blk_put (cs := #[.int .i64 0, .int .i64 0, .int .i64 0, .int .i64 0]) ?_ 0 _ rfl; (with_reducible repeat (first | refine blk_drewN ?_ _ | refine blk_drew ?_ | refine blk_alloc ?_ _)); exact BK157.out) hb); have n3_ := Aside0.mk (below_step (by repeat (first | (with_reducible first | exact HB.out | apply below_alloc | apply pw_below_drewN | apply below_drew1 | refine below_set ?_ GE157.out) | exact HB.out)) hb); clear HO_1; clear HO_2; clear BK157; clear HB; have HO_1 := n0_; have HO_2 := n1_; have BK157 := n2_; have HB := n3_; clear n0_ n1_ n2_ n3_; (try clear hb); (try clear hb2); (try clear hk); (try clear hi); have hcz117_0 : w116.cell? ⟨gb157, 0, none⟩ = some (.int .i64 ((rd_T23 y132 1).f0)) := (blk_cell BK157.out 0).trans rfl; have hcz117_1 : w116.cell? ⟨gb157, 1, none⟩ = some (.int .i64 ((rd_T23 y132 1).f1)) := (blk_cell BK157.out 1).trans rfl; have hcz117_2 : w116.cell? ⟨gb157, 2, none⟩ = some (.int .i64 ((rd_T23 y132 1).f2)) := (blk_cell BK157.out 2).trans rfl; have hcz117_3 : w116.cell? ⟨gb157, 3, none⟩ = some (.int .i64 ((rd_T23 y132 1).f3)) := (blk_cell BK157.out 3).trans rfl; have hfz117_0 := blk_frozen BK157.out 0; have hfz117_1 := blk_frozen BK157.out 1; have hfz117_2 := blk_frozen BK157.out 2; have hfz117_3 := blk_frozen BK157.out 3) | (go_at_call 15; (with_reducible refine (geo_Size.calls ((rd_T23 y132 1).f0) ((rd_T23 y132 1).f1) ((rd_T23 y132 1).f2) ((rd_T23 y132 1).f3) t159 _ A60.out).mono ?_); rintro e w118 ⟨rfl, hb⟩; have n0_ := Aside0.mk (Kd.R_below (by (with_reducible repeat (first | apply Kd.R_alloc | apply Kd.R_drewN | apply Kd.R_drew)); exact HO_1.out) hb); have n1_ := Aside0.mk (Kd.R_below (by (with_reducible repeat (first | apply Kd.R_alloc | apply Kd.R_drewN | apply Kd.R_drew)); exact HO_2.out) hb); have n2_ := Aside0.mk (blk_below (g := gb157) (o := .cells #[.int .i64 ((rd_T23 y132 1).f0), .int .i64 ((rd_T23 y132 1).f1), .int .i64 ((rd_T23 y132 1).f2), .int .i64 ((rd_T23 y132 1).f3)] 23 (0, 0)) (by (with_reducible repeat (first | refine blk_drewN ?_ _ | refine blk_drew ?_ | refine blk_alloc ?_ _)); exact BK157.out) hb); have n3_ := Aside0.mk (below_step (by repeat (first | (with_reducible first | exact HB.out | apply below_alloc | apply pw_below_drewN | apply below_drew1 | refine below_set ?_ GE157.out) | exact HB.out)) hb); clear HO_1; clear HO_2; clear BK157; clear HB; have HO_1 := n0_; have HO_2 := n1_; have BK157 := n2_; have HB := n3_; clear n0_ n1_ n2_ n3_; (try clear hb); (try clear hb2); (try clear hk); (try clear hi); have hcz119_0 : w118.cell? ⟨gb157, 0, none⟩ = some (.int .i64 ((rd_T23 y132 1).f0)) := (blk_cell BK157.out 0).trans rfl; have hcz119_1 : w118.cell? ⟨gb157, 1, none⟩ = some (.int .i64 ((rd_T23 y132 1).f1)) := (blk_cell BK157.out 1).trans rfl; have hcz119_2 : w118.cell? ⟨gb157, 2, none⟩ = some (.int .i64 ((rd_T23 y132 1).f2)) := (blk_cell BK157.out 2).trans rfl; have hcz119_3 : w118.cell? ⟨gb157, 3, none⟩ = some (.int .i64 ((rd_T23 y132 1).f3)) := (blk_cell BK157.out 3).trans rfl; have hfz119_0 := blk_frozen BK157.out 0; have hfz119_1 := blk_frozen BK157.out 1; have hfz119_2 := blk_frozen BK157.out 2; have hfz119_3 := blk_frozen BK157.out 3) | (go_at_call 18; (with_reducible refine (geo_Lpns.calls k2 ((rd_T23 y132 1).f0) ((rd_T23 y132 1).f1) ((rd_T23 y132 1).f2) ((rd_T23 y132 1).f3) 0 t160 _ A62.out).mono ?_); rintro e w120 ⟨rfl, hb⟩; have n0_ := Aside0.mk (Kd.R_below (by (with_reducible repeat (first | apply Kd.R_alloc | apply Kd.R_drewN | apply Kd.R_drew)); exact HO_1.out) hb); have n1_ := Aside0.mk (Kd.R_below (by (with_reducible repeat (first | apply Kd.R_alloc | apply Kd.R_drewN | apply Kd.R_drew)); exact HO_2.out) hb); have n2_ := Aside0.mk (blk_below (g := gb157) (o := .cells #[.int .i64 ((rd_T23 y132 1).f0), .int .i64 ((rd_T23 y132 1).f1), .int .i64 ((rd_T23 y132 1).f2), .int .i64 ((rd_T23 y132 1).f3)] 23 (0, 0)) (by (with_reducible repeat (first | refine blk_drewN ?_ _ | refine blk_drew ?_ | refine blk_alloc ?_ _)); exact BK157.out) hb); have n3_ := Aside0.mk (below_step (by repeat (first | (with_reducible first | exact HB.out | apply below_alloc | apply pw_below_drewN | apply below_drew1 | refine below_set ?_ GE157.out) | exact HB.out)) hb); clear HO_1; clear HO_2; clear BK157; clear HB; have HO_1 := n0_; have HO_2 := n1_; have BK157 := n2_; have HB := n3_; clear n0_ n1_ n2_ n3_; (try clear hb); (try clear hb2); (try clear hk); (try clear hi); have hcz121_0 : w120.cell? ⟨gb157, 0, none⟩ = some (.int .i64 ((rd_T23 y132 1).f0)) := (blk_cell BK157.out 0).trans rfl; have hcz121_1 : w120.cell? ⟨gb157, 1, none⟩ = some (.int .i64 ((rd_T23 y132 1).f1)) := (blk_cell BK157.out 1).trans rfl; have hcz121_2 : w120.cell? ⟨gb157, 2, none⟩ = some (.int .i64 ((rd_T23 y132 1).f2)) := (blk_cell BK157.out 2).trans rfl; have hcz121_3 : w120.cell? ⟨gb157, 3, none⟩ = some (.int .i64 ((rd_T23 y132 1).f3)) := (blk_cell BK157.out 3).trans rfl; have hfz121_0 := blk_frozen BK157.out 0; have hfz121_1 := blk_frozen BK157.out 1; have hfz121_2 := blk_frozen BK157.out 2; have hfz121_3 := blk_frozen BK157.out 3) | (go_at_call 18; (with_reducible refine (geo_Lpns.calls k2 ((rd_T23 y132 1).f0) ((rd_T23 y132 1).f1) ((rd_T23 y132 1).f2) ((rd_T23 y132 1).f3) 60 t161 _ A64.out).mono ?_); rintro e w122 ⟨rfl, hb⟩; have n0_ := Aside0.mk (Kd.R_below (by (with_reducible repeat (first | apply Kd.R_alloc | apply Kd.R_drewN | apply Kd.R_drew)); exact HO_1.out) hb); have n1_ := Aside0.mk (Kd.R_below (by (with_reducible repeat (first | apply Kd.R_alloc | apply Kd.R_drewN | apply Kd.R_drew)); exact HO_2.out) hb); have n2_ := Aside0.mk (blk_below (g := gb157) (o := .cells #[.int .i64 ((rd_T23 y132 1).f0), .int .i64 ((rd_T23 y132 1).f1), .int .i64 ((rd_T23 y132 1).f2), .int .i64 ((rd_T23 y132 1).f3)] 23 (0, 0)) (by (with_reducible repeat (first | refine blk_drewN ?_ _ | refine blk_drew ?_ | refine blk_alloc ?_ _)); exact BK157.out) hb); have n3_ := Aside0.mk (below_step (by repeat (first | (with_reducible first | exact HB.out | apply below_alloc | apply pw_below_drewN | apply below_drew1 | refine below_set ?_ GE157.out) | exact HB.out)) hb); clear HO_1; clear HO_2; clear BK157; clear HB; have HO_1 := n0_; have HO_2 := n1_; have BK157 := n2_; have HB := n3_; clear n0_ n1_ n2_ n3_; (try clear hb); (try clear hb2); (try clear hk); (try clear hi)))
             go_ret
             exact ⟨by first | rfl | (simp [errW_none, errW_some] <;> rfl) | (simp [*, errW_none, errW_some] <;> rfl), by repeat (first | (with_reducible first | exact HB.out | apply below_alloc | apply pw_below_drewN | apply below_drew1 | refine below_set ?_ GE157.out) | exact HB.out)⟩
           ·
            rw [if_neg c63] at H
            have c63b0 : (t160 == 976) = false := beq_eq_false_iff_ne.mpr c63
            have c63b1 : (t160 != 976) = true := bne_iff_ne.mpr c63
            obtain rfl := Option.some.inj H
            obtain ⟨Ao123, co123, eo123⟩ := Kd.R_slice HO_2.out
            subst eo123
            have p156 : 0 ≤ (1 : Int) := (by omega)
            have q156 : 1 < (y132.length : Int) := of_decide_eq_true (by first | (with_reducible assumption) | assumption)
            obtain ⟨ad156, e156, hx156_0, hx156_1, hx156_2, hx156_3⟩ := at_T23 (Kd.R_reads' HO_1.out).2.2 1 p156 q156
            cases e156
            (try simp only [show (1 : Int).toNat = 1 from rfl, Nat.reduceMul, Nat.reduceEqDiff, Go.Addr.add, ↓reduceIte] at hx156_0)
            (try simp only [show (1 : Int).toNat = 1 from rfl, Nat.reduceMul, Nat.reduceEqDiff, Go.Addr.add, ↓reduceIte] at hx156_1)
            (try simp only [show (1 : Int).toNat = 1 from rfl, Nat.reduceMul, Nat.reduceEqDiff, Go.Addr.add, ↓reduceIte] at hx156_2)
            (try simp only [show (1 : Int).toNat = 1 from rfl, Nat.reduceMul, Nat.reduceEqDiff, Go.Addr.add, ↓reduceIte] at hx156_3)
            have qi156 : (1 < y132.length) = True := eq_true (by omega)
            (try rw [show ((1 : Int)).toNat = 1 from rfl] at hx156_0)
            (try rw [show 1 * 4 = 4 from rfl] at hx156_0)
            (try rw [show ((1 : Int)).toNat = 1 from rfl] at hx156_1)
            (try rw [show 1 * 4 = 4 from rfl] at hx156_1)
            (try rw [show ((1 : Int)).toNat = 1 from rfl] at hx156_2)
            (try rw [show 1 * 4 = 4 from rfl] at hx156_2)
            (try rw [show ((1 : Int)).toNat = 1 from rfl] at hx156_3)
            (try rw [show 1 * 4 = 4 from rfl] at hx156_3)
            replace p156 := eq_true p156
            replace q156 := eq_true q156
            go_wp2_with (first | ((with_reducible refine gate_dst (N := 5) rfl ?_); refine box_event ?hg (N := 5) ?hd (cs := #[.int .i64 0, .int .i64 0, .int .i64 0, .int .i64 0]) (t := 23) ?hr ?_; (case hd => rfl); (case hg => rfl); (case hr => first | (go_simp; done) | (go_simp; rfl)); intro gb157 hg w124 hbox hb; have n0_ := Aside0.mk (Kd.R_below (Kd.R_elderB (by (with_reducible repeat (first | apply Kd.R_alloc | apply Kd.R_drewN | apply Kd.R_drew)); exact HO_1.out) gb157 (Nat.le_of_eq hg.symm)) hb); have n1_ := Aside0.mk (Kd.R_below (Kd.R_elderB (by (with_reducible repeat (first | apply Kd.R_alloc | apply Kd.R_drewN | apply Kd.R_drew)); exact HO_2.out) gb157 (Nat.le_of_eq hg.symm)) hb); have n2_ := Aside0.mk (below_step (by repeat (first | (with_reducible first | exact HB.out | apply below_alloc | apply pw_below_drewN | apply below_drew1) | exact HB.out)) hb); have n3_ := Aside0.mk (hbox); have n4_ := Aside0.mk ((by rw [hg]; exact (below_size (by repeat (first | (with_reducible first | exact HB.out | apply below_alloc | apply pw_below_drewN | apply below_drew1) | exact HB.out))) : w.heap.size ≤ gb157)); have n5_ := Aside0.mk ((by rw [hg]; exact (below_size (by repeat (first | (with_reducible first | exact HB.out | apply below_alloc | apply pw_below_drewN | apply below_drew1) | exact HB.out))) : w.heap.size ≤ gb157)); clear HO_1; clear HO_2; clear HB; have HO_1 := n0_; have HO_2 := n1_; have HB := n2_; have BK157 := n3_; have GW157 := n4_; have GE157 := n5_; clear n0_ n1_ n2_ n3_ n4_ n5_; clear hb hbox hg; have hcz125_0 : w124.cell? ⟨gb157, 0, none⟩ = some (.int .i64 0) := (blk_cell BK157.out 0).trans rfl; have hcz125_1 : w124.cell? ⟨gb157, 1, none⟩ = some (.int .i64 0) := (blk_cell BK157.out 1).trans rfl; have hcz125_2 : w124.cell? ⟨gb157, 2, none⟩ = some (.int .i64 0) := (blk_cell BK157.out 2).trans rfl; have hcz125_3 : w124.cell? ⟨gb157, 3, none⟩ = some (.int .i64 0) := (blk_cell BK157.out 3).trans rfl; have hfz125_0 := blk_frozen BK157.out 0; have hfz125_1 := blk_frozen BK157.out 1; have hfz125_2 := blk_frozen BK157.out 2; have hfz125_3 := blk_frozen BK157.out 3) | ((with_reducible refine gate_callee (f := 17) rfl ?_); refine goesL_ (some 111) rfl rfl Try.func17 (by kernel_rfl) rfl #[.agg #[.int .i64 ((rd_T23 y132 1).f0), .int .i64 ((rd_T23 y132 1).f1), .int .i64 ((rd_T23 y132 1).f2), .int .i64 ((rd_T23 y132 1).f3)]] rfl (by (try simp only [List.map_toArray, List.map_cons, List.map_nil]); first | done | rfl | (simp only [List.length_drop, List.length_take]; rfl)) ?_; (with_reducible refine (geo_Count.calls ((rd_T23 y132 1).f0) ((rd_T23 y132 1).f1) ((rd_T23 y132 1).f2) ((rd_T23 y132 1).f3) t158 _ A58.out).mono ?_); rintro e w126 ⟨rfl, hb⟩; refine ⟨_, rfl, ?_⟩; have n0_ := Aside0.mk (Kd.R_below (by (with_reducible repeat (first | apply Kd.R_alloc | apply Kd.R_drewN | apply Kd.R_drew)); exact (Kd.R_mono (Kd.R_far (p := ⟨gb157, 3, none⟩) (Kd.R_far (p := ⟨gb157, 2, none⟩) (Kd.R_far (p := ⟨gb157, 1, none⟩) (Kd.R_far (p := ⟨gb157, 0, none⟩) (Kd.R_mono HO_1.out (fun k_ hk => (⟨hk, hk.2⟩ : _ ∧ k_ ≠ gb157))) (fun _ hk => hk.2) (.int .i64 ((rd_T23 y132 1).f0))) (fun _ hk => hk.2) (.int .i64 ((rd_T23 y132 1).f1))) (fun _ hk => hk.2) (.int .i64 ((rd_T23 y132 1).f2))) (fun _ hk => hk.2) (.int .i64 ((rd_T23 y132 1).f3))) (fun _ h_ => h_.1))) hb); have n1_ := Aside0.mk (Kd.R_below (by (with_reducible repeat (first | apply Kd.R_alloc | apply Kd.R_drewN | apply Kd.R_drew)); exact (Kd.R_mono (Kd.R_far (p := ⟨gb157, 3, none⟩) (Kd.R_far (p := ⟨gb157, 2, none⟩) (Kd.R_far (p := ⟨gb157, 1, none⟩) (Kd.R_far (p := ⟨gb157, 0, none⟩) (Kd.R_mono HO_2.out (fun k_ hk => (⟨hk, hk.2⟩ : _ ∧ k_ ≠ gb157))) (fun _ hk => hk.2) (.int .i64 ((rd_T23 y132 1).f0))) (fun _ hk => hk.2) (.int .i64 ((rd_T23 y132 1).f1))) (fun _ hk => hk.2) (.int .i64 ((rd_T23 y132 1).f2))) (fun _ hk => hk.2) (.int .i64 ((rd_T23 y132 1).f3))) (fun _ h_ => h_.1))) hb); have n2_ := Aside0.mk (blk_below (g := gb157) (o := .cells #[.int .i64 ((rd_T23 y132 1).f0), .int .i64 ((rd_T23 y132 1).f1), .int .i64 ((rd_T23 y132 1).f2), .int .i64 ((rd_T23 y132 1).f3)] 23 (0, 0)) (by (with_reducible repeat (first | refine blk_drewN ?_ _ | refine blk_drew ?_ | refine blk_alloc ?_ _)); refine blk_put (cs := #[.int .i64 ((rd_T23 y132 1).f0), .int .i64 ((rd_T23 y132 1).f1), .int .i64 ((rd_T23 y132 1).f2), .int .i64 0]) ?_ 3 _ rfl; (with_reducible repeat (first | refine blk_drewN ?_ _ | refine blk_drew ?_ | refine blk_alloc ?_ _)); refine blk_put (cs := #[.int .i64 ((rd_T23 y132 1).f0), .int .i64 ((rd_T23 y132 1).f1), .int .i64 0, .int .i64 0]) ?_ 2 _ rfl; (with_reducible repeat (first | refine blk_drewN ?_ _ | refine blk_drew ?_ | refine blk_alloc ?_ _)); refine blk_put (cs := #[.int .i64 ((rd_T23 y132 1).f0), .int .i64 0, .int .i64 0, .int .i64 0]) ?_ 1 _ rfl; (with_reducible repeat (first | refine blk_drewN ?_ _ | refine blk_drew ?_ | refine blk_alloc ?_ _)); refine blk_put (cs := #[.int .i64 0, .int .i64 0, .int .i64 0, .int .i64 0]) ?_ 0 _ rfl; (with_reducible repeat (first | refine blk_drewN ?_ _ | refine blk_drew ?_ | refine blk_alloc ?_ _)); exact BK157.out) hb); have n3_ := Aside0.mk (below_step (by repeat (first | (with_reducible first | exact HB.out | apply below_alloc | apply pw_below_drewN | apply below_drew1 | refine below_set ?_ GE157.out) | exact HB.out)) hb); clear HO_1; clear HO_2; clear BK157; clear HB; have HO_1 := n0_; have HO_2 := n1_; have BK157 := n2_; have HB := n3_; clear n0_ n1_ n2_ n3_; (try clear hb); (try clear hb2); (try clear hk); (try clear hi); have hcz127_0 : w126.cell? ⟨gb157, 0, none⟩ = some (.int .i64 ((rd_T23 y132 1).f0)) := (blk_cell BK157.out 0).trans rfl; have hcz127_1 : w126.cell? ⟨gb157, 1, none⟩ = some (.int .i64 ((rd_T23 y132 1).f1)) := (blk_cell BK157.out 1).trans rfl; have hcz127_2 : w126.cell? ⟨gb157, 2, none⟩ = some (.int .i64 ((rd_T23 y132 1).f2)) := (blk_cell BK157.out 2).trans rfl; have hcz127_3 : w126.cell? ⟨gb157, 3, none⟩ = some (.int .i64 ((rd_T23 y132 1).f3)) := (blk_cell BK157.out 3).trans rfl; have hfz127_0 := blk_frozen BK157.out 0; have hfz127_1 := blk_frozen BK157.out 1; have hfz127_2 := blk_frozen BK157.out 2; have hfz127_3 := blk_frozen BK157.out 3) | (go_at_call 15; (with_reducible refine (geo_Size.calls ((rd_T23 y132 1).f0) ((rd_T23 y132 1).f1) ((rd_T23 y132 1).f2) ((rd_T23 y132 1).f3) t159 _ A60.out).mono ?_); rintro e w128 ⟨rfl, hb⟩; have n0_ := Aside0.mk (Kd.R_below (by (with_reducible repeat (first | apply Kd.R_alloc | apply Kd.R_drewN | apply Kd.R_drew)); exact HO_1.out) hb); have n1_ := Aside0.mk (Kd.R_below (by (with_reducible repeat (first | apply Kd.R_alloc | apply Kd.R_drewN | apply Kd.R_drew)); exact HO_2.out) hb); have n2_ := Aside0.mk (blk_below (g := gb157) (o := .cells #[.int .i64 ((rd_T23 y132 1).f0), .int .i64 ((rd_T23 y132 1).f1), .int .i64 ((rd_T23 y132 1).f2), .int .i64 ((rd_T23 y132 1).f3)] 23 (0, 0)) (by (with_reducible repeat (first | refine blk_drewN ?_ _ | refine blk_drew ?_ | refine blk_alloc ?_ _)); exact BK157.out) hb); have n3_ := Aside0.mk (below_step (by repeat (first | (with_reducible first | exact HB.out | apply below_alloc | apply pw_below_drewN | apply below_drew1 | refine below_set ?_ GE157.out) | exact HB.out)) hb); clear HO_1; clear HO_2; clear BK157; clear HB; have HO_1 := n0_; have HO_2 := n1_; have BK157 := n2_; have HB := n3_; clear n0_ n1_ n2_ n3_; (try clear hb); (try clear hb2); (try clear hk); (try clear hi); have hcz129_0 : w128.cell? ⟨gb157, 0, none⟩ = some (.int .i64 ((rd_T23 y132 1).f0)) := (blk_cell BK157.out 0).trans rfl; have hcz129_1 : w128.cell? ⟨gb157, 1, none⟩ = some (.int .i64 ((rd_T23 y132 1).f1)) := (blk_cell BK157.out 1).trans rfl; have hcz129_2 : w128.cell? ⟨gb157, 2, none⟩ = some (.int .i64 ((rd_T23 y132 1).f2)) := (blk_cell BK157.out 2).trans rfl; have hcz129_3 : w128.cell? ⟨gb157, 3, none⟩ = some (.int .i64 ((rd_T23 y132 1).f3)) := (blk_cell BK157.out 3).trans rfl; have hfz129_0 := blk_frozen BK157.out 0; have hfz129_1 := blk_frozen BK157.out 1; have hfz129_2 := blk_frozen BK157.out 2; have hfz129_3 := blk_frozen BK157.out 3) | (go_at_call 18; (with_reducible refine (geo_Lpns.calls k2 ((rd_T23 y132 1).f0) ((rd_T23 y132 1).f1) ((rd_T23 y132 1).f2) ((rd_T23 y132 1).f3) 0 t160 _ A62.out).mono ?_); rintro e w130 ⟨rfl, hb⟩; have n0_ := Aside0.mk (Kd.R_below (by (with_reducible repeat (first | apply Kd.R_alloc | apply Kd.R_drewN | apply Kd.R_drew)); exact HO_1.out) hb); have n1_ := Aside0.mk (Kd.R_below (by (with_reducible repeat (first | apply Kd.R_alloc | apply Kd.R_drewN | apply Kd.R_drew)); exact HO_2.out) hb); have n2_ := Aside0.mk (blk_below (g := gb157) (o := .cells #[.int .i64 ((rd_T23 y132 1).f0), .int .i64 ((rd_T23 y132 1).f1), .int .i64 ((rd_T23 y132 1).f2), .int .i64 ((rd_T23 y132 1).f3)] 23 (0, 0)) (by (with_reducible repeat (first | refine blk_drewN ?_ _ | refine blk_drew ?_ | refine blk_alloc ?_ _)); exact BK157.out) hb); have n3_ := Aside0.mk (below_step (by repeat (first | (with_reducible first | exact HB.out | apply below_alloc | apply pw_below_drewN | apply below_drew1 | refine below_set ?_ GE157.out) | exact HB.out)) hb); clear HO_1; clear HO_2; clear BK157; clear HB; have HO_1 := n0_; have HO_2 := n1_; have BK157 := n2_; have HB := n3_; clear n0_ n1_ n2_ n3_; (try clear hb); (try clear hb2); (try clear hk); (try clear hi)))
            go_ret
            exact ⟨by first | rfl | (simp [errW_none, errW_some] <;> rfl) | (simp [*, errW_none, errW_some] <;> rfl), by repeat (first | (with_reducible first | exact HB.out | apply below_alloc | apply pw_below_drewN | apply below_drew1 | refine below_set ?_ GE157.out) | exact HB.out)⟩
          ·
           rw [if_neg c61] at H
           have c61b0 : (t159 == 310) = false := beq_eq_false_iff_ne.mpr c61
           have c61b1 : (t159 != 310) = true := bne_iff_ne.mpr c61
           obtain rfl := Option.some.inj H
           obtain ⟨Ao131, co131, eo131⟩ := Kd.R_slice HO_2.out
           subst eo131
           have p156 : 0 ≤ (1 : Int) := (by omega)
           have q156 : 1 < (y132.length : Int) := of_decide_eq_true (by first | (with_reducible assumption) | assumption)
           obtain ⟨ad156, e156, hx156_0, hx156_1, hx156_2, hx156_3⟩ := at_T23 (Kd.R_reads' HO_1.out).2.2 1 p156 q156
           cases e156
           (try simp only [show (1 : Int).toNat = 1 from rfl, Nat.reduceMul, Nat.reduceEqDiff, Go.Addr.add, ↓reduceIte] at hx156_0)
           (try simp only [show (1 : Int).toNat = 1 from rfl, Nat.reduceMul, Nat.reduceEqDiff, Go.Addr.add, ↓reduceIte] at hx156_1)
           (try simp only [show (1 : Int).toNat = 1 from rfl, Nat.reduceMul, Nat.reduceEqDiff, Go.Addr.add, ↓reduceIte] at hx156_2)
           (try simp only [show (1 : Int).toNat = 1 from rfl, Nat.reduceMul, Nat.reduceEqDiff, Go.Addr.add, ↓reduceIte] at hx156_3)
           have qi156 : (1 < y132.length) = True := eq_true (by omega)
           (try rw [show ((1 : Int)).toNat = 1 from rfl] at hx156_0)
           (try rw [show 1 * 4 = 4 from rfl] at hx156_0)
           (try rw [show ((1 : Int)).toNat = 1 from rfl] at hx156_1)
           (try rw [show 1 * 4 = 4 from rfl] at hx156_1)
           (try rw [show ((1 : Int)).toNat = 1 from rfl] at hx156_2)
           (try rw [show 1 * 4 = 4 from rfl] at hx156_2)
           (try rw [show ((1 : Int)).toNat = 1 from rfl] at hx156_3)
           (try rw [show 1 * 4 = 4 from rfl] at hx156_3)
           replace p156 := eq_true p156
           replace q156 := eq_true q156
           go_wp2_with (first | ((with_reducible refine gate_dst (N := 5) rfl ?_); refine box_event ?hg (N := 5) ?hd (cs := #[.int .i64 0, .int .i64 0, .int .i64 0, .int .i64 0]) (t := 23) ?hr ?_; (case hd => rfl); (case hg => rfl); (case hr => first | (go_simp; done) | (go_simp; rfl)); intro gb157 hg w132 hbox hb; have n0_ := Aside0.mk (Kd.R_below (Kd.R_elderB (by (with_reducible repeat (first | apply Kd.R_alloc | apply Kd.R_drewN | apply Kd.R_drew)); exact HO_1.out) gb157 (Nat.le_of_eq hg.symm)) hb); have n1_ := Aside0.mk (Kd.R_below (Kd.R_elderB (by (with_reducible repeat (first | apply Kd.R_alloc | apply Kd.R_drewN | apply Kd.R_drew)); exact HO_2.out) gb157 (Nat.le_of_eq hg.symm)) hb); have n2_ := Aside0.mk (below_step (by repeat (first | (with_reducible first | exact HB.out | apply below_alloc | apply pw_below_drewN | apply below_drew1) | exact HB.out)) hb); have n3_ := Aside0.mk (hbox); have n4_ := Aside0.mk ((by rw [hg]; exact (below_size (by repeat (first | (with_reducible first | exact HB.out | apply below_alloc | apply pw_below_drewN | apply below_drew1) | exact HB.out))) : w.heap.size ≤ gb157)); have n5_ := Aside0.mk ((by rw [hg]; exact (below_size (by repeat (first | (with_reducible first | exact HB.out | apply below_alloc | apply pw_below_drewN | apply below_drew1) | exact HB.out))) : w.heap.size ≤ gb157)); clear HO_1; clear HO_2; clear HB; have HO_1 := n0_; have HO_2 := n1_; have HB := n2_; have BK157 := n3_; have GW157 := n4_; have GE157 := n5_; clear n0_ n1_ n2_ n3_ n4_ n5_; clear hb hbox hg; have hcz133_0 : w132.cell? ⟨gb157, 0, none⟩ = some (.int .i64 0) := (blk_cell BK157.out 0).trans rfl; have hcz133_1 : w132.cell? ⟨gb157, 1, none⟩ = some (.int .i64 0) := (blk_cell BK157.out 1).trans rfl; have hcz133_2 : w132.cell? ⟨gb157, 2, none⟩ = some (.int .i64 0) := (blk_cell BK157.out 2).trans rfl; have hcz133_3 : w132.cell? ⟨gb157, 3, none⟩ = some (.int .i64 0) := (blk_cell BK157.out 3).trans rfl; have hfz133_0 := blk_frozen BK157.out 0; have hfz133_1 := blk_frozen BK157.out 1; have hfz133_2 := blk_frozen BK157.out 2; have hfz133_3 := blk_frozen BK157.out 3) | ((with_reducible refine gate_callee (f := 17) rfl ?_); refine goesL_ (some 111) rfl rfl Try.func17 (by kernel_rfl) rfl #[.agg #[.int .i64 ((rd_T23 y132 1).f0), .int .i64 ((rd_T23 y132 1).f1), .int .i64 ((rd_T23 y132 1).f2), .int .i64 ((rd_T23 y132 1).f3)]] rfl (by (try simp only [List.map_toArray, List.map_cons, List.map_nil]); first | done | rfl | (simp only [List.length_drop, List.length_take]; rfl)) ?_; (with_reducible refine (geo_Count.calls ((rd_T23 y132 1).f0) ((rd_T23 y132 1).f1) ((rd_T23 y132 1).f2) ((rd_T23 y132 1).f3) t158 _ A58.out).mono ?_); rintro e w134 ⟨rfl, hb⟩; refine ⟨_, rfl, ?_⟩; have n0_ := Aside0.mk (Kd.R_below (by (with_reducible repeat (first | apply Kd.R_alloc | apply Kd.R_drewN | apply Kd.R_drew)); exact (Kd.R_mono (Kd.R_far (p := ⟨gb157, 3, none⟩) (Kd.R_far (p := ⟨gb157, 2, none⟩) (Kd.R_far (p := ⟨gb157, 1, none⟩) (Kd.R_far (p := ⟨gb157, 0, none⟩) (Kd.R_mono HO_1.out (fun k_ hk => (⟨hk, hk.2⟩ : _ ∧ k_ ≠ gb157))) (fun _ hk => hk.2) (.int .i64 ((rd_T23 y132 1).f0))) (fun _ hk => hk.2) (.int .i64 ((rd_T23 y132 1).f1))) (fun _ hk => hk.2) (.int .i64 ((rd_T23 y132 1).f2))) (fun _ hk => hk.2) (.int .i64 ((rd_T23 y132 1).f3))) (fun _ h_ => h_.1))) hb); have n1_ := Aside0.mk (Kd.R_below (by (with_reducible repeat (first | apply Kd.R_alloc | apply Kd.R_drewN | apply Kd.R_drew)); exact (Kd.R_mono (Kd.R_far (p := ⟨gb157, 3, none⟩) (Kd.R_far (p := ⟨gb157, 2, none⟩) (Kd.R_far (p := ⟨gb157, 1, none⟩) (Kd.R_far (p := ⟨gb157, 0, none⟩) (Kd.R_mono HO_2.out (fun k_ hk => (⟨hk, hk.2⟩ : _ ∧ k_ ≠ gb157))) (fun _ hk => hk.2) (.int .i64 ((rd_T23 y132 1).f0))) (fun _ hk => hk.2) (.int .i64 ((rd_T23 y132 1).f1))) (fun _ hk => hk.2) (.int .i64 ((rd_T23 y132 1).f2))) (fun _ hk => hk.2) (.int .i64 ((rd_T23 y132 1).f3))) (fun _ h_ => h_.1))) hb); have n2_ := Aside0.mk (blk_below (g := gb157) (o := .cells #[.int .i64 ((rd_T23 y132 1).f0), .int .i64 ((rd_T23 y132 1).f1), .int .i64 ((rd_T23 y132 1).f2), .int .i64 ((rd_T23 y132 1).f3)] 23 (0, 0)) (by (with_reducible repeat (first | refine blk_drewN ?_ _ | refine blk_drew ?_ | refine blk_alloc ?_ _)); refine blk_put (cs := #[.int .i64 ((rd_T23 y132 1).f0), .int .i64 ((rd_T23 y132 1).f1), .int .i64 ((rd_T23 y132 1).f2), .int .i64 0]) ?_ 3 _ rfl; (with_reducible repeat (first | refine blk_drewN ?_ _ | refine blk_drew ?_ | refine blk_alloc ?_ _)); refine blk_put (cs := #[.int .i64 ((rd_T23 y132 1).f0), .int .i64 ((rd_T23 y132 1).f1), .int .i64 0, .int .i64 0]) ?_ 2 _ rfl; (with_reducible repeat (first | refine blk_drewN ?_ _ | refine blk_drew ?_ | refine blk_alloc ?_ _)); refine blk_put (cs := #[.int .i64 ((rd_T23 y132 1).f0), .int .i64 0, .int .i64 0, .int .i64 0]) ?_ 1 _ rfl; (with_reducible repeat (first | refine blk_drewN ?_ _ | refine blk_drew ?_ | refine blk_alloc ?_ _)); refine blk_put (cs := #[.int .i64 0, .int .i64 0, .int .i64 0, .int .i64 0]) ?_ 0 _ rfl; (with_reducible repeat (first | refine blk_drewN ?_ _ | refine blk_drew ?_ | refine blk_alloc ?_ _)); exact BK157.out) hb); have n3_ := Aside0.mk (below_step (by repeat (first | (with_reducible first | exact HB.out | apply below_alloc | apply pw_below_drewN | apply below_drew1 | refine below_set ?_ GE157.out) | exact HB.out)) hb); clear HO_1; clear HO_2; clear BK157; clear HB; have HO_1 := n0_; have HO_2 := n1_; have BK157 := n2_; have HB := n3_; clear n0_ n1_ n2_ n3_; (try clear hb); (try clear hb2); (try clear hk); (try clear hi); have hcz135_0 : w134.cell? ⟨gb157, 0, none⟩ = some (.int .i64 ((rd_T23 y132 1).f0)) := (blk_cell BK157.out 0).trans rfl; have hcz135_1 : w134.cell? ⟨gb157, 1, none⟩ = some (.int .i64 ((rd_T23 y132 1).f1)) := (blk_cell BK157.out 1).trans rfl; have hcz135_2 : w134.cell? ⟨gb157, 2, none⟩ = some (.int .i64 ((rd_T23 y132 1).f2)) := (blk_cell BK157.out 2).trans rfl; have hcz135_3 : w134.cell? ⟨gb157, 3, none⟩ = some (.int .i64 ((rd_T23 y132 1).f3)) := (blk_cell BK157.out 3).trans rfl; have hfz135_0 := blk_frozen BK157.out 0; have hfz135_1 := blk_frozen BK157.out 1; have hfz135_2 := blk_frozen BK157.out 2; have hfz135_3 := blk_frozen BK157.out 3) | (go_at_call 15; (with_reducible refine (geo_Size.calls ((rd_T23 y132 1).f0) ((rd_T23 y132 1).f1) ((rd_T23 y132 1).f2) ((rd_T23 y132 1).f3) t159 _ A60.out).mono ?_); rintro e w136 ⟨rfl, hb⟩; have n0_ := Aside0.mk (Kd.R_below (by (with_reducible repeat (first | apply Kd.R_alloc | apply Kd.R_drewN | apply Kd.R_drew)); exact HO_1.out) hb); have n1_ := Aside0.mk (Kd.R_below (by (with_reducible repeat (first | apply Kd.R_alloc | apply Kd.R_drewN | apply Kd.R_drew)); exact HO_2.out) hb); have n2_ := Aside0.mk (blk_below (g := gb157) (o := .cells #[.int .i64 ((rd_T23 y132 1).f0), .int .i64 ((rd_T23 y132 1).f1), .int .i64 ((rd_T23 y132 1).f2), .int .i64 ((rd_T23 y132 1).f3)] 23 (0, 0)) (by (with_reducible repeat (first | refine blk_drewN ?_ _ | refine blk_drew ?_ | refine blk_alloc ?_ _)); exact BK157.out) hb); have n3_ := Aside0.mk (below_step (by repeat (first | (with_reducible first | exact HB.out | apply below_alloc | apply pw_below_drewN | apply below_drew1 | refine below_set ?_ GE157.out) | exact HB.out)) hb); clear HO_1; clear HO_2; clear BK157; clear HB; have HO_1 := n0_; have HO_2 := n1_; have BK157 := n2_; have HB := n3_; clear n0_ n1_ n2_ n3_; (try clear hb); (try clear hb2); (try clear hk); (try clear hi)))
           go_ret
           exact ⟨by first | rfl | (simp [errW_none, errW_some] <;> rfl) | (simp [*, errW_none, errW_some] <;> rfl), by repeat (first | (with_reducible first | exact HB.out | apply below_alloc | apply pw_below_drewN | apply below_drew1 | refine below_set ?_ GE157.out) | exact HB.out)⟩
         ·
          rw [if_neg c59] at H
          have c59b0 : (t158 == 2048) = false := beq_eq_false_iff_ne.mpr c59
          have c59b1 : (t158 != 2048) = true := bne_iff_ne.mpr c59
          obtain rfl := Option.some.inj H
          obtain ⟨Ao137, co137, eo137⟩ := Kd.R_slice HO_2.out
          subst eo137
          have p156 : 0 ≤ (1 : Int) := (by omega)
          have q156 : 1 < (y132.length : Int) := of_decide_eq_true (by first | (with_reducible assumption) | assumption)
          obtain ⟨ad156, e156, hx156_0, hx156_1, hx156_2, hx156_3⟩ := at_T23 (Kd.R_reads' HO_1.out).2.2 1 p156 q156
          cases e156
          (try simp only [show (1 : Int).toNat = 1 from rfl, Nat.reduceMul, Nat.reduceEqDiff, Go.Addr.add, ↓reduceIte] at hx156_0)
          (try simp only [show (1 : Int).toNat = 1 from rfl, Nat.reduceMul, Nat.reduceEqDiff, Go.Addr.add, ↓reduceIte] at hx156_1)
          (try simp only [show (1 : Int).toNat = 1 from rfl, Nat.reduceMul, Nat.reduceEqDiff, Go.Addr.add, ↓reduceIte] at hx156_2)
          (try simp only [show (1 : Int).toNat = 1 from rfl, Nat.reduceMul, Nat.reduceEqDiff, Go.Addr.add, ↓reduceIte] at hx156_3)
          have qi156 : (1 < y132.length) = True := eq_true (by omega)
          (try rw [show ((1 : Int)).toNat = 1 from rfl] at hx156_0)
          (try rw [show 1 * 4 = 4 from rfl] at hx156_0)
          (try rw [show ((1 : Int)).toNat = 1 from rfl] at hx156_1)
          (try rw [show 1 * 4 = 4 from rfl] at hx156_1)
          (try rw [show ((1 : Int)).toNat = 1 from rfl] at hx156_2)
          (try rw [show 1 * 4 = 4 from rfl] at hx156_2)
          (try rw [show ((1 : Int)).toNat = 1 from rfl] at hx156_3)
          (try rw [show 1 * 4 = 4 from rfl] at hx156_3)
          replace p156 := eq_true p156
          replace q156 := eq_true q156
          go_wp2_with (first | ((with_reducible refine gate_dst (N := 5) rfl ?_); refine box_event ?hg (N := 5) ?hd (cs := #[.int .i64 0, .int .i64 0, .int .i64 0, .int .i64 0]) (t := 23) ?hr ?_; (case hd => rfl); (case hg => rfl); (case hr => first | (go_simp; done) | (go_simp; rfl)); intro gb157 hg w138 hbox hb; have n0_ := Aside0.mk (Kd.R_below (Kd.R_elderB (by (with_reducible repeat (first | apply Kd.R_alloc | apply Kd.R_drewN | apply Kd.R_drew)); exact HO_1.out) gb157 (Nat.le_of_eq hg.symm)) hb); have n1_ := Aside0.mk (Kd.R_below (Kd.R_elderB (by (with_reducible repeat (first | apply Kd.R_alloc | apply Kd.R_drewN | apply Kd.R_drew)); exact HO_2.out) gb157 (Nat.le_of_eq hg.symm)) hb); have n2_ := Aside0.mk (below_step (by repeat (first | (with_reducible first | exact HB.out | apply below_alloc | apply pw_below_drewN | apply below_drew1) | exact HB.out)) hb); have n3_ := Aside0.mk (hbox); have n4_ := Aside0.mk ((by rw [hg]; exact (below_size (by repeat (first | (with_reducible first | exact HB.out | apply below_alloc | apply pw_below_drewN | apply below_drew1) | exact HB.out))) : w.heap.size ≤ gb157)); have n5_ := Aside0.mk ((by rw [hg]; exact (below_size (by repeat (first | (with_reducible first | exact HB.out | apply below_alloc | apply pw_below_drewN | apply below_drew1) | exact HB.out))) : w.heap.size ≤ gb157)); clear HO_1; clear HO_2; clear HB; have HO_1 := n0_; have HO_2 := n1_; have HB := n2_; have BK157 := n3_; have GW157 := n4_; have GE157 := n5_; clear n0_ n1_ n2_ n3_ n4_ n5_; clear hb hbox hg; have hcz139_0 : w138.cell? ⟨gb157, 0, none⟩ = some (.int .i64 0) := (blk_cell BK157.out 0).trans rfl; have hcz139_1 : w138.cell? ⟨gb157, 1, none⟩ = some (.int .i64 0) := (blk_cell BK157.out 1).trans rfl; have hcz139_2 : w138.cell? ⟨gb157, 2, none⟩ = some (.int .i64 0) := (blk_cell BK157.out 2).trans rfl; have hcz139_3 : w138.cell? ⟨gb157, 3, none⟩ = some (.int .i64 0) := (blk_cell BK157.out 3).trans rfl; have hfz139_0 := blk_frozen BK157.out 0; have hfz139_1 := blk_frozen BK157.out 1; have hfz139_2 := blk_frozen BK157.out 2; have hfz139_3 := blk_frozen BK157.out 3) | ((with_reducible refine gate_callee (f := 17) rfl ?_); refine goesL_ (some 111) rfl rfl Try.func17 (by kernel_rfl) rfl #[.agg #[.int .i64 ((rd_T23 y132 1).f0), .int .i64 ((rd_T23 y132 1).f1), .int .i64 ((rd_T23 y132 1).f2), .int .i64 ((rd_T23 y132 1).f3)]] rfl (by (try simp only [List.map_toArray, List.map_cons, List.map_nil]); first | done | rfl | (simp only [List.length_drop, List.length_take]; rfl)) ?_; (with_reducible refine (geo_Count.calls ((rd_T23 y132 1).f0) ((rd_T23 y132 1).f1) ((rd_T23 y132 1).f2) ((rd_T23 y132 1).f3) t158 _ A58.out).mono ?_); rintro e w140 ⟨rfl, hb⟩; refine ⟨_, rfl, ?_⟩; have n0_ := Aside0.mk (Kd.R_below (by (with_reducible repeat (first | apply Kd.R_alloc | apply Kd.R_drewN | apply Kd.R_drew)); exact (Kd.R_mono (Kd.R_far (p := ⟨gb157, 3, none⟩) (Kd.R_far (p := ⟨gb157, 2, none⟩) (Kd.R_far (p := ⟨gb157, 1, none⟩) (Kd.R_far (p := ⟨gb157, 0, none⟩) (Kd.R_mono HO_1.out (fun k_ hk => (⟨hk, hk.2⟩ : _ ∧ k_ ≠ gb157))) (fun _ hk => hk.2) (.int .i64 ((rd_T23 y132 1).f0))) (fun _ hk => hk.2) (.int .i64 ((rd_T23 y132 1).f1))) (fun _ hk => hk.2) (.int .i64 ((rd_T23 y132 1).f2))) (fun _ hk => hk.2) (.int .i64 ((rd_T23 y132 1).f3))) (fun _ h_ => h_.1))) hb); have n1_ := Aside0.mk (Kd.R_below (by (with_reducible repeat (first | apply Kd.R_alloc | apply Kd.R_drewN | apply Kd.R_drew)); exact (Kd.R_mono (Kd.R_far (p := ⟨gb157, 3, none⟩) (Kd.R_far (p := ⟨gb157, 2, none⟩) (Kd.R_far (p := ⟨gb157, 1, none⟩) (Kd.R_far (p := ⟨gb157, 0, none⟩) (Kd.R_mono HO_2.out (fun k_ hk => (⟨hk, hk.2⟩ : _ ∧ k_ ≠ gb157))) (fun _ hk => hk.2) (.int .i64 ((rd_T23 y132 1).f0))) (fun _ hk => hk.2) (.int .i64 ((rd_T23 y132 1).f1))) (fun _ hk => hk.2) (.int .i64 ((rd_T23 y132 1).f2))) (fun _ hk => hk.2) (.int .i64 ((rd_T23 y132 1).f3))) (fun _ h_ => h_.1))) hb); have n2_ := Aside0.mk (blk_below (g := gb157) (o := .cells #[.int .i64 ((rd_T23 y132 1).f0), .int .i64 ((rd_T23 y132 1).f1), .int .i64 ((rd_T23 y132 1).f2), .int .i64 ((rd_T23 y132 1).f3)] 23 (0, 0)) (by (with_reducible repeat (first | refine blk_drewN ?_ _ | refine blk_drew ?_ | refine blk_alloc ?_ _)); refine blk_put (cs := #[.int .i64 ((rd_T23 y132 1).f0), .int .i64 ((rd_T23 y132 1).f1), .int .i64 ((rd_T23 y132 1).f2), .int .i64 0]) ?_ 3 _ rfl; (with_reducible repeat (first | refine blk_drewN ?_ _ | refine blk_drew ?_ | refine blk_alloc ?_ _)); refine blk_put (cs := #[.int .i64 ((rd_T23 y132 1).f0), .int .i64 ((rd_T23 y132 1).f1), .int .i64 0, .int .i64 0]) ?_ 2 _ rfl; (with_reducible repeat (first | refine blk_drewN ?_ _ | refine blk_drew ?_ | refine blk_alloc ?_ _)); refine blk_put (cs := #[.int .i64 ((rd_T23 y132 1).f0), .int .i64 0, .int .i64 0, .int .i64 0]) ?_ 1 _ rfl; (with_reducible repeat (first | refine blk_drewN ?_ _ | refine blk_drew ?_ | refine blk_alloc ?_ _)); refine blk_put (cs := #[.int .i64 0, .int .i64 0, .int .i64 0, .int .i64 0]) ?_ 0 _ rfl; (with_reducible repeat (first | refine blk_drewN ?_ _ | refine blk_drew ?_ | refine blk_alloc ?_ _)); exact BK157.out) hb); have n3_ := Aside0.mk (below_step (by repeat (first | (with_reducible first | exact HB.out | apply below_alloc | apply pw_below_drewN | apply below_drew1 | refine below_set ?_ GE157.out) | exact HB.out)) hb); clear HO_1; clear HO_2; clear BK157; clear HB; have HO_1 := n0_; have HO_2 := n1_; have BK157 := n2_; have HB := n3_; clear n0_ n1_ n2_ n3_; (try clear hb); (try clear hb2); (try clear hk); (try clear hi)))
          go_ret
          exact ⟨by first | rfl | (simp [errW_none, errW_some] <;> rfl) | (simp [*, errW_none, errW_some] <;> rfl), by repeat (first | (with_reducible first | exact HB.out | apply below_alloc | apply pw_below_drewN | apply below_drew1 | refine below_set ?_ GE157.out) | exact HB.out)⟩
        ·
         rw [if_neg c57] at H
         exact absurd H (by simp)
 ·
  replace c2 := Bool.eq_false_iff.mpr c2
  subst c2
  have H1 : (some false) = some r := by rw [if_neg (show ¬ (false = true) by decide)] at H; exact H
  clear H
  have H := H1
  clear H1
  obtain rfl := Option.some.inj H
  go_enter Try.func4, Try.ntmps4
  go_wp2_with (first | ((with_reducible refine gate_callee (f := 8) rfl ?_); refine goesL_ (some 6) rfl rfl Try.func8 (by kernel_rfl) rfl #[] rfl (by (try simp only [List.map_toArray, List.map_cons, List.map_nil]); first | done | rfl | (simp only [List.length_drop, List.length_take]; rfl)) ?_; (with_reducible refine (blackboardlaw7_awake.calls k  false _ A1.out).mono ?_); rintro e w141 ⟨rfl, hb⟩; refine ⟨_, rfl, ?_⟩; have n0_ := Aside0.mk (below_step (by repeat (first | (with_reducible first | exact HB.out | apply below_alloc | apply pw_below_drewN | apply below_drew1) | exact HB.out)) hb); clear HB; have HB := n0_; clear n0_; (try clear hb); (try clear hb2); (try clear hk); (try clear hi)))
  go_ret
  exact ⟨by first | rfl | (simp [errW_none, errW_some] <;> rfl) | (simp [*, errW_none, errW_some] <;> rfl), by repeat (first | (with_reducible first | exact HB.out | apply below_alloc | apply pw_below_drewN | apply below_drew1) | exact HB.out)⟩

/-- THE ONE PURE STATEMENT of blackboardlaw7_GeoKnown: yours. -/
def blackboardlaw7_GeoKnown.Pure : Prop := ∃ k, blackboardlaw7_GeoKnown.f k  = some true
theorem blackboardlaw7_GeoKnown.walk (P : blackboardlaw7_GeoKnown.Pure)  (w : World)  :
  Calls Try.prog 4 #[] w fun e w' => e = .returned (.bool true) ∧ Below w.heap.size w w' := by
 obtain ⟨k, h⟩ := P  
 refine (blackboardlaw7_GeoKnown.calls k  true w h).mono ?_
 rintro e w' ⟨rfl, hd⟩
 exact ⟨rfl, hd⟩

end Go.Proofs.Ytpfgciidpjmenaa.K
