/- Printed for this seat by a program of this session (over the kit's print), with contracts of its own laid in. -/
import Derived.Test.YtobdkncdjofihaaMx0
import Derived.Test.YtobdkncdjofihaaMx1
import Derived.Test.YtobdkncdjofihaaMx2
import Derived.Test.YtobdkncdjofihaaMx3
namespace Go.Proofs.Ytobdkncdjofihaa.M
open Go.RowKit Go.Proofs.YtobdkncdjofihaaW.PrintWords Go.Proofs.YtobdkncdjofihaaW.PrintLast Go.Proofs.YtobdkncdjofihaaW.PrintMore
attribute [local go_sem] max2_int min2_int max_two min_two max_three min_three max_four min_four   -- for this text's walks alone
set_option linter.unusedVariables false
set_option linter.unusedSimpArgs false

/-! ### blackboardlaw17_FrontShuts: function 6 -/
mutual
def blackboardlaw17_FrontShuts.j0 : Nat → Int → List Bool → Bool → Int → Int → Int → Int → Option (Bool)
  | 0, _, _, _, _, _, _, _ => none
  | k + 1, x1, x2, x25, x414000, x414001, x414002, x414003 => if x25 = true then (some true) else ((front_New.f x414000 x414001 x414002 x414003).bind fun bt416 => (if x414000 = 0 then (none) else ((front_Front_Open.f bt416.1 bt416.2.1 bt416.2.2.1 bt416.2.2.2.1 bt416.2.2.2.2.1 bt416.2.2.2.2.2 (Int.tmod (wrap64 (x1)) x414000) 0).bind fun bt423 => (if bt423.1 = true then (blackboardlaw17_FrontShuts.l0 k x2 (Int.tmod (wrap64 (x1)) x414000) 0 x414000 x414001 x414002 x414003 bt423.2.1 bt423.2.2.1 bt423.2.2.2.1 bt423.2.2.2.2.1 bt423.2.2.2.2.2.1 bt423.2.2.2.2.2.2) else (some false)))))
def blackboardlaw17_FrontShuts.l0 : Nat → List Bool → Int → Int → Int → Int → Int → Int → Int → Int → Int → Int → Int → Int → Option (Bool)
  | 0, _, _, _, _, _, _, _, _, _, _, _, _, _ => none
  | k + 1, x2, x8, x9, x414000, x414001, x414002, x414003, x423000, x423001, x423002, x423003, x423004, x423005 => if x9 < x414001 then (if x9 < (x2.length : Int) then (if 0 ≤ x9 then (blackboardlaw17_FrontShuts.j2 k x2 x8 x9 (rdOf false x2 x9) x414000 x414001 x414002 x414003 x423000 x423001 x423002 x423003 x423004 x423005) else (none)) else (blackboardlaw17_FrontShuts.j2 k x2 x8 x9 false x414000 x414001 x414002 x414003 x423000 x423001 x423002 x423003 x423004 x423005)) else ((front_Front_Left.f x423000 x423001 x423002 x423003 x423004 x423005).bind fun bt430 => (some (bt430.1 == 0)))
def blackboardlaw17_FrontShuts.j2 : Nat → List Bool → Int → Int → Bool → Int → Int → Int → Int → Int → Int → Int → Int → Int → Int → Option (Bool)
  | 0, _, _, _, _, _, _, _, _, _, _, _, _, _, _ => none
  | k + 1, x2, x8, x9, x56, x414000, x414001, x414002, x414003, x423000, x423001, x423002, x423003, x423004, x423005 => if x56 = true then ((front_Front_Next.f x423000 x423001 x423002 x423003 x423004 x423005).bind fun bt438 => (if bt438.2.2.1 = true then (if bt438.2.1 = x9 then ((front_Front_Shut.f bt438.2.2.2.1 bt438.2.2.2.2.1 bt438.2.2.2.2.2.1 bt438.2.2.2.2.2.2.1 bt438.2.2.2.2.2.2.2.1 bt438.2.2.2.2.2.2.2.2).bind fun bt447 => (if bt447.1 = x8 then ((front_Front_Open.f bt447.2.1 bt447.2.2.1 bt447.2.2.2.1 bt447.2.2.2.2.1 bt447.2.2.2.2.2.1 bt447.2.2.2.2.2.2 x8 x9).bind fun bt454 => (blackboardlaw17_FrontShuts.j3 k x2 x8 x9 (!bt454.1) x414000 x414001 x414002 x414003 bt454.2.1 bt454.2.2.1 bt454.2.2.2.1 bt454.2.2.2.2.1 bt454.2.2.2.2.2.1 bt454.2.2.2.2.2.2)) else (blackboardlaw17_FrontShuts.j3 k x2 x8 x9 true x414000 x414001 x414002 x414003 bt447.2.1 bt447.2.2.1 bt447.2.2.2.1 bt447.2.2.2.2.1 bt447.2.2.2.2.2.1 bt447.2.2.2.2.2.2))) else (blackboardlaw17_FrontShuts.j3 k x2 x8 x9 true x414000 x414001 x414002 x414003 bt438.2.2.2.1 bt438.2.2.2.2.1 bt438.2.2.2.2.2.1 bt438.2.2.2.2.2.2.1 bt438.2.2.2.2.2.2.2.1 bt438.2.2.2.2.2.2.2.2)) else (blackboardlaw17_FrontShuts.j3 k x2 x8 x9 true x414000 x414001 x414002 x414003 bt438.2.2.2.1 bt438.2.2.2.2.1 bt438.2.2.2.2.2.1 bt438.2.2.2.2.2.2.1 bt438.2.2.2.2.2.2.2.1 bt438.2.2.2.2.2.2.2.2))) else ((front_Front_Take.f x423000 x423001 x423002 x423003 x423004 x423005).bind fun bt470 => (if bt470.2.2.1 = true then (if bt470.1 = x8 then (if bt470.2.1 = x9 then (blackboardlaw17_FrontShuts.l0 k x2 x8 (wrap64 (x9 + 1)) x414000 x414001 x414002 x414003 bt470.2.2.2.1 bt470.2.2.2.2.1 bt470.2.2.2.2.2.1 bt470.2.2.2.2.2.2.1 bt470.2.2.2.2.2.2.2.1 bt470.2.2.2.2.2.2.2.2) else (some false)) else (some false)) else (some false)))
def blackboardlaw17_FrontShuts.j3 : Nat → List Bool → Int → Int → Bool → Int → Int → Int → Int → Int → Int → Int → Int → Int → Int → Option (Bool)
  | 0, _, _, _, _, _, _, _, _, _, _, _, _, _, _ => none
  | k + 1, x2, x8, x9, x82, x414000, x414001, x414002, x414003, x423000, x423001, x423002, x423003, x423004, x423005 => if x82 = true then (some false) else ((front_Front_Take.f x423000 x423001 x423002 x423003 x423004 x423005).bind fun bt461 => (if bt461.2.2.1 = true then (if bt461.1 = x8 then (if bt461.2.1 = x9 then (blackboardlaw17_FrontShuts.l0 k x2 x8 (wrap64 (x9 + 1)) x414000 x414001 x414002 x414003 bt461.2.2.2.1 bt461.2.2.2.2.1 bt461.2.2.2.2.2.1 bt461.2.2.2.2.2.2.1 bt461.2.2.2.2.2.2.2.1 bt461.2.2.2.2.2.2.2.2) else (some false)) else (some false)) else (some false)))
end
def blackboardlaw17_FrontShuts.f (k : Nat) (a0_0 : Int) (a0_1 : Int) (a0_2 : Int) (a0_3 : Int) (a1 : Int) (l2 : List Bool) : Option (Bool) := (blackboardlaw17_awake.f).bind fun t414 => (if t414 = true then ((blackboardref1_GeoMay.f a0_0 a0_1 a0_2 a0_3).bind fun t415 => (if t415 = true then (blackboardlaw17_FrontShuts.j0 k a1 l2 (decide ((l2.length : Int) > 100)) a0_0 a0_1 a0_2 a0_3) else (blackboardlaw17_FrontShuts.j0 k a1 l2 true a0_0 a0_1 a0_2 a0_3))) else (some false))
theorem blackboardlaw17_FrontShuts.mono_l : ∀ k, (∀ y0 y1 y2 y3 y4 y5 y6, LeO (blackboardlaw17_FrontShuts.j0 k y0 y1 y2 y3 y4 y5 y6) (blackboardlaw17_FrontShuts.j0 (k + 1) y0 y1 y2 y3 y4 y5 y6)) ∧ (∀ y0 y1 y2 y3 y4 y5 y6 y7 y8 y9 y10 y11 y12, LeO (blackboardlaw17_FrontShuts.l0 k y0 y1 y2 y3 y4 y5 y6 y7 y8 y9 y10 y11 y12) (blackboardlaw17_FrontShuts.l0 (k + 1) y0 y1 y2 y3 y4 y5 y6 y7 y8 y9 y10 y11 y12)) ∧ (∀ y0 y1 y2 y3 y4 y5 y6 y7 y8 y9 y10 y11 y12 y13, LeO (blackboardlaw17_FrontShuts.j2 k y0 y1 y2 y3 y4 y5 y6 y7 y8 y9 y10 y11 y12 y13) (blackboardlaw17_FrontShuts.j2 (k + 1) y0 y1 y2 y3 y4 y5 y6 y7 y8 y9 y10 y11 y12 y13)) ∧ (∀ y0 y1 y2 y3 y4 y5 y6 y7 y8 y9 y10 y11 y12 y13, LeO (blackboardlaw17_FrontShuts.j3 k y0 y1 y2 y3 y4 y5 y6 y7 y8 y9 y10 y11 y12 y13) (blackboardlaw17_FrontShuts.j3 (k + 1) y0 y1 y2 y3 y4 y5 y6 y7 y8 y9 y10 y11 y12 y13))
  | 0 => ⟨fun _ _ _ _ _ _ _ r h => by simp [blackboardlaw17_FrontShuts.j0] at h, fun _ _ _ _ _ _ _ _ _ _ _ _ _ r h => by simp [blackboardlaw17_FrontShuts.l0] at h, fun _ _ _ _ _ _ _ _ _ _ _ _ _ _ r h => by simp [blackboardlaw17_FrontShuts.j2] at h, fun _ _ _ _ _ _ _ _ _ _ _ _ _ _ r h => by simp [blackboardlaw17_FrontShuts.j3] at h⟩
  | k + 1 => by
    obtain ⟨ih0, ih1, ih2, ih3⟩ := blackboardlaw17_FrontShuts.mono_l k
    refine ⟨?_, ?_, ?_, ?_⟩
    · intro y0 y1 y2 y3 y4 y5 y6
      unfold blackboardlaw17_FrontShuts.j0
      repeat' first
      | (with_reducible exact ih0 _ _ _ _ _ _ _)
      | (with_reducible exact ih1 _ _ _ _ _ _ _ _ _ _ _ _ _)
      | (with_reducible exact ih2 _ _ _ _ _ _ _ _ _ _ _ _ _ _)
      | (with_reducible exact ih3 _ _ _ _ _ _ _ _ _ _ _ _ _ _)
      | (with_reducible exact LeO.refl _)
      | (with_reducible exact LeO.none _)
      | (with_reducible refine LeO.ite ?_ ?_)
      | (with_reducible refine LeO.bind ?_ (fun _ => ?_))
      | exact ih0 _ _ _ _ _ _ _
      | exact ih1 _ _ _ _ _ _ _ _ _ _ _ _ _
      | exact ih2 _ _ _ _ _ _ _ _ _ _ _ _ _ _
      | exact ih3 _ _ _ _ _ _ _ _ _ _ _ _ _ _
      | exact LeO.none _
      | refine LeO.ite ?_ ?_
      | refine LeO.bind ?_ (fun _ => ?_)
    · intro y0 y1 y2 y3 y4 y5 y6 y7 y8 y9 y10 y11 y12
      unfold blackboardlaw17_FrontShuts.l0
      repeat' first
      | (with_reducible exact ih0 _ _ _ _ _ _ _)
      | (with_reducible exact ih1 _ _ _ _ _ _ _ _ _ _ _ _ _)
      | (with_reducible exact ih2 _ _ _ _ _ _ _ _ _ _ _ _ _ _)
      | (with_reducible exact ih3 _ _ _ _ _ _ _ _ _ _ _ _ _ _)
      | (with_reducible exact LeO.refl _)
      | (with_reducible exact LeO.none _)
      | (with_reducible refine LeO.ite ?_ ?_)
      | (with_reducible refine LeO.bind ?_ (fun _ => ?_))
      | exact ih0 _ _ _ _ _ _ _
      | exact ih1 _ _ _ _ _ _ _ _ _ _ _ _ _
      | exact ih2 _ _ _ _ _ _ _ _ _ _ _ _ _ _
      | exact ih3 _ _ _ _ _ _ _ _ _ _ _ _ _ _
      | exact LeO.none _
      | refine LeO.ite ?_ ?_
      | refine LeO.bind ?_ (fun _ => ?_)
    · intro y0 y1 y2 y3 y4 y5 y6 y7 y8 y9 y10 y11 y12 y13
      unfold blackboardlaw17_FrontShuts.j2
      repeat' first
      | (with_reducible exact ih0 _ _ _ _ _ _ _)
      | (with_reducible exact ih1 _ _ _ _ _ _ _ _ _ _ _ _ _)
      | (with_reducible exact ih2 _ _ _ _ _ _ _ _ _ _ _ _ _ _)
      | (with_reducible exact ih3 _ _ _ _ _ _ _ _ _ _ _ _ _ _)
      | (with_reducible exact LeO.refl _)
      | (with_reducible exact LeO.none _)
      | (with_reducible refine LeO.ite ?_ ?_)
      | (with_reducible refine LeO.bind ?_ (fun _ => ?_))
      | exact ih0 _ _ _ _ _ _ _
      | exact ih1 _ _ _ _ _ _ _ _ _ _ _ _ _
      | exact ih2 _ _ _ _ _ _ _ _ _ _ _ _ _ _
      | exact ih3 _ _ _ _ _ _ _ _ _ _ _ _ _ _
      | exact LeO.none _
      | refine LeO.ite ?_ ?_
      | refine LeO.bind ?_ (fun _ => ?_)
    · intro y0 y1 y2 y3 y4 y5 y6 y7 y8 y9 y10 y11 y12 y13
      unfold blackboardlaw17_FrontShuts.j3
      repeat' first
      | (with_reducible exact ih0 _ _ _ _ _ _ _)
      | (with_reducible exact ih1 _ _ _ _ _ _ _ _ _ _ _ _ _)
      | (with_reducible exact ih2 _ _ _ _ _ _ _ _ _ _ _ _ _ _)
      | (with_reducible exact ih3 _ _ _ _ _ _ _ _ _ _ _ _ _ _)
      | (with_reducible exact LeO.refl _)
      | (with_reducible exact LeO.none _)
      | (with_reducible refine LeO.ite ?_ ?_)
      | (with_reducible refine LeO.bind ?_ (fun _ => ?_))
      | exact ih0 _ _ _ _ _ _ _
      | exact ih1 _ _ _ _ _ _ _ _ _ _ _ _ _
      | exact ih2 _ _ _ _ _ _ _ _ _ _ _ _ _ _
      | exact ih3 _ _ _ _ _ _ _ _ _ _ _ _ _ _
      | exact LeO.none _
      | refine LeO.ite ?_ ?_
      | refine LeO.bind ?_ (fun _ => ?_)
theorem blackboardlaw17_FrontShuts.mono : ∀ a0 a1 a2 a3 a4 a5 k, LeO (blackboardlaw17_FrontShuts.f k a0 a1 a2 a3 a4 a5) (blackboardlaw17_FrontShuts.f (k + 1) a0 a1 a2 a3 a4 a5) := by
  intro a0 a1 a2 a3 a4 a5 k
  obtain ⟨ih0, ih1, ih2, ih3⟩ := blackboardlaw17_FrontShuts.mono_l k
  unfold blackboardlaw17_FrontShuts.f
  repeat' first
      | (with_reducible exact ih0 _ _ _ _ _ _ _)
      | (with_reducible exact ih1 _ _ _ _ _ _ _ _ _ _ _ _ _)
      | (with_reducible exact ih2 _ _ _ _ _ _ _ _ _ _ _ _ _ _)
      | (with_reducible exact ih3 _ _ _ _ _ _ _ _ _ _ _ _ _ _)
      | (with_reducible exact LeO.refl _)
      | (with_reducible exact LeO.none _)
      | (with_reducible refine LeO.ite ?_ ?_)
      | (with_reducible refine LeO.bind ?_ (fun _ => ?_))
      | exact ih0 _ _ _ _ _ _ _
      | exact ih1 _ _ _ _ _ _ _ _ _ _ _ _ _
      | exact ih2 _ _ _ _ _ _ _ _ _ _ _ _ _ _
      | exact ih3 _ _ _ _ _ _ _ _ _ _ _ _ _ _
      | exact LeO.none _
      | refine LeO.ite ?_ ?_
      | refine LeO.bind ?_ (fun _ => ?_)
set_option maxHeartbeats 8000000 in
set_option maxRecDepth 100000 in
theorem blackboardlaw17_FrontShuts.calls (k : Nat) (a0_0 : Int) (a0_1 : Int) (a0_2 : Int) (a0_3 : Int) (a1 : Int) (A2 : Option Addr) (c2 : Nat) (l2 : List Bool) (r : Bool) (w : World) (hr2 : Kd.C Kd.bool w A2 l2.length l2) (hc2 : l2.length ≤ c2) (h : blackboardlaw17_FrontShuts.f k a0_0 a0_1 a0_2 a0_3 a1 l2 = some r) :
    Calls Try.prog 6 #[.agg #[.int .i64 a0_0, .int .i64 a0_1, .int .i64 a0_2, .int .i64 a0_3], .int .u8 a1, .slice A2 l2.length c2] w fun e w' => e = .returned (.bool r) ∧ Below w.heap.size w w' := by
  have hu23 := Try.underlying23
  have HR2 := Aside0.mk hr2
  have HC2 := Aside0.mk hc2
  clear hr2 hc2
  have HB := Aside0.mk (Below.refl w.heap.size w)
  have H : ((blackboardlaw17_awake.f).bind fun t414 => (if t414 = true then ((blackboardref1_GeoMay.f a0_0 a0_1 a0_2 a0_3).bind fun t415 => (if t415 = true then (blackboardlaw17_FrontShuts.j0 k a1 l2 (decide ((l2.length : Int) > 100)) a0_0 a0_1 a0_2 a0_3) else (blackboardlaw17_FrontShuts.j0 k a1 l2 true a0_0 a0_1 a0_2 a0_3))) else (some false))) = some r := h
  clear h
  replace H := Option.bind_eq_some_iff.mp H
  obtain ⟨t414, A40, H⟩ := H
  replace H : (if t414 = true then ((blackboardref1_GeoMay.f a0_0 a0_1 a0_2 a0_3).bind fun t415 => (if t415 = true then (blackboardlaw17_FrontShuts.j0 k a1 l2 (decide ((l2.length : Int) > 100)) a0_0 a0_1 a0_2 a0_3) else (blackboardlaw17_FrontShuts.j0 k a1 l2 true a0_0 a0_1 a0_2 a0_3))) else (some false)) = some r := H
  have A4 := Aside0.mk A40
  clear A40
  by_cases c5 : t414 = true
  · subst c5
    have H1 : ((blackboardref1_GeoMay.f a0_0 a0_1 a0_2 a0_3).bind fun t415 => (if t415 = true then (blackboardlaw17_FrontShuts.j0 k a1 l2 (decide ((l2.length : Int) > 100)) a0_0 a0_1 a0_2 a0_3) else (blackboardlaw17_FrontShuts.j0 k a1 l2 true a0_0 a0_1 a0_2 a0_3))) = some r := by rw [if_pos rfl] at H; exact H
    clear H
    have H := H1
    clear H1
    have HC6 := Aside0.mk H
    clear H
    go_enter Try.func6, Try.ntmps6
    go_upto_region 3 with (first | ((with_reducible refine gate_dst (N := 3) rfl ?_); (try (refine gate_guard (by rfl) ?_; dsimp only)); refine box_event ?hg (N := 3) ?hd (cs := #[.int .i64 a0_0, .int .i64 a0_1, .int .i64 a0_2, .int .i64 a0_3]) (t := 23) ?hr ?_; (case hd => rfl); (case hg => rfl); (case hr => first | (go_simp; done) | (go_simp; rfl)); intro gb413 hg w7 hbox hb; have n0_ := Aside0.mk (below_step (by repeat (first | (with_reducible first | exact HB.out | apply below_alloc | apply pw_below_drewN | apply below_drew1) | exact HB.out)) hb); have n1_ := Aside0.mk (hbox); have n2_ := Aside0.mk ((by rw [hg]; exact (below_size (by repeat (first | (with_reducible first | exact HB.out | apply below_alloc | apply pw_below_drewN | apply below_drew1) | exact HB.out))) : w.heap.size ≤ gb413)); have n3_ := Aside0.mk ((by rw [hg]; exact (below_size (by repeat (first | (with_reducible first | exact HB.out | apply below_alloc | apply pw_below_drewN | apply below_drew1) | exact HB.out))) : w.heap.size ≤ gb413)); clear HB; have HB := n0_; have BK413 := n1_; have GW413 := n2_; have GE413 := n3_; clear n0_ n1_ n2_ n3_; clear hb hbox hg) | ((with_reducible refine gate_callee (f := 7) rfl ?_); refine goesL_ (some 16) rfl rfl Try.func7 (by kernel_rfl) rfl #[] rfl (by (try simp only [List.map_toArray, List.map_cons, List.map_nil]); first | done | rfl | (simp only [List.length_drop, List.length_take]; rfl)) ?_; (with_reducible refine (blackboardlaw17_awake.calls  true _ A4.out).mono ?_); rintro e w8 ⟨rfl, hb⟩; refine ⟨_, rfl, ?_⟩; have n0_ := Aside0.mk (blk_below (g := gb413) (o := .cells #[.int .i64 a0_0, .int .i64 a0_1, .int .i64 a0_2, .int .i64 a0_3] 23 (0, 0)) (by (with_reducible repeat (first | refine blk_drewN ?_ _ | refine blk_drew ?_ | refine blk_alloc ?_ _)); exact BK413.out) hb); have n1_ := Aside0.mk (below_step (by repeat (first | (with_reducible first | exact HB.out | apply below_alloc | apply pw_below_drewN | apply below_drew1 | refine below_set ?_ GE413.out) | exact HB.out)) hb); clear BK413; clear HB; have BK413 := n0_; have HB := n1_; clear n0_ n1_; (try clear hb); (try clear hb2); (try clear hk); (try clear hi)))
    (try simp only [Act.put, List.setIfInBounds_toArray, List.set_cons_zero, List.set_cons_succ])
    go_cut [25] (fun v25 wc => ∃ (kq : Nat) (x25_5 : Bool), v25 = .bool x25_5 ∧ Aside0 (blackboardlaw17_FrontShuts.j0 kq a1 l2 x25_5 a0_0 a0_1 a0_2 a0_3 = some r) ∧ Aside0 (kq ≤ k) ∧ Aside0 (wc.heap[gb413]? = some (.cells #[.int .i64 a0_0, .int .i64 a0_1, .int .i64 a0_2, .int .i64 a0_3] 23 (0, 0))) ∧ Aside0 (Below w.heap.size w wc))
    case first =>
      have H := HC6.out
      clear HC6
      replace H := Option.bind_eq_some_iff.mp H
      obtain ⟨t415, A90, H⟩ := H
      replace H : (if t415 = true then (blackboardlaw17_FrontShuts.j0 k a1 l2 (decide ((l2.length : Int) > 100)) a0_0 a0_1 a0_2 a0_3) else (blackboardlaw17_FrontShuts.j0 k a1 l2 true a0_0 a0_1 a0_2 a0_3)) = some r := H
      have A9 := Aside0.mk A90
      clear A90
      by_cases c10 : t415 = true
      · subst c10
        have H1 : (blackboardlaw17_FrontShuts.j0 k a1 l2 (decide ((l2.length : Int) > 100)) a0_0 a0_1 a0_2 a0_3) = some r := by rw [if_pos rfl] at H; exact H
        clear H
        have H := H1
        clear H1
        have H' := Aside0.mk H
        clear H
        have hcz11_0 : w8.cell? ⟨gb413, 0, none⟩ = some (.int .i64 a0_0) := (blk_cell BK413.out 0).trans rfl
        have hcz11_1 : w8.cell? ⟨gb413, 1, none⟩ = some (.int .i64 a0_1) := (blk_cell BK413.out 1).trans rfl
        have hcz11_2 : w8.cell? ⟨gb413, 2, none⟩ = some (.int .i64 a0_2) := (blk_cell BK413.out 2).trans rfl
        have hcz11_3 : w8.cell? ⟨gb413, 3, none⟩ = some (.int .i64 a0_3) := (blk_cell BK413.out 3).trans rfl
        have hfz11_0 := blk_frozen BK413.out 0
        have hfz11_1 := blk_frozen BK413.out 1
        have hfz11_2 := blk_frozen BK413.out 2
        have hfz11_3 := blk_frozen BK413.out 3
        go_wp2_with (first | ((with_reducible refine gate_callee (f := 9) rfl ?_); refine goesL_ (some 19) rfl rfl Try.func9 (by kernel_rfl) rfl #[.agg #[.int .i64 a0_0, .int .i64 a0_1, .int .i64 a0_2, .int .i64 a0_3]] rfl (by (try simp only [List.map_toArray, List.map_cons, List.map_nil]); first | done | rfl | (simp only [List.length_drop, List.length_take]; rfl)) ?_; (with_reducible refine (blackboardref1_GeoMay.calls a0_0 a0_1 a0_2 a0_3 true _ A9.out).mono ?_); rintro e w12 ⟨rfl, hb⟩; refine ⟨_, rfl, ?_⟩; have n0_ := Aside0.mk (blk_below (g := gb413) (o := .cells #[.int .i64 a0_0, .int .i64 a0_1, .int .i64 a0_2, .int .i64 a0_3] 23 (0, 0)) (by (with_reducible repeat (first | refine blk_drewN ?_ _ | refine blk_drew ?_ | refine blk_alloc ?_ _)); exact BK413.out) hb); have n1_ := Aside0.mk (below_step (by repeat (first | (with_reducible first | exact HB.out | apply below_alloc | apply pw_below_drewN | apply below_drew1 | refine below_set ?_ GE413.out) | exact HB.out)) hb); clear BK413; clear HB; have BK413 := n0_; have HB := n1_; clear n0_ n1_; (try clear hb); (try clear hb2); (try clear hk); (try clear hi)))
        go_meet
        case rel => exact ⟨_, (decide ((l2.length : Int) > 100)), (by first | rfl | (simp; done) | (simp [*]; done)), H', ⟨by first | omega | exact Nat.le_refl _⟩, ⟨by (with_reducible repeat (first | refine blk_drewN ?_ _ | refine blk_drew ?_ | refine blk_alloc ?_ _)); exact BK413.out⟩, ⟨by repeat (first | (with_reducible first | exact HB.out | apply below_alloc | apply pw_below_drewN | apply below_drew1 | refine below_set ?_ GE413.out) | exact HB.out)⟩⟩
      · replace c10 := Bool.eq_false_iff.mpr c10
        subst c10
        have H1 : (blackboardlaw17_FrontShuts.j0 k a1 l2 true a0_0 a0_1 a0_2 a0_3) = some r := by rw [if_neg (show ¬ (false = true) by decide)] at H; exact H
        clear H
        have H := H1
        clear H1
        have H' := Aside0.mk H
        clear H
        have hcz13_0 : w8.cell? ⟨gb413, 0, none⟩ = some (.int .i64 a0_0) := (blk_cell BK413.out 0).trans rfl
        have hcz13_1 : w8.cell? ⟨gb413, 1, none⟩ = some (.int .i64 a0_1) := (blk_cell BK413.out 1).trans rfl
        have hcz13_2 : w8.cell? ⟨gb413, 2, none⟩ = some (.int .i64 a0_2) := (blk_cell BK413.out 2).trans rfl
        have hcz13_3 : w8.cell? ⟨gb413, 3, none⟩ = some (.int .i64 a0_3) := (blk_cell BK413.out 3).trans rfl
        have hfz13_0 := blk_frozen BK413.out 0
        have hfz13_1 := blk_frozen BK413.out 1
        have hfz13_2 := blk_frozen BK413.out 2
        have hfz13_3 := blk_frozen BK413.out 3
        go_wp2_with (first | ((with_reducible refine gate_callee (f := 9) rfl ?_); refine goesL_ (some 19) rfl rfl Try.func9 (by kernel_rfl) rfl #[.agg #[.int .i64 a0_0, .int .i64 a0_1, .int .i64 a0_2, .int .i64 a0_3]] rfl (by (try simp only [List.map_toArray, List.map_cons, List.map_nil]); first | done | rfl | (simp only [List.length_drop, List.length_take]; rfl)) ?_; (with_reducible refine (blackboardref1_GeoMay.calls a0_0 a0_1 a0_2 a0_3 false _ A9.out).mono ?_); rintro e w14 ⟨rfl, hb⟩; refine ⟨_, rfl, ?_⟩; have n0_ := Aside0.mk (blk_below (g := gb413) (o := .cells #[.int .i64 a0_0, .int .i64 a0_1, .int .i64 a0_2, .int .i64 a0_3] 23 (0, 0)) (by (with_reducible repeat (first | refine blk_drewN ?_ _ | refine blk_drew ?_ | refine blk_alloc ?_ _)); exact BK413.out) hb); have n1_ := Aside0.mk (below_step (by repeat (first | (with_reducible first | exact HB.out | apply below_alloc | apply pw_below_drewN | apply below_drew1 | refine below_set ?_ GE413.out) | exact HB.out)) hb); clear BK413; clear HB; have BK413 := n0_; have HB := n1_; clear n0_ n1_; (try clear hb); (try clear hb2); (try clear hk); (try clear hi)))
        go_meet
        case rel => exact ⟨_, (true), (by first | rfl | (simp; done) | (simp [*]; done)), H', ⟨by first | omega | exact Nat.le_refl _⟩, ⟨by (with_reducible repeat (first | refine blk_drewN ?_ _ | refine blk_drew ?_ | refine blk_alloc ?_ _)); exact BK413.out⟩, ⟨by repeat (first | (with_reducible first | exact HB.out | apply below_alloc | apply pw_below_drewN | apply below_drew1 | refine below_set ?_ GE413.out) | exact HB.out)⟩⟩
    case rest =>
      clear HC6
      try clear c1
      try clear c2
      try clear p2
      try clear c5
      try clear c6
      try clear c7
      try clear c9
      try clear c10
      try clear hcz11_0
      try clear hcz11_1
      try clear hcz11_2
      try clear hcz11_3
      try clear hcz13_0
      try clear hcz13_1
      try clear hcz13_2
      try clear hcz13_3
      try clear hfz11_0
      try clear hfz11_1
      try clear hfz11_2
      try clear hfz11_3
      try clear hfz13_0
      try clear hfz13_1
      try clear hfz13_2
      try clear hfz13_3
      obtain ⟨kq, x25_5, rfl, HA, HJ5, BK413, HB⟩ := hcut
      cases kq with
      | zero => exact absurd HA.out (by simp [blackboardlaw17_FrontShuts.j0])
      | succ kj5 =>
        have H := HA.out
        clear HA
        simp only [blackboardlaw17_FrontShuts.j0] at H
        by_cases c15 : x25_5 = true
        · subst c15
          have H1 : (some true) = some r := by rw [if_pos rfl] at H; exact H
          clear H
          have H := H1
          clear H1
          obtain rfl := Option.some.inj H
          go_wp2
          go_ret
          exact ⟨by first | rfl | (simp [errW_none, errW_some] <;> rfl) | (simp [*, errW_none, errW_some] <;> rfl), by repeat (first | (with_reducible first | exact HB.out | apply below_alloc | apply pw_below_drewN | apply below_drew1 | refine below_set ?_ GE413.out) | exact HB.out)⟩
        · replace c15 := Bool.eq_false_iff.mpr c15
          subst c15
          have H1 : ((front_New.f a0_0 a0_1 a0_2 a0_3).bind fun bt416 => (if a0_0 = 0 then (none) else ((front_Front_Open.f bt416.1 bt416.2.1 bt416.2.2.1 bt416.2.2.2.1 bt416.2.2.2.2.1 bt416.2.2.2.2.2 (Int.tmod (wrap64 (a1)) a0_0) 0).bind fun bt423 => (if bt423.1 = true then (blackboardlaw17_FrontShuts.l0 kj5 l2 (Int.tmod (wrap64 (a1)) a0_0) 0 a0_0 a0_1 a0_2 a0_3 bt423.2.1 bt423.2.2.1 bt423.2.2.2.1 bt423.2.2.2.2.1 bt423.2.2.2.2.2.1 bt423.2.2.2.2.2.2) else (some false))))) = some r := by rw [if_neg (show ¬ (false = true) by decide)] at H; exact H
          clear H
          have H := H1
          clear H1
          replace H := Option.bind_eq_some_iff.mp H
          obtain ⟨⟨t416, t417, t418, t419, t420, t421⟩, A160, H⟩ := H
          replace H : (if a0_0 = 0 then (none) else ((front_Front_Open.f t416 t417 t418 t419 t420 t421 (Int.tmod (wrap64 (a1)) a0_0) 0).bind fun bt423 => (if bt423.1 = true then (blackboardlaw17_FrontShuts.l0 kj5 l2 (Int.tmod (wrap64 (a1)) a0_0) 0 a0_0 a0_1 a0_2 a0_3 bt423.2.1 bt423.2.2.1 bt423.2.2.2.1 bt423.2.2.2.2.1 bt423.2.2.2.2.2.1 bt423.2.2.2.2.2.2) else (some false)))) = some r := H
          have A16 := Aside0.mk A160
          clear A160
          by_cases c17 : a0_0 = 0
          · rw [if_pos c17] at H
            exact absurd H (by simp)
          · rw [if_neg c17] at H
            have c17b0 : (a0_0 == 0) = false := beq_eq_false_iff_ne.mpr c17
            have c17b1 : (a0_0 != 0) = true := bne_iff_ne.mpr c17
            replace H := Option.bind_eq_some_iff.mp H
            obtain ⟨⟨t423, t424, t425, t426, t427, t428, t429⟩, A180, H⟩ := H
            replace H : (if t423 = true then (blackboardlaw17_FrontShuts.l0 kj5 l2 (Int.tmod (wrap64 (a1)) a0_0) 0 a0_0 a0_1 a0_2 a0_3 t424 t425 t426 t427 t428 t429) else (some false)) = some r := H
            have A18 := Aside0.mk A180
            clear A180
            by_cases c19 : t423 = true
            · subst c19
              have H1 : (blackboardlaw17_FrontShuts.l0 kj5 l2 (Int.tmod (wrap64 (a1)) a0_0) 0 a0_0 a0_1 a0_2 a0_3 t424 t425 t426 t427 t428 t429) = some r := by rw [if_pos rfl] at H; exact H
              clear H
              have H := H1
              clear H1
              have H' := Aside0.mk H
              clear H
              have hcz20_0 : wc.cell? ⟨gb413, 0, none⟩ = some (.int .i64 a0_0) := (blk_cell BK413.out 0).trans rfl
              have hcz20_1 : wc.cell? ⟨gb413, 1, none⟩ = some (.int .i64 a0_1) := (blk_cell BK413.out 1).trans rfl
              have hcz20_2 : wc.cell? ⟨gb413, 2, none⟩ = some (.int .i64 a0_2) := (blk_cell BK413.out 2).trans rfl
              have hcz20_3 : wc.cell? ⟨gb413, 3, none⟩ = some (.int .i64 a0_3) := (blk_cell BK413.out 3).trans rfl
              have hfz20_0 := blk_frozen BK413.out 0
              have hfz20_1 := blk_frozen BK413.out 1
              have hfz20_2 := blk_frozen BK413.out 2
              have hfz20_3 := blk_frozen BK413.out 3
              go_wp2_with (first | ((with_reducible refine gate_callee (f := 8) rfl ?_); refine goesL_ (some 27) rfl rfl Try.func8 (by kernel_rfl) rfl #[.agg #[.int .i64 a0_0, .int .i64 a0_1, .int .i64 a0_2, .int .i64 a0_3]] rfl (by (try simp only [List.map_toArray, List.map_cons, List.map_nil]); first | done | rfl | (simp only [List.length_drop, List.length_take]; rfl)) ?_; (with_reducible refine (front_New.calls a0_0 a0_1 a0_2 a0_3 t416 t417 t418 t419 t420 t421 w _ ?side1 A16.out).mono ?_); (case side1 => repeat (first | (with_reducible first | exact HB.out | apply below_alloc | apply pw_below_drewN | apply below_drew1 | refine below_set ?_ GE413.out) | exact HB.out)); rintro e w21 ⟨g422, rfl, hi, hb, hb2⟩; refine ⟨_, rfl, ?_⟩; have n0_ := Aside0.mk (blk_below (g := gb413) (o := .cells #[.int .i64 a0_0, .int .i64 a0_1, .int .i64 a0_2, .int .i64 a0_3] 23 (0, 0)) (by (with_reducible repeat (first | refine blk_drewN ?_ _ | refine blk_drew ?_ | refine blk_alloc ?_ _)); exact BK413.out) hb2); have n1_ := Aside0.mk (hb); have n2_ := Aside0.mk (hi); have n3_ := Aside0.mk (IsS40.ne_blk hi (blk_below (g := gb413) (o := .cells #[.int .i64 a0_0, .int .i64 a0_1, .int .i64 a0_2, .int .i64 a0_3] 23 (0, 0)) (by (with_reducible repeat (first | refine blk_drewN ?_ _ | refine blk_drew ?_ | refine blk_alloc ?_ _)); exact BK413.out) hb2) (by decide)); have n4_ := Aside0.mk (Ne.symm (IsS40.ne_blk hi (blk_below (g := gb413) (o := .cells #[.int .i64 a0_0, .int .i64 a0_1, .int .i64 a0_2, .int .i64 a0_3] 23 (0, 0)) (by (with_reducible repeat (first | refine blk_drewN ?_ _ | refine blk_drew ?_ | refine blk_alloc ?_ _)); exact BK413.out) hb2) (by decide))); clear BK413; clear HB; have BK413 := n0_; have HB := n1_; have HI422 := n2_; have NB422_413 := n3_; have NB413_422 := n4_; clear n0_ n1_ n2_ n3_ n4_; (try clear hb); (try clear hb2); (try clear hk); (try clear hi); have hnb22 := NB413_422.out; have hnc22 := NB422_413.out; have hcz23_0 : w21.cell? ⟨gb413, 0, none⟩ = some (.int .i64 a0_0) := (blk_cell BK413.out 0).trans rfl; have hcz23_1 : w21.cell? ⟨gb413, 1, none⟩ = some (.int .i64 a0_1) := (blk_cell BK413.out 1).trans rfl; have hcz23_2 : w21.cell? ⟨gb413, 2, none⟩ = some (.int .i64 a0_2) := (blk_cell BK413.out 2).trans rfl; have hcz23_3 : w21.cell? ⟨gb413, 3, none⟩ = some (.int .i64 a0_3) := (blk_cell BK413.out 3).trans rfl; have hfz23_0 := blk_frozen BK413.out 0; have hfz23_1 := blk_frozen BK413.out 1; have hfz23_2 := blk_frozen BK413.out 2; have hfz23_3 := blk_frozen BK413.out 3) | (go_at_call 10; (with_reducible refine (front_Front_Open.calls g422 t416 t417 t418 t419 t420 t421 (Int.tmod (wrap64 (a1)) a0_0) 0 true t424 t425 t426 t427 t428 t429 w _ ?side1 ?side2 A18.out).mono ?_); (case side1 => repeat (first | (with_reducible first | exact HI422.out | apply IsS40.alloc | apply IsS40.drewN | apply IsS40.drew | apply IsS40.set_0 | apply IsS40.set_1 | apply IsS40.set_2 | apply IsS40.set_3 | apply IsS40.set_4 | apply IsS40.set_5 | refine IsS40.far ?_ NB422_413.out _) | exact HI422.out)); (case side2 => repeat (first | (with_reducible first | exact HB.out | apply below_alloc | apply pw_below_drewN | apply below_drew1 | refine below_set ?_ (IsS40.ge HI422.out) | refine below_set ?_ GE413.out) | exact HB.out)); rintro e w24 ⟨rfl, hi, hb, hk⟩; have n0_ := Aside0.mk (KeepBut.blk hk (g' := gb413) (o := .cells #[.int .i64 a0_0, .int .i64 a0_1, .int .i64 a0_2, .int .i64 a0_3] 23 (0, 0)) (by (with_reducible repeat (first | refine blk_drewN ?_ _ | refine blk_drew ?_ | refine blk_alloc ?_ _)); exact BK413.out) NB413_422.out (by simp)); have n1_ := Aside0.mk (hb); have n2_ := Aside0.mk (hi); clear BK413; clear HB; clear HI422; have BK413 := n0_; have HB := n1_; have HI422 := n2_; clear n0_ n1_ n2_; (try clear hb); (try clear hb2); (try clear hk); (try clear hi)))
              go_loopg [9] kj5 (fun kq v9 w' => ∃ (x9_2 : Int) (x423000_2 : Int) (x423001_2 : Int) (x423002_2 : Int) (x423003_2 : Int) (x423004_2 : Int) (x423005_2 : Int), v9 = .int .i64 x9_2 ∧ Aside0 (blackboardlaw17_FrontShuts.l0 kq l2 (Int.tmod (wrap64 (a1)) a0_0) x9_2 a0_0 a0_1 a0_2 a0_3 x423000_2 x423001_2 x423002_2 x423003_2 x423004_2 x423005_2 = some r) ∧ Aside0 (kq ≤ kj5) ∧ Aside0 (w'.heap[gb413]? = some (.cells #[.int .i64 a0_0, .int .i64 a0_1, .int .i64 a0_2, .int .i64 a0_3] 23 (0, 0))) ∧ Aside0 (IsS40 w w' g422 x423000_2 x423001_2 x423002_2 x423003_2 x423004_2 x423005_2) ∧ Aside0 (Below w.heap.size w w'))
              case atStart => exact ⟨(0), (t424), (t425), (t426), (t427), (t428), (t429), (by first | rfl | (simp; done) | (simp [*]; done)), H', ⟨Nat.le_refl _⟩, ⟨by (with_reducible repeat (first | refine blk_drewN ?_ _ | refine blk_drew ?_ | refine blk_alloc ?_ _)); exact BK413.out⟩, ⟨by repeat (first | (with_reducible first | exact HI422.out | apply IsS40.alloc | apply IsS40.drewN | apply IsS40.drew | apply IsS40.set_0 | apply IsS40.set_1 | apply IsS40.set_2 | apply IsS40.set_3 | apply IsS40.set_4 | apply IsS40.set_5 | refine IsS40.far ?_ NB422_413.out _) | exact HI422.out)⟩, ⟨by repeat (first | (with_reducible first | exact HB.out | apply below_alloc | apply pw_below_drewN | apply below_drew1 | refine below_set ?_ (IsS40.ge HI422.out) | refine below_set ?_ GE413.out) | exact HB.out)⟩⟩
              case round =>
                clear H'
                try clear c1
                try clear c2
                try clear p2
                try clear c5
                try clear c6
                try clear p6
                try clear c7
                try clear c8
                try clear c9
                try clear c10
                try clear c15
                try clear c17
                try clear c17b0
                try clear c17b1
                try clear c19
                try clear c22
                try clear hcz11_0
                try clear hcz11_1
                try clear hcz11_2
                try clear hcz11_3
                try clear hcz13_0
                try clear hcz13_1
                try clear hcz13_2
                try clear hcz13_3
                try clear hcz20_0
                try clear hcz20_1
                try clear hcz20_2
                try clear hcz20_3
                try clear hcz23_0
                try clear hcz23_1
                try clear hcz23_2
                try clear hcz23_3
                try clear hfz11_0
                try clear hfz11_1
                try clear hfz11_2
                try clear hfz11_3
                try clear hfz13_0
                try clear hfz13_1
                try clear hfz13_2
                try clear hfz13_3
                try clear hfz20_0
                try clear hfz20_1
                try clear hfz20_2
                try clear hfz20_3
                try clear hfz23_0
                try clear hfz23_1
                try clear hfz23_2
                try clear hfz23_3
                try clear p2
                obtain ⟨x9_2, x423000_2, x423001_2, x423002_2, x423003_2, x423004_2, x423005_2, rfl, HA, HK2, BK413, HI422, HB⟩ := hrel
                cases gk with
                | zero => exact absurd HA.out (by simp [blackboardlaw17_FrontShuts.l0])
                | succ k2 =>
                  have H := HA.out
                  clear HA
                  simp only [blackboardlaw17_FrontShuts.l0] at H
                  by_cases c25 : x9_2 < a0_1
                  · rw [if_pos c25] at H
                    have c25b0 : decide (x9_2 < a0_1) = true := decide_eq_true c25
                    clear c25
                    have HC26 := Aside0.mk H
                    clear H
                    have hnb27 := NB413_422.out
                    have hnc27 := NB422_413.out
                    have hcz28_0 : wr.cell? ⟨gb413, 0, none⟩ = some (.int .i64 a0_0) := (blk_cell BK413.out 0).trans rfl
                    have hcz28_1 : wr.cell? ⟨gb413, 1, none⟩ = some (.int .i64 a0_1) := (blk_cell BK413.out 1).trans rfl
                    have hcz28_2 : wr.cell? ⟨gb413, 2, none⟩ = some (.int .i64 a0_2) := (blk_cell BK413.out 2).trans rfl
                    have hcz28_3 : wr.cell? ⟨gb413, 3, none⟩ = some (.int .i64 a0_3) := (blk_cell BK413.out 3).trans rfl
                    have hfz28_0 := blk_frozen BK413.out 0
                    have hfz28_1 := blk_frozen BK413.out 1
                    have hfz28_2 := blk_frozen BK413.out 2
                    have hfz28_3 := blk_frozen BK413.out 3
                    go_upto_region 12 with (fail)
                    go_cut [56] (fun v56 wc => ∃ (kq : Nat) (x56_25 : Bool), v56 = .bool x56_25 ∧ Aside0 (blackboardlaw17_FrontShuts.j2 kq l2 (Int.tmod (wrap64 (a1)) a0_0) x9_2 x56_25 a0_0 a0_1 a0_2 a0_3 x423000_2 x423001_2 x423002_2 x423003_2 x423004_2 x423005_2 = some r) ∧ Aside0 (kq ≤ k2) ∧ Aside0 (wc.heap[gb413]? = some (.cells #[.int .i64 a0_0, .int .i64 a0_1, .int .i64 a0_2, .int .i64 a0_3] 23 (0, 0))) ∧ Aside0 (IsS40 w wc g422 x423000_2 x423001_2 x423002_2 x423003_2 x423004_2 x423005_2) ∧ Aside0 (Below w.heap.size w wc))
                    case first =>
                      have H := HC26.out
                      clear HC26
                      by_cases c29 : x9_2 < (l2.length : Int)
                      · rw [if_pos c29] at H
                        have c29b0 : decide (x9_2 < (l2.length : Int)) = true := decide_eq_true c29
                        clear c29
                        (first | rw [c29b0] | (simp only [i64_w, i32_w]; rw [c29b0]) | skip)
                        by_cases c30 : 0 ≤ x9_2
                        · rw [if_pos c30] at H
                          have c30b0 : decide (0 ≤ x9_2) = true := decide_eq_true c30
                          clear c30
                          have H' := Aside0.mk H
                          clear H
                          have p437 : 0 ≤ (x9_2 : Int) := of_decide_eq_true (by first | (with_reducible assumption) | assumption)
                          have q437 : x9_2 < (l2.length : Int) := of_decide_eq_true (by first | (with_reducible assumption) | assumption)
                          obtain ⟨ad437, e437, hx437_0⟩ := Kd.at_bool HR2.out x9_2 p437 q437
                          cases e437
                          replace hx437_0 := (HB.out.cell (World.block_lt_of_cell? w _ hx437_0)).trans hx437_0
                          replace p437 := eq_true p437
                          replace q437 := eq_true q437
                          go_wp2
                          go_meet
                          case rel => exact ⟨_, (rdOf false l2 x9_2), (by first | rfl | (simp; done) | (simp [*]; done)), H', ⟨by have := HJ5.out; have := HK2.out; first | omega | exact Nat.le_refl _⟩, ⟨by (with_reducible repeat (first | refine blk_drewN ?_ _ | refine blk_drew ?_ | refine blk_alloc ?_ _)); exact BK413.out⟩, ⟨by repeat (first | (with_reducible first | exact HI422.out | apply IsS40.alloc | apply IsS40.drewN | apply IsS40.drew | apply IsS40.set_0 | apply IsS40.set_1 | apply IsS40.set_2 | apply IsS40.set_3 | apply IsS40.set_4 | apply IsS40.set_5 | refine IsS40.far ?_ NB422_413.out _) | exact HI422.out)⟩, ⟨by repeat (first | (with_reducible first | exact HB.out | apply below_alloc | apply pw_below_drewN | apply below_drew1 | refine below_set ?_ (IsS40.ge HI422.out) | refine below_set ?_ GE413.out) | exact HB.out)⟩⟩
                        · rw [if_neg c30] at H
                          exact absurd H (by simp)
                      · rw [if_neg c29] at H
                        have c29b0 : decide (x9_2 < (l2.length : Int)) = false := decide_eq_false c29
                        clear c29
                        (first | rw [c29b0] | (simp only [i64_w, i32_w]; rw [c29b0]) | skip)
                        have H' := Aside0.mk H
                        clear H
                        go_wp2
                        go_meet
                        case rel => exact ⟨_, (false), (by first | rfl | (simp; done) | (simp [*]; done)), H', ⟨by have := HJ5.out; have := HK2.out; first | omega | exact Nat.le_refl _⟩, ⟨by (with_reducible repeat (first | refine blk_drewN ?_ _ | refine blk_drew ?_ | refine blk_alloc ?_ _)); exact BK413.out⟩, ⟨by repeat (first | (with_reducible first | exact HI422.out | apply IsS40.alloc | apply IsS40.drewN | apply IsS40.drew | apply IsS40.set_0 | apply IsS40.set_1 | apply IsS40.set_2 | apply IsS40.set_3 | apply IsS40.set_4 | apply IsS40.set_5 | refine IsS40.far ?_ NB422_413.out _) | exact HI422.out)⟩, ⟨by repeat (first | (with_reducible first | exact HB.out | apply below_alloc | apply pw_below_drewN | apply below_drew1 | refine below_set ?_ (IsS40.ge HI422.out) | refine below_set ?_ GE413.out) | exact HB.out)⟩⟩
                    case rest =>
                      clear HC26
                      try clear c1
                      try clear c2
                      try clear p2
                      try clear c3
                      try clear p4
                      try clear q4
                      try clear hx4
                      try clear c5
                      try clear c6
                      try clear p6
                      try clear c7
                      try clear c8
                      try clear c9
                      try clear c10
                      try clear c15
                      try clear c17
                      try clear c17b0
                      try clear c17b1
                      try clear c19
                      try clear c22
                      try clear c25
                      try clear c25b0
                      try clear c27
                      try clear c29
                      try clear c29b0
                      try clear c30
                      try clear c30b0
                      try clear hcz11_0
                      try clear hcz11_1
                      try clear hcz11_2
                      try clear hcz11_3
                      try clear hcz13_0
                      try clear hcz13_1
                      try clear hcz13_2
                      try clear hcz13_3
                      try clear hcz20_0
                      try clear hcz20_1
                      try clear hcz20_2
                      try clear hcz20_3
                      try clear hcz23_0
                      try clear hcz23_1
                      try clear hcz23_2
                      try clear hcz23_3
                      try clear hcz28_0
                      try clear hcz28_1
                      try clear hcz28_2
                      try clear hcz28_3
                      try clear hfz11_0
                      try clear hfz11_1
                      try clear hfz11_2
                      try clear hfz11_3
                      try clear hfz13_0
                      try clear hfz13_1
                      try clear hfz13_2
                      try clear hfz13_3
                      try clear hfz20_0
                      try clear hfz20_1
                      try clear hfz20_2
                      try clear hfz20_3
                      try clear hfz23_0
                      try clear hfz23_1
                      try clear hfz23_2
                      try clear hfz23_3
                      try clear hfz28_0
                      try clear hfz28_1
                      try clear hfz28_2
                      try clear hfz28_3
                      try clear hx437_0
                      try clear p2
                      try clear p437
                      try clear p6
                      try clear q437
                      obtain ⟨kq, x56_25, rfl, HA, HJ25, BK413, HI422, HB⟩ := hcut
                      cases kq with
                      | zero => exact absurd HA.out (by simp [blackboardlaw17_FrontShuts.j2])
                      | succ kj25 =>
                        have H := HA.out
                        clear HA
                        simp only [blackboardlaw17_FrontShuts.j2] at H
                        by_cases c31 : x56_25 = true
                        · subst c31
                          have H1 : ((front_Front_Next.f x423000_2 x423001_2 x423002_2 x423003_2 x423004_2 x423005_2).bind fun bt438 => (if bt438.2.2.1 = true then (if bt438.2.1 = x9_2 then ((front_Front_Shut.f bt438.2.2.2.1 bt438.2.2.2.2.1 bt438.2.2.2.2.2.1 bt438.2.2.2.2.2.2.1 bt438.2.2.2.2.2.2.2.1 bt438.2.2.2.2.2.2.2.2).bind fun bt447 => (if bt447.1 = (Int.tmod (wrap64 (a1)) a0_0) then ((front_Front_Open.f bt447.2.1 bt447.2.2.1 bt447.2.2.2.1 bt447.2.2.2.2.1 bt447.2.2.2.2.2.1 bt447.2.2.2.2.2.2 (Int.tmod (wrap64 (a1)) a0_0) x9_2).bind fun bt454 => (blackboardlaw17_FrontShuts.j3 kj25 l2 (Int.tmod (wrap64 (a1)) a0_0) x9_2 (!bt454.1) a0_0 a0_1 a0_2 a0_3 bt454.2.1 bt454.2.2.1 bt454.2.2.2.1 bt454.2.2.2.2.1 bt454.2.2.2.2.2.1 bt454.2.2.2.2.2.2)) else (blackboardlaw17_FrontShuts.j3 kj25 l2 (Int.tmod (wrap64 (a1)) a0_0) x9_2 true a0_0 a0_1 a0_2 a0_3 bt447.2.1 bt447.2.2.1 bt447.2.2.2.1 bt447.2.2.2.2.1 bt447.2.2.2.2.2.1 bt447.2.2.2.2.2.2))) else (blackboardlaw17_FrontShuts.j3 kj25 l2 (Int.tmod (wrap64 (a1)) a0_0) x9_2 true a0_0 a0_1 a0_2 a0_3 bt438.2.2.2.1 bt438.2.2.2.2.1 bt438.2.2.2.2.2.1 bt438.2.2.2.2.2.2.1 bt438.2.2.2.2.2.2.2.1 bt438.2.2.2.2.2.2.2.2)) else (blackboardlaw17_FrontShuts.j3 kj25 l2 (Int.tmod (wrap64 (a1)) a0_0) x9_2 true a0_0 a0_1 a0_2 a0_3 bt438.2.2.2.1 bt438.2.2.2.2.1 bt438.2.2.2.2.2.1 bt438.2.2.2.2.2.2.1 bt438.2.2.2.2.2.2.2.1 bt438.2.2.2.2.2.2.2.2))) = some r := by rw [if_pos rfl] at H; exact H
                          clear H
                          have H := H1
                          clear H1
                          replace H := Option.bind_eq_some_iff.mp H
                          obtain ⟨⟨t438, t439, t440, t441, t442, t443, t444, t445, t446⟩, A320, H⟩ := H
                          replace H : (if t440 = true then (if t439 = x9_2 then ((front_Front_Shut.f t441 t442 t443 t444 t445 t446).bind fun bt447 => (if bt447.1 = (Int.tmod (wrap64 (a1)) a0_0) then ((front_Front_Open.f bt447.2.1 bt447.2.2.1 bt447.2.2.2.1 bt447.2.2.2.2.1 bt447.2.2.2.2.2.1 bt447.2.2.2.2.2.2 (Int.tmod (wrap64 (a1)) a0_0) x9_2).bind fun bt454 => (blackboardlaw17_FrontShuts.j3 kj25 l2 (Int.tmod (wrap64 (a1)) a0_0) x9_2 (!bt454.1) a0_0 a0_1 a0_2 a0_3 bt454.2.1 bt454.2.2.1 bt454.2.2.2.1 bt454.2.2.2.2.1 bt454.2.2.2.2.2.1 bt454.2.2.2.2.2.2)) else (blackboardlaw17_FrontShuts.j3 kj25 l2 (Int.tmod (wrap64 (a1)) a0_0) x9_2 true a0_0 a0_1 a0_2 a0_3 bt447.2.1 bt447.2.2.1 bt447.2.2.2.1 bt447.2.2.2.2.1 bt447.2.2.2.2.2.1 bt447.2.2.2.2.2.2))) else (blackboardlaw17_FrontShuts.j3 kj25 l2 (Int.tmod (wrap64 (a1)) a0_0) x9_2 true a0_0 a0_1 a0_2 a0_3 t441 t442 t443 t444 t445 t446)) else (blackboardlaw17_FrontShuts.j3 kj25 l2 (Int.tmod (wrap64 (a1)) a0_0) x9_2 true a0_0 a0_1 a0_2 a0_3 t441 t442 t443 t444 t445 t446)) = some r := H
                          have A32 := Aside0.mk A320
                          clear A320
                          have HC33 := Aside0.mk H
                          clear H
                          go_upto_region 14 with (first | ((with_reducible refine gate_callee (f := 11) rfl ?_); refine goesL_ (some 59) rfl rfl Try.func11 (by kernel_rfl) rfl #[.pointer (some ⟨g422, 0, none⟩)] rfl (by (try simp only [List.map_toArray, List.map_cons, List.map_nil]); first | done | rfl | (simp only [List.length_drop, List.length_take]; rfl)) ?_; (with_reducible refine (front_Front_Next.calls g422 x423000_2 x423001_2 x423002_2 x423003_2 x423004_2 x423005_2 t438 t439 t440 t441 t442 t443 t444 t445 t446 w _ ?side1 ?side2 A32.out).mono ?_); (case side1 => repeat (first | (with_reducible first | exact HI422.out | apply IsS40.alloc | apply IsS40.drewN | apply IsS40.drew | apply IsS40.set_0 | apply IsS40.set_1 | apply IsS40.set_2 | apply IsS40.set_3 | apply IsS40.set_4 | apply IsS40.set_5 | refine IsS40.far ?_ NB422_413.out _) | exact HI422.out)); (case side2 => repeat (first | (with_reducible first | exact HB.out | apply below_alloc | apply pw_below_drewN | apply below_drew1 | refine below_set ?_ (IsS40.ge HI422.out) | refine below_set ?_ GE413.out) | exact HB.out)); rintro e w34 ⟨rfl, hi, hb, hk⟩; refine ⟨_, rfl, ?_⟩; have n0_ := Aside0.mk (KeepBut.blk hk (g' := gb413) (o := .cells #[.int .i64 a0_0, .int .i64 a0_1, .int .i64 a0_2, .int .i64 a0_3] 23 (0, 0)) (by (with_reducible repeat (first | refine blk_drewN ?_ _ | refine blk_drew ?_ | refine blk_alloc ?_ _)); exact BK413.out) NB413_422.out (by simp)); have n1_ := Aside0.mk (hb); have n2_ := Aside0.mk (hi); clear BK413; clear HB; clear HI422; have BK413 := n0_; have HB := n1_; have HI422 := n2_; clear n0_ n1_ n2_; (try clear hb); (try clear hb2); (try clear hk); (try clear hi)))
                          (try simp only [Act.put, List.setIfInBounds_toArray, List.set_cons_zero, List.set_cons_succ])
                          go_cut [82] (fun v82 wc => ∃ (kq : Nat) (x82_32 : Bool) (x423000_32 : Int) (x423001_32 : Int) (x423002_32 : Int) (x423003_32 : Int) (x423004_32 : Int) (x423005_32 : Int), v82 = .bool x82_32 ∧ Aside0 (blackboardlaw17_FrontShuts.j3 kq l2 (Int.tmod (wrap64 (a1)) a0_0) x9_2 x82_32 a0_0 a0_1 a0_2 a0_3 x423000_32 x423001_32 x423002_32 x423003_32 x423004_32 x423005_32 = some r) ∧ Aside0 (kq ≤ kj25) ∧ Aside0 (wc.heap[gb413]? = some (.cells #[.int .i64 a0_0, .int .i64 a0_1, .int .i64 a0_2, .int .i64 a0_3] 23 (0, 0))) ∧ Aside0 (IsS40 w wc g422 x423000_32 x423001_32 x423002_32 x423003_32 x423004_32 x423005_32) ∧ Aside0 (Below w.heap.size w wc))
                          case first =>
                            have H := HC33.out
                            clear HC33
                            by_cases c35 : t440 = true
                            · subst c35
                              have H1 : (if t439 = x9_2 then ((front_Front_Shut.f t441 t442 t443 t444 t445 t446).bind fun bt447 => (if bt447.1 = (Int.tmod (wrap64 (a1)) a0_0) then ((front_Front_Open.f bt447.2.1 bt447.2.2.1 bt447.2.2.2.1 bt447.2.2.2.2.1 bt447.2.2.2.2.2.1 bt447.2.2.2.2.2.2 (Int.tmod (wrap64 (a1)) a0_0) x9_2).bind fun bt454 => (blackboardlaw17_FrontShuts.j3 kj25 l2 (Int.tmod (wrap64 (a1)) a0_0) x9_2 (!bt454.1) a0_0 a0_1 a0_2 a0_3 bt454.2.1 bt454.2.2.1 bt454.2.2.2.1 bt454.2.2.2.2.1 bt454.2.2.2.2.2.1 bt454.2.2.2.2.2.2)) else (blackboardlaw17_FrontShuts.j3 kj25 l2 (Int.tmod (wrap64 (a1)) a0_0) x9_2 true a0_0 a0_1 a0_2 a0_3 bt447.2.1 bt447.2.2.1 bt447.2.2.2.1 bt447.2.2.2.2.1 bt447.2.2.2.2.2.1 bt447.2.2.2.2.2.2))) else (blackboardlaw17_FrontShuts.j3 kj25 l2 (Int.tmod (wrap64 (a1)) a0_0) x9_2 true a0_0 a0_1 a0_2 a0_3 t441 t442 t443 t444 t445 t446)) = some r := by rw [if_pos rfl] at H; exact H
                              clear H
                              have H := H1
                              clear H1
                              by_cases c36 : t439 = x9_2
                              · rw [if_pos c36] at H
                                have c36b0 : (t439 == x9_2) = true := beq_iff_eq.mpr c36
                                have c36b1 : (t439 != x9_2) = false := bne_eq_false_iff_eq.mpr c36
                                clear c36
                                (first | rw [c36b0] | (simp only [i64_w, i32_w]; rw [c36b0]) | skip)
                                replace H := Option.bind_eq_some_iff.mp H
                                obtain ⟨⟨t447, t448, t449, t450, t451, t452, t453⟩, A370, H⟩ := H
                                replace H : (if t447 = (Int.tmod (wrap64 (a1)) a0_0) then ((front_Front_Open.f t448 t449 t450 t451 t452 t453 (Int.tmod (wrap64 (a1)) a0_0) x9_2).bind fun bt454 => (blackboardlaw17_FrontShuts.j3 kj25 l2 (Int.tmod (wrap64 (a1)) a0_0) x9_2 (!bt454.1) a0_0 a0_1 a0_2 a0_3 bt454.2.1 bt454.2.2.1 bt454.2.2.2.1 bt454.2.2.2.2.1 bt454.2.2.2.2.2.1 bt454.2.2.2.2.2.2)) else (blackboardlaw17_FrontShuts.j3 kj25 l2 (Int.tmod (wrap64 (a1)) a0_0) x9_2 true a0_0 a0_1 a0_2 a0_3 t448 t449 t450 t451 t452 t453)) = some r := H
                                have A37 := Aside0.mk A370
                                clear A370
                                by_cases c38 : t447 = (Int.tmod (wrap64 (a1)) a0_0)
                                · rw [if_pos c38] at H
                                  have c38b0 : (t447 == (Int.tmod (wrap64 (a1)) a0_0)) = true := beq_iff_eq.mpr c38
                                  have c38b1 : (t447 != (Int.tmod (wrap64 (a1)) a0_0)) = false := bne_eq_false_iff_eq.mpr c38
                                  clear c38
                                  replace H := Option.bind_eq_some_iff.mp H
                                  obtain ⟨⟨t454, t455, t456, t457, t458, t459, t460⟩, A390, H⟩ := H
                                  replace H : (blackboardlaw17_FrontShuts.j3 kj25 l2 (Int.tmod (wrap64 (a1)) a0_0) x9_2 (!t454) a0_0 a0_1 a0_2 a0_3 t455 t456 t457 t458 t459 t460) = some r := H
                                  have A39 := Aside0.mk A390
                                  clear A390
                                  have H' := Aside0.mk H
                                  clear H
                                  go_wp2_with (first | (go_at_call 13; (with_reducible refine (front_Front_Shut.calls g422 t441 t442 t443 t444 t445 t446 t447 t448 t449 t450 t451 t452 t453 w _ ?side1 ?side2 A37.out).mono ?_); (case side1 => repeat (first | (with_reducible first | exact HI422.out | apply IsS40.alloc | apply IsS40.drewN | apply IsS40.drew | apply IsS40.set_0 | apply IsS40.set_1 | apply IsS40.set_2 | apply IsS40.set_3 | apply IsS40.set_4 | apply IsS40.set_5 | refine IsS40.far ?_ NB422_413.out _) | exact HI422.out)); (case side2 => repeat (first | (with_reducible first | exact HB.out | apply below_alloc | apply pw_below_drewN | apply below_drew1 | refine below_set ?_ (IsS40.ge HI422.out) | refine below_set ?_ GE413.out) | exact HB.out)); rintro e w40 ⟨rfl, hi, hb, hk⟩; have n0_ := Aside0.mk (KeepBut.blk hk (g' := gb413) (o := .cells #[.int .i64 a0_0, .int .i64 a0_1, .int .i64 a0_2, .int .i64 a0_3] 23 (0, 0)) (by (with_reducible repeat (first | refine blk_drewN ?_ _ | refine blk_drew ?_ | refine blk_alloc ?_ _)); exact BK413.out) NB413_422.out (by simp)); have n1_ := Aside0.mk (hb); have n2_ := Aside0.mk (hi); clear BK413; clear HB; clear HI422; have BK413 := n0_; have HB := n1_; have HI422 := n2_; clear n0_ n1_ n2_; (try clear hb); (try clear hb2); (try clear hk); (try clear hi)) | (go_at_call 10; (with_reducible refine (front_Front_Open.calls g422 t448 t449 t450 t451 t452 t453 (Int.tmod (wrap64 (a1)) a0_0) x9_2 t454 t455 t456 t457 t458 t459 t460 w _ ?side1 ?side2 A39.out).mono ?_); (case side1 => repeat (first | (with_reducible first | exact HI422.out | apply IsS40.alloc | apply IsS40.drewN | apply IsS40.drew | apply IsS40.set_0 | apply IsS40.set_1 | apply IsS40.set_2 | apply IsS40.set_3 | apply IsS40.set_4 | apply IsS40.set_5 | refine IsS40.far ?_ NB422_413.out _) | exact HI422.out)); (case side2 => repeat (first | (with_reducible first | exact HB.out | apply below_alloc | apply pw_below_drewN | apply below_drew1 | refine below_set ?_ (IsS40.ge HI422.out) | refine below_set ?_ GE413.out) | exact HB.out)); rintro e w41 ⟨rfl, hi, hb, hk⟩; have n0_ := Aside0.mk (KeepBut.blk hk (g' := gb413) (o := .cells #[.int .i64 a0_0, .int .i64 a0_1, .int .i64 a0_2, .int .i64 a0_3] 23 (0, 0)) (by (with_reducible repeat (first | refine blk_drewN ?_ _ | refine blk_drew ?_ | refine blk_alloc ?_ _)); exact BK413.out) NB413_422.out (by simp)); have n1_ := Aside0.mk (hb); have n2_ := Aside0.mk (hi); clear BK413; clear HB; clear HI422; have BK413 := n0_; have HB := n1_; have HI422 := n2_; clear n0_ n1_ n2_; (try clear hb); (try clear hb2); (try clear hk); (try clear hi)))
                                  go_meet
                                  case rel => exact ⟨_, (!t454), (t455), (t456), (t457), (t458), (t459), (t460), (by first | rfl | (simp; done) | (simp [*]; done)), H', ⟨by have := HJ5.out; have := HK2.out; have := HJ25.out; first | omega | exact Nat.le_refl _⟩, ⟨by (with_reducible repeat (first | refine blk_drewN ?_ _ | refine blk_drew ?_ | refine blk_alloc ?_ _)); exact BK413.out⟩, ⟨by repeat (first | (with_reducible first | exact HI422.out | apply IsS40.alloc | apply IsS40.drewN | apply IsS40.drew | apply IsS40.set_0 | apply IsS40.set_1 | apply IsS40.set_2 | apply IsS40.set_3 | apply IsS40.set_4 | apply IsS40.set_5 | refine IsS40.far ?_ NB422_413.out _) | exact HI422.out)⟩, ⟨by repeat (first | (with_reducible first | exact HB.out | apply below_alloc | apply pw_below_drewN | apply below_drew1 | refine below_set ?_ (IsS40.ge HI422.out) | refine below_set ?_ GE413.out) | exact HB.out)⟩⟩
                                · rw [if_neg c38] at H
                                  have c38b0 : (t447 == (Int.tmod (wrap64 (a1)) a0_0)) = false := beq_eq_false_iff_ne.mpr c38
                                  have c38b1 : (t447 != (Int.tmod (wrap64 (a1)) a0_0)) = true := bne_iff_ne.mpr c38
                                  have H' := Aside0.mk H
                                  clear H
                                  go_wp2_with (first | (go_at_call 13; (with_reducible refine (front_Front_Shut.calls g422 t441 t442 t443 t444 t445 t446 t447 t448 t449 t450 t451 t452 t453 w _ ?side1 ?side2 A37.out).mono ?_); (case side1 => repeat (first | (with_reducible first | exact HI422.out | apply IsS40.alloc | apply IsS40.drewN | apply IsS40.drew | apply IsS40.set_0 | apply IsS40.set_1 | apply IsS40.set_2 | apply IsS40.set_3 | apply IsS40.set_4 | apply IsS40.set_5 | refine IsS40.far ?_ NB422_413.out _) | exact HI422.out)); (case side2 => repeat (first | (with_reducible first | exact HB.out | apply below_alloc | apply pw_below_drewN | apply below_drew1 | refine below_set ?_ (IsS40.ge HI422.out) | refine below_set ?_ GE413.out) | exact HB.out)); rintro e w42 ⟨rfl, hi, hb, hk⟩; have n0_ := Aside0.mk (KeepBut.blk hk (g' := gb413) (o := .cells #[.int .i64 a0_0, .int .i64 a0_1, .int .i64 a0_2, .int .i64 a0_3] 23 (0, 0)) (by (with_reducible repeat (first | refine blk_drewN ?_ _ | refine blk_drew ?_ | refine blk_alloc ?_ _)); exact BK413.out) NB413_422.out (by simp)); have n1_ := Aside0.mk (hb); have n2_ := Aside0.mk (hi); clear BK413; clear HB; clear HI422; have BK413 := n0_; have HB := n1_; have HI422 := n2_; clear n0_ n1_ n2_; (try clear hb); (try clear hb2); (try clear hk); (try clear hi)))
                                  go_meet
                                  case rel => exact ⟨_, (true), (t448), (t449), (t450), (t451), (t452), (t453), (by first | rfl | (simp; done) | (simp [*]; done)), H', ⟨by have := HJ5.out; have := HK2.out; have := HJ25.out; first | omega | exact Nat.le_refl _⟩, ⟨by (with_reducible repeat (first | refine blk_drewN ?_ _ | refine blk_drew ?_ | refine blk_alloc ?_ _)); exact BK413.out⟩, ⟨by repeat (first | (with_reducible first | exact HI422.out | apply IsS40.alloc | apply IsS40.drewN | apply IsS40.drew | apply IsS40.set_0 | apply IsS40.set_1 | apply IsS40.set_2 | apply IsS40.set_3 | apply IsS40.set_4 | apply IsS40.set_5 | refine IsS40.far ?_ NB422_413.out _) | exact HI422.out)⟩, ⟨by repeat (first | (with_reducible first | exact HB.out | apply below_alloc | apply pw_below_drewN | apply below_drew1 | refine below_set ?_ (IsS40.ge HI422.out) | refine below_set ?_ GE413.out) | exact HB.out)⟩⟩
                              · rw [if_neg c36] at H
                                have c36b0 : (t439 == x9_2) = false := beq_eq_false_iff_ne.mpr c36
                                have c36b1 : (t439 != x9_2) = true := bne_iff_ne.mpr c36
                                (first | rw [c36b0] | (simp only [i64_w, i32_w]; rw [c36b0]) | skip)
                                have H' := Aside0.mk H
                                clear H
                                go_wp2
                                go_meet
                                case rel => exact ⟨_, (true), (t441), (t442), (t443), (t444), (t445), (t446), (by first | rfl | (simp; done) | (simp [*]; done)), H', ⟨by have := HJ5.out; have := HK2.out; have := HJ25.out; first | omega | exact Nat.le_refl _⟩, ⟨by (with_reducible repeat (first | refine blk_drewN ?_ _ | refine blk_drew ?_ | refine blk_alloc ?_ _)); exact BK413.out⟩, ⟨by repeat (first | (with_reducible first | exact HI422.out | apply IsS40.alloc | apply IsS40.drewN | apply IsS40.drew | apply IsS40.set_0 | apply IsS40.set_1 | apply IsS40.set_2 | apply IsS40.set_3 | apply IsS40.set_4 | apply IsS40.set_5 | refine IsS40.far ?_ NB422_413.out _) | exact HI422.out)⟩, ⟨by repeat (first | (with_reducible first | exact HB.out | apply below_alloc | apply pw_below_drewN | apply below_drew1 | refine below_set ?_ (IsS40.ge HI422.out) | refine below_set ?_ GE413.out) | exact HB.out)⟩⟩
                            · replace c35 := Bool.eq_false_iff.mpr c35
                              subst c35
                              have H1 : (blackboardlaw17_FrontShuts.j3 kj25 l2 (Int.tmod (wrap64 (a1)) a0_0) x9_2 true a0_0 a0_1 a0_2 a0_3 t441 t442 t443 t444 t445 t446) = some r := by rw [if_neg (show ¬ (false = true) by decide)] at H; exact H
                              clear H
                              have H := H1
                              clear H1
                              have H' := Aside0.mk H
                              clear H
                              go_wp2
                              go_meet
                              case rel => exact ⟨_, (true), (t441), (t442), (t443), (t444), (t445), (t446), (by first | rfl | (simp; done) | (simp [*]; done)), H', ⟨by have := HJ5.out; have := HK2.out; have := HJ25.out; first | omega | exact Nat.le_refl _⟩, ⟨by (with_reducible repeat (first | refine blk_drewN ?_ _ | refine blk_drew ?_ | refine blk_alloc ?_ _)); exact BK413.out⟩, ⟨by repeat (first | (with_reducible first | exact HI422.out | apply IsS40.alloc | apply IsS40.drewN | apply IsS40.drew | apply IsS40.set_0 | apply IsS40.set_1 | apply IsS40.set_2 | apply IsS40.set_3 | apply IsS40.set_4 | apply IsS40.set_5 | refine IsS40.far ?_ NB422_413.out _) | exact HI422.out)⟩, ⟨by repeat (first | (with_reducible first | exact HB.out | apply below_alloc | apply pw_below_drewN | apply below_drew1 | refine below_set ?_ (IsS40.ge HI422.out) | refine below_set ?_ GE413.out) | exact HB.out)⟩⟩
                          case rest =>
                            clear HC33
                            try clear c1
                            try clear c2
                            try clear p2
                            try clear c3
                            try clear p4
                            try clear q4
                            try clear hx4
                            try clear c5
                            try clear c6
                            try clear p6
                            try clear c7
                            try clear c8
                            try clear c9
                            try clear c10
                            try clear c11
                            try clear c15
                            try clear c17
                            try clear c17b0
                            try clear c17b1
                            try clear c19
                            try clear c22
                            try clear c25
                            try clear c25b0
                            try clear c27
                            try clear c29
                            try clear c29b0
                            try clear c30
                            try clear c30b0
                            try clear c31
                            try clear c35
                            try clear c36
                            try clear c36b0
                            try clear c36b1
                            try clear c38
                            try clear c38b0
                            try clear c38b1
                            try clear hcz11_0
                            try clear hcz11_1
                            try clear hcz11_2
                            try clear hcz11_3
                            try clear hcz13_0
                            try clear hcz13_1
                            try clear hcz13_2
                            try clear hcz13_3
                            try clear hcz20_0
                            try clear hcz20_1
                            try clear hcz20_2
                            try clear hcz20_3
                            try clear hcz23_0
                            try clear hcz23_1
                            try clear hcz23_2
                            try clear hcz23_3
                            try clear hcz28_0
                            try clear hcz28_1
                            try clear hcz28_2
                            try clear hcz28_3
                            try clear hfz11_0
                            try clear hfz11_1
                            try clear hfz11_2
                            try clear hfz11_3
                            try clear hfz13_0
                            try clear hfz13_1
                            try clear hfz13_2
                            try clear hfz13_3
                            try clear hfz20_0
                            try clear hfz20_1
                            try clear hfz20_2
                            try clear hfz20_3
                            try clear hfz23_0
                            try clear hfz23_1
                            try clear hfz23_2
                            try clear hfz23_3
                            try clear hfz28_0
                            try clear hfz28_1
                            try clear hfz28_2
                            try clear hfz28_3
                            try clear hx437_0
                            try clear p2
                            try clear p4
                            try clear p437
                            try clear p6
                            try clear q4
                            try clear q437
                            obtain ⟨kq, x82_32, x423000_32, x423001_32, x423002_32, x423003_32, x423004_32, x423005_32, rfl, HA, HJ32, BK413, HI422, HB⟩ := hcut
                            cases kq with
                            | zero => exact absurd HA.out (by simp [blackboardlaw17_FrontShuts.j3])
                            | succ kj32 =>
                              have H := HA.out
                              clear HA
                              simp only [blackboardlaw17_FrontShuts.j3] at H
                              by_cases c43 : x82_32 = true
                              · subst c43
                                have H1 : (some false) = some r := by rw [if_pos rfl] at H; exact H
                                clear H
                                have H := H1
                                clear H1
                                obtain rfl := Option.some.inj H
                                go_wp2
                                go_ret
                                exact ⟨by first | rfl | (simp [errW_none, errW_some] <;> rfl) | (simp [*, errW_none, errW_some] <;> rfl), by repeat (first | (with_reducible first | exact HB.out | apply below_alloc | apply pw_below_drewN | apply below_drew1 | refine below_set ?_ (IsS40.ge HI422.out) | refine below_set ?_ GE413.out) | exact HB.out)⟩
                              · replace c43 := Bool.eq_false_iff.mpr c43
                                subst c43
                                have H1 : ((front_Front_Take.f x423000_32 x423001_32 x423002_32 x423003_32 x423004_32 x423005_32).bind fun bt461 => (if bt461.2.2.1 = true then (if bt461.1 = (Int.tmod (wrap64 (a1)) a0_0) then (if bt461.2.1 = x9_2 then (blackboardlaw17_FrontShuts.l0 kj32 l2 (Int.tmod (wrap64 (a1)) a0_0) (wrap64 (x9_2 + 1)) a0_0 a0_1 a0_2 a0_3 bt461.2.2.2.1 bt461.2.2.2.2.1 bt461.2.2.2.2.2.1 bt461.2.2.2.2.2.2.1 bt461.2.2.2.2.2.2.2.1 bt461.2.2.2.2.2.2.2.2) else (some false)) else (some false)) else (some false))) = some r := by rw [if_neg (show ¬ (false = true) by decide)] at H; exact H
                                clear H
                                have H := H1
                                clear H1
                                replace H := Option.bind_eq_some_iff.mp H
                                obtain ⟨⟨t461, t462, t463, t464, t465, t466, t467, t468, t469⟩, A440, H⟩ := H
                                replace H : (if t463 = true then (if t461 = (Int.tmod (wrap64 (a1)) a0_0) then (if t462 = x9_2 then (blackboardlaw17_FrontShuts.l0 kj32 l2 (Int.tmod (wrap64 (a1)) a0_0) (wrap64 (x9_2 + 1)) a0_0 a0_1 a0_2 a0_3 t464 t465 t466 t467 t468 t469) else (some false)) else (some false)) else (some false)) = some r := H
                                have A44 := Aside0.mk A440
                                clear A440
                                by_cases c45 : t463 = true
                                · subst c45
                                  have H1 : (if t461 = (Int.tmod (wrap64 (a1)) a0_0) then (if t462 = x9_2 then (blackboardlaw17_FrontShuts.l0 kj32 l2 (Int.tmod (wrap64 (a1)) a0_0) (wrap64 (x9_2 + 1)) a0_0 a0_1 a0_2 a0_3 t464 t465 t466 t467 t468 t469) else (some false)) else (some false)) = some r := by rw [if_pos rfl] at H; exact H
                                  clear H
                                  have H := H1
                                  clear H1
                                  by_cases c46 : t461 = (Int.tmod (wrap64 (a1)) a0_0)
                                  · rw [if_pos c46] at H
                                    have c46b0 : (t461 == (Int.tmod (wrap64 (a1)) a0_0)) = true := beq_iff_eq.mpr c46
                                    have c46b1 : (t461 != (Int.tmod (wrap64 (a1)) a0_0)) = false := bne_eq_false_iff_eq.mpr c46
                                    clear c46
                                    by_cases c47 : t462 = x9_2
                                    · rw [if_pos c47] at H
                                      have c47b0 : (t462 == x9_2) = true := beq_iff_eq.mpr c47
                                      have c47b1 : (t462 != x9_2) = false := bne_eq_false_iff_eq.mpr c47
                                      clear c47
                                      have H' := Aside0.mk H
                                      clear H
                                      go_wp2_with (first | ((with_reducible refine gate_callee (f := 12) rfl ?_); refine goesL_ (some 85) rfl rfl Try.func12 (by kernel_rfl) rfl #[.pointer (some ⟨g422, 0, none⟩)] rfl (by (try simp only [List.map_toArray, List.map_cons, List.map_nil]); first | done | rfl | (simp only [List.length_drop, List.length_take]; rfl)) ?_; (with_reducible refine (front_Front_Take.calls g422 x423000_32 x423001_32 x423002_32 x423003_32 x423004_32 x423005_32 t461 t462 true t464 t465 t466 t467 t468 t469 w _ ?side1 ?side2 A44.out).mono ?_); (case side1 => repeat (first | (with_reducible first | exact HI422.out | apply IsS40.alloc | apply IsS40.drewN | apply IsS40.drew | apply IsS40.set_0 | apply IsS40.set_1 | apply IsS40.set_2 | apply IsS40.set_3 | apply IsS40.set_4 | apply IsS40.set_5 | refine IsS40.far ?_ NB422_413.out _) | exact HI422.out)); (case side2 => repeat (first | (with_reducible first | exact HB.out | apply below_alloc | apply pw_below_drewN | apply below_drew1 | refine below_set ?_ (IsS40.ge HI422.out) | refine below_set ?_ GE413.out) | exact HB.out)); rintro e w48 ⟨rfl, hi, hb, hk⟩; refine ⟨_, rfl, ?_⟩; have n0_ := Aside0.mk (KeepBut.blk hk (g' := gb413) (o := .cells #[.int .i64 a0_0, .int .i64 a0_1, .int .i64 a0_2, .int .i64 a0_3] 23 (0, 0)) (by (with_reducible repeat (first | refine blk_drewN ?_ _ | refine blk_drew ?_ | refine blk_alloc ?_ _)); exact BK413.out) NB413_422.out (by simp)); have n1_ := Aside0.mk (hb); have n2_ := Aside0.mk (hi); clear BK413; clear HB; clear HI422; have BK413 := n0_; have HB := n1_; have HI422 := n2_; clear n0_ n1_ n2_; (try clear hb); (try clear hb2); (try clear hk); (try clear hi)))
                                      go_roundg kj32
                                      case measure => have := HJ5.out; have := HK2.out; have := HJ25.out; have := HJ32.out; omega
                                      case rel => exact ⟨(wrap64 (x9_2 + 1)), (t464), (t465), (t466), (t467), (t468), (t469), (by first | rfl | (simp; done) | (simp [*]; done)), H', ⟨by have := HJ5.out; have := HK2.out; have := HJ25.out; have := HJ32.out; omega⟩, ⟨by (with_reducible repeat (first | refine blk_drewN ?_ _ | refine blk_drew ?_ | refine blk_alloc ?_ _)); exact BK413.out⟩, ⟨by repeat (first | (with_reducible first | exact HI422.out | apply IsS40.alloc | apply IsS40.drewN | apply IsS40.drew | apply IsS40.set_0 | apply IsS40.set_1 | apply IsS40.set_2 | apply IsS40.set_3 | apply IsS40.set_4 | apply IsS40.set_5 | refine IsS40.far ?_ NB422_413.out _) | exact HI422.out)⟩, ⟨by repeat (first | (with_reducible first | exact HB.out | apply below_alloc | apply pw_below_drewN | apply below_drew1 | refine below_set ?_ (IsS40.ge HI422.out) | refine below_set ?_ GE413.out) | exact HB.out)⟩⟩
                                    · rw [if_neg c47] at H
                                      have c47b0 : (t462 == x9_2) = false := beq_eq_false_iff_ne.mpr c47
                                      have c47b1 : (t462 != x9_2) = true := bne_iff_ne.mpr c47
                                      obtain rfl := Option.some.inj H
                                      go_wp2_with (first | ((with_reducible refine gate_callee (f := 12) rfl ?_); refine goesL_ (some 85) rfl rfl Try.func12 (by kernel_rfl) rfl #[.pointer (some ⟨g422, 0, none⟩)] rfl (by (try simp only [List.map_toArray, List.map_cons, List.map_nil]); first | done | rfl | (simp only [List.length_drop, List.length_take]; rfl)) ?_; (with_reducible refine (front_Front_Take.calls g422 x423000_32 x423001_32 x423002_32 x423003_32 x423004_32 x423005_32 t461 t462 true t464 t465 t466 t467 t468 t469 w _ ?side1 ?side2 A44.out).mono ?_); (case side1 => repeat (first | (with_reducible first | exact HI422.out | apply IsS40.alloc | apply IsS40.drewN | apply IsS40.drew | apply IsS40.set_0 | apply IsS40.set_1 | apply IsS40.set_2 | apply IsS40.set_3 | apply IsS40.set_4 | apply IsS40.set_5 | refine IsS40.far ?_ NB422_413.out _) | exact HI422.out)); (case side2 => repeat (first | (with_reducible first | exact HB.out | apply below_alloc | apply pw_below_drewN | apply below_drew1 | refine below_set ?_ (IsS40.ge HI422.out) | refine below_set ?_ GE413.out) | exact HB.out)); rintro e w49 ⟨rfl, hi, hb, hk⟩; refine ⟨_, rfl, ?_⟩; have n0_ := Aside0.mk (KeepBut.blk hk (g' := gb413) (o := .cells #[.int .i64 a0_0, .int .i64 a0_1, .int .i64 a0_2, .int .i64 a0_3] 23 (0, 0)) (by (with_reducible repeat (first | refine blk_drewN ?_ _ | refine blk_drew ?_ | refine blk_alloc ?_ _)); exact BK413.out) NB413_422.out (by simp)); have n1_ := Aside0.mk (hb); have n2_ := Aside0.mk (hi); clear BK413; clear HB; clear HI422; have BK413 := n0_; have HB := n1_; have HI422 := n2_; clear n0_ n1_ n2_; (try clear hb); (try clear hb2); (try clear hk); (try clear hi)))
                                      go_ret
                                      exact ⟨by first | rfl | (simp [errW_none, errW_some] <;> rfl) | (simp [*, errW_none, errW_some] <;> rfl), by repeat (first | (with_reducible first | exact HB.out | apply below_alloc | apply pw_below_drewN | apply below_drew1 | refine below_set ?_ (IsS40.ge HI422.out) | refine below_set ?_ GE413.out) | exact HB.out)⟩
                                  · rw [if_neg c46] at H
                                    have c46b0 : (t461 == (Int.tmod (wrap64 (a1)) a0_0)) = false := beq_eq_false_iff_ne.mpr c46
                                    have c46b1 : (t461 != (Int.tmod (wrap64 (a1)) a0_0)) = true := bne_iff_ne.mpr c46
                                    obtain rfl := Option.some.inj H
                                    go_wp2_with (first | ((with_reducible refine gate_callee (f := 12) rfl ?_); refine goesL_ (some 85) rfl rfl Try.func12 (by kernel_rfl) rfl #[.pointer (some ⟨g422, 0, none⟩)] rfl (by (try simp only [List.map_toArray, List.map_cons, List.map_nil]); first | done | rfl | (simp only [List.length_drop, List.length_take]; rfl)) ?_; (with_reducible refine (front_Front_Take.calls g422 x423000_32 x423001_32 x423002_32 x423003_32 x423004_32 x423005_32 t461 t462 true t464 t465 t466 t467 t468 t469 w _ ?side1 ?side2 A44.out).mono ?_); (case side1 => repeat (first | (with_reducible first | exact HI422.out | apply IsS40.alloc | apply IsS40.drewN | apply IsS40.drew | apply IsS40.set_0 | apply IsS40.set_1 | apply IsS40.set_2 | apply IsS40.set_3 | apply IsS40.set_4 | apply IsS40.set_5 | refine IsS40.far ?_ NB422_413.out _) | exact HI422.out)); (case side2 => repeat (first | (with_reducible first | exact HB.out | apply below_alloc | apply pw_below_drewN | apply below_drew1 | refine below_set ?_ (IsS40.ge HI422.out) | refine below_set ?_ GE413.out) | exact HB.out)); rintro e w50 ⟨rfl, hi, hb, hk⟩; refine ⟨_, rfl, ?_⟩; have n0_ := Aside0.mk (KeepBut.blk hk (g' := gb413) (o := .cells #[.int .i64 a0_0, .int .i64 a0_1, .int .i64 a0_2, .int .i64 a0_3] 23 (0, 0)) (by (with_reducible repeat (first | refine blk_drewN ?_ _ | refine blk_drew ?_ | refine blk_alloc ?_ _)); exact BK413.out) NB413_422.out (by simp)); have n1_ := Aside0.mk (hb); have n2_ := Aside0.mk (hi); clear BK413; clear HB; clear HI422; have BK413 := n0_; have HB := n1_; have HI422 := n2_; clear n0_ n1_ n2_; (try clear hb); (try clear hb2); (try clear hk); (try clear hi)))
                                    go_ret
                                    exact ⟨by first | rfl | (simp [errW_none, errW_some] <;> rfl) | (simp [*, errW_none, errW_some] <;> rfl), by repeat (first | (with_reducible first | exact HB.out | apply below_alloc | apply pw_below_drewN | apply below_drew1 | refine below_set ?_ (IsS40.ge HI422.out) | refine below_set ?_ GE413.out) | exact HB.out)⟩
                                · replace c45 := Bool.eq_false_iff.mpr c45
                                  subst c45
                                  have H1 : (some false) = some r := by rw [if_neg (show ¬ (false = true) by decide)] at H; exact H
                                  clear H
                                  have H := H1
                                  clear H1
                                  obtain rfl := Option.some.inj H
                                  go_wp2_with (first | ((with_reducible refine gate_callee (f := 12) rfl ?_); refine goesL_ (some 85) rfl rfl Try.func12 (by kernel_rfl) rfl #[.pointer (some ⟨g422, 0, none⟩)] rfl (by (try simp only [List.map_toArray, List.map_cons, List.map_nil]); first | done | rfl | (simp only [List.length_drop, List.length_take]; rfl)) ?_; (with_reducible refine (front_Front_Take.calls g422 x423000_32 x423001_32 x423002_32 x423003_32 x423004_32 x423005_32 t461 t462 false t464 t465 t466 t467 t468 t469 w _ ?side1 ?side2 A44.out).mono ?_); (case side1 => repeat (first | (with_reducible first | exact HI422.out | apply IsS40.alloc | apply IsS40.drewN | apply IsS40.drew | apply IsS40.set_0 | apply IsS40.set_1 | apply IsS40.set_2 | apply IsS40.set_3 | apply IsS40.set_4 | apply IsS40.set_5 | refine IsS40.far ?_ NB422_413.out _) | exact HI422.out)); (case side2 => repeat (first | (with_reducible first | exact HB.out | apply below_alloc | apply pw_below_drewN | apply below_drew1 | refine below_set ?_ (IsS40.ge HI422.out) | refine below_set ?_ GE413.out) | exact HB.out)); rintro e w51 ⟨rfl, hi, hb, hk⟩; refine ⟨_, rfl, ?_⟩; have n0_ := Aside0.mk (KeepBut.blk hk (g' := gb413) (o := .cells #[.int .i64 a0_0, .int .i64 a0_1, .int .i64 a0_2, .int .i64 a0_3] 23 (0, 0)) (by (with_reducible repeat (first | refine blk_drewN ?_ _ | refine blk_drew ?_ | refine blk_alloc ?_ _)); exact BK413.out) NB413_422.out (by simp)); have n1_ := Aside0.mk (hb); have n2_ := Aside0.mk (hi); clear BK413; clear HB; clear HI422; have BK413 := n0_; have HB := n1_; have HI422 := n2_; clear n0_ n1_ n2_; (try clear hb); (try clear hb2); (try clear hk); (try clear hi)))
                                  go_ret
                                  exact ⟨by first | rfl | (simp [errW_none, errW_some] <;> rfl) | (simp [*, errW_none, errW_some] <;> rfl), by repeat (first | (with_reducible first | exact HB.out | apply below_alloc | apply pw_below_drewN | apply below_drew1 | refine below_set ?_ (IsS40.ge HI422.out) | refine below_set ?_ GE413.out) | exact HB.out)⟩
                        · replace c31 := Bool.eq_false_iff.mpr c31
                          subst c31
                          have H1 : ((front_Front_Take.f x423000_2 x423001_2 x423002_2 x423003_2 x423004_2 x423005_2).bind fun bt470 => (if bt470.2.2.1 = true then (if bt470.1 = (Int.tmod (wrap64 (a1)) a0_0) then (if bt470.2.1 = x9_2 then (blackboardlaw17_FrontShuts.l0 kj25 l2 (Int.tmod (wrap64 (a1)) a0_0) (wrap64 (x9_2 + 1)) a0_0 a0_1 a0_2 a0_3 bt470.2.2.2.1 bt470.2.2.2.2.1 bt470.2.2.2.2.2.1 bt470.2.2.2.2.2.2.1 bt470.2.2.2.2.2.2.2.1 bt470.2.2.2.2.2.2.2.2) else (some false)) else (some false)) else (some false))) = some r := by rw [if_neg (show ¬ (false = true) by decide)] at H; exact H
                          clear H
                          have H := H1
                          clear H1
                          replace H := Option.bind_eq_some_iff.mp H
                          obtain ⟨⟨t470, t471, t472, t473, t474, t475, t476, t477, t478⟩, A520, H⟩ := H
                          replace H : (if t472 = true then (if t470 = (Int.tmod (wrap64 (a1)) a0_0) then (if t471 = x9_2 then (blackboardlaw17_FrontShuts.l0 kj25 l2 (Int.tmod (wrap64 (a1)) a0_0) (wrap64 (x9_2 + 1)) a0_0 a0_1 a0_2 a0_3 t473 t474 t475 t476 t477 t478) else (some false)) else (some false)) else (some false)) = some r := H
                          have A52 := Aside0.mk A520
                          clear A520
                          by_cases c53 : t472 = true
                          · subst c53
                            have H1 : (if t470 = (Int.tmod (wrap64 (a1)) a0_0) then (if t471 = x9_2 then (blackboardlaw17_FrontShuts.l0 kj25 l2 (Int.tmod (wrap64 (a1)) a0_0) (wrap64 (x9_2 + 1)) a0_0 a0_1 a0_2 a0_3 t473 t474 t475 t476 t477 t478) else (some false)) else (some false)) = some r := by rw [if_pos rfl] at H; exact H
                            clear H
                            have H := H1
                            clear H1
                            by_cases c54 : t470 = (Int.tmod (wrap64 (a1)) a0_0)
                            · rw [if_pos c54] at H
                              have c54b0 : (t470 == (Int.tmod (wrap64 (a1)) a0_0)) = true := beq_iff_eq.mpr c54
                              have c54b1 : (t470 != (Int.tmod (wrap64 (a1)) a0_0)) = false := bne_eq_false_iff_eq.mpr c54
                              clear c54
                              by_cases c55 : t471 = x9_2
                              · rw [if_pos c55] at H
                                have c55b0 : (t471 == x9_2) = true := beq_iff_eq.mpr c55
                                have c55b1 : (t471 != x9_2) = false := bne_eq_false_iff_eq.mpr c55
                                clear c55
                                have H' := Aside0.mk H
                                clear H
                                go_wp2_with (first | ((with_reducible refine gate_callee (f := 12) rfl ?_); refine goesL_ (some 85) rfl rfl Try.func12 (by kernel_rfl) rfl #[.pointer (some ⟨g422, 0, none⟩)] rfl (by (try simp only [List.map_toArray, List.map_cons, List.map_nil]); first | done | rfl | (simp only [List.length_drop, List.length_take]; rfl)) ?_; (with_reducible refine (front_Front_Take.calls g422 x423000_2 x423001_2 x423002_2 x423003_2 x423004_2 x423005_2 t470 t471 true t473 t474 t475 t476 t477 t478 w _ ?side1 ?side2 A52.out).mono ?_); (case side1 => repeat (first | (with_reducible first | exact HI422.out | apply IsS40.alloc | apply IsS40.drewN | apply IsS40.drew | apply IsS40.set_0 | apply IsS40.set_1 | apply IsS40.set_2 | apply IsS40.set_3 | apply IsS40.set_4 | apply IsS40.set_5 | refine IsS40.far ?_ NB422_413.out _) | exact HI422.out)); (case side2 => repeat (first | (with_reducible first | exact HB.out | apply below_alloc | apply pw_below_drewN | apply below_drew1 | refine below_set ?_ (IsS40.ge HI422.out) | refine below_set ?_ GE413.out) | exact HB.out)); rintro e w56 ⟨rfl, hi, hb, hk⟩; refine ⟨_, rfl, ?_⟩; have n0_ := Aside0.mk (KeepBut.blk hk (g' := gb413) (o := .cells #[.int .i64 a0_0, .int .i64 a0_1, .int .i64 a0_2, .int .i64 a0_3] 23 (0, 0)) (by (with_reducible repeat (first | refine blk_drewN ?_ _ | refine blk_drew ?_ | refine blk_alloc ?_ _)); exact BK413.out) NB413_422.out (by simp)); have n1_ := Aside0.mk (hb); have n2_ := Aside0.mk (hi); clear BK413; clear HB; clear HI422; have BK413 := n0_; have HB := n1_; have HI422 := n2_; clear n0_ n1_ n2_; (try clear hb); (try clear hb2); (try clear hk); (try clear hi)))
                                go_roundg kj25
                                case measure => have := HJ5.out; have := HK2.out; have := HJ25.out; omega
                                case rel => exact ⟨(wrap64 (x9_2 + 1)), (t473), (t474), (t475), (t476), (t477), (t478), (by first | rfl | (simp; done) | (simp [*]; done)), H', ⟨by have := HJ5.out; have := HK2.out; have := HJ25.out; omega⟩, ⟨by (with_reducible repeat (first | refine blk_drewN ?_ _ | refine blk_drew ?_ | refine blk_alloc ?_ _)); exact BK413.out⟩, ⟨by repeat (first | (with_reducible first | exact HI422.out | apply IsS40.alloc | apply IsS40.drewN | apply IsS40.drew | apply IsS40.set_0 | apply IsS40.set_1 | apply IsS40.set_2 | apply IsS40.set_3 | apply IsS40.set_4 | apply IsS40.set_5 | refine IsS40.far ?_ NB422_413.out _) | exact HI422.out)⟩, ⟨by repeat (first | (with_reducible first | exact HB.out | apply below_alloc | apply pw_below_drewN | apply below_drew1 | refine below_set ?_ (IsS40.ge HI422.out) | refine below_set ?_ GE413.out) | exact HB.out)⟩⟩
                              · rw [if_neg c55] at H
                                have c55b0 : (t471 == x9_2) = false := beq_eq_false_iff_ne.mpr c55
                                have c55b1 : (t471 != x9_2) = true := bne_iff_ne.mpr c55
                                obtain rfl := Option.some.inj H
                                go_wp2_with (first | ((with_reducible refine gate_callee (f := 12) rfl ?_); refine goesL_ (some 85) rfl rfl Try.func12 (by kernel_rfl) rfl #[.pointer (some ⟨g422, 0, none⟩)] rfl (by (try simp only [List.map_toArray, List.map_cons, List.map_nil]); first | done | rfl | (simp only [List.length_drop, List.length_take]; rfl)) ?_; (with_reducible refine (front_Front_Take.calls g422 x423000_2 x423001_2 x423002_2 x423003_2 x423004_2 x423005_2 t470 t471 true t473 t474 t475 t476 t477 t478 w _ ?side1 ?side2 A52.out).mono ?_); (case side1 => repeat (first | (with_reducible first | exact HI422.out | apply IsS40.alloc | apply IsS40.drewN | apply IsS40.drew | apply IsS40.set_0 | apply IsS40.set_1 | apply IsS40.set_2 | apply IsS40.set_3 | apply IsS40.set_4 | apply IsS40.set_5 | refine IsS40.far ?_ NB422_413.out _) | exact HI422.out)); (case side2 => repeat (first | (with_reducible first | exact HB.out | apply below_alloc | apply pw_below_drewN | apply below_drew1 | refine below_set ?_ (IsS40.ge HI422.out) | refine below_set ?_ GE413.out) | exact HB.out)); rintro e w57 ⟨rfl, hi, hb, hk⟩; refine ⟨_, rfl, ?_⟩; have n0_ := Aside0.mk (KeepBut.blk hk (g' := gb413) (o := .cells #[.int .i64 a0_0, .int .i64 a0_1, .int .i64 a0_2, .int .i64 a0_3] 23 (0, 0)) (by (with_reducible repeat (first | refine blk_drewN ?_ _ | refine blk_drew ?_ | refine blk_alloc ?_ _)); exact BK413.out) NB413_422.out (by simp)); have n1_ := Aside0.mk (hb); have n2_ := Aside0.mk (hi); clear BK413; clear HB; clear HI422; have BK413 := n0_; have HB := n1_; have HI422 := n2_; clear n0_ n1_ n2_; (try clear hb); (try clear hb2); (try clear hk); (try clear hi)))
                                go_ret
                                exact ⟨by first | rfl | (simp [errW_none, errW_some] <;> rfl) | (simp [*, errW_none, errW_some] <;> rfl), by repeat (first | (with_reducible first | exact HB.out | apply below_alloc | apply pw_below_drewN | apply below_drew1 | refine below_set ?_ (IsS40.ge HI422.out) | refine below_set ?_ GE413.out) | exact HB.out)⟩
                            · rw [if_neg c54] at H
                              have c54b0 : (t470 == (Int.tmod (wrap64 (a1)) a0_0)) = false := beq_eq_false_iff_ne.mpr c54
                              have c54b1 : (t470 != (Int.tmod (wrap64 (a1)) a0_0)) = true := bne_iff_ne.mpr c54
                              obtain rfl := Option.some.inj H
                              go_wp2_with (first | ((with_reducible refine gate_callee (f := 12) rfl ?_); refine goesL_ (some 85) rfl rfl Try.func12 (by kernel_rfl) rfl #[.pointer (some ⟨g422, 0, none⟩)] rfl (by (try simp only [List.map_toArray, List.map_cons, List.map_nil]); first | done | rfl | (simp only [List.length_drop, List.length_take]; rfl)) ?_; (with_reducible refine (front_Front_Take.calls g422 x423000_2 x423001_2 x423002_2 x423003_2 x423004_2 x423005_2 t470 t471 true t473 t474 t475 t476 t477 t478 w _ ?side1 ?side2 A52.out).mono ?_); (case side1 => repeat (first | (with_reducible first | exact HI422.out | apply IsS40.alloc | apply IsS40.drewN | apply IsS40.drew | apply IsS40.set_0 | apply IsS40.set_1 | apply IsS40.set_2 | apply IsS40.set_3 | apply IsS40.set_4 | apply IsS40.set_5 | refine IsS40.far ?_ NB422_413.out _) | exact HI422.out)); (case side2 => repeat (first | (with_reducible first | exact HB.out | apply below_alloc | apply pw_below_drewN | apply below_drew1 | refine below_set ?_ (IsS40.ge HI422.out) | refine below_set ?_ GE413.out) | exact HB.out)); rintro e w58 ⟨rfl, hi, hb, hk⟩; refine ⟨_, rfl, ?_⟩; have n0_ := Aside0.mk (KeepBut.blk hk (g' := gb413) (o := .cells #[.int .i64 a0_0, .int .i64 a0_1, .int .i64 a0_2, .int .i64 a0_3] 23 (0, 0)) (by (with_reducible repeat (first | refine blk_drewN ?_ _ | refine blk_drew ?_ | refine blk_alloc ?_ _)); exact BK413.out) NB413_422.out (by simp)); have n1_ := Aside0.mk (hb); have n2_ := Aside0.mk (hi); clear BK413; clear HB; clear HI422; have BK413 := n0_; have HB := n1_; have HI422 := n2_; clear n0_ n1_ n2_; (try clear hb); (try clear hb2); (try clear hk); (try clear hi)))
                              go_ret
                              exact ⟨by first | rfl | (simp [errW_none, errW_some] <;> rfl) | (simp [*, errW_none, errW_some] <;> rfl), by repeat (first | (with_reducible first | exact HB.out | apply below_alloc | apply pw_below_drewN | apply below_drew1 | refine below_set ?_ (IsS40.ge HI422.out) | refine below_set ?_ GE413.out) | exact HB.out)⟩
                          · replace c53 := Bool.eq_false_iff.mpr c53
                            subst c53
                            have H1 : (some false) = some r := by rw [if_neg (show ¬ (false = true) by decide)] at H; exact H
                            clear H
                            have H := H1
                            clear H1
                            obtain rfl := Option.some.inj H
                            go_wp2_with (first | ((with_reducible refine gate_callee (f := 12) rfl ?_); refine goesL_ (some 85) rfl rfl Try.func12 (by kernel_rfl) rfl #[.pointer (some ⟨g422, 0, none⟩)] rfl (by (try simp only [List.map_toArray, List.map_cons, List.map_nil]); first | done | rfl | (simp only [List.length_drop, List.length_take]; rfl)) ?_; (with_reducible refine (front_Front_Take.calls g422 x423000_2 x423001_2 x423002_2 x423003_2 x423004_2 x423005_2 t470 t471 false t473 t474 t475 t476 t477 t478 w _ ?side1 ?side2 A52.out).mono ?_); (case side1 => repeat (first | (with_reducible first | exact HI422.out | apply IsS40.alloc | apply IsS40.drewN | apply IsS40.drew | apply IsS40.set_0 | apply IsS40.set_1 | apply IsS40.set_2 | apply IsS40.set_3 | apply IsS40.set_4 | apply IsS40.set_5 | refine IsS40.far ?_ NB422_413.out _) | exact HI422.out)); (case side2 => repeat (first | (with_reducible first | exact HB.out | apply below_alloc | apply pw_below_drewN | apply below_drew1 | refine below_set ?_ (IsS40.ge HI422.out) | refine below_set ?_ GE413.out) | exact HB.out)); rintro e w59 ⟨rfl, hi, hb, hk⟩; refine ⟨_, rfl, ?_⟩; have n0_ := Aside0.mk (KeepBut.blk hk (g' := gb413) (o := .cells #[.int .i64 a0_0, .int .i64 a0_1, .int .i64 a0_2, .int .i64 a0_3] 23 (0, 0)) (by (with_reducible repeat (first | refine blk_drewN ?_ _ | refine blk_drew ?_ | refine blk_alloc ?_ _)); exact BK413.out) NB413_422.out (by simp)); have n1_ := Aside0.mk (hb); have n2_ := Aside0.mk (hi); clear BK413; clear HB; clear HI422; have BK413 := n0_; have HB := n1_; have HI422 := n2_; clear n0_ n1_ n2_; (try clear hb); (try clear hb2); (try clear hk); (try clear hi)))
                            go_ret
                            exact ⟨by first | rfl | (simp [errW_none, errW_some] <;> rfl) | (simp [*, errW_none, errW_some] <;> rfl), by repeat (first | (with_reducible first | exact HB.out | apply below_alloc | apply pw_below_drewN | apply below_drew1 | refine below_set ?_ (IsS40.ge HI422.out) | refine below_set ?_ GE413.out) | exact HB.out)⟩
                  · rw [if_neg c25] at H
                    have c25b0 : decide (x9_2 < a0_1) = false := decide_eq_false c25
                    clear c25
                    replace H := Option.bind_eq_some_iff.mp H
                    obtain ⟨⟨t430, t431, t432, t433, t434, t435, t436⟩, A600, H⟩ := H
                    replace H : (some (t430 == 0)) = some r := H
                    have A60 := Aside0.mk A600
                    clear A600
                    obtain rfl := Option.some.inj H
                    have hnb61 := NB413_422.out
                    have hnc61 := NB422_413.out
                    have hcz62_0 : wr.cell? ⟨gb413, 0, none⟩ = some (.int .i64 a0_0) := (blk_cell BK413.out 0).trans rfl
                    have hcz62_1 : wr.cell? ⟨gb413, 1, none⟩ = some (.int .i64 a0_1) := (blk_cell BK413.out 1).trans rfl
                    have hcz62_2 : wr.cell? ⟨gb413, 2, none⟩ = some (.int .i64 a0_2) := (blk_cell BK413.out 2).trans rfl
                    have hcz62_3 : wr.cell? ⟨gb413, 3, none⟩ = some (.int .i64 a0_3) := (blk_cell BK413.out 3).trans rfl
                    have hfz62_0 := blk_frozen BK413.out 0
                    have hfz62_1 := blk_frozen BK413.out 1
                    have hfz62_2 := blk_frozen BK413.out 2
                    have hfz62_3 := blk_frozen BK413.out 3
                    go_wp2_with (first | ((with_reducible refine gate_callee (f := 15) rfl ?_); refine goesL_ (some 102) rfl rfl Try.func15 (by kernel_rfl) rfl #[.pointer (some ⟨g422, 0, none⟩)] rfl (by (try simp only [List.map_toArray, List.map_cons, List.map_nil]); first | done | rfl | (simp only [List.length_drop, List.length_take]; rfl)) ?_; (with_reducible refine (front_Front_Left.calls g422 x423000_2 x423001_2 x423002_2 x423003_2 x423004_2 x423005_2 t430 t431 t432 t433 t434 t435 t436 w _ ?side1 ?side2 A60.out).mono ?_); (case side1 => repeat (first | (with_reducible first | exact HI422.out | apply IsS40.alloc | apply IsS40.drewN | apply IsS40.drew | apply IsS40.set_0 | apply IsS40.set_1 | apply IsS40.set_2 | apply IsS40.set_3 | apply IsS40.set_4 | apply IsS40.set_5 | refine IsS40.far ?_ NB422_413.out _) | exact HI422.out)); (case side2 => repeat (first | (with_reducible first | exact HB.out | apply below_alloc | apply pw_below_drewN | apply below_drew1 | refine below_set ?_ (IsS40.ge HI422.out) | refine below_set ?_ GE413.out) | exact HB.out)); rintro e w63 ⟨rfl, hi, hb, hk⟩; refine ⟨_, rfl, ?_⟩; have n0_ := Aside0.mk (KeepBut.blk hk (g' := gb413) (o := .cells #[.int .i64 a0_0, .int .i64 a0_1, .int .i64 a0_2, .int .i64 a0_3] 23 (0, 0)) (by (with_reducible repeat (first | refine blk_drewN ?_ _ | refine blk_drew ?_ | refine blk_alloc ?_ _)); exact BK413.out) NB413_422.out (by simp)); have n1_ := Aside0.mk (hb); have n2_ := Aside0.mk (hi); clear BK413; clear HB; clear HI422; have BK413 := n0_; have HB := n1_; have HI422 := n2_; clear n0_ n1_ n2_; (try clear hb); (try clear hb2); (try clear hk); (try clear hi)))
                    go_ret
                    exact ⟨by first | rfl | (simp [errW_none, errW_some] <;> rfl) | (simp [*, errW_none, errW_some] <;> rfl), by repeat (first | (with_reducible first | exact HB.out | apply below_alloc | apply pw_below_drewN | apply below_drew1 | refine below_set ?_ (IsS40.ge HI422.out) | refine below_set ?_ GE413.out) | exact HB.out)⟩
            · replace c19 := Bool.eq_false_iff.mpr c19
              subst c19
              have H1 : (some false) = some r := by rw [if_neg (show ¬ (false = true) by decide)] at H; exact H
              clear H
              have H := H1
              clear H1
              obtain rfl := Option.some.inj H
              have hcz64_0 : wc.cell? ⟨gb413, 0, none⟩ = some (.int .i64 a0_0) := (blk_cell BK413.out 0).trans rfl
              have hcz64_1 : wc.cell? ⟨gb413, 1, none⟩ = some (.int .i64 a0_1) := (blk_cell BK413.out 1).trans rfl
              have hcz64_2 : wc.cell? ⟨gb413, 2, none⟩ = some (.int .i64 a0_2) := (blk_cell BK413.out 2).trans rfl
              have hcz64_3 : wc.cell? ⟨gb413, 3, none⟩ = some (.int .i64 a0_3) := (blk_cell BK413.out 3).trans rfl
              have hfz64_0 := blk_frozen BK413.out 0
              have hfz64_1 := blk_frozen BK413.out 1
              have hfz64_2 := blk_frozen BK413.out 2
              have hfz64_3 := blk_frozen BK413.out 3
              go_wp2_with (first | ((with_reducible refine gate_callee (f := 8) rfl ?_); refine goesL_ (some 27) rfl rfl Try.func8 (by kernel_rfl) rfl #[.agg #[.int .i64 a0_0, .int .i64 a0_1, .int .i64 a0_2, .int .i64 a0_3]] rfl (by (try simp only [List.map_toArray, List.map_cons, List.map_nil]); first | done | rfl | (simp only [List.length_drop, List.length_take]; rfl)) ?_; (with_reducible refine (front_New.calls a0_0 a0_1 a0_2 a0_3 t416 t417 t418 t419 t420 t421 w _ ?side1 A16.out).mono ?_); (case side1 => repeat (first | (with_reducible first | exact HB.out | apply below_alloc | apply pw_below_drewN | apply below_drew1 | refine below_set ?_ GE413.out) | exact HB.out)); rintro e w65 ⟨g422, rfl, hi, hb, hb2⟩; refine ⟨_, rfl, ?_⟩; have n0_ := Aside0.mk (blk_below (g := gb413) (o := .cells #[.int .i64 a0_0, .int .i64 a0_1, .int .i64 a0_2, .int .i64 a0_3] 23 (0, 0)) (by (with_reducible repeat (first | refine blk_drewN ?_ _ | refine blk_drew ?_ | refine blk_alloc ?_ _)); exact BK413.out) hb2); have n1_ := Aside0.mk (hb); have n2_ := Aside0.mk (hi); have n3_ := Aside0.mk (IsS40.ne_blk hi (blk_below (g := gb413) (o := .cells #[.int .i64 a0_0, .int .i64 a0_1, .int .i64 a0_2, .int .i64 a0_3] 23 (0, 0)) (by (with_reducible repeat (first | refine blk_drewN ?_ _ | refine blk_drew ?_ | refine blk_alloc ?_ _)); exact BK413.out) hb2) (by decide)); have n4_ := Aside0.mk (Ne.symm (IsS40.ne_blk hi (blk_below (g := gb413) (o := .cells #[.int .i64 a0_0, .int .i64 a0_1, .int .i64 a0_2, .int .i64 a0_3] 23 (0, 0)) (by (with_reducible repeat (first | refine blk_drewN ?_ _ | refine blk_drew ?_ | refine blk_alloc ?_ _)); exact BK413.out) hb2) (by decide))); clear BK413; clear HB; have BK413 := n0_; have HB := n1_; have HI422 := n2_; have NB422_413 := n3_; have NB413_422 := n4_; clear n0_ n1_ n2_ n3_ n4_; (try clear hb); (try clear hb2); (try clear hk); (try clear hi); have hnb66 := NB413_422.out; have hnc66 := NB422_413.out; have hcz67_0 : w65.cell? ⟨gb413, 0, none⟩ = some (.int .i64 a0_0) := (blk_cell BK413.out 0).trans rfl; have hcz67_1 : w65.cell? ⟨gb413, 1, none⟩ = some (.int .i64 a0_1) := (blk_cell BK413.out 1).trans rfl; have hcz67_2 : w65.cell? ⟨gb413, 2, none⟩ = some (.int .i64 a0_2) := (blk_cell BK413.out 2).trans rfl; have hcz67_3 : w65.cell? ⟨gb413, 3, none⟩ = some (.int .i64 a0_3) := (blk_cell BK413.out 3).trans rfl; have hfz67_0 := blk_frozen BK413.out 0; have hfz67_1 := blk_frozen BK413.out 1; have hfz67_2 := blk_frozen BK413.out 2; have hfz67_3 := blk_frozen BK413.out 3) | (go_at_call 10; (with_reducible refine (front_Front_Open.calls g422 t416 t417 t418 t419 t420 t421 (Int.tmod (wrap64 (a1)) a0_0) 0 false t424 t425 t426 t427 t428 t429 w _ ?side1 ?side2 A18.out).mono ?_); (case side1 => repeat (first | (with_reducible first | exact HI422.out | apply IsS40.alloc | apply IsS40.drewN | apply IsS40.drew | apply IsS40.set_0 | apply IsS40.set_1 | apply IsS40.set_2 | apply IsS40.set_3 | apply IsS40.set_4 | apply IsS40.set_5 | refine IsS40.far ?_ NB422_413.out _) | exact HI422.out)); (case side2 => repeat (first | (with_reducible first | exact HB.out | apply below_alloc | apply pw_below_drewN | apply below_drew1 | refine below_set ?_ (IsS40.ge HI422.out) | refine below_set ?_ GE413.out) | exact HB.out)); rintro e w68 ⟨rfl, hi, hb, hk⟩; have n0_ := Aside0.mk (KeepBut.blk hk (g' := gb413) (o := .cells #[.int .i64 a0_0, .int .i64 a0_1, .int .i64 a0_2, .int .i64 a0_3] 23 (0, 0)) (by (with_reducible repeat (first | refine blk_drewN ?_ _ | refine blk_drew ?_ | refine blk_alloc ?_ _)); exact BK413.out) NB413_422.out (by simp)); have n1_ := Aside0.mk (hb); have n2_ := Aside0.mk (hi); clear BK413; clear HB; clear HI422; have BK413 := n0_; have HB := n1_; have HI422 := n2_; clear n0_ n1_ n2_; (try clear hb); (try clear hb2); (try clear hk); (try clear hi)))
              go_ret
              exact ⟨by first | rfl | (simp [errW_none, errW_some] <;> rfl) | (simp [*, errW_none, errW_some] <;> rfl), by repeat (first | (with_reducible first | exact HB.out | apply below_alloc | apply pw_below_drewN | apply below_drew1 | refine below_set ?_ (IsS40.ge HI422.out) | refine below_set ?_ GE413.out) | exact HB.out)⟩
  · replace c5 := Bool.eq_false_iff.mpr c5
    subst c5
    have H1 : (some false) = some r := by rw [if_neg (show ¬ (false = true) by decide)] at H; exact H
    clear H
    have H := H1
    clear H1
    obtain rfl := Option.some.inj H
    go_enter Try.func6, Try.ntmps6
    go_wp2_with (first | ((with_reducible refine gate_dst (N := 3) rfl ?_); (try (refine gate_guard (by rfl) ?_; dsimp only)); refine box_event ?hg (N := 3) ?hd (cs := #[.int .i64 a0_0, .int .i64 a0_1, .int .i64 a0_2, .int .i64 a0_3]) (t := 23) ?hr ?_; (case hd => rfl); (case hg => rfl); (case hr => first | (go_simp; done) | (go_simp; rfl)); intro gb413 hg w69 hbox hb; have n0_ := Aside0.mk (below_step (by repeat (first | (with_reducible first | exact HB.out | apply below_alloc | apply pw_below_drewN | apply below_drew1) | exact HB.out)) hb); have n1_ := Aside0.mk (hbox); have n2_ := Aside0.mk ((by rw [hg]; exact (below_size (by repeat (first | (with_reducible first | exact HB.out | apply below_alloc | apply pw_below_drewN | apply below_drew1) | exact HB.out))) : w.heap.size ≤ gb413)); have n3_ := Aside0.mk ((by rw [hg]; exact (below_size (by repeat (first | (with_reducible first | exact HB.out | apply below_alloc | apply pw_below_drewN | apply below_drew1) | exact HB.out))) : w.heap.size ≤ gb413)); clear HB; have HB := n0_; have BK413 := n1_; have GW413 := n2_; have GE413 := n3_; clear n0_ n1_ n2_ n3_; clear hb hbox hg) | ((with_reducible refine gate_callee (f := 7) rfl ?_); refine goesL_ (some 16) rfl rfl Try.func7 (by kernel_rfl) rfl #[] rfl (by (try simp only [List.map_toArray, List.map_cons, List.map_nil]); first | done | rfl | (simp only [List.length_drop, List.length_take]; rfl)) ?_; (with_reducible refine (blackboardlaw17_awake.calls  false _ A4.out).mono ?_); rintro e w70 ⟨rfl, hb⟩; refine ⟨_, rfl, ?_⟩; have n0_ := Aside0.mk (blk_below (g := gb413) (o := .cells #[.int .i64 a0_0, .int .i64 a0_1, .int .i64 a0_2, .int .i64 a0_3] 23 (0, 0)) (by (with_reducible repeat (first | refine blk_drewN ?_ _ | refine blk_drew ?_ | refine blk_alloc ?_ _)); exact BK413.out) hb); have n1_ := Aside0.mk (below_step (by repeat (first | (with_reducible first | exact HB.out | apply below_alloc | apply pw_below_drewN | apply below_drew1 | refine below_set ?_ GE413.out) | exact HB.out)) hb); clear BK413; clear HB; have BK413 := n0_; have HB := n1_; clear n0_ n1_; (try clear hb); (try clear hb2); (try clear hk); (try clear hi)))
    go_ret
    exact ⟨by first | rfl | (simp [errW_none, errW_some] <;> rfl) | (simp [*, errW_none, errW_some] <;> rfl), by repeat (first | (with_reducible first | exact HB.out | apply below_alloc | apply pw_below_drewN | apply below_drew1 | refine below_set ?_ GE413.out) | exact HB.out)⟩

end Go.Proofs.Ytobdkncdjofihaa.M
