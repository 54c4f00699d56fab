/- Printed for this seat by a program of this session (over the kit's print), with contracts of its own laid in. -/
import Derived.Test.YtmdpfpfnchfocaaMx0
import Derived.Test.YtmdpfpfnchfocaaMx1
import Derived.Test.YtmdpfpfnchfocaaMx2
import Derived.Test.YtmdpfpfnchfocaaMx3
namespace Go.Proofs.Ytmdpfpfnchfocaa.M
open Go.RowKit Go.Proofs.YtmdpfpfnchfocaaW.PrintWords Go.Proofs.YtmdpfpfnchfocaaW.PrintLast Go.Proofs.YtmdpfpfnchfocaaW.PrintMore
attribute [local go_sem] max2_int min2_int max_two min_two max_three min_three max_four min_four   -- for this text's walks alone
set_option linter.unusedVariables false
set_option linter.unusedSimpArgs false

/-! ### blackboardlaw19_PatrolRounds: function 4 -/
mutual
def blackboardlaw19_PatrolRounds.l0 : Nat → Int → Int → Int → Int → Int → Int → Int → Int → Int → Int → Int → Int → Option (Bool)
  | 0, _, _, _, _, _, _, _, _, _, _, _, _ => none
  | k + 1, x1, x6, x7, x153000, x153001, x153002, x153003, x161000, x161001, x161002, x161003, x161004 => if x7 < (Int.tmod (wrap64 (x1)) 50) then ((patrol_Patrol_Next.f k x161000 x161001 x161002 x161003 x161004).bind fun bt161 => (blackboardlaw19_PatrolRounds.l0 k x1 x6 (wrap64 (x7 + 1)) x153000 x153001 x153002 x153003 bt161.2.2.1 bt161.2.2.2.1 bt161.2.2.2.2.1 bt161.2.2.2.2.2.1 bt161.2.2.2.2.2.2)) else (if 0 ≤ x6 then (if (x6 : Int).toNat ≤ 281474976710656 then (blackboardlaw19_PatrolRounds.l1 k x6 (List.replicate (x6 : Int).toNat false) 0 x153000 x153001 x153002 x153003 x161000 x161001 x161002 x161003 x161004) else (none)) else (none))
def blackboardlaw19_PatrolRounds.l1 : Nat → Int → List Bool → Int → Int → Int → Int → Int → Int → Int → Int → Int → Int → Option (Bool)
  | 0, _, _, _, _, _, _, _, _, _, _, _, _ => none
  | k + 1, x6, x8, x9, x153000, x153001, x153002, x153003, x161000, x161001, x161002, x161003, x161004 => if x9 < x6 then ((patrol_Patrol_Next.f k x161000 x161001 x161002 x161003 x161004).bind fun bt171 => (if bt171.1 < 0 then (some false) else (if bt171.1 ≥ x153000 then (some false) else (if bt171.2.1 < 0 then (some false) else (if bt171.2.1 ≥ x153001 then (some false) else (if 0 ≤ (wrap64 ((wrap64 (bt171.1 * x153001)) + bt171.2.1)) then (if (wrap64 ((wrap64 (bt171.1 * x153001)) + bt171.2.1)) < (x8.length : Int) then (if rdOf false x8 (wrap64 ((wrap64 (bt171.1 * x153001)) + bt171.2.1)) = true then (some false) else (blackboardlaw19_PatrolRounds.l1 k x6 (x8.set ((wrap64 ((wrap64 (bt171.1 * x153001)) + bt171.2.1)) : Int).toNat true) (wrap64 (x9 + 1)) x153000 x153001 x153002 x153003 bt171.2.2.1 bt171.2.2.2.1 bt171.2.2.2.2.1 bt171.2.2.2.2.2.1 bt171.2.2.2.2.2.2)) else (none)) else (none))))))) else (some true)
end
def blackboardlaw19_PatrolRounds.f (k : Nat) (a0_0 : Int) (a0_1 : Int) (a0_2 : Int) (a0_3 : Int) (a1 : Int) : Option (Bool) := (blackboardlaw19_awake.f k).bind fun t153 => (if t153 = true then ((blackboardref1_GeoMay.f a0_0 a0_1 a0_2 a0_3).bind fun t154 => (if t154 = true then ((patrol_New.f a0_0 a0_1 a0_2 a0_3).bind fun bt155 => (blackboardlaw19_PatrolRounds.l0 k a1 (wrap64 (a0_0 * a0_1)) 0 a0_0 a0_1 a0_2 a0_3 bt155.1 bt155.2.1 bt155.2.2.1 bt155.2.2.2.1 bt155.2.2.2.2)) else (some true))) else (some false))
theorem blackboardlaw19_PatrolRounds.mono_l : ∀ k, (∀ y0 y1 y2 y3 y4 y5 y6 y7 y8 y9 y10 y11, LeO (blackboardlaw19_PatrolRounds.l0 k y0 y1 y2 y3 y4 y5 y6 y7 y8 y9 y10 y11) (blackboardlaw19_PatrolRounds.l0 (k + 1) y0 y1 y2 y3 y4 y5 y6 y7 y8 y9 y10 y11)) ∧ (∀ y0 y1 y2 y3 y4 y5 y6 y7 y8 y9 y10 y11, LeO (blackboardlaw19_PatrolRounds.l1 k y0 y1 y2 y3 y4 y5 y6 y7 y8 y9 y10 y11) (blackboardlaw19_PatrolRounds.l1 (k + 1) y0 y1 y2 y3 y4 y5 y6 y7 y8 y9 y10 y11))
  | 0 => ⟨fun _ _ _ _ _ _ _ _ _ _ _ _ r h => by simp [blackboardlaw19_PatrolRounds.l0] at h, fun _ _ _ _ _ _ _ _ _ _ _ _ r h => by simp [blackboardlaw19_PatrolRounds.l1] at h⟩
  | k + 1 => by
    obtain ⟨ih0, ih1⟩ := blackboardlaw19_PatrolRounds.mono_l k
    refine ⟨?_, ?_⟩
    · intro y0 y1 y2 y3 y4 y5 y6 y7 y8 y9 y10 y11
      unfold blackboardlaw19_PatrolRounds.l0
      repeat' first
      | (with_reducible exact ih0 _ _ _ _ _ _ _ _ _ _ _ _)
      | (with_reducible exact ih1 _ _ _ _ _ _ _ _ _ _ _ _)
      | (with_reducible exact blackboardlaw19_awake.mono _)
      | (with_reducible exact patrol_Patrol_Next.mono _ _ _ _ _ _)
      | (with_reducible exact LeO.refl _)
      | (with_reducible exact LeO.none _)
      | (with_reducible refine LeO.ite ?_ ?_)
      | (with_reducible refine LeO.bind ?_ (fun _ => ?_))
      | exact ih0 _ _ _ _ _ _ _ _ _ _ _ _
      | exact ih1 _ _ _ _ _ _ _ _ _ _ _ _
      | exact blackboardlaw19_awake.mono _
      | exact patrol_Patrol_Next.mono _ _ _ _ _ _
      | exact LeO.none _
      | refine LeO.ite ?_ ?_
      | refine LeO.bind ?_ (fun _ => ?_)
    · intro y0 y1 y2 y3 y4 y5 y6 y7 y8 y9 y10 y11
      unfold blackboardlaw19_PatrolRounds.l1
      repeat' first
      | (with_reducible exact ih0 _ _ _ _ _ _ _ _ _ _ _ _)
      | (with_reducible exact ih1 _ _ _ _ _ _ _ _ _ _ _ _)
      | (with_reducible exact blackboardlaw19_awake.mono _)
      | (with_reducible exact patrol_Patrol_Next.mono _ _ _ _ _ _)
      | (with_reducible exact LeO.refl _)
      | (with_reducible exact LeO.none _)
      | (with_reducible refine LeO.ite ?_ ?_)
      | (with_reducible refine LeO.bind ?_ (fun _ => ?_))
      | exact ih0 _ _ _ _ _ _ _ _ _ _ _ _
      | exact ih1 _ _ _ _ _ _ _ _ _ _ _ _
      | exact blackboardlaw19_awake.mono _
      | exact patrol_Patrol_Next.mono _ _ _ _ _ _
      | exact LeO.none _
      | refine LeO.ite ?_ ?_
      | refine LeO.bind ?_ (fun _ => ?_)
theorem blackboardlaw19_PatrolRounds.mono : ∀ a0 a1 a2 a3 a4 k, LeO (blackboardlaw19_PatrolRounds.f k a0 a1 a2 a3 a4) (blackboardlaw19_PatrolRounds.f (k + 1) a0 a1 a2 a3 a4) := by
  intro a0 a1 a2 a3 a4 k
  obtain ⟨ih0, ih1⟩ := blackboardlaw19_PatrolRounds.mono_l k
  unfold blackboardlaw19_PatrolRounds.f
  repeat' first
      | (with_reducible exact ih0 _ _ _ _ _ _ _ _ _ _ _ _)
      | (with_reducible exact ih1 _ _ _ _ _ _ _ _ _ _ _ _)
      | (with_reducible exact blackboardlaw19_awake.mono _)
      | (with_reducible exact patrol_Patrol_Next.mono _ _ _ _ _ _)
      | (with_reducible exact LeO.refl _)
      | (with_reducible exact LeO.none _)
      | (with_reducible refine LeO.ite ?_ ?_)
      | (with_reducible refine LeO.bind ?_ (fun _ => ?_))
      | exact ih0 _ _ _ _ _ _ _ _ _ _ _ _
      | exact ih1 _ _ _ _ _ _ _ _ _ _ _ _
      | exact blackboardlaw19_awake.mono _
      | exact patrol_Patrol_Next.mono _ _ _ _ _ _
      | exact LeO.none _
      | refine LeO.ite ?_ ?_
      | refine LeO.bind ?_ (fun _ => ?_)
set_option maxHeartbeats 8000000 in
set_option maxRecDepth 100000 in
theorem blackboardlaw19_PatrolRounds.calls (k : Nat) (a0_0 : Int) (a0_1 : Int) (a0_2 : Int) (a0_3 : Int) (a1 : Int) (r : Bool) (w : World) (h : blackboardlaw19_PatrolRounds.f k a0_0 a0_1 a0_2 a0_3 a1 = some r) :
    Calls Try.prog 4 #[.agg #[.int .i64 a0_0, .int .i64 a0_1, .int .i64 a0_2, .int .i64 a0_3], .int .u8 a1] w fun e w' => e = .returned (.bool r) ∧ Below w.heap.size w w' := by
  have hu23 := Try.underlying23
  have HB := Aside0.mk (Below.refl w.heap.size w)
  have H : ((blackboardlaw19_awake.f k).bind fun t153 => (if t153 = true then ((blackboardref1_GeoMay.f a0_0 a0_1 a0_2 a0_3).bind fun t154 => (if t154 = true then ((patrol_New.f a0_0 a0_1 a0_2 a0_3).bind fun bt155 => (blackboardlaw19_PatrolRounds.l0 k a1 (wrap64 (a0_0 * a0_1)) 0 a0_0 a0_1 a0_2 a0_3 bt155.1 bt155.2.1 bt155.2.2.1 bt155.2.2.2.1 bt155.2.2.2.2)) else (some true))) else (some false))) = some r := h
  clear h
  replace H := Option.bind_eq_some_iff.mp H
  obtain ⟨t153, A30, H⟩ := H
  replace H : (if t153 = true then ((blackboardref1_GeoMay.f a0_0 a0_1 a0_2 a0_3).bind fun t154 => (if t154 = true then ((patrol_New.f a0_0 a0_1 a0_2 a0_3).bind fun bt155 => (blackboardlaw19_PatrolRounds.l0 k a1 (wrap64 (a0_0 * a0_1)) 0 a0_0 a0_1 a0_2 a0_3 bt155.1 bt155.2.1 bt155.2.2.1 bt155.2.2.2.1 bt155.2.2.2.2)) else (some true))) else (some false)) = some r := H
  have A3 := Aside0.mk A30
  clear A30
  by_cases c4 : t153 = true
  · subst c4
    have H1 : ((blackboardref1_GeoMay.f a0_0 a0_1 a0_2 a0_3).bind fun t154 => (if t154 = true then ((patrol_New.f a0_0 a0_1 a0_2 a0_3).bind fun bt155 => (blackboardlaw19_PatrolRounds.l0 k a1 (wrap64 (a0_0 * a0_1)) 0 a0_0 a0_1 a0_2 a0_3 bt155.1 bt155.2.1 bt155.2.2.1 bt155.2.2.2.1 bt155.2.2.2.2)) else (some true))) = some r := by rw [if_pos rfl] at H; exact H
    clear H
    have H := H1
    clear H1
    replace H := Option.bind_eq_some_iff.mp H
    obtain ⟨t154, A50, H⟩ := H
    replace H : (if t154 = true then ((patrol_New.f a0_0 a0_1 a0_2 a0_3).bind fun bt155 => (blackboardlaw19_PatrolRounds.l0 k a1 (wrap64 (a0_0 * a0_1)) 0 a0_0 a0_1 a0_2 a0_3 bt155.1 bt155.2.1 bt155.2.2.1 bt155.2.2.2.1 bt155.2.2.2.2)) else (some true)) = some r := H
    have A5 := Aside0.mk A50
    clear A50
    by_cases c6 : t154 = true
    · subst c6
      have H1 : ((patrol_New.f a0_0 a0_1 a0_2 a0_3).bind fun bt155 => (blackboardlaw19_PatrolRounds.l0 k a1 (wrap64 (a0_0 * a0_1)) 0 a0_0 a0_1 a0_2 a0_3 bt155.1 bt155.2.1 bt155.2.2.1 bt155.2.2.2.1 bt155.2.2.2.2)) = some r := by rw [if_pos rfl] at H; exact H
      clear H
      have H := H1
      clear H1
      replace H := Option.bind_eq_some_iff.mp H
      obtain ⟨⟨t155, t156, t157, t158, t159⟩, A70, H⟩ := H
      replace H : (blackboardlaw19_PatrolRounds.l0 k a1 (wrap64 (a0_0 * a0_1)) 0 a0_0 a0_1 a0_2 a0_3 t155 t156 t157 t158 t159) = some r := H
      have A7 := Aside0.mk A70
      clear A70
      have H' := Aside0.mk H
      clear H
      go_enter Try.func4, Try.ntmps4
      go_wp2_with (first | ((with_reducible refine gate_dst (N := 2) rfl ?_); refine box_event ?hg (N := 2) ?hd (cs := #[.int .i64 a0_0, .int .i64 a0_1, .int .i64 a0_2, .int .i64 a0_3]) (t := 23) ?hr ?_; (case hd => rfl); (case hg => rfl); (case hr => first | (go_simp; done) | (go_simp; rfl)); intro gb152 hg w8 hbox hb; have n0_ := Aside0.mk (below_step (by repeat (first | (with_reducible first | exact HB.out | apply below_alloc | apply pw_below_drewN | apply below_drew1) | exact HB.out)) hb); have n1_ := Aside0.mk (hbox); have n2_ := Aside0.mk ((by rw [hg]; exact (below_size (by repeat (first | (with_reducible first | exact HB.out | apply below_alloc | apply pw_below_drewN | apply below_drew1) | exact HB.out))) : w.heap.size ≤ gb152)); have n3_ := Aside0.mk ((by rw [hg]; exact (below_size (by repeat (first | (with_reducible first | exact HB.out | apply below_alloc | apply pw_below_drewN | apply below_drew1) | exact HB.out))) : w.heap.size ≤ gb152)); clear HB; have HB := n0_; have BK152 := n1_; have GW152 := n2_; have GE152 := n3_; clear n0_ n1_ n2_ n3_; clear hb hbox hg) | ((with_reducible refine gate_callee (f := 7) rfl ?_); refine goesL_ (some 13) rfl rfl Try.func7 (by kernel_rfl) rfl #[] rfl (by (try simp only [List.map_toArray, List.map_cons, List.map_nil]); first | done | rfl | (simp only [List.length_drop, List.length_take]; rfl)) ?_; (with_reducible refine (blackboardlaw19_awake.calls k  true _ A3.out).mono ?_); rintro e w9 ⟨rfl, hb⟩; refine ⟨_, rfl, ?_⟩; have n0_ := Aside0.mk (blk_below (g := gb152) (o := .cells #[.int .i64 a0_0, .int .i64 a0_1, .int .i64 a0_2, .int .i64 a0_3] 23 (0, 0)) (by (with_reducible repeat (first | refine blk_drewN ?_ _ | refine blk_drew ?_ | refine blk_alloc ?_ _)); exact BK152.out) hb); have n1_ := Aside0.mk (below_step (by repeat (first | (with_reducible first | exact HB.out | apply below_alloc | apply pw_below_drewN | apply below_drew1 | refine below_set ?_ GE152.out) | exact HB.out)) hb); clear BK152; clear HB; have BK152 := n0_; have HB := n1_; clear n0_ n1_; (try clear hb); (try clear hb2); (try clear hk); (try clear hi); have hcz10_0 : w9.cell? ⟨gb152, 0, none⟩ = some (.int .i64 a0_0) := (blk_cell BK152.out 0).trans rfl; have hcz10_1 : w9.cell? ⟨gb152, 1, none⟩ = some (.int .i64 a0_1) := (blk_cell BK152.out 1).trans rfl; have hcz10_2 : w9.cell? ⟨gb152, 2, none⟩ = some (.int .i64 a0_2) := (blk_cell BK152.out 2).trans rfl; have hcz10_3 : w9.cell? ⟨gb152, 3, none⟩ = some (.int .i64 a0_3) := (blk_cell BK152.out 3).trans rfl; have hfz10_0 := blk_frozen BK152.out 0; have hfz10_1 := blk_frozen BK152.out 1; have hfz10_2 := blk_frozen BK152.out 2; have hfz10_3 := blk_frozen BK152.out 3) | ((with_reducible refine gate_callee (f := 9) rfl ?_); refine goesL_ (some 16) rfl rfl Try.func9 (by kernel_rfl) rfl #[.agg #[.int .i64 a0_0, .int .i64 a0_1, .int .i64 a0_2, .int .i64 a0_3]] rfl (by (try simp only [List.map_toArray, List.map_cons, List.map_nil]); first | done | rfl | (simp only [List.length_drop, List.length_take]; rfl)) ?_; (with_reducible refine (blackboardref1_GeoMay.calls a0_0 a0_1 a0_2 a0_3 true _ A5.out).mono ?_); rintro e w11 ⟨rfl, hb⟩; refine ⟨_, rfl, ?_⟩; have n0_ := Aside0.mk (blk_below (g := gb152) (o := .cells #[.int .i64 a0_0, .int .i64 a0_1, .int .i64 a0_2, .int .i64 a0_3] 23 (0, 0)) (by (with_reducible repeat (first | refine blk_drewN ?_ _ | refine blk_drew ?_ | refine blk_alloc ?_ _)); exact BK152.out) hb); have n1_ := Aside0.mk (below_step (by repeat (first | (with_reducible first | exact HB.out | apply below_alloc | apply pw_below_drewN | apply below_drew1 | refine below_set ?_ GE152.out) | exact HB.out)) hb); clear BK152; clear HB; have BK152 := n0_; have HB := n1_; clear n0_ n1_; (try clear hb); (try clear hb2); (try clear hk); (try clear hi); have hcz12_0 : w11.cell? ⟨gb152, 0, none⟩ = some (.int .i64 a0_0) := (blk_cell BK152.out 0).trans rfl; have hcz12_1 : w11.cell? ⟨gb152, 1, none⟩ = some (.int .i64 a0_1) := (blk_cell BK152.out 1).trans rfl; have hcz12_2 : w11.cell? ⟨gb152, 2, none⟩ = some (.int .i64 a0_2) := (blk_cell BK152.out 2).trans rfl; have hcz12_3 : w11.cell? ⟨gb152, 3, none⟩ = some (.int .i64 a0_3) := (blk_cell BK152.out 3).trans rfl; have hfz12_0 := blk_frozen BK152.out 0; have hfz12_1 := blk_frozen BK152.out 1; have hfz12_2 := blk_frozen BK152.out 2; have hfz12_3 := blk_frozen BK152.out 3) | ((with_reducible refine gate_callee (f := 8) rfl ?_); refine goesL_ (some 19) rfl rfl Try.func8 (by kernel_rfl) rfl #[.agg #[.int .i64 a0_0, .int .i64 a0_1, .int .i64 a0_2, .int .i64 a0_3]] rfl (by (try simp only [List.map_toArray, List.map_cons, List.map_nil]); first | done | rfl | (simp only [List.length_drop, List.length_take]; rfl)) ?_; (with_reducible refine (patrol_New.calls a0_0 a0_1 a0_2 a0_3 t155 t156 t157 t158 t159 w _ ?side1 A7.out).mono ?_); (case side1 => repeat (first | (with_reducible first | exact HB.out | apply below_alloc | apply pw_below_drewN | apply below_drew1 | refine below_set ?_ GE152.out) | exact HB.out)); rintro e w13 ⟨g160, rfl, hi, hb, hb2⟩; refine ⟨_, rfl, ?_⟩; have n0_ := Aside0.mk (blk_below (g := gb152) (o := .cells #[.int .i64 a0_0, .int .i64 a0_1, .int .i64 a0_2, .int .i64 a0_3] 23 (0, 0)) (by (with_reducible repeat (first | refine blk_drewN ?_ _ | refine blk_drew ?_ | refine blk_alloc ?_ _)); exact BK152.out) hb2); have n1_ := Aside0.mk (hb); have n2_ := Aside0.mk (hi); have n3_ := Aside0.mk (IsS47.ne_blk hi (blk_below (g := gb152) (o := .cells #[.int .i64 a0_0, .int .i64 a0_1, .int .i64 a0_2, .int .i64 a0_3] 23 (0, 0)) (by (with_reducible repeat (first | refine blk_drewN ?_ _ | refine blk_drew ?_ | refine blk_alloc ?_ _)); exact BK152.out) hb2) (by decide)); have n4_ := Aside0.mk (Ne.symm (IsS47.ne_blk hi (blk_below (g := gb152) (o := .cells #[.int .i64 a0_0, .int .i64 a0_1, .int .i64 a0_2, .int .i64 a0_3] 23 (0, 0)) (by (with_reducible repeat (first | refine blk_drewN ?_ _ | refine blk_drew ?_ | refine blk_alloc ?_ _)); exact BK152.out) hb2) (by decide))); clear BK152; clear HB; have BK152 := n0_; have HB := n1_; have HI160 := n2_; have NB160_152 := n3_; have NB152_160 := n4_; clear n0_ n1_ n2_ n3_ n4_; (try clear hb); (try clear hb2); (try clear hk); (try clear hi); have hnb14 := NB152_160.out; have hnc14 := NB160_152.out; have hcz15_0 : w13.cell? ⟨gb152, 0, none⟩ = some (.int .i64 a0_0) := (blk_cell BK152.out 0).trans rfl; have hcz15_1 : w13.cell? ⟨gb152, 1, none⟩ = some (.int .i64 a0_1) := (blk_cell BK152.out 1).trans rfl; have hcz15_2 : w13.cell? ⟨gb152, 2, none⟩ = some (.int .i64 a0_2) := (blk_cell BK152.out 2).trans rfl; have hcz15_3 : w13.cell? ⟨gb152, 3, none⟩ = some (.int .i64 a0_3) := (blk_cell BK152.out 3).trans rfl; have hfz15_0 := blk_frozen BK152.out 0; have hfz15_1 := blk_frozen BK152.out 1; have hfz15_2 := blk_frozen BK152.out 2; have hfz15_3 := blk_frozen BK152.out 3))
      go_loopg [7] k (fun kq v7 w' => ∃ (x7_1 : Int) (x161000_1 : Int) (x161001_1 : Int) (x161002_1 : Int) (x161003_1 : Int) (x161004_1 : Int), v7 = .int .i64 x7_1 ∧ Aside0 (blackboardlaw19_PatrolRounds.l0 kq a1 (wrap64 (a0_0 * a0_1)) x7_1 a0_0 a0_1 a0_2 a0_3 x161000_1 x161001_1 x161002_1 x161003_1 x161004_1 = some r) ∧ Aside0 (kq ≤ k) ∧ Aside0 (w'.heap[gb152]? = some (.cells #[.int .i64 a0_0, .int .i64 a0_1, .int .i64 a0_2, .int .i64 a0_3] 23 (0, 0))) ∧ Aside0 (IsS47 w w' g160 x161000_1 x161001_1 x161002_1 x161003_1 x161004_1) ∧ Aside0 (Below w.heap.size w w'))
      case atStart => exact ⟨(0), (t155), (t156), (t157), (t158), (t159), (by first | rfl | (simp; done) | (simp [*]; done)), H', ⟨Nat.le_refl _⟩, ⟨by (with_reducible repeat (first | refine blk_drewN ?_ _ | refine blk_drew ?_ | refine blk_alloc ?_ _)); exact BK152.out⟩, ⟨by repeat (first | (with_reducible first | exact HI160.out | apply IsS47.alloc | apply IsS47.drewN | apply IsS47.drew | apply IsS47.set_0 | apply IsS47.set_1 | apply IsS47.set_2 | apply IsS47.set_3 | apply IsS47.set_4 | refine IsS47.far ?_ NB160_152.out _) | exact HI160.out)⟩, ⟨by repeat (first | (with_reducible first | exact HB.out | apply below_alloc | apply pw_below_drewN | apply below_drew1 | refine below_set ?_ (IsS47.ge HI160.out) | refine below_set ?_ GE152.out) | exact HB.out)⟩⟩
      case round =>
        clear H'
        try clear c1
        try clear p2
        try clear c4
        try clear c6
        try clear p6
        try clear c7
        try clear c8
        try clear c9
        try clear c14
        try clear hcz10_0
        try clear hcz10_1
        try clear hcz10_2
        try clear hcz10_3
        try clear hcz12_0
        try clear hcz12_1
        try clear hcz12_2
        try clear hcz12_3
        try clear hcz15_0
        try clear hcz15_1
        try clear hcz15_2
        try clear hcz15_3
        try clear hfz10_0
        try clear hfz10_1
        try clear hfz10_2
        try clear hfz10_3
        try clear hfz12_0
        try clear hfz12_1
        try clear hfz12_2
        try clear hfz12_3
        try clear hfz15_0
        try clear hfz15_1
        try clear hfz15_2
        try clear hfz15_3
        obtain ⟨x7_1, x161000_1, x161001_1, x161002_1, x161003_1, x161004_1, rfl, HA, HK1, BK152, HI160, HB⟩ := hrel
        cases gk with
        | zero => exact absurd HA.out (by simp [blackboardlaw19_PatrolRounds.l0])
        | succ k1 =>
          have H := HA.out
          clear HA
          simp only [blackboardlaw19_PatrolRounds.l0] at H
          by_cases c16 : x7_1 < (Int.tmod (wrap64 (a1)) 50)
          · rw [if_pos c16] at H
            have c16b0 : decide (x7_1 < (Int.tmod (wrap64 (a1)) 50)) = true := decide_eq_true c16
            clear c16
            replace H := Option.bind_eq_some_iff.mp H
            obtain ⟨⟨t161, t162, t163, t164, t165, t166, t167⟩, A170, H⟩ := H
            replace H : (blackboardlaw19_PatrolRounds.l0 k1 a1 (wrap64 (a0_0 * a0_1)) (wrap64 (x7_1 + 1)) a0_0 a0_1 a0_2 a0_3 t163 t164 t165 t166 t167) = some r := H
            have A17 := Aside0.mk A170
            clear A170
            have H' := Aside0.mk H
            clear H
            go_wp2_with (first | ((with_reducible refine gate_callee (f := 10) rfl ?_); refine goesL_ (some 35) rfl rfl Try.func10 (by kernel_rfl) rfl #[.pointer (some ⟨g160, 0, none⟩)] rfl (by (try simp only [List.map_toArray, List.map_cons, List.map_nil]); first | done | rfl | (simp only [List.length_drop, List.length_take]; rfl)) ?_; (with_reducible refine (patrol_Patrol_Next.calls k1 g160 x161000_1 x161001_1 x161002_1 x161003_1 x161004_1 t161 t162 t163 t164 t165 t166 t167 w _ ?side1 ?side2 A17.out).mono ?_); (case side1 => repeat (first | (with_reducible first | exact HI160.out | apply IsS47.alloc | apply IsS47.drewN | apply IsS47.drew | apply IsS47.set_0 | apply IsS47.set_1 | apply IsS47.set_2 | apply IsS47.set_3 | apply IsS47.set_4 | refine IsS47.far ?_ NB160_152.out _) | exact HI160.out)); (case side2 => repeat (first | (with_reducible first | exact HB.out | apply below_alloc | apply pw_below_drewN | apply below_drew1 | refine below_set ?_ (IsS47.ge HI160.out) | refine below_set ?_ GE152.out) | exact HB.out)); rintro e w18 ⟨rfl, hi, hb, hk⟩; refine ⟨_, rfl, ?_⟩; have n0_ := Aside0.mk (KeepBut.blk hk (g' := gb152) (o := .cells #[.int .i64 a0_0, .int .i64 a0_1, .int .i64 a0_2, .int .i64 a0_3] 23 (0, 0)) (by (with_reducible repeat (first | refine blk_drewN ?_ _ | refine blk_drew ?_ | refine blk_alloc ?_ _)); exact BK152.out) NB152_160.out (by simp)); have n1_ := Aside0.mk (hb); have n2_ := Aside0.mk (hi); clear BK152; clear HB; clear HI160; have BK152 := n0_; have HB := n1_; have HI160 := n2_; clear n0_ n1_ n2_; (try clear hb); (try clear hb2); (try clear hk); (try clear hi)))
            go_roundg k1
            case measure => have := HK1.out; omega
            case rel => exact ⟨(wrap64 (x7_1 + 1)), (t163), (t164), (t165), (t166), (t167), (by first | rfl | (simp; done) | (simp [*]; done)), H', ⟨by have := HK1.out; omega⟩, ⟨by (with_reducible repeat (first | refine blk_drewN ?_ _ | refine blk_drew ?_ | refine blk_alloc ?_ _)); exact BK152.out⟩, ⟨by repeat (first | (with_reducible first | exact HI160.out | apply IsS47.alloc | apply IsS47.drewN | apply IsS47.drew | apply IsS47.set_0 | apply IsS47.set_1 | apply IsS47.set_2 | apply IsS47.set_3 | apply IsS47.set_4 | refine IsS47.far ?_ NB160_152.out _) | exact HI160.out)⟩, ⟨by repeat (first | (with_reducible first | exact HB.out | apply below_alloc | apply pw_below_drewN | apply below_drew1 | refine below_set ?_ (IsS47.ge HI160.out) | refine below_set ?_ GE152.out) | exact HB.out)⟩⟩
          · rw [if_neg c16] at H
            have c16b0 : decide (x7_1 < (Int.tmod (wrap64 (a1)) 50)) = false := decide_eq_false c16
            clear c16
            obtain ⟨ji19, hji19⟩ : ∃ j_ : Int, (wrap64 (a0_0 * a0_1)) = j_ := ⟨_, rfl⟩
            replace H : (if 0 ≤ (ji19) then (if ((ji19) : Int).toNat ≤ 281474976710656 then (blackboardlaw19_PatrolRounds.l1 k1 (ji19) (List.replicate ((ji19) : Int).toNat false) 0 a0_0 a0_1 a0_2 a0_3 x161000_1 x161001_1 x161002_1 x161003_1 x161004_1) else (none)) else (none)) = some r := by first | (rw [hji19] at H; exact H) | (simp only [hji19] at H ⊢; exact H)
            have hji19w : (IntKind.i64.wrap (a0_0 * a0_1)) = ji19 := (i64_w _).trans hji19
            by_cases c20 : 0 ≤ (ji19)
            · rw [if_pos c20] at H
              have c20b0 := eq_true c20
              have c20b1 : decide (0 ≤ (ji19)) = true := decide_eq_true c20
              clear c20
              by_cases c21 : ((ji19) : Int).toNat ≤ 281474976710656
              · rw [if_pos c21] at H
                have c21b0 := eq_true c21
                have c21b1 : decide (((ji19) : Int).toNat ≤ 281474976710656) = true := decide_eq_true c21
                clear c21
                obtain ⟨y168, hy168⟩ : ∃ y_ : List Bool, y_ = (List.replicate ((ji19) : Int).toNat false) := ⟨_, rfl⟩
                replace H : (blackboardlaw19_PatrolRounds.l1 k1 (ji19) y168 0 a0_0 a0_1 a0_2 a0_3 x161000_1 x161001_1 x161002_1 x161003_1 x161004_1) = some r := by first | (rw [hy168]; with_reducible exact H) | (have H2_ := (Option.bind_some _ _).symm.trans H; rw [hy168]; with_reducible exact H2_) | (have H2_ := (Option.bind_some _ _).symm.trans H; with_reducible exact H2_) | with_reducible exact H | (rw [hy168]; exact H) | exact H
                have Ny168 := Aside0.mk hy168
                clear hy168
                have H' := Aside0.mk H
                clear H
                (try simp only [hji19])
                go_wp2_with (first | ((with_reducible refine gate_dst (N := 37) rfl ?_); refine Kd.R_make Kd.bool _ 4 rfl (N := 37) rfl 39 _ _ rfl (ji19) rfl rfl Try.underlying39 (.bool false) 1 info4 rfl (by decide) (by omega) false (ok := fun _ => True) (okp := fun _ => True) rfl (fun _ hk => hk) trivial (of_decide_eq_true (by first | (with_reducible assumption) | assumption)) (Nat.le_trans (Nat.mul_le_mul_right _ (of_decide_eq_true (by first | (with_reducible assumption) | assumption) : (ji19).toNat ≤ 281474976710656)) (by omega)) (Below.refl _ _) (Nat.le_refl _) ?_; intro v169 w22 ho23 hb hg_ hnew_; clear hg_ hnew_; (first | rw [← Ny168.out] at ho23 | (simp only [Int.reduceToNat] at ho23; rw [← Ny168.out] at ho23)); have n0_ := Aside0.mk (Kd.R_lower ho23 (below_size (by repeat (first | (with_reducible first | exact HB.out | apply below_alloc | apply pw_below_drewN | apply below_drew1 | refine below_set ?_ (IsS47.ge HI160.out) | refine below_set ?_ GE152.out) | exact HB.out)))); have n1_ := Aside0.mk (blk_below (g := gb152) (o := .cells #[.int .i64 a0_0, .int .i64 a0_1, .int .i64 a0_2, .int .i64 a0_3] 23 (0, 0)) (by (with_reducible repeat (first | refine blk_drewN ?_ _ | refine blk_drew ?_ | refine blk_alloc ?_ _)); exact BK152.out) hb); have n2_ := Aside0.mk (IsS47.below (by repeat (first | (with_reducible first | exact HI160.out | apply IsS47.alloc | apply IsS47.drewN | apply IsS47.drew | apply IsS47.set_0 | apply IsS47.set_1 | apply IsS47.set_2 | apply IsS47.set_3 | apply IsS47.set_4 | refine IsS47.far ?_ NB160_152.out _) | exact HI160.out)) hb); have n3_ := Aside0.mk (below_step (by repeat (first | (with_reducible first | exact HB.out | apply below_alloc | apply pw_below_drewN | apply below_drew1 | refine below_set ?_ (IsS47.ge HI160.out) | refine below_set ?_ GE152.out) | exact HB.out)) hb); clear BK152; clear HI160; clear HB; have HO170 := n0_; have BK152 := n1_; have HI160 := n2_; have HB := n3_; clear n0_ n1_ n2_ n3_; clear hb ho23))
                go_loopg [9] k1 (fun kq v9 w' => ∃ (x8_2 : List Bool) (x9_2 : Int) (x161000_2 : Int) (x161001_2 : Int) (x161002_2 : Int) (x161003_2 : Int) (x161004_2 : Int), v9 = .int .i64 x9_2 ∧ Aside0 (blackboardlaw19_PatrolRounds.l1 kq (ji19) x8_2 x9_2 a0_0 a0_1 a0_2 a0_3 x161000_2 x161001_2 x161002_2 x161003_2 x161004_2 = some r) ∧ Aside0 (kq ≤ k1) ∧ Aside0 (Kd.R Kd.bool 4 w' w.heap.size (fun _ => True) v169 x8_2) ∧ Aside0 (w'.heap[gb152]? = some (.cells #[.int .i64 a0_0, .int .i64 a0_1, .int .i64 a0_2, .int .i64 a0_3] 23 (0, 0))) ∧ Aside0 (IsS47 w w' g160 x161000_2 x161001_2 x161002_2 x161003_2 x161004_2) ∧ Aside0 (Below w.heap.size w w'))
                case atStart => exact ⟨(y168), (0), (x161000_1), (x161001_1), (x161002_1), (x161003_1), (x161004_1), (by first | rfl | (simp; done) | (simp [*]; done)), H', ⟨Nat.le_refl _⟩, ⟨by (with_reducible repeat (first | apply Kd.R_alloc | apply Kd.R_drewN | apply Kd.R_drew)); exact HO170.out⟩, ⟨by (with_reducible repeat (first | refine blk_drewN ?_ _ | refine blk_drew ?_ | refine blk_alloc ?_ _)); exact BK152.out⟩, ⟨by repeat (first | (with_reducible first | exact HI160.out | apply IsS47.alloc | apply IsS47.drewN | apply IsS47.drew | apply IsS47.set_0 | apply IsS47.set_1 | apply IsS47.set_2 | apply IsS47.set_3 | apply IsS47.set_4 | refine IsS47.far ?_ NB160_152.out _) | exact HI160.out)⟩, ⟨by repeat (first | (with_reducible first | exact HB.out | apply below_alloc | apply pw_below_drewN | apply below_drew1 | refine below_set ?_ (IsS47.ge HI160.out) | refine below_set ?_ GE152.out) | exact HB.out)⟩⟩
                case round =>
                  clear H'
                  try clear c1
                  try clear c2
                  try clear p2
                  try clear c4
                  try clear c6
                  try clear p6
                  try clear c7
                  try clear c8
                  try clear c9
                  try clear c10
                  try clear c14
                  try clear c16
                  try clear c16b0
                  try clear c20
                  try clear c20b0
                  try clear c20b1
                  try clear c21
                  try clear c21b0
                  try clear c21b1
                  try clear hcz10_0
                  try clear hcz10_1
                  try clear hcz10_2
                  try clear hcz10_3
                  try clear hcz12_0
                  try clear hcz12_1
                  try clear hcz12_2
                  try clear hcz12_3
                  try clear hcz15_0
                  try clear hcz15_1
                  try clear hcz15_2
                  try clear hcz15_3
                  try clear hfz10_0
                  try clear hfz10_1
                  try clear hfz10_2
                  try clear hfz10_3
                  try clear hfz12_0
                  try clear hfz12_1
                  try clear hfz12_2
                  try clear hfz12_3
                  try clear hfz15_0
                  try clear hfz15_1
                  try clear hfz15_2
                  try clear hfz15_3
                  try clear p2
                  try clear p6
                  obtain ⟨x8_2, x9_2, x161000_2, x161001_2, x161002_2, x161003_2, x161004_2, rfl, HA, HK2, HO_8, BK152, HI160, HB⟩ := hrel
                  cases gk with
                  | zero => exact absurd HA.out (by simp [blackboardlaw19_PatrolRounds.l1])
                  | succ k2 =>
                    have H := HA.out
                    clear HA
                    simp only [blackboardlaw19_PatrolRounds.l1] at H
                    by_cases c24 : x9_2 < (ji19)
                    · rw [if_pos c24] at H
                      have c24b0 : decide (x9_2 < (ji19)) = true := decide_eq_true c24
                      clear c24
                      replace H := Option.bind_eq_some_iff.mp H
                      obtain ⟨⟨t171, t172, t173, t174, t175, t176, t177⟩, A250, H⟩ := H
                      replace H : (if t171 < 0 then (some false) else (if t171 ≥ a0_0 then (some false) else (if t172 < 0 then (some false) else (if t172 ≥ a0_1 then (some false) else (if 0 ≤ (wrap64 ((wrap64 (t171 * a0_1)) + t172)) then (if (wrap64 ((wrap64 (t171 * a0_1)) + t172)) < (x8_2.length : Int) then (if rdOf false x8_2 (wrap64 ((wrap64 (t171 * a0_1)) + t172)) = true then (some false) else (blackboardlaw19_PatrolRounds.l1 k2 (ji19) (x8_2.set ((wrap64 ((wrap64 (t171 * a0_1)) + t172)) : Int).toNat true) (wrap64 (x9_2 + 1)) a0_0 a0_1 a0_2 a0_3 t173 t174 t175 t176 t177)) else (none)) else (none)))))) = some r := H
                      have A25 := Aside0.mk A250
                      clear A250
                      by_cases c26 : t171 < 0
                      · rw [if_pos c26] at H
                        have c26b0 : decide (t171 < 0) = true := decide_eq_true c26
                        clear c26
                        obtain rfl := Option.some.inj H
                        go_wp2_with (first | ((with_reducible refine gate_callee (f := 10) rfl ?_); refine goesL_ (some 45) rfl rfl Try.func10 (by kernel_rfl) rfl #[.pointer (some ⟨g160, 0, none⟩)] rfl (by (try simp only [List.map_toArray, List.map_cons, List.map_nil]); first | done | rfl | (simp only [List.length_drop, List.length_take]; rfl)) ?_; (with_reducible refine (patrol_Patrol_Next.calls k2 g160 x161000_2 x161001_2 x161002_2 x161003_2 x161004_2 t171 t172 t173 t174 t175 t176 t177 w _ ?side1 ?side2 A25.out).mono ?_); (case side1 => repeat (first | (with_reducible first | exact HI160.out | apply IsS47.alloc | apply IsS47.drewN | apply IsS47.drew | apply IsS47.set_0 | apply IsS47.set_1 | apply IsS47.set_2 | apply IsS47.set_3 | apply IsS47.set_4 | refine IsS47.far ?_ NB160_152.out _) | exact HI160.out)); (case side2 => repeat (first | (with_reducible first | exact HB.out | apply below_alloc | apply pw_below_drewN | apply below_drew1 | refine below_set ?_ (IsS47.ge HI160.out) | refine below_set ?_ GE152.out) | exact HB.out)); rintro e w27 ⟨rfl, hi, hb, hk⟩; refine ⟨_, rfl, ?_⟩; have n0_ := Aside0.mk (Kd.R_mono (Kd.R_keep (IsS47.apart (show IsS47 w _ g160 x161000_2 x161001_2 x161002_2 x161003_2 x161004_2 from by repeat (first | (with_reducible first | exact HI160.out | apply IsS47.alloc | apply IsS47.drewN | apply IsS47.drew | apply IsS47.set_0 | apply IsS47.set_1 | apply IsS47.set_2 | apply IsS47.set_3 | apply IsS47.set_4 | refine IsS47.far ?_ NB160_152.out _) | exact HI160.out)) (by (with_reducible repeat (first | apply Kd.R_alloc | apply Kd.R_drewN | apply Kd.R_drew)); exact HO_8.out) (by decide)) hk (fun _ h => h.2)) (fun _ h => h.1)); have n1_ := Aside0.mk (KeepBut.blk hk (g' := gb152) (o := .cells #[.int .i64 a0_0, .int .i64 a0_1, .int .i64 a0_2, .int .i64 a0_3] 23 (0, 0)) (by (with_reducible repeat (first | refine blk_drewN ?_ _ | refine blk_drew ?_ | refine blk_alloc ?_ _)); exact BK152.out) NB152_160.out (by simp)); have n2_ := Aside0.mk (hb); have n3_ := Aside0.mk (hi); clear HO_8; clear BK152; clear HB; clear HI160; have HO_8 := n0_; have BK152 := n1_; have HB := n2_; have HI160 := n3_; clear n0_ n1_ n2_ n3_; (try clear hb); (try clear hb2); (try clear hk); (try clear hi); have hnb28 := NB152_160.out; have hnc28 := NB160_152.out; have hcz29_0 : w27.cell? ⟨gb152, 0, none⟩ = some (.int .i64 a0_0) := (blk_cell BK152.out 0).trans rfl; have hcz29_1 : w27.cell? ⟨gb152, 1, none⟩ = some (.int .i64 a0_1) := (blk_cell BK152.out 1).trans rfl; have hcz29_2 : w27.cell? ⟨gb152, 2, none⟩ = some (.int .i64 a0_2) := (blk_cell BK152.out 2).trans rfl; have hcz29_3 : w27.cell? ⟨gb152, 3, none⟩ = some (.int .i64 a0_3) := (blk_cell BK152.out 3).trans rfl; have hfz29_0 := blk_frozen BK152.out 0; have hfz29_1 := blk_frozen BK152.out 1; have hfz29_2 := blk_frozen BK152.out 2; have hfz29_3 := blk_frozen BK152.out 3))
                        go_ret
                        exact ⟨by first | rfl | (simp [errW_none, errW_some] <;> rfl) | (simp only [← hji19]; first | rfl | (simp [errW_none, errW_some] <;> rfl)) | (simp [*, errW_none, errW_some] <;> rfl), by repeat (first | (with_reducible first | exact HB.out | apply below_alloc | apply pw_below_drewN | apply below_drew1 | refine below_set ?_ (IsS47.ge HI160.out) | refine below_set ?_ GE152.out) | exact HB.out)⟩
                      · rw [if_neg c26] at H
                        have c26b0 : decide (t171 < 0) = false := decide_eq_false c26
                        clear c26
                        by_cases c30 : t171 ≥ a0_0
                        · rw [if_pos c30] at H
                          have c30b0 : decide (a0_0 ≤ t171) = true := decide_eq_true c30
                          clear c30
                          obtain rfl := Option.some.inj H
                          go_wp2_with (first | ((with_reducible refine gate_callee (f := 10) rfl ?_); refine goesL_ (some 45) rfl rfl Try.func10 (by kernel_rfl) rfl #[.pointer (some ⟨g160, 0, none⟩)] rfl (by (try simp only [List.map_toArray, List.map_cons, List.map_nil]); first | done | rfl | (simp only [List.length_drop, List.length_take]; rfl)) ?_; (with_reducible refine (patrol_Patrol_Next.calls k2 g160 x161000_2 x161001_2 x161002_2 x161003_2 x161004_2 t171 t172 t173 t174 t175 t176 t177 w _ ?side1 ?side2 A25.out).mono ?_); (case side1 => repeat (first | (with_reducible first | exact HI160.out | apply IsS47.alloc | apply IsS47.drewN | apply IsS47.drew | apply IsS47.set_0 | apply IsS47.set_1 | apply IsS47.set_2 | apply IsS47.set_3 | apply IsS47.set_4 | refine IsS47.far ?_ NB160_152.out _) | exact HI160.out)); (case side2 => repeat (first | (with_reducible first | exact HB.out | apply below_alloc | apply pw_below_drewN | apply below_drew1 | refine below_set ?_ (IsS47.ge HI160.out) | refine below_set ?_ GE152.out) | exact HB.out)); rintro e w31 ⟨rfl, hi, hb, hk⟩; refine ⟨_, rfl, ?_⟩; have n0_ := Aside0.mk (Kd.R_mono (Kd.R_keep (IsS47.apart (show IsS47 w _ g160 x161000_2 x161001_2 x161002_2 x161003_2 x161004_2 from by repeat (first | (with_reducible first | exact HI160.out | apply IsS47.alloc | apply IsS47.drewN | apply IsS47.drew | apply IsS47.set_0 | apply IsS47.set_1 | apply IsS47.set_2 | apply IsS47.set_3 | apply IsS47.set_4 | refine IsS47.far ?_ NB160_152.out _) | exact HI160.out)) (by (with_reducible repeat (first | apply Kd.R_alloc | apply Kd.R_drewN | apply Kd.R_drew)); exact HO_8.out) (by decide)) hk (fun _ h => h.2)) (fun _ h => h.1)); have n1_ := Aside0.mk (KeepBut.blk hk (g' := gb152) (o := .cells #[.int .i64 a0_0, .int .i64 a0_1, .int .i64 a0_2, .int .i64 a0_3] 23 (0, 0)) (by (with_reducible repeat (first | refine blk_drewN ?_ _ | refine blk_drew ?_ | refine blk_alloc ?_ _)); exact BK152.out) NB152_160.out (by simp)); have n2_ := Aside0.mk (hb); have n3_ := Aside0.mk (hi); clear HO_8; clear BK152; clear HB; clear HI160; have HO_8 := n0_; have BK152 := n1_; have HB := n2_; have HI160 := n3_; clear n0_ n1_ n2_ n3_; (try clear hb); (try clear hb2); (try clear hk); (try clear hi); have hnb32 := NB152_160.out; have hnc32 := NB160_152.out; have hcz33_0 : w31.cell? ⟨gb152, 0, none⟩ = some (.int .i64 a0_0) := (blk_cell BK152.out 0).trans rfl; have hcz33_1 : w31.cell? ⟨gb152, 1, none⟩ = some (.int .i64 a0_1) := (blk_cell BK152.out 1).trans rfl; have hcz33_2 : w31.cell? ⟨gb152, 2, none⟩ = some (.int .i64 a0_2) := (blk_cell BK152.out 2).trans rfl; have hcz33_3 : w31.cell? ⟨gb152, 3, none⟩ = some (.int .i64 a0_3) := (blk_cell BK152.out 3).trans rfl; have hfz33_0 := blk_frozen BK152.out 0; have hfz33_1 := blk_frozen BK152.out 1; have hfz33_2 := blk_frozen BK152.out 2; have hfz33_3 := blk_frozen BK152.out 3))
                          go_ret
                          exact ⟨by first | rfl | (simp [errW_none, errW_some] <;> rfl) | (simp only [← hji19]; first | rfl | (simp [errW_none, errW_some] <;> rfl)) | (simp [*, errW_none, errW_some] <;> rfl), by repeat (first | (with_reducible first | exact HB.out | apply below_alloc | apply pw_below_drewN | apply below_drew1 | refine below_set ?_ (IsS47.ge HI160.out) | refine below_set ?_ GE152.out) | exact HB.out)⟩
                        · rw [if_neg c30] at H
                          have c30b0 : decide (a0_0 ≤ t171) = false := decide_eq_false c30
                          clear c30
                          by_cases c34 : t172 < 0
                          · rw [if_pos c34] at H
                            have c34b0 : decide (t172 < 0) = true := decide_eq_true c34
                            clear c34
                            obtain rfl := Option.some.inj H
                            go_wp2_with (first | ((with_reducible refine gate_callee (f := 10) rfl ?_); refine goesL_ (some 45) rfl rfl Try.func10 (by kernel_rfl) rfl #[.pointer (some ⟨g160, 0, none⟩)] rfl (by (try simp only [List.map_toArray, List.map_cons, List.map_nil]); first | done | rfl | (simp only [List.length_drop, List.length_take]; rfl)) ?_; (with_reducible refine (patrol_Patrol_Next.calls k2 g160 x161000_2 x161001_2 x161002_2 x161003_2 x161004_2 t171 t172 t173 t174 t175 t176 t177 w _ ?side1 ?side2 A25.out).mono ?_); (case side1 => repeat (first | (with_reducible first | exact HI160.out | apply IsS47.alloc | apply IsS47.drewN | apply IsS47.drew | apply IsS47.set_0 | apply IsS47.set_1 | apply IsS47.set_2 | apply IsS47.set_3 | apply IsS47.set_4 | refine IsS47.far ?_ NB160_152.out _) | exact HI160.out)); (case side2 => repeat (first | (with_reducible first | exact HB.out | apply below_alloc | apply pw_below_drewN | apply below_drew1 | refine below_set ?_ (IsS47.ge HI160.out) | refine below_set ?_ GE152.out) | exact HB.out)); rintro e w35 ⟨rfl, hi, hb, hk⟩; refine ⟨_, rfl, ?_⟩; have n0_ := Aside0.mk (Kd.R_mono (Kd.R_keep (IsS47.apart (show IsS47 w _ g160 x161000_2 x161001_2 x161002_2 x161003_2 x161004_2 from by repeat (first | (with_reducible first | exact HI160.out | apply IsS47.alloc | apply IsS47.drewN | apply IsS47.drew | apply IsS47.set_0 | apply IsS47.set_1 | apply IsS47.set_2 | apply IsS47.set_3 | apply IsS47.set_4 | refine IsS47.far ?_ NB160_152.out _) | exact HI160.out)) (by (with_reducible repeat (first | apply Kd.R_alloc | apply Kd.R_drewN | apply Kd.R_drew)); exact HO_8.out) (by decide)) hk (fun _ h => h.2)) (fun _ h => h.1)); have n1_ := Aside0.mk (KeepBut.blk hk (g' := gb152) (o := .cells #[.int .i64 a0_0, .int .i64 a0_1, .int .i64 a0_2, .int .i64 a0_3] 23 (0, 0)) (by (with_reducible repeat (first | refine blk_drewN ?_ _ | refine blk_drew ?_ | refine blk_alloc ?_ _)); exact BK152.out) NB152_160.out (by simp)); have n2_ := Aside0.mk (hb); have n3_ := Aside0.mk (hi); clear HO_8; clear BK152; clear HB; clear HI160; have HO_8 := n0_; have BK152 := n1_; have HB := n2_; have HI160 := n3_; clear n0_ n1_ n2_ n3_; (try clear hb); (try clear hb2); (try clear hk); (try clear hi); have hnb36 := NB152_160.out; have hnc36 := NB160_152.out; have hcz37_0 : w35.cell? ⟨gb152, 0, none⟩ = some (.int .i64 a0_0) := (blk_cell BK152.out 0).trans rfl; have hcz37_1 : w35.cell? ⟨gb152, 1, none⟩ = some (.int .i64 a0_1) := (blk_cell BK152.out 1).trans rfl; have hcz37_2 : w35.cell? ⟨gb152, 2, none⟩ = some (.int .i64 a0_2) := (blk_cell BK152.out 2).trans rfl; have hcz37_3 : w35.cell? ⟨gb152, 3, none⟩ = some (.int .i64 a0_3) := (blk_cell BK152.out 3).trans rfl; have hfz37_0 := blk_frozen BK152.out 0; have hfz37_1 := blk_frozen BK152.out 1; have hfz37_2 := blk_frozen BK152.out 2; have hfz37_3 := blk_frozen BK152.out 3))
                            go_ret
                            exact ⟨by first | rfl | (simp [errW_none, errW_some] <;> rfl) | (simp only [← hji19]; first | rfl | (simp [errW_none, errW_some] <;> rfl)) | (simp [*, errW_none, errW_some] <;> rfl), by repeat (first | (with_reducible first | exact HB.out | apply below_alloc | apply pw_below_drewN | apply below_drew1 | refine below_set ?_ (IsS47.ge HI160.out) | refine below_set ?_ GE152.out) | exact HB.out)⟩
                          · rw [if_neg c34] at H
                            have c34b0 : decide (t172 < 0) = false := decide_eq_false c34
                            clear c34
                            by_cases c38 : t172 ≥ a0_1
                            · rw [if_pos c38] at H
                              have c38b0 : decide (a0_1 ≤ t172) = true := decide_eq_true c38
                              clear c38
                              obtain rfl := Option.some.inj H
                              go_wp2_with (first | ((with_reducible refine gate_callee (f := 10) rfl ?_); refine goesL_ (some 45) rfl rfl Try.func10 (by kernel_rfl) rfl #[.pointer (some ⟨g160, 0, none⟩)] rfl (by (try simp only [List.map_toArray, List.map_cons, List.map_nil]); first | done | rfl | (simp only [List.length_drop, List.length_take]; rfl)) ?_; (with_reducible refine (patrol_Patrol_Next.calls k2 g160 x161000_2 x161001_2 x161002_2 x161003_2 x161004_2 t171 t172 t173 t174 t175 t176 t177 w _ ?side1 ?side2 A25.out).mono ?_); (case side1 => repeat (first | (with_reducible first | exact HI160.out | apply IsS47.alloc | apply IsS47.drewN | apply IsS47.drew | apply IsS47.set_0 | apply IsS47.set_1 | apply IsS47.set_2 | apply IsS47.set_3 | apply IsS47.set_4 | refine IsS47.far ?_ NB160_152.out _) | exact HI160.out)); (case side2 => repeat (first | (with_reducible first | exact HB.out | apply below_alloc | apply pw_below_drewN | apply below_drew1 | refine below_set ?_ (IsS47.ge HI160.out) | refine below_set ?_ GE152.out) | exact HB.out)); rintro e w39 ⟨rfl, hi, hb, hk⟩; refine ⟨_, rfl, ?_⟩; have n0_ := Aside0.mk (Kd.R_mono (Kd.R_keep (IsS47.apart (show IsS47 w _ g160 x161000_2 x161001_2 x161002_2 x161003_2 x161004_2 from by repeat (first | (with_reducible first | exact HI160.out | apply IsS47.alloc | apply IsS47.drewN | apply IsS47.drew | apply IsS47.set_0 | apply IsS47.set_1 | apply IsS47.set_2 | apply IsS47.set_3 | apply IsS47.set_4 | refine IsS47.far ?_ NB160_152.out _) | exact HI160.out)) (by (with_reducible repeat (first | apply Kd.R_alloc | apply Kd.R_drewN | apply Kd.R_drew)); exact HO_8.out) (by decide)) hk (fun _ h => h.2)) (fun _ h => h.1)); have n1_ := Aside0.mk (KeepBut.blk hk (g' := gb152) (o := .cells #[.int .i64 a0_0, .int .i64 a0_1, .int .i64 a0_2, .int .i64 a0_3] 23 (0, 0)) (by (with_reducible repeat (first | refine blk_drewN ?_ _ | refine blk_drew ?_ | refine blk_alloc ?_ _)); exact BK152.out) NB152_160.out (by simp)); have n2_ := Aside0.mk (hb); have n3_ := Aside0.mk (hi); clear HO_8; clear BK152; clear HB; clear HI160; have HO_8 := n0_; have BK152 := n1_; have HB := n2_; have HI160 := n3_; clear n0_ n1_ n2_ n3_; (try clear hb); (try clear hb2); (try clear hk); (try clear hi); have hnb40 := NB152_160.out; have hnc40 := NB160_152.out; have hcz41_0 : w39.cell? ⟨gb152, 0, none⟩ = some (.int .i64 a0_0) := (blk_cell BK152.out 0).trans rfl; have hcz41_1 : w39.cell? ⟨gb152, 1, none⟩ = some (.int .i64 a0_1) := (blk_cell BK152.out 1).trans rfl; have hcz41_2 : w39.cell? ⟨gb152, 2, none⟩ = some (.int .i64 a0_2) := (blk_cell BK152.out 2).trans rfl; have hcz41_3 : w39.cell? ⟨gb152, 3, none⟩ = some (.int .i64 a0_3) := (blk_cell BK152.out 3).trans rfl; have hfz41_0 := blk_frozen BK152.out 0; have hfz41_1 := blk_frozen BK152.out 1; have hfz41_2 := blk_frozen BK152.out 2; have hfz41_3 := blk_frozen BK152.out 3))
                              go_ret
                              exact ⟨by first | rfl | (simp [errW_none, errW_some] <;> rfl) | (simp only [← hji19]; first | rfl | (simp [errW_none, errW_some] <;> rfl)) | (simp [*, errW_none, errW_some] <;> rfl), by repeat (first | (with_reducible first | exact HB.out | apply below_alloc | apply pw_below_drewN | apply below_drew1 | refine below_set ?_ (IsS47.ge HI160.out) | refine below_set ?_ GE152.out) | exact HB.out)⟩
                            · rw [if_neg c38] at H
                              have c38b0 : decide (a0_1 ≤ t172) = false := decide_eq_false c38
                              clear c38
                              obtain ⟨ji42, hji42⟩ : ∃ j_ : Int, (wrap64 ((wrap64 (t171 * a0_1)) + t172)) = j_ := ⟨_, rfl⟩
                              replace H : (if 0 ≤ (ji42) then (if (ji42) < (x8_2.length : Int) then (if rdOf false x8_2 (ji42) = true then (some false) else (blackboardlaw19_PatrolRounds.l1 k2 (ji19) (x8_2.set ((ji42) : Int).toNat true) (wrap64 (x9_2 + 1)) a0_0 a0_1 a0_2 a0_3 t173 t174 t175 t176 t177)) else (none)) else (none)) = some r := by first | (rw [hji42] at H; exact H) | (simp only [hji42] at H ⊢; exact H)
                              (try rw [hji42] at A25)
                              have hji42w : (IntKind.i64.wrap ((wrap64 (t171 * a0_1)) + t172)) = ji42 := (i64_w _).trans hji42
                              by_cases c43 : 0 ≤ (ji42)
                              · rw [if_pos c43] at H
                                have c43b0 : decide (0 ≤ (ji42)) = true := decide_eq_true c43
                                clear c43
                                by_cases c44 : (ji42) < (x8_2.length : Int)
                                · rw [if_pos c44] at H
                                  have c44b0 : decide ((ji42) < (x8_2.length : Int)) = true := decide_eq_true c44
                                  clear c44
                                  obtain ⟨bq45, hbq45⟩ : ∃ b_ : Bool, b_ = (rdOf false x8_2 (ji42)) := ⟨_, rfl⟩
                                  replace H : (if bq45 = true then (some false) else (blackboardlaw19_PatrolRounds.l1 k2 (ji19) (x8_2.set ((ji42) : Int).toNat true) (wrap64 (x9_2 + 1)) a0_0 a0_1 a0_2 a0_3 t173 t174 t175 t176 t177)) = some r := by rw [← hbq45] at H; exact H
                                  have Nbq45 := Aside0.mk hbq45
                                  clear hbq45
                                  by_cases c46 : bq45 = true
                                  · subst c46
                                    have H1 : (some false) = some r := by rw [if_pos rfl] at H; exact H
                                    clear H
                                    have H := H1
                                    clear H1
                                    obtain rfl := Option.some.inj H
                                    go_wp2_with (first | ((with_reducible refine gate_callee (f := 10) rfl ?_); refine goesL_ (some 45) rfl rfl Try.func10 (by kernel_rfl) rfl #[.pointer (some ⟨g160, 0, none⟩)] rfl (by (try simp only [List.map_toArray, List.map_cons, List.map_nil]); first | done | rfl | (simp only [List.length_drop, List.length_take]; rfl)) ?_; (with_reducible refine (patrol_Patrol_Next.calls k2 g160 x161000_2 x161001_2 x161002_2 x161003_2 x161004_2 t171 t172 t173 t174 t175 t176 t177 w _ ?side1 ?side2 A25.out).mono ?_); (case side1 => repeat (first | (with_reducible first | exact HI160.out | apply IsS47.alloc | apply IsS47.drewN | apply IsS47.drew | apply IsS47.set_0 | apply IsS47.set_1 | apply IsS47.set_2 | apply IsS47.set_3 | apply IsS47.set_4 | refine IsS47.far ?_ NB160_152.out _) | exact HI160.out)); (case side2 => repeat (first | (with_reducible first | exact HB.out | apply below_alloc | apply pw_below_drewN | apply below_drew1 | refine below_set ?_ (IsS47.ge HI160.out) | refine below_set ?_ GE152.out) | exact HB.out)); rintro e w47 ⟨rfl, hi, hb, hk⟩; refine ⟨_, rfl, ?_⟩; have n0_ := Aside0.mk (Kd.R_mono (Kd.R_keep (IsS47.apart (show IsS47 w _ g160 x161000_2 x161001_2 x161002_2 x161003_2 x161004_2 from by repeat (first | (with_reducible first | exact HI160.out | apply IsS47.alloc | apply IsS47.drewN | apply IsS47.drew | apply IsS47.set_0 | apply IsS47.set_1 | apply IsS47.set_2 | apply IsS47.set_3 | apply IsS47.set_4 | refine IsS47.far ?_ NB160_152.out _) | exact HI160.out)) (by (with_reducible repeat (first | apply Kd.R_alloc | apply Kd.R_drewN | apply Kd.R_drew)); exact HO_8.out) (by decide)) hk (fun _ h => h.2)) (fun _ h => h.1)); have n1_ := Aside0.mk (KeepBut.blk hk (g' := gb152) (o := .cells #[.int .i64 a0_0, .int .i64 a0_1, .int .i64 a0_2, .int .i64 a0_3] 23 (0, 0)) (by (with_reducible repeat (first | refine blk_drewN ?_ _ | refine blk_drew ?_ | refine blk_alloc ?_ _)); exact BK152.out) NB152_160.out (by simp)); have n2_ := Aside0.mk (hb); have n3_ := Aside0.mk (hi); clear HO_8; clear BK152; clear HB; clear HI160; have HO_8 := n0_; have BK152 := n1_; have HB := n2_; have HI160 := n3_; clear n0_ n1_ n2_ n3_; (try clear hb); (try clear hb2); (try clear hk); (try clear hi); have hnb48 := NB152_160.out; have hnc48 := NB160_152.out; have hcz49_0 : w47.cell? ⟨gb152, 0, none⟩ = some (.int .i64 a0_0) := (blk_cell BK152.out 0).trans rfl; have hcz49_1 : w47.cell? ⟨gb152, 1, none⟩ = some (.int .i64 a0_1) := (blk_cell BK152.out 1).trans rfl; have hcz49_2 : w47.cell? ⟨gb152, 2, none⟩ = some (.int .i64 a0_2) := (blk_cell BK152.out 2).trans rfl; have hcz49_3 : w47.cell? ⟨gb152, 3, none⟩ = some (.int .i64 a0_3) := (blk_cell BK152.out 3).trans rfl; have hfz49_0 := blk_frozen BK152.out 0; have hfz49_1 := blk_frozen BK152.out 1; have hfz49_2 := blk_frozen BK152.out 2; have hfz49_3 := blk_frozen BK152.out 3; obtain ⟨Ao50, co50, eo50⟩ := Kd.R_slice HO_8.out; subst eo50; have p178 : 0 ≤ ((ji42) : Int) := of_decide_eq_true (by first | (with_reducible assumption) | assumption); have q178 : (ji42) < (x8_2.length : Int) := of_decide_eq_true (by first | (with_reducible assumption) | assumption); obtain ⟨ad178, e178, hx178_0⟩ := Kd.at_bool (Kd.R_reads' HO_8.out).2.2 (ji42) p178 q178; (try rw [← Nbq45.out] at hx178_0); cases e178; replace p178 := eq_true p178; replace q178 := eq_true q178))
                                    go_ret
                                    exact ⟨by first | rfl | (simp [errW_none, errW_some] <;> rfl) | (simp only [← hji19, ← hji42]; first | rfl | (simp [errW_none, errW_some] <;> rfl)) | (simp [*, errW_none, errW_some] <;> rfl), by repeat (first | (with_reducible first | exact HB.out | apply below_alloc | apply pw_below_drewN | apply below_drew1 | refine below_set ?_ (IsS47.ge HI160.out) | refine below_set ?_ GE152.out) | exact HB.out)⟩
                                  · replace c46 := Bool.eq_false_iff.mpr c46
                                    subst c46
                                    have H1 : (blackboardlaw19_PatrolRounds.l1 k2 (ji19) (x8_2.set ((ji42) : Int).toNat true) (wrap64 (x9_2 + 1)) a0_0 a0_1 a0_2 a0_3 t173 t174 t175 t176 t177) = some r := by rw [if_neg (show ¬ (false = true) by decide)] at H; exact H
                                    clear H
                                    have H := H1
                                    clear H1
                                    obtain ⟨y179, hy179⟩ : ∃ y_ : List Bool, y_ = (x8_2.set ((ji42) : Int).toNat true) := ⟨_, rfl⟩
                                    replace H : (blackboardlaw19_PatrolRounds.l1 k2 (ji19) y179 (wrap64 (x9_2 + 1)) a0_0 a0_1 a0_2 a0_3 t173 t174 t175 t176 t177) = some r := by first | (rw [hy179]; with_reducible exact H) | (have H2_ := (Option.bind_some _ _).symm.trans H; rw [hy179]; with_reducible exact H2_) | (have H2_ := (Option.bind_some _ _).symm.trans H; with_reducible exact H2_) | with_reducible exact H | (rw [hy179]; exact H) | exact H
                                    have Ny179 := Aside0.mk hy179
                                    clear hy179
                                    have H' := Aside0.mk H
                                    clear H
                                    go_wp2_with (first | ((with_reducible refine gate_callee (f := 10) rfl ?_); refine goesL_ (some 45) rfl rfl Try.func10 (by kernel_rfl) rfl #[.pointer (some ⟨g160, 0, none⟩)] rfl (by (try simp only [List.map_toArray, List.map_cons, List.map_nil]); first | done | rfl | (simp only [List.length_drop, List.length_take]; rfl)) ?_; (with_reducible refine (patrol_Patrol_Next.calls k2 g160 x161000_2 x161001_2 x161002_2 x161003_2 x161004_2 t171 t172 t173 t174 t175 t176 t177 w _ ?side1 ?side2 A25.out).mono ?_); (case side1 => repeat (first | (with_reducible first | exact HI160.out | apply IsS47.alloc | apply IsS47.drewN | apply IsS47.drew | apply IsS47.set_0 | apply IsS47.set_1 | apply IsS47.set_2 | apply IsS47.set_3 | apply IsS47.set_4 | refine IsS47.far ?_ NB160_152.out _) | exact HI160.out)); (case side2 => repeat (first | (with_reducible first | exact HB.out | apply below_alloc | apply pw_below_drewN | apply below_drew1 | refine below_set ?_ (IsS47.ge HI160.out) | refine below_set ?_ GE152.out) | exact HB.out)); rintro e w52 ⟨rfl, hi, hb, hk⟩; refine ⟨_, rfl, ?_⟩; have n0_ := Aside0.mk (Kd.R_mono (Kd.R_keep (IsS47.apart (show IsS47 w _ g160 x161000_2 x161001_2 x161002_2 x161003_2 x161004_2 from by repeat (first | (with_reducible first | exact HI160.out | apply IsS47.alloc | apply IsS47.drewN | apply IsS47.drew | apply IsS47.set_0 | apply IsS47.set_1 | apply IsS47.set_2 | apply IsS47.set_3 | apply IsS47.set_4 | refine IsS47.far ?_ NB160_152.out _) | exact HI160.out)) (by (with_reducible repeat (first | apply Kd.R_alloc | apply Kd.R_drewN | apply Kd.R_drew)); exact HO_8.out) (by decide)) hk (fun _ h => h.2)) (fun _ h => h.1)); have n1_ := Aside0.mk (KeepBut.blk hk (g' := gb152) (o := .cells #[.int .i64 a0_0, .int .i64 a0_1, .int .i64 a0_2, .int .i64 a0_3] 23 (0, 0)) (by (with_reducible repeat (first | refine blk_drewN ?_ _ | refine blk_drew ?_ | refine blk_alloc ?_ _)); exact BK152.out) NB152_160.out (by simp)); have n2_ := Aside0.mk (hb); have n3_ := Aside0.mk (hi); clear HO_8; clear BK152; clear HB; clear HI160; have HO_8 := n0_; have BK152 := n1_; have HB := n2_; have HI160 := n3_; clear n0_ n1_ n2_ n3_; (try clear hb); (try clear hb2); (try clear hk); (try clear hi); have hnb53 := NB152_160.out; have hnc53 := NB160_152.out; have hcz54_0 : w52.cell? ⟨gb152, 0, none⟩ = some (.int .i64 a0_0) := (blk_cell BK152.out 0).trans rfl; have hcz54_1 : w52.cell? ⟨gb152, 1, none⟩ = some (.int .i64 a0_1) := (blk_cell BK152.out 1).trans rfl; have hcz54_2 : w52.cell? ⟨gb152, 2, none⟩ = some (.int .i64 a0_2) := (blk_cell BK152.out 2).trans rfl; have hcz54_3 : w52.cell? ⟨gb152, 3, none⟩ = some (.int .i64 a0_3) := (blk_cell BK152.out 3).trans rfl; have hfz54_0 := blk_frozen BK152.out 0; have hfz54_1 := blk_frozen BK152.out 1; have hfz54_2 := blk_frozen BK152.out 2; have hfz54_3 := blk_frozen BK152.out 3; obtain ⟨Ao55, co55, eo55⟩ := Kd.R_slice HO_8.out; subst eo55; have p178 : 0 ≤ ((ji42) : Int) := of_decide_eq_true (by first | (with_reducible assumption) | assumption); have q178 : (ji42) < (x8_2.length : Int) := of_decide_eq_true (by first | (with_reducible assumption) | assumption); obtain ⟨ad178, e178, hx178_0⟩ := Kd.at_bool (Kd.R_reads' HO_8.out).2.2 (ji42) p178 q178; (try rw [← Nbq45.out] at hx178_0); cases e178; replace p178 := eq_true p178; replace q178 := eq_true q178; have p51 : 0 ≤ ((ji42) : Int) := of_decide_eq_true (by first | (with_reducible assumption) | assumption); have q51 : ((ji42) : Int) < ((x8_2.length : Int) : Int) := of_decide_eq_true (by first | (with_reducible assumption) | assumption); obtain ⟨go51, co51, eo51, gb51, gl51, cl51, HG51⟩ := Kd.R_form HO_8.out (by omega); (first | cases eo51 | (injection eo51 with ea_ en_ ec_; (first | subst ea_ | (injection ea_ with ea_; subst ea_)); subst ec_; clear en_)); have GB51 := Aside0.mk gb51; have GG51 := Aside0.mk HG51; clear gb51 gl51 HG51; (first | simp only [add_plain] at hx178_0 | skip); obtain ⟨hx51_0, hf51_0⟩ := Kd.R_celln false HO_8.out ((ji42) : Int) p51 q51; replace p51 := eq_true p51; replace q51 := eq_true q51; obtain ⟨hy56_, hz56_⟩ := Kd.R_celln false HO_8.out ((ji42) : Int) (of_decide_eq_true (by first | (with_reducible assumption) | assumption)) (of_decide_eq_true (by first | (with_reducible assumption) | assumption)); have HP56 := Kd.R_putg HO_8.out ((ji42) : Int) true) | ((with_reducible refine gate_store (t := 4) (p := 80) rfl ?_); refine store_event (t := 4) (p := 80) (v := ?vo_w57) (w1 := (w52.setCell ⟨go51, ((ji42) : Int).toNat, none⟩ (.bool true))) ?hg ?ho ?hn ?hr ?_; (case ho => rfl); (case hg => rfl); (case hn => rfl); (case hr => first | (go_simp; done) | (go_simp; rfl)); intro w57 hw; have hg : w52.grownBy w57 (some go51) := (by rw [hw]; exact HP56.2); have hp_ : Kd.R Kd.bool 4 w57 w.heap.size (fun _ => True) (.slice (some ⟨go51, 0, none⟩) x8_2.length co55) y179 := (by rw [hw, Ny179.out]; exact HP56.1); clear HP56; have n0_ := Aside0.mk (hp_); have n1_ := Aside0.mk (blk_grown (g := gb152) (o := .cells #[.int .i64 a0_0, .int .i64 a0_1, .int .i64 a0_2, .int .i64 a0_3] 23 (0, 0)) (by (with_reducible repeat (first | refine blk_drewN ?_ _ | refine blk_drew ?_ | refine blk_alloc ?_ _)); exact BK152.out) hg (Kd.R_ne HO_8.out BK152.out (by decide))); have n2_ := Aside0.mk (IsS47.grown (by repeat (first | (with_reducible first | exact HI160.out | apply IsS47.alloc | apply IsS47.drewN | apply IsS47.drew | apply IsS47.set_0 | apply IsS47.set_1 | apply IsS47.set_2 | apply IsS47.set_3 | apply IsS47.set_4 | refine IsS47.far ?_ NB160_152.out _) | exact HI160.out)) hg (IsS47.own_ne HI160.out HO_8.out (by decide))); have n3_ := Aside0.mk ((by rw [hw]; exact below_set (HB.out) GB51.out : Below w.heap.size w w57)); clear HO_8; clear BK152; clear HI160; clear HB; have HO_8 := n0_; have BK152 := n1_; have HI160 := n2_; have HB := n3_; clear n0_ n1_ n2_ n3_; clear hg hw hp_))
                                    go_roundg k2
                                    case measure => have := HK1.out; have := HK2.out; omega
                                    case rel => exact ⟨(y179), (wrap64 (x9_2 + 1)), (t173), (t174), (t175), (t176), (t177), (by first | rfl | (simp; done) | (simp [*]; done)), H', ⟨by have := HK1.out; have := HK2.out; omega⟩, ⟨by (with_reducible repeat (first | apply Kd.R_alloc | apply Kd.R_drewN | apply Kd.R_drew)); exact HO_8.out⟩, ⟨by (with_reducible repeat (first | refine blk_drewN ?_ _ | refine blk_drew ?_ | refine blk_alloc ?_ _)); exact BK152.out⟩, ⟨by repeat (first | (with_reducible first | exact HI160.out | apply IsS47.alloc | apply IsS47.drewN | apply IsS47.drew | apply IsS47.set_0 | apply IsS47.set_1 | apply IsS47.set_2 | apply IsS47.set_3 | apply IsS47.set_4 | refine IsS47.far ?_ NB160_152.out _) | exact HI160.out)⟩, ⟨by repeat (first | (with_reducible first | exact HB.out | apply below_alloc | apply pw_below_drewN | apply below_drew1 | refine below_set ?_ (IsS47.ge HI160.out) | refine below_set ?_ GE152.out) | exact HB.out)⟩⟩
                                · rw [if_neg c44] at H
                                  exact absurd H (by simp)
                              · rw [if_neg c43] at H
                                exact absurd H (by simp)
                    · rw [if_neg c24] at H
                      have c24b0 : decide (x9_2 < (ji19)) = false := decide_eq_false c24
                      clear c24
                      obtain rfl := Option.some.inj H
                      go_wp2
                      go_ret
                      exact ⟨by first | rfl | (simp [errW_none, errW_some] <;> rfl) | (simp only [← hji19]; first | rfl | (simp [errW_none, errW_some] <;> rfl)) | (simp [*, errW_none, errW_some] <;> rfl), by repeat (first | (with_reducible first | exact HB.out | apply below_alloc | apply pw_below_drewN | apply below_drew1 | refine below_set ?_ (IsS47.ge HI160.out) | refine below_set ?_ GE152.out) | exact HB.out)⟩
              · rw [if_neg c21] at H
                exact absurd H (by simp)
            · rw [if_neg c20] at H
              exact absurd H (by simp)
    · replace c6 := Bool.eq_false_iff.mpr c6
      subst c6
      have H1 : (some true) = some r := by rw [if_neg (show ¬ (false = true) by decide)] at H; exact H
      clear H
      have H := H1
      clear H1
      obtain rfl := Option.some.inj H
      go_enter Try.func4, Try.ntmps4
      go_wp2_with (first | ((with_reducible refine gate_dst (N := 2) rfl ?_); refine box_event ?hg (N := 2) ?hd (cs := #[.int .i64 a0_0, .int .i64 a0_1, .int .i64 a0_2, .int .i64 a0_3]) (t := 23) ?hr ?_; (case hd => rfl); (case hg => rfl); (case hr => first | (go_simp; done) | (go_simp; rfl)); intro gb152 hg w58 hbox hb; have n0_ := Aside0.mk (below_step (by repeat (first | (with_reducible first | exact HB.out | apply below_alloc | apply pw_below_drewN | apply below_drew1) | exact HB.out)) hb); have n1_ := Aside0.mk (hbox); have n2_ := Aside0.mk ((by rw [hg]; exact (below_size (by repeat (first | (with_reducible first | exact HB.out | apply below_alloc | apply pw_below_drewN | apply below_drew1) | exact HB.out))) : w.heap.size ≤ gb152)); have n3_ := Aside0.mk ((by rw [hg]; exact (below_size (by repeat (first | (with_reducible first | exact HB.out | apply below_alloc | apply pw_below_drewN | apply below_drew1) | exact HB.out))) : w.heap.size ≤ gb152)); clear HB; have HB := n0_; have BK152 := n1_; have GW152 := n2_; have GE152 := n3_; clear n0_ n1_ n2_ n3_; clear hb hbox hg) | ((with_reducible refine gate_callee (f := 7) rfl ?_); refine goesL_ (some 13) rfl rfl Try.func7 (by kernel_rfl) rfl #[] rfl (by (try simp only [List.map_toArray, List.map_cons, List.map_nil]); first | done | rfl | (simp only [List.length_drop, List.length_take]; rfl)) ?_; (with_reducible refine (blackboardlaw19_awake.calls k  true _ A3.out).mono ?_); rintro e w59 ⟨rfl, hb⟩; refine ⟨_, rfl, ?_⟩; have n0_ := Aside0.mk (blk_below (g := gb152) (o := .cells #[.int .i64 a0_0, .int .i64 a0_1, .int .i64 a0_2, .int .i64 a0_3] 23 (0, 0)) (by (with_reducible repeat (first | refine blk_drewN ?_ _ | refine blk_drew ?_ | refine blk_alloc ?_ _)); exact BK152.out) hb); have n1_ := Aside0.mk (below_step (by repeat (first | (with_reducible first | exact HB.out | apply below_alloc | apply pw_below_drewN | apply below_drew1 | refine below_set ?_ GE152.out) | exact HB.out)) hb); clear BK152; clear HB; have BK152 := n0_; have HB := n1_; clear n0_ n1_; (try clear hb); (try clear hb2); (try clear hk); (try clear hi); have hcz60_0 : w59.cell? ⟨gb152, 0, none⟩ = some (.int .i64 a0_0) := (blk_cell BK152.out 0).trans rfl; have hcz60_1 : w59.cell? ⟨gb152, 1, none⟩ = some (.int .i64 a0_1) := (blk_cell BK152.out 1).trans rfl; have hcz60_2 : w59.cell? ⟨gb152, 2, none⟩ = some (.int .i64 a0_2) := (blk_cell BK152.out 2).trans rfl; have hcz60_3 : w59.cell? ⟨gb152, 3, none⟩ = some (.int .i64 a0_3) := (blk_cell BK152.out 3).trans rfl; have hfz60_0 := blk_frozen BK152.out 0; have hfz60_1 := blk_frozen BK152.out 1; have hfz60_2 := blk_frozen BK152.out 2; have hfz60_3 := blk_frozen BK152.out 3) | ((with_reducible refine gate_callee (f := 9) rfl ?_); refine goesL_ (some 16) rfl rfl Try.func9 (by kernel_rfl) rfl #[.agg #[.int .i64 a0_0, .int .i64 a0_1, .int .i64 a0_2, .int .i64 a0_3]] rfl (by (try simp only [List.map_toArray, List.map_cons, List.map_nil]); first | done | rfl | (simp only [List.length_drop, List.length_take]; rfl)) ?_; (with_reducible refine (blackboardref1_GeoMay.calls a0_0 a0_1 a0_2 a0_3 false _ A5.out).mono ?_); rintro e w61 ⟨rfl, hb⟩; refine ⟨_, rfl, ?_⟩; have n0_ := Aside0.mk (blk_below (g := gb152) (o := .cells #[.int .i64 a0_0, .int .i64 a0_1, .int .i64 a0_2, .int .i64 a0_3] 23 (0, 0)) (by (with_reducible repeat (first | refine blk_drewN ?_ _ | refine blk_drew ?_ | refine blk_alloc ?_ _)); exact BK152.out) hb); have n1_ := Aside0.mk (below_step (by repeat (first | (with_reducible first | exact HB.out | apply below_alloc | apply pw_below_drewN | apply below_drew1 | refine below_set ?_ GE152.out) | exact HB.out)) hb); clear BK152; clear HB; have BK152 := n0_; have HB := n1_; clear n0_ n1_; (try clear hb); (try clear hb2); (try clear hk); (try clear hi)))
      go_ret
      exact ⟨by first | rfl | (simp [errW_none, errW_some] <;> rfl) | (simp [*, errW_none, errW_some] <;> rfl), by repeat (first | (with_reducible first | exact HB.out | apply below_alloc | apply pw_below_drewN | apply below_drew1 | refine below_set ?_ GE152.out) | exact HB.out)⟩
  · replace c4 := Bool.eq_false_iff.mpr c4
    subst c4
    have H1 : (some false) = some r := by rw [if_neg (show ¬ (false = true) by decide)] at H; exact H
    clear H
    have H := H1
    clear H1
    obtain rfl := Option.some.inj H
    go_enter Try.func4, Try.ntmps4
    go_wp2_with (first | ((with_reducible refine gate_dst (N := 2) rfl ?_); refine box_event ?hg (N := 2) ?hd (cs := #[.int .i64 a0_0, .int .i64 a0_1, .int .i64 a0_2, .int .i64 a0_3]) (t := 23) ?hr ?_; (case hd => rfl); (case hg => rfl); (case hr => first | (go_simp; done) | (go_simp; rfl)); intro gb152 hg w62 hbox hb; have n0_ := Aside0.mk (below_step (by repeat (first | (with_reducible first | exact HB.out | apply below_alloc | apply pw_below_drewN | apply below_drew1) | exact HB.out)) hb); have n1_ := Aside0.mk (hbox); have n2_ := Aside0.mk ((by rw [hg]; exact (below_size (by repeat (first | (with_reducible first | exact HB.out | apply below_alloc | apply pw_below_drewN | apply below_drew1) | exact HB.out))) : w.heap.size ≤ gb152)); have n3_ := Aside0.mk ((by rw [hg]; exact (below_size (by repeat (first | (with_reducible first | exact HB.out | apply below_alloc | apply pw_below_drewN | apply below_drew1) | exact HB.out))) : w.heap.size ≤ gb152)); clear HB; have HB := n0_; have BK152 := n1_; have GW152 := n2_; have GE152 := n3_; clear n0_ n1_ n2_ n3_; clear hb hbox hg) | ((with_reducible refine gate_callee (f := 7) rfl ?_); refine goesL_ (some 13) rfl rfl Try.func7 (by kernel_rfl) rfl #[] rfl (by (try simp only [List.map_toArray, List.map_cons, List.map_nil]); first | done | rfl | (simp only [List.length_drop, List.length_take]; rfl)) ?_; (with_reducible refine (blackboardlaw19_awake.calls k  false _ A3.out).mono ?_); rintro e w63 ⟨rfl, hb⟩; refine ⟨_, rfl, ?_⟩; have n0_ := Aside0.mk (blk_below (g := gb152) (o := .cells #[.int .i64 a0_0, .int .i64 a0_1, .int .i64 a0_2, .int .i64 a0_3] 23 (0, 0)) (by (with_reducible repeat (first | refine blk_drewN ?_ _ | refine blk_drew ?_ | refine blk_alloc ?_ _)); exact BK152.out) hb); have n1_ := Aside0.mk (below_step (by repeat (first | (with_reducible first | exact HB.out | apply below_alloc | apply pw_below_drewN | apply below_drew1 | refine below_set ?_ GE152.out) | exact HB.out)) hb); clear BK152; clear HB; have BK152 := n0_; have HB := n1_; clear n0_ n1_; (try clear hb); (try clear hb2); (try clear hk); (try clear hi)))
    go_ret
    exact ⟨by first | rfl | (simp [errW_none, errW_some] <;> rfl) | (simp [*, errW_none, errW_some] <;> rfl), by repeat (first | (with_reducible first | exact HB.out | apply below_alloc | apply pw_below_drewN | apply below_drew1 | refine below_set ?_ GE152.out) | exact HB.out)⟩

end Go.Proofs.Ytmdpfpfnchfocaa.M
