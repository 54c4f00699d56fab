/- Printed for this seat by a program of this session (over the kit's print), with contracts of its own laid in. -/
import Derived.Test.YtghjenmocndlgaaMx0
import Derived.Test.YtghjenmocndlgaaMx3
import Derived.Test.YtghjenmocndlgaaMx6
namespace Go.Proofs.Ytghjenmocndlgaa.M
open Go.RowKit Go.Proofs.YtghjenmocndlgaaW.PrintWords Go.Proofs.YtghjenmocndlgaaW.PrintLast Go.Proofs.YtghjenmocndlgaaW.PrintMore
attribute [local go_sem] max2_int min2_int max_two min_two max_three min_three max_four min_four   -- for this text's walks alone
set_option linter.unusedVariables false
set_option linter.unusedSimpArgs false

/-! ### blackboardlaw6_WeavePlaces: function 6 -/
mutual
def blackboardlaw6_WeavePlaces.j0 : Nat → List Int → Int → Int → Bool → Option (Bool)
  | 0, _, _, _, _ => none
  | k + 1, x1, x2, x7, x32 => if x32 = true then (some true) else (if x7 = 0 then (none) else (if 0 ≤ (wrap64 ((wrap64 ((x1.length : Int) / x7)) * x7)) then (if (wrap64 ((wrap64 ((x1.length : Int) / x7)) * x7)) ≤ (x1.length : Int) then (if ((x1.take ((wrap64 ((wrap64 ((x1.length : Int) / x7)) * x7)) : Int).toNat).length : Int) = 0 then (some true) else ((weave_In.f k x7 (x1.take ((wrap64 ((wrap64 ((x1.length : Int) / x7)) * x7)) : Int).toNat)).bind fun bt266 => ((some (([] : List Int) : List Int)).bind fun y270 => (if y270.length + (x1.take ((wrap64 ((wrap64 ((x1.length : Int) / x7)) * x7)) : Int).toNat).length < 70368744177664 then (blackboardlaw6_WeavePlaces.l0 k (x1.take ((wrap64 ((wrap64 ((x1.length : Int) / x7)) * x7)) : Int).toNat) x7 bt266.1 bt266.2 (y270 ++ (x1.take ((wrap64 ((wrap64 ((x1.length : Int) / x7)) * x7)) : Int).toNat)) (Int.tmod (wrap64 (x2)) ((x1.take ((wrap64 ((wrap64 ((x1.length : Int) / x7)) * x7)) : Int).toNat).length : Int)) (Int.tmod (wrap64 (x2)) ((x1.take ((wrap64 ((wrap64 ((x1.length : Int) / x7)) * x7)) : Int).toNat).length : Int))) else (none))))) else (none)) else (none)))
def blackboardlaw6_WeavePlaces.l0 : Nat → List Int → Int → List (List Int) → Int → List Int → Int → Int → Option (Bool)
  | 0, _, _, _, _, _, _, _ => none
  | k + 1, x1, x7, x8, x9, x10, x11, x12 => if x12 < (x1.length : Int) then (if 0 ≤ x12 then (if x12 < (x10.length : Int) then (blackboardlaw6_WeavePlaces.l0 k x1 x7 x8 x9 (x10.set (x12 : Int).toNat (Go.bits .xor .u16 (rd x10 x12) 1)) x11 (wrap64 (x12 + 1))) else (none)) else (none)) else ((weave_In.f k x7 x10).bind fun bt278 => (if x9 = 0 then (if bt278.2 = 0 then (if (x8.length : Int) = x7 then (blackboardlaw6_WeavePlaces.j2 k x1 x7 x8 x11 bt278.1 ((bt278.1.length : Int) != x7)) else (blackboardlaw6_WeavePlaces.j2 k x1 x7 x8 x11 bt278.1 true)) else (blackboardlaw6_WeavePlaces.j2 k x1 x7 x8 x11 bt278.1 true)) else (blackboardlaw6_WeavePlaces.j2 k x1 x7 x8 x11 bt278.1 true)))
def blackboardlaw6_WeavePlaces.j2 : Nat → List Int → Int → List (List Int) → Int → List (List Int) → Bool → Option (Bool)
  | 0, _, _, _, _, _, _ => none
  | k + 1, x1, x7, x8, x11, x13, x94 => if x94 = true then (some false) else ((weave_Burst.f x7 x11 (wrap64 ((x1.length : Int) - x11))).bind fun t282 => (blackboardlaw6_WeavePlaces.l1 k x1 x7 x8 x13 t282 0))
def blackboardlaw6_WeavePlaces.l1 : Nat → List Int → Int → List (List Int) → List (List Int) → Int → Int → Option (Bool)
  | 0, _, _, _, _, _, _ => none
  | k + 1, x1, x7, x8, x13, x15, x16 => if x16 < x7 then (blackboardlaw6_WeavePlaces.l2 k x1 x7 x8 x13 x15 x16 0 0) else (some true)
def blackboardlaw6_WeavePlaces.l2 : Nat → List Int → Int → List (List Int) → List (List Int) → Int → Int → Int → Int → Option (Bool)
  | 0, _, _, _, _, _, _, _, _ => none
  | k + 1, x1, x7, x8, x13, x15, x16, x17, x18 => if 0 ≤ x16 then (if x16 < (x8.length : Int) then (if x18 < ((rd_L1 x8 x16).length : Int) then (if 0 ≤ x18 then (if 0 ≤ (wrap64 ((wrap64 (x18 * x7)) + x16)) then (if (wrap64 ((wrap64 (x18 * x7)) + x16)) < (x1.length : Int) then (if (rd (rd_L1 x8 x16) x18) = (rd x1 (wrap64 ((wrap64 (x18 * x7)) + x16))) then (if x16 < (x13.length : Int) then (if x18 < ((rd_L1 x13 x16).length : Int) then (if (rd (rd_L1 x8 x16) x18) = (rd (rd_L1 x13 x16) x18) then (blackboardlaw6_WeavePlaces.l2 k x1 x7 x8 x13 x15 x16 x17 (wrap64 (x18 + 1))) else (blackboardlaw6_WeavePlaces.l2 k x1 x7 x8 x13 x15 x16 (wrap64 (x17 + 1)) (wrap64 (x18 + 1)))) else (none)) else (none)) else (some false)) else (none)) else (none)) else (none)) else (if x17 > x15 then (some false) else (blackboardlaw6_WeavePlaces.l1 k x1 x7 x8 x13 x15 (wrap64 (x16 + 1))))) else (none)) else (none)
end
def blackboardlaw6_WeavePlaces.f (k : Nat) (a0 : Int) (l1 : List Int) (a2 : Int) : Option (Bool) := (blackboardlaw6_awake.f k).bind fun t264 => (if t264 = true then (if (l1.length : Int) = 0 then (blackboardlaw6_WeavePlaces.j0 k l1 a2 (wrap64 (1 + (Int.tmod (wrap64 (a0)) 4))) true) else (blackboardlaw6_WeavePlaces.j0 k l1 a2 (wrap64 (1 + (Int.tmod (wrap64 (a0)) 4))) (decide ((l1.length : Int) > 2000)))) else (some false))
theorem blackboardlaw6_WeavePlaces.mono_l : ∀ k, (∀ y0 y1 y2 y3, LeO (blackboardlaw6_WeavePlaces.j0 k y0 y1 y2 y3) (blackboardlaw6_WeavePlaces.j0 (k + 1) y0 y1 y2 y3)) ∧ (∀ y0 y1 y2 y3 y4 y5 y6, LeO (blackboardlaw6_WeavePlaces.l0 k y0 y1 y2 y3 y4 y5 y6) (blackboardlaw6_WeavePlaces.l0 (k + 1) y0 y1 y2 y3 y4 y5 y6)) ∧ (∀ y0 y1 y2 y3 y4 y5, LeO (blackboardlaw6_WeavePlaces.j2 k y0 y1 y2 y3 y4 y5) (blackboardlaw6_WeavePlaces.j2 (k + 1) y0 y1 y2 y3 y4 y5)) ∧ (∀ y0 y1 y2 y3 y4 y5, LeO (blackboardlaw6_WeavePlaces.l1 k y0 y1 y2 y3 y4 y5) (blackboardlaw6_WeavePlaces.l1 (k + 1) y0 y1 y2 y3 y4 y5)) ∧ (∀ y0 y1 y2 y3 y4 y5 y6 y7, LeO (blackboardlaw6_WeavePlaces.l2 k y0 y1 y2 y3 y4 y5 y6 y7) (blackboardlaw6_WeavePlaces.l2 (k + 1) y0 y1 y2 y3 y4 y5 y6 y7))
  | 0 => ⟨fun _ _ _ _ r h => by simp [blackboardlaw6_WeavePlaces.j0] at h, fun _ _ _ _ _ _ _ r h => by simp [blackboardlaw6_WeavePlaces.l0] at h, fun _ _ _ _ _ _ r h => by simp [blackboardlaw6_WeavePlaces.j2] at h, fun _ _ _ _ _ _ r h => by simp [blackboardlaw6_WeavePlaces.l1] at h, fun _ _ _ _ _ _ _ _ r h => by simp [blackboardlaw6_WeavePlaces.l2] at h⟩
  | k + 1 => by
    obtain ⟨ih0, ih1, ih2, ih3, ih4⟩ := blackboardlaw6_WeavePlaces.mono_l k
    refine ⟨?_, ?_, ?_, ?_, ?_⟩
    · intro y0 y1 y2 y3
      unfold blackboardlaw6_WeavePlaces.j0
      repeat' first
      | (with_reducible exact ih0 _ _ _ _)
      | (with_reducible exact ih1 _ _ _ _ _ _ _)
      | (with_reducible exact ih2 _ _ _ _ _ _)
      | (with_reducible exact ih3 _ _ _ _ _ _)
      | (with_reducible exact ih4 _ _ _ _ _ _ _ _)
      | (with_reducible exact blackboardlaw6_awake.mono _)
      | (with_reducible exact weave_In.mono _ _ _)
      | (with_reducible exact LeO.refl _)
      | (with_reducible exact LeO.none _)
      | (with_reducible refine LeO.ite ?_ ?_)
      | (with_reducible refine LeO.bind ?_ (fun _ => ?_))
      | exact ih0 _ _ _ _
      | exact ih1 _ _ _ _ _ _ _
      | exact ih2 _ _ _ _ _ _
      | exact ih3 _ _ _ _ _ _
      | exact ih4 _ _ _ _ _ _ _ _
      | exact blackboardlaw6_awake.mono _
      | exact weave_In.mono _ _ _
      | exact LeO.none _
      | refine LeO.ite ?_ ?_
      | refine LeO.bind ?_ (fun _ => ?_)
    · intro y0 y1 y2 y3 y4 y5 y6
      unfold blackboardlaw6_WeavePlaces.l0
      repeat' first
      | (with_reducible exact ih0 _ _ _ _)
      | (with_reducible exact ih1 _ _ _ _ _ _ _)
      | (with_reducible exact ih2 _ _ _ _ _ _)
      | (with_reducible exact ih3 _ _ _ _ _ _)
      | (with_reducible exact ih4 _ _ _ _ _ _ _ _)
      | (with_reducible exact blackboardlaw6_awake.mono _)
      | (with_reducible exact weave_In.mono _ _ _)
      | (with_reducible exact LeO.refl _)
      | (with_reducible exact LeO.none _)
      | (with_reducible refine LeO.ite ?_ ?_)
      | (with_reducible refine LeO.bind ?_ (fun _ => ?_))
      | exact ih0 _ _ _ _
      | exact ih1 _ _ _ _ _ _ _
      | exact ih2 _ _ _ _ _ _
      | exact ih3 _ _ _ _ _ _
      | exact ih4 _ _ _ _ _ _ _ _
      | exact blackboardlaw6_awake.mono _
      | exact weave_In.mono _ _ _
      | exact LeO.none _
      | refine LeO.ite ?_ ?_
      | refine LeO.bind ?_ (fun _ => ?_)
    · intro y0 y1 y2 y3 y4 y5
      unfold blackboardlaw6_WeavePlaces.j2
      repeat' first
      | (with_reducible exact ih0 _ _ _ _)
      | (with_reducible exact ih1 _ _ _ _ _ _ _)
      | (with_reducible exact ih2 _ _ _ _ _ _)
      | (with_reducible exact ih3 _ _ _ _ _ _)
      | (with_reducible exact ih4 _ _ _ _ _ _ _ _)
      | (with_reducible exact blackboardlaw6_awake.mono _)
      | (with_reducible exact weave_In.mono _ _ _)
      | (with_reducible exact LeO.refl _)
      | (with_reducible exact LeO.none _)
      | (with_reducible refine LeO.ite ?_ ?_)
      | (with_reducible refine LeO.bind ?_ (fun _ => ?_))
      | exact ih0 _ _ _ _
      | exact ih1 _ _ _ _ _ _ _
      | exact ih2 _ _ _ _ _ _
      | exact ih3 _ _ _ _ _ _
      | exact ih4 _ _ _ _ _ _ _ _
      | exact blackboardlaw6_awake.mono _
      | exact weave_In.mono _ _ _
      | exact LeO.none _
      | refine LeO.ite ?_ ?_
      | refine LeO.bind ?_ (fun _ => ?_)
    · intro y0 y1 y2 y3 y4 y5
      unfold blackboardlaw6_WeavePlaces.l1
      repeat' first
      | (with_reducible exact ih0 _ _ _ _)
      | (with_reducible exact ih1 _ _ _ _ _ _ _)
      | (with_reducible exact ih2 _ _ _ _ _ _)
      | (with_reducible exact ih3 _ _ _ _ _ _)
      | (with_reducible exact ih4 _ _ _ _ _ _ _ _)
      | (with_reducible exact blackboardlaw6_awake.mono _)
      | (with_reducible exact weave_In.mono _ _ _)
      | (with_reducible exact LeO.refl _)
      | (with_reducible exact LeO.none _)
      | (with_reducible refine LeO.ite ?_ ?_)
      | (with_reducible refine LeO.bind ?_ (fun _ => ?_))
      | exact ih0 _ _ _ _
      | exact ih1 _ _ _ _ _ _ _
      | exact ih2 _ _ _ _ _ _
      | exact ih3 _ _ _ _ _ _
      | exact ih4 _ _ _ _ _ _ _ _
      | exact blackboardlaw6_awake.mono _
      | exact weave_In.mono _ _ _
      | exact LeO.none _
      | refine LeO.ite ?_ ?_
      | refine LeO.bind ?_ (fun _ => ?_)
    · intro y0 y1 y2 y3 y4 y5 y6 y7
      unfold blackboardlaw6_WeavePlaces.l2
      repeat' first
      | (with_reducible exact ih0 _ _ _ _)
      | (with_reducible exact ih1 _ _ _ _ _ _ _)
      | (with_reducible exact ih2 _ _ _ _ _ _)
      | (with_reducible exact ih3 _ _ _ _ _ _)
      | (with_reducible exact ih4 _ _ _ _ _ _ _ _)
      | (with_reducible exact blackboardlaw6_awake.mono _)
      | (with_reducible exact weave_In.mono _ _ _)
      | (with_reducible exact LeO.refl _)
      | (with_reducible exact LeO.none _)
      | (with_reducible refine LeO.ite ?_ ?_)
      | (with_reducible refine LeO.bind ?_ (fun _ => ?_))
      | exact ih0 _ _ _ _
      | exact ih1 _ _ _ _ _ _ _
      | exact ih2 _ _ _ _ _ _
      | exact ih3 _ _ _ _ _ _
      | exact ih4 _ _ _ _ _ _ _ _
      | exact blackboardlaw6_awake.mono _
      | exact weave_In.mono _ _ _
      | exact LeO.none _
      | refine LeO.ite ?_ ?_
      | refine LeO.bind ?_ (fun _ => ?_)
theorem blackboardlaw6_WeavePlaces.mono : ∀ a0 a1 a2 k, LeO (blackboardlaw6_WeavePlaces.f k a0 a1 a2) (blackboardlaw6_WeavePlaces.f (k + 1) a0 a1 a2) := by
  intro a0 a1 a2 k
  obtain ⟨ih0, ih1, ih2, ih3, ih4⟩ := blackboardlaw6_WeavePlaces.mono_l k
  unfold blackboardlaw6_WeavePlaces.f
  repeat' first
      | (with_reducible exact ih0 _ _ _ _)
      | (with_reducible exact ih1 _ _ _ _ _ _ _)
      | (with_reducible exact ih2 _ _ _ _ _ _)
      | (with_reducible exact ih3 _ _ _ _ _ _)
      | (with_reducible exact ih4 _ _ _ _ _ _ _ _)
      | (with_reducible exact blackboardlaw6_awake.mono _)
      | (with_reducible exact weave_In.mono _ _ _)
      | (with_reducible exact LeO.refl _)
      | (with_reducible exact LeO.none _)
      | (with_reducible refine LeO.ite ?_ ?_)
      | (with_reducible refine LeO.bind ?_ (fun _ => ?_))
      | exact ih0 _ _ _ _
      | exact ih1 _ _ _ _ _ _ _
      | exact ih2 _ _ _ _ _ _
      | exact ih3 _ _ _ _ _ _
      | exact ih4 _ _ _ _ _ _ _ _
      | exact blackboardlaw6_awake.mono _
      | exact weave_In.mono _ _ _
      | exact LeO.none _
      | refine LeO.ite ?_ ?_
      | refine LeO.bind ?_ (fun _ => ?_)
set_option maxHeartbeats 8000000 in
set_option maxRecDepth 100000 in
theorem blackboardlaw6_WeavePlaces.calls (k : Nat) (a0 : Int) (A1 : Option Addr) (c1 : Nat) (l1 : List Int) (a2 : Int) (r : Bool) (w : World) (hr1 : Kd.C (Kd.int .u16) w A1 l1.length l1) (hc1 : l1.length ≤ c1) (h : blackboardlaw6_WeavePlaces.f k a0 l1 a2 = some r) :
    Calls Try.prog 6 #[.int .u8 a0, .slice A1 l1.length c1, .int .u16 a2] w fun e w' => e = .returned (.bool r) ∧ Below w.heap.size w w' := by
  have HR1 := Aside0.mk hr1
  have HC1 := Aside0.mk hc1
  clear hr1 hc1
  have HB := Aside0.mk (Below.refl w.heap.size w)
  have H : ((blackboardlaw6_awake.f k).bind fun t264 => (if t264 = true then (if (l1.length : Int) = 0 then (blackboardlaw6_WeavePlaces.j0 k l1 a2 (wrap64 (1 + (Int.tmod (wrap64 (a0)) 4))) true) else (blackboardlaw6_WeavePlaces.j0 k l1 a2 (wrap64 (1 + (Int.tmod (wrap64 (a0)) 4))) (decide ((l1.length : Int) > 2000)))) else (some false))) = some r := h
  clear h
  replace H := Option.bind_eq_some_iff.mp H
  obtain ⟨t264, A40, H⟩ := H
  replace H : (if t264 = true then (if (l1.length : Int) = 0 then (blackboardlaw6_WeavePlaces.j0 k l1 a2 (wrap64 (1 + (Int.tmod (wrap64 (a0)) 4))) true) else (blackboardlaw6_WeavePlaces.j0 k l1 a2 (wrap64 (1 + (Int.tmod (wrap64 (a0)) 4))) (decide ((l1.length : Int) > 2000)))) else (some false)) = some r := H
  have A4 := Aside0.mk A40
  clear A40
  by_cases c5 : t264 = true
  · subst c5
    have H1 : (if (l1.length : Int) = 0 then (blackboardlaw6_WeavePlaces.j0 k l1 a2 (wrap64 (1 + (Int.tmod (wrap64 (a0)) 4))) true) else (blackboardlaw6_WeavePlaces.j0 k l1 a2 (wrap64 (1 + (Int.tmod (wrap64 (a0)) 4))) (decide ((l1.length : Int) > 2000)))) = some r := by rw [if_pos rfl] at H; exact H
    clear H
    have H := H1
    clear H1
    have HC6 := Aside0.mk H
    clear H
    go_enter Try.func6, Try.ntmps6
    go_upto_region 4 with (first | (go_at_call 8; (with_reducible refine (blackboardlaw6_awake.calls k  true _ A4.out).mono ?_); rintro e w7 ⟨rfl, hb⟩; have n0_ := Aside0.mk (below_step (by repeat (first | (with_reducible first | exact HB.out | apply below_alloc | apply pw_below_drewN | apply below_drew1) | exact HB.out)) hb); clear HB; have HB := n0_; clear n0_; (try clear hb); (try clear hb2); (try clear hk); (try clear hi)))
    repeat (go_quiet (first | (go_at_call 8; (with_reducible refine (blackboardlaw6_awake.calls k  true _ A4.out).mono ?_); rintro e w7 ⟨rfl, hb⟩; have n0_ := Aside0.mk (below_step (by repeat (first | (with_reducible first | exact HB.out | apply below_alloc | apply pw_below_drewN | apply below_drew1) | exact HB.out)) hb); clear HB; have HB := n0_; clear n0_; (try clear hb); (try clear hb2); (try clear hk); (try clear hi))); go_upto_region 4 with (first | (go_at_call 8; (with_reducible refine (blackboardlaw6_awake.calls k  true _ A4.out).mono ?_); rintro e w7 ⟨rfl, hb⟩; have n0_ := Aside0.mk (below_step (by repeat (first | (with_reducible first | exact HB.out | apply below_alloc | apply pw_below_drewN | apply below_drew1) | exact HB.out)) hb); clear HB; have HB := n0_; clear n0_; (try clear hb); (try clear hb2); (try clear hk); (try clear hi))))
    (try simp only [Act.put, List.setIfInBounds_toArray, List.set_cons_zero, List.set_cons_succ])
    go_cut [32] (fun v32 wc => ∃ (kq : Nat) (x32_5 : Bool), v32 = .bool x32_5 ∧ Aside0 (blackboardlaw6_WeavePlaces.j0 kq l1 a2 (wrap64 (1 + (Int.tmod (wrap64 (a0)) 4))) x32_5 = some r) ∧ Aside0 (kq ≤ k) ∧ Aside0 (Below w.heap.size w wc))
    case first =>
      have H := HC6.out
      clear HC6
      by_cases c8 : (l1.length : Int) = 0
      · rw [if_pos c8] at H
        have c8b0 : ((l1.length : Int) == 0) = true := beq_iff_eq.mpr c8
        have c8b1 : ((l1.length : Int) != 0) = false := bne_eq_false_iff_eq.mpr c8
        clear c8
        (first | rw [c8b0] | (simp only [i64_w, i32_w]; rw [c8b0]) | skip)
        have H' := Aside0.mk H
        clear H
        go_wp2
        repeat (go_quiet (fail); try go_wp2)
        go_meet
        case rel => exact ⟨_, (true), (by first | rfl | (simp; done) | (simp [*]; done)), H', ⟨by first | omega | exact Nat.le_refl _⟩, ⟨by repeat (first | (with_reducible first | exact HB.out | apply below_alloc | apply pw_below_drewN | apply below_drew1) | exact HB.out)⟩⟩
      · rw [if_neg c8] at H
        have c8b0 : ((l1.length : Int) == 0) = false := beq_eq_false_iff_ne.mpr c8
        have c8b1 : ((l1.length : Int) != 0) = true := bne_iff_ne.mpr c8
        have c8b2 : ¬ (l1 = []) := fun h_ => c8 (by rw [h_]; rfl)
        (first | rw [c8b0] | (simp only [i64_w, i32_w]; rw [c8b0]) | skip)
        have H' := Aside0.mk H
        clear H
        go_wp2
        repeat (go_quiet (fail); try go_wp2)
        go_meet
        case rel => exact ⟨_, (decide ((l1.length : Int) > 2000)), (by first | rfl | (simp; done) | (simp [*]; done)), H', ⟨by first | omega | exact Nat.le_refl _⟩, ⟨by repeat (first | (with_reducible first | exact HB.out | apply below_alloc | apply pw_below_drewN | apply below_drew1) | exact HB.out)⟩⟩
    case rest =>
      clear HC6
      try clear c1
      try clear p2
      try clear c5
      try clear c6
      try clear p6
      try clear c8
      try clear c8b0
      try clear c8b1
      try clear c8b2
      obtain ⟨kq, x32_5, rfl, HA, HJ5, HB⟩ := hcut
      cases kq with
      | zero => exact absurd HA.out (by simp [blackboardlaw6_WeavePlaces.j0])
      | succ kj5 =>
        have H := HA.out
        clear HA
        simp only [blackboardlaw6_WeavePlaces.j0] at H
        by_cases c9 : x32_5 = true
        · subst c9
          have H1 : (some true) = some r := by rw [if_pos rfl] at H; exact H
          clear H
          have H := H1
          clear H1
          obtain rfl := Option.some.inj H
          go_wp2
          repeat (go_quiet (fail); try go_wp2)
          go_ret
          exact ⟨by first | rfl | (simp [errW_none, errW_some] <;> rfl) | (simp [*, errW_none, errW_some] <;> rfl), by repeat (first | (with_reducible first | exact HB.out | apply below_alloc | apply pw_below_drewN | apply below_drew1) | exact HB.out)⟩
        · replace c9 := Bool.eq_false_iff.mpr c9
          subst c9
          have H1 : (if (wrap64 (1 + (Int.tmod (wrap64 (a0)) 4))) = 0 then (none) else (if 0 ≤ (wrap64 ((wrap64 ((l1.length : Int) / (wrap64 (1 + (Int.tmod (wrap64 (a0)) 4))))) * (wrap64 (1 + (Int.tmod (wrap64 (a0)) 4))))) then (if (wrap64 ((wrap64 ((l1.length : Int) / (wrap64 (1 + (Int.tmod (wrap64 (a0)) 4))))) * (wrap64 (1 + (Int.tmod (wrap64 (a0)) 4))))) ≤ (l1.length : Int) then (if ((l1.take ((wrap64 ((wrap64 ((l1.length : Int) / (wrap64 (1 + (Int.tmod (wrap64 (a0)) 4))))) * (wrap64 (1 + (Int.tmod (wrap64 (a0)) 4))))) : Int).toNat).length : Int) = 0 then (some true) else ((weave_In.f kj5 (wrap64 (1 + (Int.tmod (wrap64 (a0)) 4))) (l1.take ((wrap64 ((wrap64 ((l1.length : Int) / (wrap64 (1 + (Int.tmod (wrap64 (a0)) 4))))) * (wrap64 (1 + (Int.tmod (wrap64 (a0)) 4))))) : Int).toNat)).bind fun bt266 => ((some (([] : List Int) : List Int)).bind fun y270 => (if y270.length + (l1.take ((wrap64 ((wrap64 ((l1.length : Int) / (wrap64 (1 + (Int.tmod (wrap64 (a0)) 4))))) * (wrap64 (1 + (Int.tmod (wrap64 (a0)) 4))))) : Int).toNat).length < 70368744177664 then (blackboardlaw6_WeavePlaces.l0 kj5 (l1.take ((wrap64 ((wrap64 ((l1.length : Int) / (wrap64 (1 + (Int.tmod (wrap64 (a0)) 4))))) * (wrap64 (1 + (Int.tmod (wrap64 (a0)) 4))))) : Int).toNat) (wrap64 (1 + (Int.tmod (wrap64 (a0)) 4))) bt266.1 bt266.2 (y270 ++ (l1.take ((wrap64 ((wrap64 ((l1.length : Int) / (wrap64 (1 + (Int.tmod (wrap64 (a0)) 4))))) * (wrap64 (1 + (Int.tmod (wrap64 (a0)) 4))))) : Int).toNat)) (Int.tmod (wrap64 (a2)) ((l1.take ((wrap64 ((wrap64 ((l1.length : Int) / (wrap64 (1 + (Int.tmod (wrap64 (a0)) 4))))) * (wrap64 (1 + (Int.tmod (wrap64 (a0)) 4))))) : Int).toNat).length : Int)) (Int.tmod (wrap64 (a2)) ((l1.take ((wrap64 ((wrap64 ((l1.length : Int) / (wrap64 (1 + (Int.tmod (wrap64 (a0)) 4))))) * (wrap64 (1 + (Int.tmod (wrap64 (a0)) 4))))) : Int).toNat).length : Int))) else (none))))) else (none)) else (none))) = some r := by rw [if_neg (show ¬ (false = true) by decide)] at H; exact H
          clear H
          have H := H1
          clear H1
          by_cases c10 : (wrap64 (1 + (Int.tmod (wrap64 (a0)) 4))) = 0
          · rw [if_pos c10] at H
            exact absurd H (by simp)
          · rw [if_neg c10] at H
            have c10b0 : ((wrap64 (1 + (Int.tmod (wrap64 (a0)) 4))) == 0) = false := beq_eq_false_iff_ne.mpr c10
            have c10b1 : ((wrap64 (1 + (Int.tmod (wrap64 (a0)) 4))) != 0) = true := bne_iff_ne.mpr c10
            obtain ⟨ji11, hji11⟩ : ∃ j_ : Int, (wrap64 ((wrap64 ((l1.length : Int) / (wrap64 (1 + (Int.tmod (wrap64 (a0)) 4))))) * (wrap64 (1 + (Int.tmod (wrap64 (a0)) 4))))) = j_ := ⟨_, rfl⟩
            replace H : (if 0 ≤ (ji11) then (if (ji11) ≤ (l1.length : Int) then (if ((l1.take ((ji11) : Int).toNat).length : Int) = 0 then (some true) else ((weave_In.f kj5 (wrap64 (1 + (Int.tmod (wrap64 (a0)) 4))) (l1.take ((ji11) : Int).toNat)).bind fun bt266 => ((some (([] : List Int) : List Int)).bind fun y270 => (if y270.length + (l1.take ((ji11) : Int).toNat).length < 70368744177664 then (blackboardlaw6_WeavePlaces.l0 kj5 (l1.take ((ji11) : Int).toNat) (wrap64 (1 + (Int.tmod (wrap64 (a0)) 4))) bt266.1 bt266.2 (y270 ++ (l1.take ((ji11) : Int).toNat)) (Int.tmod (wrap64 (a2)) ((l1.take ((ji11) : Int).toNat).length : Int)) (Int.tmod (wrap64 (a2)) ((l1.take ((ji11) : Int).toNat).length : Int))) else (none))))) else (none)) else (none)) = some r := by first | (rw [hji11] at H; exact H) | (simp only [hji11] at H ⊢; exact H)
            have hji11w : (IntKind.i64.wrap ((wrap64 ((l1.length : Int) / (wrap64 (1 + (Int.tmod (wrap64 (a0)) 4))))) * (wrap64 (1 + (Int.tmod (wrap64 (a0)) 4))))) = ji11 := (i64_w _).trans hji11
            by_cases c12 : 0 ≤ (ji11)
            · rw [if_pos c12] at H
              have c12b0 := eq_true c12
              have c12b1 : decide (0 ≤ (ji11)) = true := decide_eq_true c12
              clear c12
              by_cases c13 : (ji11) ≤ (l1.length : Int)
              · rw [if_pos c13] at H
                have c13b0 := eq_true c13
                have c13b1 : decide ((ji11) ≤ (l1.length : Int)) = true := decide_eq_true c13
                obtain ⟨lt_, hlt_⟩ : ∃ lt_ : List Int, (l1.take ((ji11) : Int).toNat) = lt_ := ⟨_, rfl⟩
                rw [hlt_] at H
                clear c13
                by_cases c14 : (lt_.length : Int) = 0
                · rw [if_pos c14] at H
                  have c14b0 : ((lt_.length : Int) == 0) = true := beq_iff_eq.mpr c14
                  have c14b1 : ((lt_.length : Int) != 0) = false := bne_eq_false_iff_eq.mpr c14
                  clear c14
                  obtain rfl := Option.some.inj H
                  obtain ⟨i015, hi015, _, hsz15, _⟩ := info_parts info22
                  obtain ⟨hcut15, hA15, hC15⟩ := print_take_of (P := Try.prog) (Value.int .u16) 0 27 22 .i64 Try.underlying27 hi015 hsz15 A1 c1 l1 (ji11) (of_decide_eq_true (by first | (with_reducible assumption) | assumption)) (of_decide_eq_true (by first | (with_reducible assumption) | assumption)) HC1.out
                  rw [hlt_] at hcut15 hA15 hC15
                  have HR265 := Aside0.mk (Kd.C_of_reads (h1 := fun _ => rfl) (hA15 _ (Kd.reads_of_C HR1.out)))
                  have HC265 := Aside0.mk hC15
                  clear hA15 hC15 hi015 hsz15
                  go_wp2
                  repeat (go_quiet (fail); try go_wp2)
                  go_ret
                  exact ⟨by first | rfl | (simp [errW_none, errW_some] <;> rfl) | (simp only [← hji11]; first | rfl | (simp [errW_none, errW_some] <;> rfl)) | (simp [*, errW_none, errW_some] <;> rfl), by repeat (first | (with_reducible first | exact HB.out | apply below_alloc | apply pw_below_drewN | apply below_drew1) | exact HB.out)⟩
                · rw [if_neg c14] at H
                  have c14b0 : ((lt_.length : Int) == 0) = false := beq_eq_false_iff_ne.mpr c14
                  have c14b1 : ((lt_.length : Int) != 0) = true := bne_iff_ne.mpr c14
                  have c14b2 : ¬ (lt_ = []) := fun h_ => c14 (by rw [h_]; rfl)
                  replace H := Option.bind_eq_some_iff.mp H
                  obtain ⟨⟨t266, t267⟩, A160, H⟩ := H
                  replace H : ((some (([] : List Int) : List Int)).bind fun y270 => (if y270.length + lt_.length < 70368744177664 then (blackboardlaw6_WeavePlaces.l0 kj5 lt_ (wrap64 (1 + (Int.tmod (wrap64 (a0)) 4))) t266 t267 (y270 ++ lt_) (Int.tmod (wrap64 (a2)) (lt_.length : Int)) (Int.tmod (wrap64 (a2)) (lt_.length : Int))) else (none))) = some r := H
                  have A16 := Aside0.mk A160
                  clear A160
                  obtain ⟨y270, hy270⟩ : ∃ y_ : List Int, y_ = (([] : List Int)) := ⟨_, rfl⟩
                  replace H : (if y270.length + lt_.length < 70368744177664 then (blackboardlaw6_WeavePlaces.l0 kj5 lt_ (wrap64 (1 + (Int.tmod (wrap64 (a0)) 4))) t266 t267 (y270 ++ lt_) (Int.tmod (wrap64 (a2)) (lt_.length : Int)) (Int.tmod (wrap64 (a2)) (lt_.length : Int))) else (none)) = some r := by first | (rw [hy270]; with_reducible exact H) | (have H2_ := (Option.bind_some _ _).symm.trans H; rw [hy270]; with_reducible exact H2_) | (have H2_ := (Option.bind_some _ _).symm.trans H; with_reducible exact H2_) | with_reducible exact H | (rw [hy270]; exact H) | exact H
                  have Ny270 := Aside0.mk hy270
                  clear hy270
                  by_cases c17 : y270.length + lt_.length < 70368744177664
                  · rw [if_pos c17] at H
                    have LMc17 := Aside0.mk c17
                    clear c17
                    obtain ⟨y273, hy273⟩ : ∃ y_ : List Int, y_ = (y270 ++ lt_) := ⟨_, rfl⟩
                    replace H : (blackboardlaw6_WeavePlaces.l0 kj5 lt_ (wrap64 (1 + (Int.tmod (wrap64 (a0)) 4))) t266 t267 y273 (Int.tmod (wrap64 (a2)) (lt_.length : Int)) (Int.tmod (wrap64 (a2)) (lt_.length : Int))) = some r := by first | (rw [hy273]; with_reducible exact H) | (have H2_ := (Option.bind_some _ _).symm.trans H; rw [hy273]; with_reducible exact H2_) | (have H2_ := (Option.bind_some _ _).symm.trans H; with_reducible exact H2_) | with_reducible exact H | (rw [hy273]; exact H) | exact H
                    have Ny273 := Aside0.mk hy273
                    clear hy273
                    have H' := Aside0.mk H
                    clear H
                    obtain ⟨i018, hi018, _, hsz18, _⟩ := info_parts info22
                    obtain ⟨hcut18, hA18, hC18⟩ := print_take_of (P := Try.prog) (Value.int .u16) 0 27 22 .i64 Try.underlying27 hi018 hsz18 A1 c1 l1 (ji11) (of_decide_eq_true (by first | (with_reducible assumption) | assumption)) (of_decide_eq_true (by first | (with_reducible assumption) | assumption)) HC1.out
                    rw [hlt_] at hcut18 hA18 hC18
                    have HR265 := Aside0.mk (Kd.C_of_reads (h1 := fun _ => rfl) (hA18 _ (Kd.reads_of_C HR1.out)))
                    have HC265 := Aside0.mk hC18
                    clear hA18 hC18 hi018 hsz18
                    go_wp2_with (first | (go_at_call 12; (with_reducible refine (weave_In.calls kj5 (wrap64 (1 + (Int.tmod (wrap64 (a0)) 4))) _ _ lt_ t266 t267 _ ?side1 ?side2 A16.out).mono ?_); (case side1 => repeat (first | exact (Kd.C_below HR265.out HB.out) | (with_reducible refine Kd.C_alloc ?_ _) | (with_reducible refine Kd.C_drewN ?_ _) | (with_reducible refine Kd.C_drew ?_))); (case side2 => exact HC265.out); rintro e w19 ⟨v268, rfl, ho0, hb⟩; have n0_ := Aside0.mk (Kd.S_lower ho0 (below_size (by repeat (first | (with_reducible first | exact HB.out | apply below_alloc | apply pw_below_drewN | apply below_drew1) | exact HB.out)))); have n1_ := Aside0.mk (below_step (by repeat (first | (with_reducible first | exact HB.out | apply below_alloc | apply pw_below_drewN | apply below_drew1) | exact HB.out)) hb); clear HB; have HO269 := n0_; have HB := n1_; clear n0_ n1_; (try clear hb); (try clear hb2); (try clear hk); (try clear hi); (try clear ho0)) | ((with_reducible refine gate_dst (N := 50) rfl ?_); (try (refine gate_guard (by rfl) ?_; dsimp only)); refine Kd.R_lit (Kd.int .u16) _ 22 ?hg (N := 50) ?hd (xs := ([] : List Int)) (inner := []) (ok := fun _ => True) (okp := fun _ => True) ?hr ?hp (fun _ hk => hk) trivial (Below.refl _ _) (Nat.le_refl _) (by simp) ?_; (case hd => rfl); (case hg => rfl); (case hr => first | (go_simp; done) | (go_simp; rfl)); (case hp => exact (Reps.none _ _)); intro v271 w20 ho21 hb hg_ hnew_; clear hg_ hnew_; (first | rw [← Ny270.out] at ho21 | (simp only [Int.reduceToNat] at ho21; rw [← Ny270.out] at ho21)); have n0_ := Aside0.mk (Kd.S_elder' (by (with_reducible repeat (first | apply Kd.S_alloc | apply Kd.S_drewN | apply Kd.S_drew)); exact HO269.out) (Kd.R_base ho21) hb); have n1_ := Aside0.mk (Kd.R_lower ho21 (below_size (by repeat (first | (with_reducible first | exact HB.out | apply below_alloc | apply pw_below_drewN | apply below_drew1) | exact HB.out)))); have n2_ := Aside0.mk (below_step (by repeat (first | (with_reducible first | exact HB.out | apply below_alloc | apply pw_below_drewN | apply below_drew1) | exact HB.out)) hb); clear HO269; clear HB; have HO269 := n0_; have HO272 := n1_; have HB := n2_; clear n0_ n1_ n2_; clear hb ho21) | ((with_reducible refine gate_builtin (b := .append) (xs := #[.tmp 50, .tmp 51]) rfl ?_); (try (refine gate_guard (by rfl) ?_; dsimp only)); at_builtin; refine Kd.R_append_rows (Kd.int .u16) (w0 := w) w.heap.size rfl (.tmp 50) (.tmp 51) 27 22 (.int .u16 0) 2 rfl Try.underlying27 info22 rfl (by decide) (by omega) v271 y270 lt_ _ _ _ (fun _ => True) (fun _ => False) rfl rfl ?aO ?aR (fun _ _ h => h) (fun _ h => h.elim) ?aF ?aB ?aS ?aL ?_; (case aR => first | (rw [← show lt_.length = (ji11).toNat from (by rw [List.length_take]; have h_ : ((ji11) : Int) ≤ (l1.length : Int) := of_decide_eq_true (by first | (with_reducible assumption) | assumption); omega)]; repeat (first | exact (Kd.C_below HR265.out HB.out) | (with_reducible refine Kd.C_alloc ?_ _) | (with_reducible refine Kd.C_drewN ?_ _) | (with_reducible refine Kd.C_drew ?_))) | (repeat (first | exact (Kd.C_below HR265.out HB.out) | (with_reducible refine Kd.C_alloc ?_ _) | (with_reducible refine Kd.C_drewN ?_ _) | (with_reducible refine Kd.C_drew ?_)))); (case aB => exact (by repeat (first | (with_reducible first | exact HB.out | apply below_alloc | apply pw_below_drewN | apply below_drew1) | exact HB.out))); (case aF => exact (fun _ _ => trivial)); (case aO => exact (by (with_reducible repeat (first | apply Kd.R_alloc | apply Kd.R_drewN | apply Kd.R_drew)); exact HO272.out)); (case aS => exact (below_size (by repeat (first | (with_reducible first | exact HB.out | apply below_alloc | apply pw_below_drewN | apply below_drew1) | exact HB.out)))); (case aL => have := LMc17.out; omega); intro v274 w22 ho hb hg hat; rw [← Ny273.out] at ho; have n0_ := Aside0.mk (Kd.S_after (ok := (fun _ => True)) (by (with_reducible repeat (first | apply Kd.S_alloc | apply Kd.S_drewN | apply Kd.S_drew)); exact HO269.out) hg hat); have n1_ := Aside0.mk (hb); have n2_ := Aside0.mk (ho); clear HO269; clear HB; clear HO272; have HO269 := n0_; have HB := n1_; have HO275 := n2_; clear n0_ n1_ n2_; clear ho hb hg hat))
                    repeat (go_quiet (first | (go_at_call 12; (with_reducible refine (weave_In.calls kj5 (wrap64 (1 + (Int.tmod (wrap64 (a0)) 4))) _ _ lt_ t266 t267 _ ?side1 ?side2 A16.out).mono ?_); (case side1 => repeat (first | exact (Kd.C_below HR265.out HB.out) | (with_reducible refine Kd.C_alloc ?_ _) | (with_reducible refine Kd.C_drewN ?_ _) | (with_reducible refine Kd.C_drew ?_))); (case side2 => exact HC265.out); rintro e w19 ⟨v268, rfl, ho0, hb⟩; have n0_ := Aside0.mk (Kd.S_lower ho0 (below_size (by repeat (first | (with_reducible first | exact HB.out | apply below_alloc | apply pw_below_drewN | apply below_drew1) | exact HB.out)))); have n1_ := Aside0.mk (below_step (by repeat (first | (with_reducible first | exact HB.out | apply below_alloc | apply pw_below_drewN | apply below_drew1) | exact HB.out)) hb); clear HB; have HO269 := n0_; have HB := n1_; clear n0_ n1_; (try clear hb); (try clear hb2); (try clear hk); (try clear hi); (try clear ho0)) | ((with_reducible refine gate_dst (N := 50) rfl ?_); (try (refine gate_guard (by rfl) ?_; dsimp only)); refine Kd.R_lit (Kd.int .u16) _ 22 ?hg (N := 50) ?hd (xs := ([] : List Int)) (inner := []) (ok := fun _ => True) (okp := fun _ => True) ?hr ?hp (fun _ hk => hk) trivial (Below.refl _ _) (Nat.le_refl _) (by simp) ?_; (case hd => rfl); (case hg => rfl); (case hr => first | (go_simp; done) | (go_simp; rfl)); (case hp => exact (Reps.none _ _)); intro v271 w20 ho21 hb hg_ hnew_; clear hg_ hnew_; (first | rw [← Ny270.out] at ho21 | (simp only [Int.reduceToNat] at ho21; rw [← Ny270.out] at ho21)); have n0_ := Aside0.mk (Kd.S_elder' (by (with_reducible repeat (first | apply Kd.S_alloc | apply Kd.S_drewN | apply Kd.S_drew)); exact HO269.out) (Kd.R_base ho21) hb); have n1_ := Aside0.mk (Kd.R_lower ho21 (below_size (by repeat (first | (with_reducible first | exact HB.out | apply below_alloc | apply pw_below_drewN | apply below_drew1) | exact HB.out)))); have n2_ := Aside0.mk (below_step (by repeat (first | (with_reducible first | exact HB.out | apply below_alloc | apply pw_below_drewN | apply below_drew1) | exact HB.out)) hb); clear HO269; clear HB; have HO269 := n0_; have HO272 := n1_; have HB := n2_; clear n0_ n1_ n2_; clear hb ho21) | ((with_reducible refine gate_builtin (b := .append) (xs := #[.tmp 50, .tmp 51]) rfl ?_); (try (refine gate_guard (by rfl) ?_; dsimp only)); at_builtin; refine Kd.R_append_rows (Kd.int .u16) (w0 := w) w.heap.size rfl (.tmp 50) (.tmp 51) 27 22 (.int .u16 0) 2 rfl Try.underlying27 info22 rfl (by decide) (by omega) v271 y270 lt_ _ _ _ (fun _ => True) (fun _ => False) rfl rfl ?aO ?aR (fun _ _ h => h) (fun _ h => h.elim) ?aF ?aB ?aS ?aL ?_; (case aR => first | (rw [← show lt_.length = (ji11).toNat from (by rw [List.length_take]; have h_ : ((ji11) : Int) ≤ (l1.length : Int) := of_decide_eq_true (by first | (with_reducible assumption) | assumption); omega)]; repeat (first | exact (Kd.C_below HR265.out HB.out) | (with_reducible refine Kd.C_alloc ?_ _) | (with_reducible refine Kd.C_drewN ?_ _) | (with_reducible refine Kd.C_drew ?_))) | (repeat (first | exact (Kd.C_below HR265.out HB.out) | (with_reducible refine Kd.C_alloc ?_ _) | (with_reducible refine Kd.C_drewN ?_ _) | (with_reducible refine Kd.C_drew ?_)))); (case aB => exact (by repeat (first | (with_reducible first | exact HB.out | apply below_alloc | apply pw_below_drewN | apply below_drew1) | exact HB.out))); (case aF => exact (fun _ _ => trivial)); (case aO => exact (by (with_reducible repeat (first | apply Kd.R_alloc | apply Kd.R_drewN | apply Kd.R_drew)); exact HO272.out)); (case aS => exact (below_size (by repeat (first | (with_reducible first | exact HB.out | apply below_alloc | apply pw_below_drewN | apply below_drew1) | exact HB.out)))); (case aL => have := LMc17.out; omega); intro v274 w22 ho hb hg hat; rw [← Ny273.out] at ho; have n0_ := Aside0.mk (Kd.S_after (ok := (fun _ => True)) (by (with_reducible repeat (first | apply Kd.S_alloc | apply Kd.S_drewN | apply Kd.S_drew)); exact HO269.out) hg hat); have n1_ := Aside0.mk (hb); have n2_ := Aside0.mk (ho); clear HO269; clear HB; clear HO272; have HO269 := n0_; have HB := n1_; have HO275 := n2_; clear n0_ n1_ n2_; clear ho hb hg hat)); try go_wp2_with (first | (go_at_call 12; (with_reducible refine (weave_In.calls kj5 (wrap64 (1 + (Int.tmod (wrap64 (a0)) 4))) _ _ lt_ t266 t267 _ ?side1 ?side2 A16.out).mono ?_); (case side1 => repeat (first | exact (Kd.C_below HR265.out HB.out) | (with_reducible refine Kd.C_alloc ?_ _) | (with_reducible refine Kd.C_drewN ?_ _) | (with_reducible refine Kd.C_drew ?_))); (case side2 => exact HC265.out); rintro e w19 ⟨v268, rfl, ho0, hb⟩; have n0_ := Aside0.mk (Kd.S_lower ho0 (below_size (by repeat (first | (with_reducible first | exact HB.out | apply below_alloc | apply pw_below_drewN | apply below_drew1) | exact HB.out)))); have n1_ := Aside0.mk (below_step (by repeat (first | (with_reducible first | exact HB.out | apply below_alloc | apply pw_below_drewN | apply below_drew1) | exact HB.out)) hb); clear HB; have HO269 := n0_; have HB := n1_; clear n0_ n1_; (try clear hb); (try clear hb2); (try clear hk); (try clear hi); (try clear ho0)) | ((with_reducible refine gate_dst (N := 50) rfl ?_); (try (refine gate_guard (by rfl) ?_; dsimp only)); refine Kd.R_lit (Kd.int .u16) _ 22 ?hg (N := 50) ?hd (xs := ([] : List Int)) (inner := []) (ok := fun _ => True) (okp := fun _ => True) ?hr ?hp (fun _ hk => hk) trivial (Below.refl _ _) (Nat.le_refl _) (by simp) ?_; (case hd => rfl); (case hg => rfl); (case hr => first | (go_simp; done) | (go_simp; rfl)); (case hp => exact (Reps.none _ _)); intro v271 w20 ho21 hb hg_ hnew_; clear hg_ hnew_; (first | rw [← Ny270.out] at ho21 | (simp only [Int.reduceToNat] at ho21; rw [← Ny270.out] at ho21)); have n0_ := Aside0.mk (Kd.S_elder' (by (with_reducible repeat (first | apply Kd.S_alloc | apply Kd.S_drewN | apply Kd.S_drew)); exact HO269.out) (Kd.R_base ho21) hb); have n1_ := Aside0.mk (Kd.R_lower ho21 (below_size (by repeat (first | (with_reducible first | exact HB.out | apply below_alloc | apply pw_below_drewN | apply below_drew1) | exact HB.out)))); have n2_ := Aside0.mk (below_step (by repeat (first | (with_reducible first | exact HB.out | apply below_alloc | apply pw_below_drewN | apply below_drew1) | exact HB.out)) hb); clear HO269; clear HB; have HO269 := n0_; have HO272 := n1_; have HB := n2_; clear n0_ n1_ n2_; clear hb ho21) | ((with_reducible refine gate_builtin (b := .append) (xs := #[.tmp 50, .tmp 51]) rfl ?_); (try (refine gate_guard (by rfl) ?_; dsimp only)); at_builtin; refine Kd.R_append_rows (Kd.int .u16) (w0 := w) w.heap.size rfl (.tmp 50) (.tmp 51) 27 22 (.int .u16 0) 2 rfl Try.underlying27 info22 rfl (by decide) (by omega) v271 y270 lt_ _ _ _ (fun _ => True) (fun _ => False) rfl rfl ?aO ?aR (fun _ _ h => h) (fun _ h => h.elim) ?aF ?aB ?aS ?aL ?_; (case aR => first | (rw [← show lt_.length = (ji11).toNat from (by rw [List.length_take]; have h_ : ((ji11) : Int) ≤ (l1.length : Int) := of_decide_eq_true (by first | (with_reducible assumption) | assumption); omega)]; repeat (first | exact (Kd.C_below HR265.out HB.out) | (with_reducible refine Kd.C_alloc ?_ _) | (with_reducible refine Kd.C_drewN ?_ _) | (with_reducible refine Kd.C_drew ?_))) | (repeat (first | exact (Kd.C_below HR265.out HB.out) | (with_reducible refine Kd.C_alloc ?_ _) | (with_reducible refine Kd.C_drewN ?_ _) | (with_reducible refine Kd.C_drew ?_)))); (case aB => exact (by repeat (first | (with_reducible first | exact HB.out | apply below_alloc | apply pw_below_drewN | apply below_drew1) | exact HB.out))); (case aF => exact (fun _ _ => trivial)); (case aO => exact (by (with_reducible repeat (first | apply Kd.R_alloc | apply Kd.R_drewN | apply Kd.R_drew)); exact HO272.out)); (case aS => exact (below_size (by repeat (first | (with_reducible first | exact HB.out | apply below_alloc | apply pw_below_drewN | apply below_drew1) | exact HB.out)))); (case aL => have := LMc17.out; omega); intro v274 w22 ho hb hg hat; rw [← Ny273.out] at ho; have n0_ := Aside0.mk (Kd.S_after (ok := (fun _ => True)) (by (with_reducible repeat (first | apply Kd.S_alloc | apply Kd.S_drewN | apply Kd.S_drew)); exact HO269.out) hg hat); have n1_ := Aside0.mk (hb); have n2_ := Aside0.mk (ho); clear HO269; clear HB; clear HO272; have HO269 := n0_; have HB := n1_; have HO275 := n2_; clear n0_ n1_ n2_; clear ho hb hg hat)))
                    go_loopg [12] kj5 (fun kq v12 w' => ∃ (x10_2 : List Int) (x12_2 : Int), v12 = .int .i64 x12_2 ∧ Aside0 (blackboardlaw6_WeavePlaces.l0 kq lt_ (wrap64 (1 + (Int.tmod (wrap64 (a0)) 4))) t266 t267 x10_2 (Int.tmod (wrap64 (a2)) (lt_.length : Int)) x12_2 = some r) ∧ Aside0 (kq ≤ kj5) ∧ Aside0 (Kd.S (Kd.slice 22 (Kd.int .u16)) 27 w' w.heap.size (fun k_ => some k_ ≠ (v274 : Value).ownBlock) v268 t266) ∧ Aside0 (Kd.R (Kd.int .u16) 22 w' w.heap.size (fun _ => True) v274 x10_2) ∧ Aside0 (Below w.heap.size w w'))
                    case atStart => exact ⟨(y273), (Int.tmod (wrap64 (a2)) (lt_.length : Int)), (by first | rfl | (simp; done) | (simp only [← hji11] <;> (first | rfl | (simp; done) | (unfold mn; simp; done) | (unfold mx; simp; done))) | (simp [*]; done)), H', ⟨Nat.le_refl _⟩, ⟨by (with_reducible repeat (first | apply Kd.S_alloc | apply Kd.S_drewN | apply Kd.S_drew)); exact Kd.S_mono HO269.out (fun _ hk => hk.2)⟩, ⟨by (with_reducible repeat (first | apply Kd.R_alloc | apply Kd.R_drewN | apply Kd.R_drew)); exact HO275.out⟩, ⟨by repeat (first | (with_reducible first | exact HB.out | apply below_alloc | apply pw_below_drewN | apply below_drew1) | exact HB.out)⟩⟩
                    case round =>
                      clear H'
                      try clear c1
                      try clear p2
                      try clear c5
                      try clear c6
                      try clear p6
                      try clear c8
                      try clear c8b0
                      try clear c8b1
                      try clear c8b2
                      try clear c9
                      try clear c10
                      try clear c10b0
                      try clear c10b1
                      try clear c12
                      try clear c12b0
                      try clear c12b1
                      try clear c13
                      try clear c13b0
                      try clear c13b1
                      try clear c14
                      try clear c14b0
                      try clear c14b1
                      try clear c14b2
                      try clear c17
                      try clear p2
                      try clear p6
                      obtain ⟨x10_2, x12_2, rfl, HA, HK2, HO_8, HO_10, HB⟩ := hrel
                      cases gk with
                      | zero => exact absurd HA.out (by simp [blackboardlaw6_WeavePlaces.l0])
                      | succ k2 =>
                        have H := HA.out
                        clear HA
                        simp only [blackboardlaw6_WeavePlaces.l0] at H
                        by_cases c23 : x12_2 < (lt_.length : Int)
                        · rw [if_pos c23] at H
                          have c23b0 : decide (x12_2 < (lt_.length : Int)) = true := decide_eq_true c23
                          clear c23
                          by_cases c24 : 0 ≤ x12_2
                          · rw [if_pos c24] at H
                            have c24b0 : decide (0 ≤ x12_2) = true := decide_eq_true c24
                            clear c24
                            by_cases c25 : x12_2 < (x10_2.length : Int)
                            · rw [if_pos c25] at H
                              have c25b0 : decide (x12_2 < (x10_2.length : Int)) = true := decide_eq_true c25
                              clear c25
                              obtain ⟨y277, hy277⟩ : ∃ y_ : List Int, y_ = (x10_2.set (x12_2 : Int).toNat (Go.bits .xor .u16 (rd x10_2 x12_2) 1)) := ⟨_, rfl⟩
                              replace H : (blackboardlaw6_WeavePlaces.l0 k2 lt_ (wrap64 (1 + (Int.tmod (wrap64 (a0)) 4))) t266 t267 y277 (Int.tmod (wrap64 (a2)) (lt_.length : Int)) (wrap64 (x12_2 + 1))) = some r := by first | (rw [hy277]; with_reducible exact H) | (have H2_ := (Option.bind_some _ _).symm.trans H; rw [hy277]; with_reducible exact H2_) | (have H2_ := (Option.bind_some _ _).symm.trans H; with_reducible exact H2_) | with_reducible exact H | (rw [hy277]; exact H) | exact H
                              have Ny277 := Aside0.mk hy277
                              clear hy277
                              have H' := Aside0.mk H
                              clear H
                              obtain ⟨Ao27, co27, eo27⟩ := Kd.R_slice HO_10.out
                              subst eo27
                              have p276 : 0 ≤ (x12_2 : Int) := of_decide_eq_true (by first | (with_reducible assumption) | assumption)
                              have q276 : x12_2 < (x10_2.length : Int) := of_decide_eq_true (by first | (with_reducible assumption) | assumption)
                              obtain ⟨ad276, e276, hx276_0⟩ := Kd.at_int (Kd.R_reads' HO_10.out).2.2 x12_2 p276 q276
                              cases e276
                              replace p276 := eq_true p276
                              replace q276 := eq_true q276
                              have p26 : 0 ≤ (x12_2 : Int) := of_decide_eq_true (by first | (with_reducible assumption) | assumption)
                              have q26 : (x12_2 : Int) < ((x10_2.length : Int) : Int) := of_decide_eq_true (by first | (with_reducible assumption) | assumption)
                              obtain ⟨go26, co26, eo26, gb26, gl26, cl26, HG26⟩ := Kd.R_form HO_10.out (by omega)
                              (first | cases eo26 | (injection eo26 with ea_ en_ ec_; (first | subst ea_ | (injection ea_ with ea_; subst ea_)); subst ec_; clear en_))
                              have GB26 := Aside0.mk gb26
                              have GG26 := Aside0.mk HG26
                              clear gb26 gl26 HG26
                              (first | simp only [add_plain] at hx276_0 | skip)
                              obtain ⟨hx26_0, hf26_0⟩ := Kd.R_celln 0 HO_10.out (x12_2 : Int) p26 q26
                              replace p26 := eq_true p26
                              replace q26 := eq_true q26
                              have HP28 := Kd.R_putg HO_10.out (x12_2 : Int) (Go.bits .xor .u16 (rd x10_2 x12_2) 1)
                              go_wp2_with (first | ((with_reducible refine gate_store (t := 22) (p := 70) rfl ?_); (try (rw [drewN_self wr]; generalize hq_ : World.drewN wr _ = wr; have n0_ := Aside0.mk (Kd.S_at hq_ HO_8.out); have n1_ := Aside0.mk (Kd.R_at hq_ HO_10.out); have n2_ := Aside0.mk (below_at hq_ HB.out); clear hq_ HO_8 HO_10 HB; have HO_8 := n0_; have HO_10 := n1_; have HB := n2_; clear n0_ n1_ n2_; (try (have HP28 := Kd.R_putg HO_10.out (x12_2 : Int) (Go.bits .xor .u16 (rd x10_2 x12_2) 1))))); refine store_event (t := 22) (p := 70) (v := ?vo_w29) (w1 := (wr.setCell ⟨go26, (x12_2 : Int).toNat, none⟩ (.int .u16 (Go.bits .xor .u16 (rd x10_2 x12_2) 1)))) ?hg ?ho ?hn ?hr ?_; (case ho => rfl); (case hg => rfl); (case hn => rfl); (case hr => first | (go_simp; done) | (go_simp; rfl)); intro w29 hw; have hg : wr.grownBy w29 (some go26) := (by rw [hw]; exact HP28.2); have hp_ : Kd.R (Kd.int .u16) 22 w29 w.heap.size (fun _ => True) (.slice (some ⟨go26, 0, none⟩) x10_2.length co27) y277 := (by rw [hw, Ny277.out]; exact HP28.1); clear HP28; have n0_ := Aside0.mk (Kd.S_after (v := (.slice (some ⟨go26, 0, none⟩) x10_2.length co27)) (v1 := (.slice (some ⟨go26, 0, none⟩) x10_2.length co27)) (ok := (fun _ => True)) (by (with_reducible repeat (first | apply Kd.S_alloc | apply Kd.S_drewN | apply Kd.S_drew)); exact Kd.S_mono HO_8.out (fun _ hk => ⟨trivial, hk⟩)) hg (.inl rfl)); have n1_ := Aside0.mk (hp_); have n2_ := Aside0.mk ((by rw [hw]; exact below_set (HB.out) GB26.out : Below w.heap.size w w29)); clear HO_8; clear HO_10; clear HB; have HO_8 := n0_; have HO_10 := n1_; have HB := n2_; clear n0_ n1_ n2_; clear hg hw hp_))
                              repeat (go_quiet (first | ((with_reducible refine gate_store (t := 22) (p := 70) rfl ?_); (try (rw [drewN_self wr]; generalize hq_ : World.drewN wr _ = wr; have n0_ := Aside0.mk (Kd.S_at hq_ HO_8.out); have n1_ := Aside0.mk (Kd.R_at hq_ HO_10.out); have n2_ := Aside0.mk (below_at hq_ HB.out); clear hq_ HO_8 HO_10 HB; have HO_8 := n0_; have HO_10 := n1_; have HB := n2_; clear n0_ n1_ n2_; (try (have HP28 := Kd.R_putg HO_10.out (x12_2 : Int) (Go.bits .xor .u16 (rd x10_2 x12_2) 1))))); refine store_event (t := 22) (p := 70) (v := ?vo_w29) (w1 := (wr.setCell ⟨go26, (x12_2 : Int).toNat, none⟩ (.int .u16 (Go.bits .xor .u16 (rd x10_2 x12_2) 1)))) ?hg ?ho ?hn ?hr ?_; (case ho => rfl); (case hg => rfl); (case hn => rfl); (case hr => first | (go_simp; done) | (go_simp; rfl)); intro w29 hw; have hg : wr.grownBy w29 (some go26) := (by rw [hw]; exact HP28.2); have hp_ : Kd.R (Kd.int .u16) 22 w29 w.heap.size (fun _ => True) (.slice (some ⟨go26, 0, none⟩) x10_2.length co27) y277 := (by rw [hw, Ny277.out]; exact HP28.1); clear HP28; have n0_ := Aside0.mk (Kd.S_after (v := (.slice (some ⟨go26, 0, none⟩) x10_2.length co27)) (v1 := (.slice (some ⟨go26, 0, none⟩) x10_2.length co27)) (ok := (fun _ => True)) (by (with_reducible repeat (first | apply Kd.S_alloc | apply Kd.S_drewN | apply Kd.S_drew)); exact Kd.S_mono HO_8.out (fun _ hk => ⟨trivial, hk⟩)) hg (.inl rfl)); have n1_ := Aside0.mk (hp_); have n2_ := Aside0.mk ((by rw [hw]; exact below_set (HB.out) GB26.out : Below w.heap.size w w29)); clear HO_8; clear HO_10; clear HB; have HO_8 := n0_; have HO_10 := n1_; have HB := n2_; clear n0_ n1_ n2_; clear hg hw hp_)); try go_wp2_with (first | ((with_reducible refine gate_store (t := 22) (p := 70) rfl ?_); (try (rw [drewN_self wr]; generalize hq_ : World.drewN wr _ = wr; have n0_ := Aside0.mk (Kd.S_at hq_ HO_8.out); have n1_ := Aside0.mk (Kd.R_at hq_ HO_10.out); have n2_ := Aside0.mk (below_at hq_ HB.out); clear hq_ HO_8 HO_10 HB; have HO_8 := n0_; have HO_10 := n1_; have HB := n2_; clear n0_ n1_ n2_; (try (have HP28 := Kd.R_putg HO_10.out (x12_2 : Int) (Go.bits .xor .u16 (rd x10_2 x12_2) 1))))); refine store_event (t := 22) (p := 70) (v := ?vo_w29) (w1 := (wr.setCell ⟨go26, (x12_2 : Int).toNat, none⟩ (.int .u16 (Go.bits .xor .u16 (rd x10_2 x12_2) 1)))) ?hg ?ho ?hn ?hr ?_; (case ho => rfl); (case hg => rfl); (case hn => rfl); (case hr => first | (go_simp; done) | (go_simp; rfl)); intro w29 hw; have hg : wr.grownBy w29 (some go26) := (by rw [hw]; exact HP28.2); have hp_ : Kd.R (Kd.int .u16) 22 w29 w.heap.size (fun _ => True) (.slice (some ⟨go26, 0, none⟩) x10_2.length co27) y277 := (by rw [hw, Ny277.out]; exact HP28.1); clear HP28; have n0_ := Aside0.mk (Kd.S_after (v := (.slice (some ⟨go26, 0, none⟩) x10_2.length co27)) (v1 := (.slice (some ⟨go26, 0, none⟩) x10_2.length co27)) (ok := (fun _ => True)) (by (with_reducible repeat (first | apply Kd.S_alloc | apply Kd.S_drewN | apply Kd.S_drew)); exact Kd.S_mono HO_8.out (fun _ hk => ⟨trivial, hk⟩)) hg (.inl rfl)); have n1_ := Aside0.mk (hp_); have n2_ := Aside0.mk ((by rw [hw]; exact below_set (HB.out) GB26.out : Below w.heap.size w w29)); clear HO_8; clear HO_10; clear HB; have HO_8 := n0_; have HO_10 := n1_; have HB := n2_; clear n0_ n1_ n2_; clear hg hw hp_)))
                              go_roundg k2
                              case measure => have := HJ5.out; have := HK2.out; omega
                              case rel => exact ⟨(y277), (wrap64 (x12_2 + 1)), (by first | rfl | (simp; done) | (simp [*]; done)), H', ⟨by have := HJ5.out; have := HK2.out; omega⟩, ⟨by (with_reducible repeat (first | apply Kd.S_alloc | apply Kd.S_drewN | apply Kd.S_drew)); exact Kd.S_mono HO_8.out (fun _ hk => hk.2)⟩, ⟨by (with_reducible repeat (first | apply Kd.R_alloc | apply Kd.R_drewN | apply Kd.R_drew)); exact HO_10.out⟩, ⟨by repeat (first | (with_reducible first | exact HB.out | apply below_alloc | apply pw_below_drewN | apply below_drew1) | exact HB.out)⟩⟩
                            · rw [if_neg c25] at H
                              exact absurd H (by simp)
                          · rw [if_neg c24] at H
                            exact absurd H (by simp)
                        · rw [if_neg c23] at H
                          have c23b0 : decide (x12_2 < (lt_.length : Int)) = false := decide_eq_false c23
                          clear c23
                          replace H := Option.bind_eq_some_iff.mp H
                          obtain ⟨⟨t278, t279⟩, A300, H⟩ := H
                          replace H : (if t267 = 0 then (if t279 = 0 then (if (t266.length : Int) = (wrap64 (1 + (Int.tmod (wrap64 (a0)) 4))) then (blackboardlaw6_WeavePlaces.j2 k2 lt_ (wrap64 (1 + (Int.tmod (wrap64 (a0)) 4))) t266 (Int.tmod (wrap64 (a2)) (lt_.length : Int)) t278 ((t278.length : Int) != (wrap64 (1 + (Int.tmod (wrap64 (a0)) 4))))) else (blackboardlaw6_WeavePlaces.j2 k2 lt_ (wrap64 (1 + (Int.tmod (wrap64 (a0)) 4))) t266 (Int.tmod (wrap64 (a2)) (lt_.length : Int)) t278 true)) else (blackboardlaw6_WeavePlaces.j2 k2 lt_ (wrap64 (1 + (Int.tmod (wrap64 (a0)) 4))) t266 (Int.tmod (wrap64 (a2)) (lt_.length : Int)) t278 true)) else (blackboardlaw6_WeavePlaces.j2 k2 lt_ (wrap64 (1 + (Int.tmod (wrap64 (a0)) 4))) t266 (Int.tmod (wrap64 (a2)) (lt_.length : Int)) t278 true)) = some r := H
                          have A30 := Aside0.mk A300
                          clear A300
                          have HC31 := Aside0.mk H
                          clear H
                          obtain ⟨Ao32, co32, eo32⟩ := Kd.R_slice HO_10.out
                          subst eo32
                          go_upto_region 17 with (first | (go_at_call 12; (with_reducible refine (weave_In.calls k2 (wrap64 (1 + (Int.tmod (wrap64 (a0)) 4))) _ _ x10_2 t278 t279 _ ?side1 ?side2 A30.out).mono ?_); (case side1 => repeat (first | exact (Kd.R_reads' HO_10.out).2.2 | (with_reducible refine Kd.C_alloc ?_ _) | (with_reducible refine Kd.C_drewN ?_ _) | (with_reducible refine Kd.C_drew ?_))); (case side2 => exact (Kd.R_reads' HO_10.out).2.1); rintro e w33 ⟨v280, rfl, ho0, hb⟩; have n0_ := Aside0.mk (Kd.S_elder' (by (with_reducible repeat (first | apply Kd.S_alloc | apply Kd.S_drewN | apply Kd.S_drew)); exact HO_8.out) (Kd.S_base ho0) hb); have n1_ := Aside0.mk (Kd.R_below (by (with_reducible repeat (first | apply Kd.R_alloc | apply Kd.R_drewN | apply Kd.R_drew)); exact HO_10.out) hb); have n2_ := Aside0.mk (Kd.S_lower (Kd.S_new' (Kd.S_new' ho0 (Kd.S_lt (by (with_reducible repeat (first | apply Kd.S_alloc | apply Kd.S_drewN | apply Kd.S_drew)); exact HO_8.out))) (Kd.R_lt (by (with_reducible repeat (first | apply Kd.R_alloc | apply Kd.R_drewN | apply Kd.R_drew)); exact HO_10.out))) (below_size (by repeat (first | (with_reducible first | exact HB.out | apply below_alloc | apply pw_below_drewN | apply below_drew1) | exact HB.out)))); have n3_ := Aside0.mk (below_step (by repeat (first | (with_reducible first | exact HB.out | apply below_alloc | apply pw_below_drewN | apply below_drew1) | exact HB.out)) hb); clear HO_8; clear HO_10; clear HB; have HO_8 := n0_; have HO_10 := n1_; have HO281 := n2_; have HB := n3_; clear n0_ n1_ n2_ n3_; (try clear hb); (try clear hb2); (try clear hk); (try clear hi); (try clear ho0)))
                          repeat (go_quiet (first | (go_at_call 12; (with_reducible refine (weave_In.calls k2 (wrap64 (1 + (Int.tmod (wrap64 (a0)) 4))) _ _ x10_2 t278 t279 _ ?side1 ?side2 A30.out).mono ?_); (case side1 => repeat (first | exact (Kd.R_reads' HO_10.out).2.2 | (with_reducible refine Kd.C_alloc ?_ _) | (with_reducible refine Kd.C_drewN ?_ _) | (with_reducible refine Kd.C_drew ?_))); (case side2 => exact (Kd.R_reads' HO_10.out).2.1); rintro e w33 ⟨v280, rfl, ho0, hb⟩; have n0_ := Aside0.mk (Kd.S_elder' (by (with_reducible repeat (first | apply Kd.S_alloc | apply Kd.S_drewN | apply Kd.S_drew)); exact HO_8.out) (Kd.S_base ho0) hb); have n1_ := Aside0.mk (Kd.R_below (by (with_reducible repeat (first | apply Kd.R_alloc | apply Kd.R_drewN | apply Kd.R_drew)); exact HO_10.out) hb); have n2_ := Aside0.mk (Kd.S_lower (Kd.S_new' (Kd.S_new' ho0 (Kd.S_lt (by (with_reducible repeat (first | apply Kd.S_alloc | apply Kd.S_drewN | apply Kd.S_drew)); exact HO_8.out))) (Kd.R_lt (by (with_reducible repeat (first | apply Kd.R_alloc | apply Kd.R_drewN | apply Kd.R_drew)); exact HO_10.out))) (below_size (by repeat (first | (with_reducible first | exact HB.out | apply below_alloc | apply pw_below_drewN | apply below_drew1) | exact HB.out)))); have n3_ := Aside0.mk (below_step (by repeat (first | (with_reducible first | exact HB.out | apply below_alloc | apply pw_below_drewN | apply below_drew1) | exact HB.out)) hb); clear HO_8; clear HO_10; clear HB; have HO_8 := n0_; have HO_10 := n1_; have HO281 := n2_; have HB := n3_; clear n0_ n1_ n2_ n3_; (try clear hb); (try clear hb2); (try clear hk); (try clear hi); (try clear ho0))); go_upto_region 17 with (first | (go_at_call 12; (with_reducible refine (weave_In.calls k2 (wrap64 (1 + (Int.tmod (wrap64 (a0)) 4))) _ _ x10_2 t278 t279 _ ?side1 ?side2 A30.out).mono ?_); (case side1 => repeat (first | exact (Kd.R_reads' HO_10.out).2.2 | (with_reducible refine Kd.C_alloc ?_ _) | (with_reducible refine Kd.C_drewN ?_ _) | (with_reducible refine Kd.C_drew ?_))); (case side2 => exact (Kd.R_reads' HO_10.out).2.1); rintro e w33 ⟨v280, rfl, ho0, hb⟩; have n0_ := Aside0.mk (Kd.S_elder' (by (with_reducible repeat (first | apply Kd.S_alloc | apply Kd.S_drewN | apply Kd.S_drew)); exact HO_8.out) (Kd.S_base ho0) hb); have n1_ := Aside0.mk (Kd.R_below (by (with_reducible repeat (first | apply Kd.R_alloc | apply Kd.R_drewN | apply Kd.R_drew)); exact HO_10.out) hb); have n2_ := Aside0.mk (Kd.S_lower (Kd.S_new' (Kd.S_new' ho0 (Kd.S_lt (by (with_reducible repeat (first | apply Kd.S_alloc | apply Kd.S_drewN | apply Kd.S_drew)); exact HO_8.out))) (Kd.R_lt (by (with_reducible repeat (first | apply Kd.R_alloc | apply Kd.R_drewN | apply Kd.R_drew)); exact HO_10.out))) (below_size (by repeat (first | (with_reducible first | exact HB.out | apply below_alloc | apply pw_below_drewN | apply below_drew1) | exact HB.out)))); have n3_ := Aside0.mk (below_step (by repeat (first | (with_reducible first | exact HB.out | apply below_alloc | apply pw_below_drewN | apply below_drew1) | exact HB.out)) hb); clear HO_8; clear HO_10; clear HB; have HO_8 := n0_; have HO_10 := n1_; have HO281 := n2_; have HB := n3_; clear n0_ n1_ n2_ n3_; (try clear hb); (try clear hb2); (try clear hk); (try clear hi); (try clear ho0))))
                          (try simp only [Act.put, List.setIfInBounds_toArray, List.set_cons_zero, List.set_cons_succ])
                          go_cut [94] (fun v94 wc => ∃ (kq : Nat) (x94_30 : Bool), v94 = .bool x94_30 ∧ Aside0 (blackboardlaw6_WeavePlaces.j2 kq lt_ (wrap64 (1 + (Int.tmod (wrap64 (a0)) 4))) t266 (Int.tmod (wrap64 (a2)) (lt_.length : Int)) t278 x94_30 = some r) ∧ Aside0 (kq ≤ k2) ∧ Aside0 (Kd.S (Kd.slice 22 (Kd.int .u16)) 27 wc w.heap.size (fun k_ => some k_ ≠ (v280 : Value).ownBlock) v268 t266) ∧ Aside0 (Kd.S (Kd.slice 22 (Kd.int .u16)) 27 wc w.heap.size (fun k_ => some k_ ≠ (v268 : Value).ownBlock) v280 t278) ∧ Aside0 (Below w.heap.size w wc))
                          case first =>
                            have H := HC31.out
                            clear HC31
                            by_cases c34 : t267 = 0
                            · rw [if_pos c34] at H
                              have c34b0 : (t267 == 0) = true := beq_iff_eq.mpr c34
                              have c34b1 : (t267 != 0) = false := bne_eq_false_iff_eq.mpr c34
                              clear c34
                              (first | rw [c34b0] | (simp only [i64_w, i32_w]; rw [c34b0]) | skip)
                              by_cases c35 : t279 = 0
                              · rw [if_pos c35] at H
                                have c35b0 : (t279 == 0) = true := beq_iff_eq.mpr c35
                                have c35b1 : (t279 != 0) = false := bne_eq_false_iff_eq.mpr c35
                                clear c35
                                by_cases c36 : (t266.length : Int) = (wrap64 (1 + (Int.tmod (wrap64 (a0)) 4)))
                                · rw [if_pos c36] at H
                                  have c36b0 : ((t266.length : Int) == (wrap64 (1 + (Int.tmod (wrap64 (a0)) 4)))) = true := beq_iff_eq.mpr c36
                                  have c36b1 : ((t266.length : Int) != (wrap64 (1 + (Int.tmod (wrap64 (a0)) 4)))) = false := bne_eq_false_iff_eq.mpr c36
                                  clear c36
                                  have H' := Aside0.mk H
                                  clear H
                                  obtain ⟨Ao37, co37, eo37⟩ := Kd.S_slice HO_8.out
                                  subst eo37
                                  obtain ⟨Ao38, co38, eo38⟩ := Kd.S_slice HO281.out
                                  subst eo38
                                  go_wp2
                                  repeat (go_quiet (fail); try go_wp2)
                                  go_meet
                                  case rel => exact ⟨_, (((t278.length : Int) != (wrap64 (1 + (Int.tmod (wrap64 (a0)) 4))))), (by first | rfl | (simp; done) | (simp [*]; done)), H', ⟨by have := HJ5.out; have := HK2.out; first | omega | exact Nat.le_refl _⟩, ⟨by (with_reducible repeat (first | apply Kd.S_alloc | apply Kd.S_drewN | apply Kd.S_drew)); exact Kd.S_mono HO_8.out (fun _ hk => hk.2)⟩, ⟨by (with_reducible repeat (first | apply Kd.S_alloc | apply Kd.S_drewN | apply Kd.S_drew)); exact Kd.S_mono HO281.out (fun _ hk => hk.1.2)⟩, ⟨by repeat (first | (with_reducible first | exact HB.out | apply below_alloc | apply pw_below_drewN | apply below_drew1) | exact HB.out)⟩⟩
                                · rw [if_neg c36] at H
                                  have c36b0 : ((t266.length : Int) == (wrap64 (1 + (Int.tmod (wrap64 (a0)) 4)))) = false := beq_eq_false_iff_ne.mpr c36
                                  have c36b1 : ((t266.length : Int) != (wrap64 (1 + (Int.tmod (wrap64 (a0)) 4)))) = true := bne_iff_ne.mpr c36
                                  have H' := Aside0.mk H
                                  clear H
                                  obtain ⟨Ao39, co39, eo39⟩ := Kd.S_slice HO_8.out
                                  subst eo39
                                  go_wp2
                                  repeat (go_quiet (fail); try go_wp2)
                                  go_meet
                                  case rel => exact ⟨_, (true), (by first | rfl | (simp; done) | (simp [*]; done)), H', ⟨by have := HJ5.out; have := HK2.out; first | omega | exact Nat.le_refl _⟩, ⟨by (with_reducible repeat (first | apply Kd.S_alloc | apply Kd.S_drewN | apply Kd.S_drew)); exact Kd.S_mono HO_8.out (fun _ hk => hk.2)⟩, ⟨by (with_reducible repeat (first | apply Kd.S_alloc | apply Kd.S_drewN | apply Kd.S_drew)); exact Kd.S_mono HO281.out (fun _ hk => hk.1.2)⟩, ⟨by repeat (first | (with_reducible first | exact HB.out | apply below_alloc | apply pw_below_drewN | apply below_drew1) | exact HB.out)⟩⟩
                              · rw [if_neg c35] at H
                                have c35b0 : (t279 == 0) = false := beq_eq_false_iff_ne.mpr c35
                                have c35b1 : (t279 != 0) = true := bne_iff_ne.mpr c35
                                have H' := Aside0.mk H
                                clear H
                                go_wp2
                                repeat (go_quiet (fail); try go_wp2)
                                go_meet
                                case rel => exact ⟨_, (true), (by first | rfl | (simp; done) | (simp [*]; done)), H', ⟨by have := HJ5.out; have := HK2.out; first | omega | exact Nat.le_refl _⟩, ⟨by (with_reducible repeat (first | apply Kd.S_alloc | apply Kd.S_drewN | apply Kd.S_drew)); exact Kd.S_mono HO_8.out (fun _ hk => hk.2)⟩, ⟨by (with_reducible repeat (first | apply Kd.S_alloc | apply Kd.S_drewN | apply Kd.S_drew)); exact Kd.S_mono HO281.out (fun _ hk => hk.1.2)⟩, ⟨by repeat (first | (with_reducible first | exact HB.out | apply below_alloc | apply pw_below_drewN | apply below_drew1) | exact HB.out)⟩⟩
                            · rw [if_neg c34] at H
                              have c34b0 : (t267 == 0) = false := beq_eq_false_iff_ne.mpr c34
                              have c34b1 : (t267 != 0) = true := bne_iff_ne.mpr c34
                              (first | rw [c34b0] | (simp only [i64_w, i32_w]; rw [c34b0]) | skip)
                              have H' := Aside0.mk H
                              clear H
                              go_wp2
                              repeat (go_quiet (fail); try go_wp2)
                              go_meet
                              case rel => exact ⟨_, (true), (by first | rfl | (simp; done) | (simp [*]; done)), H', ⟨by have := HJ5.out; have := HK2.out; first | omega | exact Nat.le_refl _⟩, ⟨by (with_reducible repeat (first | apply Kd.S_alloc | apply Kd.S_drewN | apply Kd.S_drew)); exact Kd.S_mono HO_8.out (fun _ hk => hk.2)⟩, ⟨by (with_reducible repeat (first | apply Kd.S_alloc | apply Kd.S_drewN | apply Kd.S_drew)); exact Kd.S_mono HO281.out (fun _ hk => hk.1.2)⟩, ⟨by repeat (first | (with_reducible first | exact HB.out | apply below_alloc | apply pw_below_drewN | apply below_drew1) | exact HB.out)⟩⟩
                          case rest =>
                            clear HC31
                            try clear c1
                            try clear c2
                            try clear p2
                            try clear q2
                            try clear hx2
                            try clear c3
                            try clear c5
                            try clear c6
                            try clear p6
                            try clear c8
                            try clear c8b0
                            try clear c8b1
                            try clear c8b2
                            try clear c9
                            try clear c10
                            try clear c10b0
                            try clear c10b1
                            try clear c12
                            try clear c12b0
                            try clear c12b1
                            try clear c13
                            try clear c13b0
                            try clear c13b1
                            try clear c14
                            try clear c14b0
                            try clear c14b1
                            try clear c14b2
                            try clear c17
                            try clear c23
                            try clear c23b0
                            try clear c24
                            try clear c24b0
                            try clear c25
                            try clear c25b0
                            try clear p26
                            try clear q26
                            try clear hx26
                            try clear hf26
                            try clear p27
                            try clear q27
                            try clear hx27
                            try clear c34
                            try clear c34b0
                            try clear c34b1
                            try clear c35
                            try clear c35b0
                            try clear c35b1
                            try clear c36
                            try clear c36b0
                            try clear c36b1
                            try clear hx26_0
                            try clear hx276_0
                            try clear p2
                            try clear p26
                            try clear p276
                            try clear p6
                            try clear q26
                            try clear q276
                            obtain ⟨kq, x94_30, rfl, HA, HJ30, HO_8, HO_13, HB⟩ := hcut
                            cases kq with
                            | zero => exact absurd HA.out (by simp [blackboardlaw6_WeavePlaces.j2])
                            | succ kj30 =>
                              have H := HA.out
                              clear HA
                              simp only [blackboardlaw6_WeavePlaces.j2] at H
                              by_cases c40 : x94_30 = true
                              · subst c40
                                have H1 : (some false) = some r := by rw [if_pos rfl] at H; exact H
                                clear H
                                have H := H1
                                clear H1
                                obtain rfl := Option.some.inj H
                                go_wp2
                                repeat (go_quiet (fail); try go_wp2)
                                go_ret
                                exact ⟨by first | rfl | (simp [errW_none, errW_some] <;> rfl) | (simp only [← hji11]; first | rfl | (simp [errW_none, errW_some] <;> rfl)) | (simp [*, errW_none, errW_some] <;> rfl), by repeat (first | (with_reducible first | exact HB.out | apply below_alloc | apply pw_below_drewN | apply below_drew1) | exact HB.out)⟩
                              · replace c40 := Bool.eq_false_iff.mpr c40
                                subst c40
                                have H1 : ((weave_Burst.f (wrap64 (1 + (Int.tmod (wrap64 (a0)) 4))) (Int.tmod (wrap64 (a2)) (lt_.length : Int)) (wrap64 ((lt_.length : Int) - (Int.tmod (wrap64 (a2)) (lt_.length : Int))))).bind fun t282 => (blackboardlaw6_WeavePlaces.l1 kj30 lt_ (wrap64 (1 + (Int.tmod (wrap64 (a0)) 4))) t266 t278 t282 0)) = some r := by rw [if_neg (show ¬ (false = true) by decide)] at H; exact H
                                clear H
                                have H := H1
                                clear H1
                                replace H := Option.bind_eq_some_iff.mp H
                                obtain ⟨t282, A410, H⟩ := H
                                replace H : (blackboardlaw6_WeavePlaces.l1 kj30 lt_ (wrap64 (1 + (Int.tmod (wrap64 (a0)) 4))) t266 t278 t282 0) = some r := H
                                have A41 := Aside0.mk A410
                                clear A410
                                have H' := Aside0.mk H
                                clear H
                                go_wp2_with (first | (go_at_call 16; (with_reducible refine (weave_Burst.calls (wrap64 (1 + (Int.tmod (wrap64 (a0)) 4))) (Int.tmod (wrap64 (a2)) (lt_.length : Int)) (wrap64 ((lt_.length : Int) - (Int.tmod (wrap64 (a2)) (lt_.length : Int)))) t282 _ A41.out).mono ?_); rintro e w' ⟨rfl, ⟨nd, rfl⟩⟩; (try first | exact ⟨rfl, _, World.drewN_drewN _ _ _⟩ | exact ⟨rfl, _, Eq.trans (World.drewN_drewN _ _ _) (congrArg (World.drewN _) (Nat.add_assoc _ _ _))⟩)))
                                repeat (go_quiet (first | (go_at_call 16; (with_reducible refine (weave_Burst.calls (wrap64 (1 + (Int.tmod (wrap64 (a0)) 4))) (Int.tmod (wrap64 (a2)) (lt_.length : Int)) (wrap64 ((lt_.length : Int) - (Int.tmod (wrap64 (a2)) (lt_.length : Int)))) t282 _ A41.out).mono ?_); rintro e w' ⟨rfl, ⟨nd, rfl⟩⟩; (try first | exact ⟨rfl, _, World.drewN_drewN _ _ _⟩ | exact ⟨rfl, _, Eq.trans (World.drewN_drewN _ _ _) (congrArg (World.drewN _) (Nat.add_assoc _ _ _))⟩))); try go_wp2_with (first | (go_at_call 16; (with_reducible refine (weave_Burst.calls (wrap64 (1 + (Int.tmod (wrap64 (a0)) 4))) (Int.tmod (wrap64 (a2)) (lt_.length : Int)) (wrap64 ((lt_.length : Int) - (Int.tmod (wrap64 (a2)) (lt_.length : Int)))) t282 _ A41.out).mono ?_); rintro e w' ⟨rfl, ⟨nd, rfl⟩⟩; (try first | exact ⟨rfl, _, World.drewN_drewN _ _ _⟩ | exact ⟨rfl, _, Eq.trans (World.drewN_drewN _ _ _) (congrArg (World.drewN _) (Nat.add_assoc _ _ _))⟩))))
                                go_loopg [16] kj30 (fun kq v16 w' => ∃ (x16_4 : Int), v16 = .int .i64 x16_4 ∧ Aside0 (blackboardlaw6_WeavePlaces.l1 kq lt_ (wrap64 (1 + (Int.tmod (wrap64 (a0)) 4))) t266 t278 t282 x16_4 = some r) ∧ Aside0 (kq ≤ kj30) ∧ Aside0 (Kd.S (Kd.slice 22 (Kd.int .u16)) 27 w' w.heap.size (fun k_ => some k_ ≠ (v280 : Value).ownBlock) v268 t266) ∧ Aside0 (Kd.S (Kd.slice 22 (Kd.int .u16)) 27 w' w.heap.size (fun k_ => some k_ ≠ (v268 : Value).ownBlock) v280 t278) ∧ Aside0 (Below w.heap.size w w'))
                                case atStart => exact ⟨(0), (by first | rfl | (simp; done) | (simp [*]; done)), H', ⟨Nat.le_refl _⟩, ⟨by (with_reducible repeat (first | apply Kd.S_alloc | apply Kd.S_drewN | apply Kd.S_drew)); exact HO_8.out⟩, ⟨by (with_reducible repeat (first | apply Kd.S_alloc | apply Kd.S_drewN | apply Kd.S_drew)); exact HO_13.out⟩, ⟨by repeat (first | (with_reducible first | exact HB.out | apply below_alloc | apply pw_below_drewN | apply below_drew1) | exact HB.out)⟩⟩
                                case round =>
                                  clear H'
                                  try clear c1
                                  try clear c2
                                  try clear p2
                                  try clear q2
                                  try clear hx2
                                  try clear c3
                                  try clear c4
                                  try clear c5
                                  try clear c6
                                  try clear p6
                                  try clear c8
                                  try clear c8b0
                                  try clear c8b1
                                  try clear c8b2
                                  try clear c9
                                  try clear c10
                                  try clear c10b0
                                  try clear c10b1
                                  try clear c12
                                  try clear c12b0
                                  try clear c12b1
                                  try clear c13
                                  try clear c13b0
                                  try clear c13b1
                                  try clear c14
                                  try clear c14b0
                                  try clear c14b1
                                  try clear c14b2
                                  try clear c17
                                  try clear c23
                                  try clear c23b0
                                  try clear c24
                                  try clear c24b0
                                  try clear c25
                                  try clear c25b0
                                  try clear p26
                                  try clear q26
                                  try clear hx26
                                  try clear hf26
                                  try clear p27
                                  try clear q27
                                  try clear hx27
                                  try clear c34
                                  try clear c34b0
                                  try clear c34b1
                                  try clear c35
                                  try clear c35b0
                                  try clear c35b1
                                  try clear c36
                                  try clear c36b0
                                  try clear c36b1
                                  try clear c40
                                  try clear hx26_0
                                  try clear hx276_0
                                  try clear p2
                                  try clear p26
                                  try clear p27
                                  try clear p276
                                  try clear p6
                                  try clear q2
                                  try clear q26
                                  try clear q27
                                  try clear q276
                                  obtain ⟨x16_4, rfl, HA, HK4, HO_8, HO_13, HB⟩ := hrel
                                  cases gk with
                                  | zero => exact absurd HA.out (by simp [blackboardlaw6_WeavePlaces.l1])
                                  | succ k4 =>
                                    have H := HA.out
                                    clear HA
                                    simp only [blackboardlaw6_WeavePlaces.l1] at H
                                    by_cases c42 : x16_4 < (wrap64 (1 + (Int.tmod (wrap64 (a0)) 4)))
                                    · rw [if_pos c42] at H
                                      have c42b0 : decide (x16_4 < (wrap64 (1 + (Int.tmod (wrap64 (a0)) 4)))) = true := decide_eq_true c42
                                      clear c42
                                      have H' := Aside0.mk H
                                      clear H
                                      go_wp2
                                      repeat (go_quiet (fail); try go_wp2)
                                      go_loopg [17, 18] k4 (fun kq v17 v18 w' => ∃ (x17_5 : Int) (x18_5 : Int), v17 = .int .i64 x17_5 ∧ v18 = .int .i64 x18_5 ∧ Aside0 (blackboardlaw6_WeavePlaces.l2 kq lt_ (wrap64 (1 + (Int.tmod (wrap64 (a0)) 4))) t266 t278 t282 x16_4 x17_5 x18_5 = some r) ∧ Aside0 (kq ≤ k4) ∧ Aside0 (Kd.S (Kd.slice 22 (Kd.int .u16)) 27 w' w.heap.size (fun k_ => some k_ ≠ (v280 : Value).ownBlock) v268 t266) ∧ Aside0 (Kd.S (Kd.slice 22 (Kd.int .u16)) 27 w' w.heap.size (fun k_ => some k_ ≠ (v268 : Value).ownBlock) v280 t278) ∧ Aside0 (Below w.heap.size w w'))
                                      case atStart => exact ⟨(0), (0), (by first | rfl | (simp; done) | (simp [*]; done)), (by first | rfl | (simp; done) | (simp [*]; done)), H', ⟨Nat.le_refl _⟩, ⟨by (with_reducible repeat (first | apply Kd.S_alloc | apply Kd.S_drewN | apply Kd.S_drew)); exact HO_8.out⟩, ⟨by (with_reducible repeat (first | apply Kd.S_alloc | apply Kd.S_drewN | apply Kd.S_drew)); exact HO_13.out⟩, ⟨by repeat (first | (with_reducible first | exact HB.out | apply below_alloc | apply pw_below_drewN | apply below_drew1) | exact HB.out)⟩⟩
                                      case round =>
                                        clear H'
                                        try clear c1
                                        try clear c2
                                        try clear p2
                                        try clear q2
                                        try clear hx2
                                        try clear c3
                                        try clear c4
                                        try clear c5
                                        try clear c6
                                        try clear p6
                                        try clear c8
                                        try clear c8b0
                                        try clear c8b1
                                        try clear c8b2
                                        try clear c9
                                        try clear c10
                                        try clear c10b0
                                        try clear c10b1
                                        try clear c12
                                        try clear c12b0
                                        try clear c12b1
                                        try clear c13
                                        try clear c13b0
                                        try clear c13b1
                                        try clear c14
                                        try clear c14b0
                                        try clear c14b1
                                        try clear c14b2
                                        try clear c17
                                        try clear c23
                                        try clear c23b0
                                        try clear c24
                                        try clear c24b0
                                        try clear c25
                                        try clear c25b0
                                        try clear p26
                                        try clear q26
                                        try clear hx26
                                        try clear hf26
                                        try clear p27
                                        try clear q27
                                        try clear hx27
                                        try clear c34
                                        try clear c34b0
                                        try clear c34b1
                                        try clear c35
                                        try clear c35b0
                                        try clear c35b1
                                        try clear c36
                                        try clear c36b0
                                        try clear c36b1
                                        try clear c40
                                        try clear c42
                                        try clear c42b0
                                        try clear hx26_0
                                        try clear hx276_0
                                        try clear p2
                                        try clear p26
                                        try clear p27
                                        try clear p276
                                        try clear p6
                                        try clear q2
                                        try clear q26
                                        try clear q27
                                        try clear q276
                                        obtain ⟨x17_5, x18_5, rfl, rfl, HA, HK5, HO_8, HO_13, HB⟩ := hrel
                                        cases gk with
                                        | zero => exact absurd HA.out (by simp [blackboardlaw6_WeavePlaces.l2])
                                        | succ k5 =>
                                          have H := HA.out
                                          clear HA
                                          simp only [blackboardlaw6_WeavePlaces.l2] at H
                                          by_cases c43 : 0 ≤ x16_4
                                          · rw [if_pos c43] at H
                                            have c43b0 : decide (0 ≤ x16_4) = true := decide_eq_true c43
                                            clear c43
                                            by_cases c44 : x16_4 < (t266.length : Int)
                                            · rw [if_pos c44] at H
                                              have c44b0 : decide (x16_4 < (t266.length : Int)) = true := decide_eq_true c44
                                              clear c44
                                              by_cases c45 : x18_5 < ((rd_L1 t266 x16_4).length : Int)
                                              · rw [if_pos c45] at H
                                                have c45b0 : decide (x18_5 < ((rd_L1 t266 x16_4).length : Int)) = true := decide_eq_true c45
                                                clear c45
                                                by_cases c46 : 0 ≤ x18_5
                                                · rw [if_pos c46] at H
                                                  have c46b0 : decide (0 ≤ x18_5) = true := decide_eq_true c46
                                                  clear c46
                                                  obtain ⟨ji47, hji47⟩ : ∃ j_ : Int, (wrap64 ((wrap64 (x18_5 * (wrap64 (1 + (Int.tmod (wrap64 (a0)) 4))))) + x16_4)) = j_ := ⟨_, rfl⟩
                                                  replace H : (if 0 ≤ (ji47) then (if (ji47) < (lt_.length : Int) then (if (rd (rd_L1 t266 x16_4) x18_5) = (rd lt_ (ji47)) then (if x16_4 < (t278.length : Int) then (if x18_5 < ((rd_L1 t278 x16_4).length : Int) then (if (rd (rd_L1 t266 x16_4) x18_5) = (rd (rd_L1 t278 x16_4) x18_5) then (blackboardlaw6_WeavePlaces.l2 k5 lt_ (wrap64 (1 + (Int.tmod (wrap64 (a0)) 4))) t266 t278 t282 x16_4 x17_5 (wrap64 (x18_5 + 1))) else (blackboardlaw6_WeavePlaces.l2 k5 lt_ (wrap64 (1 + (Int.tmod (wrap64 (a0)) 4))) t266 t278 t282 x16_4 (wrap64 (x17_5 + 1)) (wrap64 (x18_5 + 1)))) else (none)) else (none)) else (some false)) else (none)) else (none)) = some r := by first | (rw [hji47] at H; exact H) | (simp only [hji47] at H ⊢; exact H)
                                                  have hji47w : (IntKind.i64.wrap ((wrap64 (x18_5 * (wrap64 (1 + (Int.tmod (wrap64 (a0)) 4))))) + x16_4)) = ji47 := (i64_w _).trans hji47
                                                  by_cases c48 : 0 ≤ (ji47)
                                                  · rw [if_pos c48] at H
                                                    have c48b0 : decide (0 ≤ (ji47)) = true := decide_eq_true c48
                                                    clear c48
                                                    by_cases c49 : (ji47) < (lt_.length : Int)
                                                    · rw [if_pos c49] at H
                                                      have c49b0 : decide ((ji47) < (lt_.length : Int)) = true := decide_eq_true c49
                                                      clear c49
                                                      by_cases c50 : (rd (rd_L1 t266 x16_4) x18_5) = (rd lt_ (ji47))
                                                      · rw [if_pos c50] at H
                                                        have c50b0 : ((rd (rd_L1 t266 x16_4) x18_5) == (rd lt_ (ji47))) = true := beq_iff_eq.mpr c50
                                                        have c50b1 : ((rd (rd_L1 t266 x16_4) x18_5) != (rd lt_ (ji47))) = false := bne_eq_false_iff_eq.mpr c50
                                                        clear c50
                                                        by_cases c51 : x16_4 < (t278.length : Int)
                                                        · rw [if_pos c51] at H
                                                          have c51b0 : decide (x16_4 < (t278.length : Int)) = true := decide_eq_true c51
                                                          clear c51
                                                          by_cases c52 : x18_5 < ((rd_L1 t278 x16_4).length : Int)
                                                          · rw [if_pos c52] at H
                                                            have c52b0 : decide (x18_5 < ((rd_L1 t278 x16_4).length : Int)) = true := decide_eq_true c52
                                                            clear c52
                                                            by_cases c53 : (rd (rd_L1 t266 x16_4) x18_5) = (rd (rd_L1 t278 x16_4) x18_5)
                                                            · rw [if_pos c53] at H
                                                              have c53b0 : ((rd (rd_L1 t266 x16_4) x18_5) == (rd (rd_L1 t278 x16_4) x18_5)) = true := beq_iff_eq.mpr c53
                                                              have c53b1 : ((rd (rd_L1 t266 x16_4) x18_5) != (rd (rd_L1 t278 x16_4) x18_5)) = false := bne_eq_false_iff_eq.mpr c53
                                                              clear c53
                                                              have H' := Aside0.mk H
                                                              clear H
                                                              obtain ⟨Ao54, co54, eo54⟩ := Kd.S_slice HO_8.out
                                                              subst eo54
                                                              have p283 : 0 ≤ (x16_4 : Int) := of_decide_eq_true (by first | (with_reducible assumption) | assumption)
                                                              have q283 : x16_4 < (t266.length : Int) := of_decide_eq_true (by first | (with_reducible assumption) | assumption)
                                                              obtain ⟨ad283, A283_0, c283_0, e283, hx283_0, hl283_0, hi283_0⟩ := at_L1 (Kd.S_reads' HO_8.out).2.2 x16_4 p283 q283
                                                              cases e283
                                                              obtain ⟨ce283, hce283, hMe283, hcc283⟩ := Kd.S_get HO_8.out [] x16_4 p283 (by first | exact q283 | exact of_decide_eq_true (by first | (with_reducible assumption) | assumption) | (have e_ := (Kd.S_reads' HO_8.out).1; omega))
                                                              obtain ⟨ve283_0, rfl, ge283_0⟩ := hMe283
                                                              have hv283_0 := hcc283 0 _ rfl
                                                              rw [Nat.add_zero, show ((Kd.slice 22 (Kd.int .u16))).sz = 1 from rfl, Nat.mul_one] at hv283_0
                                                              replace hv283_0 := Option.some.inj (hv283_0.symm.trans hx283_0)
                                                              rw [hv283_0] at ge283_0
                                                              have HL283_0 := Aside0.mk (show Kd.R (Kd.int .u16) 22 _ _ _ _ (rd_L1 t266 x16_4) from ge283_0)
                                                              clear hv283_0 ge283_0
                                                              clear hcc283 hce283
                                                              have HR283_0 := Aside0.mk hi283_0
                                                              have HC283_0 := Aside0.mk hl283_0
                                                              clear hi283_0 hl283_0
                                                              replace p283 := eq_true p283
                                                              replace q283 := eq_true q283
                                                              have p284 : 0 ≤ (x16_4 : Int) := of_decide_eq_true (by first | (with_reducible assumption) | assumption)
                                                              have q284 : x16_4 < (t266.length : Int) := of_decide_eq_true (by first | (with_reducible assumption) | assumption)
                                                              obtain ⟨ad284, A284_0, c284_0, e284, hx284_0, hl284_0, hi284_0⟩ := at_L1 (Kd.S_reads' HO_8.out).2.2 x16_4 p284 q284
                                                              obtain rfl : ad283 = ad284 := (by injection e284)
                                                              obtain ⟨ce284, hce284, hMe284, hcc284⟩ := Kd.S_get HO_8.out [] x16_4 p284 (by first | exact q284 | exact of_decide_eq_true (by first | (with_reducible assumption) | assumption) | (have e_ := (Kd.S_reads' HO_8.out).1; omega))
                                                              obtain ⟨ve284_0, rfl, ge284_0⟩ := hMe284
                                                              have hv284_0 := hcc284 0 _ rfl
                                                              rw [Nat.add_zero, show ((Kd.slice 22 (Kd.int .u16))).sz = 1 from rfl, Nat.mul_one] at hv284_0
                                                              replace hv284_0 := Option.some.inj (hv284_0.symm.trans hx284_0)
                                                              rw [hv284_0] at ge284_0
                                                              have HL284_0 := Aside0.mk (show Kd.R (Kd.int .u16) 22 _ _ _ _ (rd_L1 t266 x16_4) from ge284_0)
                                                              clear hv284_0 ge284_0
                                                              clear hcc284 hce284
                                                              have HR284_0 := Aside0.mk hi284_0
                                                              have HC284_0 := Aside0.mk hl284_0
                                                              clear hi284_0 hl284_0
                                                              replace p284 := eq_true p284
                                                              replace q284 := eq_true q284
                                                              have ea_ := Option.some.inj (hx283_0.symm.trans hx284_0)
                                                              injection ea_ with ea_ en_ ec_
                                                              subst ea_
                                                              subst ec_
                                                              clear en_
                                                              have p285 : 0 ≤ (x18_5 : Int) := of_decide_eq_true (by first | (with_reducible assumption) | assumption)
                                                              have q285 : x18_5 < ((rd_L1 t266 x16_4).length : Int) := of_decide_eq_true (by first | (with_reducible assumption) | assumption)
                                                              obtain ⟨ad285, e285, hx285_0⟩ := Kd.at_int (by repeat (first | (with_reducible exact HR284_0.out) | (with_reducible refine Kd.C_alloc ?_ _) | (with_reducible refine Kd.C_drewN ?_ _) | (with_reducible refine Kd.C_drew ?_) | exact HR284_0.out)) x18_5 p285 q285
                                                              cases e285
                                                              replace p285 := eq_true p285
                                                              replace q285 := eq_true q285
                                                              have p286 : 0 ≤ ((ji47) : Int) := of_decide_eq_true (by first | (with_reducible assumption) | assumption)
                                                              have q286 : (ji47) < (lt_.length : Int) := of_decide_eq_true (by first | (with_reducible assumption) | assumption)
                                                              obtain ⟨ad286, e286, hx286_0⟩ := Kd.at_int HR265.out (ji47) p286 q286
                                                              cases e286
                                                              replace hx286_0 := (HB.out.cell (World.block_lt_of_cell? w _ hx286_0)).trans hx286_0
                                                              replace p286 := eq_true p286
                                                              replace q286 := eq_true q286
                                                              have p287 : 0 ≤ (x16_4 : Int) := of_decide_eq_true (by first | (with_reducible assumption) | assumption)
                                                              have q287 : x16_4 < (t266.length : Int) := of_decide_eq_true (by first | (with_reducible assumption) | assumption)
                                                              obtain ⟨ad287, A287_0, c287_0, e287, hx287_0, hl287_0, hi287_0⟩ := at_L1 (Kd.S_reads' HO_8.out).2.2 x16_4 p287 q287
                                                              obtain rfl : ad283 = ad287 := (by injection e287)
                                                              obtain ⟨ce287, hce287, hMe287, hcc287⟩ := Kd.S_get HO_8.out [] x16_4 p287 (by first | exact q287 | exact of_decide_eq_true (by first | (with_reducible assumption) | assumption) | (have e_ := (Kd.S_reads' HO_8.out).1; omega))
                                                              obtain ⟨ve287_0, rfl, ge287_0⟩ := hMe287
                                                              have hv287_0 := hcc287 0 _ rfl
                                                              rw [Nat.add_zero, show ((Kd.slice 22 (Kd.int .u16))).sz = 1 from rfl, Nat.mul_one] at hv287_0
                                                              replace hv287_0 := Option.some.inj (hv287_0.symm.trans hx287_0)
                                                              rw [hv287_0] at ge287_0
                                                              have HL287_0 := Aside0.mk (show Kd.R (Kd.int .u16) 22 _ _ _ _ (rd_L1 t266 x16_4) from ge287_0)
                                                              clear hv287_0 ge287_0
                                                              clear hcc287 hce287
                                                              have HR287_0 := Aside0.mk hi287_0
                                                              have HC287_0 := Aside0.mk hl287_0
                                                              clear hi287_0 hl287_0
                                                              replace p287 := eq_true p287
                                                              replace q287 := eq_true q287
                                                              have ea_ := Option.some.inj (hx283_0.symm.trans hx287_0)
                                                              injection ea_ with ea_ en_ ec_
                                                              subst ea_
                                                              subst ec_
                                                              clear en_
                                                              have p288 : 0 ≤ (x18_5 : Int) := of_decide_eq_true (by first | (with_reducible assumption) | assumption)
                                                              have q288 : x18_5 < ((rd_L1 t266 x16_4).length : Int) := of_decide_eq_true (by first | (with_reducible assumption) | assumption)
                                                              obtain ⟨ad288, e288, hx288_0⟩ := Kd.at_int (by repeat (first | (with_reducible exact HR287_0.out) | (with_reducible refine Kd.C_alloc ?_ _) | (with_reducible refine Kd.C_drewN ?_ _) | (with_reducible refine Kd.C_drew ?_) | exact HR287_0.out)) x18_5 p288 q288
                                                              cases e288
                                                              replace p288 := eq_true p288
                                                              replace q288 := eq_true q288
                                                              obtain ⟨Ao55, co55, eo55⟩ := Kd.S_slice HO_13.out
                                                              subst eo55
                                                              have p289 : 0 ≤ (x16_4 : Int) := of_decide_eq_true (by first | (with_reducible assumption) | assumption)
                                                              have q289 : x16_4 < (t278.length : Int) := of_decide_eq_true (by first | (with_reducible assumption) | assumption)
                                                              obtain ⟨ad289, A289_0, c289_0, e289, hx289_0, hl289_0, hi289_0⟩ := at_L1 (Kd.S_reads' HO_13.out).2.2 x16_4 p289 q289
                                                              cases e289
                                                              obtain ⟨ce289, hce289, hMe289, hcc289⟩ := Kd.S_get HO_13.out [] x16_4 p289 (by first | exact q289 | exact of_decide_eq_true (by first | (with_reducible assumption) | assumption) | (have e_ := (Kd.S_reads' HO_13.out).1; omega))
                                                              obtain ⟨ve289_0, rfl, ge289_0⟩ := hMe289
                                                              have hv289_0 := hcc289 0 _ rfl
                                                              rw [Nat.add_zero, show ((Kd.slice 22 (Kd.int .u16))).sz = 1 from rfl, Nat.mul_one] at hv289_0
                                                              replace hv289_0 := Option.some.inj (hv289_0.symm.trans hx289_0)
                                                              rw [hv289_0] at ge289_0
                                                              have HL289_0 := Aside0.mk (show Kd.R (Kd.int .u16) 22 _ _ _ _ (rd_L1 t278 x16_4) from ge289_0)
                                                              clear hv289_0 ge289_0
                                                              clear hcc289 hce289
                                                              have HR289_0 := Aside0.mk hi289_0
                                                              have HC289_0 := Aside0.mk hl289_0
                                                              clear hi289_0 hl289_0
                                                              replace p289 := eq_true p289
                                                              replace q289 := eq_true q289
                                                              have p290 : 0 ≤ (x18_5 : Int) := of_decide_eq_true (by first | (with_reducible assumption) | assumption)
                                                              have q290 : x18_5 < ((rd_L1 t278 x16_4).length : Int) := of_decide_eq_true (by first | (with_reducible assumption) | assumption)
                                                              obtain ⟨ad290, e290, hx290_0⟩ := Kd.at_int (by repeat (first | (with_reducible exact HR289_0.out) | (with_reducible refine Kd.C_alloc ?_ _) | (with_reducible refine Kd.C_drewN ?_ _) | (with_reducible refine Kd.C_drew ?_) | exact HR289_0.out)) x18_5 p290 q290
                                                              cases e290
                                                              replace p290 := eq_true p290
                                                              replace q290 := eq_true q290
                                                              go_wp2
                                                              repeat (go_quiet (fail); try go_wp2)
                                                              go_roundg k5
                                                              case measure => have := HJ5.out; have := HK2.out; have := HJ30.out; have := HK4.out; have := HK5.out; omega
                                                              case rel => exact ⟨(x17_5), (wrap64 (x18_5 + 1)), (by first | rfl | (simp; done) | (simp [*]; done)), (by first | rfl | (simp; done) | (simp [*]; done)), H', ⟨by have := HJ5.out; have := HK2.out; have := HJ30.out; have := HK4.out; have := HK5.out; omega⟩, ⟨by (with_reducible repeat (first | apply Kd.S_alloc | apply Kd.S_drewN | apply Kd.S_drew)); exact HO_8.out⟩, ⟨by (with_reducible repeat (first | apply Kd.S_alloc | apply Kd.S_drewN | apply Kd.S_drew)); exact HO_13.out⟩, ⟨by repeat (first | (with_reducible first | exact HB.out | apply below_alloc | apply pw_below_drewN | apply below_drew1) | exact HB.out)⟩⟩
                                                            · rw [if_neg c53] at H
                                                              have c53b0 : ((rd (rd_L1 t266 x16_4) x18_5) == (rd (rd_L1 t278 x16_4) x18_5)) = false := beq_eq_false_iff_ne.mpr c53
                                                              have c53b1 : ((rd (rd_L1 t266 x16_4) x18_5) != (rd (rd_L1 t278 x16_4) x18_5)) = true := bne_iff_ne.mpr c53
                                                              have H' := Aside0.mk H
                                                              clear H
                                                              obtain ⟨Ao56, co56, eo56⟩ := Kd.S_slice HO_8.out
                                                              subst eo56
                                                              have p283 : 0 ≤ (x16_4 : Int) := of_decide_eq_true (by first | (with_reducible assumption) | assumption)
                                                              have q283 : x16_4 < (t266.length : Int) := of_decide_eq_true (by first | (with_reducible assumption) | assumption)
                                                              obtain ⟨ad283, A283_0, c283_0, e283, hx283_0, hl283_0, hi283_0⟩ := at_L1 (Kd.S_reads' HO_8.out).2.2 x16_4 p283 q283
                                                              cases e283
                                                              obtain ⟨ce283, hce283, hMe283, hcc283⟩ := Kd.S_get HO_8.out [] x16_4 p283 (by first | exact q283 | exact of_decide_eq_true (by first | (with_reducible assumption) | assumption) | (have e_ := (Kd.S_reads' HO_8.out).1; omega))
                                                              obtain ⟨ve283_0, rfl, ge283_0⟩ := hMe283
                                                              have hv283_0 := hcc283 0 _ rfl
                                                              rw [Nat.add_zero, show ((Kd.slice 22 (Kd.int .u16))).sz = 1 from rfl, Nat.mul_one] at hv283_0
                                                              replace hv283_0 := Option.some.inj (hv283_0.symm.trans hx283_0)
                                                              rw [hv283_0] at ge283_0
                                                              have HL283_0 := Aside0.mk (show Kd.R (Kd.int .u16) 22 _ _ _ _ (rd_L1 t266 x16_4) from ge283_0)
                                                              clear hv283_0 ge283_0
                                                              clear hcc283 hce283
                                                              have HR283_0 := Aside0.mk hi283_0
                                                              have HC283_0 := Aside0.mk hl283_0
                                                              clear hi283_0 hl283_0
                                                              replace p283 := eq_true p283
                                                              replace q283 := eq_true q283
                                                              have p284 : 0 ≤ (x16_4 : Int) := of_decide_eq_true (by first | (with_reducible assumption) | assumption)
                                                              have q284 : x16_4 < (t266.length : Int) := of_decide_eq_true (by first | (with_reducible assumption) | assumption)
                                                              obtain ⟨ad284, A284_0, c284_0, e284, hx284_0, hl284_0, hi284_0⟩ := at_L1 (Kd.S_reads' HO_8.out).2.2 x16_4 p284 q284
                                                              obtain rfl : ad283 = ad284 := (by injection e284)
                                                              obtain ⟨ce284, hce284, hMe284, hcc284⟩ := Kd.S_get HO_8.out [] x16_4 p284 (by first | exact q284 | exact of_decide_eq_true (by first | (with_reducible assumption) | assumption) | (have e_ := (Kd.S_reads' HO_8.out).1; omega))
                                                              obtain ⟨ve284_0, rfl, ge284_0⟩ := hMe284
                                                              have hv284_0 := hcc284 0 _ rfl
                                                              rw [Nat.add_zero, show ((Kd.slice 22 (Kd.int .u16))).sz = 1 from rfl, Nat.mul_one] at hv284_0
                                                              replace hv284_0 := Option.some.inj (hv284_0.symm.trans hx284_0)
                                                              rw [hv284_0] at ge284_0
                                                              have HL284_0 := Aside0.mk (show Kd.R (Kd.int .u16) 22 _ _ _ _ (rd_L1 t266 x16_4) from ge284_0)
                                                              clear hv284_0 ge284_0
                                                              clear hcc284 hce284
                                                              have HR284_0 := Aside0.mk hi284_0
                                                              have HC284_0 := Aside0.mk hl284_0
                                                              clear hi284_0 hl284_0
                                                              replace p284 := eq_true p284
                                                              replace q284 := eq_true q284
                                                              have ea_ := Option.some.inj (hx283_0.symm.trans hx284_0)
                                                              injection ea_ with ea_ en_ ec_
                                                              subst ea_
                                                              subst ec_
                                                              clear en_
                                                              have p285 : 0 ≤ (x18_5 : Int) := of_decide_eq_true (by first | (with_reducible assumption) | assumption)
                                                              have q285 : x18_5 < ((rd_L1 t266 x16_4).length : Int) := of_decide_eq_true (by first | (with_reducible assumption) | assumption)
                                                              obtain ⟨ad285, e285, hx285_0⟩ := Kd.at_int (by repeat (first | (with_reducible exact HR284_0.out) | (with_reducible refine Kd.C_alloc ?_ _) | (with_reducible refine Kd.C_drewN ?_ _) | (with_reducible refine Kd.C_drew ?_) | exact HR284_0.out)) x18_5 p285 q285
                                                              cases e285
                                                              replace p285 := eq_true p285
                                                              replace q285 := eq_true q285
                                                              have p286 : 0 ≤ ((ji47) : Int) := of_decide_eq_true (by first | (with_reducible assumption) | assumption)
                                                              have q286 : (ji47) < (lt_.length : Int) := of_decide_eq_true (by first | (with_reducible assumption) | assumption)
                                                              obtain ⟨ad286, e286, hx286_0⟩ := Kd.at_int HR265.out (ji47) p286 q286
                                                              cases e286
                                                              replace hx286_0 := (HB.out.cell (World.block_lt_of_cell? w _ hx286_0)).trans hx286_0
                                                              replace p286 := eq_true p286
                                                              replace q286 := eq_true q286
                                                              have p287 : 0 ≤ (x16_4 : Int) := of_decide_eq_true (by first | (with_reducible assumption) | assumption)
                                                              have q287 : x16_4 < (t266.length : Int) := of_decide_eq_true (by first | (with_reducible assumption) | assumption)
                                                              obtain ⟨ad287, A287_0, c287_0, e287, hx287_0, hl287_0, hi287_0⟩ := at_L1 (Kd.S_reads' HO_8.out).2.2 x16_4 p287 q287
                                                              obtain rfl : ad283 = ad287 := (by injection e287)
                                                              obtain ⟨ce287, hce287, hMe287, hcc287⟩ := Kd.S_get HO_8.out [] x16_4 p287 (by first | exact q287 | exact of_decide_eq_true (by first | (with_reducible assumption) | assumption) | (have e_ := (Kd.S_reads' HO_8.out).1; omega))
                                                              obtain ⟨ve287_0, rfl, ge287_0⟩ := hMe287
                                                              have hv287_0 := hcc287 0 _ rfl
                                                              rw [Nat.add_zero, show ((Kd.slice 22 (Kd.int .u16))).sz = 1 from rfl, Nat.mul_one] at hv287_0
                                                              replace hv287_0 := Option.some.inj (hv287_0.symm.trans hx287_0)
                                                              rw [hv287_0] at ge287_0
                                                              have HL287_0 := Aside0.mk (show Kd.R (Kd.int .u16) 22 _ _ _ _ (rd_L1 t266 x16_4) from ge287_0)
                                                              clear hv287_0 ge287_0
                                                              clear hcc287 hce287
                                                              have HR287_0 := Aside0.mk hi287_0
                                                              have HC287_0 := Aside0.mk hl287_0
                                                              clear hi287_0 hl287_0
                                                              replace p287 := eq_true p287
                                                              replace q287 := eq_true q287
                                                              have ea_ := Option.some.inj (hx283_0.symm.trans hx287_0)
                                                              injection ea_ with ea_ en_ ec_
                                                              subst ea_
                                                              subst ec_
                                                              clear en_
                                                              have p288 : 0 ≤ (x18_5 : Int) := of_decide_eq_true (by first | (with_reducible assumption) | assumption)
                                                              have q288 : x18_5 < ((rd_L1 t266 x16_4).length : Int) := of_decide_eq_true (by first | (with_reducible assumption) | assumption)
                                                              obtain ⟨ad288, e288, hx288_0⟩ := Kd.at_int (by repeat (first | (with_reducible exact HR287_0.out) | (with_reducible refine Kd.C_alloc ?_ _) | (with_reducible refine Kd.C_drewN ?_ _) | (with_reducible refine Kd.C_drew ?_) | exact HR287_0.out)) x18_5 p288 q288
                                                              cases e288
                                                              replace p288 := eq_true p288
                                                              replace q288 := eq_true q288
                                                              obtain ⟨Ao57, co57, eo57⟩ := Kd.S_slice HO_13.out
                                                              subst eo57
                                                              have p289 : 0 ≤ (x16_4 : Int) := of_decide_eq_true (by first | (with_reducible assumption) | assumption)
                                                              have q289 : x16_4 < (t278.length : Int) := of_decide_eq_true (by first | (with_reducible assumption) | assumption)
                                                              obtain ⟨ad289, A289_0, c289_0, e289, hx289_0, hl289_0, hi289_0⟩ := at_L1 (Kd.S_reads' HO_13.out).2.2 x16_4 p289 q289
                                                              cases e289
                                                              obtain ⟨ce289, hce289, hMe289, hcc289⟩ := Kd.S_get HO_13.out [] x16_4 p289 (by first | exact q289 | exact of_decide_eq_true (by first | (with_reducible assumption) | assumption) | (have e_ := (Kd.S_reads' HO_13.out).1; omega))
                                                              obtain ⟨ve289_0, rfl, ge289_0⟩ := hMe289
                                                              have hv289_0 := hcc289 0 _ rfl
                                                              rw [Nat.add_zero, show ((Kd.slice 22 (Kd.int .u16))).sz = 1 from rfl, Nat.mul_one] at hv289_0
                                                              replace hv289_0 := Option.some.inj (hv289_0.symm.trans hx289_0)
                                                              rw [hv289_0] at ge289_0
                                                              have HL289_0 := Aside0.mk (show Kd.R (Kd.int .u16) 22 _ _ _ _ (rd_L1 t278 x16_4) from ge289_0)
                                                              clear hv289_0 ge289_0
                                                              clear hcc289 hce289
                                                              have HR289_0 := Aside0.mk hi289_0
                                                              have HC289_0 := Aside0.mk hl289_0
                                                              clear hi289_0 hl289_0
                                                              replace p289 := eq_true p289
                                                              replace q289 := eq_true q289
                                                              have p290 : 0 ≤ (x18_5 : Int) := of_decide_eq_true (by first | (with_reducible assumption) | assumption)
                                                              have q290 : x18_5 < ((rd_L1 t278 x16_4).length : Int) := of_decide_eq_true (by first | (with_reducible assumption) | assumption)
                                                              obtain ⟨ad290, e290, hx290_0⟩ := Kd.at_int (by repeat (first | (with_reducible exact HR289_0.out) | (with_reducible refine Kd.C_alloc ?_ _) | (with_reducible refine Kd.C_drewN ?_ _) | (with_reducible refine Kd.C_drew ?_) | exact HR289_0.out)) x18_5 p290 q290
                                                              cases e290
                                                              replace p290 := eq_true p290
                                                              replace q290 := eq_true q290
                                                              go_wp2
                                                              repeat (go_quiet (fail); try go_wp2)
                                                              go_roundg k5
                                                              case measure => have := HJ5.out; have := HK2.out; have := HJ30.out; have := HK4.out; have := HK5.out; omega
                                                              case rel => exact ⟨(wrap64 (x17_5 + 1)), (wrap64 (x18_5 + 1)), (by first | rfl | (simp; done) | (simp [*]; done)), (by first | rfl | (simp; done) | (simp [*]; done)), H', ⟨by have := HJ5.out; have := HK2.out; have := HJ30.out; have := HK4.out; have := HK5.out; omega⟩, ⟨by (with_reducible repeat (first | apply Kd.S_alloc | apply Kd.S_drewN | apply Kd.S_drew)); exact HO_8.out⟩, ⟨by (with_reducible repeat (first | apply Kd.S_alloc | apply Kd.S_drewN | apply Kd.S_drew)); exact HO_13.out⟩, ⟨by repeat (first | (with_reducible first | exact HB.out | apply below_alloc | apply pw_below_drewN | apply below_drew1) | exact HB.out)⟩⟩
                                                          · rw [if_neg c52] at H
                                                            exact absurd H (by simp)
                                                        · rw [if_neg c51] at H
                                                          exact absurd H (by simp)
                                                      · rw [if_neg c50] at H
                                                        have c50b0 : ((rd (rd_L1 t266 x16_4) x18_5) == (rd lt_ (ji47))) = false := beq_eq_false_iff_ne.mpr c50
                                                        have c50b1 : ((rd (rd_L1 t266 x16_4) x18_5) != (rd lt_ (ji47))) = true := bne_iff_ne.mpr c50
                                                        obtain rfl := Option.some.inj H
                                                        obtain ⟨Ao58, co58, eo58⟩ := Kd.S_slice HO_8.out
                                                        subst eo58
                                                        have p283 : 0 ≤ (x16_4 : Int) := of_decide_eq_true (by first | (with_reducible assumption) | assumption)
                                                        have q283 : x16_4 < (t266.length : Int) := of_decide_eq_true (by first | (with_reducible assumption) | assumption)
                                                        obtain ⟨ad283, A283_0, c283_0, e283, hx283_0, hl283_0, hi283_0⟩ := at_L1 (Kd.S_reads' HO_8.out).2.2 x16_4 p283 q283
                                                        cases e283
                                                        obtain ⟨ce283, hce283, hMe283, hcc283⟩ := Kd.S_get HO_8.out [] x16_4 p283 (by first | exact q283 | exact of_decide_eq_true (by first | (with_reducible assumption) | assumption) | (have e_ := (Kd.S_reads' HO_8.out).1; omega))
                                                        obtain ⟨ve283_0, rfl, ge283_0⟩ := hMe283
                                                        have hv283_0 := hcc283 0 _ rfl
                                                        rw [Nat.add_zero, show ((Kd.slice 22 (Kd.int .u16))).sz = 1 from rfl, Nat.mul_one] at hv283_0
                                                        replace hv283_0 := Option.some.inj (hv283_0.symm.trans hx283_0)
                                                        rw [hv283_0] at ge283_0
                                                        have HL283_0 := Aside0.mk (show Kd.R (Kd.int .u16) 22 _ _ _ _ (rd_L1 t266 x16_4) from ge283_0)
                                                        clear hv283_0 ge283_0
                                                        clear hcc283 hce283
                                                        have HR283_0 := Aside0.mk hi283_0
                                                        have HC283_0 := Aside0.mk hl283_0
                                                        clear hi283_0 hl283_0
                                                        replace p283 := eq_true p283
                                                        replace q283 := eq_true q283
                                                        have p284 : 0 ≤ (x16_4 : Int) := of_decide_eq_true (by first | (with_reducible assumption) | assumption)
                                                        have q284 : x16_4 < (t266.length : Int) := of_decide_eq_true (by first | (with_reducible assumption) | assumption)
                                                        obtain ⟨ad284, A284_0, c284_0, e284, hx284_0, hl284_0, hi284_0⟩ := at_L1 (Kd.S_reads' HO_8.out).2.2 x16_4 p284 q284
                                                        obtain rfl : ad283 = ad284 := (by injection e284)
                                                        obtain ⟨ce284, hce284, hMe284, hcc284⟩ := Kd.S_get HO_8.out [] x16_4 p284 (by first | exact q284 | exact of_decide_eq_true (by first | (with_reducible assumption) | assumption) | (have e_ := (Kd.S_reads' HO_8.out).1; omega))
                                                        obtain ⟨ve284_0, rfl, ge284_0⟩ := hMe284
                                                        have hv284_0 := hcc284 0 _ rfl
                                                        rw [Nat.add_zero, show ((Kd.slice 22 (Kd.int .u16))).sz = 1 from rfl, Nat.mul_one] at hv284_0
                                                        replace hv284_0 := Option.some.inj (hv284_0.symm.trans hx284_0)
                                                        rw [hv284_0] at ge284_0
                                                        have HL284_0 := Aside0.mk (show Kd.R (Kd.int .u16) 22 _ _ _ _ (rd_L1 t266 x16_4) from ge284_0)
                                                        clear hv284_0 ge284_0
                                                        clear hcc284 hce284
                                                        have HR284_0 := Aside0.mk hi284_0
                                                        have HC284_0 := Aside0.mk hl284_0
                                                        clear hi284_0 hl284_0
                                                        replace p284 := eq_true p284
                                                        replace q284 := eq_true q284
                                                        have ea_ := Option.some.inj (hx283_0.symm.trans hx284_0)
                                                        injection ea_ with ea_ en_ ec_
                                                        subst ea_
                                                        subst ec_
                                                        clear en_
                                                        have p285 : 0 ≤ (x18_5 : Int) := of_decide_eq_true (by first | (with_reducible assumption) | assumption)
                                                        have q285 : x18_5 < ((rd_L1 t266 x16_4).length : Int) := of_decide_eq_true (by first | (with_reducible assumption) | assumption)
                                                        obtain ⟨ad285, e285, hx285_0⟩ := Kd.at_int (by repeat (first | (with_reducible exact HR284_0.out) | (with_reducible refine Kd.C_alloc ?_ _) | (with_reducible refine Kd.C_drewN ?_ _) | (with_reducible refine Kd.C_drew ?_) | exact HR284_0.out)) x18_5 p285 q285
                                                        cases e285
                                                        replace p285 := eq_true p285
                                                        replace q285 := eq_true q285
                                                        have p286 : 0 ≤ ((ji47) : Int) := of_decide_eq_true (by first | (with_reducible assumption) | assumption)
                                                        have q286 : (ji47) < (lt_.length : Int) := of_decide_eq_true (by first | (with_reducible assumption) | assumption)
                                                        obtain ⟨ad286, e286, hx286_0⟩ := Kd.at_int HR265.out (ji47) p286 q286
                                                        cases e286
                                                        replace hx286_0 := (HB.out.cell (World.block_lt_of_cell? w _ hx286_0)).trans hx286_0
                                                        replace p286 := eq_true p286
                                                        replace q286 := eq_true q286
                                                        go_wp2
                                                        repeat (go_quiet (fail); try go_wp2)
                                                        go_ret
                                                        exact ⟨by first | rfl | (simp [errW_none, errW_some] <;> rfl) | (simp only [← hji11, ← hji47]; first | rfl | (simp [errW_none, errW_some] <;> rfl)) | (simp [*, errW_none, errW_some] <;> rfl), by repeat (first | (with_reducible first | exact HB.out | apply below_alloc | apply pw_below_drewN | apply below_drew1) | exact HB.out)⟩
                                                    · rw [if_neg c49] at H
                                                      exact absurd H (by simp)
                                                  · rw [if_neg c48] at H
                                                    exact absurd H (by simp)
                                                · rw [if_neg c46] at H
                                                  exact absurd H (by simp)
                                              · rw [if_neg c45] at H
                                                have c45b0 : decide (x18_5 < ((rd_L1 t266 x16_4).length : Int)) = false := decide_eq_false c45
                                                clear c45
                                                by_cases c59 : x17_5 > t282
                                                · rw [if_pos c59] at H
                                                  have c59b0 : decide (t282 < x17_5) = true := decide_eq_true c59
                                                  clear c59
                                                  obtain rfl := Option.some.inj H
                                                  obtain ⟨Ao60, co60, eo60⟩ := Kd.S_slice HO_8.out
                                                  subst eo60
                                                  have p283 : 0 ≤ (x16_4 : Int) := of_decide_eq_true (by first | (with_reducible assumption) | assumption)
                                                  have q283 : x16_4 < (t266.length : Int) := of_decide_eq_true (by first | (with_reducible assumption) | assumption)
                                                  obtain ⟨ad283, A283_0, c283_0, e283, hx283_0, hl283_0, hi283_0⟩ := at_L1 (Kd.S_reads' HO_8.out).2.2 x16_4 p283 q283
                                                  cases e283
                                                  obtain ⟨ce283, hce283, hMe283, hcc283⟩ := Kd.S_get HO_8.out [] x16_4 p283 (by first | exact q283 | exact of_decide_eq_true (by first | (with_reducible assumption) | assumption) | (have e_ := (Kd.S_reads' HO_8.out).1; omega))
                                                  obtain ⟨ve283_0, rfl, ge283_0⟩ := hMe283
                                                  have hv283_0 := hcc283 0 _ rfl
                                                  rw [Nat.add_zero, show ((Kd.slice 22 (Kd.int .u16))).sz = 1 from rfl, Nat.mul_one] at hv283_0
                                                  replace hv283_0 := Option.some.inj (hv283_0.symm.trans hx283_0)
                                                  rw [hv283_0] at ge283_0
                                                  have HL283_0 := Aside0.mk (show Kd.R (Kd.int .u16) 22 _ _ _ _ (rd_L1 t266 x16_4) from ge283_0)
                                                  clear hv283_0 ge283_0
                                                  clear hcc283 hce283
                                                  have HR283_0 := Aside0.mk hi283_0
                                                  have HC283_0 := Aside0.mk hl283_0
                                                  clear hi283_0 hl283_0
                                                  replace p283 := eq_true p283
                                                  replace q283 := eq_true q283
                                                  go_wp2
                                                  repeat (go_quiet (fail); try go_wp2)
                                                  go_ret
                                                  exact ⟨by first | rfl | (simp [errW_none, errW_some] <;> rfl) | (simp only [← hji11]; first | rfl | (simp [errW_none, errW_some] <;> rfl)) | (simp [*, errW_none, errW_some] <;> rfl), by repeat (first | (with_reducible first | exact HB.out | apply below_alloc | apply pw_below_drewN | apply below_drew1) | exact HB.out)⟩
                                                · rw [if_neg c59] at H
                                                  have c59b0 : decide (t282 < x17_5) = false := decide_eq_false c59
                                                  clear c59
                                                  have H' := Aside0.mk H
                                                  clear H
                                                  obtain ⟨Ao61, co61, eo61⟩ := Kd.S_slice HO_8.out
                                                  subst eo61
                                                  have p283 : 0 ≤ (x16_4 : Int) := of_decide_eq_true (by first | (with_reducible assumption) | assumption)
                                                  have q283 : x16_4 < (t266.length : Int) := of_decide_eq_true (by first | (with_reducible assumption) | assumption)
                                                  obtain ⟨ad283, A283_0, c283_0, e283, hx283_0, hl283_0, hi283_0⟩ := at_L1 (Kd.S_reads' HO_8.out).2.2 x16_4 p283 q283
                                                  cases e283
                                                  obtain ⟨ce283, hce283, hMe283, hcc283⟩ := Kd.S_get HO_8.out [] x16_4 p283 (by first | exact q283 | exact of_decide_eq_true (by first | (with_reducible assumption) | assumption) | (have e_ := (Kd.S_reads' HO_8.out).1; omega))
                                                  obtain ⟨ve283_0, rfl, ge283_0⟩ := hMe283
                                                  have hv283_0 := hcc283 0 _ rfl
                                                  rw [Nat.add_zero, show ((Kd.slice 22 (Kd.int .u16))).sz = 1 from rfl, Nat.mul_one] at hv283_0
                                                  replace hv283_0 := Option.some.inj (hv283_0.symm.trans hx283_0)
                                                  rw [hv283_0] at ge283_0
                                                  have HL283_0 := Aside0.mk (show Kd.R (Kd.int .u16) 22 _ _ _ _ (rd_L1 t266 x16_4) from ge283_0)
                                                  clear hv283_0 ge283_0
                                                  clear hcc283 hce283
                                                  have HR283_0 := Aside0.mk hi283_0
                                                  have HC283_0 := Aside0.mk hl283_0
                                                  clear hi283_0 hl283_0
                                                  replace p283 := eq_true p283
                                                  replace q283 := eq_true q283
                                                  go_wp2
                                                  repeat (go_quiet (fail); try go_wp2)
                                                  go_roundg k5
                                                  case measure => have := HJ5.out; have := HK2.out; have := HJ30.out; have := HK4.out; have := HK5.out; omega
                                                  case rel => exact ⟨(wrap64 (x16_4 + 1)), (by first | rfl | (simp; done) | (simp [*]; done)), H', ⟨by have := HJ5.out; have := HK2.out; have := HJ30.out; have := HK4.out; have := HK5.out; omega⟩, ⟨by (with_reducible repeat (first | apply Kd.S_alloc | apply Kd.S_drewN | apply Kd.S_drew)); exact HO_8.out⟩, ⟨by (with_reducible repeat (first | apply Kd.S_alloc | apply Kd.S_drewN | apply Kd.S_drew)); exact HO_13.out⟩, ⟨by repeat (first | (with_reducible first | exact HB.out | apply below_alloc | apply pw_below_drewN | apply below_drew1) | exact HB.out)⟩⟩
                                            · rw [if_neg c44] at H
                                              exact absurd H (by simp)
                                          · rw [if_neg c43] at H
                                            exact absurd H (by simp)
                                    · rw [if_neg c42] at H
                                      have c42b0 : decide (x16_4 < (wrap64 (1 + (Int.tmod (wrap64 (a0)) 4)))) = false := decide_eq_false c42
                                      clear c42
                                      obtain rfl := Option.some.inj H
                                      go_wp2
                                      repeat (go_quiet (fail); try go_wp2)
                                      go_ret
                                      exact ⟨by first | rfl | (simp [errW_none, errW_some] <;> rfl) | (simp only [← hji11]; first | rfl | (simp [errW_none, errW_some] <;> rfl)) | (simp [*, errW_none, errW_some] <;> rfl), by repeat (first | (with_reducible first | exact HB.out | apply below_alloc | apply pw_below_drewN | apply below_drew1) | exact HB.out)⟩
                  · rw [if_neg c17] at H
                    exact absurd H (by simp)
              · rw [if_neg c13] at H
                exact absurd H (by simp)
            · rw [if_neg c12] at H
              exact absurd H (by simp)
  · replace c5 := Bool.eq_false_iff.mpr c5
    subst c5
    have H1 : (some false) = some r := by rw [if_neg (show ¬ (false = true) by decide)] at H; exact H
    clear H
    have H := H1
    clear H1
    obtain rfl := Option.some.inj H
    go_enter Try.func6, Try.ntmps6
    go_wp2_with (first | (go_at_call 8; (with_reducible refine (blackboardlaw6_awake.calls k  false _ A4.out).mono ?_); rintro e w62 ⟨rfl, hb⟩; have n0_ := Aside0.mk (below_step (by repeat (first | (with_reducible first | exact HB.out | apply below_alloc | apply pw_below_drewN | apply below_drew1) | exact HB.out)) hb); clear HB; have HB := n0_; clear n0_; (try clear hb); (try clear hb2); (try clear hk); (try clear hi)))
    repeat (go_quiet (first | (go_at_call 8; (with_reducible refine (blackboardlaw6_awake.calls k  false _ A4.out).mono ?_); rintro e w62 ⟨rfl, hb⟩; have n0_ := Aside0.mk (below_step (by repeat (first | (with_reducible first | exact HB.out | apply below_alloc | apply pw_below_drewN | apply below_drew1) | exact HB.out)) hb); clear HB; have HB := n0_; clear n0_; (try clear hb); (try clear hb2); (try clear hk); (try clear hi))); try go_wp2_with (first | (go_at_call 8; (with_reducible refine (blackboardlaw6_awake.calls k  false _ A4.out).mono ?_); rintro e w62 ⟨rfl, hb⟩; have n0_ := Aside0.mk (below_step (by repeat (first | (with_reducible first | exact HB.out | apply below_alloc | apply pw_below_drewN | apply below_drew1) | exact HB.out)) hb); clear HB; have HB := n0_; clear n0_; (try clear hb); (try clear hb2); (try clear hk); (try clear hi))))
    go_ret
    exact ⟨by first | rfl | (simp [errW_none, errW_some] <;> rfl) | (simp [*, errW_none, errW_some] <;> rfl), by repeat (first | (with_reducible first | exact HB.out | apply below_alloc | apply pw_below_drewN | apply below_drew1) | exact HB.out)⟩

/-- THE ONE PURE STATEMENT of blackboardlaw6_WeavePlaces: yours. -/
def blackboardlaw6_WeavePlaces.Pure : Prop := ∀ (a0 : Int) (l1 : List Int) (a2 : Int), (Lit.int .u8 a0).wf = true → l1.length ≤ maxLen → l1.length * 2 ≤ 140737488351232 → (∀ x ∈ l1, (Lit.int .u16 x).wf = true) → (Lit.int .u16 a2).wf = true → ∃ k, blackboardlaw6_WeavePlaces.f k a0 l1 a2 = some true
theorem blackboardlaw6_WeavePlaces.walk (P : blackboardlaw6_WeavePlaces.Pure) (a0 : Int) (a1 : Option Addr) (len1 cap1 : Nat) (z1 : List Int) (a2 : Int) (w : World) (w0 : (Lit.int .u8 a0).wf = true) (w1 : (a1 = none ∧ len1 = 0 ∧ cap1 = 0 ∧ z1 = []) ∨ ∃ x, a1 = some x ∧ len1 ≤ cap1 ∧ cap1 ≤ maxLen ∧ z1.length = cap1 ∧ (∀ i, i < z1.length → w.cell? (x.add i) = some (.int .u16 (z1.getD i 0))) ∧ ∀ n ∈ z1, (Lit.int .u16 n).wf = true) (y1 : len1 * 2 ≤ 140737488351232) (w2 : (Lit.int .u16 a2).wf = true) :
    Calls Try.prog 6 #[.int .u8 a0, .slice a1 len1 cap1, .int .u16 a2] w fun e w' => e = .returned (.bool true) ∧ Below w.heap.size w w' := by
  obtain ⟨l1, rfl, hr1, hm1, hw1, hc1⟩ := ReadsInt.ofRowC w1
  obtain ⟨k, h⟩ := P a0 l1 a2 w0 hm1 y1 hw1 w2
  refine (blackboardlaw6_WeavePlaces.calls k a0 _ _ l1 a2 true w (Kd.C_of_reads (d := (0 : Int)) (h1 := fun _ => rfl) hr1) hc1 h).mono ?_
  rintro e w' ⟨rfl, hd⟩
  exact ⟨rfl, hd⟩

end Go.Proofs.Ytghjenmocndlgaa.M
