/- Printed for this seat by a program of this session (over the kit's print), with contracts of its own laid in. -/
import Derived.Test.YtghjenmocndlgaaOx0
import Derived.Test.YtghjenmocndlgaaOx2
import Derived.Test.YtghjenmocndlgaaOx3
import Derived.Test.YtghjenmocndlgaaOx4
import Derived.Deep.RegionWith
namespace Go.Proofs.Ytghjenmocndlgaa.O
open Go.RowKit Go.Proofs.YtghjenmocndlgaaW.PrintWords Go.Proofs.YtghjenmocndlgaaW.PrintLast Go.Proofs.YtghjenmocndlgaaW.PrintMore
attribute [local go_sem] max2_int min2_int max_two min_two max_three min_three max_four min_four   -- for this text's walks alone
set_option linter.unusedVariables false
set_option linter.unusedSimpArgs false

/-! ### blackboardlaw6_WeaveOnes: function 7 -/
theorem row_one {w : World} {b : Nat} {A0 : Option Addr} {c0 : Nat} {l0 : List Int} (hcell : w.cell? ⟨b, 0, none⟩ = some (.slice A0 l0.length c0)) (hr : Kd.C (Kd.int .u16) w A0 l0.length l0) (hc : l0.length ≤ c0) :
    Kd.C (Kd.slice 22 (Kd.int .u16)) w (some ⟨b, 0, none⟩) [l0].length [l0] :=
  ⟨rfl, (show (1 : Nat) ≤ 9223372036854775807 by decide), fun _ => ⟨⟨b, 0, none⟩, rfl, fun j p hp => by
    cases j with
    | zero =>
      simp at hp; subst hp
      refine ⟨[.slice A0 l0.length c0], rfl, ⟨A0, c0, rfl, hc, hr⟩, fun i u hu => ?_⟩
      cases i with
      | zero => simp at hu; subst hu; simpa [Addr.add] using hcell
      | succ i => simp at hu
    | succ j => simp at hp⟩⟩
def blackboardlaw6_WeaveOnes.l0 : Nat → List Int → List Int → Int → List (List Int) → Int → Int → List (List Int) → Int → Option (Bool)
  | 0, _, _, _, _, _, _, _, _ => none
  | k + 1, x0, x3, x4, x5, x6, x7, x8, x9 => if x9 < x7 then (if 0 ≤ x9 then (if x9 < (x0.length : Int) then (if x8.length < 5864062014805 then (blackboardlaw6_WeaveOnes.l0 k x0 x3 x4 x5 x6 x7 (x8 ++ [(([rd x0 x9] : List Int))]) (wrap64 (x9 + 1))) else (none)) else (none)) else (none)) else ((weave_Out.f k x7 x8).bind fun bt156 => (if x4 = 0 then (if x6 = 0 then (if bt156.2 = 0 then ((blackboardref1_Same.f k x3 x0).bind fun t160 => (if t160 = true then (if (x5.length : Int) = 1 then (if 0 < (x5.length : Int) then ((blackboardref1_Same.f k (rd_L1 x5 0) x0).bind fun t162 => (if t162 = true then (if 0 ≤ x7 then (if x7 ≤ (x0.length : Int) then ((blackboardref1_Same.f k bt156.1 (x0.take (x7 : Int).toNat)).bind fun t164 => (some t164)) else (none)) else (none)) else (some false))) else (none)) else (some false)) else (some false))) else (some false)) else (some false)) else (some false)))
def blackboardlaw6_WeaveOnes.f (k : Nat) (l0 : List Int) : Option (Bool) := (blackboardlaw6_awake.f k).bind fun t140 => (if t140 = true then (if (l0.length : Int) = 0 then (some true) else (if (l0.length : Int) > 1000 then (some true) else ((weave_Out.f k 1 [l0]).bind fun bt141 => ((weave_In.f k 1 l0).bind fun bt145 => (blackboardlaw6_WeaveOnes.l0 k l0 bt141.1 bt141.2 bt145.1 bt145.2 (mn (l0.length : Int) 4) ([] : List (List Int)) 0))))) else (some false))
theorem blackboardlaw6_WeaveOnes.mono_l : ∀ k, (∀ y0 y1 y2 y3 y4 y5 y6 y7, LeO (blackboardlaw6_WeaveOnes.l0 k y0 y1 y2 y3 y4 y5 y6 y7) (blackboardlaw6_WeaveOnes.l0 (k + 1) y0 y1 y2 y3 y4 y5 y6 y7))
  | 0 => fun _ _ _ _ _ _ _ _ r h => by simp [blackboardlaw6_WeaveOnes.l0] at h
  | k + 1 => by
    have ih0 := blackboardlaw6_WeaveOnes.mono_l k
    · intro y0 y1 y2 y3 y4 y5 y6 y7
      unfold blackboardlaw6_WeaveOnes.l0
      repeat' first
      | (with_reducible exact ih0 _ _ _ _ _ _ _ _)
      | (with_reducible exact blackboardlaw6_awake.mono _)
      | (with_reducible exact blackboardref1_Same.mono _ _ _)
      | (with_reducible exact weave_In.mono _ _ _)
      | (with_reducible exact weave_Out.mono _ _ _)
      | (with_reducible exact LeO.refl _)
      | (with_reducible exact LeO.none _)
      | (with_reducible refine LeO.ite ?_ ?_)
      | (with_reducible refine LeO.bind ?_ (fun _ => ?_))
      | exact ih0 _ _ _ _ _ _ _ _
      | exact blackboardlaw6_awake.mono _
      | exact blackboardref1_Same.mono _ _ _
      | exact weave_In.mono _ _ _
      | exact weave_Out.mono _ _ _
      | exact LeO.none _
      | refine LeO.ite ?_ ?_
      | refine LeO.bind ?_ (fun _ => ?_)
theorem blackboardlaw6_WeaveOnes.mono : ∀ a0 k, LeO (blackboardlaw6_WeaveOnes.f k a0) (blackboardlaw6_WeaveOnes.f (k + 1) a0) := by
  intro a0 k
  have ih0 := blackboardlaw6_WeaveOnes.mono_l k
  unfold blackboardlaw6_WeaveOnes.f
  repeat' first
      | (with_reducible exact ih0 _ _ _ _ _ _ _ _)
      | (with_reducible exact blackboardlaw6_awake.mono _)
      | (with_reducible exact blackboardref1_Same.mono _ _ _)
      | (with_reducible exact weave_In.mono _ _ _)
      | (with_reducible exact weave_Out.mono _ _ _)
      | (with_reducible exact LeO.refl _)
      | (with_reducible exact LeO.none _)
      | (with_reducible refine LeO.ite ?_ ?_)
      | (with_reducible refine LeO.bind ?_ (fun _ => ?_))
      | exact ih0 _ _ _ _ _ _ _ _
      | exact blackboardlaw6_awake.mono _
      | exact blackboardref1_Same.mono _ _ _
      | exact weave_In.mono _ _ _
      | exact weave_Out.mono _ _ _
      | exact LeO.none _
      | refine LeO.ite ?_ ?_
      | refine LeO.bind ?_ (fun _ => ?_)
set_option maxHeartbeats 8000000 in
set_option maxRecDepth 100000 in
theorem blackboardlaw6_WeaveOnes.calls (k : Nat) (A0 : Option Addr) (c0 : Nat) (l0 : List Int) (r : Bool) (w : World) (hr0 : Kd.C (Kd.int .u16) w A0 l0.length l0) (hc0 : l0.length ≤ c0) (h : blackboardlaw6_WeaveOnes.f k l0 = some r) (hrt_ : r = true := by rfl) :
    Calls Try.prog 7 #[.slice A0 l0.length c0] w fun e w' => e = .returned (.bool r) ∧ Below w.heap.size w w' := by
  have HRT_ := Aside0.mk hrt_
  clear hrt_
  have HR0 := Aside0.mk hr0
  have HC0 := Aside0.mk hc0
  clear hr0 hc0
  have HB := Aside0.mk (Below.refl w.heap.size w)
  have H : ((blackboardlaw6_awake.f k).bind fun t140 => (if t140 = true then (if (l0.length : Int) = 0 then (some true) else (if (l0.length : Int) > 1000 then (some true) else ((weave_Out.f k 1 [l0]).bind fun bt141 => ((weave_In.f k 1 l0).bind fun bt145 => (blackboardlaw6_WeaveOnes.l0 k l0 bt141.1 bt141.2 bt145.1 bt145.2 (mn (l0.length : Int) 4) ([] : List (List Int)) 0))))) else (some false))) = some r := h
  clear h
  replace H := Option.bind_eq_some_iff.mp H
  obtain ⟨t140, A20, H⟩ := H
  replace H : (if t140 = true then (if (l0.length : Int) = 0 then (some true) else (if (l0.length : Int) > 1000 then (some true) else ((weave_Out.f k 1 [l0]).bind fun bt141 => ((weave_In.f k 1 l0).bind fun bt145 => (blackboardlaw6_WeaveOnes.l0 k l0 bt141.1 bt141.2 bt145.1 bt145.2 (mn (l0.length : Int) 4) ([] : List (List Int)) 0))))) else (some false)) = some r := H
  have A2 := Aside0.mk A20
  clear A20
  by_cases c3 : t140 = true
  · subst c3
    have H1 : (if (l0.length : Int) = 0 then (some true) else (if (l0.length : Int) > 1000 then (some true) else ((weave_Out.f k 1 [l0]).bind fun bt141 => ((weave_In.f k 1 l0).bind fun bt145 => (blackboardlaw6_WeaveOnes.l0 k l0 bt141.1 bt141.2 bt145.1 bt145.2 (mn (l0.length : Int) 4) ([] : List (List Int)) 0))))) = some r := by rw [if_pos rfl] at H; exact H
    clear H
    have H := H1
    clear H1
    by_cases c4 : (l0.length : Int) = 0
    · rw [if_pos c4] at H
      have c4b0 : ((l0.length : Int) == 0) = true := beq_iff_eq.mpr c4
      have c4b1 : ((l0.length : Int) != 0) = false := bne_eq_false_iff_eq.mpr c4
      clear c4
      obtain rfl := Option.some.inj H
      go_enter Try.func7, Try.ntmps7
      go_wp2_with (first | ((with_reducible refine gate_callee (f := 8) rfl ?_); refine goesL_ (some 12) rfl rfl Try.func8 (by kernel_rfl) rfl #[] rfl (by (try simp only [List.map_toArray, List.map_cons, List.map_nil]); first | done | rfl | (simp only [List.length_drop, List.length_take]; rfl)) ?_; (with_reducible refine (blackboardlaw6_awake.calls k  true _ A2.out).mono ?_); rintro e w5 ⟨rfl, hb⟩; refine ⟨_, rfl, ?_⟩; have n0_ := Aside0.mk (below_step (by repeat (first | (with_reducible first | exact HB.out | apply below_alloc | apply pw_below_drewN | apply below_drew1) | exact HB.out)) hb); clear HB; have HB := n0_; clear n0_; (try clear hb); (try clear hb2); (try clear hk); (try clear hi)))
      go_ret
      exact ⟨by first | rfl | (simp [errW_none, errW_some] <;> rfl) | (simp [*, errW_none, errW_some] <;> rfl), by repeat (first | (with_reducible first | exact HB.out | apply below_alloc | apply pw_below_drewN | apply below_drew1) | exact HB.out)⟩
    · rw [if_neg c4] at H
      have c4b0 : ((l0.length : Int) == 0) = false := beq_eq_false_iff_ne.mpr c4
      have c4b1 : ((l0.length : Int) != 0) = true := bne_iff_ne.mpr c4
      have c4b2 : ¬ (l0 = []) := fun h_ => c4 (by rw [h_]; rfl)
      by_cases c6 : (l0.length : Int) > 1000
      · rw [if_pos c6] at H
        have c6b0 : decide (1000 < (l0.length : Int)) = true := decide_eq_true c6
        have c6b1 : decide (1000 < l0.length) = true := decide_eq_true (by omega)
        clear c6
        obtain rfl := Option.some.inj H
        go_enter Try.func7, Try.ntmps7
        go_wp2_with (first | ((with_reducible refine gate_callee (f := 8) rfl ?_); refine goesL_ (some 12) rfl rfl Try.func8 (by kernel_rfl) rfl #[] rfl (by (try simp only [List.map_toArray, List.map_cons, List.map_nil]); first | done | rfl | (simp only [List.length_drop, List.length_take]; rfl)) ?_; (with_reducible refine (blackboardlaw6_awake.calls k  true _ A2.out).mono ?_); rintro e w7 ⟨rfl, hb⟩; refine ⟨_, rfl, ?_⟩; have n0_ := Aside0.mk (below_step (by repeat (first | (with_reducible first | exact HB.out | apply below_alloc | apply pw_below_drewN | apply below_drew1) | exact HB.out)) hb); clear HB; have HB := n0_; clear n0_; (try clear hb); (try clear hb2); (try clear hk); (try clear hi)))
        go_ret
        exact ⟨by first | rfl | (simp [errW_none, errW_some] <;> rfl) | (simp [*, errW_none, errW_some] <;> rfl), by repeat (first | (with_reducible first | exact HB.out | apply below_alloc | apply pw_below_drewN | apply below_drew1) | exact HB.out)⟩
      · rw [if_neg c6] at H
        have c6b0 : decide (1000 < (l0.length : Int)) = false := decide_eq_false c6
        have c6b1 : decide (1000 < l0.length) = false := decide_eq_false (by omega)
        clear c6
        replace H := Option.bind_eq_some_iff.mp H
        obtain ⟨⟨t141, t142⟩, A80, H⟩ := H
        replace H : ((weave_In.f k 1 l0).bind fun bt145 => (blackboardlaw6_WeaveOnes.l0 k l0 t141 t142 bt145.1 bt145.2 (mn (l0.length : Int) 4) ([] : List (List Int)) 0)) = some r := H
        have A8 := Aside0.mk A80
        clear A80
        replace H := Option.bind_eq_some_iff.mp H
        obtain ⟨⟨t145, t146⟩, A90, H⟩ := H
        replace H : (blackboardlaw6_WeaveOnes.l0 k l0 t141 t142 t145 t146 (mn (l0.length : Int) 4) ([] : List (List Int)) 0) = some r := H
        have A9 := Aside0.mk A90
        clear A90
        obtain ⟨ji10, hji10⟩ : ∃ j_ : Int, (mn (l0.length : Int) 4) = j_ := ⟨_, rfl⟩
        replace H : (blackboardlaw6_WeaveOnes.l0 k l0 t141 t142 t145 t146 ji10 ([] : List (List Int)) 0) = some r := by first | (rw [hji10] at H; exact H) | (simp only [hji10] at H ⊢; exact H)
        (try rw [hji10] at A2)
        (try rw [hji10] at A8)
        (try rw [hji10] at A9)
        (try (have hji10h : ji10 ≤ 4 := by (rw [← hji10]; unfold mn; (repeat' split) <;> omega)))
        (try (have hji10g : ji10 ≤ 64 := by omega))
        (try (have hji10l : 0 ≤ ji10 := by (rw [← hji10]; unfold mn; (repeat' split) <;> omega)))
        (try (have hji10m : 0 ≤ ji10 := by omega))
        have hji10_ : (if 4 < (l0.length : Int) then 4 else (l0.length : Int)) = ji10 := hji10
        have H' := Aside0.mk H
        clear H
        go_enter Try.func7, Try.ntmps7
        go_wp2_with (first | ((with_reducible refine gate_callee (f := 8) rfl ?_); refine goesL_ (some 12) rfl rfl Try.func8 (by kernel_rfl) rfl #[] rfl (by (try simp only [List.map_toArray, List.map_cons, List.map_nil]); first | done | rfl | (simp only [List.length_drop, List.length_take]; rfl)) ?_; (with_reducible refine (blackboardlaw6_awake.calls k  true _ A2.out).mono ?_); rintro e w11 ⟨rfl, hb⟩; refine ⟨_, rfl, ?_⟩; have n0_ := Aside0.mk (below_step (by repeat (first | (with_reducible first | exact HB.out | apply below_alloc | apply pw_below_drewN | apply below_drew1) | exact HB.out)) hb); clear HB; have HB := n0_; clear n0_; (try clear hb); (try clear hb2); (try clear hk); (try clear hi)) | (go_at_call_of 10 (Value.int IntKind.i64 1); ((refine (weave_Out.calls k 1 (some ⟨w11.heap.size, 0, none⟩) 1 [l0] t141 t142 _ ?side1 ?side2 A8.out).mono ?_); (case side1 => refine row_one ?hc1 (Kd.C_alloc (Kd.C_below HR0.out HB.out) _) HC0.out; (case hc1 => first | (go_simp; done) | (go_simp; rfl))); (case side2 => exact Nat.le_refl _); rintro e w12 ⟨v143, rfl, ho0, hb⟩; have n0_ := Aside0.mk (Kd.R_lower ho0 (below_size (by repeat (first | (with_reducible first | exact HB.out | apply below_alloc | apply pw_below_drewN | apply below_drew1) | exact HB.out)))); have n1_ := Aside0.mk (below_step (by repeat (first | (with_reducible first | exact HB.out | apply below_alloc | apply pw_below_drewN | apply below_drew1) | exact HB.out)) hb); clear HB; have HO144 := n0_; have HB := n1_; clear n0_ n1_; (try clear hb); (try clear hb2); (try clear hk); (try clear hi); (try clear ho0))) | ((with_reducible refine gate_callee (f := 12) rfl ?_); refine goesL_ (some 30) rfl rfl Try.func12 (by kernel_rfl) rfl #[.int .i64 1, .slice A0 l0.length c0] rfl (by (try simp only [List.map_toArray, List.map_cons, List.map_nil]); first | done | rfl | (simp only [List.length_drop, List.length_take]; rfl)) ?_; (with_reducible refine (weave_In.calls k 1 _ _ l0 t145 t146 _ ?side1 ?side2 A9.out).mono ?_); (case side1 => repeat (first | exact (Kd.C_below HR0.out HB.out) | (with_reducible refine Kd.C_alloc ?_ _) | (with_reducible refine Kd.C_drewN ?_ _) | (with_reducible refine Kd.C_drew ?_))); (case side2 => exact HC0.out); rintro e w13 ⟨v147, rfl, ho0, hb⟩; refine ⟨_, rfl, ?_⟩; have n0_ := Aside0.mk (Kd.R_below (by (with_reducible repeat (first | apply Kd.R_alloc | apply Kd.R_drewN | apply Kd.R_drew)); exact HO144.out) hb); have n1_ := Aside0.mk (Kd.S_lower (Kd.S_new' ho0 (Kd.R_lt (by (with_reducible repeat (first | apply Kd.R_alloc | apply Kd.R_drewN | apply Kd.R_drew)); exact HO144.out))) (below_size (by repeat (first | (with_reducible first | exact HB.out | apply below_alloc | apply pw_below_drewN | apply below_drew1) | exact HB.out)))); have n2_ := Aside0.mk (below_step (by repeat (first | (with_reducible first | exact HB.out | apply below_alloc | apply pw_below_drewN | apply below_drew1) | exact HB.out)) hb); clear HO144; clear HB; have HO144 := n0_; have HO148 := n1_; have HB := n2_; clear n0_ n1_ n2_; (try clear hb); (try clear hb2); (try clear hk); (try clear hi); (try clear ho0)))
        go_loopg [8, 9] k (fun kq v8 v9 w' => ∃ (x8_1 : List (List Int)) (x9_1 : Int), v9 = .int .i64 x9_1 ∧ Aside0 (blackboardlaw6_WeaveOnes.l0 kq l0 t141 t142 t145 t146 ji10 x8_1 x9_1 = some r) ∧ Aside0 (kq ≤ k) ∧ Aside0 (Kd.R (Kd.int .u16) 22 w' w.heap.size (fun _ => True) v143 t141) ∧ Aside0 (Kd.S (Kd.slice 22 (Kd.int .u16)) 27 w' w.heap.size (fun k_ => some k_ ≠ (v143 : Value).ownBlock ∧ some k_ ≠ (v8 : Value).ownBlock) v147 t145) ∧ Aside0 (Kd.S (Kd.slice 22 (Kd.int .u16)) 27 w' w.heap.size (fun k_ => some k_ ≠ (v143 : Value).ownBlock ∧ some k_ ≠ (v147 : Value).ownBlock) v8 x8_1) ∧ Aside0 (Below w.heap.size w w'))
        case atStart => exact ⟨(([] : List (List Int))), (0), (by first | rfl | (simp; done) | (simp [*]; done)), H', ⟨Nat.le_refl _⟩, ⟨by (with_reducible repeat (first | apply Kd.R_alloc | apply Kd.R_drewN | apply Kd.R_drew)); exact HO144.out⟩, ⟨by (with_reducible repeat (first | apply Kd.S_alloc | apply Kd.S_drewN | apply Kd.S_drew)); exact Kd.S_mono HO148.out (fun _ hk => ⟨hk.2, (by simp [Value.ownBlock])⟩)⟩, ⟨by first | exact Kd.S_nil _ _ _ _ _ | exact Kd.N_nil _ _ _ _ _ | exact Kd.V_nil _ _ _ _ _ | exact Kd.Q_nil _ _ _ _ _ | exact Kd.R_nil _ _ _ _ _⟩, ⟨by repeat (first | (with_reducible first | exact HB.out | apply below_alloc | apply pw_below_drewN | apply below_drew1) | exact HB.out)⟩⟩
        case round =>
          clear H'
          try clear c1
          try clear p2
          try clear c3
          try clear c4
          try clear c4b0
          try clear c4b1
          try clear c4b2
          try clear c6
          try clear c6b0
          try clear c6b1
          try clear c7
          try clear c8
          try clear c10
          try clear c12
          obtain ⟨x8_1, x9_1, rfl, HA, HK1, HO_3, HO_5, HO_8, HB⟩ := hrel
          cases gk with
          | zero => exact absurd HA.out (by simp [blackboardlaw6_WeaveOnes.l0])
          | succ k1 =>
            have H := HA.out
            clear HA
            simp only [blackboardlaw6_WeaveOnes.l0] at H
            by_cases c14 : x9_1 < ji10
            · rw [if_pos c14] at H
              have c14b0 : decide (x9_1 < ji10) = true := decide_eq_true c14
              clear c14
              by_cases c15 : 0 ≤ x9_1
              · rw [if_pos c15] at H
                have c15b0 : decide (0 ≤ x9_1) = true := decide_eq_true c15
                clear c15
                by_cases c16 : x9_1 < (l0.length : Int)
                · rw [if_pos c16] at H
                  have c16b0 : decide (x9_1 < (l0.length : Int)) = true := decide_eq_true c16
                  clear c16
                  obtain ⟨y150, hy150⟩ : ∃ y_ : List Int, y_ = (([rd l0 x9_1] : List Int)) := ⟨_, rfl⟩
                  replace H : (if x8_1.length < 5864062014805 then (blackboardlaw6_WeaveOnes.l0 k1 l0 t141 t142 t145 t146 ji10 (x8_1 ++ [y150]) (wrap64 (x9_1 + 1))) else (none)) = some r := by first | (rw [hy150]; with_reducible exact H) | (have H2_ := (Option.bind_some _ _).symm.trans H; rw [hy150]; with_reducible exact H2_) | (have H2_ := (Option.bind_some _ _).symm.trans H; with_reducible exact H2_) | with_reducible exact H | (rw [hy150]; exact H) | exact H
                  have Ny150 := Aside0.mk hy150
                  clear hy150
                  by_cases c17 : x8_1.length < 5864062014805
                  · rw [if_pos c17] at H
                    have LMc17 := Aside0.mk c17
                    clear c17
                    obtain ⟨y153, hy153⟩ : ∃ y_ : List (List Int), y_ = (x8_1 ++ [y150]) := ⟨_, rfl⟩
                    replace H : (blackboardlaw6_WeaveOnes.l0 k1 l0 t141 t142 t145 t146 ji10 y153 (wrap64 (x9_1 + 1))) = some r := by first | (rw [hy153]; with_reducible exact H) | (have H2_ := (Option.bind_some _ _).symm.trans H; rw [hy153]; with_reducible exact H2_) | (have H2_ := (Option.bind_some _ _).symm.trans H; with_reducible exact H2_) | with_reducible exact H | (rw [hy153]; exact H) | exact H
                    have Ny153 := Aside0.mk hy153
                    clear hy153
                    have H' := Aside0.mk H
                    clear H
                    have p149 : 0 ≤ (x9_1 : Int) := of_decide_eq_true (by first | (with_reducible assumption) | assumption)
                    have q149 : x9_1 < (l0.length : Int) := of_decide_eq_true (by first | (with_reducible assumption) | assumption)
                    obtain ⟨ad149, e149, hx149_0⟩ := Kd.at_int HR0.out x9_1 p149 q149
                    cases e149
                    replace hx149_0 := (HB.out.cell (World.block_lt_of_cell? w _ hx149_0)).trans hx149_0
                    replace p149 := eq_true p149
                    replace q149 := eq_true q149
                    go_wp2_with (first | ((with_reducible refine gate_dst (N := 46) rfl ?_); (try (refine gate_guard (by rfl) ?_; dsimp only)); refine Kd.R_lit (Kd.int .u16) _ 22 ?hg (N := 46) ?hd (xs := ([rd l0 x9_1] : List Int)) (inner := [.int .u16 (rd l0 x9_1)]) (ok := fun _ => True) (okp := fun _ => True) ?hr ?hp (fun _ hk => hk) trivial (Below.refl _ _) (Nat.le_refl _) (by simp) ?_; (case hd => rfl); (case hg => rfl); (case hr => first | (go_simp; done) | (go_simp; rfl)); (case hp => exact (Reps.one (show Kd.M (Kd.int .u16) _ _ _ (rd l0 x9_1) [.int .u16 (rd l0 x9_1)] from rfl) (Reps.none _ _))); intro v151 w18 ho19 hb hg_ hnew_; clear hg_ hnew_; (first | rw [← Ny150.out] at ho19 | (simp only [Int.reduceToNat] at ho19; rw [← Ny150.out] at ho19)); have n0_ := Aside0.mk (Kd.R_elder' (by (with_reducible repeat (first | apply Kd.R_alloc | apply Kd.R_drewN | apply Kd.R_drew)); exact HO_3.out) (Kd.R_base ho19) hb); have n1_ := Aside0.mk (Kd.S_elder' (by (with_reducible repeat (first | apply Kd.S_alloc | apply Kd.S_drewN | apply Kd.S_drew)); exact HO_5.out) (Kd.R_base ho19) hb); have n2_ := Aside0.mk (Kd.S_elder' (by (with_reducible repeat (first | apply Kd.S_alloc | apply Kd.S_drewN | apply Kd.S_drew)); exact HO_8.out) (Kd.R_base ho19) hb); have n3_ := Aside0.mk (Kd.R_lower (Kd.R_new' ho19 (Kd.R_lt (by (with_reducible repeat (first | apply Kd.R_alloc | apply Kd.R_drewN | apply Kd.R_drew)); exact HO_3.out))) (below_size (by repeat (first | (with_reducible first | exact HB.out | apply below_alloc | apply pw_below_drewN | apply below_drew1) | exact HB.out)))); have n4_ := Aside0.mk (below_step (by repeat (first | (with_reducible first | exact HB.out | apply below_alloc | apply pw_below_drewN | apply below_drew1) | exact HB.out)) hb); clear HO_3; clear HO_5; clear HO_8; clear HB; have HO_3 := n0_; have HO_5 := n1_; have HO_8 := n2_; have HO152 := n3_; have HB := n4_; clear n0_ n1_ n2_ n3_ n4_; clear hb ho19; obtain ⟨Ao21, co21, eo21⟩ := Kd.R_slice HO152.out; subst eo21) | ((with_reducible refine gate_builtin (b := .append) (xs := #[.tmp 41, .tmp 47]) rfl ?_); (try (refine gate_guard (by rfl) ?_; dsimp only)); at_builtin; refine Kd.S_append (Kd.slice 22 (Kd.int .u16)) (w0 := w) w.heap.size rfl (.tmp 41) (.tmp 47) 26 27 (.slice none 0 0) 24 rfl Try.underlying26 info27 rfl (by decide) (by omega) u8 x8_1 y150 [.slice Ao21 y150.length co21] (fun k_ => some k_ ≠ (v143 : Value).ownBlock ∧ some k_ ≠ (v147 : Value).ownBlock) (fun k_ => some k_ = (.slice Ao21 y150.length co21 : Value).ownBlock) rfl rfl ?aP (fun k_ hk_ => ((Kd.R_mono (ok' := fun k_ => ((fun k_ => some k_ ≠ (v143 : Value).ownBlock ∧ some k_ ≠ (v147 : Value).ownBlock)) k_ ∧ some k_ ≠ (u8 : Value).ownBlock) (Kd.R_apart' (Kd.R_apart' (HO152.out) (Kd.S_typed HO_5.out) (by decide)) (Kd.S_typed HO_8.out) (by decide)) (fun k_ hk => ⟨⟨hk.1.1.2, hk.1.2⟩, hk.2⟩))).1 k_ hk_.symm) ?aF ?aO ?aB ?aS ?aL ?_; (case aP => exact Kd.M_row (Kd.R_mono (Kd.R_tight rfl (Kd.R_mono (ok' := fun k_ => ((fun k_ => some k_ ≠ (v143 : Value).ownBlock ∧ some k_ ≠ (v147 : Value).ownBlock)) k_ ∧ some k_ ≠ (u8 : Value).ownBlock) (Kd.R_apart' (Kd.R_apart' (HO152.out) (Kd.S_typed HO_5.out) (by decide)) (Kd.S_typed HO_8.out) (by decide)) (fun k_ hk => ⟨⟨hk.1.1.2, hk.1.2⟩, hk.2⟩))) (fun _ h_ => h_))); (case aB => exact (by repeat (first | (with_reducible first | exact HB.out | apply below_alloc | apply pw_below_drewN | apply below_drew1) | exact HB.out))); (case aF => exact (fun k_ hk => ⟨Kd.fresh' (Kd.R_lt (by (with_reducible repeat (first | apply Kd.R_alloc | apply Kd.R_drewN | apply Kd.R_drew)); exact HO_3.out)) k_ hk, Kd.fresh' (Kd.S_lt (by (with_reducible repeat (first | apply Kd.S_alloc | apply Kd.S_drewN | apply Kd.S_drew)); exact HO_5.out)) k_ hk⟩)); (case aO => exact (by (with_reducible repeat (first | apply Kd.S_alloc | apply Kd.S_drewN | apply Kd.S_drew)); exact Kd.S_mono HO_8.out (fun k_ hk => ⟨⟨hk.1.1, hk.1.2⟩, fun e_ => hk.2 e_⟩))); (case aS => exact (below_size (by repeat (first | (with_reducible first | exact HB.out | apply below_alloc | apply pw_below_drewN | apply below_drew1) | exact HB.out)))); (case aL => have := LMc17.out; omega); intro v154 w20 ho hb hg hat; rw [← Ny153.out] at ho; have n0_ := Aside0.mk (Kd.R_over' (by (with_reducible repeat (first | apply Kd.R_alloc | apply Kd.R_drewN | apply Kd.R_drew)); exact HO_3.out) (Kd.S_typed (by (with_reducible repeat (first | apply Kd.S_alloc | apply Kd.S_drewN | apply Kd.S_drew)); exact HO_8.out)) (by decide) hg); have n1_ := Aside0.mk (Kd.S_after (ok := (fun k_ => some k_ ≠ (v143 : Value).ownBlock ∧ some k_ ≠ (.slice Ao21 y150.length co21 : Value).ownBlock)) (by (with_reducible repeat (first | apply Kd.S_alloc | apply Kd.S_drewN | apply Kd.S_drew)); exact Kd.S_mono HO_5.out (fun _ hk => ⟨⟨hk.1.1, hk.2⟩, hk.1.2⟩)) hg hat); have n2_ := Aside0.mk (hb); have n3_ := Aside0.mk (ho); clear HO_3; clear HO_5; clear HB; clear HO_8; clear HO152; have HO_3 := n0_; have HO_5 := n1_; have HB := n2_; have HO155 := n3_; clear n0_ n1_ n2_ n3_; clear ho hb hg hat))
                    go_roundg k1
                    case measure => have := HK1.out; omega
                    case rel => exact ⟨(y153), (wrap64 (x9_1 + 1)), (by first | rfl | (simp; done) | (simp [*]; done)), H', ⟨by have := HK1.out; omega⟩, ⟨by (with_reducible repeat (first | apply Kd.R_alloc | apply Kd.R_drewN | apply Kd.R_drew)); exact Kd.R_mono HO_3.out (fun _ hk => trivial)⟩, ⟨by (with_reducible repeat (first | apply Kd.S_alloc | apply Kd.S_drewN | apply Kd.S_drew)); exact Kd.S_mono HO_5.out (fun _ hk => ⟨hk.1.1, hk.2⟩)⟩, ⟨by (with_reducible repeat (first | apply Kd.S_alloc | apply Kd.S_drewN | apply Kd.S_drew)); exact HO155.out⟩, ⟨by repeat (first | (with_reducible first | exact HB.out | apply below_alloc | apply pw_below_drewN | apply below_drew1) | exact HB.out)⟩⟩
                  · rw [if_neg c17] at H
                    exact absurd H (by simp)
                · rw [if_neg c16] at H
                  exact absurd H (by simp)
              · rw [if_neg c15] at H
                exact absurd H (by simp)
            · rw [if_neg c14] at H
              have c14b0 : decide (x9_1 < ji10) = false := decide_eq_false c14
              clear c14
              replace H := Option.bind_eq_some_iff.mp H
              obtain ⟨⟨t156, t157⟩, A220, H⟩ := H
              replace H : (if t142 = 0 then (if t146 = 0 then (if t157 = 0 then ((blackboardref1_Same.f k1 t141 l0).bind fun t160 => (if t160 = true then (if (t145.length : Int) = 1 then (if 0 < (t145.length : Int) then ((blackboardref1_Same.f k1 (rd_L1 t145 0) l0).bind fun t162 => (if t162 = true then (if 0 ≤ ji10 then (if ji10 ≤ (l0.length : Int) then ((blackboardref1_Same.f k1 t156 (l0.take (ji10 : Int).toNat)).bind fun t164 => (some t164)) else (none)) else (none)) else (some false))) else (none)) else (some false)) else (some false))) else (some false)) else (some false)) else (some false)) = some r := H
              have A22 := Aside0.mk A220
              clear A220
              by_cases c23 : t142 = 0
              · rw [if_pos c23] at H
                have c23b0 : (t142 == 0) = true := beq_iff_eq.mpr c23
                have c23b1 : (t142 != 0) = false := bne_eq_false_iff_eq.mpr c23
                clear c23
                by_cases c24 : t146 = 0
                · rw [if_pos c24] at H
                  have c24b0 : (t146 == 0) = true := beq_iff_eq.mpr c24
                  have c24b1 : (t146 != 0) = false := bne_eq_false_iff_eq.mpr c24
                  clear c24
                  by_cases c25 : t157 = 0
                  · rw [if_pos c25] at H
                    have c25b0 : (t157 == 0) = true := beq_iff_eq.mpr c25
                    have c25b1 : (t157 != 0) = false := bne_eq_false_iff_eq.mpr c25
                    clear c25
                    replace H := Option.bind_eq_some_iff.mp H
                    obtain ⟨t160, A260, H⟩ := H
                    replace H : (if t160 = true then (if (t145.length : Int) = 1 then (if 0 < (t145.length : Int) then ((blackboardref1_Same.f k1 (rd_L1 t145 0) l0).bind fun t162 => (if t162 = true then (if 0 ≤ ji10 then (if ji10 ≤ (l0.length : Int) then ((blackboardref1_Same.f k1 t156 (l0.take (ji10 : Int).toNat)).bind fun t164 => (some t164)) else (none)) else (none)) else (some false))) else (none)) else (some false)) else (some false)) = some r := H
                    have A26 := Aside0.mk A260
                    clear A260
                    by_cases c27 : t160 = true
                    · subst c27
                      have H1 : (if (t145.length : Int) = 1 then (if 0 < (t145.length : Int) then ((blackboardref1_Same.f k1 (rd_L1 t145 0) l0).bind fun t162 => (if t162 = true then (if 0 ≤ ji10 then (if ji10 ≤ (l0.length : Int) then ((blackboardref1_Same.f k1 t156 (l0.take (ji10 : Int).toNat)).bind fun t164 => (some t164)) else (none)) else (none)) else (some false))) else (none)) else (some false)) = some r := by rw [if_pos rfl] at H; exact H
                      clear H
                      have H := H1
                      clear H1
                      by_cases c28 : (t145.length : Int) = 1
                      · rw [if_pos c28] at H
                        have c28b0 : ((t145.length : Int) == 1) = true := beq_iff_eq.mpr c28
                        have c28b1 : ((t145.length : Int) != 1) = false := bne_eq_false_iff_eq.mpr c28
                        clear c28
                        by_cases c29 : 0 < (t145.length : Int)
                        · rw [if_pos c29] at H
                          have c29b0 : decide (0 < (t145.length : Int)) = true := decide_eq_true c29
                          have c29b1 : decide (0 < t145.length) = true := decide_eq_true (by omega)
                          clear c29
                          replace H := Option.bind_eq_some_iff.mp H
                          obtain ⟨t162, A300, H⟩ := H
                          replace H : (if t162 = true then (if 0 ≤ ji10 then (if ji10 ≤ (l0.length : Int) then ((blackboardref1_Same.f k1 t156 (l0.take (ji10 : Int).toNat)).bind fun t164 => (some t164)) else (none)) else (none)) else (some false)) = some r := H
                          have A30 := Aside0.mk A300
                          clear A300
                          by_cases c31 : t162 = true
                          · subst c31
                            have H1 : (if 0 ≤ ji10 then (if ji10 ≤ (l0.length : Int) then ((blackboardref1_Same.f k1 t156 (l0.take (ji10 : Int).toNat)).bind fun t164 => (some t164)) else (none)) else (none)) = some r := by rw [if_pos rfl] at H; exact H
                            clear H
                            have H := H1
                            clear H1
                            by_cases c32 : 0 ≤ ji10
                            · rw [if_pos c32] at H
                              have c32b0 := eq_true c32
                              have c32b1 : decide (0 ≤ ji10) = true := decide_eq_true c32
                              clear c32
                              by_cases c33 : ji10 ≤ (l0.length : Int)
                              · rw [if_pos c33] at H
                                have c33b0 := eq_true c33
                                have c33b1 : decide (ji10 ≤ (l0.length : Int)) = true := decide_eq_true c33
                                obtain ⟨lt_, hlt_⟩ : ∃ lt_ : List Int, (l0.take (ji10 : Int).toNat) = lt_ := ⟨_, rfl⟩
                                rw [hlt_] at H
                                clear c33
                                replace H := Option.bind_eq_some_iff.mp H
                                obtain ⟨t164, A340, H⟩ := H
                                replace H : (some t164) = some r := H
                                have A34 := Aside0.mk A340
                                clear A340
                                obtain rfl := Option.some.inj H
                                obtain ⟨Ao35, co35, eo35⟩ := Kd.S_slice HO_8.out
                                subst eo35
                                go_wp2_with (first | ((with_reducible refine gate_callee (f := 10) rfl ?_); refine goesL_ (some 52) rfl rfl Try.func10 (by kernel_rfl) rfl #[.int .i64 ji10, .slice Ao35 x8_1.length co35] rfl (by (try simp only [List.map_toArray, List.map_cons, List.map_nil]); first | done | (simp only [hji10]; rfl) | rfl | (simp only [List.length_drop, List.length_take]; rfl)) ?_; (with_reducible refine (weave_Out.calls k1 ji10 _ _ x8_1 t156 t157 _ ?side1 ?side2 A22.out).mono ?_); (case side1 => repeat (first | exact (Kd.S_reads' HO_8.out).2.2 | (with_reducible refine Kd.C_alloc ?_ _) | (with_reducible refine Kd.C_drewN ?_ _) | (with_reducible refine Kd.C_drew ?_))); (case side2 => exact (Kd.S_reads' HO_8.out).2.1); rintro e w36 ⟨v158, rfl, ho0, hb⟩; refine ⟨_, rfl, ?_⟩; have n0_ := Aside0.mk (Kd.R_elder' (by (with_reducible repeat (first | apply Kd.R_alloc | apply Kd.R_drewN | apply Kd.R_drew)); exact HO_3.out) (Kd.R_base ho0) hb); have n1_ := Aside0.mk (Kd.S_elder' (by (with_reducible repeat (first | apply Kd.S_alloc | apply Kd.S_drewN | apply Kd.S_drew)); exact HO_5.out) (Kd.R_base ho0) hb); have n2_ := Aside0.mk (Kd.S_elder' (by (with_reducible repeat (first | apply Kd.S_alloc | apply Kd.S_drewN | apply Kd.S_drew)); exact HO_8.out) (Kd.R_base ho0) hb); have n3_ := Aside0.mk (Kd.R_lower (Kd.R_new' ho0 (Kd.R_lt (by (with_reducible repeat (first | apply Kd.R_alloc | apply Kd.R_drewN | apply Kd.R_drew)); exact HO_3.out))) (below_size (by repeat (first | (with_reducible first | exact HB.out | apply below_alloc | apply pw_below_drewN | apply below_drew1) | exact HB.out)))); have n4_ := Aside0.mk (below_step (by repeat (first | (with_reducible first | exact HB.out | apply below_alloc | apply pw_below_drewN | apply below_drew1) | exact HB.out)) hb); clear HO_3; clear HO_5; clear HO_8; clear HB; have HO_3 := n0_; have HO_5 := n1_; have HO_8 := n2_; have HO159 := n3_; have HB := n4_; clear n0_ n1_ n2_ n3_ n4_; (try clear hb); (try clear hb2); (try clear hk); (try clear hi); (try clear ho0); obtain ⟨Ao37, co37, eo37⟩ := Kd.R_slice HO_3.out; subst eo37) | (go_at_call 14; (with_reducible refine (blackboardref1_Same.calls k1 _ _ t141 _ _ l0 true _ ?side1 ?side2 ?side3 ?side4 A26.out).mono ?_); (case side1 => repeat (first | exact (Kd.R_reads' HO_3.out).2.2 | (with_reducible refine Kd.C_alloc ?_ _) | (with_reducible refine Kd.C_drewN ?_ _) | (with_reducible refine Kd.C_drew ?_))); (case side2 => exact (Kd.R_reads' HO_3.out).2.1); (case side3 => repeat (first | exact (Kd.C_below HR0.out HB.out) | (with_reducible refine Kd.C_alloc ?_ _) | (with_reducible refine Kd.C_drewN ?_ _) | (with_reducible refine Kd.C_drew ?_))); (case side4 => exact HC0.out); rintro e w38 ⟨rfl, hb⟩; have n0_ := Aside0.mk (Kd.R_below (by (with_reducible repeat (first | apply Kd.R_alloc | apply Kd.R_drewN | apply Kd.R_drew)); exact HO_3.out) hb); have n1_ := Aside0.mk (Kd.S_below (by (with_reducible repeat (first | apply Kd.S_alloc | apply Kd.S_drewN | apply Kd.S_drew)); exact HO_5.out) hb); have n2_ := Aside0.mk (Kd.S_below (by (with_reducible repeat (first | apply Kd.S_alloc | apply Kd.S_drewN | apply Kd.S_drew)); exact HO_8.out) hb); have n3_ := Aside0.mk (Kd.R_below (by (with_reducible repeat (first | apply Kd.R_alloc | apply Kd.R_drewN | apply Kd.R_drew)); exact HO159.out) hb); have n4_ := Aside0.mk (below_step (by repeat (first | (with_reducible first | exact HB.out | apply below_alloc | apply pw_below_drewN | apply below_drew1) | exact HB.out)) hb); clear HO_3; clear HO_5; clear HO_8; clear HO159; clear HB; have HO_3 := n0_; have HO_5 := n1_; have HO_8 := n2_; have HO159 := n3_; have HB := n4_; clear n0_ n1_ n2_ n3_ n4_; (try clear hb); (try clear hb2); (try clear hk); (try clear hi); obtain ⟨Ao39, co39, eo39⟩ := Kd.S_slice HO_5.out; subst eo39; have p161 : 0 ≤ (0 : Int) := (by omega); have q161 : 0 < (t145.length : Int) := of_decide_eq_true (by first | (with_reducible assumption) | assumption); obtain ⟨ad161, A161_0, c161_0, e161, hx161_0, hl161_0, hi161_0⟩ := at_L1 (Kd.S_reads' HO_5.out).2.2 0 p161 q161; cases e161; obtain ⟨ce161, hce161, hMe161, hcc161⟩ := Kd.S_get HO_5.out [] 0 p161 (by first | exact q161 | exact of_decide_eq_true (by first | (with_reducible assumption) | assumption) | (have e_ := (Kd.S_reads' HO_5.out).1; omega)); obtain ⟨ve161_0, rfl, ge161_0⟩ := hMe161; have hv161_0 := hcc161 0 _ rfl; rw [Nat.add_zero, show ((Kd.slice 22 (Kd.int .u16))).sz = 1 from rfl, Nat.mul_one] at hv161_0; replace hv161_0 := Option.some.inj (hv161_0.symm.trans hx161_0); rw [hv161_0] at ge161_0; have HL161_0 := Aside0.mk (show Kd.R (Kd.int .u16) 22 _ _ _ _ (rd_L1 t145 0) from ge161_0); clear hv161_0 ge161_0; clear hcc161 hce161; have qi161 : (0 < t145.length) = True := eq_true (by omega); (try rw [show ((0 : Int)).toNat = 0 from rfl] at hx161_0); (try rw [Addr.add_zero'] at hx161_0); have HR161_0 := Aside0.mk hi161_0; have HC161_0 := Aside0.mk hl161_0; clear hi161_0 hl161_0; replace p161 := eq_true p161; replace q161 := eq_true q161) | (go_at_call 14; (with_reducible refine (blackboardref1_Same.calls k1 _ _ (rd_L1 t145 0) _ _ l0 true _ ?side1 ?side2 ?side3 ?side4 A30.out).mono ?_); (case side1 => repeat (first | exact (by repeat (first | (with_reducible exact HR161_0.out) | (with_reducible refine Kd.C_alloc ?_ _) | (with_reducible refine Kd.C_drewN ?_ _) | (with_reducible refine Kd.C_drew ?_) | exact HR161_0.out)) | (with_reducible refine Kd.C_alloc ?_ _) | (with_reducible refine Kd.C_drewN ?_ _) | (with_reducible refine Kd.C_drew ?_))); (case side2 => exact HC161_0.out); (case side3 => repeat (first | exact (Kd.C_below HR0.out HB.out) | (with_reducible refine Kd.C_alloc ?_ _) | (with_reducible refine Kd.C_drewN ?_ _) | (with_reducible refine Kd.C_drew ?_))); (case side4 => exact HC0.out); rintro e w40 ⟨rfl, hb⟩; have n0_ := Aside0.mk (Kd.R_below (by (with_reducible repeat (first | apply Kd.R_alloc | apply Kd.R_drewN | apply Kd.R_drew)); exact HO_3.out) hb); have n1_ := Aside0.mk (Kd.S_below (by (with_reducible repeat (first | apply Kd.S_alloc | apply Kd.S_drewN | apply Kd.S_drew)); exact HO_5.out) hb); have n2_ := Aside0.mk (Kd.S_below (by (with_reducible repeat (first | apply Kd.S_alloc | apply Kd.S_drewN | apply Kd.S_drew)); exact HO_8.out) hb); have n3_ := Aside0.mk (Kd.R_below (by (with_reducible repeat (first | apply Kd.R_alloc | apply Kd.R_drewN | apply Kd.R_drew)); exact HO159.out) hb); have n4_ := Aside0.mk (Kd.R_below (by (with_reducible repeat (first | apply Kd.R_alloc | apply Kd.R_drewN | apply Kd.R_drew)); exact HL161_0.out) hb); have n5_ := Aside0.mk (Kd.C_below (by repeat (first | (with_reducible exact HR161_0.out) | (with_reducible refine Kd.C_alloc ?_ _) | (with_reducible refine Kd.C_drewN ?_ _) | (with_reducible refine Kd.C_drew ?_) | exact HR161_0.out)) hb); have n6_ := Aside0.mk (below_step (by repeat (first | (with_reducible first | exact HB.out | apply below_alloc | apply pw_below_drewN | apply below_drew1) | exact HB.out)) hb); clear HO_3; clear HO_5; clear HO_8; clear HO159; clear HL161_0; clear HR161_0; clear HB; have HO_3 := n0_; have HO_5 := n1_; have HO_8 := n2_; have HO159 := n3_; have HL161_0 := n4_; have HR161_0 := n5_; have HB := n6_; clear n0_ n1_ n2_ n3_ n4_ n5_ n6_; (try clear hb); (try clear hb2); (try clear hk); (try clear hi); obtain ⟨i041, hi041, _, hsz41, _⟩ := info_parts info22; obtain ⟨hcut41, hA41, hC41⟩ := print_take_of (P := Try.prog) (Value.int .u16) 0 27 22 .i64 Try.underlying27 hi041 hsz41 A0 c0 l0 ji10 (of_decide_eq_true (by first | (with_reducible assumption) | assumption)) (of_decide_eq_true (by first | (with_reducible assumption) | assumption)) HC0.out; rw [hlt_] at hcut41 hA41 hC41; have HR163 := Aside0.mk (Kd.C_of_reads (h1 := fun _ => rfl) (hA41 _ (Kd.reads_of_C HR0.out))); have HC163 := Aside0.mk hC41; clear hA41 hC41 hi041 hsz41; obtain ⟨Ao42, co42, eo42⟩ := Kd.R_slice HO159.out; subst eo42) | (go_at_call 14; (with_reducible refine (blackboardref1_Same.calls k1 _ _ t156 _ _ lt_ t164 _ ?side1 ?side2 ?side3 ?side4 A34.out).mono ?_); (case side1 => repeat (first | exact (Kd.R_reads' HO159.out).2.2 | (with_reducible refine Kd.C_alloc ?_ _) | (with_reducible refine Kd.C_drewN ?_ _) | (with_reducible refine Kd.C_drew ?_))); (case side2 => exact (Kd.R_reads' HO159.out).2.1); (case side3 => repeat (first | exact (Kd.C_below HR163.out HB.out) | (with_reducible refine Kd.C_alloc ?_ _) | (with_reducible refine Kd.C_drewN ?_ _) | (with_reducible refine Kd.C_drew ?_))); (case side4 => exact HC163.out); rintro e w43 ⟨rfl, hb⟩; have n0_ := Aside0.mk (Kd.R_below (by (with_reducible repeat (first | apply Kd.R_alloc | apply Kd.R_drewN | apply Kd.R_drew)); exact HO_3.out) hb); have n1_ := Aside0.mk (Kd.S_below (by (with_reducible repeat (first | apply Kd.S_alloc | apply Kd.S_drewN | apply Kd.S_drew)); exact HO_5.out) hb); have n2_ := Aside0.mk (Kd.S_below (by (with_reducible repeat (first | apply Kd.S_alloc | apply Kd.S_drewN | apply Kd.S_drew)); exact HO_8.out) hb); have n3_ := Aside0.mk (Kd.R_below (by (with_reducible repeat (first | apply Kd.R_alloc | apply Kd.R_drewN | apply Kd.R_drew)); exact HO159.out) hb); have n4_ := Aside0.mk (Kd.R_below (by (with_reducible repeat (first | apply Kd.R_alloc | apply Kd.R_drewN | apply Kd.R_drew)); exact HL161_0.out) hb); have n5_ := Aside0.mk (Kd.C_below (by repeat (first | (with_reducible exact HR161_0.out) | (with_reducible refine Kd.C_alloc ?_ _) | (with_reducible refine Kd.C_drewN ?_ _) | (with_reducible refine Kd.C_drew ?_) | exact HR161_0.out)) hb); have n6_ := Aside0.mk (below_step (by repeat (first | (with_reducible first | exact HB.out | apply below_alloc | apply pw_below_drewN | apply below_drew1) | exact HB.out)) hb); clear HO_3; clear HO_5; clear HO_8; clear HO159; clear HL161_0; clear HR161_0; clear HB; have HO_3 := n0_; have HO_5 := n1_; have HO_8 := n2_; have HO159 := n3_; have HL161_0 := n4_; have HR161_0 := n5_; have HB := n6_; clear n0_ n1_ n2_ n3_ n4_ n5_ n6_; (try clear hb); (try clear hb2); (try clear hk); (try clear hi)))
                                go_ret
                                exact ⟨by first | rfl | (simp [errW_none, errW_some] <;> rfl) | (simp only [← hji10]; first | rfl | (simp [errW_none, errW_some] <;> rfl)) | (simp [*, errW_none, errW_some] <;> rfl), by repeat (first | (with_reducible first | exact HB.out | apply below_alloc | apply pw_below_drewN | apply below_drew1) | exact HB.out)⟩
                              · rw [if_neg c33] at H
                                exact absurd H (by simp)
                            · rw [if_neg c32] at H
                              exact absurd H (by simp)
                          · replace c31 := Bool.eq_false_iff.mpr c31
                            subst c31
                            have H1 : (some false) = some r := by rw [if_neg (show ¬ (false = true) by decide)] at H; exact H
                            clear H
                            have H := H1
                            clear H1
                            obtain rfl := Option.some.inj H
                            exact absurd HRT_.out (by simp)
                        · rw [if_neg c29] at H
                          exact absurd H (by simp)
                      · rw [if_neg c28] at H
                        have c28b0 : ((t145.length : Int) == 1) = false := beq_eq_false_iff_ne.mpr c28
                        have c28b1 : ((t145.length : Int) != 1) = true := bne_iff_ne.mpr c28
                        obtain rfl := Option.some.inj H
                        exact absurd HRT_.out (by simp)
                    · replace c27 := Bool.eq_false_iff.mpr c27
                      subst c27
                      have H1 : (some false) = some r := by rw [if_neg (show ¬ (false = true) by decide)] at H; exact H
                      clear H
                      have H := H1
                      clear H1
                      obtain rfl := Option.some.inj H
                      exact absurd HRT_.out (by simp)
                  · rw [if_neg c25] at H
                    have c25b0 : (t157 == 0) = false := beq_eq_false_iff_ne.mpr c25
                    have c25b1 : (t157 != 0) = true := bne_iff_ne.mpr c25
                    obtain rfl := Option.some.inj H
                    exact absurd HRT_.out (by simp)
                · rw [if_neg c24] at H
                  have c24b0 : (t146 == 0) = false := beq_eq_false_iff_ne.mpr c24
                  have c24b1 : (t146 != 0) = true := bne_iff_ne.mpr c24
                  obtain rfl := Option.some.inj H
                  exact absurd HRT_.out (by simp)
              · rw [if_neg c23] at H
                have c23b0 : (t142 == 0) = false := beq_eq_false_iff_ne.mpr c23
                have c23b1 : (t142 != 0) = true := bne_iff_ne.mpr c23
                obtain rfl := Option.some.inj H
                exact absurd HRT_.out (by simp)
  · replace c3 := Bool.eq_false_iff.mpr c3
    subst c3
    have H1 : (some false) = some r := by rw [if_neg (show ¬ (false = true) by decide)] at H; exact H
    clear H
    have H := H1
    clear H1
    obtain rfl := Option.some.inj H
    exact absurd HRT_.out (by simp)
/-- THE ONE PURE STATEMENT of blackboardlaw6_WeaveOnes: yours. -/
def blackboardlaw6_WeaveOnes.Pure : Prop := ∀ (l0 : List Int), l0.length ≤ maxLen → l0.length * 2 ≤ 140737488351232 → (∀ x ∈ l0, (Lit.int .u16 x).wf = true) → ∃ k, blackboardlaw6_WeaveOnes.f k l0 = some true
theorem blackboardlaw6_WeaveOnes.walk (P : blackboardlaw6_WeaveOnes.Pure) (a0 : Option Addr) (len0 cap0 : Nat) (z0 : List Int) (w : World) (w0 : (a0 = none ∧ len0 = 0 ∧ cap0 = 0 ∧ z0 = []) ∨ ∃ x, a0 = some x ∧ len0 ≤ cap0 ∧ cap0 ≤ maxLen ∧ z0.length = cap0 ∧ (∀ i, i < z0.length → w.cell? (x.add i) = some (.int .u16 (z0.getD i 0))) ∧ ∀ n ∈ z0, (Lit.int .u16 n).wf = true) (y0 : len0 * 2 ≤ 140737488351232) :
    Calls Try.prog 7 #[.slice a0 len0 cap0] w fun e w' => e = .returned (.bool true) ∧ Below w.heap.size w w' := by
  obtain ⟨l0, rfl, hr0, hm0, hw0, hc0⟩ := ReadsInt.ofRowC w0
  obtain ⟨k, h⟩ := P l0 hm0 y0 hw0
  refine (blackboardlaw6_WeaveOnes.calls k _ _ l0 true w (Kd.C_of_reads (d := (0 : Int)) (h1 := fun _ => rfl) hr0) hc0 h).mono ?_
  rintro e w' ⟨rfl, hd⟩
  exact ⟨rfl, hd⟩

end Go.Proofs.Ytghjenmocndlgaa.O
