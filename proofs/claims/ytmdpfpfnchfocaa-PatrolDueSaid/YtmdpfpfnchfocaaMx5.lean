/- Printed for this seat by a program of this session (over the kit's print), with contracts of its own laid in. -/
import Derived.Test.YtmdpfpfnchfocaaMx0
import Derived.Test.YtmdpfpfnchfocaaMx3
namespace Go.Proofs.Ytmdpfpfnchfocaa.M
open Go.RowKit Go.Proofs.YtmdpfpfnchfocaaW.PrintWords Go.Proofs.YtmdpfpfnchfocaaW.PrintLast Go.Proofs.YtmdpfpfnchfocaaW.PrintMore
attribute [local go_sem] max2_int min2_int max_two min_two max_three min_three max_four min_four   -- for this text's walks alone
set_option linter.unusedVariables false
set_option linter.unusedSimpArgs false

/-! ### blackboardlaw19_PatrolDue: function 5 -/
mutual
def blackboardlaw19_PatrolDue.j0 : Nat → List Int → Int → Bool → Option (Bool)
  | 0, _, _, _ => none
  | k + 1, x0, x1, x18 => if x18 = true then (some true) else (blackboardlaw19_PatrolDue.l0 k x0 x1 ([] : List (S36)) false 0)
def blackboardlaw19_PatrolDue.l0 : Nat → List Int → Int → List (S36) → Bool → Int → Option (Bool)
  | 0, _, _, _, _, _ => none
  | k + 1, x0, x1, x5, x6, x7 => if x7 < (x0.length : Int) then (if 0 ≤ x7 then (if x5.length < 8796093022208 then ((some (x5 ++ [(⟨Int.tmod (wrap64 (rd x0 x7)) 9, true⟩ : S36)] : List (S36))).bind fun y182 => (if x6 = true then (blackboardlaw19_PatrolDue.l0 k x0 x1 y182 true (wrap64 (x7 + 1))) else (blackboardlaw19_PatrolDue.l0 k x0 x1 y182 (decide ((Int.tmod (wrap64 (rd x0 x7)) 9) ≥ 4)) (wrap64 (x7 + 1))))) else (none)) else (none)) else ((patrol_Due.f x5).bind fun t186 => (if (x5.length : Int) = 0 then (none) else (if 0 ≤ (Int.tmod (wrap64 (x1)) (x5.length : Int)) then (if (Int.tmod (wrap64 (x1)) (x5.length : Int)) < (x5.length : Int) then (if (t186 == x6) = true then (if t186 = true then ((patrol_Due.f (x5.set ((Int.tmod (wrap64 (x1)) (x5.length : Int)) : Int).toNat (⟨wrap64 (((rd_T36 x5 (Int.tmod (wrap64 (x1)) (x5.length : Int))).f0) + 1), (rd_T36 x5 (Int.tmod (wrap64 (x1)) (x5.length : Int))).f1⟩ : S36))).bind fun t189 => (if t189 = true then ((patrol_Due.f ([] : List (S36))).bind fun t190 => (some (!t190))) else (some false))) else ((patrol_Due.f ([] : List (S36))).bind fun t191 => (some (!t191)))) else (some false)) else (none)) else (none))))
end
def blackboardlaw19_PatrolDue.f (k : Nat) (l0 : List Int) (a1 : Int) : Option (Bool) := (blackboardlaw19_awake.f k).bind fun t180 => (if t180 = true then (if (l0.length : Int) = 0 then (blackboardlaw19_PatrolDue.j0 k l0 a1 true) else (blackboardlaw19_PatrolDue.j0 k l0 a1 (decide ((l0.length : Int) > 100)))) else (some false))
theorem blackboardlaw19_PatrolDue.mono_l : ∀ k, (∀ y0 y1 y2, LeO (blackboardlaw19_PatrolDue.j0 k y0 y1 y2) (blackboardlaw19_PatrolDue.j0 (k + 1) y0 y1 y2)) ∧ (∀ y0 y1 y2 y3 y4, LeO (blackboardlaw19_PatrolDue.l0 k y0 y1 y2 y3 y4) (blackboardlaw19_PatrolDue.l0 (k + 1) y0 y1 y2 y3 y4))
  | 0 => ⟨fun _ _ _ r h => by simp [blackboardlaw19_PatrolDue.j0] at h, fun _ _ _ _ _ r h => by simp [blackboardlaw19_PatrolDue.l0] at h⟩
  | k + 1 => by
    obtain ⟨ih0, ih1⟩ := blackboardlaw19_PatrolDue.mono_l k
    refine ⟨?_, ?_⟩
    · intro y0 y1 y2
      unfold blackboardlaw19_PatrolDue.j0
      repeat' first
      | (with_reducible exact ih0 _ _ _)
      | (with_reducible exact ih1 _ _ _ _ _)
      | (with_reducible exact blackboardlaw19_awake.mono _)
      | (with_reducible exact LeO.refl _)
      | (with_reducible exact LeO.none _)
      | (with_reducible refine LeO.ite ?_ ?_)
      | (with_reducible refine LeO.bind ?_ (fun _ => ?_))
      | exact ih0 _ _ _
      | exact ih1 _ _ _ _ _
      | exact blackboardlaw19_awake.mono _
      | exact LeO.none _
      | refine LeO.ite ?_ ?_
      | refine LeO.bind ?_ (fun _ => ?_)
    · intro y0 y1 y2 y3 y4
      unfold blackboardlaw19_PatrolDue.l0
      repeat' first
      | (with_reducible exact ih0 _ _ _)
      | (with_reducible exact ih1 _ _ _ _ _)
      | (with_reducible exact blackboardlaw19_awake.mono _)
      | (with_reducible exact LeO.refl _)
      | (with_reducible exact LeO.none _)
      | (with_reducible refine LeO.ite ?_ ?_)
      | (with_reducible refine LeO.bind ?_ (fun _ => ?_))
      | exact ih0 _ _ _
      | exact ih1 _ _ _ _ _
      | exact blackboardlaw19_awake.mono _
      | exact LeO.none _
      | refine LeO.ite ?_ ?_
      | refine LeO.bind ?_ (fun _ => ?_)
theorem blackboardlaw19_PatrolDue.mono : ∀ a0 a1 k, LeO (blackboardlaw19_PatrolDue.f k a0 a1) (blackboardlaw19_PatrolDue.f (k + 1) a0 a1) := by
  intro a0 a1 k
  obtain ⟨ih0, ih1⟩ := blackboardlaw19_PatrolDue.mono_l k
  unfold blackboardlaw19_PatrolDue.f
  repeat' first
      | (with_reducible exact ih0 _ _ _)
      | (with_reducible exact ih1 _ _ _ _ _)
      | (with_reducible exact blackboardlaw19_awake.mono _)
      | (with_reducible exact LeO.refl _)
      | (with_reducible exact LeO.none _)
      | (with_reducible refine LeO.ite ?_ ?_)
      | (with_reducible refine LeO.bind ?_ (fun _ => ?_))
      | exact ih0 _ _ _
      | exact ih1 _ _ _ _ _
      | exact blackboardlaw19_awake.mono _
      | exact LeO.none _
      | refine LeO.ite ?_ ?_
      | refine LeO.bind ?_ (fun _ => ?_)
set_option maxHeartbeats 8000000 in
set_option maxRecDepth 100000 in
theorem blackboardlaw19_PatrolDue.calls (k : Nat) (A0 : Option Addr) (c0 : Nat) (l0 : List Int) (a1 : Int) (r : Bool) (w : World) (hr0 : Kd.C (Kd.int .u8) w A0 l0.length l0) (hc0 : l0.length ≤ c0) (h : blackboardlaw19_PatrolDue.f k l0 a1 = some r) :
    Calls Try.prog 5 #[.slice A0 l0.length c0, .int .u8 a1] w fun e w' => e = .returned (.bool r) ∧ Below w.heap.size w w' := by
  have hu36 := Try.underlying36
  have HR0 := Aside0.mk hr0
  have HC0 := Aside0.mk hc0
  clear hr0 hc0
  have HB := Aside0.mk (Below.refl w.heap.size w)
  have H : ((blackboardlaw19_awake.f k).bind fun t180 => (if t180 = true then (if (l0.length : Int) = 0 then (blackboardlaw19_PatrolDue.j0 k l0 a1 true) else (blackboardlaw19_PatrolDue.j0 k l0 a1 (decide ((l0.length : Int) > 100)))) else (some false))) = some r := h
  clear h
  replace H := Option.bind_eq_some_iff.mp H
  obtain ⟨t180, A30, H⟩ := H
  replace H : (if t180 = true then (if (l0.length : Int) = 0 then (blackboardlaw19_PatrolDue.j0 k l0 a1 true) else (blackboardlaw19_PatrolDue.j0 k l0 a1 (decide ((l0.length : Int) > 100)))) else (some false)) = some r := H
  have A3 := Aside0.mk A30
  clear A30
  by_cases c4 : t180 = true
  · subst c4
    have H1 : (if (l0.length : Int) = 0 then (blackboardlaw19_PatrolDue.j0 k l0 a1 true) else (blackboardlaw19_PatrolDue.j0 k l0 a1 (decide ((l0.length : Int) > 100)))) = some r := by rw [if_pos rfl] at H; exact H
    clear H
    have H := H1
    clear H1
    have HC5 := Aside0.mk H
    clear H
    go_enter Try.func5, Try.ntmps5
    go_upto_region 3 with (first | ((with_reducible refine gate_callee (f := 7) rfl ?_); refine goesL_ (some 9) rfl rfl Try.func7 (by kernel_rfl) rfl #[] rfl (by (try simp only [List.map_toArray, List.map_cons, List.map_nil]); first | done | rfl | (simp only [List.length_drop, List.length_take]; rfl)) ?_; (with_reducible refine (blackboardlaw19_awake.calls k  true _ A3.out).mono ?_); rintro e w6 ⟨rfl, hb⟩; refine ⟨_, rfl, ?_⟩; have n0_ := Aside0.mk (below_step (by repeat (first | (with_reducible first | exact HB.out | apply below_alloc | apply pw_below_drewN | apply below_drew1) | exact HB.out)) hb); clear HB; have HB := n0_; clear n0_; (try clear hb); (try clear hb2); (try clear hk); (try clear hi)))
    (try simp only [Act.put, List.setIfInBounds_toArray, List.set_cons_zero, List.set_cons_succ])
    go_cut [18] (fun v18 wc => ∃ (kq : Nat) (x18_4 : Bool), v18 = .bool x18_4 ∧ Aside0 (blackboardlaw19_PatrolDue.j0 kq l0 a1 x18_4 = some r) ∧ Aside0 (kq ≤ k) ∧ Aside0 (Below w.heap.size w wc))
    case first =>
      have H := HC5.out
      clear HC5
      by_cases c7 : (l0.length : Int) = 0
      · rw [if_pos c7] at H
        have c7b0 : ((l0.length : Int) == 0) = true := beq_iff_eq.mpr c7
        have c7b1 : ((l0.length : Int) != 0) = false := bne_eq_false_iff_eq.mpr c7
        clear c7
        (first | rw [c7b0] | (simp only [i64_w, i32_w]; rw [c7b0]) | skip)
        have H' := Aside0.mk H
        clear H
        go_wp2
        go_meet
        case rel => exact ⟨_, (true), (by first | rfl | (simp; done) | (simp [*]; done)), H', ⟨by first | omega | exact Nat.le_refl _⟩, ⟨by repeat (first | (with_reducible first | exact HB.out | apply below_alloc | apply pw_below_drewN | apply below_drew1) | exact HB.out)⟩⟩
      · rw [if_neg c7] at H
        have c7b0 : ((l0.length : Int) == 0) = false := beq_eq_false_iff_ne.mpr c7
        have c7b1 : ((l0.length : Int) != 0) = true := bne_iff_ne.mpr c7
        have c7b2 : ¬ (l0 = []) := fun h_ => c7 (by rw [h_]; rfl)
        (first | rw [c7b0] | (simp only [i64_w, i32_w]; rw [c7b0]) | skip)
        have H' := Aside0.mk H
        clear H
        go_wp2
        go_meet
        case rel => exact ⟨_, (decide ((l0.length : Int) > 100)), (by first | rfl | (simp; done) | (simp [*]; done)), H', ⟨by first | omega | exact Nat.le_refl _⟩, ⟨by repeat (first | (with_reducible first | exact HB.out | apply below_alloc | apply pw_below_drewN | apply below_drew1) | exact HB.out)⟩⟩
    case rest =>
      clear HC5
      try clear p2
      try clear c4
      try clear c5
      try clear c7
      try clear c7b0
      try clear c7b1
      try clear c7b2
      obtain ⟨kq, x18_4, rfl, HA, HJ4, HB⟩ := hcut
      cases kq with
      | zero => exact absurd HA.out (by simp [blackboardlaw19_PatrolDue.j0])
      | succ kj4 =>
        have H := HA.out
        clear HA
        simp only [blackboardlaw19_PatrolDue.j0] at H
        by_cases c8 : x18_4 = true
        · subst c8
          have H1 : (some true) = some r := by rw [if_pos rfl] at H; exact H
          clear H
          have H := H1
          clear H1
          obtain rfl := Option.some.inj H
          go_wp2
          go_ret
          exact ⟨by first | rfl | (simp [errW_none, errW_some] <;> rfl) | (simp [*, errW_none, errW_some] <;> rfl), by repeat (first | (with_reducible first | exact HB.out | apply below_alloc | apply pw_below_drewN | apply below_drew1) | exact HB.out)⟩
        · replace c8 := Bool.eq_false_iff.mpr c8
          subst c8
          have H1 : (blackboardlaw19_PatrolDue.l0 kj4 l0 a1 ([] : List (S36)) false 0) = some r := by rw [if_neg (show ¬ (false = true) by decide)] at H; exact H
          clear H
          have H := H1
          clear H1
          have H' := Aside0.mk H
          clear H
          go_wp2
          go_loopg [5, 6, 7] kj4 (fun kq v5 v6 v7 w' => ∃ (x5_2 : List (S36)) (x6_2 : Bool) (x7_2 : Int), v6 = .bool x6_2 ∧ v7 = .int .i64 x7_2 ∧ Aside0 (blackboardlaw19_PatrolDue.l0 kq l0 a1 x5_2 x6_2 x7_2 = some r) ∧ Aside0 (kq ≤ kj4) ∧ Aside0 (Kd.R k36 36 w' w.heap.size (fun _ => True) v5 x5_2) ∧ Aside0 (Below w.heap.size w w'))
          case atStart => exact ⟨(([] : List (S36))), (false), (0), (by first | rfl | (simp; done) | (simp [*]; done)), (by first | rfl | (simp; done) | (simp [*]; done)), H', ⟨Nat.le_refl _⟩, ⟨by first | exact Kd.R_nil _ _ _ _ _ | exact Kd.N_nil _ _ _ _ _ | exact Kd.V_nil _ _ _ _ _ | exact Kd.Q_nil _ _ _ _ _ | exact Kd.S_nil _ _ _ _ _⟩, ⟨by repeat (first | (with_reducible first | exact HB.out | apply below_alloc | apply pw_below_drewN | apply below_drew1) | exact HB.out)⟩⟩
          case round =>
            clear H'
            try clear p2
            try clear c4
            try clear c5
            try clear c7
            try clear c7b0
            try clear c7b1
            try clear c7b2
            try clear c8
            try clear p2
            obtain ⟨x5_2, x6_2, x7_2, rfl, rfl, HA, HK2, HO_5, HB⟩ := hrel
            cases gk with
            | zero => exact absurd HA.out (by simp [blackboardlaw19_PatrolDue.l0])
            | succ k2 =>
              have H := HA.out
              clear HA
              simp only [blackboardlaw19_PatrolDue.l0] at H
              by_cases c9 : x7_2 < (l0.length : Int)
              · rw [if_pos c9] at H
                have c9b0 : decide (x7_2 < (l0.length : Int)) = true := decide_eq_true c9
                clear c9
                by_cases c10 : 0 ≤ x7_2
                · rw [if_pos c10] at H
                  have c10b0 : decide (0 ≤ x7_2) = true := decide_eq_true c10
                  clear c10
                  by_cases c11 : x5_2.length < 8796093022208
                  · rw [if_pos c11] at H
                    have LMc11 := Aside0.mk c11
                    clear c11
                    obtain ⟨y182, hy182⟩ : ∃ y_ : List (S36), y_ = (x5_2 ++ [(⟨Int.tmod (wrap64 (rd l0 x7_2)) 9, true⟩ : S36)]) := ⟨_, rfl⟩
                    replace H : (if x6_2 = true then (blackboardlaw19_PatrolDue.l0 k2 l0 a1 y182 true (wrap64 (x7_2 + 1))) else (blackboardlaw19_PatrolDue.l0 k2 l0 a1 y182 (decide ((Int.tmod (wrap64 (rd l0 x7_2)) 9) ≥ 4)) (wrap64 (x7_2 + 1)))) = some r := by first | (rw [hy182]; with_reducible exact H) | (have H2_ := (Option.bind_some _ _).symm.trans H; rw [hy182]; with_reducible exact H2_) | (have H2_ := (Option.bind_some _ _).symm.trans H; with_reducible exact H2_) | with_reducible exact H | (rw [hy182]; exact H) | exact H
                    have Ny182 := Aside0.mk hy182
                    clear hy182
                    by_cases c12 : x6_2 = true
                    · subst c12
                      have H1 : (blackboardlaw19_PatrolDue.l0 k2 l0 a1 y182 true (wrap64 (x7_2 + 1))) = some r := by rw [if_pos rfl] at H; exact H
                      clear H
                      have H := H1
                      clear H1
                      have H' := Aside0.mk H
                      clear H
                      have p181 : 0 ≤ (x7_2 : Int) := of_decide_eq_true (by first | (with_reducible assumption) | assumption)
                      have q181 : x7_2 < (l0.length : Int) := of_decide_eq_true (by first | (with_reducible assumption) | assumption)
                      obtain ⟨ad181, e181, hx181_0⟩ := Kd.at_int HR0.out x7_2 p181 q181
                      cases e181
                      replace hx181_0 := (HB.out.cell (World.block_lt_of_cell? w _ hx181_0)).trans hx181_0
                      replace p181 := eq_true p181
                      replace q181 := eq_true q181
                      go_wp2_with (first | ((with_reducible refine gate_builtin (b := .append) (xs := #[.tmp 25, .tmp 33]) rfl ?_); (try (refine gate_guard (by rfl) ?_; dsimp only)); at_builtin; refine Kd.R_append k36 (w0 := w) w.heap.size rfl (.tmp 25) (.tmp 33) 33 36 (.agg #[(.int .i64 0), (.bool false)]) 16 rfl Try.underlying33 info36 rfl (by decide) (by omega) u5 x5_2 (⟨Int.tmod (wrap64 (rd l0 x7_2)) 9, true⟩ : S36) [.int .i64 (Int.tmod (wrap64 (rd l0 x7_2)) 9), .bool true] (fun _ => True) (fun _ => False) rfl rfl ?aP (fun _ hk => hk.elim) ?aF ?aO ?aB ?aS ?aL ?_; (case aP => exact k36_mkM _ _ _ (⟨Int.tmod (wrap64 (rd l0 x7_2)) 9, true⟩ : S36)); (case aB => exact (by repeat (first | (with_reducible first | exact HB.out | apply below_alloc | apply pw_below_drewN | apply below_drew1) | exact HB.out))); (case aF => exact (fun _ _ => trivial)); (case aO => exact (by (with_reducible repeat (first | apply Kd.R_alloc | apply Kd.R_drewN | apply Kd.R_drew)); exact HO_5.out)); (case aS => exact (below_size (by repeat (first | (with_reducible first | exact HB.out | apply below_alloc | apply pw_below_drewN | apply below_drew1) | exact HB.out)))); (case aL => have := LMc11.out; omega); intro v183 w13 ho hb hg hat; rw [← Ny182.out] at ho; have n0_ := Aside0.mk (hb); have n1_ := Aside0.mk (ho); clear HB; clear HO_5; have HB := n0_; have HO184 := n1_; clear n0_ n1_; clear ho hb hg hat))
                      go_roundg k2
                      case measure => have := HJ4.out; have := HK2.out; omega
                      case rel => exact ⟨(y182), (true), (wrap64 (x7_2 + 1)), (by first | rfl | (simp; done) | (simp [*]; done)), (by first | rfl | (simp; done) | (simp [*]; done)), H', ⟨by have := HJ4.out; have := HK2.out; omega⟩, ⟨by (with_reducible repeat (first | apply Kd.R_alloc | apply Kd.R_drewN | apply Kd.R_drew)); exact HO184.out⟩, ⟨by repeat (first | (with_reducible first | exact HB.out | apply below_alloc | apply pw_below_drewN | apply below_drew1) | exact HB.out)⟩⟩
                    · replace c12 := Bool.eq_false_iff.mpr c12
                      subst c12
                      have H1 : (blackboardlaw19_PatrolDue.l0 k2 l0 a1 y182 (decide ((Int.tmod (wrap64 (rd l0 x7_2)) 9) ≥ 4)) (wrap64 (x7_2 + 1))) = some r := by rw [if_neg (show ¬ (false = true) by decide)] at H; exact H
                      clear H
                      have H := H1
                      clear H1
                      have H' := Aside0.mk H
                      clear H
                      have p181 : 0 ≤ (x7_2 : Int) := of_decide_eq_true (by first | (with_reducible assumption) | assumption)
                      have q181 : x7_2 < (l0.length : Int) := of_decide_eq_true (by first | (with_reducible assumption) | assumption)
                      obtain ⟨ad181, e181, hx181_0⟩ := Kd.at_int HR0.out x7_2 p181 q181
                      cases e181
                      replace hx181_0 := (HB.out.cell (World.block_lt_of_cell? w _ hx181_0)).trans hx181_0
                      replace p181 := eq_true p181
                      replace q181 := eq_true q181
                      go_wp2_with (first | ((with_reducible refine gate_builtin (b := .append) (xs := #[.tmp 25, .tmp 33]) rfl ?_); (try (refine gate_guard (by rfl) ?_; dsimp only)); at_builtin; refine Kd.R_append k36 (w0 := w) w.heap.size rfl (.tmp 25) (.tmp 33) 33 36 (.agg #[(.int .i64 0), (.bool false)]) 16 rfl Try.underlying33 info36 rfl (by decide) (by omega) u5 x5_2 (⟨Int.tmod (wrap64 (rd l0 x7_2)) 9, true⟩ : S36) [.int .i64 (Int.tmod (wrap64 (rd l0 x7_2)) 9), .bool true] (fun _ => True) (fun _ => False) rfl rfl ?aP (fun _ hk => hk.elim) ?aF ?aO ?aB ?aS ?aL ?_; (case aP => exact k36_mkM _ _ _ (⟨Int.tmod (wrap64 (rd l0 x7_2)) 9, true⟩ : S36)); (case aB => exact (by repeat (first | (with_reducible first | exact HB.out | apply below_alloc | apply pw_below_drewN | apply below_drew1) | exact HB.out))); (case aF => exact (fun _ _ => trivial)); (case aO => exact (by (with_reducible repeat (first | apply Kd.R_alloc | apply Kd.R_drewN | apply Kd.R_drew)); exact HO_5.out)); (case aS => exact (below_size (by repeat (first | (with_reducible first | exact HB.out | apply below_alloc | apply pw_below_drewN | apply below_drew1) | exact HB.out)))); (case aL => have := LMc11.out; omega); intro v183 w14 ho hb hg hat; rw [← Ny182.out] at ho; have n0_ := Aside0.mk (hb); have n1_ := Aside0.mk (ho); clear HB; clear HO_5; have HB := n0_; have HO184 := n1_; clear n0_ n1_; clear ho hb hg hat; have p185 : 0 ≤ (x7_2 : Int) := of_decide_eq_true (by first | (with_reducible assumption) | assumption); have q185 : x7_2 < (l0.length : Int) := of_decide_eq_true (by first | (with_reducible assumption) | assumption); obtain ⟨ad185, e185, hx185_0⟩ := Kd.at_int HR0.out x7_2 p185 q185; obtain rfl : ad181 = ad185 := (by injection e185); replace hx185_0 := (HB.out.cell (World.block_lt_of_cell? w _ hx185_0)).trans hx185_0; replace p185 := eq_true p185; replace q185 := eq_true q185))
                      go_roundg k2
                      case measure => have := HJ4.out; have := HK2.out; omega
                      case rel => exact ⟨(y182), (decide ((Int.tmod (wrap64 (rd l0 x7_2)) 9) ≥ 4)), (wrap64 (x7_2 + 1)), (by first | rfl | (simp; done) | (simp [*]; done)), (by first | rfl | (simp; done) | (simp [*]; done)), H', ⟨by have := HJ4.out; have := HK2.out; omega⟩, ⟨by (with_reducible repeat (first | apply Kd.R_alloc | apply Kd.R_drewN | apply Kd.R_drew)); exact HO184.out⟩, ⟨by repeat (first | (with_reducible first | exact HB.out | apply below_alloc | apply pw_below_drewN | apply below_drew1) | exact HB.out)⟩⟩
                  · rw [if_neg c11] at H
                    exact absurd H (by simp)
                · rw [if_neg c10] at H
                  exact absurd H (by simp)
              · rw [if_neg c9] at H
                have c9b0 : decide (x7_2 < (l0.length : Int)) = false := decide_eq_false c9
                clear c9
                replace H := Option.bind_eq_some_iff.mp H
                obtain ⟨t186, A150, H⟩ := H
                replace H : (if (x5_2.length : Int) = 0 then (none) else (if 0 ≤ (Int.tmod (wrap64 (a1)) (x5_2.length : Int)) then (if (Int.tmod (wrap64 (a1)) (x5_2.length : Int)) < (x5_2.length : Int) then (if (t186 == x6_2) = true then (if t186 = true then ((patrol_Due.f (x5_2.set ((Int.tmod (wrap64 (a1)) (x5_2.length : Int)) : Int).toNat (⟨wrap64 (((rd_T36 x5_2 (Int.tmod (wrap64 (a1)) (x5_2.length : Int))).f0) + 1), (rd_T36 x5_2 (Int.tmod (wrap64 (a1)) (x5_2.length : Int))).f1⟩ : S36))).bind fun t189 => (if t189 = true then ((patrol_Due.f ([] : List (S36))).bind fun t190 => (some (!t190))) else (some false))) else ((patrol_Due.f ([] : List (S36))).bind fun t191 => (some (!t191)))) else (some false)) else (none)) else (none))) = some r := H
                have A15 := Aside0.mk A150
                clear A150
                by_cases c16 : (x5_2.length : Int) = 0
                · rw [if_pos c16] at H
                  exact absurd H (by simp)
                · rw [if_neg c16] at H
                  have c16b0 : ((x5_2.length : Int) == 0) = false := beq_eq_false_iff_ne.mpr c16
                  have c16b1 : ((x5_2.length : Int) != 0) = true := bne_iff_ne.mpr c16
                  have c16b2 : ¬ (x5_2 = []) := fun h_ => c16 (by rw [h_]; rfl)
                  obtain ⟨ji17, hji17⟩ : ∃ j_ : Int, (Int.tmod (wrap64 (a1)) (x5_2.length : Int)) = j_ := ⟨_, rfl⟩
                  replace H : (if 0 ≤ (ji17) then (if (ji17) < (x5_2.length : Int) then (if (t186 == x6_2) = true then (if t186 = true then ((patrol_Due.f (x5_2.set ((ji17) : Int).toNat (⟨wrap64 (((rd_T36 x5_2 (ji17)).f0) + 1), (rd_T36 x5_2 (ji17)).f1⟩ : S36))).bind fun t189 => (if t189 = true then ((patrol_Due.f ([] : List (S36))).bind fun t190 => (some (!t190))) else (some false))) else ((patrol_Due.f ([] : List (S36))).bind fun t191 => (some (!t191)))) else (some false)) else (none)) else (none)) = some r := by first | (rw [hji17] at H; exact H) | (simp only [hji17] at H ⊢; exact H)
                  (try rw [hji17] at A15)
                  by_cases c18 : 0 ≤ (ji17)
                  · rw [if_pos c18] at H
                    have c18b0 : decide (0 ≤ (ji17)) = true := decide_eq_true c18
                    clear c18
                    by_cases c19 : (ji17) < (x5_2.length : Int)
                    · rw [if_pos c19] at H
                      have c19b0 : decide ((ji17) < (x5_2.length : Int)) = true := decide_eq_true c19
                      clear c19
                      obtain ⟨y188, hy188⟩ : ∃ y_ : List (S36), y_ = (x5_2.set ((ji17) : Int).toNat (⟨wrap64 (((rd_T36 x5_2 (ji17)).f0) + 1), (rd_T36 x5_2 (ji17)).f1⟩ : S36)) := ⟨_, rfl⟩
                      replace H : (if (t186 == x6_2) = true then (if t186 = true then ((patrol_Due.f y188).bind fun t189 => (if t189 = true then ((patrol_Due.f ([] : List (S36))).bind fun t190 => (some (!t190))) else (some false))) else ((patrol_Due.f ([] : List (S36))).bind fun t191 => (some (!t191)))) else (some false)) = some r := by first | (rw [hy188]; with_reducible exact H) | (have H2_ := (Option.bind_some _ _).symm.trans H; rw [hy188]; with_reducible exact H2_) | (have H2_ := (Option.bind_some _ _).symm.trans H; with_reducible exact H2_) | with_reducible exact H | (rw [hy188]; exact H) | exact H
                      have Ny188 := Aside0.mk hy188
                      clear hy188
                      by_cases c21 : (t186 == x6_2) = true
                      · rw [if_pos c21] at H
                        have c21b0 : (t186 == x6_2) = true := c21
                        (try (have c21b1 : decide (t186 = x6_2) = true := by simpa using c21))
                        (try (have c21b2 : (t186 == x6_2) = true := by simpa using c21))
                        clear c21
                        by_cases c22 : t186 = true
                        · subst c22
                          have H1 : ((patrol_Due.f y188).bind fun t189 => (if t189 = true then ((patrol_Due.f ([] : List (S36))).bind fun t190 => (some (!t190))) else (some false))) = some r := by rw [if_pos rfl] at H; exact H
                          clear H
                          have H := H1
                          clear H1
                          replace H := Option.bind_eq_some_iff.mp H
                          obtain ⟨t189, A230, H⟩ := H
                          replace H : (if t189 = true then ((patrol_Due.f ([] : List (S36))).bind fun t190 => (some (!t190))) else (some false)) = some r := H
                          have A23 := Aside0.mk A230
                          clear A230
                          by_cases c24 : t189 = true
                          · subst c24
                            have H1 : ((patrol_Due.f ([] : List (S36))).bind fun t190 => (some (!t190))) = some r := by rw [if_pos rfl] at H; exact H
                            clear H
                            have H := H1
                            clear H1
                            replace H := Option.bind_eq_some_iff.mp H
                            obtain ⟨t190, A250, H⟩ := H
                            replace H : (some (!t190)) = some r := H
                            have A25 := Aside0.mk A250
                            clear A250
                            obtain rfl := Option.some.inj H
                            obtain ⟨Ao26, co26, eo26⟩ := Kd.R_slice HO_5.out
                            subst eo26
                            go_wp2_with (first | ((with_reducible refine gate_callee (f := 13) rfl ?_); refine goesL_ (some 46) rfl rfl Try.func13 (by kernel_rfl) rfl #[.slice Ao26 x5_2.length co26] rfl (by (try simp only [List.map_toArray, List.map_cons, List.map_nil]); first | done | rfl | (simp only [List.length_drop, List.length_take]; rfl)) ?_; (with_reducible refine (patrol_Due.calls _ _ x5_2 true _ ?side1 ?side2 A15.out).mono ?_); (case side1 => repeat (first | exact (Kd.R_reads' HO_5.out).2.2 | (with_reducible refine Kd.C_alloc ?_ _) | (with_reducible refine Kd.C_drewN ?_ _) | (with_reducible refine Kd.C_drew ?_))); (case side2 => exact (Kd.R_reads' HO_5.out).2.1); rintro e w27 ⟨rfl, hb⟩; refine ⟨_, rfl, ?_⟩; have n0_ := Aside0.mk (Kd.R_below (by (with_reducible repeat (first | apply Kd.R_alloc | apply Kd.R_drewN | apply Kd.R_drew)); exact HO_5.out) hb); have n1_ := Aside0.mk (below_step (by repeat (first | (with_reducible first | exact HB.out | apply below_alloc | apply pw_below_drewN | apply below_drew1) | exact HB.out)) hb); clear HO_5; clear HB; have HO_5 := n0_; have HB := n1_; clear n0_ n1_; (try clear hb); (try clear hb2); (try clear hk); (try clear hi); have p187 : 0 ≤ ((ji17) : Int) := of_decide_eq_true (by first | (with_reducible assumption) | assumption); have q187 : (ji17) < (x5_2.length : Int) := of_decide_eq_true (by first | (with_reducible assumption) | assumption); obtain ⟨ad187, e187, hx187_0, hx187_1⟩ := at_T36 (Kd.R_reads' HO_5.out).2.2 (ji17) p187 q187; cases e187; replace p187 := eq_true p187; replace q187 := eq_true q187; have p20 : 0 ≤ ((ji17) : Int) := of_decide_eq_true (by first | (with_reducible assumption) | assumption); have q20 : ((ji17) : Int) < ((x5_2.length : Int) : Int) := of_decide_eq_true (by first | (with_reducible assumption) | assumption); obtain ⟨go20, co20, eo20, gb20, gl20, cl20, HG20⟩ := Kd.R_form HO_5.out (by omega); (first | cases eo20 | (injection eo20 with ea_ en_ ec_; (first | subst ea_ | (injection ea_ with ea_; subst ea_)); subst ec_; clear en_)); have GB20 := Aside0.mk gb20; have GG20 := Aside0.mk HG20; clear gb20 gl20 HG20; (first | simp only [add_plain] at hx187_0 | skip); (first | simp only [add_plain] at hx187_1 | skip); obtain ⟨ce20, hcl20, hM20, hcc20, hfr20⟩ := Kd.R_elem HO_5.out z36 ((ji17) : Int) p20 q20; obtain rfl := k36_openM hM20; have hx20_0 : w27.cell? ⟨go20, ((ji17) : Int).toNat * 2, none⟩ = some (.int .i64 ((rd_T36 x5_2 (ji17)).f0)) := hcc20 0 _ rfl; have hx20_1 : w27.cell? ⟨go20, ((ji17) : Int).toNat * 2 + 1, none⟩ = some (.bool ((rd_T36 x5_2 (ji17)).f1)) := hcc20 1 _ rfl; have hf20_0 : w27.frozen? ⟨go20, ((ji17) : Int).toNat * 2, none⟩ = false := hfr20 0; have hf20_1 : w27.frozen? ⟨go20, ((ji17) : Int).toNat * 2 + 1, none⟩ = false := hfr20 1; clear hcl20 hcc20 hfr20 hM20; replace p20 := eq_true p20; replace q20 := eq_true q20; have HX28 := Aside0.mk (show Kd.R k36 36 w27 w.heap.size (fun _ => True) (.slice (some ⟨go20, 0, none⟩) x5_2.length co26) x5_2 from (by (with_reducible repeat (first | apply Kd.R_alloc | apply Kd.R_drewN | apply Kd.R_drew)); exact HO_5.out)); obtain ⟨ce28, hcl28, hM28, hcc28, hfr28⟩ := Kd.R_elem HX28.out z36 ((ji17) : Int) (of_decide_eq_true (by first | (with_reducible assumption) | assumption)) (by have h_ : ((ji17) : Int) < ((x5_2.length : Int) : Int) := of_decide_eq_true (by first | (with_reducible assumption) | assumption); first | exact h_ | (have e_ := (Kd.R_reads' HO_5.out).1; omega) | simpa using h_); obtain rfl := k36_openM hM28; have HP28 := Kd.R_seg HX28.out ((ji17) : Int) (of_decide_eq_true (by first | (with_reducible assumption) | assumption)) (by have h_ : ((ji17) : Int) < ((x5_2.length : Int) : Int) := of_decide_eq_true (by first | (with_reducible assumption) | assumption); first | exact h_ | (have e_ := (Kd.R_reads' HO_5.out).1; omega) | simpa using h_) (seg := [.int .i64 (wrap64 (((rd_T36 x5_2 (ji17)).f0) + 1))]) (j := 0) hcl28 hcc28 (show 1 ≤ 2 from by decide) (x' := (⟨wrap64 (((rd_T36 x5_2 (ji17)).f0) + 1), (rd_T36 x5_2 (ji17)).f1⟩ : S36)) (k36_mkM _ _ _ (⟨wrap64 (((rd_T36 x5_2 (ji17)).f0) + 1), (rd_T36 x5_2 (ji17)).f1⟩ : S36) ) (fun _ hk => hk); have hx28_0 := hcc28 0 _ rfl; (try simp only [show (k36).sz = 2 from rfl, Nat.mul_one, Nat.add_zero] at hx28_0); have hf28_0 := hfr28 0; (try simp only [show (k36).sz = 2 from rfl, Nat.mul_one, Nat.add_zero] at hf28_0); clear hcl28 hcc28 hfr28 hM28) | ((with_reducible refine gate_store (t := 3) (p := 58) rfl ?_); refine store_event (t := 3) (p := 58) (v := ?vo_w29) (w1 := (w27.setCell ⟨go20, ((ji17) : Int).toNat * 2, none⟩ (.int .i64 (wrap64 (((rd_T36 x5_2 (ji17)).f0) + 1))))) ?hg ?ho ?hn ?hr ?_; (case ho => rfl); (case hg => rfl); (case hn => rfl); (case hr => first | (go_simp; done) | (go_simp; rfl)); intro w29 hw; have hg : w27.grownBy w29 (some go20) := (by rw [hw]; exact HP28.2); have hp_ : Kd.R k36 36 w29 w.heap.size (fun _ => True) (.slice (some ⟨go20, 0, none⟩) x5_2.length co26) y188 := (by rw [hw, Ny188.out]; exact HP28.1); clear HP28; have n0_ := Aside0.mk (hp_); have n1_ := Aside0.mk ((by rw [hw]; exact below_set (HB.out) GB20.out : Below w.heap.size w w29)); clear HO_5; clear HB; have HO_5 := n0_; have HB := n1_; clear n0_ n1_; clear hg hw hp_) | (go_at_call 13; refine calls_of_args (args' := #[.slice (some ⟨go20, 0, none⟩) y188.length co26]) (by first | (rw [show y188.length = x5_2.length from (Kd.R_reads' HO_5.out).1.symm] <;> rfl) | rfl) ?_; (with_reducible refine (patrol_Due.calls _ _ y188 true _ ?side1 ?side2 A23.out).mono ?_); (case side1 => repeat (first | exact (Kd.R_reads' HO_5.out).2.2 | (with_reducible refine Kd.C_alloc ?_ _) | (with_reducible refine Kd.C_drewN ?_ _) | (with_reducible refine Kd.C_drew ?_))); (case side2 => rw [show y188.length = x5_2.length from (Kd.R_reads' HO_5.out).1.symm]; exact (Kd.R_reads' HO_5.out).2.1); rintro e w30 ⟨rfl, hb⟩; have n0_ := Aside0.mk (Kd.R_below (by (with_reducible repeat (first | apply Kd.R_alloc | apply Kd.R_drewN | apply Kd.R_drew)); exact HO_5.out) hb); have n1_ := Aside0.mk (below_step (by repeat (first | (with_reducible first | exact HB.out | apply below_alloc | apply pw_below_drewN | apply below_drew1) | exact HB.out)) hb); clear HO_5; clear HB; have HO_5 := n0_; have HB := n1_; clear n0_ n1_; (try clear hb); (try clear hb2); (try clear hk); (try clear hi)) | (go_at_call 13; (refine (patrol_Due.calls _ _ ([] : List (S36)) t190 _ ?side1 ?side2 A25.out).mono ?_); (case side1 => exact Kd.C_nil _ _); (case side2 => exact Nat.le_refl _); rintro e w31 ⟨rfl, hb⟩; have n0_ := Aside0.mk (Kd.R_below (by (with_reducible repeat (first | apply Kd.R_alloc | apply Kd.R_drewN | apply Kd.R_drew)); exact HO_5.out) hb); have n1_ := Aside0.mk (below_step (by repeat (first | (with_reducible first | exact HB.out | apply below_alloc | apply pw_below_drewN | apply below_drew1) | exact HB.out)) hb); clear HO_5; clear HB; have HO_5 := n0_; have HB := n1_; clear n0_ n1_; (try clear hb); (try clear hb2); (try clear hk); (try clear hi)))
                            go_ret
                            exact ⟨by first | rfl | (simp [errW_none, errW_some] <;> rfl) | (simp only [← hji17]; first | rfl | (simp [errW_none, errW_some] <;> rfl)) | (simp [*, errW_none, errW_some] <;> rfl), by repeat (first | (with_reducible first | exact HB.out | apply below_alloc | apply pw_below_drewN | apply below_drew1) | exact HB.out)⟩
                          · replace c24 := Bool.eq_false_iff.mpr c24
                            subst c24
                            have H1 : (some false) = some r := by rw [if_neg (show ¬ (false = true) by decide)] at H; exact H
                            clear H
                            have H := H1
                            clear H1
                            obtain rfl := Option.some.inj H
                            obtain ⟨Ao32, co32, eo32⟩ := Kd.R_slice HO_5.out
                            subst eo32
                            go_wp2_with (first | ((with_reducible refine gate_callee (f := 13) rfl ?_); refine goesL_ (some 46) rfl rfl Try.func13 (by kernel_rfl) rfl #[.slice Ao32 x5_2.length co32] rfl (by (try simp only [List.map_toArray, List.map_cons, List.map_nil]); first | done | rfl | (simp only [List.length_drop, List.length_take]; rfl)) ?_; (with_reducible refine (patrol_Due.calls _ _ x5_2 true _ ?side1 ?side2 A15.out).mono ?_); (case side1 => repeat (first | exact (Kd.R_reads' HO_5.out).2.2 | (with_reducible refine Kd.C_alloc ?_ _) | (with_reducible refine Kd.C_drewN ?_ _) | (with_reducible refine Kd.C_drew ?_))); (case side2 => exact (Kd.R_reads' HO_5.out).2.1); rintro e w33 ⟨rfl, hb⟩; refine ⟨_, rfl, ?_⟩; have n0_ := Aside0.mk (Kd.R_below (by (with_reducible repeat (first | apply Kd.R_alloc | apply Kd.R_drewN | apply Kd.R_drew)); exact HO_5.out) hb); have n1_ := Aside0.mk (below_step (by repeat (first | (with_reducible first | exact HB.out | apply below_alloc | apply pw_below_drewN | apply below_drew1) | exact HB.out)) hb); clear HO_5; clear HB; have HO_5 := n0_; have HB := n1_; clear n0_ n1_; (try clear hb); (try clear hb2); (try clear hk); (try clear hi); have p187 : 0 ≤ ((ji17) : Int) := of_decide_eq_true (by first | (with_reducible assumption) | assumption); have q187 : (ji17) < (x5_2.length : Int) := of_decide_eq_true (by first | (with_reducible assumption) | assumption); obtain ⟨ad187, e187, hx187_0, hx187_1⟩ := at_T36 (Kd.R_reads' HO_5.out).2.2 (ji17) p187 q187; cases e187; replace p187 := eq_true p187; replace q187 := eq_true q187; have p20 : 0 ≤ ((ji17) : Int) := of_decide_eq_true (by first | (with_reducible assumption) | assumption); have q20 : ((ji17) : Int) < ((x5_2.length : Int) : Int) := of_decide_eq_true (by first | (with_reducible assumption) | assumption); obtain ⟨go20, co20, eo20, gb20, gl20, cl20, HG20⟩ := Kd.R_form HO_5.out (by omega); (first | cases eo20 | (injection eo20 with ea_ en_ ec_; (first | subst ea_ | (injection ea_ with ea_; subst ea_)); subst ec_; clear en_)); have GB20 := Aside0.mk gb20; have GG20 := Aside0.mk HG20; clear gb20 gl20 HG20; (first | simp only [add_plain] at hx187_0 | skip); (first | simp only [add_plain] at hx187_1 | skip); obtain ⟨ce20, hcl20, hM20, hcc20, hfr20⟩ := Kd.R_elem HO_5.out z36 ((ji17) : Int) p20 q20; obtain rfl := k36_openM hM20; have hx20_0 : w33.cell? ⟨go20, ((ji17) : Int).toNat * 2, none⟩ = some (.int .i64 ((rd_T36 x5_2 (ji17)).f0)) := hcc20 0 _ rfl; have hx20_1 : w33.cell? ⟨go20, ((ji17) : Int).toNat * 2 + 1, none⟩ = some (.bool ((rd_T36 x5_2 (ji17)).f1)) := hcc20 1 _ rfl; have hf20_0 : w33.frozen? ⟨go20, ((ji17) : Int).toNat * 2, none⟩ = false := hfr20 0; have hf20_1 : w33.frozen? ⟨go20, ((ji17) : Int).toNat * 2 + 1, none⟩ = false := hfr20 1; clear hcl20 hcc20 hfr20 hM20; replace p20 := eq_true p20; replace q20 := eq_true q20; have HX34 := Aside0.mk (show Kd.R k36 36 w33 w.heap.size (fun _ => True) (.slice (some ⟨go20, 0, none⟩) x5_2.length co32) x5_2 from (by (with_reducible repeat (first | apply Kd.R_alloc | apply Kd.R_drewN | apply Kd.R_drew)); exact HO_5.out)); obtain ⟨ce34, hcl34, hM34, hcc34, hfr34⟩ := Kd.R_elem HX34.out z36 ((ji17) : Int) (of_decide_eq_true (by first | (with_reducible assumption) | assumption)) (by have h_ : ((ji17) : Int) < ((x5_2.length : Int) : Int) := of_decide_eq_true (by first | (with_reducible assumption) | assumption); first | exact h_ | (have e_ := (Kd.R_reads' HO_5.out).1; omega) | simpa using h_); obtain rfl := k36_openM hM34; have HP34 := Kd.R_seg HX34.out ((ji17) : Int) (of_decide_eq_true (by first | (with_reducible assumption) | assumption)) (by have h_ : ((ji17) : Int) < ((x5_2.length : Int) : Int) := of_decide_eq_true (by first | (with_reducible assumption) | assumption); first | exact h_ | (have e_ := (Kd.R_reads' HO_5.out).1; omega) | simpa using h_) (seg := [.int .i64 (wrap64 (((rd_T36 x5_2 (ji17)).f0) + 1))]) (j := 0) hcl34 hcc34 (show 1 ≤ 2 from by decide) (x' := (⟨wrap64 (((rd_T36 x5_2 (ji17)).f0) + 1), (rd_T36 x5_2 (ji17)).f1⟩ : S36)) (k36_mkM _ _ _ (⟨wrap64 (((rd_T36 x5_2 (ji17)).f0) + 1), (rd_T36 x5_2 (ji17)).f1⟩ : S36) ) (fun _ hk => hk); have hx34_0 := hcc34 0 _ rfl; (try simp only [show (k36).sz = 2 from rfl, Nat.mul_one, Nat.add_zero] at hx34_0); have hf34_0 := hfr34 0; (try simp only [show (k36).sz = 2 from rfl, Nat.mul_one, Nat.add_zero] at hf34_0); clear hcl34 hcc34 hfr34 hM34) | ((with_reducible refine gate_store (t := 3) (p := 58) rfl ?_); refine store_event (t := 3) (p := 58) (v := ?vo_w35) (w1 := (w33.setCell ⟨go20, ((ji17) : Int).toNat * 2, none⟩ (.int .i64 (wrap64 (((rd_T36 x5_2 (ji17)).f0) + 1))))) ?hg ?ho ?hn ?hr ?_; (case ho => rfl); (case hg => rfl); (case hn => rfl); (case hr => first | (go_simp; done) | (go_simp; rfl)); intro w35 hw; have hg : w33.grownBy w35 (some go20) := (by rw [hw]; exact HP34.2); have hp_ : Kd.R k36 36 w35 w.heap.size (fun _ => True) (.slice (some ⟨go20, 0, none⟩) x5_2.length co32) y188 := (by rw [hw, Ny188.out]; exact HP34.1); clear HP34; have n0_ := Aside0.mk (hp_); have n1_ := Aside0.mk ((by rw [hw]; exact below_set (HB.out) GB20.out : Below w.heap.size w w35)); clear HO_5; clear HB; have HO_5 := n0_; have HB := n1_; clear n0_ n1_; clear hg hw hp_) | (go_at_call 13; refine calls_of_args (args' := #[.slice (some ⟨go20, 0, none⟩) y188.length co32]) (by first | (rw [show y188.length = x5_2.length from (Kd.R_reads' HO_5.out).1.symm] <;> rfl) | rfl) ?_; (with_reducible refine (patrol_Due.calls _ _ y188 false _ ?side1 ?side2 A23.out).mono ?_); (case side1 => repeat (first | exact (Kd.R_reads' HO_5.out).2.2 | (with_reducible refine Kd.C_alloc ?_ _) | (with_reducible refine Kd.C_drewN ?_ _) | (with_reducible refine Kd.C_drew ?_))); (case side2 => rw [show y188.length = x5_2.length from (Kd.R_reads' HO_5.out).1.symm]; exact (Kd.R_reads' HO_5.out).2.1); rintro e w36 ⟨rfl, hb⟩; have n0_ := Aside0.mk (Kd.R_below (by (with_reducible repeat (first | apply Kd.R_alloc | apply Kd.R_drewN | apply Kd.R_drew)); exact HO_5.out) hb); have n1_ := Aside0.mk (below_step (by repeat (first | (with_reducible first | exact HB.out | apply below_alloc | apply pw_below_drewN | apply below_drew1) | exact HB.out)) hb); clear HO_5; clear HB; have HO_5 := n0_; have HB := n1_; clear n0_ n1_; (try clear hb); (try clear hb2); (try clear hk); (try clear hi)))
                            go_ret
                            exact ⟨by first | rfl | (simp [errW_none, errW_some] <;> rfl) | (simp only [← hji17]; first | rfl | (simp [errW_none, errW_some] <;> rfl)) | (simp [*, errW_none, errW_some] <;> rfl), by repeat (first | (with_reducible first | exact HB.out | apply below_alloc | apply pw_below_drewN | apply below_drew1) | exact HB.out)⟩
                        · replace c22 := Bool.eq_false_iff.mpr c22
                          subst c22
                          have H1 : ((patrol_Due.f ([] : List (S36))).bind fun t191 => (some (!t191))) = some r := by rw [if_neg (show ¬ (false = true) by decide)] at H; exact H
                          clear H
                          have H := H1
                          clear H1
                          replace H := Option.bind_eq_some_iff.mp H
                          obtain ⟨t191, A370, H⟩ := H
                          replace H : (some (!t191)) = some r := H
                          have A37 := Aside0.mk A370
                          clear A370
                          obtain rfl := Option.some.inj H
                          obtain ⟨Ao38, co38, eo38⟩ := Kd.R_slice HO_5.out
                          subst eo38
                          go_wp2_with (first | ((with_reducible refine gate_callee (f := 13) rfl ?_); refine goesL_ (some 46) rfl rfl Try.func13 (by kernel_rfl) rfl #[.slice Ao38 x5_2.length co38] rfl (by (try simp only [List.map_toArray, List.map_cons, List.map_nil]); first | done | rfl | (simp only [List.length_drop, List.length_take]; rfl)) ?_; (with_reducible refine (patrol_Due.calls _ _ x5_2 false _ ?side1 ?side2 A15.out).mono ?_); (case side1 => repeat (first | exact (Kd.R_reads' HO_5.out).2.2 | (with_reducible refine Kd.C_alloc ?_ _) | (with_reducible refine Kd.C_drewN ?_ _) | (with_reducible refine Kd.C_drew ?_))); (case side2 => exact (Kd.R_reads' HO_5.out).2.1); rintro e w39 ⟨rfl, hb⟩; refine ⟨_, rfl, ?_⟩; have n0_ := Aside0.mk (Kd.R_below (by (with_reducible repeat (first | apply Kd.R_alloc | apply Kd.R_drewN | apply Kd.R_drew)); exact HO_5.out) hb); have n1_ := Aside0.mk (below_step (by repeat (first | (with_reducible first | exact HB.out | apply below_alloc | apply pw_below_drewN | apply below_drew1) | exact HB.out)) hb); clear HO_5; clear HB; have HO_5 := n0_; have HB := n1_; clear n0_ n1_; (try clear hb); (try clear hb2); (try clear hk); (try clear hi); have p187 : 0 ≤ ((ji17) : Int) := of_decide_eq_true (by first | (with_reducible assumption) | assumption); have q187 : (ji17) < (x5_2.length : Int) := of_decide_eq_true (by first | (with_reducible assumption) | assumption); obtain ⟨ad187, e187, hx187_0, hx187_1⟩ := at_T36 (Kd.R_reads' HO_5.out).2.2 (ji17) p187 q187; cases e187; replace p187 := eq_true p187; replace q187 := eq_true q187; have p20 : 0 ≤ ((ji17) : Int) := of_decide_eq_true (by first | (with_reducible assumption) | assumption); have q20 : ((ji17) : Int) < ((x5_2.length : Int) : Int) := of_decide_eq_true (by first | (with_reducible assumption) | assumption); obtain ⟨go20, co20, eo20, gb20, gl20, cl20, HG20⟩ := Kd.R_form HO_5.out (by omega); (first | cases eo20 | (injection eo20 with ea_ en_ ec_; (first | subst ea_ | (injection ea_ with ea_; subst ea_)); subst ec_; clear en_)); have GB20 := Aside0.mk gb20; have GG20 := Aside0.mk HG20; clear gb20 gl20 HG20; (first | simp only [add_plain] at hx187_0 | skip); (first | simp only [add_plain] at hx187_1 | skip); obtain ⟨ce20, hcl20, hM20, hcc20, hfr20⟩ := Kd.R_elem HO_5.out z36 ((ji17) : Int) p20 q20; obtain rfl := k36_openM hM20; have hx20_0 : w39.cell? ⟨go20, ((ji17) : Int).toNat * 2, none⟩ = some (.int .i64 ((rd_T36 x5_2 (ji17)).f0)) := hcc20 0 _ rfl; have hx20_1 : w39.cell? ⟨go20, ((ji17) : Int).toNat * 2 + 1, none⟩ = some (.bool ((rd_T36 x5_2 (ji17)).f1)) := hcc20 1 _ rfl; have hf20_0 : w39.frozen? ⟨go20, ((ji17) : Int).toNat * 2, none⟩ = false := hfr20 0; have hf20_1 : w39.frozen? ⟨go20, ((ji17) : Int).toNat * 2 + 1, none⟩ = false := hfr20 1; clear hcl20 hcc20 hfr20 hM20; replace p20 := eq_true p20; replace q20 := eq_true q20; have HX40 := Aside0.mk (show Kd.R k36 36 w39 w.heap.size (fun _ => True) (.slice (some ⟨go20, 0, none⟩) x5_2.length co38) x5_2 from (by (with_reducible repeat (first | apply Kd.R_alloc | apply Kd.R_drewN | apply Kd.R_drew)); exact HO_5.out)); obtain ⟨ce40, hcl40, hM40, hcc40, hfr40⟩ := Kd.R_elem HX40.out z36 ((ji17) : Int) (of_decide_eq_true (by first | (with_reducible assumption) | assumption)) (by have h_ : ((ji17) : Int) < ((x5_2.length : Int) : Int) := of_decide_eq_true (by first | (with_reducible assumption) | assumption); first | exact h_ | (have e_ := (Kd.R_reads' HO_5.out).1; omega) | simpa using h_); obtain rfl := k36_openM hM40; have HP40 := Kd.R_seg HX40.out ((ji17) : Int) (of_decide_eq_true (by first | (with_reducible assumption) | assumption)) (by have h_ : ((ji17) : Int) < ((x5_2.length : Int) : Int) := of_decide_eq_true (by first | (with_reducible assumption) | assumption); first | exact h_ | (have e_ := (Kd.R_reads' HO_5.out).1; omega) | simpa using h_) (seg := [.int .i64 (wrap64 (((rd_T36 x5_2 (ji17)).f0) + 1))]) (j := 0) hcl40 hcc40 (show 1 ≤ 2 from by decide) (x' := (⟨wrap64 (((rd_T36 x5_2 (ji17)).f0) + 1), (rd_T36 x5_2 (ji17)).f1⟩ : S36)) (k36_mkM _ _ _ (⟨wrap64 (((rd_T36 x5_2 (ji17)).f0) + 1), (rd_T36 x5_2 (ji17)).f1⟩ : S36) ) (fun _ hk => hk); have hx40_0 := hcc40 0 _ rfl; (try simp only [show (k36).sz = 2 from rfl, Nat.mul_one, Nat.add_zero] at hx40_0); have hf40_0 := hfr40 0; (try simp only [show (k36).sz = 2 from rfl, Nat.mul_one, Nat.add_zero] at hf40_0); clear hcl40 hcc40 hfr40 hM40) | ((with_reducible refine gate_store (t := 3) (p := 58) rfl ?_); refine store_event (t := 3) (p := 58) (v := ?vo_w41) (w1 := (w39.setCell ⟨go20, ((ji17) : Int).toNat * 2, none⟩ (.int .i64 (wrap64 (((rd_T36 x5_2 (ji17)).f0) + 1))))) ?hg ?ho ?hn ?hr ?_; (case ho => rfl); (case hg => rfl); (case hn => rfl); (case hr => first | (go_simp; done) | (go_simp; rfl)); intro w41 hw; have hg : w39.grownBy w41 (some go20) := (by rw [hw]; exact HP40.2); have hp_ : Kd.R k36 36 w41 w.heap.size (fun _ => True) (.slice (some ⟨go20, 0, none⟩) x5_2.length co38) y188 := (by rw [hw, Ny188.out]; exact HP40.1); clear HP40; have n0_ := Aside0.mk (hp_); have n1_ := Aside0.mk ((by rw [hw]; exact below_set (HB.out) GB20.out : Below w.heap.size w w41)); clear HO_5; clear HB; have HO_5 := n0_; have HB := n1_; clear n0_ n1_; clear hg hw hp_) | (go_at_call 13; (refine (patrol_Due.calls _ _ ([] : List (S36)) t191 _ ?side1 ?side2 A37.out).mono ?_); (case side1 => exact Kd.C_nil _ _); (case side2 => exact Nat.le_refl _); rintro e w42 ⟨rfl, hb⟩; have n0_ := Aside0.mk (Kd.R_below (by (with_reducible repeat (first | apply Kd.R_alloc | apply Kd.R_drewN | apply Kd.R_drew)); exact HO_5.out) hb); have n1_ := Aside0.mk (below_step (by repeat (first | (with_reducible first | exact HB.out | apply below_alloc | apply pw_below_drewN | apply below_drew1) | exact HB.out)) hb); clear HO_5; clear HB; have HO_5 := n0_; have HB := n1_; clear n0_ n1_; (try clear hb); (try clear hb2); (try clear hk); (try clear hi)))
                          go_ret
                          exact ⟨by first | rfl | (simp [errW_none, errW_some] <;> rfl) | (simp only [← hji17]; first | rfl | (simp [errW_none, errW_some] <;> rfl)) | (simp [*, errW_none, errW_some] <;> rfl), by repeat (first | (with_reducible first | exact HB.out | apply below_alloc | apply pw_below_drewN | apply below_drew1) | exact HB.out)⟩
                      · rw [if_neg c21] at H
                        have c21b0 : (t186 == x6_2) = false := by simpa using c21
                        (try (have c21b1 : decide (t186 = x6_2) = false := by simpa using c21))
                        (try (have c21b2 : (t186 == x6_2) = false := by simpa using c21))
                        (try (have c21b3 : ¬ (t186 = x6_2) := by simpa using c21))
                        clear c21
                        obtain rfl := Option.some.inj H
                        obtain ⟨Ao43, co43, eo43⟩ := Kd.R_slice HO_5.out
                        subst eo43
                        go_wp2_with (first | ((with_reducible refine gate_callee (f := 13) rfl ?_); refine goesL_ (some 46) rfl rfl Try.func13 (by kernel_rfl) rfl #[.slice Ao43 x5_2.length co43] rfl (by (try simp only [List.map_toArray, List.map_cons, List.map_nil]); first | done | rfl | (simp only [List.length_drop, List.length_take]; rfl)) ?_; (with_reducible refine (patrol_Due.calls _ _ x5_2 t186 _ ?side1 ?side2 A15.out).mono ?_); (case side1 => repeat (first | exact (Kd.R_reads' HO_5.out).2.2 | (with_reducible refine Kd.C_alloc ?_ _) | (with_reducible refine Kd.C_drewN ?_ _) | (with_reducible refine Kd.C_drew ?_))); (case side2 => exact (Kd.R_reads' HO_5.out).2.1); rintro e w44 ⟨rfl, hb⟩; refine ⟨_, rfl, ?_⟩; have n0_ := Aside0.mk (Kd.R_below (by (with_reducible repeat (first | apply Kd.R_alloc | apply Kd.R_drewN | apply Kd.R_drew)); exact HO_5.out) hb); have n1_ := Aside0.mk (below_step (by repeat (first | (with_reducible first | exact HB.out | apply below_alloc | apply pw_below_drewN | apply below_drew1) | exact HB.out)) hb); clear HO_5; clear HB; have HO_5 := n0_; have HB := n1_; clear n0_ n1_; (try clear hb); (try clear hb2); (try clear hk); (try clear hi); have p187 : 0 ≤ ((ji17) : Int) := of_decide_eq_true (by first | (with_reducible assumption) | assumption); have q187 : (ji17) < (x5_2.length : Int) := of_decide_eq_true (by first | (with_reducible assumption) | assumption); obtain ⟨ad187, e187, hx187_0, hx187_1⟩ := at_T36 (Kd.R_reads' HO_5.out).2.2 (ji17) p187 q187; cases e187; replace p187 := eq_true p187; replace q187 := eq_true q187; have p20 : 0 ≤ ((ji17) : Int) := of_decide_eq_true (by first | (with_reducible assumption) | assumption); have q20 : ((ji17) : Int) < ((x5_2.length : Int) : Int) := of_decide_eq_true (by first | (with_reducible assumption) | assumption); obtain ⟨go20, co20, eo20, gb20, gl20, cl20, HG20⟩ := Kd.R_form HO_5.out (by omega); (first | cases eo20 | (injection eo20 with ea_ en_ ec_; (first | subst ea_ | (injection ea_ with ea_; subst ea_)); subst ec_; clear en_)); have GB20 := Aside0.mk gb20; have GG20 := Aside0.mk HG20; clear gb20 gl20 HG20; (first | simp only [add_plain] at hx187_0 | skip); (first | simp only [add_plain] at hx187_1 | skip); obtain ⟨ce20, hcl20, hM20, hcc20, hfr20⟩ := Kd.R_elem HO_5.out z36 ((ji17) : Int) p20 q20; obtain rfl := k36_openM hM20; have hx20_0 : w44.cell? ⟨go20, ((ji17) : Int).toNat * 2, none⟩ = some (.int .i64 ((rd_T36 x5_2 (ji17)).f0)) := hcc20 0 _ rfl; have hx20_1 : w44.cell? ⟨go20, ((ji17) : Int).toNat * 2 + 1, none⟩ = some (.bool ((rd_T36 x5_2 (ji17)).f1)) := hcc20 1 _ rfl; have hf20_0 : w44.frozen? ⟨go20, ((ji17) : Int).toNat * 2, none⟩ = false := hfr20 0; have hf20_1 : w44.frozen? ⟨go20, ((ji17) : Int).toNat * 2 + 1, none⟩ = false := hfr20 1; clear hcl20 hcc20 hfr20 hM20; replace p20 := eq_true p20; replace q20 := eq_true q20; have HX45 := Aside0.mk (show Kd.R k36 36 w44 w.heap.size (fun _ => True) (.slice (some ⟨go20, 0, none⟩) x5_2.length co43) x5_2 from (by (with_reducible repeat (first | apply Kd.R_alloc | apply Kd.R_drewN | apply Kd.R_drew)); exact HO_5.out)); obtain ⟨ce45, hcl45, hM45, hcc45, hfr45⟩ := Kd.R_elem HX45.out z36 ((ji17) : Int) (of_decide_eq_true (by first | (with_reducible assumption) | assumption)) (by have h_ : ((ji17) : Int) < ((x5_2.length : Int) : Int) := of_decide_eq_true (by first | (with_reducible assumption) | assumption); first | exact h_ | (have e_ := (Kd.R_reads' HO_5.out).1; omega) | simpa using h_); obtain rfl := k36_openM hM45; have HP45 := Kd.R_seg HX45.out ((ji17) : Int) (of_decide_eq_true (by first | (with_reducible assumption) | assumption)) (by have h_ : ((ji17) : Int) < ((x5_2.length : Int) : Int) := of_decide_eq_true (by first | (with_reducible assumption) | assumption); first | exact h_ | (have e_ := (Kd.R_reads' HO_5.out).1; omega) | simpa using h_) (seg := [.int .i64 (wrap64 (((rd_T36 x5_2 (ji17)).f0) + 1))]) (j := 0) hcl45 hcc45 (show 1 ≤ 2 from by decide) (x' := (⟨wrap64 (((rd_T36 x5_2 (ji17)).f0) + 1), (rd_T36 x5_2 (ji17)).f1⟩ : S36)) (k36_mkM _ _ _ (⟨wrap64 (((rd_T36 x5_2 (ji17)).f0) + 1), (rd_T36 x5_2 (ji17)).f1⟩ : S36) ) (fun _ hk => hk); have hx45_0 := hcc45 0 _ rfl; (try simp only [show (k36).sz = 2 from rfl, Nat.mul_one, Nat.add_zero] at hx45_0); have hf45_0 := hfr45 0; (try simp only [show (k36).sz = 2 from rfl, Nat.mul_one, Nat.add_zero] at hf45_0); clear hcl45 hcc45 hfr45 hM45) | ((with_reducible refine gate_store (t := 3) (p := 58) rfl ?_); refine store_event (t := 3) (p := 58) (v := ?vo_w46) (w1 := (w44.setCell ⟨go20, ((ji17) : Int).toNat * 2, none⟩ (.int .i64 (wrap64 (((rd_T36 x5_2 (ji17)).f0) + 1))))) ?hg ?ho ?hn ?hr ?_; (case ho => rfl); (case hg => rfl); (case hn => rfl); (case hr => first | (go_simp; done) | (go_simp; rfl)); intro w46 hw; have hg : w44.grownBy w46 (some go20) := (by rw [hw]; exact HP45.2); have hp_ : Kd.R k36 36 w46 w.heap.size (fun _ => True) (.slice (some ⟨go20, 0, none⟩) x5_2.length co43) y188 := (by rw [hw, Ny188.out]; exact HP45.1); clear HP45; have n0_ := Aside0.mk (hp_); have n1_ := Aside0.mk ((by rw [hw]; exact below_set (HB.out) GB20.out : Below w.heap.size w w46)); clear HO_5; clear HB; have HO_5 := n0_; have HB := n1_; clear n0_ n1_; clear hg hw hp_))
                        go_ret
                        exact ⟨by first | rfl | (simp [errW_none, errW_some] <;> rfl) | (simp only [← hji17]; first | rfl | (simp [errW_none, errW_some] <;> rfl)) | (simp [*, errW_none, errW_some] <;> rfl), by repeat (first | (with_reducible first | exact HB.out | apply below_alloc | apply pw_below_drewN | apply below_drew1) | exact HB.out)⟩
                    · rw [if_neg c19] at H
                      exact absurd H (by simp)
                  · rw [if_neg c18] at H
                    exact absurd H (by simp)
  · replace c4 := Bool.eq_false_iff.mpr c4
    subst c4
    have H1 : (some false) = some r := by rw [if_neg (show ¬ (false = true) by decide)] at H; exact H
    clear H
    have H := H1
    clear H1
    obtain rfl := Option.some.inj H
    go_enter Try.func5, Try.ntmps5
    go_wp2_with (first | ((with_reducible refine gate_callee (f := 7) rfl ?_); refine goesL_ (some 9) rfl rfl Try.func7 (by kernel_rfl) rfl #[] rfl (by (try simp only [List.map_toArray, List.map_cons, List.map_nil]); first | done | rfl | (simp only [List.length_drop, List.length_take]; rfl)) ?_; (with_reducible refine (blackboardlaw19_awake.calls k  false _ A3.out).mono ?_); rintro e w47 ⟨rfl, hb⟩; refine ⟨_, rfl, ?_⟩; have n0_ := Aside0.mk (below_step (by repeat (first | (with_reducible first | exact HB.out | apply below_alloc | apply pw_below_drewN | apply below_drew1) | exact HB.out)) hb); clear HB; have HB := n0_; clear n0_; (try clear hb); (try clear hb2); (try clear hk); (try clear hi)))
    go_ret
    exact ⟨by first | rfl | (simp [errW_none, errW_some] <;> rfl) | (simp [*, errW_none, errW_some] <;> rfl), by repeat (first | (with_reducible first | exact HB.out | apply below_alloc | apply pw_below_drewN | apply below_drew1) | exact HB.out)⟩

/-- THE ONE PURE STATEMENT of blackboardlaw19_PatrolDue: yours. -/
def blackboardlaw19_PatrolDue.Pure : Prop := ∀ (l0 : List Int) (a1 : Int), l0.length ≤ maxLen → l0.length * 1 ≤ 140737488351232 → (∀ x ∈ l0, (Lit.int .u8 x).wf = true) → (Lit.int .u8 a1).wf = true → ∃ k, blackboardlaw19_PatrolDue.f k l0 a1 = some true
theorem blackboardlaw19_PatrolDue.walk (P : blackboardlaw19_PatrolDue.Pure) (a0 : Option Addr) (len0 cap0 : Nat) (z0 : List Int) (a1 : Int) (w : World) (w0 : (a0 = none ∧ len0 = 0 ∧ cap0 = 0 ∧ z0 = []) ∨ ∃ x, a0 = some x ∧ len0 ≤ cap0 ∧ cap0 ≤ maxLen ∧ z0.length = cap0 ∧ (∀ i, i < z0.length → w.cell? (x.add i) = some (.int .u8 (z0.getD i 0))) ∧ ∀ n ∈ z0, (Lit.int .u8 n).wf = true) (y0 : len0 * 1 ≤ 140737488351232) (w1 : (Lit.int .u8 a1).wf = true) :
    Calls Try.prog 5 #[.slice a0 len0 cap0, .int .u8 a1] w fun e w' => e = .returned (.bool true) ∧ Below w.heap.size w w' := by
  obtain ⟨l0, rfl, hr0, hm0, hw0, hc0⟩ := ReadsInt.ofRowC w0
  obtain ⟨k, h⟩ := P l0 a1 hm0 y0 hw0 w1
  refine (blackboardlaw19_PatrolDue.calls k _ _ l0 a1 true w (Kd.C_of_reads (d := (0 : Int)) (h1 := fun _ => rfl) hr0) hc0 h).mono ?_
  rintro e w' ⟨rfl, hd⟩
  exact ⟨rfl, hd⟩

end Go.Proofs.Ytmdpfpfnchfocaa.M
