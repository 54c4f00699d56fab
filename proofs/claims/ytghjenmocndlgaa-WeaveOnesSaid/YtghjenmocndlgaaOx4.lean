/- Printed for this seat by a program of this session (over the kit's print), with contracts of its own laid in. -/
import Derived.Test.YtghjenmocndlgaaOx0
import Derived.Test.YtghjenmocndlgaaOx1
namespace Go.Proofs.Ytghjenmocndlgaa.O
open Go.RowKit Go.Proofs.YtghjenmocndlgaaW.PrintWords Go.Proofs.YtghjenmocndlgaaW.PrintLast Go.Proofs.YtghjenmocndlgaaW.PrintMore
attribute [local go_sem] max2_int min2_int max_two min_two max_three min_three max_four min_four   -- for this text's walks alone
set_option linter.unusedVariables false
set_option linter.unusedSimpArgs false

/-! ### weave_In: function 12 -/
def weave_In.l0 : Nat → Int → List (List Int) → List Int → Int → Int → Option ((List (List Int)) × Int)
  | 0, _, _, _, _, _ => none
  | k + 1, x0, x6, x26, x27, x28 => if x28 < x27 then (if 0 ≤ x28 then (if x28 < (x26.length : Int) then (if x0 = 0 then (none) else (if 0 ≤ (Int.tmod x28 x0) then (if (Int.tmod x28 x0) < (x6.length : Int) then (if (rd_L1 x6 (Int.tmod x28 x0)).length < 70368744177664 then (weave_In.l0 k x0 (x6.set ((Int.tmod x28 x0) : Int).toNat ((rd_L1 x6 (Int.tmod x28 x0)) ++ [rd x26 x28])) x26 x27 (wrap64 (x28 + 1))) else (none)) else (none)) else (none))) else (none)) else (none)) else (some (x6, 0))
def weave_In.f (k : Nat) (a0 : Int) (l1 : List Int) : Option ((List (List Int)) × Int) := (weave_may.f a0).bind fun t130 => (if t130 = true then (if (l1.length : Int) = 0 then (some (([] : List (List Int)), 3)) else (if a0 = 0 then (none) else (if ((l1.length : Int) % a0) = 0 then (if 0 ≤ a0 then (if (a0 : Int).toNat ≤ 11728124029610 then (weave_In.l0 k a0 (List.replicate (a0 : Int).toNat []) l1 (l1.length : Int) 0) else (none)) else (none)) else (some (([] : List (List Int)), 3))))) else (some (([] : List (List Int)), 1)))
theorem weave_In.mono_l : ∀ k, (∀ y0 y1 y2 y3 y4, LeO (weave_In.l0 k y0 y1 y2 y3 y4) (weave_In.l0 (k + 1) y0 y1 y2 y3 y4))
  | 0 => fun _ _ _ _ _ r h => by simp [weave_In.l0] at h
  | k + 1 => by
    have ih0 := weave_In.mono_l k
    · intro y0 y1 y2 y3 y4
      unfold weave_In.l0
      repeat' first
      | (with_reducible exact ih0 _ _ _ _ _)
      | (with_reducible exact LeO.refl _)
      | (with_reducible exact LeO.none _)
      | (with_reducible refine LeO.ite ?_ ?_)
      | (with_reducible refine LeO.bind ?_ (fun _ => ?_))
      | exact ih0 _ _ _ _ _
      | exact LeO.none _
      | refine LeO.ite ?_ ?_
      | refine LeO.bind ?_ (fun _ => ?_)
theorem weave_In.mono : ∀ a0 a1 k, LeO (weave_In.f k a0 a1) (weave_In.f (k + 1) a0 a1) := by
  intro a0 a1 k
  have ih0 := weave_In.mono_l k
  unfold weave_In.f
  repeat' first
      | (with_reducible exact ih0 _ _ _ _ _)
      | (with_reducible exact LeO.refl _)
      | (with_reducible exact LeO.none _)
      | (with_reducible refine LeO.ite ?_ ?_)
      | (with_reducible refine LeO.bind ?_ (fun _ => ?_))
      | exact ih0 _ _ _ _ _
      | exact LeO.none _
      | refine LeO.ite ?_ ?_
      | refine LeO.bind ?_ (fun _ => ?_)
def weave_In.T9 : Bool × List (List Nat × List Nat) := (true, [([], []), ([], []), ([], []), ([1, 2], [1, 2]), ([], []), ([], []), ([], []), ([5, 6], [5, 6]), ([4, 7], [4, 7]), ([8], [8]), ([], []), ([10], [10]), ([9, 11], [9, 11]), ([0, 3, 0, 1, 2, 3, 4, 5, 6, 7, 8, 9, 10, 11, 12], [0, 3]), ([13, 12, 12, 0, 1, 2, 3, 4, 5, 6, 7, 8, 9, 10, 11, 12], [12, 13])])
def weave_In.B9 : List Nat := [0, 0, 0, 6, 0, 0, 0, 96, 240, 496, 0, 1024, 4080, 8191, 16383]
theorem weave_In.tab9 : rtab .any (opsOf Try.f12 9) = weave_In.T9 := by kernel_rfl
theorem weave_In.bits9 : waitsOk weave_In.T9.2 weave_In.B9 = true := by kernel_rfl
set_option maxHeartbeats 8000000 in
set_option maxRecDepth 100000 in
theorem weave_In.calls (k : Nat) (a0 : Int) (A1 : Option Addr) (c1 : Nat) (l1 : List Int) (r1 : List (List Int)) (r2 : Int) (w : World) (hr1 : Kd.C (Kd.int .u16) w A1 l1.length l1) (hc1 : l1.length ≤ c1) (h : weave_In.f k a0 l1 = some (r1, r2)) :
    Calls Try.prog 12 #[.int .i64 a0, .slice A1 l1.length c1] w fun e w' => ∃ v0_ : Value, e = .returned (.tuple #[v0_, .int .i64 r2]) ∧ Kd.S (Kd.slice 22 (Kd.int .u16)) 27 w' w.heap.size (fun _ => True) v0_ r1 ∧ Below w.heap.size w w' := by
  have HR1 := Aside0.mk hr1
  have HC1 := Aside0.mk hc1
  clear hr1 hc1
  have HB := Aside0.mk (Below.refl w.heap.size w)
  have H : ((weave_may.f a0).bind fun t130 => (if t130 = true then (if (l1.length : Int) = 0 then (some (([] : List (List Int)), 3)) else (if a0 = 0 then (none) else (if ((l1.length : Int) % a0) = 0 then (if 0 ≤ a0 then (if (a0 : Int).toNat ≤ 11728124029610 then (weave_In.l0 k a0 (List.replicate (a0 : Int).toNat []) l1 (l1.length : Int) 0) else (none)) else (none)) else (some (([] : List (List Int)), 3))))) else (some (([] : List (List Int)), 1)))) = some (r1, r2) := h
  clear h
  replace H := Option.bind_eq_some_iff.mp H
  obtain ⟨t130, A30, H⟩ := H
  replace H : (if t130 = true then (if (l1.length : Int) = 0 then (some (([] : List (List Int)), 3)) else (if a0 = 0 then (none) else (if ((l1.length : Int) % a0) = 0 then (if 0 ≤ a0 then (if (a0 : Int).toNat ≤ 11728124029610 then (weave_In.l0 k a0 (List.replicate (a0 : Int).toNat []) l1 (l1.length : Int) 0) else (none)) else (none)) else (some (([] : List (List Int)), 3))))) else (some (([] : List (List Int)), 1))) = some (r1, r2) := H
  have A3 := Aside0.mk A30
  clear A30
  by_cases c4 : t130 = true
  · subst c4
    have H1 : (if (l1.length : Int) = 0 then (some (([] : List (List Int)), 3)) else (if a0 = 0 then (none) else (if ((l1.length : Int) % a0) = 0 then (if 0 ≤ a0 then (if (a0 : Int).toNat ≤ 11728124029610 then (weave_In.l0 k a0 (List.replicate (a0 : Int).toNat []) l1 (l1.length : Int) 0) else (none)) else (none)) else (some (([] : List (List Int)), 3))))) = some (r1, r2) := by rw [if_pos rfl] at H; exact H
    clear H
    have H := H1
    clear H1
    by_cases c5 : (l1.length : Int) = 0
    · rw [if_pos c5] at H
      have c5b0 : ((l1.length : Int) == 0) = true := beq_iff_eq.mpr c5
      have c5b1 : ((l1.length : Int) != 0) = false := bne_eq_false_iff_eq.mpr c5
      clear c5
      simp only [Option.some.injEq, Prod.mk.injEq] at H
      obtain ⟨rfl, rfl⟩ := H
      go_enter Try.func12, Try.ntmps12
      go_wp2_with (first | ((with_reducible refine gate_callee (f := 17) rfl ?_); refine goesL_ (some 11) rfl rfl Try.func17 (by kernel_rfl) rfl #[.int .i64 a0] rfl (by (try simp only [List.map_toArray, List.map_cons, List.map_nil]); first | done | rfl | (simp only [List.length_drop, List.length_take]; rfl)) ?_; (with_reducible refine (weave_may.calls a0 true _ A3.out).mono ?_); rintro e w' ⟨rfl, ⟨nd, rfl⟩⟩; refine ⟨_, rfl, ?_⟩))
      go_ret2
      exact ⟨_, by first | rfl | (simp [errW_none, errW_some] <;> rfl) | (simp [*, errW_none, errW_some] <;> rfl), by first | exact Kd.S_nil _ _ _ _ _ | exact Kd.N_nil _ _ _ _ _ | exact Kd.V_nil _ _ _ _ _ | exact Kd.Q_nil _ _ _ _ _ | exact Kd.R_nil _ _ _ _ _, by repeat (first | (with_reducible first | exact HB.out | apply below_alloc | apply pw_below_drewN | apply below_drew1) | exact HB.out)⟩
    · rw [if_neg c5] at H
      have c5b0 : ((l1.length : Int) == 0) = false := beq_eq_false_iff_ne.mpr c5
      have c5b1 : ((l1.length : Int) != 0) = true := bne_iff_ne.mpr c5
      have c5b2 : ¬ (l1 = []) := fun h_ => c5 (by rw [h_]; rfl)
      by_cases c6 : a0 = 0
      · rw [if_pos c6] at H
        exact absurd H (by simp)
      · rw [if_neg c6] at H
        have c6b0 : (a0 == 0) = false := beq_eq_false_iff_ne.mpr c6
        have c6b1 : (a0 != 0) = true := bne_iff_ne.mpr c6
        by_cases c7 : ((l1.length : Int) % a0) = 0
        · rw [if_pos c7] at H
          have c7b0 : (((l1.length : Int) % a0) == 0) = true := beq_iff_eq.mpr c7
          have c7b1 : (((l1.length : Int) % a0) != 0) = false := bne_eq_false_iff_eq.mpr c7
          clear c7
          by_cases c8 : 0 ≤ a0
          · rw [if_pos c8] at H
            have c8b0 := eq_true c8
            have c8b1 : decide (0 ≤ a0) = true := decide_eq_true c8
            clear c8
            by_cases c9 : (a0 : Int).toNat ≤ 11728124029610
            · rw [if_pos c9] at H
              have c9b0 := eq_true c9
              have c9b1 : decide ((a0 : Int).toNat ≤ 11728124029610) = true := decide_eq_true c9
              clear c9
              obtain ⟨y131, hy131⟩ : ∃ y_ : List (List Int), y_ = (List.replicate (a0 : Int).toNat []) := ⟨_, rfl⟩
              replace H : (weave_In.l0 k a0 y131 l1 (l1.length : Int) 0) = some (r1, r2) := by first | (rw [hy131]; with_reducible exact H) | (have H2_ := (Option.bind_some _ _).symm.trans H; rw [hy131]; with_reducible exact H2_) | (have H2_ := (Option.bind_some _ _).symm.trans H; with_reducible exact H2_) | with_reducible exact H | (rw [hy131]; exact H) | exact H
              have Ny131 := Aside0.mk hy131
              clear hy131
              have H' := Aside0.mk H
              clear H
              go_enter Try.func12, Try.ntmps12
              go_wp2_with (first | ((with_reducible refine gate_callee (f := 17) rfl ?_); refine goesL_ (some 11) rfl rfl Try.func17 (by kernel_rfl) rfl #[.int .i64 a0] rfl (by (try simp only [List.map_toArray, List.map_cons, List.map_nil]); first | done | rfl | (simp only [List.length_drop, List.length_take]; rfl)) ?_; (with_reducible refine (weave_may.calls a0 true _ A3.out).mono ?_); rintro e w' ⟨rfl, ⟨nd, rfl⟩⟩; refine ⟨_, rfl, ?_⟩) | ((with_reducible refine gate_dst (N := 25) rfl ?_); (try (refine gate_guard (by rfl) ?_; dsimp only)); refine Kd.S_make (Kd.slice 22 (Kd.int .u16)) _ 27 rfl (N := 25) rfl 26 _ _ rfl a0 rfl rfl Try.underlying26 (.slice none 0 0) 24 info27 rfl (by decide) (by omega) [] (ok := fun _ => True) (okp := fun _ => True) ⟨_, rfl, Kd.R_nil _ _ _ _ _⟩ (fun _ hk => hk) trivial (of_decide_eq_true (by first | (with_reducible assumption) | assumption)) (Nat.le_trans (Nat.mul_le_mul_right _ (of_decide_eq_true (by first | (with_reducible assumption) | assumption) : a0.toNat ≤ 11728124029610)) (by omega)) (Below.refl _ _) (Nat.le_refl _) ?_; intro v132 w10 ho11 hb hg_ hnew_; clear hg_ hnew_; (first | rw [← Ny131.out] at ho11 | (simp only [Int.reduceToNat] at ho11; rw [← Ny131.out] at ho11)); have n0_ := Aside0.mk (Kd.S_lower ho11 (below_size (by repeat (first | (with_reducible first | exact HB.out | apply below_alloc | apply pw_below_drewN | apply below_drew1) | exact HB.out)))); have n1_ := Aside0.mk (below_step (by repeat (first | (with_reducible first | exact HB.out | apply below_alloc | apply pw_below_drewN | apply below_drew1) | exact HB.out)) hb); clear HB; have HO133 := n0_; have HB := n1_; clear n0_ n1_; clear hb ho11))
              go_loopg [28] k (fun kq v28 w' => ∃ (x6_1 : List (List Int)) (x28_1 : Int), v28 = .int .i64 x28_1 ∧ Aside0 (weave_In.l0 kq a0 x6_1 l1 (l1.length : Int) x28_1 = some (r1, r2)) ∧ Aside0 (kq ≤ k) ∧ Aside0 (Kd.S (Kd.slice 22 (Kd.int .u16)) 27 w' w.heap.size (fun _ => True) v132 x6_1) ∧ Aside0 (Below w.heap.size w w'))
              case atStart => exact ⟨(y131), (0), (by first | rfl | (simp; done) | (simp [*]; done)), H', ⟨Nat.le_refl _⟩, ⟨by (with_reducible repeat (first | apply Kd.S_alloc | apply Kd.S_drewN | apply Kd.S_drew)); exact HO133.out⟩, ⟨by repeat (first | (with_reducible first | exact HB.out | apply below_alloc | apply pw_below_drewN | apply below_drew1) | exact HB.out)⟩⟩
              case round =>
                clear H'
                try clear c1
                try clear p2
                try clear c4
                try clear c5
                try clear c5b0
                try clear c5b1
                try clear c5b2
                try clear c6
                try clear c6b0
                try clear c6b1
                try clear c7
                try clear c7b0
                try clear c7b1
                try clear c8
                try clear c8b0
                try clear c8b1
                try clear c9
                try clear c9b0
                try clear c9b1
                obtain ⟨x6_1, x28_1, rfl, HA, HK1, HO_6, HB⟩ := hrel
                cases gk with
                | zero => exact absurd HA.out (by simp [weave_In.l0])
                | succ k1 =>
                  have H := HA.out
                  clear HA
                  simp only [weave_In.l0] at H
                  by_cases c12 : x28_1 < (l1.length : Int)
                  · rw [if_pos c12] at H
                    have c12b0 : decide (x28_1 < (l1.length : Int)) = true := decide_eq_true c12
                    clear c12
                    by_cases c13 : 0 ≤ x28_1
                    · rw [if_pos c13] at H
                      have c13b0 : decide (0 ≤ x28_1) = true := decide_eq_true c13
                      clear c13
                      by_cases c14 : x28_1 < (l1.length : Int)
                      · rw [if_pos c14] at H
                        have c14b0 : decide (x28_1 < (l1.length : Int)) = true := decide_eq_true c14
                        clear c14
                        by_cases c15 : a0 = 0
                        · rw [if_pos c15] at H
                          exact absurd H (by simp)
                        · rw [if_neg c15] at H
                          have c15b0 : (a0 == 0) = false := beq_eq_false_iff_ne.mpr c15
                          have c15b1 : (a0 != 0) = true := bne_iff_ne.mpr c15
                          obtain ⟨ji16, hji16⟩ : ∃ j_ : Int, (Int.tmod x28_1 a0) = j_ := ⟨_, rfl⟩
                          replace H : (if 0 ≤ (ji16) then (if (ji16) < (x6_1.length : Int) then (if (rd_L1 x6_1 (ji16)).length < 70368744177664 then (weave_In.l0 k1 a0 (x6_1.set ((ji16) : Int).toNat ((rd_L1 x6_1 (ji16)) ++ [rd l1 x28_1])) l1 (l1.length : Int) (wrap64 (x28_1 + 1))) else (none)) else (none)) else (none)) = some (r1, r2) := by first | (rw [hji16] at H; exact H) | (simp only [hji16] at H ⊢; exact H)
                          by_cases c17 : 0 ≤ (ji16)
                          · rw [if_pos c17] at H
                            have c17b0 : decide (0 ≤ (ji16)) = true := decide_eq_true c17
                            clear c17
                            by_cases c18 : (ji16) < (x6_1.length : Int)
                            · rw [if_pos c18] at H
                              have c18b0 : decide ((ji16) < (x6_1.length : Int)) = true := decide_eq_true c18
                              clear c18
                              by_cases c19 : (rd_L1 x6_1 (ji16)).length < 70368744177664
                              · rw [if_pos c19] at H
                                have LMc19 := Aside0.mk c19
                                clear c19
                                obtain ⟨y136, hy136⟩ : ∃ y_ : List Int, y_ = ((rd_L1 x6_1 (ji16)) ++ [rd l1 x28_1]) := ⟨_, rfl⟩
                                replace H : (weave_In.l0 k1 a0 (x6_1.set ((ji16) : Int).toNat y136) l1 (l1.length : Int) (wrap64 (x28_1 + 1))) = some (r1, r2) := by first | (rw [hy136]; with_reducible exact H) | (have H2_ := (Option.bind_some _ _).symm.trans H; rw [hy136]; with_reducible exact H2_) | (have H2_ := (Option.bind_some _ _).symm.trans H; with_reducible exact H2_) | with_reducible exact H | (rw [hy136]; exact H) | exact H
                                have Ny136 := Aside0.mk hy136
                                clear hy136
                                obtain ⟨y139, hy139⟩ : ∃ y_ : List (List Int), y_ = (x6_1.set ((ji16) : Int).toNat y136) := ⟨_, rfl⟩
                                replace H : (weave_In.l0 k1 a0 y139 l1 (l1.length : Int) (wrap64 (x28_1 + 1))) = some (r1, r2) := by first | (rw [hy139]; with_reducible exact H) | (have H2_ := (Option.bind_some _ _).symm.trans H; rw [hy139]; with_reducible exact H2_) | (have H2_ := (Option.bind_some _ _).symm.trans H; with_reducible exact H2_) | with_reducible exact H | (rw [hy139]; exact H) | exact H
                                have Ny139 := Aside0.mk hy139
                                clear hy139
                                have H' := Aside0.mk H
                                clear H
                                have p134 : 0 ≤ (x28_1 : Int) := of_decide_eq_true (by first | (with_reducible assumption) | assumption)
                                have q134 : x28_1 < (l1.length : Int) := of_decide_eq_true (by first | (with_reducible assumption) | assumption)
                                obtain ⟨ad134, e134, hx134_0⟩ := Kd.at_int HR1.out x28_1 p134 q134
                                cases e134
                                replace hx134_0 := (HB.out.cell (World.block_lt_of_cell? w _ hx134_0)).trans hx134_0
                                replace p134 := eq_true p134
                                replace q134 := eq_true q134
                                try go_wp2
                                have n0_ := Aside0.mk (Kd.S_drew HO_6.out)
                                have n1_ := Aside0.mk (below_drew1 HB.out)
                                clear HO_6
                                clear HB
                                have HO_6 := n0_
                                have HB := n1_
                                clear n0_ n1_
                                obtain ⟨Ao22, co22, eo22⟩ := Kd.S_slice HO_6.out
                                (first | subst eo22 | (injection eo22 with f1_ f2_ f3_; have f4_ := f1_.symm; have f5_ := f3_.symm; clear f1_ f2_ f3_; subst f4_; subst f5_))
                                have p135 : 0 ≤ ((ji16) : Int) := of_decide_eq_true (by first | (with_reducible assumption) | assumption)
                                have q135 : (ji16) < (x6_1.length : Int) := of_decide_eq_true (by first | (with_reducible assumption) | assumption)
                                obtain ⟨ad135, A135_0, c135_0, e135, hx135_0, hl135_0, hi135_0⟩ := at_L1 (Kd.S_reads' HO_6.out).2.2 (ji16) p135 q135
                                cases e135
                                obtain ⟨ce135, hce135, hMe135, hcc135⟩ := Kd.S_get HO_6.out [] (ji16) p135 (by first | exact q135 | exact of_decide_eq_true (by first | (with_reducible assumption) | assumption) | (have e_ := (Kd.S_reads' HO_6.out).1; omega))
                                obtain ⟨ve135_0, rfl, ge135_0⟩ := hMe135
                                have hv135_0 := hcc135 0 _ rfl
                                rw [Nat.add_zero, show ((Kd.slice 22 (Kd.int .u16))).sz = 1 from rfl, Nat.mul_one] at hv135_0
                                replace hv135_0 := Option.some.inj (hv135_0.symm.trans hx135_0)
                                rw [hv135_0] at ge135_0
                                have HL135_0 := Aside0.mk (show Kd.R (Kd.int .u16) 22 _ _ _ _ (rd_L1 x6_1 (ji16)) from ge135_0)
                                clear hv135_0 ge135_0
                                have HX135_0 := Aside0.mk hx135_0
                                clear hcc135 hce135
                                have HR135_0 := Aside0.mk hi135_0
                                have HC135_0 := Aside0.mk hl135_0
                                clear hi135_0 hl135_0
                                replace p135 := eq_true p135
                                replace q135 := eq_true q135
                                obtain ⟨go23, co23, eo23, gb23, gl23, cl23, HG23⟩ := Kd.S_form HO_6.out (by have h_ : ((ji16) : Int) < ((x6_1.length : Int) : Int) := of_decide_eq_true (by first | (with_reducible assumption) | assumption); have h2_ : 0 ≤ ((ji16) : Int) := (of_decide_eq_true (by first | (with_reducible assumption) | assumption)); omega)
                                (first | cases eo23 | (injection eo23 with ea_ en_ ec_; (first | subst ea_ | (injection ea_ with ea_; subst ea_)); subst ec_; clear en_))
                                have GB23 := Aside0.mk gb23
                                have GG23 := Aside0.mk HG23
                                clear gb23 gl23 HG23
                                (first | simp only [add_plain] at hx135_0 | skip)
                                obtain ⟨oki23, ce23, hcl23, hM23, hcc23, _, _, hH23⟩ := Kd.S_elem HO_6.out [] ((ji16) : Int) (of_decide_eq_true (by first | (with_reducible assumption) | assumption)) (by have h_ : ((ji16) : Int) < ((x6_1.length : Int) : Int) := of_decide_eq_true (by first | (with_reducible assumption) | assumption); first | exact h_ | (have e_ := (Kd.S_reads' HO_6.out).1; omega) | simpa using h_)
                                obtain ⟨ve23_0, rfl, ge23_0⟩ := hM23
                                have hv23 := hcc23 0 _ rfl
                                have hX23 := HX135_0.out
                                (try simp only [add_plain] at hX23)
                                (try simp only [Nat.add_zero] at hv23)
                                (try rw [show ((Kd.slice 22 (Kd.int .u16))).sz = 1 from rfl, Nat.mul_one] at hv23)
                                replace hv23 := Option.some.inj (hv23.symm.trans hX23)
                                subst hv23
                                clear hX23 hcc23 hcl23
                                have UU23 := Aside0.mk (show Kd.R (Kd.int .u16) 22 _ w.heap.size oki23 (.slice A135_0 (rd_L1 x6_1 (ji16)).length c135_0) (rd_L1 x6_1 (ji16)) from ge23_0)
                                have HH23 := Aside0.mk hH23
                                have HN23 := Aside0.mk (Kd.S_reads' HO_6.out).1
                                clear hH23 ge23_0
                                refine start_ (n := 15) (S := fun w' => w'.cell? ⟨go23, ((ji16)).toNat, none⟩ = some (.slice A135_0 (rd_L1 x6_1 (ji16)).length c135_0)) (ds := [14]) #[false, false, false, false, false, false, false, false, false, false, false, false, false, false, false] (by kernel_rfl) rfl rfl (hx135_0) (fun hHeld => ?_); refine with_tabW weave_In.tab9 weave_In.bits9 (fun HT_ HW_ => ?_)
                                generalize wr.drew = w21 at HO_6 HB GG23 HH23 HL135_0 HR135_0 HX135_0 UU23 hx135_0 hHeld ⊢
                                refine pure_ (i := 0) (N := some 33) (v := ?_) (a' := ?_) #[true, false, false, false, false, false, false, false, false, false, false, false, false, false, false] rfl rfl (any_of HT_.out (by kernel_rfl)) (fun _ _ _ h => h) (Or.inl ⟨by rfl, ?_⟩) ?_ ?_
                                rotate_left
                                · intro w'
                                  go_simp
                                  with_reducible rfl
                                rotate_left
                                · simp only [Act.put, List.setIfInBounds_toArray, List.set_cons_zero, List.set_cons_succ, i64_w, i32_w]
                                  rfl
                                refine pure_ (i := 1) (N := some 34) (v := ?_) (a' := ?_) #[true, true, false, false, false, false, false, false, false, false, false, false, false, false, false] rfl rfl (any_of HT_.out (by kernel_rfl)) (fun _ _ _ h => h) (Or.inl ⟨by rfl, ?_⟩) ?_ ?_
                                rotate_left
                                · intro w'
                                  go_simp
                                  with_reducible rfl
                                rotate_left
                                · simp only [Act.put, List.setIfInBounds_toArray, List.set_cons_zero, List.set_cons_succ, i64_w, i32_w]
                                  rfl
                                refine pure_ (i := 2) (N := some 35) (v := ?_) (a' := ?_) #[true, true, true, false, false, false, false, false, false, false, false, false, false, false, false] rfl rfl (any_of HT_.out (by kernel_rfl)) (fun _ _ _ h => h) (Or.inl ⟨by rfl, ?_⟩) ?_ ?_
                                rotate_left
                                · intro w'
                                  go_simp
                                  with_reducible rfl
                                rotate_left
                                · simp only [Act.put, List.setIfInBounds_toArray, List.set_cons_zero, List.set_cons_succ, i64_w, i32_w]
                                  rfl
                                refine pure_ (i := 3) (N := some 36) (v := ?_) (a' := ?_) #[true, true, true, true, false, false, false, false, false, false, false, false, false, false, false] rfl rfl (any_of HT_.out (by kernel_rfl)) (fun _ _ _ h => h) (Or.inl ⟨by rfl, ?_⟩) ?_ ?_
                                rotate_left
                                · intro w'
                                  go_simp
                                  with_reducible rfl
                                rotate_left
                                · simp only [Act.put, List.setIfInBounds_toArray, List.set_cons_zero, List.set_cons_succ, i64_w, i32_w]
                                  rfl
                                refine pure_ (i := 4) (N := some 37) (v := ?_) (a' := ?_) #[true, true, true, true, true, false, false, false, false, false, false, false, false, false, false] rfl rfl (any_of HT_.out (by kernel_rfl)) (fun _ _ _ h => h) (Or.inl ⟨by rfl, ?_⟩) ?_ ?_
                                rotate_left
                                · intro w'
                                  go_simp
                                  with_reducible rfl
                                rotate_left
                                · simp only [Act.put, List.setIfInBounds_toArray, List.set_cons_zero, List.set_cons_succ, i64_w, i32_w]
                                  rfl
                                refine pure_ (i := 5) (N := some 38) (v := ?_) (a' := ?_) #[true, true, true, true, true, true, false, false, false, false, false, false, false, false, false] rfl rfl (any_of HT_.out (by kernel_rfl)) (fun _ _ _ h => h) (Or.inl ⟨by rfl, ?_⟩) ?_ ?_
                                rotate_left
                                · intro w'
                                  go_simp
                                  with_reducible rfl
                                rotate_left
                                · simp only [Act.put, List.setIfInBounds_toArray, List.set_cons_zero, List.set_cons_succ, i64_w, i32_w]
                                  rfl
                                refine pure_ (i := 6) (N := some 39) (v := ?_) (a' := ?_) #[true, true, true, true, true, true, true, false, false, false, false, false, false, false, false] rfl rfl (any_of HT_.out (by kernel_rfl)) (fun _ _ _ h => h) (Or.inl ⟨by rfl, ?_⟩) ?_ ?_
                                rotate_left
                                · intro w'
                                  go_simp
                                  with_reducible rfl
                                rotate_left
                                · simp only [Act.put, List.setIfInBounds_toArray, List.set_cons_zero, List.set_cons_succ, i64_w, i32_w]
                                  rfl
                                refine pure_ (i := 7) (N := some 40) (v := ?_) (a' := ?_) #[true, true, true, true, true, true, true, true, false, false, false, false, false, false, false] rfl rfl (any_of HT_.out (by kernel_rfl)) (fun _ _ _ h => h) (Or.inl ⟨by rfl, ?_⟩) ?_ ?_
                                rotate_left
                                · intro w'
                                  go_simp
                                  with_reducible rfl
                                rotate_left
                                · simp only [Act.put, List.setIfInBounds_toArray, List.set_cons_zero, List.set_cons_succ, i64_w, i32_w]
                                  rfl
                                refine pure_ (i := 8) (N := some 41) (v := ?_) (a' := ?_) #[true, true, true, true, true, true, true, true, true, false, false, false, false, false, false] rfl rfl (any_of HT_.out (by kernel_rfl)) (fun _ _ _ h => h) (Or.inl ⟨by rfl, ?_⟩) ?_ ?_
                                rotate_left
                                · intro w'
                                  go_simp
                                  with_reducible rfl
                                rotate_left
                                · simp only [Act.put, List.setIfInBounds_toArray, List.set_cons_zero, List.set_cons_succ, i64_w, i32_w]
                                  rfl
                                refine pure_ (i := 10) (N := some 43) (v := ?_) (a' := ?_) #[true, true, true, true, true, true, true, true, true, false, true, false, false, false, false] rfl rfl (any_of HT_.out (by kernel_rfl)) (fun _ _ _ h => h) (Or.inl ⟨by rfl, ?_⟩) ?_ ?_
                                rotate_left
                                · intro w'
                                  go_simp
                                  with_reducible rfl
                                rotate_left
                                · simp only [Act.put, List.setIfInBounds_toArray, List.set_cons_zero, List.set_cons_succ, i64_w, i32_w]
                                  rfl
                                refine take_ (i := 9) (N := some 42) (v := ?_) (a' := ?_) #[true, true, true, true, true, true, true, true, true, true, true, false, false, false, false] rfl rfl (take_ofW HT_.out HW_.out (by kernel_rfl)) (fun _ _ _ h => h) (Or.inl ⟨by rfl, ?_⟩) hHeld ?_ ?_
                                rotate_left
                                · intro w' s0
                                  go_simp
                                  with_reducible rfl
                                rotate_left
                                · simp only [Act.put, List.setIfInBounds_toArray, List.set_cons_zero, List.set_cons_succ, i64_w, i32_w]
                                  rfl
                                refine one_ (i := 11) (N := some 44) #[true, true, true, true, true, true, true, true, true, true, true, true, false, false, false] rfl rfl (one_of HT_.out (by kernel_rfl)) (by decide) (fun K hK => ?_)
                                refine value_ (w1 := ?_) (v := ?_) (by rfl) rfl ?_ ?_
                                rotate_left 2
                                · go_simp
                                  constructor
                                  · rfl
                                  · rfl
                                refine hK.out _ _ ((World.cell?_alloc_lt _ _ _ (World.block_lt_of_cell? _ _ (hHeld))).trans (hHeld)) (fun hHeld => ?_)
                                clear hK K
                                refine norm_ (a' := ?_) ?_ ?_
                                rotate_left
                                · show Act.put _ (some 44) _ = _
                                  simp only [Act.put, List.setIfInBounds_toArray, List.set_cons_zero, List.set_cons_succ, i64_w, i32_w]
                                  rfl
                                refine one_ (i := 12) (N := some 45) #[true, true, true, true, true, true, true, true, true, true, true, true, true, false, false] rfl rfl (one_of HT_.out (by kernel_rfl)) (by decide) (fun K hK => ?_)
                                refine Kd.R_append_step (Kd.int .u16) (w0 := w) w.heap.size (by rfl) (.tmp 42) (.tmp 44) 27 22 (.int .u16 0) 2 rfl Try.underlying27 info22 rfl (by decide) (by omega) (.slice A135_0 (rd_L1 x6_1 (ji16)).length c135_0) (rd_L1 x6_1 (ji16)) (rd l1 x28_1) [.int .u16 (rd l1 x28_1)] (fun k_ => oki23 k_ ∨ ((fun _ => True)) k_ ∧ w21.heap.size ≤ k_) (fun _ => False) rfl rfl ?aP (fun _ hk => hk.elim) ?aF ?aO ?aB ?aS ?aL ?_
                                (case aP => exact rfl)
                                (case aB => exact (by repeat (first | (with_reducible first | exact HB.out | apply below_alloc | apply pw_below_drewN | apply below_drew1) | exact HB.out)))
                                (case aF => exact (fun k_ hk => .inr ⟨trivial, hk⟩))
                                (case aO => exact (by (with_reducible repeat (first | apply Kd.R_alloc | apply Kd.R_drewN | apply Kd.R_drew)); exact Kd.R_mono UU23.out (fun _ hk => .inl hk)))
                                (case aS => exact (below_size (by repeat (first | (with_reducible first | exact HB.out | apply below_alloc | apply pw_below_drewN | apply below_drew1) | exact HB.out))))
                                (case aL => have := LMc19.out; omega)
                                intro v137 w24 ho hb hg hat
                                (first | have HS0_ := cell_grown hg (hHeld) (by first | (rw [add_block]; exact (fun e_ => ((HL135_0.out.1 _ e_.symm).2) rfl)) | (show some (Addr.add _ _).block ≠ _; rw [add_block]; exact (fun e_ => ((HL135_0.out.1 _ e_.symm).2) rfl)) | exact (fun e_ => ((HL135_0.out.1 _ e_.symm).2) rfl)) | have HS0_ := cell_grown hg (cell_unalloc (hHeld) (by first | (rw [add_block]; exact Kd.S_lt HO_6.out _ rfl) | (show (Addr.add _ _).block < _; rw [add_block]; exact Kd.S_lt HO_6.out _ rfl) | exact Kd.S_lt HO_6.out _ rfl)) (by first | (rw [add_block]; exact (fun e_ => ((HL135_0.out.1 _ e_.symm).2) rfl)) | (show some (Addr.add _ _).block ≠ _; rw [add_block]; exact (fun e_ => ((HL135_0.out.1 _ e_.symm).2) rfl)) | exact (fun e_ => ((HL135_0.out.1 _ e_.symm).2) rfl)))
                                rw [← Ny136.out] at ho
                                have n0_ := Aside0.mk (hb)
                                have n1_ := Aside0.mk (Kd.H_grown (Kd.H_widen (by repeat (first | exact HH23.out | refine Kd.H_alloc ?_ _ | refine Kd.H_drewN ?_ _ | refine Kd.H_drew ?_))) hg (fun k_ e_ => .inl (UU23.out.1 k_ e_)))
                                have n2_ := Aside0.mk (ho)
                                clear HB
                                clear HH23
                                clear HO_6
                                clear UU23
                                clear HL135_0
                                have HB := n0_
                                have HH23 := n1_
                                have HO138 := n2_
                                clear n0_ n1_ n2_
                                clear ho hb hg hat
                                have p20 : 0 ≤ ((ji16) : Int) := of_decide_eq_true (by first | (with_reducible assumption) | assumption)
                                have q20 : ((ji16) : Int) < ((x6_1.length : Int) : Int) := of_decide_eq_true (by first | (with_reducible assumption) | assumption)
                                replace p20 := eq_true p20
                                replace q20 := eq_true q20
                                obtain ⟨Ao27, co27, eo27⟩ := Kd.R_slice HO138.out
                                (first | subst eo27 | (injection eo27 with f1_ f2_ f3_; have f4_ := f1_.symm; have f5_ := f3_.symm; clear f1_ f2_ f3_; subst f4_; subst f5_))
                                obtain ⟨_, _, hraw25, _, _, hcc25, _⟩ := Kd.H_raw HH23.out (of_decide_eq_true (by first | (with_reducible assumption) | assumption)) (by have h_ : ((ji16) : Int) < ((x6_1.length : Int) : Int) := of_decide_eq_true (by first | (with_reducible assumption) | assumption); first | exact h_ | (have e_ := (HN23.out); omega) | simpa using h_)
                                obtain ⟨_, hfr25⟩ := Kd.H_at HH23.out (of_decide_eq_true (by first | (with_reducible assumption) | assumption)) (by have h_ : ((ji16) : Int) < ((x6_1.length : Int) : Int) := of_decide_eq_true (by first | (with_reducible assumption) | assumption); first | exact h_ | (have e_ := (HN23.out); omega) | simpa using h_)
                                have hx25_0 := hcc25 0 _ rfl
                                have hf25_0 := hfr25 0
                                (try simp only [Nat.add_zero] at hx25_0 hf25_0)
                                (try rw [show ((Kd.slice 22 (Kd.int .u16))).sz = 1 from rfl, Nat.mul_one] at hx25_0)
                                (try rw [show ((Kd.slice 22 (Kd.int .u16))).sz = 1 from rfl, Nat.mul_one] at hf25_0)
                                have HP25 := Kd.S_seg0 HH23.out (of_decide_eq_true (by first | (with_reducible assumption) | assumption)) (by have h_ : ((ji16) : Int) < ((x6_1.length : Int) : Int) := of_decide_eq_true (by first | (with_reducible assumption) | assumption); first | exact h_ | (have e_ := (HN23.out); omega) | simpa using h_) (seg := [.slice Ao27 y136.length co27]) (j := 0) (show 1 ≤ 1 from by decide) (x' := y136) (Kd.M_row HO138.out) (fun _ hk => hk)
                                (try simp only [show ((Kd.slice 22 (Kd.int .u16))).sz = 1 from rfl, Nat.mul_one, Nat.add_zero] at HP25)
                                clear hcc25 hfr25
                                have HS25 := HP25.1
                                rw [← Ny139.out] at HS25
                                have HQ25 := Aside0.mk HS25
                                obtain ⟨_, hgg25⟩ := Kd.R_typed hraw25 go23 rfl
                                have GG25_ := Aside0.mk hgg25
                                clear HP25 HS25 hgg25
                                refine hK.out _ _ (HS0_) (fun hHeld => ?_)
                                clear hK K
                                refine norm_ (a' := ?_) ?_ ?_
                                rotate_left
                                · show Act.put _ (some 45) _ = _
                                  simp only [Act.put, List.setIfInBounds_toArray, List.set_cons_zero, List.set_cons_succ, i64_w, i32_w]
                                  rfl
                                refine pure_ (i := 13) (N := some 46) (v := ?_) (a' := ?_) #[true, true, true, true, true, true, true, true, true, true, true, true, true, true, false] rfl rfl (any_of HT_.out (by kernel_rfl)) (fun _ _ _ h => h) (Or.inl ⟨by rfl, ?_⟩) ?_ ?_
                                rotate_left
                                · intro w'
                                  go_simp
                                  with_reducible rfl
                                rotate_left
                                · simp only [Act.put, List.setIfInBounds_toArray, List.set_cons_zero, List.set_cons_succ, i64_w, i32_w]
                                  rfl
                                refine last_ (i := 14) (N := none) #[true, true, true, true, true, true, true, true, true, true, true, true, true, true, true] rfl rfl (one_of HT_.out (by kernel_rfl)) (by decide) (fun K hK => ?_)
                                refine skip_ (w1 := ?_) (by rfl) rfl ?_ ?_
                                rotate_left
                                · go_simp
                                  rfl
                                refine hK.out _ _ ?_
                                clear hK K
                                refine done_ (done_of HT_.out (by kernel_rfl)) ?_
                                try go_wp2
                                go_roundg k1
                                case measure => have := HK1.out; omega
                                case rel => exact ⟨(y139), (wrap64 (x28_1 + 1)), (by first | rfl | (simp; done) | (simp [*]; done)), H', ⟨by have := HK1.out; omega⟩, ⟨by (with_reducible repeat (first | apply Kd.S_alloc | apply Kd.S_drewN | apply Kd.S_drew)); exact HQ25.out⟩, ⟨by repeat (first | (with_reducible first | exact HB.out | apply below_alloc | apply pw_below_drewN | apply below_drew1 | refine below_set ?_ GB23.out) | exact HB.out)⟩⟩
                              · rw [if_neg c19] at H
                                exact absurd H (by simp)
                            · rw [if_neg c18] at H
                              exact absurd H (by simp)
                          · rw [if_neg c17] at H
                            exact absurd H (by simp)
                      · rw [if_neg c14] at H
                        exact absurd H (by simp)
                    · rw [if_neg c13] at H
                      exact absurd H (by simp)
                  · rw [if_neg c12] at H
                    have c12b0 : decide (x28_1 < (l1.length : Int)) = false := decide_eq_false c12
                    clear c12
                    simp only [Option.some.injEq, Prod.mk.injEq] at H
                    obtain ⟨rfl, rfl⟩ := H
                    go_wp2
                    go_ret2
                    exact ⟨_, by first | rfl | (simp [errW_none, errW_some] <;> rfl) | (simp [*, errW_none, errW_some] <;> rfl), by (with_reducible repeat (first | apply Kd.S_alloc | apply Kd.S_drewN | apply Kd.S_drew)); exact HO_6.out, by repeat (first | (with_reducible first | exact HB.out | apply below_alloc | apply pw_below_drewN | apply below_drew1) | exact HB.out)⟩
            · rw [if_neg c9] at H
              exact absurd H (by simp)
          · rw [if_neg c8] at H
            exact absurd H (by simp)
        · rw [if_neg c7] at H
          have c7b0 : (((l1.length : Int) % a0) == 0) = false := beq_eq_false_iff_ne.mpr c7
          have c7b1 : (((l1.length : Int) % a0) != 0) = true := bne_iff_ne.mpr c7
          simp only [Option.some.injEq, Prod.mk.injEq] at H
          obtain ⟨rfl, rfl⟩ := H
          go_enter Try.func12, Try.ntmps12
          go_wp2_with (first | ((with_reducible refine gate_callee (f := 17) rfl ?_); refine goesL_ (some 11) rfl rfl Try.func17 (by kernel_rfl) rfl #[.int .i64 a0] rfl (by (try simp only [List.map_toArray, List.map_cons, List.map_nil]); first | done | rfl | (simp only [List.length_drop, List.length_take]; rfl)) ?_; (with_reducible refine (weave_may.calls a0 true _ A3.out).mono ?_); rintro e w' ⟨rfl, ⟨nd, rfl⟩⟩; refine ⟨_, rfl, ?_⟩))
          go_ret2
          exact ⟨_, by first | rfl | (simp [errW_none, errW_some] <;> rfl) | (simp [*, errW_none, errW_some] <;> rfl), by first | exact Kd.S_nil _ _ _ _ _ | exact Kd.N_nil _ _ _ _ _ | exact Kd.V_nil _ _ _ _ _ | exact Kd.Q_nil _ _ _ _ _ | exact Kd.R_nil _ _ _ _ _, by repeat (first | (with_reducible first | exact HB.out | apply below_alloc | apply pw_below_drewN | apply below_drew1) | exact HB.out)⟩
  · replace c4 := Bool.eq_false_iff.mpr c4
    subst c4
    have H1 : (some (([] : List (List Int)), 1)) = some (r1, r2) := by rw [if_neg (show ¬ (false = true) by decide)] at H; exact H
    clear H
    have H := H1
    clear H1
    simp only [Option.some.injEq, Prod.mk.injEq] at H
    obtain ⟨rfl, rfl⟩ := H
    go_enter Try.func12, Try.ntmps12
    go_wp2_with (first | ((with_reducible refine gate_callee (f := 17) rfl ?_); refine goesL_ (some 11) rfl rfl Try.func17 (by kernel_rfl) rfl #[.int .i64 a0] rfl (by (try simp only [List.map_toArray, List.map_cons, List.map_nil]); first | done | rfl | (simp only [List.length_drop, List.length_take]; rfl)) ?_; (with_reducible refine (weave_may.calls a0 false _ A3.out).mono ?_); rintro e w' ⟨rfl, ⟨nd, rfl⟩⟩; refine ⟨_, rfl, ?_⟩))
    go_ret2
    exact ⟨_, by first | rfl | (simp [errW_none, errW_some] <;> rfl) | (simp [*, errW_none, errW_some] <;> rfl), by first | exact Kd.S_nil _ _ _ _ _ | exact Kd.N_nil _ _ _ _ _ | exact Kd.V_nil _ _ _ _ _ | exact Kd.Q_nil _ _ _ _ _ | exact Kd.R_nil _ _ _ _ _, by repeat (first | (with_reducible first | exact HB.out | apply below_alloc | apply pw_below_drewN | apply below_drew1) | exact HB.out)⟩

end Go.Proofs.Ytghjenmocndlgaa.O
