/- Printed for this seat by a program of this session (over the kit's print), with contracts of its own laid in. -/
import Derived.Test.YtdgpondnogpolaaMx0
namespace Go.Proofs.Ytdgpondnogpolaa.M
open Go.RowKit Go.Proofs.YtdgpondnogpolaaW.PrintWords Go.Proofs.YtdgpondnogpolaaW.PrintLast Go.Proofs.YtdgpondnogpolaaW.PrintMore
attribute [local go_sem] max2_int min2_int max_two min_two max_three min_three max_four min_four   -- for this text's walks alone
set_option linter.unusedVariables false
set_option linter.unusedSimpArgs false

/-! ### pack_Pack: function 9 -/
def pack_Pack.l0 : Nat → List Int → Int → Int → List Int → Int → Int → Option (List Int)
  | 0, _, _, _, _, _, _ => none
  | k + 1, x3, x4, x5, x8, x9, x10 => if x10 < x9 then (if 0 ≤ x10 then (if x10 < (x8.length : Int) then (if (wrap64 (x5 + 8)) ≥ 10 then (if 0 ≤ (wrap64 ((wrap64 (x5 + 8)) - 10)) then (if x3.length < 70368744177664 then (pack_Pack.l0 k (x3 ++ [IntKind.u16.wrap (shr .i64 (Go.bits .or .i64 (wrap64 (x4 * 256)) (wrap64 (rd x8 x10))) (wrap64 ((wrap64 (x5 + 8)) - 10)))]) (Go.bits .and .i64 (Go.bits .or .i64 (wrap64 (x4 * 256)) (wrap64 (rd x8 x10))) (wrap64 ((shl .i64 1 (wrap64 ((wrap64 (x5 + 8)) - 10))) - 1))) (wrap64 ((wrap64 (x5 + 8)) - 10)) x8 x9 (wrap64 (x10 + 1))) else (none)) else (none)) else (pack_Pack.l0 k x3 (Go.bits .or .i64 (wrap64 (x4 * 256)) (wrap64 (rd x8 x10))) (wrap64 (x5 + 8)) x8 x9 (wrap64 (x10 + 1)))) else (none)) else (none)) else (if x5 > 0 then (if 0 ≤ (wrap64 (10 - x5)) then (if x3.length < 70368744177664 then (some (x3 ++ [IntKind.u16.wrap (shl .i64 x4 (wrap64 (10 - x5)))])) else (none)) else (none)) else (some x3))
def pack_Pack.f (k : Nat) (l0 : List Int) : Option (List Int) := pack_Pack.l0 k ([] : List Int) 0 0 l0 (l0.length : Int) 0
theorem pack_Pack.mono_l : ∀ k, (∀ y0 y1 y2 y3 y4 y5, LeO (pack_Pack.l0 k y0 y1 y2 y3 y4 y5) (pack_Pack.l0 (k + 1) y0 y1 y2 y3 y4 y5))
  | 0 => fun _ _ _ _ _ _ r h => by simp [pack_Pack.l0] at h
  | k + 1 => by
    have ih0 := pack_Pack.mono_l k
    · intro y0 y1 y2 y3 y4 y5
      unfold pack_Pack.l0
      repeat' first
      | (with_reducible exact ih0 _ _ _ _ _ _)
      | (with_reducible exact LeO.refl _)
      | (with_reducible exact LeO.none _)
      | (with_reducible refine LeO.ite ?_ ?_)
      | (with_reducible refine LeO.bind ?_ (fun _ => ?_))
      | exact ih0 _ _ _ _ _ _
      | exact LeO.none _
      | refine LeO.ite ?_ ?_
      | refine LeO.bind ?_ (fun _ => ?_)
theorem pack_Pack.mono : ∀ a0 k, LeO (pack_Pack.f k a0) (pack_Pack.f (k + 1) a0) := by
  intro a0 k
  have ih0 := pack_Pack.mono_l k
  unfold pack_Pack.f
  repeat' first
      | (with_reducible exact ih0 _ _ _ _ _ _)
      | (with_reducible exact LeO.refl _)
      | (with_reducible exact LeO.none _)
      | (with_reducible refine LeO.ite ?_ ?_)
      | (with_reducible refine LeO.bind ?_ (fun _ => ?_))
      | exact ih0 _ _ _ _ _ _
      | exact LeO.none _
      | refine LeO.ite ?_ ?_
      | refine LeO.bind ?_ (fun _ => ?_)
set_option maxHeartbeats 8000000 in
set_option maxRecDepth 100000 in
theorem pack_Pack.calls (k : Nat) (A0 : Option Addr) (c0 : Nat) (l0 : List Int) (r : List Int) (w : World) (hr0 : Kd.C (Kd.int .u8) w A0 l0.length l0) (hc0 : l0.length ≤ c0) (h : pack_Pack.f k l0 = some r) :
    Calls Try.prog 9 #[.slice A0 l0.length c0] w fun e w' => ∃ v0_ : Value, e = .returned (v0_) ∧ Kd.R (Kd.int .u16) 34 w' w.heap.size (fun _ => True) v0_ r ∧ Below w.heap.size w w' := by
  have HR0 := Aside0.mk hr0
  have HC0 := Aside0.mk hc0
  clear hr0 hc0
  have HB := Aside0.mk (Below.refl w.heap.size w)
  have H : (pack_Pack.l0 k ([] : List Int) 0 0 l0 (l0.length : Int) 0) = some r := h
  clear h
  have H' := Aside0.mk H
  clear H
  go_enter Try.func9, Try.ntmps9
  go_wp2
  go_loopg [3, 4, 5, 10] k (fun kq v3 v4 v5 v10 w' => ∃ (x3_1 : List Int) (x4_1 : Int) (x5_1 : Int) (x10_1 : Int), v4 = .int .i64 x4_1 ∧ v5 = .int .i64 x5_1 ∧ v10 = .int .i64 x10_1 ∧ Aside0 (pack_Pack.l0 kq x3_1 x4_1 x5_1 l0 (l0.length : Int) x10_1 = some r) ∧ Aside0 (kq ≤ k) ∧ Aside0 (Kd.R (Kd.int .u16) 34 w' w.heap.size (fun _ => True) v3 x3_1) ∧ Aside0 (Below w.heap.size w w'))
  case atStart => exact ⟨(([] : List Int)), (0), (0), (0), (by first | rfl | (simp; done) | (simp [*]; done)), (by first | rfl | (simp; done) | (simp [*]; done)), (by first | rfl | (simp; done) | (simp [*]; done)), H', ⟨Nat.le_refl _⟩, ⟨by first | exact Kd.R_nil _ _ _ _ _ | exact Kd.N_nil _ _ _ _ _ | exact Kd.V_nil _ _ _ _ _ | exact Kd.Q_nil _ _ _ _ _ | exact Kd.S_nil _ _ _ _ _⟩, ⟨by repeat (first | (with_reducible first | exact HB.out | apply below_alloc | apply pw_below_drewN | apply below_drew1) | exact HB.out)⟩⟩
  case round =>
    clear H'
    obtain ⟨x3_1, x4_1, x5_1, x10_1, rfl, rfl, rfl, HA, HK1, HO_3, HB⟩ := hrel
    cases gk with
    | zero => exact absurd HA.out (by simp [pack_Pack.l0])
    | succ k1 =>
      have H := HA.out
      clear HA
      simp only [pack_Pack.l0] at H
      by_cases c2 : x10_1 < (l0.length : Int)
      · rw [if_pos c2] at H
        have c2b0 : decide (x10_1 < (l0.length : Int)) = true := decide_eq_true c2
        clear c2
        by_cases c3 : 0 ≤ x10_1
        · rw [if_pos c3] at H
          have c3b0 : decide (0 ≤ x10_1) = true := decide_eq_true c3
          clear c3
          by_cases c4 : x10_1 < (l0.length : Int)
          · rw [if_pos c4] at H
            have c4b0 : decide (x10_1 < (l0.length : Int)) = true := decide_eq_true c4
            clear c4
            by_cases c5 : (wrap64 (x5_1 + 8)) ≥ 10
            · rw [if_pos c5] at H
              have c5b0 : decide (10 ≤ (wrap64 (x5_1 + 8))) = true := decide_eq_true c5
              clear c5
              obtain ⟨ji6, hji6⟩ : ∃ j_ : Int, (wrap64 ((wrap64 (x5_1 + 8)) - 10)) = j_ := ⟨_, rfl⟩
              replace H : (if 0 ≤ (ji6) then (if x3_1.length < 70368744177664 then (pack_Pack.l0 k1 (x3_1 ++ [IntKind.u16.wrap (shr .i64 (Go.bits .or .i64 (wrap64 (x4_1 * 256)) (wrap64 (rd l0 x10_1))) (ji6))]) (Go.bits .and .i64 (Go.bits .or .i64 (wrap64 (x4_1 * 256)) (wrap64 (rd l0 x10_1))) (wrap64 ((shl .i64 1 (ji6)) - 1))) ji6 l0 (l0.length : Int) (wrap64 (x10_1 + 1))) else (none)) else (none)) = some r := by first | (rw [hji6] at H; exact H) | (simp only [hji6] at H ⊢; exact H)
              have hji6w : (IntKind.i64.wrap ((wrap64 (x5_1 + 8)) - 10)) = ji6 := (i64_w _).trans hji6
              by_cases c7 : 0 ≤ (ji6)
              · rw [if_pos c7] at H
                have c7b0 := eq_true c7
                have c7b1 : decide (0 ≤ (ji6)) = true := decide_eq_true c7
                clear c7
                obtain ⟨ji8, hji8⟩ : ∃ j_ : Int, (shr .i64 (Go.bits .or .i64 (wrap64 (x4_1 * 256)) (wrap64 (rd l0 x10_1))) (ji6)) = j_ := ⟨_, rfl⟩
                replace H : (if x3_1.length < 70368744177664 then (pack_Pack.l0 k1 (x3_1 ++ [IntKind.u16.wrap (ji8)]) (Go.bits .and .i64 (Go.bits .or .i64 (wrap64 (x4_1 * 256)) (wrap64 (rd l0 x10_1))) (wrap64 ((shl .i64 1 (ji6)) - 1))) ji6 l0 (l0.length : Int) (wrap64 (x10_1 + 1))) else (none)) = some r := by first | (rw [hji8] at H; exact H) | (simp only [hji8] at H ⊢; exact H)
                have hji8_ : ((Go.bits .or .i64 (wrap64 (x4_1 * 256)) (wrap64 (rd l0 x10_1))) / 2 ^ min (ji6).toNat 64) = ji8 := hji8
                have hji8z : (ji6) ≤ 64 → ((Go.bits .or .i64 (wrap64 (x4_1 * 256)) (wrap64 (rd l0 x10_1))) / 2 ^ (ji6).toNat) = ji8 := shr_small hji8
                by_cases c9 : x3_1.length < 70368744177664
                · rw [if_pos c9] at H
                  have LMc9 := Aside0.mk c9
                  clear c9
                  obtain ⟨y102, hy102⟩ : ∃ y_ : List Int, y_ = (x3_1 ++ [IntKind.u16.wrap (ji8)]) := ⟨_, rfl⟩
                  replace H : (pack_Pack.l0 k1 y102 (Go.bits .and .i64 (Go.bits .or .i64 (wrap64 (x4_1 * 256)) (wrap64 (rd l0 x10_1))) (wrap64 ((shl .i64 1 (ji6)) - 1))) ji6 l0 (l0.length : Int) (wrap64 (x10_1 + 1))) = some r := by first | (rw [hy102]; with_reducible exact H) | (have H2_ := (Option.bind_some _ _).symm.trans H; rw [hy102]; with_reducible exact H2_) | (have H2_ := (Option.bind_some _ _).symm.trans H; with_reducible exact H2_) | with_reducible exact H | (rw [hy102]; exact H) | exact H
                  have Ny102 := Aside0.mk hy102
                  clear hy102
                  have c10b0 := eq_true (of_decide_eq_true (by first | (with_reducible assumption) | assumption) : 0 ≤ (ji6))
                  obtain ⟨ji11, hji11⟩ : ∃ j_ : Int, (shl .i64 1 (ji6)) = j_ := ⟨_, rfl⟩
                  replace H : (pack_Pack.l0 k1 y102 (Go.bits .and .i64 (Go.bits .or .i64 (wrap64 (x4_1 * 256)) (wrap64 (rd l0 x10_1))) (wrap64 ((ji11) - 1))) ji6 l0 (l0.length : Int) (wrap64 (x10_1 + 1))) = some r := by first | (rw [hji11] at H; exact H) | (simp only [hji11] at H ⊢; exact H)
                  have hji11_ : (IntKind.i64.wrap (1 * 2 ^ min (ji6).toNat 64)) = ji11 := hji11
                  have hji11z : (ji6) ≤ 64 → (IntKind.i64.wrap (1 * 2 ^ (ji6).toNat)) = ji11 := shl_small hji11
                  have hji11u : (IntKind.i64.wrap (2 ^ min (ji6).toNat 64)) = ji11 := by have h_ := hji11_; rw [Int.one_mul] at h_; exact h_
                  have hji11v : (ji6) ≤ 64 → (IntKind.i64.wrap (2 ^ (ji6).toNat)) = ji11 := fun hle_ => by have h_ := hji11z hle_; rw [Int.one_mul] at h_; exact h_
                  have hji11y : (wrap64 (1 * 2 ^ min (ji6).toNat 64)) = ji11 := (i64_w _).symm.trans hji11_
                  have hji11x : (ji6) ≤ 64 → (wrap64 (1 * 2 ^ (ji6).toNat)) = ji11 := fun h_ => (i64_w _).symm.trans (hji11z h_)
                  have H' := Aside0.mk H
                  clear H
                  have p101 : 0 ≤ (x10_1 : Int) := of_decide_eq_true (by first | (with_reducible assumption) | assumption)
                  have q101 : x10_1 < (l0.length : Int) := of_decide_eq_true (by first | (with_reducible assumption) | assumption)
                  obtain ⟨ad101, e101, hx101_0⟩ := Kd.at_int HR0.out x10_1 p101 q101
                  cases e101
                  replace hx101_0 := (HB.out.cell (World.block_lt_of_cell? w _ hx101_0)).trans hx101_0
                  replace p101 := eq_true p101
                  replace q101 := eq_true q101
                  go_wp2_with (first | ((with_reducible refine gate_builtin (b := .append) (xs := #[.tmp 25, .tmp 30]) rfl ?_); at_builtin; refine Kd.R_append (Kd.int .u16) (w0 := w) w.heap.size rfl (.tmp 25) (.tmp 30) 23 34 (.int .u16 0) 2 rfl Try.underlying23 info34 rfl (by decide) (by omega) u3 x3_1 (IntKind.u16.wrap (ji8)) [.int .u16 (IntKind.u16.wrap (ji8))] (fun _ => True) (fun _ => False) rfl rfl ?aP (fun _ hk => hk.elim) ?aF ?aO ?aB ?aS ?aL ?_; (case aP => exact rfl); (case aB => exact (by repeat (first | (with_reducible first | exact HB.out | apply below_alloc | apply pw_below_drewN | apply below_drew1) | exact HB.out))); (case aF => exact (fun _ _ => trivial)); (case aO => exact (by (with_reducible repeat (first | apply Kd.R_alloc | apply Kd.R_drewN | apply Kd.R_drew)); exact HO_3.out)); (case aS => exact (below_size (by repeat (first | (with_reducible first | exact HB.out | apply below_alloc | apply pw_below_drewN | apply below_drew1) | exact HB.out)))); (case aL => have := LMc9.out; omega); intro v103 w12 ho hb hg hat; rw [← Ny102.out] at ho; have n0_ := Aside0.mk (hb); have n1_ := Aside0.mk (ho); clear HB; clear HO_3; have HB := n0_; have HO104 := n1_; clear n0_ n1_; clear ho hb hg hat))
                  go_roundg k1
                  case measure => have := HK1.out; omega
                  case rel => exact ⟨(y102), (Go.bits .and .i64 (Go.bits .or .i64 (wrap64 (x4_1 * 256)) (wrap64 (rd l0 x10_1))) (wrap64 ((ji11) - 1))), (ji6), (wrap64 (x10_1 + 1)), (by first | rfl | (simp; done) | (simp only [← hji11] <;> (first | rfl | (simp; done) | (unfold mn; simp; done) | (unfold mx; simp; done))) | (simp [*]; done)), (by first | rfl | (simp; done) | (simp only [← hji6] <;> (first | rfl | (simp; done) | (unfold mn; simp; done) | (unfold mx; simp; done))) | (simp [*]; done)), (by first | rfl | (simp; done) | (simp [*]; done)), H', ⟨by have := HK1.out; omega⟩, ⟨by (with_reducible repeat (first | apply Kd.R_alloc | apply Kd.R_drewN | apply Kd.R_drew)); exact HO104.out⟩, ⟨by repeat (first | (with_reducible first | exact HB.out | apply below_alloc | apply pw_below_drewN | apply below_drew1) | exact HB.out)⟩⟩
                · rw [if_neg c9] at H
                  exact absurd H (by simp)
              · rw [if_neg c7] at H
                exact absurd H (by simp)
            · rw [if_neg c5] at H
              have c5b0 : decide (10 ≤ (wrap64 (x5_1 + 8))) = false := decide_eq_false c5
              clear c5
              have H' := Aside0.mk H
              clear H
              have p101 : 0 ≤ (x10_1 : Int) := of_decide_eq_true (by first | (with_reducible assumption) | assumption)
              have q101 : x10_1 < (l0.length : Int) := of_decide_eq_true (by first | (with_reducible assumption) | assumption)
              obtain ⟨ad101, e101, hx101_0⟩ := Kd.at_int HR0.out x10_1 p101 q101
              cases e101
              replace hx101_0 := (HB.out.cell (World.block_lt_of_cell? w _ hx101_0)).trans hx101_0
              replace p101 := eq_true p101
              replace q101 := eq_true q101
              go_wp2
              go_roundg k1
              case measure => have := HK1.out; omega
              case rel => exact ⟨(x3_1), (Go.bits .or .i64 (wrap64 (x4_1 * 256)) (wrap64 (rd l0 x10_1))), (wrap64 (x5_1 + 8)), (wrap64 (x10_1 + 1)), (by first | rfl | (simp; done) | (simp [*]; done)), (by first | rfl | (simp; done) | (simp [*]; done)), (by first | rfl | (simp; done) | (simp [*]; done)), H', ⟨by have := HK1.out; omega⟩, ⟨by (with_reducible repeat (first | apply Kd.R_alloc | apply Kd.R_drewN | apply Kd.R_drew)); exact HO_3.out⟩, ⟨by repeat (first | (with_reducible first | exact HB.out | apply below_alloc | apply pw_below_drewN | apply below_drew1) | exact HB.out)⟩⟩
          · rw [if_neg c4] at H
            exact absurd H (by simp)
        · rw [if_neg c3] at H
          exact absurd H (by simp)
      · rw [if_neg c2] at H
        have c2b0 : decide (x10_1 < (l0.length : Int)) = false := decide_eq_false c2
        clear c2
        by_cases c13 : x5_1 > 0
        · rw [if_pos c13] at H
          have c13b0 : decide (0 < x5_1) = true := decide_eq_true c13
          clear c13
          obtain ⟨ji14, hji14⟩ : ∃ j_ : Int, (wrap64 (10 - x5_1)) = j_ := ⟨_, rfl⟩
          replace H : (if 0 ≤ (ji14) then (if x3_1.length < 70368744177664 then (some (x3_1 ++ [IntKind.u16.wrap (shl .i64 x4_1 (ji14))])) else (none)) else (none)) = some r := by first | (rw [hji14] at H; exact H) | (simp only [hji14] at H ⊢; exact H)
          have hji14w : (IntKind.i64.wrap (10 - x5_1)) = ji14 := (i64_w _).trans hji14
          by_cases c15 : 0 ≤ (ji14)
          · rw [if_pos c15] at H
            have c15b0 := eq_true c15
            have c15b1 : decide (0 ≤ (ji14)) = true := decide_eq_true c15
            clear c15
            obtain ⟨ji16, hji16⟩ : ∃ j_ : Int, (shl .i64 x4_1 (ji14)) = j_ := ⟨_, rfl⟩
            replace H : (if x3_1.length < 70368744177664 then (some (x3_1 ++ [IntKind.u16.wrap (ji16)])) else (none)) = some r := by first | (rw [hji16] at H; exact H) | (simp only [hji16] at H ⊢; exact H)
            have hji16_ : (IntKind.i64.wrap (x4_1 * 2 ^ min (ji14).toNat 64)) = ji16 := hji16
            have hji16z : (ji14) ≤ 64 → (IntKind.i64.wrap (x4_1 * 2 ^ (ji14).toNat)) = ji16 := shl_small hji16
            have hji16y : (wrap64 (x4_1 * 2 ^ min (ji14).toNat 64)) = ji16 := (i64_w _).symm.trans hji16_
            have hji16x : (ji14) ≤ 64 → (wrap64 (x4_1 * 2 ^ (ji14).toNat)) = ji16 := fun h_ => (i64_w _).symm.trans (hji16z h_)
            by_cases c17 : x3_1.length < 70368744177664
            · rw [if_pos c17] at H
              have LMc17 := Aside0.mk c17
              clear c17
              obtain ⟨y105, hy105⟩ : ∃ y_ : List Int, y_ = (x3_1 ++ [IntKind.u16.wrap (ji16)]) := ⟨_, rfl⟩
              replace H : (some y105) = some r := by first | (rw [hy105]; with_reducible exact H) | (have H2_ := (Option.bind_some _ _).symm.trans H; rw [hy105]; with_reducible exact H2_) | (have H2_ := (Option.bind_some _ _).symm.trans H; with_reducible exact H2_) | with_reducible exact H | (rw [hy105]; exact H) | exact H
              have Ny105 := Aside0.mk hy105
              clear hy105
              obtain rfl := Option.some.inj H
              go_wp2_with (first | ((with_reducible refine gate_builtin (b := .append) (xs := #[.tmp 40, .tmp 46]) rfl ?_); at_builtin; refine Kd.R_append (Kd.int .u16) (w0 := w) w.heap.size rfl (.tmp 40) (.tmp 46) 23 34 (.int .u16 0) 2 rfl Try.underlying23 info34 rfl (by decide) (by omega) u3 x3_1 (IntKind.u16.wrap (ji16)) [.int .u16 (IntKind.u16.wrap (ji16))] (fun _ => True) (fun _ => False) rfl rfl ?aP (fun _ hk => hk.elim) ?aF ?aO ?aB ?aS ?aL ?_; (case aP => exact rfl); (case aB => exact (by repeat (first | (with_reducible first | exact HB.out | apply below_alloc | apply pw_below_drewN | apply below_drew1) | exact HB.out))); (case aF => exact (fun _ _ => trivial)); (case aO => exact (by (with_reducible repeat (first | apply Kd.R_alloc | apply Kd.R_drewN | apply Kd.R_drew)); exact HO_3.out)); (case aS => exact (below_size (by repeat (first | (with_reducible first | exact HB.out | apply below_alloc | apply pw_below_drewN | apply below_drew1) | exact HB.out)))); (case aL => have := LMc17.out; omega); intro v106 w18 ho hb hg hat; rw [← Ny105.out] at ho; have n0_ := Aside0.mk (hb); have n1_ := Aside0.mk (ho); clear HB; clear HO_3; have HB := n0_; have HO107 := n1_; clear n0_ n1_; clear ho hb hg hat))
              go_ret
              exact ⟨_, by first | rfl | (simp [errW_none, errW_some] <;> rfl) | (simp only [← hji14, ← hji16]; first | rfl | (simp [errW_none, errW_some] <;> rfl)) | (simp [*, errW_none, errW_some] <;> rfl), by (with_reducible repeat (first | apply Kd.R_alloc | apply Kd.R_drewN | apply Kd.R_drew)); exact HO107.out, by repeat (first | (with_reducible first | exact HB.out | apply below_alloc | apply pw_below_drewN | apply below_drew1) | exact HB.out)⟩
            · rw [if_neg c17] at H
              exact absurd H (by simp)
          · rw [if_neg c15] at H
            exact absurd H (by simp)
        · rw [if_neg c13] at H
          have c13b0 : decide (0 < x5_1) = false := decide_eq_false c13
          clear c13
          obtain rfl := Option.some.inj H
          go_wp2
          go_ret
          exact ⟨_, by first | rfl | (simp [errW_none, errW_some] <;> rfl) | (simp [*, errW_none, errW_some] <;> rfl), by (with_reducible repeat (first | apply Kd.R_alloc | apply Kd.R_drewN | apply Kd.R_drew)); exact HO_3.out, by repeat (first | (with_reducible first | exact HB.out | apply below_alloc | apply pw_below_drewN | apply below_drew1) | exact HB.out)⟩

/-! ### pack_within: function 21 -/
def pack_within.f (a0 : Int) : Option (Int) := some (mn (mx a0 0) 1099511627776)
set_option maxHeartbeats 8000000 in
set_option maxRecDepth 100000 in
theorem pack_within.calls (a0 : Int) (r : Int) (w : World) (h : pack_within.f a0 = some r) :
    Calls Try.prog 21 #[.int .i64 a0] w fun e w' => e = .returned (.int .i64 r) ∧ Below w.heap.size w w' := by
  have HB := Aside0.mk (Below.refl w.heap.size w)
  have H : (some (mn (mx a0 0) 1099511627776)) = some r := h
  clear h
  obtain ⟨ji2, hji2⟩ : ∃ j_ : Int, (mx a0 0) = j_ := ⟨_, rfl⟩
  replace H : (some (mn (ji2) 1099511627776)) = some r := by first | (rw [hji2] at H; exact H) | (simp only [hji2] at H ⊢; exact H)
  (try (have hji2l : 0 ≤ ji2 := by (rw [← hji2]; unfold mx; (repeat' split) <;> omega)))
  (try (have hji2m : 0 ≤ ji2 := by omega))
  have hji2_ : (if a0 < 0 then 0 else a0) = ji2 := hji2
  obtain ⟨ji3, hji3⟩ : ∃ j_ : Int, (mn (ji2) 1099511627776) = j_ := ⟨_, rfl⟩
  replace H : (some ji3) = some r := by first | (rw [hji3] at H; exact H) | (simp only [hji3] at H ⊢; exact H)
  have hji3_ : (if 1099511627776 < (ji2) then 1099511627776 else (ji2)) = ji3 := hji3
  obtain rfl := Option.some.inj H
  go_enter Try.func21, Try.ntmps21
  go_wp2
  go_ret
  exact ⟨by first | rfl | (simp [errW_none, errW_some] <;> rfl) | (simp only [← hji2, ← hji3]; first | rfl | (simp [errW_none, errW_some] <;> rfl)) | (simp [*, errW_none, errW_some] <;> rfl), by repeat (first | (with_reducible first | exact HB.out | apply below_alloc | apply pw_below_drewN | apply below_drew1) | exact HB.out)⟩

/-! ### pack_Bytes: function 16 -/
def pack_Bytes.f (a0 : Int) : Option (Int) := (pack_within.f a0).bind fun t108 => (some (wrap64 (Int.tdiv (wrap64 (t108 * 10)) 8)))
set_option maxHeartbeats 8000000 in
set_option maxRecDepth 100000 in
theorem pack_Bytes.calls (a0 : Int) (r : Int) (w : World) (h : pack_Bytes.f a0 = some r) :
    Calls Try.prog 16 #[.int .i64 a0] w fun e w' => e = .returned (.int .i64 r) ∧ Below w.heap.size w w' := by
  have HB := Aside0.mk (Below.refl w.heap.size w)
  have H : ((pack_within.f a0).bind fun t108 => (some (wrap64 (Int.tdiv (wrap64 (t108 * 10)) 8)))) = some r := h
  clear h
  replace H := Option.bind_eq_some_iff.mp H
  obtain ⟨t108, A20, H⟩ := H
  replace H : (some (wrap64 (Int.tdiv (wrap64 (t108 * 10)) 8))) = some r := H
  have A2 := Aside0.mk A20
  clear A20
  obtain rfl := Option.some.inj H
  go_enter Try.func16, Try.ntmps16
  go_wp2_with (first | ((with_reducible refine gate_callee (f := 21) rfl ?_); refine goesL_ (some 4) rfl rfl Try.func21 (by kernel_rfl) rfl #[.int .i64 a0] rfl (by (try simp only [List.map_toArray, List.map_cons, List.map_nil]); first | done | rfl | (simp only [List.length_drop, List.length_take]; rfl)) ?_; (with_reducible refine (pack_within.calls a0 t108 _ A2.out).mono ?_); rintro e w3 ⟨rfl, hb⟩; refine ⟨_, rfl, ?_⟩; have n0_ := Aside0.mk (below_step (by repeat (first | (with_reducible first | exact HB.out | apply below_alloc | apply pw_below_drewN | apply below_drew1) | exact HB.out)) hb); clear HB; have HB := n0_; clear n0_; (try clear hb); (try clear hb2); (try clear hk); (try clear hi)))
  go_ret
  exact ⟨by first | rfl | (simp [errW_none, errW_some] <;> rfl) | (simp [*, errW_none, errW_some] <;> rfl), by repeat (first | (with_reducible first | exact HB.out | apply below_alloc | apply pw_below_drewN | apply below_drew1) | exact HB.out)⟩

-- NOT PRINTED: function 22 (slices_IndexFunc_uint16_uint16)

/-! ### slices_ContainsFunc_uint16_uint16: function 18 -/
/-! slices.ContainsFunc at the literal that asks of each symbol whether it is too great: by hand -/
def bigOne (l : List Int) : Bool := l.any fun x => decide (1024 ≤ x)
theorem bigOne_none {l : List Int} (h : ∀ i : Nat, i < l.length → ¬ 1024 ≤ l.getD i 0) : bigOne l = false := by
  unfold bigOne
  rw [List.any_eq_false]
  intro x hx
  obtain ⟨i, hi, rfl⟩ := List.mem_iff_getElem.1 hx
  have := h i hi
  rw [List.getD_eq_getElem?_getD, List.getElem?_eq_getElem hi, Option.getD_some] at this
  simpa using this
theorem bigOne_some {l : List Int} (i : Nat) (hi : i < l.length) (h : 1024 ≤ l.getD i 0) : bigOne l = true := by
  unfold bigOne
  rw [List.any_eq_true]
  refine ⟨l[i], List.getElem_mem hi, ?_⟩
  rw [List.getD_eq_getElem?_getD, List.getElem?_eq_getElem hi, Option.getD_some] at h
  simpa using h
set_option maxHeartbeats 1000000 in
theorem bigClos (x : Int) (w : World) : Calls Try.prog 19 #[.int .u16 x] w fun e w' => e = .returned (.bool (decide (1024 ≤ x))) ∧ w = w' := by
  go_enter Try.func19, Try.ntmps19
  go_wp2
  go_ret
  exact ⟨rfl, rfl⟩
set_option maxHeartbeats 2000000 in
theorem bigIndex (A1 : Option Addr) (c1 : Nat) (l1 : List Int) (w : World) (hr1 : Kd.C (Kd.int .u16) w A1 l1.length l1) :
    Calls Try.prog 22 #[.slice A1 l1.length c1, .func (.func 19) #[] #[]] w
      fun e w' => (∃ r : Int, e = .returned (.int .i64 r) ∧ Aside0 (decide (0 ≤ r) = bigOne l1)) ∧ Drawn0 w w' := by
  have hmax := hr1.2.1
  have HR1 := Aside0.mk hr1
  have HL := Aside0.mk hmax
  clear hr1 hmax
  go_enter Try.func22, Try.ntmps22
  go_wp2
  go_loopg [5, 8] l1.length (fun gg _ s8 wr => ∃ kk : Nat, kk ≤ l1.length ∧ l1.length - kk ≤ gg ∧ s8 = .int .i64 kk ∧ wr = w ∧ Aside0 (∀ j, j < kk → ¬ 1024 ≤ l1.getD j 0))
  case atStart => exact ⟨0, Nat.zero_le _, by omega, rfl, rfl, ⟨fun j hj => absurd hj (Nat.not_lt_zero _)⟩⟩
  case round =>
    obtain ⟨kk, hkk, hg, rfl, rfl, HA⟩ := hrel
    by_cases hlt : kk < l1.length
    · have hltz : (kk : Int) < (l1.length : Int) := by omega
      have p0 : 0 ≤ (kk : Int) := by omega
      obtain ⟨ad, e0, hx0⟩ := Kd.at_int HR1.out kk p0 hltz
      cases e0
      rw [Int.toNat_natCast] at hx0
      have hlen := HL.out
      have Hcall := Aside0.mk (bigClos (rd l1 kk) wr)
      have pp := eq_true p0
      have qq := eq_true hltz
      by_cases hq : 1024 ≤ rd l1 kk
      · have hqb : decide (1024 ≤ rd l1 kk) = true := decide_eq_true hq
        have Hq := Aside0.mk hq
        clear hq
        go_wp2_with (go_at_call 19; refine Hcall.out.mono ?_; rintro e w' ⟨rfl, rfl⟩)
        go_ret
        refine ⟨⟨_, rfl, ⟨?_⟩⟩, Drawn0.refl _⟩
        rw [bigOne_some kk hlt Hq.out]
        simp
      · have hqb : decide (1024 ≤ rd l1 kk) = false := decide_eq_false hq
        have Hq := Aside0.mk hq
        clear hq
        go_wp2_with (go_at_call 19; refine Hcall.out.mono ?_; rintro e w' ⟨rfl, rfl⟩)
        go_roundg (l1.length - (kk + 1))
        case measure => omega
        case rel =>
          refine ⟨kk + 1, by omega, by omega, ?_, rfl, ⟨fun j hj => ?_⟩⟩
          · go_num
          · by_cases e : j = kk
            · subst e; exact Hq.out
            · exact HA.out j (by omega)
    · have hltz : ¬ (kk : Int) < (l1.length : Int) := by omega
      obtain rfl : kk = l1.length := by omega
      go_wp2
      go_ret
      refine ⟨⟨_, rfl, ⟨?_⟩⟩, Drawn0.refl _⟩
      rw [bigOne_none fun i hi => by have := HA.out i hi; omega]
      simp
def slices_ContainsFunc_uint16_uint16.f (l0 : List Int) : Option Bool := some (bigOne l0)
set_option maxHeartbeats 1000000 in
theorem slices_ContainsFunc_uint16_uint16.calls (A0 : Option Addr) (c0 : Nat) (l0 : List Int) (r : Bool) (w : World) (hr0 : Kd.C (Kd.int .u16) w A0 l0.length l0) (hc0 : l0.length ≤ c0) (h : slices_ContainsFunc_uint16_uint16.f l0 = some r) :
    Calls Try.prog 18 #[.slice A0 l0.length c0, .func (.func 19) #[] #[]] w
      fun e w' => e = .returned (.bool r) ∧ Drawn0 w w' := by
  obtain rfl := Option.some.inj h
  clear h
  have Hcall := Aside0.mk (bigIndex A0 c0 l0 w hr0)
  clear hr0 hc0
  go_enter Try.func18, Try.ntmps18
  go_wp2_with (go_at_call 22; refine Hcall.out.mono ?_; rintro e w' ⟨⟨r, rfl, hr⟩, hd⟩; have HD := Aside0.mk hd; clear hd)
  go_ret
  exact ⟨by rw [hr.out]; rfl, HD.out⟩


end Go.Proofs.Ytdgpondnogpolaa.M
