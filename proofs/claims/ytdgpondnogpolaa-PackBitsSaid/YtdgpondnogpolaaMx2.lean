/- Printed for this seat by a program of this session (over the kit's print), with contracts of its own laid in. -/
import Derived.Test.YtdgpondnogpolaaMx0
import Derived.Test.YtdgpondnogpolaaMx1
namespace Go.Proofs.Ytdgpondnogpolaa.M
open Go.RowKit Go.Proofs.YtdgpondnogpolaaW.PrintWords Go.Proofs.YtdgpondnogpolaaW.PrintLast Go.Proofs.YtdgpondnogpolaaW.PrintMore
attribute [local go_sem] max2_int min2_int max_two min_two max_three min_three max_four min_four   -- for this text's walks alone
set_option linter.unusedVariables false
set_option linter.unusedSimpArgs false

/-! ### pack_Unpack: function 10 -/
theorem shl_cap (n : Nat) : wrap64 (2 ^ min n 64) = wrap64 (2 ^ n) := by
  by_cases h : n ≤ 64
  · rw [Nat.min_eq_left h]
  · rw [Nat.min_eq_right (by omega)]
    have e : (2 : Int) ^ n = 2 ^ 64 * 2 ^ (n - 64) := by rw [← Int.pow_add]; congr 1; omega
    rw [e]
    generalize (2 : Int) ^ (n - 64) = y
    unfold wrap64
    rw [show (2 : Int) ^ 64 = 18446744073709551616 from rfl]
    omega
mutual
def pack_Unpack.j0 : Nat → List Int → Int → Bool → Option (List Int × Int)
  | 0, _, _, _ => none
  | k + 1, x0, x1, x11 => if x11 = true then (some (([] : List Int), 3)) else ((slices_ContainsFunc_uint16_uint16.f x0).bind fun t110 => (if t110 = true then (some (([] : List Int), 1)) else (pack_Unpack.l0 k x1 ([] : List Int) 0 0 x0 (x0.length : Int) 0)))
def pack_Unpack.l0 : Nat → Int → List Int → Int → Int → List Int → Int → Int → Option (List Int × Int)
  | 0, _, _, _, _, _, _, _ => none
  | k + 1, x1, x6, x7, x8, x24, x25, x26 => if x26 < x25 then (if 0 ≤ x26 then (if x26 < (x24.length : Int) then (pack_Unpack.l1 k x1 x6 (Go.bits .or .i64 (wrap64 (x7 * 1024)) (wrap64 (rd x24 x26))) (wrap64 (x8 + 10)) x24 x25 x26) else (none)) else (none)) else (some (x6, 0))
def pack_Unpack.l1 : Nat → Int → List Int → Int → Int → List Int → Int → Int → Option (List Int × Int)
  | 0, _, _, _, _, _, _, _ => none
  | k + 1, x1, x6, x7, x8, x24, x25, x26 => if x8 ≥ 8 then (if (x6.length : Int) < x1 then (if 0 ≤ (wrap64 (x8 - 8)) then (if x6.length < 140737488355328 then (pack_Unpack.l1 k x1 (x6 ++ [(shr .i64 x7 (wrap64 (x8 - 8))) % 256]) x7 (wrap64 (x8 - 8)) x24 x25 x26) else (none)) else (none)) else (if 0 ≤ (mn x8 18) then (pack_Unpack.l0 k x1 x6 (Go.bits .and .i64 x7 (wrap64 ((wrap64 (2 ^ (mn x8 18).toNat)) - 1))) (mn x8 18) x24 x25 (wrap64 (x26 + 1))) else (none))) else (if 0 ≤ (mn x8 18) then (pack_Unpack.l0 k x1 x6 (Go.bits .and .i64 x7 (wrap64 ((wrap64 (2 ^ (mn x8 18).toNat)) - 1))) (mn x8 18) x24 x25 (wrap64 (x26 + 1))) else (none))
end
def pack_Unpack.f (k : Nat) (l0 : List Int) (a1 : Int) : Option (List Int × Int) := if a1 < 0 then (pack_Unpack.j0 k l0 a1 true) else ((pack_Bytes.f (l0.length : Int)).bind fun t109 => (pack_Unpack.j0 k l0 a1 (decide (a1 > t109))))
theorem pack_Unpack.mono_l : ∀ k, (∀ y0 y1 y2, LeO (pack_Unpack.j0 k y0 y1 y2) (pack_Unpack.j0 (k + 1) y0 y1 y2)) ∧ (∀ y0 y1 y2 y3 y4 y5 y6, LeO (pack_Unpack.l0 k y0 y1 y2 y3 y4 y5 y6) (pack_Unpack.l0 (k + 1) y0 y1 y2 y3 y4 y5 y6)) ∧ (∀ y0 y1 y2 y3 y4 y5 y6, LeO (pack_Unpack.l1 k y0 y1 y2 y3 y4 y5 y6) (pack_Unpack.l1 (k + 1) y0 y1 y2 y3 y4 y5 y6))
  | 0 => ⟨fun _ _ _ r h => by simp [pack_Unpack.j0] at h, fun _ _ _ _ _ _ _ r h => by simp [pack_Unpack.l0] at h, fun _ _ _ _ _ _ _ r h => by simp [pack_Unpack.l1] at h⟩
  | k + 1 => by
    obtain ⟨ih0, ih1, ih2⟩ := pack_Unpack.mono_l k
    refine ⟨?_, ?_, ?_⟩
    · intro y0 y1 y2
      unfold pack_Unpack.j0
      repeat' first
      | (with_reducible exact ih0 _ _ _)
      | (with_reducible exact ih1 _ _ _ _ _ _ _)
      | (with_reducible exact ih2 _ _ _ _ _ _ _)
      | (with_reducible exact LeO.refl _)
      | (with_reducible exact LeO.none _)
      | (with_reducible refine LeO.ite ?_ ?_)
      | (with_reducible refine LeO.bind ?_ (fun _ => ?_))
      | exact ih0 _ _ _
      | exact ih1 _ _ _ _ _ _ _
      | exact ih2 _ _ _ _ _ _ _
      | exact LeO.none _
      | refine LeO.ite ?_ ?_
      | refine LeO.bind ?_ (fun _ => ?_)
    · intro y0 y1 y2 y3 y4 y5 y6
      unfold pack_Unpack.l0
      repeat' first
      | (with_reducible exact ih0 _ _ _)
      | (with_reducible exact ih1 _ _ _ _ _ _ _)
      | (with_reducible exact ih2 _ _ _ _ _ _ _)
      | (with_reducible exact LeO.refl _)
      | (with_reducible exact LeO.none _)
      | (with_reducible refine LeO.ite ?_ ?_)
      | (with_reducible refine LeO.bind ?_ (fun _ => ?_))
      | exact ih0 _ _ _
      | exact ih1 _ _ _ _ _ _ _
      | exact ih2 _ _ _ _ _ _ _
      | exact LeO.none _
      | refine LeO.ite ?_ ?_
      | refine LeO.bind ?_ (fun _ => ?_)
    · intro y0 y1 y2 y3 y4 y5 y6
      unfold pack_Unpack.l1
      repeat' first
      | (with_reducible exact ih0 _ _ _)
      | (with_reducible exact ih1 _ _ _ _ _ _ _)
      | (with_reducible exact ih2 _ _ _ _ _ _ _)
      | (with_reducible exact LeO.refl _)
      | (with_reducible exact LeO.none _)
      | (with_reducible refine LeO.ite ?_ ?_)
      | (with_reducible refine LeO.bind ?_ (fun _ => ?_))
      | exact ih0 _ _ _
      | exact ih1 _ _ _ _ _ _ _
      | exact ih2 _ _ _ _ _ _ _
      | exact LeO.none _
      | refine LeO.ite ?_ ?_
      | refine LeO.bind ?_ (fun _ => ?_)
theorem pack_Unpack.mono : ∀ a0 a1 k, LeO (pack_Unpack.f k a0 a1) (pack_Unpack.f (k + 1) a0 a1) := by
  intro a0 a1 k
  obtain ⟨ih0, ih1, ih2⟩ := pack_Unpack.mono_l k
  unfold pack_Unpack.f
  repeat' first
      | (with_reducible exact ih0 _ _ _)
      | (with_reducible exact ih1 _ _ _ _ _ _ _)
      | (with_reducible exact ih2 _ _ _ _ _ _ _)
      | (with_reducible exact LeO.refl _)
      | (with_reducible exact LeO.none _)
      | (with_reducible refine LeO.ite ?_ ?_)
      | (with_reducible refine LeO.bind ?_ (fun _ => ?_))
      | exact ih0 _ _ _
      | exact ih1 _ _ _ _ _ _ _
      | exact ih2 _ _ _ _ _ _ _
      | exact LeO.none _
      | refine LeO.ite ?_ ?_
      | refine LeO.bind ?_ (fun _ => ?_)
set_option maxHeartbeats 8000000 in
set_option maxRecDepth 100000 in
theorem pack_Unpack.calls (k : Nat) (A0 : Option Addr) (c0 : Nat) (l0 : List Int) (a1 : Int) (r1 : List Int) (r2 : Int) (w : World) (hr0 : Kd.C (Kd.int .u16) w A0 l0.length l0) (hc0 : l0.length ≤ c0) (h : pack_Unpack.f k l0 a1 = some (r1, r2)) :
    Calls Try.prog 10 #[.slice A0 l0.length c0, .int .i64 a1] w fun e w' => ∃ v0_ : Value, e = .returned (.tuple #[v0_, .int .i64 r2]) ∧ Kd.R (Kd.int .u8) 5 w' w.heap.size (fun _ => True) v0_ r1 ∧ Below w.heap.size w w' := by
  have HR0 := Aside0.mk hr0
  have HC0 := Aside0.mk hc0
  clear hr0 hc0
  have HB := Aside0.mk (Below.refl w.heap.size w)
  have H : (if a1 < 0 then (pack_Unpack.j0 k l0 a1 true) else ((pack_Bytes.f (l0.length : Int)).bind fun t109 => (pack_Unpack.j0 k l0 a1 (decide (a1 > t109))))) = some (r1, r2) := h
  clear h
  have HC3 := Aside0.mk H
  clear H
  go_enter Try.func10, Try.ntmps10
  go_upto_region 1 with (fail)
  go_cut [11] (fun v11 wc => ∃ (kq : Nat) (x11_2 : Bool), v11 = .bool x11_2 ∧ Aside0 (pack_Unpack.j0 kq l0 a1 x11_2 = some (r1, r2)) ∧ Aside0 (kq ≤ k) ∧ Aside0 (Below w.heap.size w wc))
  case first =>
    have H := HC3.out
    clear HC3
    by_cases c4 : a1 < 0
    · rw [if_pos c4] at H
      have c4b0 : decide (a1 < 0) = true := decide_eq_true c4
      clear c4
      (first | rw [c4b0] | (simp only [i64_w, i32_w]; rw [c4b0]) | skip)
      have H' := Aside0.mk H
      clear H
      go_wp2
      go_meet
      case rel => exact ⟨_, (true), (by first | rfl | (simp; done) | (simp [*]; done)), H', ⟨by first | omega | exact Nat.le_refl _⟩, ⟨by repeat (first | (with_reducible first | exact HB.out | apply below_alloc | apply pw_below_drewN | apply below_drew1) | exact HB.out)⟩⟩
    · rw [if_neg c4] at H
      have c4b0 : decide (a1 < 0) = false := decide_eq_false c4
      clear c4
      (first | rw [c4b0] | (simp only [i64_w, i32_w]; rw [c4b0]) | skip)
      replace H := Option.bind_eq_some_iff.mp H
      obtain ⟨t109, A50, H⟩ := H
      replace H : (pack_Unpack.j0 k l0 a1 (decide (a1 > t109))) = some (r1, r2) := H
      have A5 := Aside0.mk A50
      clear A50
      have H' := Aside0.mk H
      clear H
      go_wp2_with (first | (go_at_call 16; (with_reducible refine (pack_Bytes.calls (l0.length : Int) t109 _ A5.out).mono ?_); rintro e w6 ⟨rfl, hb⟩; have n0_ := Aside0.mk (below_step (by repeat (first | (with_reducible first | exact HB.out | apply below_alloc | apply pw_below_drewN | apply below_drew1) | exact HB.out)) hb); clear HB; have HB := n0_; clear n0_; (try clear hb); (try clear hb2); (try clear hk); (try clear hi)))
      go_meet
      case rel => exact ⟨_, (decide (a1 > t109)), (by first | rfl | (simp; done) | (simp [*]; done)), H', ⟨by first | omega | exact Nat.le_refl _⟩, ⟨by repeat (first | (with_reducible first | exact HB.out | apply below_alloc | apply pw_below_drewN | apply below_drew1) | exact HB.out)⟩⟩
  case rest =>
    clear HC3
    try clear c1
    try clear p2
    try clear c4
    try clear c4b0
    obtain ⟨kq, x11_2, rfl, HA, HJ2, HB⟩ := hcut
    cases kq with
    | zero => exact absurd HA.out (by simp [pack_Unpack.j0])
    | succ kj2 =>
      have H := HA.out
      clear HA
      simp only [pack_Unpack.j0] at H
      by_cases c7 : x11_2 = true
      · subst c7
        have H1 : (some (([] : List Int), 3)) = some (r1, r2) := by rw [if_pos rfl] at H; exact H
        clear H
        have H := H1
        clear H1
        simp only [Option.some.injEq, Prod.mk.injEq] at H
        obtain ⟨rfl, rfl⟩ := H
        go_wp2
        go_ret2
        exact ⟨_, by first | rfl | (simp [errW_none, errW_some] <;> rfl) | (simp [*, errW_none, errW_some] <;> rfl), by first | exact Kd.R_nil _ _ _ _ _ | exact Kd.N_nil _ _ _ _ _ | exact Kd.V_nil _ _ _ _ _ | exact Kd.Q_nil _ _ _ _ _ | exact Kd.S_nil _ _ _ _ _, by repeat (first | (with_reducible first | exact HB.out | apply below_alloc | apply pw_below_drewN | apply below_drew1) | exact HB.out)⟩
      · replace c7 := Bool.eq_false_iff.mpr c7
        subst c7
        have H1 : ((slices_ContainsFunc_uint16_uint16.f l0).bind fun t110 => (if t110 = true then (some (([] : List Int), 1)) else (pack_Unpack.l0 kj2 a1 ([] : List Int) 0 0 l0 (l0.length : Int) 0))) = some (r1, r2) := by rw [if_neg (show ¬ (false = true) by decide)] at H; exact H
        clear H
        have H := H1
        clear H1
        replace H := Option.bind_eq_some_iff.mp H
        obtain ⟨t110, A80, H⟩ := H
        replace H : (if t110 = true then (some (([] : List Int), 1)) else (pack_Unpack.l0 kj2 a1 ([] : List Int) 0 0 l0 (l0.length : Int) 0)) = some (r1, r2) := H
        have A8 := Aside0.mk A80
        clear A80
        by_cases c9 : t110 = true
        · subst c9
          have H1 : (some (([] : List Int), 1)) = some (r1, r2) := by rw [if_pos rfl] at H; exact H
          clear H
          have H := H1
          clear H1
          simp only [Option.some.injEq, Prod.mk.injEq] at H
          obtain ⟨rfl, rfl⟩ := H
          go_wp2_with (first | ((with_reducible refine gate_callee (f := 18) rfl ?_); refine goesL_ (some 23) rfl rfl Try.func18 (by kernel_rfl) rfl #[.slice A0 l0.length c0, .func (.func 19) #[] #[]] rfl (by (try simp only [List.map_toArray, List.map_cons, List.map_nil]); first | done | rfl | (simp only [List.length_drop, List.length_take]; rfl)) ?_; (with_reducible refine (slices_ContainsFunc_uint16_uint16.calls _ _ l0 true _ ?side1 ?side2 A8.out).mono ?_); (case side1 => repeat (first | exact (Kd.C_below HR0.out HB.out) | (with_reducible refine Kd.C_alloc ?_ _) | (with_reducible refine Kd.C_drewN ?_ _) | (with_reducible refine Kd.C_drew ?_))); (case side2 => exact HC0.out); rintro e w' ⟨rfl, ⟨nd, rfl⟩⟩; refine ⟨_, rfl, ?_⟩))
          go_ret2
          exact ⟨_, by first | rfl | (simp [errW_none, errW_some] <;> rfl) | (simp [*, errW_none, errW_some] <;> rfl), by first | exact Kd.R_nil _ _ _ _ _ | exact Kd.N_nil _ _ _ _ _ | exact Kd.V_nil _ _ _ _ _ | exact Kd.Q_nil _ _ _ _ _ | exact Kd.S_nil _ _ _ _ _, by repeat (first | (with_reducible first | exact HB.out | apply below_alloc | apply pw_below_drewN | apply below_drew1) | exact HB.out)⟩
        · replace c9 := Bool.eq_false_iff.mpr c9
          subst c9
          have H1 : (pack_Unpack.l0 kj2 a1 ([] : List Int) 0 0 l0 (l0.length : Int) 0) = some (r1, r2) := by rw [if_neg (show ¬ (false = true) by decide)] at H; exact H
          clear H
          have H := H1
          clear H1
          have H' := Aside0.mk H
          clear H
          go_wp2_with (first | ((with_reducible refine gate_callee (f := 18) rfl ?_); refine goesL_ (some 23) rfl rfl Try.func18 (by kernel_rfl) rfl #[.slice A0 l0.length c0, .func (.func 19) #[] #[]] rfl (by (try simp only [List.map_toArray, List.map_cons, List.map_nil]); first | done | rfl | (simp only [List.length_drop, List.length_take]; rfl)) ?_; (with_reducible refine (slices_ContainsFunc_uint16_uint16.calls _ _ l0 false _ ?side1 ?side2 A8.out).mono ?_); (case side1 => repeat (first | exact (Kd.C_below HR0.out HB.out) | (with_reducible refine Kd.C_alloc ?_ _) | (with_reducible refine Kd.C_drewN ?_ _) | (with_reducible refine Kd.C_drew ?_))); (case side2 => exact HC0.out); rintro e w' ⟨rfl, ⟨nd, rfl⟩⟩; refine ⟨_, rfl, ?_⟩))
          go_loopg [6, 7, 8, 26] kj2 (fun kq v6 v7 v8 v26 w' => ∃ (x6_2 : List Int) (x7_2 : Int) (x8_2 : Int) (x26_2 : Int), v7 = .int .i64 x7_2 ∧ v8 = .int .i64 x8_2 ∧ v26 = .int .i64 x26_2 ∧ Aside0 (pack_Unpack.l0 kq a1 x6_2 x7_2 x8_2 l0 (l0.length : Int) x26_2 = some (r1, r2)) ∧ Aside0 (kq ≤ kj2) ∧ Aside0 (Kd.R (Kd.int .u8) 5 w' w.heap.size (fun _ => True) v6 x6_2) ∧ Aside0 (Below w.heap.size w w'))
          case atStart => exact ⟨(([] : List Int)), (0), (0), (0), (by first | rfl | (simp; done) | (simp [*]; done)), (by first | rfl | (simp; done) | (simp [*]; done)), (by first | rfl | (simp; done) | (simp [*]; done)), H', ⟨Nat.le_refl _⟩, ⟨by first | exact Kd.R_nil _ _ _ _ _ | exact Kd.N_nil _ _ _ _ _ | exact Kd.V_nil _ _ _ _ _ | exact Kd.Q_nil _ _ _ _ _ | exact Kd.S_nil _ _ _ _ _⟩, ⟨by repeat (first | (with_reducible first | exact HB.out | apply below_alloc | apply pw_below_drewN | apply below_drew1) | exact HB.out)⟩⟩
          case round =>
            clear H'
            try clear c1
            try clear p2
            try clear c4
            try clear c4b0
            try clear c7
            try clear c9
            try clear p2
            obtain ⟨x6_2, x7_2, x8_2, x26_2, rfl, rfl, rfl, HA, HK2, HO_6, HB⟩ := hrel
            cases gk with
            | zero => exact absurd HA.out (by simp [pack_Unpack.l0])
            | succ k2 =>
              have H := HA.out
              clear HA
              simp only [pack_Unpack.l0] at H
              by_cases c10 : x26_2 < (l0.length : Int)
              · rw [if_pos c10] at H
                have c10b0 : decide (x26_2 < (l0.length : Int)) = true := decide_eq_true c10
                clear c10
                by_cases c11 : 0 ≤ x26_2
                · rw [if_pos c11] at H
                  have c11b0 : decide (0 ≤ x26_2) = true := decide_eq_true c11
                  clear c11
                  by_cases c12 : x26_2 < (l0.length : Int)
                  · rw [if_pos c12] at H
                    have c12b0 : decide (x26_2 < (l0.length : Int)) = true := decide_eq_true c12
                    clear c12
                    have H' := Aside0.mk H
                    clear H
                    have p111 : 0 ≤ (x26_2 : Int) := of_decide_eq_true (by first | (with_reducible assumption) | assumption)
                    have q111 : x26_2 < (l0.length : Int) := of_decide_eq_true (by first | (with_reducible assumption) | assumption)
                    obtain ⟨ad111, e111, hx111_0⟩ := Kd.at_int HR0.out x26_2 p111 q111
                    cases e111
                    replace hx111_0 := (HB.out.cell (World.block_lt_of_cell? w _ hx111_0)).trans hx111_0
                    replace p111 := eq_true p111
                    replace q111 := eq_true q111
                    go_wp2
                    go_loopg [6, 8] k2 (fun kq v6 v8 w' => ∃ (x6_3 : List Int) (x8_3 : Int), v8 = .int .i64 x8_3 ∧ Aside0 (pack_Unpack.l1 kq a1 x6_3 (Go.bits .or .i64 (wrap64 (x7_2 * 1024)) (wrap64 (rd l0 x26_2))) x8_3 l0 (l0.length : Int) x26_2 = some (r1, r2)) ∧ Aside0 (kq ≤ k2) ∧ Aside0 (Kd.R (Kd.int .u8) 5 w' w.heap.size (fun _ => True) v6 x6_3) ∧ Aside0 (Below w.heap.size w w'))
                    case atStart => exact ⟨(x6_2), (wrap64 (x8_2 + 10)), (by first | rfl | (simp; done) | (simp [*]; done)), H', ⟨Nat.le_refl _⟩, ⟨by (with_reducible repeat (first | apply Kd.R_alloc | apply Kd.R_drewN | apply Kd.R_drew)); exact HO_6.out⟩, ⟨by repeat (first | (with_reducible first | exact HB.out | apply below_alloc | apply pw_below_drewN | apply below_drew1) | exact HB.out)⟩⟩
                    case round =>
                      clear H'
                      try clear c1
                      try clear p1
                      try clear q1
                      try clear hx1
                      try clear p2
                      try clear c4
                      try clear c4b0
                      try clear p6
                      try clear c7
                      try clear c9
                      try clear c10
                      try clear c10b0
                      try clear c11
                      try clear c11b0
                      try clear p11
                      try clear q11
                      try clear hx11
                      try clear c12
                      try clear c12b0
                      try clear hx111_0
                      try clear p111
                      try clear p2
                      try clear q111
                      obtain ⟨x6_3, x8_3, rfl, HA, HK3, HO_6, HB⟩ := hrel
                      cases gk with
                      | zero => exact absurd HA.out (by simp [pack_Unpack.l1])
                      | succ k3 =>
                        have H := HA.out
                        clear HA
                        simp only [pack_Unpack.l1] at H
                        by_cases c13 : x8_3 ≥ 8
                        · rw [if_pos c13] at H
                          have c13b0 : decide (8 ≤ x8_3) = true := decide_eq_true c13
                          clear c13
                          by_cases c14 : (x6_3.length : Int) < a1
                          · rw [if_pos c14] at H
                            have c14b0 : decide ((x6_3.length : Int) < a1) = true := decide_eq_true c14
                            clear c14
                            obtain ⟨ji15, hji15⟩ : ∃ j_ : Int, (wrap64 (x8_3 - 8)) = j_ := ⟨_, rfl⟩
                            replace H : (if 0 ≤ (ji15) then (if x6_3.length < 140737488355328 then (pack_Unpack.l1 k3 a1 (x6_3 ++ [(shr .i64 (Go.bits .or .i64 (wrap64 (x7_2 * 1024)) (wrap64 (rd l0 x26_2))) (ji15)) % 256]) (Go.bits .or .i64 (wrap64 (x7_2 * 1024)) (wrap64 (rd l0 x26_2))) ji15 l0 (l0.length : Int) x26_2) else (none)) else (none)) = some (r1, r2) := by first | (rw [hji15] at H; exact H) | (simp only [hji15] at H ⊢; exact H)
                            have hji15w : (IntKind.i64.wrap (x8_3 - 8)) = ji15 := (i64_w _).trans hji15
                            by_cases c16 : 0 ≤ (ji15)
                            · rw [if_pos c16] at H
                              have c16b0 := eq_true c16
                              have c16b1 : decide (0 ≤ (ji15)) = true := decide_eq_true c16
                              clear c16
                              obtain ⟨ji17, hji17⟩ : ∃ j_ : Int, (shr .i64 (Go.bits .or .i64 (wrap64 (x7_2 * 1024)) (wrap64 (rd l0 x26_2))) (ji15)) = j_ := ⟨_, rfl⟩
                              replace H : (if x6_3.length < 140737488355328 then (pack_Unpack.l1 k3 a1 (x6_3 ++ [(ji17) % 256]) (Go.bits .or .i64 (wrap64 (x7_2 * 1024)) (wrap64 (rd l0 x26_2))) ji15 l0 (l0.length : Int) x26_2) else (none)) = some (r1, r2) := by first | (rw [hji17] at H; exact H) | (simp only [hji17] at H ⊢; exact H)
                              have hji17_ : ((Go.bits .or .i64 (wrap64 (x7_2 * 1024)) (wrap64 (rd l0 x26_2))) / 2 ^ min (ji15).toNat 64) = ji17 := hji17
                              have hji17z : (ji15) ≤ 64 → ((Go.bits .or .i64 (wrap64 (x7_2 * 1024)) (wrap64 (rd l0 x26_2))) / 2 ^ (ji15).toNat) = ji17 := shr_small hji17
                              by_cases c18 : x6_3.length < 140737488355328
                              · rw [if_pos c18] at H
                                have LMc18 := Aside0.mk c18
                                clear c18
                                obtain ⟨y112, hy112⟩ : ∃ y_ : List Int, y_ = (x6_3 ++ [(ji17) % 256]) := ⟨_, rfl⟩
                                replace H : (pack_Unpack.l1 k3 a1 y112 (Go.bits .or .i64 (wrap64 (x7_2 * 1024)) (wrap64 (rd l0 x26_2))) ji15 l0 (l0.length : Int) x26_2) = some (r1, r2) := by first | (rw [hy112]; with_reducible exact H) | (have H2_ := (Option.bind_some _ _).symm.trans H; rw [hy112]; with_reducible exact H2_) | (have H2_ := (Option.bind_some _ _).symm.trans H; with_reducible exact H2_) | with_reducible exact H | (rw [hy112]; exact H) | exact H
                                have Ny112 := Aside0.mk hy112
                                clear hy112
                                have H' := Aside0.mk H
                                clear H
                                obtain ⟨Ao19, co19, eo19⟩ := Kd.R_slice HO_6.out
                                subst eo19
                                go_wp2_with (first | ((with_reducible refine gate_builtin (b := .append) (xs := #[.tmp 47, .tmp 52]) rfl ?_); (try (refine gate_guard (by rfl) ?_; dsimp only)); at_builtin; refine Kd.R_append (Kd.int .u8) (w0 := w) w.heap.size rfl (.tmp 47) (.tmp 52) 22 5 (.int .u8 0) 1 rfl Try.underlying22 info5 rfl (by decide) (by omega) (.slice Ao19 x6_3.length co19) x6_3 ((ji17) % 256) [.int .u8 ((ji17) % 256)] (fun _ => True) (fun _ => False) rfl rfl ?aP (fun _ hk => hk.elim) ?aF ?aO ?aB ?aS ?aL ?_; (case aP => exact rfl); (case aB => exact (by repeat (first | (with_reducible first | exact HB.out | apply below_alloc | apply pw_below_drewN | apply below_drew1) | exact HB.out))); (case aF => exact (fun _ _ => trivial)); (case aO => exact (by (with_reducible repeat (first | apply Kd.R_alloc | apply Kd.R_drewN | apply Kd.R_drew)); exact HO_6.out)); (case aS => exact (below_size (by repeat (first | (with_reducible first | exact HB.out | apply below_alloc | apply pw_below_drewN | apply below_drew1) | exact HB.out)))); (case aL => have := LMc18.out; omega); intro v113 w20 ho hb hg hat; rw [← Ny112.out] at ho; have n0_ := Aside0.mk (hb); have n1_ := Aside0.mk (ho); clear HB; clear HO_6; have HB := n0_; have HO114 := n1_; clear n0_ n1_; clear ho hb hg hat))
                                go_roundg k3
                                case measure => have := HJ2.out; have := HK2.out; have := HK3.out; omega
                                case rel => exact ⟨(y112), (ji15), (by first | rfl | (rw [shl_cap]) | (simp; done) | (simp only [← hji15] <;> (first | rfl | (simp; done) | (unfold mn; simp; done) | (unfold mx; simp; done))) | (simp [*]; done)), H', ⟨by have := HJ2.out; have := HK2.out; have := HK3.out; omega⟩, ⟨by (with_reducible repeat (first | apply Kd.R_alloc | apply Kd.R_drewN | apply Kd.R_drew)); exact HO114.out⟩, ⟨by repeat (first | (with_reducible first | exact HB.out | apply below_alloc | apply pw_below_drewN | apply below_drew1) | exact HB.out)⟩⟩
                              · rw [if_neg c18] at H
                                exact absurd H (by simp)
                            · rw [if_neg c16] at H
                              exact absurd H (by simp)
                          · rw [if_neg c14] at H
                            have c14b0 : decide ((x6_3.length : Int) < a1) = false := decide_eq_false c14
                            clear c14
                            obtain ⟨ji21, hji21⟩ : ∃ j_ : Int, (mn x8_3 18) = j_ := ⟨_, rfl⟩
                            replace H : (if 0 ≤ (ji21) then (pack_Unpack.l0 k3 a1 x6_3 (Go.bits .and .i64 (Go.bits .or .i64 (wrap64 (x7_2 * 1024)) (wrap64 (rd l0 x26_2))) (wrap64 ((wrap64 (2 ^ (ji21).toNat)) - 1))) ji21 l0 (l0.length : Int) (wrap64 (x26_2 + 1))) else (none)) = some (r1, r2) := by first | (rw [hji21] at H; exact H) | (simp only [hji21] at H ⊢; exact H)
                            have hji21_ : (if 18 < x8_3 then 18 else x8_3) = ji21 := hji21
                            by_cases c22 : 0 ≤ (ji21)
                            · rw [if_pos c22] at H
                              have c22b0 := eq_true c22
                              have c22b1 : decide (0 ≤ (ji21)) = true := decide_eq_true c22
                              clear c22
                              have c23b0 := eq_true (of_decide_eq_true (by first | (with_reducible assumption) | assumption) : 0 ≤ (ji21))
                              have H' := Aside0.mk H
                              clear H
                              obtain ⟨Ao24, co24, eo24⟩ := Kd.R_slice HO_6.out
                              subst eo24
                              go_wp2
                              go_roundg k3
                              case measure => have := HJ2.out; have := HK2.out; have := HK3.out; omega
                              case rel => exact ⟨(x6_3), (Go.bits .and .i64 (Go.bits .or .i64 (wrap64 (x7_2 * 1024)) (wrap64 (rd l0 x26_2))) (wrap64 ((wrap64 (2 ^ (ji21).toNat)) - 1))), (ji21), (wrap64 (x26_2 + 1)), (by first | rfl | (rw [shl_cap]) | (simp; done) | (simp only [← hji21] <;> (first | rfl | (simp; done) | (unfold mn; simp; done) | (unfold mx; simp; done))) | (simp [*]; done)), (by first | rfl | (rw [shl_cap]) | (simp; done) | (simp only [← hji21] <;> (first | rfl | (simp; done) | (unfold mn; simp; done) | (unfold mx; simp; done))) | (simp [*]; done)), (by first | rfl | (simp; done) | (simp [*]; done)), H', ⟨by have := HJ2.out; have := HK2.out; have := HK3.out; omega⟩, ⟨by (with_reducible repeat (first | apply Kd.R_alloc | apply Kd.R_drewN | apply Kd.R_drew)); exact HO_6.out⟩, ⟨by repeat (first | (with_reducible first | exact HB.out | apply below_alloc | apply pw_below_drewN | apply below_drew1) | exact HB.out)⟩⟩
                            · rw [if_neg c22] at H
                              exact absurd H (by simp)
                        · rw [if_neg c13] at H
                          have c13b0 : decide (8 ≤ x8_3) = false := decide_eq_false c13
                          clear c13
                          obtain ⟨ji25, hji25⟩ : ∃ j_ : Int, (mn x8_3 18) = j_ := ⟨_, rfl⟩
                          replace H : (if 0 ≤ (ji25) then (pack_Unpack.l0 k3 a1 x6_3 (Go.bits .and .i64 (Go.bits .or .i64 (wrap64 (x7_2 * 1024)) (wrap64 (rd l0 x26_2))) (wrap64 ((wrap64 (2 ^ (ji25).toNat)) - 1))) ji25 l0 (l0.length : Int) (wrap64 (x26_2 + 1))) else (none)) = some (r1, r2) := by first | (rw [hji25] at H; exact H) | (simp only [hji25] at H ⊢; exact H)
                          have hji25_ : (if 18 < x8_3 then 18 else x8_3) = ji25 := hji25
                          by_cases c26 : 0 ≤ (ji25)
                          · rw [if_pos c26] at H
                            have c26b0 := eq_true c26
                            have c26b1 : decide (0 ≤ (ji25)) = true := decide_eq_true c26
                            clear c26
                            have c27b0 := eq_true (of_decide_eq_true (by first | (with_reducible assumption) | assumption) : 0 ≤ (ji25))
                            have H' := Aside0.mk H
                            clear H
                            go_wp2
                            go_roundg k3
                            case measure => have := HJ2.out; have := HK2.out; have := HK3.out; omega
                            case rel => exact ⟨(x6_3), (Go.bits .and .i64 (Go.bits .or .i64 (wrap64 (x7_2 * 1024)) (wrap64 (rd l0 x26_2))) (wrap64 ((wrap64 (2 ^ (ji25).toNat)) - 1))), (ji25), (wrap64 (x26_2 + 1)), (by first | rfl | (rw [shl_cap]) | (simp; done) | (simp only [← hji25] <;> (first | rfl | (simp; done) | (unfold mn; simp; done) | (unfold mx; simp; done))) | (simp [*]; done)), (by first | rfl | (rw [shl_cap]) | (simp; done) | (simp only [← hji25] <;> (first | rfl | (simp; done) | (unfold mn; simp; done) | (unfold mx; simp; done))) | (simp [*]; done)), (by first | rfl | (simp; done) | (simp [*]; done)), H', ⟨by have := HJ2.out; have := HK2.out; have := HK3.out; omega⟩, ⟨by (with_reducible repeat (first | apply Kd.R_alloc | apply Kd.R_drewN | apply Kd.R_drew)); exact HO_6.out⟩, ⟨by repeat (first | (with_reducible first | exact HB.out | apply below_alloc | apply pw_below_drewN | apply below_drew1) | exact HB.out)⟩⟩
                          · rw [if_neg c26] at H
                            exact absurd H (by simp)
                  · rw [if_neg c12] at H
                    exact absurd H (by simp)
                · rw [if_neg c11] at H
                  exact absurd H (by simp)
              · rw [if_neg c10] at H
                have c10b0 : decide (x26_2 < (l0.length : Int)) = false := decide_eq_false c10
                clear c10
                simp only [Option.some.injEq, Prod.mk.injEq] at H
                obtain ⟨rfl, rfl⟩ := H
                go_wp2
                go_ret2
                exact ⟨_, by first | rfl | (simp [errW_none, errW_some] <;> rfl) | (simp [*, errW_none, errW_some] <;> rfl), by (with_reducible repeat (first | apply Kd.R_alloc | apply Kd.R_drewN | apply Kd.R_drew)); exact HO_6.out, by repeat (first | (with_reducible first | exact HB.out | apply below_alloc | apply pw_below_drewN | apply below_drew1) | exact HB.out)⟩

/-! ### pack_Symbols: function 14 -/
def pack_Symbols.f (a0 : Int) : Option (Int) := (pack_within.f a0).bind fun t115 => (some (wrap64 (Int.tdiv (wrap64 ((wrap64 ((wrap64 (t115 * 8)) + 10)) - 1)) 10)))
set_option maxHeartbeats 8000000 in
set_option maxRecDepth 100000 in
theorem pack_Symbols.calls (a0 : Int) (r : Int) (w : World) (h : pack_Symbols.f a0 = some r) :
    Calls Try.prog 14 #[.int .i64 a0] w fun e w' => e = .returned (.int .i64 r) ∧ Below w.heap.size w w' := by
  have HB := Aside0.mk (Below.refl w.heap.size w)
  have H : ((pack_within.f a0).bind fun t115 => (some (wrap64 (Int.tdiv (wrap64 ((wrap64 ((wrap64 (t115 * 8)) + 10)) - 1)) 10)))) = some r := h
  clear h
  replace H := Option.bind_eq_some_iff.mp H
  obtain ⟨t115, A20, H⟩ := H
  replace H : (some (wrap64 (Int.tdiv (wrap64 ((wrap64 ((wrap64 (t115 * 8)) + 10)) - 1)) 10))) = some r := H
  have A2 := Aside0.mk A20
  clear A20
  obtain rfl := Option.some.inj H
  go_enter Try.func14, Try.ntmps14
  go_wp2_with (first | ((with_reducible refine gate_callee (f := 21) rfl ?_); refine goesL_ (some 4) rfl rfl Try.func21 (by kernel_rfl) rfl #[.int .i64 a0] rfl (by (try simp only [List.map_toArray, List.map_cons, List.map_nil]); first | done | rfl | (simp only [List.length_drop, List.length_take]; rfl)) ?_; (with_reducible refine (pack_within.calls a0 t115 _ A2.out).mono ?_); rintro e w3 ⟨rfl, hb⟩; refine ⟨_, rfl, ?_⟩; have n0_ := Aside0.mk (below_step (by repeat (first | (with_reducible first | exact HB.out | apply below_alloc | apply pw_below_drewN | apply below_drew1) | exact HB.out)) hb); clear HB; have HB := n0_; clear n0_; (try clear hb); (try clear hb2); (try clear hk); (try clear hi)))
  go_ret
  exact ⟨by first | rfl | (simp [errW_none, errW_some] <;> rfl) | (simp [*, errW_none, errW_some] <;> rfl), by repeat (first | (with_reducible first | exact HB.out | apply below_alloc | apply pw_below_drewN | apply below_drew1) | exact HB.out)⟩

end Go.Proofs.Ytdgpondnogpolaa.M
