/- Geometries: May and Cells, the document's and the program's; Small of no deeds; by hand. -/
import Derived.Test.YtmddafefdleimaaV
import Derived.WalkKit
import Derived.WalkArith
import Derived.BigQuiet
import Derived.Deep.QuietTactic
namespace Go.Proofs.Ytmddafefdleimaa.M
open Go.RowKit Go.Proofs.YtmddafefdleimaaW.PrintWords Go.Proofs.YtmddafefdleimaaW.PrintLast Go.Proofs.YtmddafefdleimaaW.PrintMore Go.Proofs.Ytmddafefdleimaa.Rw Go.Proofs.Ytmddafefdleimaa.Fl
set_option linter.unusedVariables false
set_option linter.unusedSimpArgs false
abbrev geoV (a b c d : Int) : Value := .agg #[.int .i64 a, .int .i64 b, .int .i64 c, .int .i64 d]
structure MayG (a b c d : Int) : Prop where
  a0 : 4 ≤ a
  a1 : a ≤ 64
  b0 : 2 ≤ b
  b1 : b ≤ 32
  c0 : 1 ≤ c
  c1 : c ≤ 4
  d0 : 1 ≤ d
  d1 : d ≤ 64
  cd : 8 < c * d
theorem wrap_i64_small (n : Int) (h0 : 0 ≤ n) (h1 : n < 2 ^ 40) : IntKind.i64.wrap n = n := by
  rw [show (2 : Int) ^ 40 = 1099511627776 from rfl] at h1
  rw [IntKind.wrap_i64]; omega
theorem mul_4 {c d : Int} (c0 : 1 ≤ c) (c1 : c ≤ 4) (d0 : 1 ≤ d) (d1 : d ≤ 80) : 1 ≤ c * d ∧ c * d ≤ 320 := by
  rcases (by omega : c = 1 ∨ c = 2 ∨ c = 3 ∨ c = 4) with rfl | rfl | rfl | rfl <;> constructor <;> omega
section
variable {a b c d : Int}
set_option maxHeartbeats 1600000 in
theorem refMayC (w : World) (r : Bool) (hr : MayG a b c d ↔ r = true) : Calls Try.prog 9 #[geoV a b c d] w fun e w' => e = .returned (.bool r) ∧ Aside0 (Below w.heap.size w w') := by
  have HR := Aside0.mk hr
  clear hr
  have hno : ¬ MayG a b c d → r = false := fun h => by cases hh : r with
    | false => rfl
    | true => exact absurd (HR.out.2 hh) h
  have HNo := Aside0.mk hno
  have HB := Aside0.mk (below_alloc (Below.refl w.heap.size w) (.cells #[.int .i64 a, .int .i64 b, .int .i64 c, .int .i64 d] 23 (0, 0)))
  clear hno
  unfold geoV
  by_cases h1 : 4 ≤ a
  · by_cases h2 : a ≤ 64
    · by_cases h3 : 2 ≤ b
      · by_cases h4 : b ≤ 32
        · by_cases h5 : 1 ≤ c
          · by_cases h6 : c ≤ 4
            · by_cases h7 : 1 ≤ d
              · by_cases h8 : d ≤ 64
                · have hm := mul_4 h5 h6 h7 (by omega)
                  obtain ⟨m, hcd⟩ : ∃ m, c * d = m := ⟨_, rfl⟩
                  have HM := Aside0.mk hcd
                  rw [hcd] at hm
                  by_cases h9 : 8 < m
                  · have hrt := HR.out.1 ⟨h1, h2, h3, h4, h5, h6, h7, h8, by rw [hcd]; exact h9⟩
                    subst hrt
                    go_enter Try.func9, Try.ntmps9
                    go_wp2
                    go_ret
                    exact ⟨rfl, HB⟩
                  · have hrf := HNo.out (fun h => h9 (by have := h.cd; rwa [HM.out] at this))
                    subst hrf
                    go_enter Try.func9, Try.ntmps9
                    go_wp2
                    go_ret
                    exact ⟨rfl, HB⟩
                · have hrf := HNo.out (fun h => h8 h.d1)
                  subst hrf
                  go_enter Try.func9, Try.ntmps9
                  go_wp2
                  go_ret
                  exact ⟨rfl, HB⟩
              · have hrf := HNo.out (fun h => h7 h.d0)
                subst hrf
                go_enter Try.func9, Try.ntmps9
                go_wp2
                go_ret
                exact ⟨rfl, HB⟩
            · have hrf := HNo.out (fun h => h6 h.c1)
              subst hrf
              go_enter Try.func9, Try.ntmps9
              go_wp2
              go_ret
              exact ⟨rfl, HB⟩
          · have hrf := HNo.out (fun h => h5 h.c0)
            subst hrf
            go_enter Try.func9, Try.ntmps9
            go_wp2
            go_ret
            exact ⟨rfl, HB⟩
        · have hrf := HNo.out (fun h => h4 h.b1)
          subst hrf
          go_enter Try.func9, Try.ntmps9
          go_wp2
          go_ret
          exact ⟨rfl, HB⟩
      · have hrf := HNo.out (fun h => h3 h.b0)
        subst hrf
        go_enter Try.func9, Try.ntmps9
        go_wp2
        go_ret
        exact ⟨rfl, HB⟩
    · have hrf := HNo.out (fun h => h2 h.a1)
      subst hrf
      go_enter Try.func9, Try.ntmps9
      go_wp2
      go_ret
      exact ⟨rfl, HB⟩
  · have hrf := HNo.out (fun h => h1 h.a0)
    subst hrf
    go_enter Try.func9, Try.ntmps9
    go_wp2
    go_ret
    exact ⟨rfl, HB⟩
set_option maxHeartbeats 1600000 in
theorem refCellsC (w : World) (h : MayG a b c d) (n : Int) (hn : c * (d + 16) = n) : Calls Try.prog 12 #[geoV a b c d] w fun e w' => e = .returned (.int .i64 n) ∧ Aside0 (Below w.heap.size w w') := by
  have HM := Aside0.mk (refMayC (a := a) (b := b) (c := c) (d := d) (w.alloc (.cells #[.int .i64 a, .int .i64 b, .int .i64 c, .int .i64 d] 23 (0, 0))) true ⟨fun _ => rfl, fun _ => h⟩)
  have HB := Aside0.mk (below_alloc (Below.refl w.heap.size w) (.cells #[.int .i64 a, .int .i64 b, .int .i64 c, .int .i64 d] 23 (0, 0)))
  have HN := Aside0.mk (blk_new w (.cells #[.int .i64 a, .int .i64 b, .int .i64 c, .int .i64 d] 23 (0, 0)))
  have h1 := h.c0
  have h2 := h.c1
  have h3 := h.d0
  have h4 := h.d1
  have hm := mul_4 h1 h2 (show 1 ≤ d + 16 by omega) (by omega)
  rw [hn] at hm
  clear h
  unfold geoV at HM ⊢
  go_enter Try.func12, Try.ntmps12
  go_wp2_with (first | (go_at_call 9; (refine HM.out.mono ?_); rintro e w2 ⟨rfl, HB2⟩; have hblk := HB2.out.block w.heap.size (blk_lt HN.out); have hb := hblk.trans HN.out; have d2 := (blk_cell hb 2).trans rfl; have d3 := (blk_cell hb 3).trans rfl; have HB3 := Aside0.mk (below_step HB.out HB2.out); clear hblk hb))
  go_ret
  exact ⟨rfl, HB3⟩
end
section
variable {a b c d : Int}
theorem withinC (x l m : Int) (w : World) (r : Bool) (h1 : l ≤ x) (h2 : x ≤ m) : Calls Try.prog 47 #[.int .i64 x, .int .i64 l, .int .i64 m] w fun e w' => e = .returned (.bool true) ∧ w' = w := by
  go_enter Try.func47, Try.ntmps47
  go_wp2
  go_ret
  exact ⟨rfl, rfl⟩
set_option maxHeartbeats 1600000 in
theorem mayC (w : World) (h : MayG a b c d) : Calls Try.prog 26 #[geoV a b c d] w fun e w' => e = .returned (.bool true) ∧ Aside0 (Below w.heap.size w w') := by
  have HB := Aside0.mk (below_alloc (Below.refl w.heap.size w) (.cells #[.int .i64 a, .int .i64 b, .int .i64 c, .int .i64 d] 23 (0, 0)))
  obtain ⟨h1, h2, h3, h4, h5, h6, h7, h8, h9⟩ := h
  obtain ⟨m, hcd⟩ : ∃ m, c * d = m := ⟨_, rfl⟩
  have hm := mul_4 h5 h6 h7 (by omega)
  rw [hcd] at h9 hm
  unfold geoV
  go_enter Try.func26, Try.ntmps26
  go_wp2_with (first
    | (go_at_call 47; (with_reducible refine (withinC a 4 64 _ true h1 h2).mono ?_); rintro e w2 ⟨rfl, hw⟩; obtain rfl := hw.symm)
    | (go_at_call 47; (with_reducible refine (withinC b 2 32 _ true h3 h4).mono ?_); rintro e w2 ⟨rfl, hw⟩; obtain rfl := hw.symm)
    | (go_at_call 47; (with_reducible refine (withinC c 1 4 _ true h5 h6).mono ?_); rintro e w2 ⟨rfl, hw⟩; obtain rfl := hw.symm)
    | (go_at_call 47; (with_reducible refine (withinC d 1 64 _ true h7 h8).mono ?_); rintro e w2 ⟨rfl, hw⟩; obtain rfl := hw.symm))
  go_ret
  exact ⟨rfl, HB⟩
set_option maxHeartbeats 1600000 in
theorem cellsC (w : World) (h : MayG a b c d) (n : Int) (hn : c * (d + 16) = n) : Calls Try.prog 28 #[geoV a b c d] w fun e w' => e = .returned (.int .i64 n) ∧ Aside0 (Below w.heap.size w w') := by
  have HM := Aside0.mk (mayC (a := a) (b := b) (c := c) (d := d) (w.alloc (.cells #[.int .i64 a, .int .i64 b, .int .i64 c, .int .i64 d] 23 (0, 0))) h)
  have HB := Aside0.mk (below_alloc (Below.refl w.heap.size w) (.cells #[.int .i64 a, .int .i64 b, .int .i64 c, .int .i64 d] 23 (0, 0)))
  have HN := Aside0.mk (blk_new w (.cells #[.int .i64 a, .int .i64 b, .int .i64 c, .int .i64 d] 23 (0, 0)))
  have h1 := h.c0
  have h2 := h.c1
  have h3 := h.d0
  have h4 := h.d1
  have hm := mul_4 h1 h2 (show 1 ≤ d + 16 by omega) (by omega)
  rw [hn] at hm
  clear h
  unfold geoV at HM ⊢
  go_enter Try.func28, Try.ntmps28
  go_wp2_with (first | (go_at_call 26; (refine HM.out.mono ?_); rintro e w2 ⟨rfl, HB2⟩; have hblk := HB2.out.block w.heap.size (blk_lt HN.out); have hb := hblk.trans HN.out; have d2 := (blk_cell hb 2).trans rfl; have d3 := (blk_cell hb 3).trans rfl; have HB3 := Aside0.mk (below_step HB.out HB2.out); clear hblk hb))
  go_ret
  exact ⟨rfl, HB3⟩
theorem room (h : MayG a b c d) : 8 ≤ a * b ∧ a * b ≤ 2048 ∧ 17 ≤ c * (d + 16) ∧ c * (d + 16) ≤ 320 ∧ 0 ≤ a * b * (c * (d + 16)) ∧ a * b * (c * (d + 16)) ≤ 655360 := by
  have e1 : 4 * 2 ≤ a * b := Int.mul_le_mul h.a0 h.b0 (by decide) (by have := h.a0; omega)
  have e2 : a * b ≤ 64 * 32 := Int.mul_le_mul h.a1 h.b1 (by have := h.b0; omega) (by decide)
  have e3 := mul_4 h.c0 h.c1 (show 1 ≤ d + 16 by have := h.d0; omega) (by have := h.d1; omega)
  have e4 : 17 ≤ c * (d + 16) := by
    have : 1 * 17 ≤ c * (d + 16) := Int.mul_le_mul h.c0 (by have := h.d0; omega) (by decide) (by have := h.c0; omega)
    omega
  have e5 : a * b * (c * (d + 16)) ≤ 2048 * 320 := Int.mul_le_mul (by omega) e3.2 (by omega) (by decide)
  have e6 : 0 ≤ a * b * (c * (d + 16)) := Int.mul_nonneg (by omega) (by omega)
  omega
set_option maxHeartbeats 1600000 in
theorem smallC (w : World) (h : MayG a b c d) (r : Bool) (hr : decide (a * b * (c * (d + 16)) ≤ 20000) = r) : Calls Try.prog 10 #[geoV a b c d, .slice none 0 0] w fun e w' => e = .returned (.bool r) ∧ Aside0 (Below w.heap.size w w') := by
  obtain ⟨r1, r2, r3, r4, r5, r6⟩ := room h
  obtain ⟨n, hn⟩ : ∃ n, c * (d + 16) = n := ⟨_, rfl⟩
  rw [hn] at hr r3 r4 r5 r6
  have HM := fun (W : World) => refMayC (a := a) (b := b) (c := c) (d := d) W true ⟨fun _ => rfl, fun _ => h⟩
  have HC := fun (W : World) => refCellsC W h n hn
  obtain ⟨p, hp⟩ : ∃ p, a * b = p := ⟨_, rfl⟩
  rw [hp] at hr r1 r2 r5 r6
  obtain ⟨q, hq⟩ : ∃ q, p * n = q := ⟨_, rfl⟩
  rw [hq] at hr r5 r6
  have HB := Aside0.mk (below_alloc (Below.refl w.heap.size w) (.cells #[.int .i64 a, .int .i64 b, .int .i64 c, .int .i64 d] 23 (0, 0)))
  have HHM := Aside0.mk HM
  have HHC := Aside0.mk HC
  clear h HM HC
  have hwp : IntKind.i64.wrap p = p := wrap_i64_small p (by omega) (by omega)
  have hwq : IntKind.i64.wrap q = q := wrap_i64_small q (by omega) (by omega)
  unfold geoV at HHM HHC ⊢
  subst hr
  go_enter Try.func10, Try.ntmps10
  go_wp2
  have HN := Aside0.mk (blk_new w (.cells #[.int .i64 a, .int .i64 b, .int .i64 c, .int .i64 d] 23 (0, 0)))
  obtain ⟨g, hg⟩ : ∃ g, w.heap.size = g := ⟨_, rfl⟩
  rw [hg] at HN ⊢
  clear hg
  obtain ⟨W, hW⟩ : ∃ W, (w.alloc (.cells #[.int .i64 a, .int .i64 b, .int .i64 c, .int .i64 d] 23 (0, 0))) = W := ⟨_, rfl⟩
  rw [hW] at HN HB ⊢
  have d0 := (blk_cell HN.out 0).trans rfl
  have d1 := (blk_cell HN.out 1).trans rfl
  have d2 := (blk_cell HN.out 2).trans rfl
  have d3 := (blk_cell HN.out 3).trans rfl
  go_loopw [5, 6] (fun v5 v6 wr => v5 = .int .i64 0 ∧ v6 = .int .i64 0 ∧ wr = W) (fun _ _ _ => 0)
  case atStart => exact ⟨rfl, rfl, rfl⟩
  case round =>
    obtain ⟨rfl, rfl, rfl⟩ := hrel
    go_wp2
    go_region_held3 (fun W' => W'.cell? ⟨g, 0, none⟩ = some (.int .i64 a) ∧ W'.cell? ⟨g, 1, none⟩ = some (.int .i64 b) ∧ W'.cell? ⟨g, 2, none⟩ = some (.int .i64 c) ∧ W'.cell? ⟨g, 3, none⟩ = some (.int .i64 d))
      (first | go_keep | exact hc3 | exact hc4)
      (first
      | (go_at_call 9; (refine (HHM.out _).mono ?_); rintro e w2 ⟨rfl, HB2⟩; have HN2 := Aside0.mk (blk_below (blk_drew HN.out) HB2.out); have HB3 := Aside0.mk (below_step HB.out.drew HB2.out); have hc3 : w2.cell? ⟨g, 0, none⟩ = some (.int .i64 a) ∧ w2.cell? ⟨g, 1, none⟩ = some (.int .i64 b) ∧ w2.cell? ⟨g, 2, none⟩ = some (.int .i64 c) ∧ w2.cell? ⟨g, 3, none⟩ = some (.int .i64 d) := ⟨(blk_cell HN2.out 0).trans rfl, (blk_cell HN2.out 1).trans rfl, (blk_cell HN2.out 2).trans rfl, (blk_cell HN2.out 3).trans rfl⟩)
      | (go_at_call 12; (refine (HHC.out _).mono ?_); rintro e w3 ⟨rfl, HB4⟩; have HN3 := Aside0.mk (blk_below HN2.out HB4.out); have HB5 := Aside0.mk (below_step HB3.out HB4.out); have hc4 : w3.cell? ⟨g, 0, none⟩ = some (.int .i64 a) ∧ w3.cell? ⟨g, 1, none⟩ = some (.int .i64 b) ∧ w3.cell? ⟨g, 2, none⟩ = some (.int .i64 c) ∧ w3.cell? ⟨g, 3, none⟩ = some (.int .i64 d) := ⟨(blk_cell HN3.out 0).trans rfl, (blk_cell HN3.out 1).trans rfl, (blk_cell HN3.out 2).trans rfl, (blk_cell HN3.out 3).trans rfl⟩)
      | fail)
    all_goals (
      go_wp2
      go_ret
      exact ⟨rfl, HB5⟩)
end
end Go.Proofs.Ytmddafefdleimaa.M
