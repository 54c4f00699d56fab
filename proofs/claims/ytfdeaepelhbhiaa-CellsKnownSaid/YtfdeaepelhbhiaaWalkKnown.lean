/- The walk of CellsKnown: cells by hand: pages in part do not move; what comes to nought is wrong; how far one may go. -/
import Derived.Test.YtfdeaepelhbhiaaWalkMove
namespace Go.Proofs.Ytfdeaepelhbhiaa.M
open Go.RowKit Go.Proofs.YtfdeaepelhbhiaaW.PrintWords Go.Proofs.YtfdeaepelhbhiaaW.PrintLast Go.Proofs.YtfdeaepelhbhiaaW.PrintMore Go.Proofs.Ytfdeaepelhbhiaa.Rw Go.Proofs.Ytfdeaepelhbhiaa.Fl
set_option linter.unusedVariables false
set_option linter.unusedSimpArgs false
section
variable {w0 w W W1 : World} {base g b q : Nat} {P : Pts} {S xs : List Int} {st : Int} {sv : Value}
/-- half a step -/
theorem movedHalf (w : World) : Calls Try.prog 22 #[.float .f64 0, .float .f64 4602678819172646912] w fun o w' => o = .returned (.tuple #[.float .f64 4602678819172646912, .bool false]) ∧ w' = w := by
  have ka : ∀ t w, (binOp .add t (.float .f64 0) (.float .f64 4602678819172646912)).run Try.prog w = .ok (.float .f64 4602678819172646912) w := fun t w => run_float_arith w .add t .f64 _ _ _ (by decide +kernel)
  have o1 : FloatKind.f64.format.order 4602678819172646912 13857294578442305536 = some .gt := by decide +kernel
  have o2 : FloatKind.f64.format.order 4602678819172646912 4633922541587529728 = some .lt := by decide +kernel
  have o3 : FloatKind.f64.format.order 0 4602678819172646912 = some .lt := by decide +kernel
  have HT : Aside0 (∀ w, Calls Try.prog 28 #[.float .f64 4602678819172646912] w fun o w' => o = .returned (.float .f64 0) ∧ w' = w) := ⟨fun w => by
    have h27 := @run_callFunc_extern Try.prog 31 _ (Extern.MathFloor.toIntegral "math.archTrunc" .zero) Try.func31 (by kernel_rfl) (by kernel_rfl) (by kernel_rfl) (by kernel_rfl)
    have hr : ∀ w, (Extern.MathFloor.toIntegral "math.archTrunc" .zero #[.float .f64 4602678819172646912]).run Try.prog w = .ok (.float .f64 0) w := by
      intro w
      rw [archFloor_num "math.archTrunc" .zero (s := false) (m := 2 ^ 52) (i := -53) (by decide +kernel), show Ieee.double.write ((Ieee.double.read 4602678819172646912).integral .zero) = 0 from by decide +kernel]
    go_enter Try.func28, Try.ntmps28
    go_wp2
    go_ret
    exact ⟨rfl, rfl⟩⟩
  go_enter Try.func22, Try.ntmps22
  go_wp2_with (first | (go_at_call 28; (refine (HT.out _).mono ?_); rintro o w2 ⟨rfl, hw⟩; obtain rfl := hw.symm) | simp only [ka])
  go_ret2
  exact ⟨rfl, rfl⟩
theorem driftHalf (hc : Cw w0 w g b P S 1) (hp : 0 < P.length) (h0 : P.getD 0 (0, 0) = (0, 0)) : Calls Try.prog 11 #[.pointer (some ⟨g, 0, none⟩), .int .i64 0, .complex .f64 4602678819172646912 0] w fun e w' => e = .returned (.bool false) ∧ w' = w := by
  obtain ⟨⟨sv, h⟩, _⟩ := hc
  obtain ⟨c0, c1, c2⟩ := h.cells
  have cp := h.hb.cell hp
  have cf := h.hb.frozen 0
  have hle := h.le
  rw [h0, ptV_zero] at cp
  have HM1 := Aside0.mk movedHalf
  have hm2 := movedC (x := 0) (u := 0) (by decide) (by decide)
  rw [fd_zero, show (0 : Int) + 0 = 0 from rfl, fd_zero] at hm2
  have HM2 := Aside0.mk hm2
  have hil : (0 : Int) < (P.length : Int) := by omega
  clear h h0 hm2
  generalize P.length = n at *
  generalize mayMove 0 0 = mm at *
  go_enter Try.func11, Try.ntmps11
  go_wp2_with (first | (go_at_call 22; (first | (with_reducible refine (HM1.out _).mono ?_; rintro o w2 ⟨rfl, hw⟩; obtain rfl := hw.symm; clear HM1) | (with_reducible refine (HM2.out _).mono ?_; rintro o w2 ⟨rfl, hw⟩; obtain rfl := hw.symm))))
  go_ret
  exact ⟨rfl, rfl⟩
/-- no cells at all -/
theorem sense0 (hc : Cw w0 w g b [] S st) : Calls Try.prog 12 #[.pointer (some ⟨g, 0, none⟩)] w fun e w' => ∃ A c, e = .returned (.slice A 0 c) ∧ Aside0 (Below w.heap.size w w') := by
  obtain ⟨⟨sv, h⟩, _⟩ := hc
  obtain ⟨c0, c1, c2⟩ := h.cells
  have c0 : w.cell? ⟨g, 0, none⟩ = some (.slice (some ⟨b, 0, none⟩) 0 0) := c0
  clear h c1 c2
  have HC : Aside0 (Calls Try.prog 23 #[.slice (some ⟨b, 0, none⟩) 0 0] w fun e w' => ∃ A c, e = .returned (.slice A 0 c) ∧ Aside0 (Below w.heap.size w w')) := ⟨by
    have hnil := fun (w : World) => Lib.run_eql_slice_nil (P := Try.prog) w 36 34 (some ⟨b, 0, none⟩) 0 0 0 0 Try.underlying36
    have HE := Aside0.mk (empty_raw (blk_new w (.cells #[] 34 (0, 0))) (Nat.le_refl _))
    have HR : Aside0 (ReadsRow (fun (y cs : List Value) => cs = y ∧ cs.length = 1 ∧ ∀ u ∈ cs, u.oneCell' = true) 1 (w.alloc (.cells #[] 34 (0, 0))) (some ⟨b, 0, none⟩) 0 []) := ⟨⟨rfl, by decide, fun h => absurd h (by decide)⟩⟩
    have HBa := Aside0.mk (below_alloc (Below.refl w.heap.size w) (.cells #[] 34 (0, 0)))
    clear c0
    go_enter Try.func23, Try.ntmps23
    go_wp2_with ((with_reducible refine gate_builtin (b := .append) (xs := #[.tmp 5, .tmp 6]) rfl ?_); at_builtin; refine Kd.R_append_rows (Kd.raw 1) (w0 := w) w.heap.size rfl (.tmp 5) (.tmp 6) 36 34 (.complex .f64 0 0) 16 rfl Try.underlying36 info34 rfl (by decide) (by omega) (.slice (some ⟨w.heap.size, 0, none⟩) 0 0) [] [] (some ⟨b, 0, none⟩) 0 0 (fun _ => True) (fun _ => False) rfl rfl HE.out HR.out (fun _ _ hh => hh) (fun _ hk => hk.elim) (fun _ _ => trivial) HBa.out (by simp) (by simp) ?_; intro v1 w1 hR hB _ _; obtain ⟨A9, c9, e9⟩ := Kd.R_slice hR; subst e9; have HB1 := Aside0.mk hB; clear hR hB)
    go_ret
    exact ⟨_, _, rfl, HB1⟩⟩
  go_enter Try.func12, Try.ntmps12
  go_wp2_with (first | (go_at_call 23; (refine HC.out.mono ?_); rintro e w2 ⟨A, c, rfl, HB⟩))
  go_ret
  exact ⟨A, c, rfl, HB⟩
/-- a literal row of symbols, programmed -/
theorem litProg (h : Cw w0 W g b P S 0) (xs : List Int) (hb : W.heap[q]? = some (.cells (xs.map (Value.int .u16)).toArray 26 (0, 0))) (hq1 : q ≠ g) (hq2 : q ≠ b) (hm : xs.length = P.length) (hp : 0 < P.length) (hl : P.length ≤ 1000) (hx : ∀ j, j < xs.length → 0 ≤ xs.getD j 0 ∧ xs.getD j 0 < 1024)
    (keep : Int) (km : Nat) (st' : Int) (hkm : (if (if keep < 0 then 0 else keep) ≤ (P.length : Int) then (if keep < 0 then 0 else keep) else (P.length : Int)) = (km : Int)) (hst : (if keep ≤ 0 then 0 else if (P.length : Int) ≤ keep then 1 else 2) = st') :
    Calls Try.prog 9 #[.pointer (some ⟨g, 0, none⟩), .slice (some ⟨q, 0, none⟩) xs.length xs.length, .int .i64 keep] W fun e w' => e = .returned (.int .i64 0) ∧
      Aside0 (Cw w0 w' g b (progL P xs km) xs st') ∧ Aside0 (∀ k, k < W.heap.size → k ≠ g → k ≠ b → w'.heap[k]? = W.heap[k]?) ∧ Aside0 (W.heap.size ≤ w'.heap.size) :=
  (cwProg h (some ⟨q, 0, none⟩) xs.length (blk_C hb (by omega)) (Nat.le_refl _) hm hp hx (by intro ad e; cases e; exact ⟨hq2, hq1⟩) keep km st' hkm hst).mono fun e w' ⟨h1, h2, h3, h4, _⟩ => ⟨h1, h2, h3, h4⟩
theorem eraseF (h : Cw w0 W g b P S st) (hp : 0 < P.length) : Calls Try.prog 16 #[.pointer (some ⟨g, 0, none⟩)] W fun e w' => e = .returned (.tuple #[]) ∧ Aside0 (Cw w0 w' g b (List.replicate P.length (0, 0)) [] 0) ∧ Aside0 (∀ k, k < W.heap.size → k ≠ g → k ≠ b → w'.heap[k]? = W.heap[k]?) ∧ Aside0 (W.heap.size ≤ w'.heap.size) := by
  obtain ⟨⟨sv, h1⟩, hb⟩ := h
  exact (eraseC h1 hp).mono fun e w' ⟨e1, e2, e3, e4⟩ => ⟨e1, ⟨⟨⟨_, e2.out⟩, Below.trans hb e3.out⟩⟩, e4, ⟨e3.out.size⟩⟩
theorem cwSize (h : Cw w0 W g b P S 0) (A : Option Addr) (m c : Nat) (hm : m ≠ P.length) (keep : Int) : Calls Try.prog 9 #[.pointer (some ⟨g, 0, none⟩), .slice A m c, .int .i64 keep] W fun e w' => e = .returned (.int .i64 3) ∧ w' = W := let ⟨⟨_, h1⟩, _⟩ := h; progSize h1 A m c hm keep
theorem cwArg (h : Cw w0 W g b P S 0) (A : Option Addr) (c : Nat) (hC : Kd.C (Kd.int .u16) W A xs.length xs) (hm : xs.length = P.length) (hx : ∃ j, j < xs.length ∧ 1024 ≤ xs.getD j 0) (keep : Int) : Calls Try.prog 9 #[.pointer (some ⟨g, 0, none⟩), .slice A xs.length c, .int .i64 keep] W fun e w' => e = .returned (.int .i64 1) ∧ w' = W := let ⟨⟨_, h1⟩, _⟩ := h; progArg h1 A c hC hm hx keep
end
/-- where the second cell stands after so many moves -/
def PK (t : Nat) : Pts := [(0, 0), (-31 + 62 * (t : Int), -27), (-31, -25)]
theorem small3 : ∀ j, j < 3 → 0 ≤ [528, 2, 3].getD j (0 : Int) ∧ [528, 2, 3].getD j (0 : Int) < 1024 := by
  intro j hj
  have : j = 0 ∨ j = 1 ∨ j = 2 := by omega
  rcases this with rfl | rfl | rfl <;> decide
set_option maxHeartbeats 12800000 in
set_option maxRecDepth 100000 in
theorem known_walk (w : World) : Calls Try.prog 5 #[] w fun e w' => e = .returned (.bool true) ∧ Below w.heap.size w w' := by
  have l2 := Aside0.mk (litS 2 4611686018427387904 (by decide +kernel))
  have lm1 := Aside0.mk (litS (-1) 13830554455654793216 (by decide +kernel))
  have l63 := Aside0.mk (litS 63 4634063279075885056 (by decide +kernel))
  have l62 := Aside0.mk lit62
  have o1 : FloatKind.f64.format.order (fd 1 0) 4607182418800017408 = some .eq := by rw [← litS 1 4607182418800017408 (by decide +kernel)]; decide +kernel
  have oz : FloatKind.f64.format.order 0 0 = some .eq := by decide +kernel
  go_enter Try.func5, Try.ntmps5
  go_upto_region 6 with (first
    | (go_at_call 7; (refine (awakeC _).mono ?_); rintro e w2 ⟨rfl, hb⟩; have HB := Aside0.mk hb; clear hb)
    | (go_at_call 8; (refine (cwNew (w0 := w) 3 3 (by decide) (by decide) HB.out).mono ?_); rintro e w3 ⟨g, b, rfl, HC, _, _, _⟩; clear HB))
  -- a row too short
  go_upto_region 7 with (first
    | (go_at_call 9; (refine (cwSize (HC.out.below (below_alloc (Below.refl _ w3) (.cells #[.int .u16 1, .int .u16 2] 26 (0, 0)))) (some ⟨w3.heap.size, 0, none⟩) 2 2 (by decide) 3).mono ?_); rintro e w4 ⟨rfl, hw⟩; obtain rfl := hw.symm))
  have HC1 := Aside0.mk (HC.out.below (below_alloc (Below.refl _ w3) (.cells #[.int .u16 1, .int .u16 2] 26 (0, 0))))
  clear HC
  generalize (w3.alloc (.cells #[.int .u16 1, .int .u16 2] 26 (0, 0))) = v1 at *
  -- a symbol too great
  go_upto_region 8 with (first
    | (go_at_call 9; (refine (cwArg (xs := [1, 2, 1024]) (HC1.out.below (below_alloc (Below.refl _ v1) (.cells #[.int .u16 1, .int .u16 2, .int .u16 1024] 26 (0, 0)))) (some ⟨v1.heap.size, 0, none⟩) 3 (blk_C (blk_new v1 (.cells #[.int .u16 1, .int .u16 2, .int .u16 1024] 26 (0, 0))) (by decide)) (by decide) ⟨2, by decide, by decide⟩ 3).mono ?_); rintro e w4 ⟨rfl, hw⟩; obtain rfl := hw.symm))
  have HC2 := Aside0.mk (HC1.out.below (below_alloc (Below.refl _ v1) (.cells #[.int .u16 1, .int .u16 2, .int .u16 1024] 26 (0, 0))))
  clear HC1
  generalize (v1.alloc (.cells #[.int .u16 1, .int .u16 2, .int .u16 1024] 26 (0, 0))) = v2 at *
  -- none of them
  go_upto_region 9 with (first
    | (go_at_call 9; (have hl := HC2.out.lts); (refine (litProg (q := v2.heap.size) (HC2.out.below (below_alloc (Below.refl _ v2) (.cells #[.int .u16 1, .int .u16 2, .int .u16 3] 26 (0, 0)))) [1, 2, 3] (blk_new v2 (.cells #[.int .u16 1, .int .u16 2, .int .u16 3] 26 (0, 0))) (by omega) (by omega) (by decide) (by decide) (by decide) (by intro j hj; have hj : j < 3 := hj; have : j = 0 ∨ j = 1 ∨ j = 2 := (by omega); rcases this with rfl | rfl | rfl <;> decide) 0 0 0 (by decide) (by decide)).mono ?_); rintro e w4 ⟨rfl, HC3z, _, _⟩; have HC3 : Aside0 (Cw w w4 g b (List.replicate 3 (0, 0)) [1, 2, 3] 0) := HC3z; clear hl HC2 HC3z))
  go_upto_region 10 with (first
    | (go_at_call 15; (refine (cwState HC3.out).mono ?_); rintro e w5 ⟨rfl, hw⟩; obtain rfl := hw.symm))
  -- two of them
  go_upto_region 11 with (first
    | (go_at_call 9; (have hl := HC3.out.lts); (refine (litProg (q := w4.heap.size) (HC3.out.below (below_alloc (Below.refl _ w4) (.cells #[.int .u16 528, .int .u16 2, .int .u16 3] 26 (0, 0)))) [528, 2, 3] (blk_new w4 (.cells #[.int .u16 528, .int .u16 2, .int .u16 3] 26 (0, 0))) (by omega) (by omega) (by decide) (by decide) (by decide) small3 2 2 2 (by decide) (by decide)).mono ?_); rintro e w5 ⟨rfl, HC4z, _, _⟩; have HC4 : Aside0 (Cw w w5 g b [(1, 1), (-31, -27), (0, 0)] [528, 2, 3] 2) := (show progL (List.replicate 3 (0, 0)) [528, 2, 3] 2 = [(1, 1), (-31, -27), (0, 0)] from by decide) ▸ HC4z; clear hl HC3 HC4z))
  go_upto_region 12 with (first
    | (go_at_call 15; (refine (cwState HC4.out).mono ?_); rintro e w6 ⟨rfl, hw⟩; obtain rfl := hw.symm)
    | (go_at_call 11; (refine (cwDriftOut HC4.out 0 (.inl (by decide)) _ _).mono ?_); rintro e w6 ⟨rfl, hw⟩; obtain rfl := hw.symm))
  go_upto_region 13 with (first
    | (go_at_call 9; (refine (cwOrder (HC4.out.below (below_alloc (Below.refl _ w5) (.cells #[.int .u16 528, .int .u16 2, .int .u16 3] 26 (0, 0)))) (by decide) (some ⟨w5.heap.size, 0, none⟩) 3 3 3).mono ?_); rintro e w6 ⟨rfl, hw⟩; obtain rfl := hw.symm))
  have HC5 := Aside0.mk (HC4.out.below (below_alloc (Below.refl _ w5) (.cells #[.int .u16 528, .int .u16 2, .int .u16 3] 26 (0, 0))))
  clear HC4
  generalize (w5.alloc (.cells #[.int .u16 528, .int .u16 2, .int .u16 3] 26 (0, 0))) = v3 at *
  go_upto_region 14 with (first
    | (go_at_call 12; (refine (cwSense HC5.out (by decide)).mono ?_); rintro e w6 ⟨q, c6, rfl, hc6, hq6, HV, HB6⟩; have HC6 := Aside0.mk (HC5.out.below HB6.out); have hl := HC5.out.lts; have HQg := Aside0.mk (show q ≠ g by omega); have HQb := Aside0.mk (show q ≠ b by omega); clear hl HC5 HB6 hq6))
  go_upto_region 15 with (first
    | (go_at_call 16; (refine (eraseF HC6.out (by decide)).mono ?_); rintro e w7 ⟨rfl, HC7z, hf7, hs7⟩; have HC7 : Aside0 (Cw w w7 g b (List.replicate 3 (0, 0)) [] 0) := HC7z; have HV7 := Aside0.mk (HV.out.move (hf7.out q HV.out.lt HQg.out HQb.out)); clear HC6 HC7z HV hf7 hs7))
  -- all of them
  go_upto_region 16 with (first
    | (go_at_call 9; (have hl := HC7.out.lts); (have hq7 := HV7.out.lt); (refine (litProg (q := w7.heap.size) (HC7.out.below (below_alloc (Below.refl _ w7) (.cells #[.int .u16 528, .int .u16 2, .int .u16 3] 26 (0, 0)))) [528, 2, 3] (blk_new w7 (.cells #[.int .u16 528, .int .u16 2, .int .u16 3] 26 (0, 0))) (by omega) (by omega) (by decide) (by decide) (by decide) small3 99 3 1 (by decide) (by decide)).mono ?_); rintro e w8 ⟨rfl, HC8z, hf8, hs8⟩; have HC8 : Aside0 (Cw w w8 g b [(1, 1), (-31, -27), (-31, -25)] [528, 2, 3] 1) := (show progL (List.replicate 3 (0, 0)) [528, 2, 3] 3 = [(1, 1), (-31, -27), (-31, -25)] from by decide) ▸ HC8z; have HV8 := Aside0.mk ((HV7.out.below (below_alloc (Below.refl _ w7) (.cells #[.int .u16 528, .int .u16 2, .int .u16 3] 26 (0, 0)))).move (hf8.out q (by rw [World.size_alloc]; omega) HQg.out HQb.out)); clear hl hq7 HC7 HC8z HV7 hf8 hs8))
  have HD9 : Aside0 (Calls Try.prog 11 #[.pointer (some ⟨g, 0, none⟩), .int .i64 0, .complex .f64 13830554455654793216 13830554455654793216] w8 fun e w' => e = .returned (.bool true) ∧ Aside0 (Cw w w' g b (PK 0) [528, 2, 3] 1) ∧ Aside0 (∀ k, k ≠ b → w'.heap[k]? = w8.heap[k]?) ∧ w'.heap.size = w8.heap.size) := ⟨by
    have hd := cwDriftYes HC8.out 0 (by decide) (-1) (-1) (by decide) (by decide) (by decide) (by decide) (by decide) (by decide)
    rw [← lm1.out] at hd
    exact hd⟩
  go_upto_region 17 with (first
    | (go_at_call 11; (refine HD9.out.mono ?_); rintro e w9 ⟨rfl, HC9, hf9, hs9⟩; have HV9 := Aside0.mk (HV8.out.move (hf9.out q HQb.out)); clear HD9 HC8 HV8 hf9 hs9))
  go_upto_region 18 with (first
    | (go_at_call 10; (refine (cwWrong HC9.out (by intro j hj; have hj : j < 3 := hj; have : j = 0 ∨ j = 1 ∨ j = 2 := (by omega); rcases this with rfl | rfl | rfl <;> decide)).mono ?_); rintro e w10 ⟨v10, rfl, HR10, HB10⟩; obtain ⟨q10, c10, e10, hb10, hl10, hx10⟩ := R_one (x := 0) ((show wrongL (PK 0) [528, 2, 3] 3 = [0] from by decide) ▸ HR10.out); subst e10; have HC10 := Aside0.mk (HC9.out.below HB10.out); have HV10 := Aside0.mk (HV9.out.below HB10.out); have hl := HC9.out.lts; have HQ10 := Aside0.mk (show q10 ≠ b by omega); have HX10 := Aside0.mk hx10; clear hl HC9 HV9 HR10 HB10 hb10 hl10 hx10))
  have HDh := Aside0.mk (driftHalf HC10.out (by decide) rfl)
  have HD63 : Aside0 (Calls Try.prog 11 #[.pointer (some ⟨g, 0, none⟩), .int .i64 0, .complex .f64 4634063279075885056 0] w10 fun e w' => e = .returned (.bool false) ∧ w' = w10) := ⟨by
    have hd := cwDriftNo HC10.out 0 (by decide) 63 0 (by decide) (by decide) (by decide) (by decide) (by decide)
    rw [← l63.out, fd_zero] at hd
    exact hd⟩
  have HD3 := Aside0.mk (cwDriftOut HC10.out 3 (.inr (.inr (by decide))) 4611686018427387904 0)
  have HDm := Aside0.mk (cwDriftOut HC10.out (-1) (.inr (.inl (by decide))) 4611686018427387904 0)
  go_upto_region 19 with (first
    | (go_at_call 11; (first
      | (with_reducible refine HDh.out.mono ?_; rintro e w11 ⟨rfl, hw⟩; obtain rfl := hw.symm; clear HDh)
      | (with_reducible refine HD63.out.mono ?_; rintro e w11 ⟨rfl, hw⟩; obtain rfl := hw.symm; clear HD63)
      | (with_reducible refine HD3.out.mono ?_; rintro e w11 ⟨rfl, hw⟩; obtain rfl := hw.symm; clear HD3)
      | (with_reducible refine HDm.out.mono ?_; rintro e w11 ⟨rfl, hw⟩; obtain rfl := hw.symm; clear HDm))))
  go_wp2
  go_loopw [18] (fun v18 wr => ∃ t : Nat, t ≤ 16 ∧ v18 = .int .i64 (t : Int) ∧ Aside0 (Cw w wr g b (PK t) [528, 2, 3] 1) ∧ Aside0 (Vec wr q [(1, 1), (-31, -27), (0, 0)]) ∧ Aside0 (wr.cell? ⟨q10, 0, none⟩ = some (.int .i64 0))) (fun v18 _ => 16 - (intOf v18).toNat)
  case atStart => exact ⟨0, Nat.zero_le _, rfl, HC10, HV10, HX10⟩
  case round =>
    clear HC10 HV10 HX10
    obtain ⟨t, ht, rfl, HC11, HV11, HX11⟩ := hrel
    have ht40 : (t : Int) < 40 := by omega
    by_cases ct : t < 16
    · have HD : Aside0 (Calls Try.prog 11 #[.pointer (some ⟨g, 0, none⟩), .int .i64 1, .complex .f64 4633922541587529728 0] wr fun e w' => e = .returned (.bool true) ∧ Aside0 (Cw w w' g b (PK (t + 1)) [528, 2, 3] 1) ∧ Aside0 (∀ k, k ≠ b → w'.heap[k]? = wr.heap[k]?) ∧ w'.heap.size = wr.heap.size) := ⟨by
        have hd := cwDriftYes HC11.out 1 (show 1 < 3 by decide) 62 0 (by decide) (by decide) (show (-31 + 62 * (t : Int)).natAbs ≤ 2000 by omega) (show ((-27 : Int)).natAbs ≤ 2000 by decide) (show mayMove (-31 + 62 * (t : Int)) 62 = true by unfold mayMove; rw [decide_eq_true (by decide), decide_eq_true (by decide), decide_eq_true (by omega), decide_eq_true (by omega)]; rfl) (show mayMove (-27) 0 = true by decide)
        rw [← l62.out, fd_zero] at hd
        have e : (PK t).set 1 (((PK t).getD 1 (0, 0)).1 + 62, ((PK t).getD 1 (0, 0)).2 + 0) = PK (t + 1) := by
          show [((0 : Int), (0 : Int)), (-31 + 62 * (t : Int) + 62, -27 + 0), (-31, -25)] = [(0, 0), (-31 + 62 * ((t + 1 : Nat) : Int), -27), (-31, -25)]
          rw [show (-31 + 62 * (t : Int) + 62) = -31 + 62 * ((t + 1 : Nat) : Int) by omega]; rfl
        rw [e] at hd
        exact hd⟩
      clear HC11
      go_wp2_with (first
        | (go_at_call 11; (refine HD.out.mono ?_); rintro e w12 ⟨rfl, HC12, hf12, _⟩; have HV12 := Aside0.mk (HV11.out.move (hf12.out q HQb.out)); have HX12 := Aside0.mk ((World.cell?_of_block (a := ⟨q10, 0, none⟩) (hf12.out q10 HQ10.out)).trans HX11.out); clear HD HV11 HX11 hf12))
      go_roundw
      case rel => exact ⟨t + 1, ct, rfl, HC12, HV12, HX12⟩
      case measure => simp [intOf]; omega
    · obtain rfl : t = 16 := by omega
      have HD : Aside0 (Calls Try.prog 11 #[.pointer (some ⟨g, 0, none⟩), .int .i64 1, .complex .f64 4633922541587529728 0] wr fun e w' => e = .returned (.bool false) ∧ w' = wr) := ⟨by
        have hd := cwDriftNo HC11.out 1 (show 1 < 3 by decide) 62 0 (by decide) (by decide) (by decide) (by decide) (by decide)
        rw [← l62.out, fd_zero] at hd
        exact hd⟩
      have hp0 : wr.cell? ⟨q, 0, none⟩ = some (.complex .f64 (fd 1 0) (fd 1 0)) := HV11.out.cell (i := 0) (by decide)
      have hp2 : wr.cell? ⟨q, 2, none⟩ = some (.complex .f64 0 0) := by rw [← ptV_zero]; exact HV11.out.cell (i := 2) (by decide)
      have hx0 := HX11.out
      clear HV11 HX11 ct ht
      go_wp2_with (first
        | (go_at_call 11; (refine HD.out.mono ?_); rintro e w12 ⟨rfl, hw⟩; obtain rfl := hw.symm; clear HD)
        | (go_at_call 15; (refine (cwState HC11.out).mono ?_); rintro e w12 ⟨rfl, hw⟩; obtain rfl := hw.symm)
        | (go_at_call 8; (refine (cwNew (w0 := w) (-1) 0 (by decide) (by decide) HC11.out.bel).mono ?_); rintro e w13 ⟨g2, b2, rfl, HC13, _, _, _⟩)
        | (go_at_call 12; (refine (sense0 HC13.out).mono ?_); rintro e w14 ⟨A14, c14, rfl, HB14⟩; have HC14 := Aside0.mk (HC13.out.below HB14.out)))
      go_ret
      exact ⟨rfl, HC14.out.bel⟩
end Go.Proofs.Ytfdeaepelhbhiaa.M
