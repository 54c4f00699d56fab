/- TaleParts: each whole part is written and read as it is; by hand. -/
import Derived.Test.YthdmeffjiljdeaaDoorP
import Derived.Test.YthdmeffjiljdeaaDoorWalkKnown
namespace Go.Proofs.YthdmeffjiljdeaaDoor.M
open Go.RowKit Go.Proofs.YthdmeffjiljdeaaDoorW.PrintWords Go.Proofs.YthdmeffjiljdeaaDoorW.PrintLast Go.Proofs.YthdmeffjiljdeaaDoorW.PrintMore Go.Proofs.YthdmeffjiljdeaaDoor.Rw Go.Proofs.YthdmeffjiljdeaaDoor.Fl
set_option linter.unusedVariables false
set_option linter.unusedSimpArgs false
attribute [local go_sem] run_store_complex
theorem ord_all : ((List.range 2001).all fun k => Ieee.double.order (fw ((k : Int) - 1000)) (fw ((k : Int) - 1000)) == some .eq) = true := by decide +kernel
theorem ord_ok {n : Int} (h0 : -1000 ≤ n) (h1 : n ≤ 1000) : Ieee.double.order (fw n) (fw n) = some .eq := by
  have h := List.all_eq_true.1 ord_all (n + 1000).toNat (List.mem_range.2 (by omega))
  rw [show (((n + 1000).toNat : Nat) : Int) - 1000 = n by omega] at h
  exact eq_of_beq h
theorem copysignC (w : World) : Calls Tryd.prog 9 #[.float .f64 0, .float .f64 13830554455654793216] w fun e w' => e = .returned (.float .f64 9223372036854775808) ∧ w' = w := by
  have h29 := @run_callFunc_extern Tryd.prog 17 _ Extern.MathFloatBits.float64bits Tryd.func17 (by kernel_rfl) (by kernel_rfl) (by kernel_rfl) (by kernel_rfl)
  have h23 := @run_callFunc_extern Tryd.prog 16 _ Extern.MathFloatBits.float64frombits Tryd.func16 (by kernel_rfl) (by kernel_rfl) (by kernel_rfl) (by kernel_rfl)
  have r29 : ∀ w, (Extern.MathFloatBits.float64bits #[.float .f64 0]).run Tryd.prog w = .ok (.int .u64 0) w := fun w => rfl
  have r30 : ∀ w, (Extern.MathFloatBits.float64bits #[.float .f64 13830554455654793216]).run Tryd.prog w = .ok (.int .u64 13830554455654793216) w := fun w => rfl
  have r23 : ∀ w, (Extern.MathFloatBits.float64frombits #[.int .u64 9223372036854775808]).run Tryd.prog w = .ok (.float .f64 9223372036854775808) w := fun w => rfl
  have b1 : bits .andNot .u64 0 9223372036854775808 = 0 := by decide +kernel
  have b2 : bits .and .u64 13830554455654793216 9223372036854775808 = 9223372036854775808 := by decide +kernel
  have b3 : bits .or .u64 0 9223372036854775808 = 9223372036854775808 := by decide +kernel
  go_enter Tryd.func9, Tryd.ntmps9
  go_wp2
  go_ret
  exact ⟨rfl, rfl⟩
theorem cat_str (a b : List UInt8) : ((⟨a.toArray⟩ : ByteArray) ++ ⟨b.toArray⟩) = ⟨(a ++ b).toArray⟩ := by
  apply congrArg ByteArray.mk
  simp
theorem cat_run (a b : List UInt8) (h1 : a.length ≤ 1000) (h2 : b.length ≤ 1000) (W : World) : (Op.stringOp .add (⟨a.toArray⟩ : ByteArray) ⟨b.toArray⟩).run Tryd.prog W = .ok (.string ⟨(a ++ b).toArray⟩) W := by
  rw [← cat_str]
  exact run_string_add _ _ _ (by rw [tl_str]; omega) (by rw [tl_str]; omega)
theorem tmod_in (a : Int) : -1000 ≤ a.tmod 1001 ∧ a.tmod 1001 ≤ 1000 := by
  rcases Int.le_total 0 a with h | h
  · rw [Int.tmod_eq_emod_of_nonneg h]; omega
  · have e : (-a).tmod 1001 = -(a.tmod 1001) := Int.neg_tmod ..
    rw [Int.tmod_eq_emod_of_nonneg (by omega)] at e
    omega
set_option maxRecDepth 20000 in
set_option maxHeartbeats 6400000 in
theorem walkParts (a b : Int) (neg : Bool) (ha : -32768 ≤ a ∧ a ≤ 32767) (hb : -32768 ≤ b ∧ b ≤ 32767) (w : World) (h : GV w) : Calls Tryd.prog 5 #[.int .i16 a, .int .i16 b, .bool neg] w fun o w' => o = .returned (.bool true) ∧ Aside0 (Below w.heap.size w w') := by
  have HG := Aside0.mk h
  have HA := Aside0.mk (awakeC w h)
  obtain ⟨z, hz⟩ : ∃ z, w.heap.size = z := ⟨_, rfl⟩
  have HBs := Aside0.mk hz
  obtain ⟨x0, x1⟩ := tmod_in a
  obtain ⟨y0, y1⟩ := tmod_in b
  obtain ⟨x, hx⟩ : ∃ x, a.tmod 1001 = x := ⟨_, rfl⟩
  obtain ⟨y, hy⟩ : ∃ y, b.tmod 1001 = y := ⟨_, rfl⟩
  rw [hx] at x0 x1
  rw [hy] at y0 y1
  have HX := Aside0.mk (num_is x0 x1)
  have HY := Aside0.mk (num_is y0 y1)
  have HDx := Aside0.mk (fun W => decimalC x.natAbs x (Nat.le_refl _) x0 x1 W)
  have HDy := Aside0.mk (fun W => decimalC y.natAbs y (Nat.le_refl _) y0 y1 W)
  obtain ⟨fx, hfx⟩ : ∃ f, floatOfInt .f64 x = f := ⟨_, rfl⟩
  obtain ⟨fy, hfy⟩ : ∃ f, floatOfInt .f64 y = f := ⟨_, rfl⟩
  have hox : FloatKind.f64.format.order fx fx = some .eq := by rw [← hfx]; exact ord_ok x0 x1
  have hoy : FloatKind.f64.format.order fy fy = some .eq := by rw [← hfy]; exact ord_ok y0 y1
  have HR := Aside0.mk (fun W hW => readOk (dL x y ++ [10]) _ (dL_read HX.out HY.out) (dL_len HX.out HY.out) W hW)
  have efx : fw x = fx := hfx
  have efy : fw y = fy := hfy
  rw [efx, efy] at HR
  have HL0 : Aside0 (lineF ⟨6, 0, 0, 0, fx, fy, []⟩ = dL x y ++ [10]) := ⟨drift_line (by rw [← efx]; exact HX.out.w) (by rw [← efx]; exact HX.out.p) (by rw [← efy]; exact HY.out.w) (by rw [← efy]; exact HY.out.p)⟩
  have HL1 : Aside0 (x = 0 → lineF ⟨6, 0, 0, 0, 9223372036854775808, fy, []⟩ = dL x y ++ [10]) := ⟨fun h0 => drift_line neg0_whole (by rw [h0]; exact neg0_part) (by rw [← efy]; exact HY.out.w) (by rw [← efy]; exact HY.out.p)⟩
  -- the text that is expected, piece by piece
  have C1 := fun W => cat_run [100, 114, 105, 102, 116, 32, 48, 32, 48, 32, 48, 32] (Lib.itoa x) (by decide) (by have := HX.out.l; omega) W
  have C2 := fun W => cat_run ([100, 114, 105, 102, 116, 32, 48, 32, 48, 32, 48, 32] ++ Lib.itoa x) [32] (by have := HX.out.l; rw [List.length_append]; simp only [List.length_cons, List.length_nil]; omega) (by decide) W
  have C3 := fun W => cat_run ([100, 114, 105, 102, 116, 32, 48, 32, 48, 32, 48, 32] ++ Lib.itoa x ++ [32]) (Lib.itoa y) (by have := HX.out.l; rw [List.length_append, List.length_append]; simp only [List.length_cons, List.length_nil]; omega) (by have := HY.out.l; omega) W
  have C4 := fun W => cat_run ([100, 114, 105, 102, 116, 32, 48, 32, 48, 32, 48, 32] ++ Lib.itoa x ++ [32] ++ Lib.itoa y) [32, 46, 10] (by have := HX.out.l; have := HY.out.l; rw [List.length_append, List.length_append, List.length_append]; simp only [List.length_cons, List.length_nil]; omega) (by decide) W
  have e4 : [100, 114, 105, 102, 116, 32, 48, 32, 48, 32, 48, 32] ++ Lib.itoa x ++ [32] ++ Lib.itoa y ++ [32, 46, 10] = dL x y ++ [10] := by unfold dL; simp
  rw [e4] at C4
  unfold strV at HDx HDy
  generalize ([100, 114, 105, 102, 116, 32, 48, 32, 48, 32, 48, 32] ++ Lib.itoa x ++ [32] ++ Lib.itoa y) = l3 at *
  generalize ([100, 114, 105, 102, 116, 32, 48, 32, 48, 32, 48, 32] ++ Lib.itoa x ++ [32]) = l2 at *
  generalize ([100, 114, 105, 102, 116, 32, 48, 32, 48, 32, 48, 32] ++ Lib.itoa x) = l1 at *
  obtain ⟨X, hX⟩ : ∃ X : ByteArray, (⟨(Lib.itoa x).toArray⟩ : ByteArray) = X := ⟨_, rfl⟩
  obtain ⟨Y, hY⟩ : ∃ X : ByteArray, (⟨(Lib.itoa y).toArray⟩ : ByteArray) = X := ⟨_, rfl⟩
  obtain ⟨T, hT⟩ : ∃ X : ByteArray, (⟨(dL x y ++ [10]).toArray⟩ : ByteArray) = X := ⟨_, rfl⟩
  rw [hX] at C1 HDx
  rw [hY] at C3 HDy
  rw [hT] at C4 HR
  generalize (⟨l1.toArray⟩ : ByteArray) = S1 at *
  generalize (⟨l2.toArray⟩ : ByteArray) = S2 at *
  generalize (⟨l3.toArray⟩ : ByteArray) = S3 at *
  obtain ⟨tl, htl⟩ : ∃ tl, dL x y ++ [10] = tl := ⟨_, rfl⟩
  rw [htl] at HL0 HL1 hT
  have HT := Aside0.mk hT
  clear e4 HX HY htl hT efx efy hX hY hz h
  have key : ∀ (f0 : Nat) (w3 : World), lineF ⟨6, 0, 0, 0, f0, fy, []⟩ = tl → GV w3 → Calls Tryd.prog 8 #[.slice (some ⟨w3.heap.size, 0, none⟩) 1 1] (w3.alloc (.cells #[.int .i64 6, .int .i64 0, .int .i64 0, .int .i64 0, .complex .f64 f0 fy, .slice none 0 0] 32)) fun o w' => o = .returned (.string T) ∧ Aside0 (Below w3.heap.size w3 w') := by
    intro f0 w3 hl hg
    have hb := blk_new w3 (.cells #[.int .i64 6, .int .i64 0, .int .i64 0, .int .i64 0, .complex .f64 f0 fy, .slice none 0 0] 32 (0, 0))
    have hB := below_alloc (Below.refl w3.heap.size w3) (.cells #[.int .i64 6, .int .i64 0, .int .i64 0, .int .i64 0, .complex .f64 f0 fy, .slice none 0 0] 32)
    have hE : EvsR (some ⟨w3.heap.size, 0, none⟩) [(⟨6, 0, 0, 0, f0, fy, []⟩, .slice none 0 0)] (w3.alloc (.cells #[.int .i64 6, .int .i64 0, .int .i64 0, .int .i64 0, .complex .f64 f0 fy, .slice none 0 0] 32)) :=
      evs_of_block (f := (0, 0)) hb (fun p hp => by
        rw [List.mem_singleton.1 hp]
        exact ⟨by dsimp only; decide, by dsimp only; decide, by dsimp only; decide, Nat.zero_le _, fun x hx => by cases hx⟩) (fun p hp => by
        rw [List.mem_singleton.1 hp]
        exact ⟨none, 0, rfl, C_nil _⟩)
    have ht := textC (some ⟨w3.heap.size, 0, none⟩) 1 _ _ (hg.below hB) hE (by simp)
    refine ht.mono ?_
    rintro o w' ⟨rfl, HB⟩
    refine ⟨?_, ⟨Below.trans hB (HB.out.mono (by simp))⟩⟩
    rw [textF_map]
    show Ending.returned (strV (lineF ⟨6, 0, 0, 0, f0, fy, []⟩ ++ [])) = _
    rw [hl, List.append_nil, ← HT.out]
  have HKey := Aside0.mk key
  clear key
  cases neg with
  | false =>
    clear HL1
    go_enter Tryd.func5, Tryd.ntmps5
    go_upto_region 8 with (first
      | (go_at_call 6; (refine HA.out.mono ?_); rintro o w2 ⟨rfl, HB2⟩)
      | (go_at_call 8; (refine (HKey.out fx _ HL0.out (HG.out.below HB2.out)).mono ?_); rintro o w4 ⟨rfl, HB4⟩))
    have HBB : Aside0 (Below z w w4) := ⟨by have h1 := HB2.out; rw [HBs.out] at h1; exact Below.trans h1 (HB4.out.mono (by have := h1.size; have := HBs.out; omega))⟩
    have HRd := Aside0.mk (HR.out w4 (HG.out.below (by rw [HBs.out]; exact HBB.out)))
    clear HA HR HKey HB2 HB4
    go_upto_region 9 with (first | (go_at_call 7; (refine HRd.out.mono ?_); rintro o w5 ⟨A, c, its, hi, rfl, HE, HB5⟩))
    obtain ⟨u, rfl⟩ : ∃ u, its = [((⟨6, 0, 0, 0, fx, fy, []⟩ : Ev), u)] := by
      match its, hi with
      | [(e, u)], hi => cases hi; exact ⟨u, rfl⟩
    clear hi HRd
    obtain ⟨-, -, ad, rfl, hAt⟩ := HE.out 0 _ rfl
    have HK := Aside0.mk (fun W (hW : Below w5.heap.size w5 W) => (hAt.below hW).c4)
    dsimp only at HK
    rw [show ad.add (0 * 6) = ad from Addr.add_zero' ad] at HK
    clear hAt HE
    go_wp2_with (first
      | (go_at_call 10; with_reducible refine (HDx.out _).mono ?_; rintro o w6 ⟨rfl, HB6⟩)
      | (go_at_call 10; with_reducible refine (HDy.out _).mono ?_; rintro o w7 ⟨rfl, HB7⟩; have HB8 := Aside0.mk (Below.trans HB6.out (HB7.out.mono HB6.out.size)); have k4 := HK.out _ HB8.out))
    go_ret
    exact ⟨rfl, ⟨by rw [HBs.out]; exact Below.trans HBB.out (Below.trans HB5.out (HB8.out.mono HB5.out.size) |>.mono (by have := HBB.out.size; have := HBs.out; omega))⟩⟩
  | true =>
    by_cases hx0 : x = 0
    · have HL2 := Aside0.mk (HL1.out hx0)
      subst hx0
      clear HL1 HL0
      go_enter Tryd.func5, Tryd.ntmps5
      go_upto_region 8 with (first
        | (go_at_call 6; (refine HA.out.mono ?_); rintro o w2 ⟨rfl, HB2⟩)
        | (go_at_call 9; (refine (copysignC _).mono ?_); rintro o w3 ⟨rfl, hw3⟩; obtain rfl := hw3.symm)
        | (go_at_call 8; (refine (HKey.out 9223372036854775808 _ HL2.out (HG.out.below HB2.out)).mono ?_); rintro o w4 ⟨rfl, HB4⟩))
      have HBB : Aside0 (Below z w w4) := ⟨by have h1 := HB2.out; rw [HBs.out] at h1; exact Below.trans h1 (HB4.out.mono (by have := h1.size; have := HBs.out; omega))⟩
      have HRd := Aside0.mk (HR.out w4 (HG.out.below (by rw [HBs.out]; exact HBB.out)))
      clear HA HR HKey HB2 HB4
      go_upto_region 9 with (first | (go_at_call 7; (refine HRd.out.mono ?_); rintro o w5 ⟨A, c, its, hi, rfl, HE, HB5⟩))
      obtain ⟨u, rfl⟩ : ∃ u, its = [((⟨6, 0, 0, 0, fx, fy, []⟩ : Ev), u)] := by
        match its, hi with
        | [(e, u)], hi => cases hi; exact ⟨u, rfl⟩
      clear hi HRd
      obtain ⟨-, -, ad, rfl, hAt⟩ := HE.out 0 _ rfl
      have HK := Aside0.mk (fun W (hW : Below w5.heap.size w5 W) => (hAt.below hW).c4)
      dsimp only at HK
      rw [show ad.add (0 * 6) = ad from Addr.add_zero' ad] at HK
      clear hAt HE
      go_wp2_with (first
        | (go_at_call 10; with_reducible refine (HDx.out _).mono ?_; rintro o w6 ⟨rfl, HB6⟩)
        | (go_at_call 10; with_reducible refine (HDy.out _).mono ?_; rintro o w7 ⟨rfl, HB7⟩; have HB8 := Aside0.mk (Below.trans HB6.out (HB7.out.mono HB6.out.size)); have k4 := HK.out _ HB8.out))
      go_ret
      exact ⟨rfl, ⟨by rw [HBs.out]; exact Below.trans HBB.out (Below.trans HB5.out (HB8.out.mono HB5.out.size) |>.mono (by have := HBB.out.size; have := HBs.out; omega))⟩⟩
    · clear HL1
      go_enter Tryd.func5, Tryd.ntmps5
      go_upto_region 8 with (first
        | (go_at_call 6; (refine HA.out.mono ?_); rintro o w2 ⟨rfl, HB2⟩)
        | (go_at_call 8; (refine (HKey.out fx _ HL0.out (HG.out.below HB2.out)).mono ?_); rintro o w4 ⟨rfl, HB4⟩))
      have HBB : Aside0 (Below z w w4) := ⟨by have h1 := HB2.out; rw [HBs.out] at h1; exact Below.trans h1 (HB4.out.mono (by have := h1.size; have := HBs.out; omega))⟩
      have HRd := Aside0.mk (HR.out w4 (HG.out.below (by rw [HBs.out]; exact HBB.out)))
      clear HA HR HKey HB2 HB4
      go_upto_region 9 with (first | (go_at_call 7; (refine HRd.out.mono ?_); rintro o w5 ⟨A, c, its, hi, rfl, HE, HB5⟩))
      obtain ⟨u, rfl⟩ : ∃ u, its = [((⟨6, 0, 0, 0, fx, fy, []⟩ : Ev), u)] := by
        match its, hi with
        | [(e, u)], hi => cases hi; exact ⟨u, rfl⟩
      clear hi HRd
      obtain ⟨-, -, ad, rfl, hAt⟩ := HE.out 0 _ rfl
      have HK := Aside0.mk (fun W (hW : Below w5.heap.size w5 W) => (hAt.below hW).c4)
      dsimp only at HK
      rw [show ad.add (0 * 6) = ad from Addr.add_zero' ad] at HK
      clear hAt HE
      go_wp2_with (first
        | (go_at_call 10; with_reducible refine (HDx.out _).mono ?_; rintro o w6 ⟨rfl, HB6⟩)
        | (go_at_call 10; with_reducible refine (HDy.out _).mono ?_; rintro o w7 ⟨rfl, HB7⟩; have HB8 := Aside0.mk (Below.trans HB6.out (HB7.out.mono HB6.out.size)); have k4 := HK.out _ HB8.out))
      go_ret
      exact ⟨rfl, ⟨by rw [HBs.out]; exact Below.trans HBB.out (Below.trans HB5.out (HB8.out.mono HB5.out.size) |>.mono (by have := HBB.out.size; have := HBs.out; omega))⟩⟩
end Go.Proofs.YthdmeffjiljdeaaDoor.M
