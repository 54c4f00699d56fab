/- What stands awake; the document's own point and symbol; by hand. -/
import Derived.Test.YtfdeaepelhbhiaaW
namespace Go.Proofs.Ytfdeaepelhbhiaa.M
open Go.RowKit Go.Proofs.YtfdeaepelhbhiaaW.PrintWords Go.Proofs.YtfdeaepelhbhiaaW.PrintLast Go.Proofs.YtfdeaepelhbhiaaW.PrintMore Go.Proofs.Ytfdeaepelhbhiaa.Rw Go.Proofs.Ytfdeaepelhbhiaa.Fl
set_option linter.unusedVariables false
set_option linter.unusedSimpArgs false
theorem blk_C {W : World} {q : Nat} {fr : Nat × Nat} {xs : List Int} (hb : W.heap[q]? = some (.cells (xs.map (Value.int .u16)).toArray 26 fr)) (h : xs.length ≤ 1000) : Kd.C (Kd.int .u16) W (some ⟨q, 0, none⟩) xs.length xs := by
  refine ⟨rfl, by omega, fun _ => ⟨_, rfl, fun j p hj => ⟨[.int .u16 p], rfl, rfl, fun i u hu => ?_⟩⟩⟩
  have hi0 : i = 0 := by have := (List.getElem?_eq_some_iff.1 hu).1; simpa using this
  subst hi0
  have hu2 : Value.int .u16 p = u := by simpa using hu
  subst hu2
  have e4 : (Addr.add ⟨q, 0, none⟩ (j * (Kd.int .u16).sz + 0)) = ⟨q, j, none⟩ := by show Addr.add ⟨q, 0, none⟩ (j * 1 + 0) = _; simp [Addr.add]; intro h9; omega
  rw [e4]
  have h2 := cell_of_row W q j (xs.map (Value.int .u16)).toArray 26 fr hb
  rw [h2]; simp [hj]
theorem awakeC (w : World) : Calls Try.prog 7 #[] w fun e w' => e = .returned (.bool true) ∧ Below w.heap.size w w' := by
  have l2 := litS 2 4611686018427387904 (by decide +kernel)
  have o1 : FloatKind.f64.format.order (fd (-29) 0) 13852228028861513728 = some .eq := by rw [← litS (-29) 13852228028861513728 (by decide +kernel)]; decide +kernel
  have o2 : FloatKind.f64.format.order (fd (-31) 0) 13852790978814935040 = some .eq := by rw [← litS (-31) 13852790978814935040 (by decide +kernel)]; decide +kernel
  have HL2 := Aside0.mk l2
  clear l2
  go_enter Try.func7, Try.ntmps7
  go_wp2_with (first
    | (go_at_call 8; (refine (cwNew (w0 := w) 2 2 (by decide) (by decide) (Below.refl _ _)).mono ?_); rintro e w1 ⟨g, b, rfl, HC, _⟩; have HC1 := Aside0.mk (HC.out.below (below_alloc (Below.refl _ w1) (.cells #[.int .u16 0, .int .u16 5] 26 (0, 0)))); have HCd := Aside0.mk (blk_C (xs := [0, 5]) (blk_new w1 (.cells #[.int .u16 0, .int .u16 5] 26 (0, 0))) (by decide)); have HL := Aside0.mk HC.out.lts)
    | (go_at_call 15; (first | (refine (cwState HC.out).mono ?_; rintro e w2 ⟨rfl, hw⟩; obtain rfl := hw.symm; clear HC) | (refine (cwState HC6.out).mono ?_; rintro e w2 ⟨rfl, hw⟩; obtain rfl := hw.symm)))
    | (go_at_call 9; (refine (cwProg HC1.out (some ⟨w1.heap.size, 0, none⟩) 2 HCd.out (by decide) (by decide) (by decide) (by intro j hj; have : j = 0 ∨ j = 1 := (by have h9 : j < 2 := hj; omega); rcases this with rfl | rfl <;> decide) (by intro ad e; cases e; have := HL.out; exact ⟨by show w1.heap.size ≠ b; omega, by show w1.heap.size ≠ g; omega⟩) 2 2 1 (by decide) (by decide)).mono ?_); rintro e w3 ⟨rfl, HC3z, _, _⟩; have HC3 : Aside0 (Cw w w3 g b [(-31, -31), (-31, -21)] [0, 5] 1) := (show progL (List.replicate 2 (0, 0)) [0, 5] 2 = [(-31, -31), (-31, -21)] from by decide) ▸ HC3z; clear HC1 HCd HL HC3z)
    | (go_at_call 11; (have hd := cwDriftYes HC3.out 0 (by decide) 2 0 (by decide) (by decide) (by decide) (by decide) (by decide) (by decide)); rw [fd_zero, ← HL2.out] at hd; (refine hd.mono ?_); rintro e w4 ⟨rfl, HC4z, _, _⟩; have HC4 : Aside0 (Cw w w4 g b [(-29, -31), (-31, -21)] [0, 5] 1) := HC4z; clear hd HC3 HC4z)
    | (go_at_call 10; (refine (cwWrong HC4.out (by intro j hj; have : j = 0 ∨ j = 1 := (by have h9 : j < 2 := hj; omega); rcases this with rfl | rfl <;> decide)).mono ?_); rintro e w5 ⟨v, rfl, HR5, HB5⟩; have HC5 := Aside0.mk (HC4.out.below HB5.out); obtain ⟨A5, c5, e5, hC5⟩ := R_len (L := [0]) ((show wrongL [(-29, -31), (-31, -21)] [0, 5] 2 = [0] from by decide) ▸ HR5.out); subst e5; obtain ⟨ad5, e6, hx5z⟩ := at_num hC5 0 (by decide); have hx5 : w5.cell? (ad5.add 0) = some (.int .i64 0) := hx5z; clear hx5z; cases e6; clear HR5 HB5 hC5 HC4)
    | (go_at_call 12; (refine (cwSense HC5.out (by decide)).mono ?_); rintro e w6 ⟨q6, c6, rfl, hc6, hq6, HV6, HB6⟩; have HC6 := Aside0.mk (HC5.out.below HB6.out); have hx6 : w6.cell? ⟨q6, 0, none⟩ = some (.complex .f64 (fd (-29) 0) (fd (-31) 0)) := HV6.out.cell (i := 0) (by decide); have hx5' := (HB6.out.cell (World.block_lt_of_cell? w5 _ hx5)).trans hx5; have hx5b : w6.cell? ad5 = some (.int .i64 0) := ((show ad5.add 0 = ad5 from by cases ad5; simp [Addr.add]) ▸ hx5'); clear HC5 hx5))
  go_ret
  exact ⟨rfl, HC6.out.bel⟩
theorem refOfC (s : Int) (h0 : 0 ≤ s) (h1 : s < 1024) (w : World) : Calls Try.prog 14 #[.int .u16 s] w fun e w' => e = .returned (ptV (ofPt s)) ∧ w' = w := by
  have ha := and1023 h0 (by omega : s ≤ 65535)
  rw [show s % 1024 = s by omega] at ha
  have hb := and31 h0 (by omega : s < 65536)
  have f1 := fd_int (2 * (s / 32) - 31)
  have f2 := fd_int (2 * (s % 32) - 31)
  have q0 : 0 ≤ s / 32 := by omega
  have q1 : s / 32 ≤ 31 := by omega
  have q2 : 0 ≤ s % 32 := by omega
  have q3 : s % 32 ≤ 31 := by omega
  unfold ptV ofPt
  simp only
  generalize fd (2 * (s / 32) - 31) 0 = X at *
  generalize fd (2 * (s % 32) - 31) 0 = Y at *
  go_enter Try.func14, Try.ntmps14
  go_wp2
  go_ret
  exact ⟨rfl, rfl⟩
theorem partC {v : Int} (h : v.natAbs < 2 ^ 50) (w : World) : Calls Try.prog 24 #[.float .f64 (fd v 0)] w fun o w' => o = .returned (.int .u16 (lv ((v + 32) / 2))) ∧ w' = w := by
  have oe := ord_eq (ord_int (a := v) (b := v) (by omega) (by omega)) rfl
  obtain ⟨y, z, V, e, hd, ha, hz, he, hn, hb⟩ := lev_int h
  have kd : ∀ t w, (binOp .quo t (.float .f64 (fd v 0)) (.float .f64 4611686018427387904)).run Try.prog w = .ok (.float .f64 y) w := fun t w => run_float_arith w .quo t .f64 _ _ y (by rw [lit2]; exact hd)
  have ka : ∀ t w, (binOp .add t (.float .f64 4625196817309499392) (.float .f64 y)).run Try.prog w = .ok (.float .f64 z) w := fun t w => run_float_arith w .add t .f64 _ y z (by rw [lit16]; exact ha)
  have hf : ∀ w, Calls Try.prog 30 #[.float .f64 z] w fun o w' => o = .returned (.float .f64 (fd ((v + 32) / 2) 0)) ∧ w' = w := fun w => by rw [← hn]; exact floorC hz he w
  have HF := Aside0.mk hf
  have hnb : ((v + 32) / 2).natAbs < 2 ^ 53 := by omega
  generalize (v + 32) / 2 = n at *
  clear hf hd ha hz hn he hb h
  have o31 := ord_int (a := n) (b := 31) hnb (by decide)
  have o0 := ord_int (a := n) (b := 0) hnb (by decide)
  rw [← lit31] at o31
  rw [fd_zero] at o0
  by_cases h0 : n < 0
  · have p0 := ord_lt o0 h0
    rw [lv_lo h0]
    clear o0 o31 hnb h0
    generalize fd v 0 = x at *
    generalize fd n 0 = y9 at *
    go_enter Try.func24, Try.ntmps24
    go_wp2_with (first | (go_at_call 30; (refine (HF.out _).mono ?_); rintro o w2 ⟨rfl, hw⟩; obtain rfl := hw.symm) | simp only [kd, ka])
    go_ret
    exact ⟨rfl, rfl⟩
  · have p0 := ord_ge o0 (by omega)
    by_cases h1 : 31 < n
    · have p1 := ord_gt o31 h1
      rw [lv_hi h1]
      clear o0 o31 hnb h0 h1
      generalize fd v 0 = x at *
      generalize fd n 0 = y9 at *
      rcases p0 with p0 | p0
      all_goals (
        go_enter Try.func24, Try.ntmps24
        go_wp2_with (first | (go_at_call 30; (refine (HF.out _).mono ?_); rintro o w2 ⟨rfl, hw⟩; obtain rfl := hw.symm) | simp only [kd, ka])
        go_ret
        exact ⟨rfl, rfl⟩)
    · have p1 := ord_le o31 (by omega)
      have kc := toU16 (n := n) (by omega) (by omega)
      rw [lv_mid (by omega) (by omega)]
      clear o0 o31 hnb h0 h1
      generalize fd v 0 = x at *
      generalize fd n 0 = y9 at *
      rcases p0 with p0 | p0 <;> rcases p1 with p1 | p1
      all_goals (
        go_enter Try.func24, Try.ntmps24
        go_wp2_with (first | (go_at_call 30; (refine (HF.out _).mono ?_); rintro o w2 ⟨rfl, hw⟩; obtain rfl := hw.symm) | simp only [kd, ka, kc])
        go_ret
        exact ⟨rfl, rfl⟩)
theorem refSliceC {x y : Int} (hx : x.natAbs < 2 ^ 50) (hy : y.natAbs < 2 ^ 50) (w : World) : Calls Try.prog 13 #[.complex .f64 (fd x 0) (fd y 0)] w fun o w' => o = .returned (.int .u16 (symP (x, y))) ∧ w' = w := by
  obtain ⟨a0, a1⟩ := lv_range ((x + 32) / 2)
  obtain ⟨b0, b1⟩ := lv_range ((y + 32) / 2)
  have ho := or_five a0 a1 b0 b1
  have HX := Aside0.mk (partC hx)
  have HY := Aside0.mk (partC hy)
  unfold symP
  simp only
  generalize lv ((x + 32) / 2) = a at *
  generalize lv ((y + 32) / 2) = b at *
  generalize fd x 0 = xx at *
  generalize fd y 0 = yy at *
  clear hx hy
  go_enter Try.func13, Try.ntmps13
  go_wp2_with (first | (go_at_call 24; (first | (with_reducible refine (HX.out _).mono ?_; rintro e w2 ⟨rfl, hw⟩; obtain rfl := hw.symm; clear HX) | (with_reducible refine (HY.out _).mono ?_; rintro e w2 ⟨rfl, hw⟩; obtain rfl := hw.symm))))
  go_ret
  exact ⟨rfl, rfl⟩
end Go.Proofs.Ytfdeaepelhbhiaa.M
