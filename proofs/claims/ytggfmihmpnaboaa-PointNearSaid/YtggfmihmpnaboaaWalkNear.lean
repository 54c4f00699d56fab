/- The walk of PointNear: of whole points on the grid and around it no other symbol is nearer, in either part. -/
import Derived.Test.YtggfmihmpnaboaaG
namespace Go.Proofs.Ytggfmihmpnaboaa.M
open Go.RowKit Go.Proofs.YtggfmihmpnaboaaW.PrintWords Go.Proofs.YtggfmihmpnaboaaW.PrintLast Go.Proofs.YtggfmihmpnaboaaW.PrintMore Go.Proofs.Ytggfmihmpnaboaa.Rw Go.Proofs.Ytggfmihmpnaboaa.Fl
set_option linter.unusedVariables false
set_option linter.unusedSimpArgs false
theorem sq_small {u : Int} (h : u.natAbs ≤ 1000) : (u * u).natAbs < 2 ^ 53 := by
  rw [Int.natAbs_mul]
  have := Nat.mul_le_mul h h
  omega
theorem sq_le {u v : Int} (h : u.natAbs ≤ v.natAbs) : u * u ≤ v * v := by
  have h2 := Nat.mul_le_mul h h
  have e1 : u * u = ((u.natAbs * u.natAbs : Nat) : Int) := (Int.natAbs_mul_self).symm
  have e2 : v * v = ((v.natAbs * v.natAbs : Nat) : Int) := (Int.natAbs_mul_self).symm
  rw [e1, e2]; exact Int.ofNat_le.2 h2
theorem nearC {u v : Int} (hu : u.natAbs ≤ 1000) (hv : v.natAbs ≤ 1000) (h : u.natAbs ≤ v.natAbs) (w : World) : Calls Try.prog 13 #[.float .f64 (fd u 0), .float .f64 (fd v 0)] w fun o w' => o = .returned (.bool true) ∧ w' = w := by
  have k1 : ∀ t w, (binOp .mul t (.float .f64 (fd u 0)) (.float .f64 (fd u 0))).run Try.prog w = .ok (.float .f64 (fd (u * u) 0)) w := fun t w => run_float_arith w .mul t .f64 _ _ _ (sq_is (is_fd u 0 (by omega) (by decide) (by decide)) (sq_small hu) (by decide) (by decide))
  have k2 : ∀ t w, (binOp .mul t (.float .f64 (fd v 0)) (.float .f64 (fd v 0))).run Try.prog w = .ok (.float .f64 (fd (v * v) 0)) w := fun t w => run_float_arith w .mul t .f64 _ _ _ (sq_is (is_fd v 0 (by omega) (by decide) (by decide)) (sq_small hv) (by decide) (by decide))
  have ho := ord_le (ord_int (a := u * u) (b := v * v) (sq_small hu) (sq_small hv)) (sq_le h)
  generalize fd (u * u) 0 = uu at *
  generalize fd (v * v) 0 = vv at *
  generalize fd u 0 = x at *
  generalize fd v 0 = y at *
  clear hu hv h
  rcases ho with ho | ho
  all_goals (
    go_enter Try.func13, Try.ntmps13
    go_wp2_with (simp only [k1, k2])
    go_ret
    exact ⟨rfl, rfl⟩)
theorem lv_near {p h : Int} (h0 : 0 ≤ h) (h1 : h ≤ 31) : (p - (2 * lv ((p + 32) / 2) - 31)).natAbs ≤ (p - (2 * h - 31)).natAbs := by
  unfold lv; split
  · omega
  · split <;> omega
theorem odd_pt {h : Int} (h0 : 0 ≤ h) (h1 : h ≤ 31) : oddB (2 * h - 31) 0 = true := by
  unfold oddB
  rw [decide_eq_true (by omega), decide_eq_true (by omega)]; rfl
set_option maxHeartbeats 3200000 in
theorem near_walk (a0_0 : Int) (a0_1 : Int) (a1 : Int) (w : World) (wa0_0 : (Lit.int .i8 a0_0).wf = true) (wa0_1 : (Lit.int .i8 a0_1).wf = true) (w1 : (Lit.int .u16 a1).wf = true) :
    Calls Try.prog 3 #[.agg #[.int .i8 a0_0, .int .i8 a0_1], .int .u16 a1] w fun e w' => e = .returned (.bool true) ∧ Below w.heap.size w w' := by
  obtain ⟨b00, b01⟩ := bounds_i8 wa0_0
  obtain ⟨b10, b11⟩ := bounds_i8 wa0_1
  obtain ⟨b20, b21⟩ := bounds_u16 w1
  obtain ⟨h, l, hA, p1, p2, p3, p4⟩ := fives a1
  have hs := sliceI (V := a0_0) (W := a0_1) (by omega) (by omega)
  have q1 := lv_near (p := a0_0) p1 p2
  have q2 := lv_near (p := a0_1) p3 p4
  obtain ⟨r1, r2⟩ := lv_range ((a0_0 + 32) / 2)
  obtain ⟨r3, r4⟩ := lv_range ((a0_1 + 32) / 2)
  generalize lv ((a0_0 + 32) / 2) = h' at *
  generalize lv ((a0_1 + 32) / 2) = l' at *
  have HSl := Aside0.mk hs
  have HA := Aside0.mk (fun w => ofS (A := h' * 32 + l') (h := h') (l := l') (by omega) r1 r2 r3 r4 w)
  have HB : Aside0 (∀ w, Calls Try.prog 11 #[.int .u16 a1] w fun e w' => e = .returned (.complex .f64 (fd (2 * h - 31) 0) (fd (2 * l - 31) 0)) ∧ w' = w) := ⟨fun w => by
    have h2 := ofC a1 b20 b21 w
    have e1 : a1 % 1024 / 32 = h := by omega
    have e2 : a1 % 1024 % 32 = l := by omega
    unfold ptR ptI at h2
    rw [e1, e2] at h2
    exact h2⟩
  have HN1 := Aside0.mk (nearC (u := a0_0 - (2 * h' - 31)) (v := a0_0 - (2 * h - 31)) (by omega) (by omega) q1)
  have HN2 := Aside0.mk (nearC (u := a0_1 - (2 * l' - 31)) (v := a0_1 - (2 * l - 31)) (by omega) (by omega) q2)
  have HG1 := Aside0.mk (gridI (V := 2 * h' - 31) (W := 2 * l' - 31) (by omega) (by omega) true (by rw [odd_pt r1 r2, odd_pt r3 r4]; rfl))
  have HG2 := Aside0.mk (gridI (V := 2 * h - 31) (W := 2 * l - 31) (by omega) (by omega) true (by rw [odd_pt p1 p2, odd_pt p3 p4]; rfl))
  have k1 := fun (t : TypeId) (w : World) => csub (P := Try.prog) (a := a0_0) (b := a0_1) (c := 2 * h' - 31) (d := 2 * l' - 31) (by omega) (by omega) (by omega) (by omega) t w
  have k2 := fun (t : TypeId) (w : World) => csub (P := Try.prog) (a := a0_0) (b := a0_1) (c := 2 * h - 31) (d := 2 * l - 31) (by omega) (by omega) (by omega) (by omega) t w
  have f0 := fd_int a0_0
  have f1 := fd_int a0_1
  have HBa := Aside0.mk (below_alloc (Below.refl w.heap.size w) (.cells #[.int .i8 a0_0, .int .i8 a0_1] 23 (0, 0)))
  clear hA hs q1 q2 wa0_0 wa0_1 w1
  generalize fd (a0_0 - (2 * h' - 31)) 0 = s0 at *
  generalize fd (a0_1 - (2 * l' - 31)) 0 = s1 at *
  generalize fd (a0_0 - (2 * h - 31)) 0 = s2 at *
  generalize fd (a0_1 - (2 * l - 31)) 0 = s3 at *
  generalize fd (2 * h - 31) 0 = x0 at *
  generalize fd (2 * l - 31) 0 = x1 at *
  generalize fd (2 * h' - 31) 0 = x2 at *
  generalize fd (2 * l' - 31) 0 = x3 at *
  generalize fd a0_0 0 = y0 at *
  generalize fd a0_1 0 = y1 at *
  generalize h' * 32 + l' = A at *
  clear p1 p2 p3 p4 r1 r2 r3 r4
  go_enter Try.func3, Try.ntmps3
  go_wp2_with (first
    | (go_at_call 10; (refine (awakeC _).mono ?_); rintro o w2 ⟨rfl, hw⟩; obtain rfl := hw.symm)
    | (go_at_call 12; (with_reducible refine (HSl.out _).mono ?_); rintro o w2 ⟨rfl, hw⟩; obtain rfl := hw.symm)
    | (go_at_call 11; (first | (with_reducible refine (HA.out _).mono ?_; rintro o w2 ⟨rfl, hw⟩; obtain rfl := hw.symm) | (with_reducible refine (HB.out _).mono ?_; rintro o w2 ⟨rfl, hw⟩; obtain rfl := hw.symm)))
    | (go_at_call 13; (first | (with_reducible refine (HN1.out _).mono ?_; rintro o w2 ⟨rfl, hw⟩; obtain rfl := hw.symm) | (with_reducible refine (HN2.out _).mono ?_; rintro o w2 ⟨rfl, hw⟩; obtain rfl := hw.symm)))
    | (go_at_call 14; (first | (with_reducible refine (HG1.out _).mono ?_; rintro o w2 ⟨rfl, hw⟩; obtain rfl := hw.symm) | (with_reducible refine (HG2.out _).mono ?_; rintro o w2 ⟨rfl, hw⟩; obtain rfl := hw.symm)))
    | simp only [k1, k2])
  go_ret
  exact ⟨rfl, HBa.out⟩
end Go.Proofs.Ytggfmihmpnaboaa.M
