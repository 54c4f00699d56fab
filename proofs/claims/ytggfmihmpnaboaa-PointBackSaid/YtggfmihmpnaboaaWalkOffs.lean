/- The walk of PointOffs: what a point is off and its symbol make the point again, of whole numbers. -/
import Derived.Test.YtggfmihmpnaboaaG
namespace Go.Proofs.Ytggfmihmpnaboaa.M
open Go.RowKit Go.Proofs.YtggfmihmpnaboaaW.PrintWords Go.Proofs.YtggfmihmpnaboaaW.PrintLast Go.Proofs.YtggfmihmpnaboaaW.PrintMore Go.Proofs.Ytggfmihmpnaboaa.Rw Go.Proofs.Ytggfmihmpnaboaa.Fl
set_option linter.unusedVariables false
set_option linter.unusedSimpArgs false
theorem ofM {a h l : Int} (hA : a % 1024 = 32 * h + l) (b0 : 0 ≤ a) (b1 : a ≤ 65535) (h0 : 0 ≤ h) (h1 : h ≤ 31) (l0 : 0 ≤ l) (l1 : l ≤ 31) (w : World) : Calls Try.prog 11 #[.int .u16 a] w fun e w' => e = .returned (.complex .f64 (fd (2 * h - 31) 0) (fd (2 * l - 31) 0)) ∧ w' = w := by
  have h2 := ofC a b0 b1 w
  have e1 : a % 1024 / 32 = h := by omega
  have e2 : a % 1024 % 32 = l := by omega
  unfold ptR ptI at h2
  rw [e1, e2] at h2
  exact h2
theorem offM {a h l p q : Int} (hA : a % 1024 = 32 * h + l) (b0 : 0 ≤ a) (b1 : a ≤ 65535) (h0 : 0 ≤ h) (h1 : h ≤ 31) (l0 : 0 ≤ l) (l1 : l ≤ 31) (hp : p.natAbs < 2 ^ 50) (hq : q.natAbs < 2 ^ 50) (w : World) :
    Calls Try.prog 15 #[.int .u16 a, .complex .f64 (fd p 0) (fd q 0)] w fun e w' => e = .returned (.complex .f64 (fd (p - (2 * h - 31)) 0) (fd (q - (2 * l - 31)) 0)) ∧ w' = w := by
  have e1 : a % 1024 / 32 = h := by omega
  have e2 : a % 1024 % 32 = l := by omega
  refine offC a b0 b1 ?_ ?_ w
  · unfold ptR; rw [e1]
    exact sub_is (is_fd p 0 (by omega) (by decide) (by decide)) (is_fd (2 * h - 31) 0 (by omega) (by decide) (by decide)) (by omega) (by decide) (by decide)
  · unfold ptI; rw [e2]
    exact sub_is (is_fd q 0 (by omega) (by decide) (by decide)) (is_fd (2 * l - 31) 0 (by omega) (by decide) (by decide)) (by omega) (by decide) (by decide)
set_option maxHeartbeats 3200000 in
theorem offs_walk (a0 : Int) (a1_0 : Int) (a1_1 : Int) (w : World) (w0 : (Lit.int .u16 a0).wf = true) (wa1_0 : (Lit.int .i16 a1_0).wf = true) (wa1_1 : (Lit.int .i16 a1_1).wf = true) :
    Calls Try.prog 7 #[.int .u16 a0, .agg #[.int .i16 a1_0, .int .i16 a1_1]] w fun e w' => e = .returned (.bool true) ∧ Below w.heap.size w w' := by
  obtain ⟨b00, b01⟩ := bounds_u16 w0
  obtain ⟨b10, b11⟩ := bounds_i16 wa1_0
  obtain ⟨b20, b21⟩ := bounds_i16 wa1_1
  have hm0 := and1023 b00 b01
  obtain ⟨h, l, hA, p1, p2, p3, p4⟩ := fives a0
  obtain ⟨A, hA'⟩ : ∃ A, a0 % 1024 = A := ⟨_, rfl⟩
  have HS := Aside0.mk (ofM hA b00 b01 p1 p2 p3 p4)
  have HO1 := Aside0.mk (offM (p := a1_0) (q := a1_1) hA b00 b01 p1 p2 p3 p4 (by omega) (by omega))
  have ho2 := (offM (p := 2 * h - 31) (q := 2 * l - 31) hA b00 b01 p1 p2 p3 p4 (by omega) (by omega))
  simp only [Int.sub_self, fd_zero] at ho2
  have HO2 := Aside0.mk ho2
  rw [hA'] at hA hm0
  have HSA := Aside0.mk (ofS hA p1 p2 p3 p4)
  have ka := fun (t : TypeId) (w : World) => cadd (P := Try.prog) (a := a1_0 - (2 * h - 31)) (b := a1_1 - (2 * l - 31)) (c := 2 * h - 31) (d := 2 * l - 31) (by omega) (by omega) (by omega) (by omega) t w
  simp only [Int.sub_add_cancel] at ka
  have f0 := fd_int a1_0
  have f1 := fd_int a1_1
  have x0 := ord_eq (ord_int (a := a1_0) (b := a1_0) (by omega) (by omega)) rfl
  have x1 := ord_eq (ord_int (a := a1_1) (b := a1_1) (by omega) (by omega)) rfl
  have u0 := ord_eq (ord_int (a := 2 * h - 31) (b := 2 * h - 31) (by omega) (by omega)) rfl
  have u1 := ord_eq (ord_int (a := 2 * l - 31) (b := 2 * l - 31) (by omega) (by omega)) rfl
  have c0 := ord_eqb (ord_int (a := a1_0) (b := 2 * h - 31) (by omega) (by omega))
  have c1 := ord_eqb (ord_int (a := a1_1) (b := 2 * l - 31) (by omega) (by omega))
  have d0 := ord_eqb (ord_int (a := a1_0 - (2 * h - 31)) (b := 0) (by omega) (by omega))
  have d1 := ord_eqb (ord_int (a := a1_1 - (2 * l - 31)) (b := 0) (by omega) (by omega))
  have e0 : decide (a1_0 - (2 * h - 31) = 0) = decide (a1_0 = 2 * h - 31) := decide_eq_decide.2 (by omega)
  have e1 : decide (a1_1 - (2 * l - 31) = 0) = decide (a1_1 = 2 * l - 31) := decide_eq_decide.2 (by omega)
  rw [e0, fd_zero] at d0
  rw [e1, fd_zero] at d1
  have z0 : FloatKind.f64.format.order 0 0 = some .eq := by decide +kernel
  have HBa := Aside0.mk (below_alloc (Below.refl w.heap.size w) (.cells #[.int .i16 a1_0, .int .i16 a1_1] 37 (0, 0)))
  clear hA hA' ho2 e0 e1 w0 wa1_0 wa1_1
  generalize fd (a1_0 - (2 * h - 31)) 0 = s0 at *
  generalize fd (a1_1 - (2 * l - 31)) 0 = s1 at *
  generalize fd (2 * h - 31) 0 = r0 at *
  generalize fd (2 * l - 31) 0 = r1 at *
  generalize fd a1_0 0 = y0 at *
  generalize fd a1_1 0 = y1 at *
  generalize decide (a1_0 = 2 * h - 31) = g0 at *
  generalize decide (a1_1 = 2 * l - 31) = g1 at *
  clear p1 p2 p3 p4
  go_enter Try.func7, Try.ntmps7
  go_wp2_with (first
    | (go_at_call 10; (refine (awakeC _).mono ?_); rintro o w2 ⟨rfl, hw⟩; obtain rfl := hw.symm)
    | (go_at_call 15; (first | (with_reducible refine (HO1.out _).mono ?_; rintro o w2 ⟨rfl, hw⟩; obtain rfl := hw.symm) | (with_reducible refine (HO2.out _).mono ?_; rintro o w2 ⟨rfl, hw⟩; obtain rfl := hw.symm)))
    | (go_at_call 11; (first | (with_reducible refine (HS.out _).mono ?_; rintro o w2 ⟨rfl, hw⟩; obtain rfl := hw.symm) | (with_reducible refine (HSA.out _).mono ?_; rintro o w2 ⟨rfl, hw⟩; obtain rfl := hw.symm)))
    | simp only [ka])
  go_ret
  exact ⟨rfl, HBa.out⟩
end Go.Proofs.Ytggfmihmpnaboaa.M
