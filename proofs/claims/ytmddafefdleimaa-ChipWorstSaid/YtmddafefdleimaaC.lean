/- The points: coordinates, levels, symbols' points; by hand. -/
import Derived.Test.YtmddafefdleimaaProg
import Derived.Test.YtmddafefdleimaaRw
import Derived.Test.YtmddafefdleimaaFl
import Derived.Laws.Externs
import Derived.Laws.BitsAllLaws
import Derived.WalkKit
import Derived.WalkSpells
import Derived.BigQuiet
import Derived.Deep.QuietTactic
namespace Go.Proofs.Ytmddafefdleimaa.M
open Go.RowKit Go.Proofs.YtmddafefdleimaaW.PrintWords Go.Proofs.YtmddafefdleimaaW.PrintLast Go.Proofs.YtmddafefdleimaaW.PrintMore Go.Proofs.Ytmddafefdleimaa.Rw Go.Proofs.Ytmddafefdleimaa.Fl
set_option linter.unusedVariables false
set_option linter.unusedSimpArgs false
theorem lit2 : (4611686018427387904 : Nat) = fd 2 0 := by rw [fd_eq]; decide +kernel
theorem lit16 : (4625196817309499392 : Nat) = fd 16 0 := by rw [fd_eq]; decide +kernel
theorem lit31 : (4629418941960159232 : Nat) = fd 31 0 := by rw [fd_eq]; decide +kernel
theorem lit0 : (0 : Nat) = fd 0 0 := (fd_zero 0).symm
theorem coordC (n : Int) (h0 : 0 ≤ n) (h1 : n ≤ 31) (w : World) : Calls Try.prog 61 #[.int .u16 n] w fun e w' => e = .returned (.float .f64 (fd (2 * n - 31) 0)) ∧ w' = w := by
  rw [← fd_int]
  go_enter Try.func61, Try.ntmps61
  go_wp2
  go_ret
  exact ⟨rfl, rfl⟩
theorem and31 {a : Int} (h0 : 0 ≤ a) (h1 : a < 65536) : bits .and .u16 a 31 = a % 32 := by
  rw [u16_and a 31 h0 h1 (by decide) (by decide)]
  show ((a.toNat &&& 2 ^ 5 - 1 : Nat) : Int) = _
  rw [Nat.and_two_pow_sub_one_eq_mod]
  omega
/-- a symbol's point -/
noncomputable abbrev ptR (s : Int) : Nat := fd (2 * (s % 1024 / 32) - 31) 0
noncomputable abbrev ptI (s : Int) : Nat := fd (2 * (s % 1024 % 32) - 31) 0
theorem ofC (s : Int) (h0 : 0 ≤ s) (h1 : s ≤ 65535) (w : World) : Calls Try.prog 53 #[.int .u16 s] w fun e w' => e = .returned (.complex .f64 (ptR s) (ptI s)) ∧ w' = w := by
  have ha : 0 ≤ s % 1024 / 32 := by omega
  have hb : s % 1024 / 32 ≤ 31 := by omega
  have hc : 0 ≤ s % 1024 % 32 := by omega
  have hd : s % 1024 % 32 ≤ 31 := by omega
  have hk0 : 0 ≤ s % 1024 := by omega
  have hk1 : s % 1024 < 1024 := by omega
  have hb31 := and31 hk0 (by omega : s % 1024 < 65536)
  unfold ptR ptI
  obtain ⟨a, hA⟩ : ∃ a, s % 1024 / 32 = a := ⟨_, rfl⟩
  obtain ⟨b, hB⟩ : ∃ b, s % 1024 % 32 = b := ⟨_, rfl⟩
  rw [hA] at ha hb ⊢
  rw [hB] at hb31 hc hd ⊢
  have HCa := Aside0.mk (coordC a ha hb)
  have HCb := Aside0.mk (coordC b hc hd)
  clear hB
  go_enter Try.func53, Try.ntmps53
  go_wp2_with (first | (go_at_call 61; (first | (refine (HCa.out _).mono ?_; rintro e w2 ⟨rfl, rfl⟩; clear HCa) | (refine (HCb.out _).mono ?_; rintro e w2 ⟨rfl, rfl⟩))))
  go_ret
  exact ⟨rfl, rfl⟩
theorem archFloor_num {P : Program} {x : Nat} {s : Bool} {m : Nat} {i : Int} (nm : String) (way : Ieee.Toward) (h : Ieee.double.read x = .number s m i) (w : World) :
    (Extern.MathFloor.toIntegral nm way #[.float .f64 x]).run P w = .ok (.float .f64 (Ieee.double.write ((Ieee.double.read x).integral way))) w := by
  have h' : FloatKind.f64.decode x = .number s m i := h
  have e : ∃ (A : Bool → Nat → Sem Value), Extern.MathFloor.toIntegral nm way #[.float .f64 x] = Extern.MathFloor.toIntegral.match_1 (fun _ => Sem Value) (FloatKind.f64.decode x) A (fun d => pure (.float .f64 (FloatKind.f64.encode (d.integral way)))) := ⟨_, rfl⟩
  obtain ⟨A, e⟩ := e
  rw [e, h', h]
  rfl
/-- math.Floor -/
theorem floorC {x : Nat} {v e : Int} (hx : Is x v e) (he : e ≤ 0) (w : World) : Calls Try.prog 71 #[.float .f64 x] w fun o w' => o = .returned (.float .f64 (fd (v / (2 : Int) ^ (-e).toNat) 0)) ∧ w' = w := by
  have h27 := @run_callFunc_extern Try.prog 72 _ (Extern.MathFloor.toIntegral "math.archFloor" .down) Try.func72 (by kernel_rfl) (by kernel_rfl) (by kernel_rfl) (by kernel_rfl)
  have hr : ∀ w, (Extern.MathFloor.toIntegral "math.archFloor" .down #[.float .f64 x]).run Try.prog w = .ok (.float .f64 (fd (v / (2 : Int) ^ (-e).toNat) 0)) w := by
    intro w
    obtain ⟨m, i, hn, hi, hm⟩ := hx
    rw [archFloor_num "math.archFloor" .down hn, floor_is ⟨m, i, hn, hi, hm⟩ he]; rw [fd_eq]; rfl
  generalize fd (v / (2 : Int) ^ (-e).toNat) 0 = y at *
  clear hx he
  go_enter Try.func71, Try.ntmps71
  go_wp2
  go_ret
  exact ⟨rfl, rfl⟩
/-- five bits -/
def lv (n : Int) : Int := if 31 < n then 31 else if 0 < n then n else 0
theorem toU16 {n : Int} (h0 : 0 ≤ n) (h1 : n ≤ 31) (w : World) : (convert 84 40 (.float .f64 (fd n 0))).run Try.prog w = .ok (.int .u16 n) w := by
  refine run_convert_float_int w 84 40 .f64 .u16 _ n (by rw [Try.underlying84]; rfl) Try.underlying40 ?_
  have h2 := toInt_is (is_fd n 0 (by omega) (by decide) (by decide))
  unfold floatToIntVal
  rw [show (FloatKind.f64.decode (fd n 0)).toInt .zero = some n from h2]
  have h3 : IntKind.u16.min = 0 := by decide
  have h4 : IntKind.u16.max = 65535 := by decide
  simp only [h3, h4]
  rw [if_pos ⟨h0, by omega⟩]
/-- what is nearest -/
theorem levelC {x y z : Nat} {v e n : Int} (hd : Ieee.double.div x (fd 2 0) = some y) (ha : Ieee.double.add (fd 16 0) y = some z) (hz : Is z v e) (he : e ≤ 0) (hn : v / (2 : Int) ^ (-e).toNat = n) (hb : n.natAbs < 2 ^ 53) (w : World) :
    Calls Try.prog 69 #[.float .f64 x] w fun o w' => o = .returned (.int .u16 (lv n)) ∧ w' = w := by
  have kd : ∀ t w, (binOp .quo t (.float .f64 x) (.float .f64 4611686018427387904)).run Try.prog w = .ok (.float .f64 y) w := fun t w => run_float_arith w .quo t .f64 x _ y (by rw [lit2]; exact hd)
  have ka : ∀ t w, (binOp .add t (.float .f64 4625196817309499392) (.float .f64 y)).run Try.prog w = .ok (.float .f64 z) w := fun t w => run_float_arith w .add t .f64 _ y z (by rw [lit16]; exact ha)
  have o31 : FloatKind.f64.format.order (fd n 0) 4629418941960159232 = some (compare n 31) := by rw [lit31]; exact order_is (is_fd n 0 hb (by decide) (by decide)) (is_fd 31 0 (by decide) (by decide) (by decide))
  have o0 : FloatKind.f64.format.order (fd n 0) 0 = some (compare n 0) := by
    have h := order_is (is_fd n 0 hb (by decide) (by decide)) (is_fd 0 0 (by decide) (by decide) (by decide))
    rw [fd_zero] at h; exact h
  have hf : ∀ w, Calls Try.prog 71 #[.float .f64 z] w fun o w' => o = .returned (.float .f64 (fd n 0)) ∧ w' = w := fun w => by rw [← hn]; exact floorC hz he w
  have HF := Aside0.mk hf
  clear hf hd ha hz hn he
  by_cases h1 : 31 < n
  · have c1 : (some (compare n 31) == some Ordering.gt) = true := by rw [Int.compare_eq_gt.2 h1]; rfl
    rw [show lv n = 31 from if_pos h1]
    go_enter Try.func69, Try.ntmps69
    go_wp2_with (first | (go_at_call 71; (refine (HF.out _).mono ?_); rintro o w2 ⟨rfl, rfl⟩) | simp only [kd, ka])
    go_ret
    exact ⟨rfl, rfl⟩
  · have c1 : (some (compare n 31) == some Ordering.gt) = false := by
      cases h2 : compare n 31 with
      | gt => exact absurd (Int.compare_eq_gt.1 h2) h1
      | eq => rfl
      | lt => rfl
    by_cases h0 : 0 < n
    · have c0 : (some (compare n 0) == some Ordering.gt) = true := by rw [Int.compare_eq_gt.2 h0]; rfl
      have kc := toU16 (n := n) (by omega) (by omega)
      rw [show lv n = n from by unfold lv; rw [if_neg h1, if_pos h0]]
      go_enter Try.func69, Try.ntmps69
      go_wp2_with (first | (go_at_call 71; (refine (HF.out _).mono ?_); rintro o w2 ⟨rfl, rfl⟩) | simp only [kd, ka, kc])
      go_ret
      exact ⟨rfl, rfl⟩
    · have c0 : (some (compare n 0) == some Ordering.gt) = false := by
        cases h2 : compare n 0 with
        | gt => exact absurd (Int.compare_eq_gt.1 h2) h0
        | eq => rfl
        | lt => rfl
      rw [show lv n = 0 from by unfold lv; rw [if_neg h1, if_neg h0]]
      go_enter Try.func69, Try.ntmps69
      go_wp2_with (first | (go_at_call 71; (refine (HF.out _).mono ?_); rintro o w2 ⟨rfl, rfl⟩) | simp only [kd, ka])
      go_ret
      exact ⟨rfl, rfl⟩
/-- the floor of 16 + x / 2 -/
def Lev (x : Nat) (n : Int) : Prop := ∃ y z v e, Ieee.double.div x (fd 2 0) = some y ∧ Ieee.double.add (fd 16 0) y = some z ∧ Is z v e ∧ e ≤ 0 ∧ v / (2 : Int) ^ (-e).toNat = n ∧ n.natAbs < 2 ^ 53
theorem lev_int {v : Int} (h : v.natAbs < 2 ^ 50) : Lev (fd v 0) ((v + 32) / 2) := by
  have h53 : v.natAbs < 2 ^ 53 := by omega
  have h16 : fd 16 0 = fd 32 (-1) := (fd_finer 16 1 0 (by decide) (by decide) (by decide)).symm
  refine ⟨_, _, 32 + v, -1, half_fd h53 (by decide) (by decide), ?_, is_fd (32 + v) (-1) (by omega) (by decide) (by decide), by decide, ?_, by omega⟩
  · rw [h16]; exact add_is (is_fd 32 (-1) (by decide) (by decide) (by decide)) (is_fd v (0 - 1) h53 (by decide) (by decide)) (by omega) (by decide) (by decide)
  · rw [Int.add_comm]; rfl
theorem levelL {x : Nat} {n : Int} (h : Lev x n) (w : World) : Calls Try.prog 69 #[.float .f64 x] w fun o w' => o = .returned (.int .u16 (lv n)) ∧ w' = w := by
  obtain ⟨y, z, v, e, h1, h2, h3, h4, h5, h6⟩ := h
  exact levelC h1 h2 h3 h4 h5 h6 w
theorem lv_range (n : Int) : 0 ≤ lv n ∧ lv n ≤ 31 := by unfold lv; split <;> (try split) <;> omega
theorem or_low {a b : Nat} (hb : b < 32) (ha : a < 32) : (a * 32 ||| b) = a * 32 + b := by
  have h := Nat.two_pow_add_eq_or_of_lt (i := 5) (b := b) (by omega) a
  rw [Nat.mul_comm a 32]; exact h.symm
theorem or_five {a b : Int} (ha0 : 0 ≤ a) (ha : a ≤ 31) (hb0 : 0 ≤ b) (hb : b ≤ 31) : bits .or .u16 (a * 32) b = a * 32 + b := by
  rw [u16_or _ _ (by omega) (by omega) hb0 (by omega)]
  have h1 : (a * 32).toNat = a.toNat * 32 := by omega
  rw [h1, or_low (by omega) (by omega)]
  omega
/-- the symbol that a point is nearest -/
theorem sliceC {x y : Nat} {n m : Int} (hx : Lev x n) (hy : Lev y m) (w : World) : Calls Try.prog 64 #[.complex .f64 x y] w fun o w' => o = .returned (.int .u16 (lv n * 32 + lv m)) ∧ w' = w := by
  obtain ⟨a0, a1⟩ := lv_range n
  obtain ⟨b0, b1⟩ := lv_range m
  have ho := or_five a0 a1 b0 b1
  have HX := Aside0.mk (levelL hx)
  have HY := Aside0.mk (levelL hy)
  generalize lv n = a at *
  generalize lv m = b at *
  clear hx hy
  go_enter Try.func64, Try.ntmps64
  go_wp2_with (first | (go_at_call 69; (first | (refine (HX.out _).mono ?_; rintro e w2 ⟨rfl, rfl⟩; clear HX) | (refine (HY.out _).mono ?_; rintro e w2 ⟨rfl, rfl⟩))))
  go_ret
  exact ⟨rfl, rfl⟩
end Go.Proofs.Ytmddafefdleimaa.M
