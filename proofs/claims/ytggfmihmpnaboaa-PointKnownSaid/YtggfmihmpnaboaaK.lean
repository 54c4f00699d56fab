/- What is no number, and what is without end; by hand. -/
import Derived.Test.YtggfmihmpnaboaaG
namespace Go.Proofs.Ytggfmihmpnaboaa.M
open Go.RowKit Go.Proofs.YtggfmihmpnaboaaW.PrintWords Go.Proofs.YtggfmihmpnaboaaW.PrintLast Go.Proofs.YtggfmihmpnaboaaW.PrintMore Go.Proofs.Ytggfmihmpnaboaa.Rw Go.Proofs.Ytggfmihmpnaboaa.Fl
set_option linter.unusedVariables false
set_option linter.unusedSimpArgs false
/-- a word that is no number -/
def NaNW (x : Nat) : Prop := ∃ s t, Ieee.double.read x = .nan s t
theorem nan_word (s : Bool) {f : Nat} (h0 : 0 < f) (h1 : f < 2 ^ 52) : NaNW (Ieee.double.word s (2047 * 2 ^ 52 + f)) := by
  refine ⟨s, 2047 * 2 ^ 52 + f - 2047 * 2 ^ 52, ?_⟩
  rw [read_word _ _ (by omega), if_neg (by omega), if_neg (by omega), if_neg (by omega)]
theorem nan_cut (x y t : Nat) : NaNW ((Question.nanBits .f64 x y).cut t) := by
  have hm := Nat.mod_lt (t / 2) (show 0 < 2 ^ 52 - 1 by omega)
  have h := nan_word (t % 2 == 1) (f := 1 + (t / 2) % (2 ^ 52 - 1)) (by omega) (by omega)
  have e : (Question.nanBits .f64 x y).cut t = Ieee.double.word (t % 2 == 1) (2047 * 2 ^ 52 + (1 + (t / 2) % (2 ^ 52 - 1))) := by
    show t % 2 * 2 ^ 63 + 0x7ff0000000000000 + 1 + t / 2 % (2 ^ 52 - 1) = _
    rcases Nat.mod_two_eq_zero_or_one t with h2 | h2
    · rw [h2, show ((0 : Nat) == 1) = false from rfl, word_pos]; omega
    · rw [h2, show ((1 : Nat) == 1) = true from rfl, word_neg']; omega
  rw [e]; exact h
theorem nan_div {P : Program} {x y : Nat} (h : Ieee.double.div x y = none) (t : TypeId) (w : World) : ∃ r, NaNW r ∧ (binOp .quo t (.float .f64 x) (.float .f64 y)).run P w = .ok (.float .f64 r) w.drew := by
  refine ⟨_, nan_cut x y (w.tape w.drawn (.nanBits .f64 x y)), ?_⟩
  have h' : FloatKind.f64.format.div x y = none := h
  simp [binOp, Op.floatArith, h', Question.forced]
theorem nan_add {P : Program} {x y : Nat} (h : Ieee.double.add x y = none) (t : TypeId) (w : World) : ∃ r, NaNW r ∧ (binOp .add t (.float .f64 x) (.float .f64 y)).run P w = .ok (.float .f64 r) w.drew := by
  refine ⟨_, nan_cut x y (w.tape w.drawn (.nanBits .f64 x y)), ?_⟩
  have h' : FloatKind.f64.format.add x y = none := h
  simp [binOp, Op.floatArith, h', Question.forced]
theorem quiet_ne (t : Nat) : 0 < Ieee.double.quiet t % 2 ^ 52 := by
  have h : (Ieee.double.quiet t % 2 ^ 52).testBit 51 = true := by
    rw [Nat.testBit_mod_two_pow]
    have : (Ieee.double.quiet t).testBit 51 = true := by
      show (t ||| 2 ^ 51).testBit 51 = true
      rw [Nat.testBit_or, Nat.testBit_two_pow]; simp
    rw [this]; rfl
  rcases Nat.eq_zero_or_pos (Ieee.double.quiet t % 2 ^ 52) with h0 | h0
  · rw [h0] at h; simp at h
  · exact h0
theorem floor_nan {P : Program} {x : Nat} (nm : String) (way : Ieee.Toward) (hx : NaNW x) (w : World) : ∃ z n, NaNW z ∧ (Extern.MathFloor.toIntegral nm way #[.float .f64 x]).run P w = .ok (.float .f64 z) (w.drewN n) := by
  obtain ⟨s, t, h⟩ := hx
  have h' : FloatKind.f64.decode x = .nan s t := h
  obtain ⟨A, hA1, hA2, B, e⟩ : ∃ A : Bool → Nat → Sem Value, (∀ s t, FloatKind.f64.format.quiet t = t → A s t = pure (.float .f64 x)) ∧ (∀ s t, ¬ FloatKind.f64.format.quiet t = t → ∀ w, ∃ z, (z = x ∨ z = FloatKind.f64.encode (.nan s (FloatKind.f64.format.quiet t))) ∧ (A s t).run P w = .ok (.float .f64 z) w.drew) ∧ ∃ B, Extern.MathFloor.toIntegral nm way #[.float .f64 x] = Extern.MathFloor.toIntegral.match_1 (fun _ => Sem Value) (FloatKind.f64.decode x) A B := by
    refine ⟨_, ?h1, ?h2, _, rfl⟩
    case h1 => intro s t hq; exact if_pos hq
    case h2 =>
      intro s t hq w
      rw [if_neg hq]
      by_cases hk : ((Question.extern "math.Floor,Ceil,Trunc,RoundToEven.signallingNaN kept" 2).cut (w.tape w.drawn (.extern "math.Floor,Ceil,Trunc,RoundToEven.signallingNaN kept" 2)) == 1) = true
      · have hk2 := beq_iff_eq.1 hk
        exact ⟨x, .inl rfl, by simp [Question.forced, hk2]⟩
      · have hk2 : ¬ (_ = 1) := fun e => hk (beq_iff_eq.2 e)
        exact ⟨_, .inr rfl, by simp [Question.forced, hk2]⟩
  rw [e, h']
  by_cases hq : FloatKind.f64.format.quiet t = t
  · refine ⟨x, 0, ⟨s, t, h⟩, ?_⟩
    show (A s t).run P w = _
    rw [hA1 s t hq]; rfl
  · obtain ⟨z, hz, hr⟩ := hA2 s t hq w
    refine ⟨z, 1, ?_, hr⟩
    rcases hz with rfl | rfl
    · exact ⟨s, t, h⟩
    · exact nan_word s (quiet_ne t) (Nat.mod_lt _ (Nat.two_pow_pos 52))
theorem floorNaN {x : Nat} (hx : NaNW x) (w : World) : Calls Try.prog 24 #[.float .f64 x] w fun o w' => ∃ z n, o = .returned (.float .f64 z) ∧ NaNW z ∧ w' = w.drewN n := by
  have h27 := @run_callFunc_extern Try.prog 27 _ (Extern.MathFloor.toIntegral "math.archFloor" .down) Try.func27 (by kernel_rfl) (by kernel_rfl) (by kernel_rfl) (by kernel_rfl)
  obtain ⟨z, n, hz, hr⟩ := floor_nan (P := Try.prog) "math.archFloor" .down hx w
  have HZ := Aside0.mk hz
  clear hx hz
  go_enter Try.func24, Try.ntmps24
  go_wp2
  go_ret
  exact ⟨z, n, rfl, HZ.out, rfl⟩
theorem nan_order {x y : Nat} (hx : NaNW x) : FloatKind.f64.format.order x y = none := by
  obtain ⟨s, t, h⟩ := hx
  show (Ieee.double.read x).order (Ieee.double.read y) = none
  rw [h]; rfl
/-- five bits, whatever is drawn -/
def LevD (x : Nat) (n : Int) : Prop := ∀ w, Calls Try.prog 20 #[.float .f64 x] w fun o w' => o = .returned (.int .u16 n) ∧ ∃ m, w' = w.drewN m
theorem levNaN {x : Nat} (hx : NaNW x) : LevD x 0 := by
  intro w
  have h1 : Ieee.double.div x 4611686018427387904 = none := by
    obtain ⟨s, t, h⟩ := hx
    show ((Ieee.double.read x).quotient _ _).map _ = none
    rw [h]; rfl
  obtain ⟨r, hr, kd⟩ := nan_div (P := Try.prog) h1 27 w
  have h2 : Ieee.double.add 4625196817309499392 r = none := by
    obtain ⟨s, t, h⟩ := hr
    show ((Ieee.double.read 4625196817309499392).sum (Ieee.double.read r)).map _ = none
    rw [h, show Ieee.double.read 4625196817309499392 = .number false (2 ^ 52) (-48) from by decide +kernel]; rfl
  obtain ⟨r2, hr2, ka⟩ := nan_add (P := Try.prog) h2 27 w.drew
  have HF := Aside0.mk (fun w => floorNaN hr2 w)
  have HO := Aside0.mk (fun z y (hz : NaNW z) => nan_order (y := y) hz)
  clear h1 h2 hr hr2 hx
  go_enter Try.func20, Try.ntmps20
  go_wp2_with (first | (go_at_call 24; (refine (HF.out _).mono ?_); rintro o w2 ⟨z, n, rfl, hz, rfl⟩; have o1 := HO.out z 4629418941960159232 hz; have o2 := HO.out z 0 hz; clear hz) | simp only [kd, ka])
  go_ret
  exact ⟨rfl, _, rfl⟩
theorem levInf (x : Nat) (n : Int) (hd : Ieee.double.div x 4611686018427387904 = some x) (ha : Ieee.double.add 4625196817309499392 x = some x) (hi : ∃ s, Ieee.double.read x = .infinity s) (hx : (x = 9218868437227405312 ∧ n = 31) ∨ (x = 18442240474082181120 ∧ n = 0)) : LevD x n := by
  intro w
  have h27 := @run_callFunc_extern Try.prog 27 _ (Extern.MathFloor.toIntegral "math.archFloor" .down) Try.func27 (by kernel_rfl) (by kernel_rfl) (by kernel_rfl) (by kernel_rfl)
  have kd : ∀ t w, (binOp .quo t (.float .f64 x) (.float .f64 4611686018427387904)).run Try.prog w = .ok (.float .f64 x) w := fun t w => run_float_arith w .quo t .f64 x _ x hd
  have ka : ∀ t w, (binOp .add t (.float .f64 4625196817309499392) (.float .f64 x)).run Try.prog w = .ok (.float .f64 x) w := fun t w => run_float_arith w .add t .f64 _ x x ha
  have hr : ∀ w, (Extern.MathFloor.toIntegral "math.archFloor" .down #[.float .f64 x]).run Try.prog w = .ok (.float .f64 x) w := by
    intro w
    obtain ⟨s, h⟩ := hi
    have h' : FloatKind.f64.decode x = .infinity s := h
    have e : ∃ (A : Bool → Nat → Sem Value), Extern.MathFloor.toIntegral "math.archFloor" .down #[.float .f64 x] = Extern.MathFloor.toIntegral.match_1 (fun _ => Sem Value) (FloatKind.f64.decode x) A (fun d => pure (.float .f64 (FloatKind.f64.encode (d.integral .down)))) := ⟨_, rfl⟩
    obtain ⟨A, e⟩ := e
    rw [e, h']
    show Result.ok (Value.float .f64 (Ieee.double.write (.infinity s))) w = _
    rcases hx with ⟨rfl, _⟩ | ⟨rfl, _⟩
    · have : s = false := by rw [show Ieee.double.read 9218868437227405312 = .infinity false from by decide +kernel] at h; injection h with h; exact h.symm
      rw [this]; rfl
    · have : s = true := by rw [show Ieee.double.read 18442240474082181120 = .infinity true from by decide +kernel] at h; injection h with h; exact h.symm
      rw [this]; rfl
  have HF : Aside0 (∀ w, Calls Try.prog 24 #[.float .f64 x] w fun o w' => o = .returned (.float .f64 x) ∧ w' = w) := ⟨fun w => by
    clear kd ka hd ha hi hx
    go_enter Try.func24, Try.ntmps24
    go_wp2
    go_ret
    exact ⟨rfl, rfl⟩⟩
  clear hd ha hi hr h27
  rcases hx with ⟨rfl, rfl⟩ | ⟨rfl, rfl⟩
  · have o1 : FloatKind.f64.format.order 9218868437227405312 4629418941960159232 = some .gt := by decide +kernel
    go_enter Try.func20, Try.ntmps20
    go_wp2_with (first | (go_at_call 24; (refine (HF.out _).mono ?_); rintro o w2 ⟨rfl, hw⟩; obtain rfl := hw.symm) | simp only [kd, ka])
    go_ret
    exact ⟨rfl, 0, rfl⟩
  · have o1 : FloatKind.f64.format.order 18442240474082181120 4629418941960159232 = some .lt := by decide +kernel
    have o2 : FloatKind.f64.format.order 18442240474082181120 0 = some .lt := by decide +kernel
    go_enter Try.func20, Try.ntmps20
    go_wp2_with (first | (go_at_call 24; (refine (HF.out _).mono ?_); rintro o w2 ⟨rfl, hw⟩; obtain rfl := hw.symm) | simp only [kd, ka])
    go_ret
    exact ⟨rfl, 0, rfl⟩
theorem sliceD {x y : Nat} {a b : Int} (hx : LevD x a) (hy : LevD y b) (a0 : 0 ≤ a) (a1 : a ≤ 31) (b0 : 0 ≤ b) (b1 : b ≤ 31) (w : World) : Calls Try.prog 12 #[.complex .f64 x y] w fun o w' => o = .returned (.int .u16 (a * 32 + b)) ∧ ∃ m, w' = w.drewN m := by
  have ho := or_five a0 a1 b0 b1
  have HX := Aside0.mk hx
  have HY := Aside0.mk hy
  clear hx hy
  go_enter Try.func12, Try.ntmps12
  go_wp2_with (first | (go_at_call 20; (first | (refine (HX.out _).mono ?_; rintro e w2 ⟨rfl, m, rfl⟩; clear HX) | (refine (HY.out _).mono ?_; rintro e w2 ⟨rfl, m2, rfl⟩))))
  go_ret
  exact ⟨rfl, _, rfl⟩
end Go.Proofs.Ytggfmihmpnaboaa.M
