/- Tales: parts of numbers; by hand. -/
import Derived.Test.YthdmeffjiljdeaaDoorA
namespace Go.Proofs.YthdmeffjiljdeaaDoor.M
open Go.RowKit Go.Proofs.YthdmeffjiljdeaaDoorW.PrintWords Go.Proofs.YthdmeffjiljdeaaDoorW.PrintLast Go.Proofs.YthdmeffjiljdeaaDoorW.PrintMore Go.Proofs.YthdmeffjiljdeaaDoor.Rw Go.Proofs.YthdmeffjiljdeaaDoor.Fl
set_option linter.unusedVariables false
set_option linter.unusedSimpArgs false
theorem archFloor_num {P : Program} {x : Nat} {s : Bool} {m : Nat} {i : Int} (nm : String) (way : Ieee.Toward) (h : Ieee.double.read x = .number s m i) (w : World) :
    (Extern.MathFloor.toIntegral nm way #[.float .f64 x]).run P w = .ok (.float .f64 (Ieee.double.write ((Ieee.double.read x).integral way))) w := by
  have h' : FloatKind.f64.decode x = .number s m i := h
  have e : ∃ (A : Bool → Nat → Sem Value), Extern.MathFloor.toIntegral nm way #[.float .f64 x] = Extern.MathFloor.toIntegral.match_1 (fun _ => Sem Value) (FloatKind.f64.decode x) A (fun d => pure (.float .f64 (FloatKind.f64.encode (d.integral way)))) := ⟨_, rfl⟩
  obtain ⟨A, e⟩ := e
  rw [e, h', h]
  rfl
abbrev LO : Nat := 13875379345695965184
abbrev HI : Nat := 4652007308841189376
theorem read_hi : Ieee.double.read HI = .number false (1000 * 2 ^ 43) (-43) := by decide +kernel
theorem read_lo : Ieee.double.read LO = .number true (1000 * 2 ^ 43) (-43) := by decide +kernel
abbrev trB (x : Nat) : Nat := Ieee.double.write ((Ieee.double.read x).integral .zero)
/-- does x lie between? -/
def inB (x : Nat) : Bool := match Ieee.double.order x LO, Ieee.double.order x HI with
  | some .gt, some .lt => true
  | some .gt, some .eq => true
  | some .eq, some .lt => true
  | some .eq, some .eq => true
  | _, _ => false
def wholeF (x : Nat) : Bool := inB x && (Ieee.double.order (trB x) x == some .eq)
def partF (x : Nat) : Int := ((Ieee.double.read x).toInt .zero).getD 0
theorem inB_num {x : Nat} (h : inB x = true) : ∃ s m i, Ieee.double.read x = .number s m i := by
  unfold inB Ieee.Format.order at h
  rw [read_hi, read_lo] at h
  cases hx : Ieee.double.read x with
  | nan => rw [hx] at h; cases h
  | number s m i => exact ⟨s, m, i, rfl⟩
  | infinity s =>
    rw [hx] at h
    cases s <;> simp [Ieee.Datum.order] at h
theorem part_nat {m : Nat} {i : Int} (h : m * 2 ^ (i - min i (-43)).toNat ≤ (1000 * 2 ^ 43) * 2 ^ (-43 - min i (-43)).toNat) : (m <<< i.toNat) / 2 ^ (-i).toNat ≤ 1000 := by
  rw [Nat.shiftLeft_eq]
  rcases Int.lt_or_le i (-43) with h1 | h1
  · have e1 : min i (-43) = i := by omega
    rw [e1, Int.sub_self] at h
    obtain ⟨d, hd⟩ : ∃ d, (-43 - i).toNat = d := ⟨_, rfl⟩
    have e2 : (-i).toNat = 43 + d := by omega
    have e3 : i.toNat = 0 := by omega
    rw [hd] at h
    rw [e2, e3, Nat.pow_zero, Nat.mul_one, Nat.pow_add]
    have h' : m ≤ 1000 * (2 ^ 43 * 2 ^ d) := by
      have : m * 2 ^ (0 : Int).toNat = m := by simp
      rw [this] at h
      rw [← Nat.mul_assoc]; exact h
    exact Nat.div_le_of_le_mul (by rw [Nat.mul_comm]; exact h')
  · have e1 : min i (-43) = -43 := by omega
    rw [e1, show ((-43 : Int) - -43).toNat = 0 from rfl, Nat.pow_zero, Nat.mul_one] at h
    rcases Int.lt_or_le i 0 with h2 | h2
    · obtain ⟨d, hd⟩ : ∃ d, (-i).toNat = d := ⟨_, rfl⟩
      obtain ⟨c, hc⟩ : ∃ c, (i - -43).toNat = c := ⟨_, rfl⟩
      have e3 : i.toNat = 0 := by omega
      rw [hd, e3, Nat.pow_zero, Nat.mul_one]
      rw [hc] at h
      have hcd : 43 = c + d := by omega
      rw [hcd, Nat.pow_add] at h
      have hp := Nat.two_pow_pos c
      have : m ≤ 1000 * 2 ^ d := by
        apply Nat.le_of_mul_le_mul_right (c := 2 ^ c) _ hp
        rw [Nat.mul_assoc, Nat.mul_comm (2 ^ d)]; exact h
      exact Nat.div_le_of_le_mul (by rw [Nat.mul_comm]; exact this)
    · have e2 : (-i).toNat = 0 := by omega
      have e3 : (i - -43).toNat = i.toNat + 43 := by omega
      rw [e3, Nat.pow_add, ← Nat.mul_assoc] at h
      rw [e2, Nat.pow_zero, Nat.div_one]
      exact Nat.le_of_mul_le_mul_right h (Nat.two_pow_pos 43)
theorem inB_part {x : Nat} (h : inB x = true) : (Ieee.double.read x).toInt .zero = some (partF x) ∧ -1000 ≤ partF x ∧ partF x ≤ 1000 := by
  obtain ⟨s, m, i, hx⟩ := inB_num h
  have e1 : (Ieee.double.read x).toInt .zero = some (Ieee.signed s ((m <<< i.toNat) / 2 ^ (-i).toNat) 0) := by
    rw [hx]
    unfold Ieee.Datum.toInt Ieee.Datum.integral
    simp only []
    rw [cut_zero]
  have hp : partF x = Ieee.signed s ((m <<< i.toNat) / 2 ^ (-i).toNat) 0 := by unfold partF; rw [e1]; rfl
  refine ⟨by rw [e1, hp], ?_⟩
  rw [hp]
  unfold inB Ieee.Format.order at h
  rw [read_hi, read_lo, hx] at h
  unfold Ieee.Datum.order at h
  simp only [] at h
  cases s with
  | false =>
    have hle : m * 2 ^ (i - min i (-43)).toNat ≤ (1000 * 2 ^ 43) * 2 ^ (-43 - min i (-43)).toNat := by
      unfold Ieee.signed at h
      simp only [Bool.false_eq_true, if_false] at h
      have h2 : compare ((m <<< (i - min i (-43)).toNat : Nat) : Int) (((1000 * 2 ^ 43) <<< (-43 - min i (-43)).toNat : Nat) : Int) ≠ .gt := by
        intro hg
        rw [hg] at h
        revert h
        split <;> simp_all
      rw [Nat.shiftLeft_eq, Nat.shiftLeft_eq] at h2
      have h3 : ¬ (((1000 * 2 ^ 43) * 2 ^ (-43 - min i (-43)).toNat : Nat) : Int) < ((m * 2 ^ (i - min i (-43)).toNat : Nat) : Int) := fun hl => h2 (Int.compare_eq_gt.2 hl)
      omega
    have := part_nat hle
    unfold Ieee.signed
    simp only [Bool.false_eq_true, if_false]
    rw [Nat.shiftLeft_eq]
    omega
  | true =>
    have hle : m * 2 ^ (i - min i (-43)).toNat ≤ (1000 * 2 ^ 43) * 2 ^ (-43 - min i (-43)).toNat := by
      unfold Ieee.signed at h
      simp only [if_true] at h
      have h2 : compare (-((m <<< (i - min i (-43)).toNat : Nat) : Int)) (-(((1000 * 2 ^ 43) <<< (-43 - min i (-43)).toNat : Nat) : Int)) ≠ .lt := by
        intro hg
        rw [hg] at h
        revert h
        split <;> simp_all
      rw [Nat.shiftLeft_eq, Nat.shiftLeft_eq] at h2
      have h3 : ¬ -((m * 2 ^ (i - min i (-43)).toNat : Nat) : Int) < -(((1000 * 2 ^ 43) * 2 ^ (-43 - min i (-43)).toNat : Nat) : Int) := fun hl => h2 (Int.compare_eq_lt.2 hl)
      omega
    have := part_nat hle
    unfold Ieee.signed
    simp only [if_true]
    rw [Nat.shiftLeft_eq]
    omega
theorem partC {x : Nat} (h : inB x = true) (w : World) : (convert 35 3 (.float .f64 x)).run Tryd.prog w = .ok (.int .i64 (partF x)) w := by
  obtain ⟨h1, h2, h3⟩ := inB_part h
  refine run_convert_float_int w 35 3 .f64 .i64 x (partF x) (by rw [Tryd.underlying35]; rfl) Tryd.underlying3 ?_
  unfold floatToIntVal
  have : (FloatKind.f64.decode x).toInt .zero = some (partF x) := h1
  rw [this]
  simp only []
  rw [if_pos]
  have e1 : IntKind.i64.min = -9223372036854775808 := rfl
  have e2 : IntKind.i64.max = 9223372036854775807 := rfl
  omega
theorem truncC {x : Nat} (h : inB x = true) (w : World) : Calls Tryd.prog 35 #[.float .f64 x] w fun o w' => o = .returned (.float .f64 (trB x)) ∧ w' = w := by
  have h27 := @run_callFunc_extern Tryd.prog 50 _ (Extern.MathFloor.toIntegral "math.archTrunc" .zero) Tryd.func50 (by kernel_rfl) (by kernel_rfl) (by kernel_rfl) (by kernel_rfl)
  have hr : ∀ w, (Extern.MathFloor.toIntegral "math.archTrunc" .zero #[.float .f64 x]).run Tryd.prog w = .ok (.float .f64 (trB x)) w := by
    intro w
    obtain ⟨s, m, i, hx⟩ := inB_num h
    rw [archFloor_num "math.archTrunc" .zero hx]
  generalize trB x = y at *
  clear h
  go_enter Tryd.func35, Tryd.ntmps35
  go_wp2
  go_ret
  exact ⟨rfl, rfl⟩
set_option maxHeartbeats 1600000 in
theorem wholeC (x : Nat) (w : World) : Calls Tryd.prog 24 #[.float .f64 x] w fun o w' => o = .returned (.bool (wholeF x)) ∧ w' = w := by
  cases hin : inB x with
  | true =>
    have HT := Aside0.mk (truncC hin w)
    obtain ⟨q, hq⟩ : ∃ q, (Ieee.double.order (trB x) x == some Ordering.eq) = q := ⟨_, rfl⟩
    have hw : wholeF x = q := by unfold wholeF; rw [hin, hq]; rfl
    rw [hw]
    have e1 : (FloatKind.f64.format.order (trB x) x == some Ordering.eq) = q := hq
    have e2 : (FloatKind.f64.format.order x LO = some .gt ∨ FloatKind.f64.format.order x LO = some .eq) ∧ (FloatKind.f64.format.order x HI = some .lt ∨ FloatKind.f64.format.order x HI = some .eq) := by
      have e3 : FloatKind.f64.format.order x LO = Ieee.double.order x LO := rfl
      have e4 : FloatKind.f64.format.order x HI = Ieee.double.order x HI := rfl
      rw [e3, e4]
      unfold inB at hin
      revert hin
      split <;> simp_all
    generalize trB x = y at *
    clear hin hq hw
    obtain ⟨o1 | o1, o2 | o2⟩ := e2
    all_goals (
      unfold LO at o1
      unfold HI at o2
      go_enter Tryd.func24, Tryd.ntmps24
      go_wp2_with (first | (go_at_call 35; (refine HT.out.mono ?_); rintro e w2 ⟨rfl, hw⟩; obtain rfl := hw.symm))
      go_ret
      exact ⟨rfl, rfl⟩)
  | false =>
    have hw : wholeF x = false := by unfold wholeF; rw [hin]; rfl
    rw [hw]
    have e2 : FloatKind.f64.format.order x LO = none ∨ FloatKind.f64.format.order x LO = some .lt ∨ ((FloatKind.f64.format.order x LO = some .gt ∨ FloatKind.f64.format.order x LO = some .eq) ∧ (FloatKind.f64.format.order x HI = none ∨ FloatKind.f64.format.order x HI = some .gt)) := by
      have e3 : FloatKind.f64.format.order x LO = Ieee.double.order x LO := rfl
      have e4 : FloatKind.f64.format.order x HI = Ieee.double.order x HI := rfl
      rw [e3, e4]
      unfold inB at hin
      cases h1 : Ieee.double.order x LO with
      | none => exact .inl rfl
      | some a =>
        cases h2 : Ieee.double.order x HI with
        | none => cases a <;> simp
        | some b => rw [h1, h2] at hin; cases a <;> cases b <;> simp_all
    clear hin hw
    rcases e2 with o1 | o1 | ⟨o1 | o1, o2 | o2⟩
    all_goals (
      unfold LO at o1
      try unfold HI at o2
      go_enter Tryd.func24, Tryd.ntmps24
      go_wp2
      go_ret
      exact ⟨rfl, rfl⟩)
end Go.Proofs.YthdmeffjiljdeaaDoor.M
