/- Go's math on words: Abs, IsInf, IsNaN, Frexp, Ldexp; by hand. -/
import Derived.Test.YtmddafefdleimaaC
namespace Go.Proofs.Ytmddafefdleimaa.M
open Go.RowKit Go.Proofs.YtmddafefdleimaaW.PrintWords Go.Proofs.YtmddafefdleimaaW.PrintLast Go.Proofs.YtmddafefdleimaaW.PrintMore Go.Proofs.Ytmddafefdleimaa.Rw Go.Proofs.Ytmddafefdleimaa.Fl
set_option linter.unusedVariables false
set_option linter.unusedSimpArgs false
theorem absC {x r : Nat} (hx : x < 18446744073709551616) (h : x % 2 ^ 63 = r) (w : World) : Calls Try.prog 63 #[.float .f64 x] w fun o w' => o = .returned (.float .f64 r) ∧ w' = w := by
  have h29 := @run_callFunc_extern Try.prog 68 _ Extern.MathFloatBits.float64bits Try.func68 (by kernel_rfl) (by kernel_rfl) (by kernel_rfl) (by kernel_rfl)
  have h23 := @run_callFunc_extern Try.prog 67 _ Extern.MathFloatBits.float64frombits Try.func67 (by kernel_rfl) (by kernel_rfl) (by kernel_rfl) (by kernel_rfl)
  have r29 : ∀ w, (Extern.MathFloatBits.float64bits #[.float .f64 x]).run Try.prog w = .ok (.int .u64 (x : Int)) w := fun w => rfl
  have r23 : ∀ w, (Extern.MathFloatBits.float64frombits #[.int .u64 (r : Int)]).run Try.prog w = .ok (.float .f64 r) w := fun w => rfl
  have hm : bits .andNot .u64 (x : Int) 9223372036854775808 = (r : Int) := by
    rw [← h, ← mask_abs]; exact u64_andNot_nat x 9223372036854775808 hx (by decide)
  clear h hx
  go_enter Try.func63, Try.ntmps63
  go_wp2
  go_ret
  exact ⟨rfl, rfl⟩
theorem fd_abs {v e : Int} (h53 : v.natAbs < 2 ^ 53) (h1 : -1022 ≤ e) (h2 : e ≤ 900) : fd v e < 18446744073709551616 ∧ fd v e % 2 ^ 63 = fd v.natAbs e := by
  have hr := rung_lt h53 h1 h2
  have hw := fd_word h53 h1 h2
  have h3 : ((v.natAbs : Int)).natAbs = v.natAbs := Int.natAbs_natCast _
  have hw2 := fd_word (v := (v.natAbs : Int)) (e := e) (by rw [h3]; exact h53) h1 h2
  rw [decide_eq_false (show ¬ (v.natAbs : Int) < 0 by omega), word_pos] at hw2
  have hrr : rung (v.natAbs : Int) e = rung v e := by
    unfold rung
    rw [h3]
    by_cases h : v = 0
    · subst h; rfl
    · rw [if_neg h, if_neg (by omega)]
  rw [hrr] at hw2
  rw [hw, hw2]
  generalize rung v e = r at *
  cases decide (v < 0)
  · rw [word_pos]; exact ⟨by omega, Nat.mod_eq_of_lt (by omega)⟩
  · rw [word_neg', Nat.add_mod_left]; exact ⟨by omega, Nat.mod_eq_of_lt (by omega)⟩
theorem ord_int {a b : Int} (ha : a.natAbs < 2 ^ 53) (hb : b.natAbs < 2 ^ 53) : FloatKind.f64.format.order (fd a 0) (fd b 0) = some (compare a b) :=
  order_is (is_fd a 0 ha (by decide) (by decide)) (is_fd b 0 hb (by decide) (by decide))
section
variable {x y : Nat} {a b : Int}
theorem ord_lt (h : FloatKind.f64.format.order x y = some (compare a b)) (hab : a < b) : FloatKind.f64.format.order x y = some .lt := h.trans (congrArg some (Int.compare_eq_lt.2 hab))
theorem ord_gt (h : FloatKind.f64.format.order x y = some (compare a b)) (hab : b < a) : FloatKind.f64.format.order x y = some .gt := h.trans (congrArg some (Int.compare_eq_gt.2 hab))
theorem ord_eq (h : FloatKind.f64.format.order x y = some (compare a b)) (hab : a = b) : FloatKind.f64.format.order x y = some .eq := h.trans (congrArg some (Int.compare_eq_eq.2 hab))
theorem ord_ge (h : FloatKind.f64.format.order x y = some (compare a b)) (hab : b ≤ a) : FloatKind.f64.format.order x y = some .gt ∨ FloatKind.f64.format.order x y = some .eq := by
  rcases Int.lt_or_le b a with c | c
  · exact .inl (ord_gt h c)
  · exact .inr (ord_eq h (by omega))
theorem ord_le (h : FloatKind.f64.format.order x y = some (compare a b)) (hab : a ≤ b) : FloatKind.f64.format.order x y = some .lt ∨ FloatKind.f64.format.order x y = some .eq := by
  rcases Int.lt_or_le a b with c | c
  · exact .inl (ord_lt h c)
  · exact .inr (ord_eq h (by omega))
theorem ord_eqb (h : FloatKind.f64.format.order x y = some (compare a b)) : (FloatKind.f64.format.order x y == some Ordering.eq) = decide (a = b) := by
  rw [h]
  by_cases c : a = b
  · rw [decide_eq_true c, Int.compare_eq_eq.2 c]; rfl
  · rw [decide_eq_false c]
    cases h2 : compare a b with
    | eq => exact absurd (Int.compare_eq_eq.1 h2) c
    | lt => rfl
    | gt => rfl
theorem ord_leb (h : FloatKind.f64.format.order x y = some (compare a b)) : (FloatKind.f64.format.order x y == some Ordering.lt || FloatKind.f64.format.order x y == some Ordering.eq) = decide (a ≤ b) := by
  rw [h]
  cases h2 : compare a b with
  | eq => rw [decide_eq_true (by have := Int.compare_eq_eq.1 h2; omega)]; rfl
  | lt => rw [decide_eq_true (by have := Int.compare_eq_lt.1 h2; omega)]; rfl
  | gt => rw [decide_eq_false (by have := Int.compare_eq_gt.1 h2; omega)]; rfl
end
theorem sliceI {V W : Int} (hV : V.natAbs < 2 ^ 50) (hW : W.natAbs < 2 ^ 50) (w : World) : Calls Try.prog 64 #[.complex .f64 (fd V 0) (fd W 0)] w fun o w' => o = .returned (.int .u16 (lv ((V + 32) / 2) * 32 + lv ((W + 32) / 2))) ∧ w' = w := sliceC (lev_int hV) (lev_int hW) w
theorem bounds_u16 {a : Int} (h : (Lit.int .u16 a).wf = true) : 0 ≤ a ∧ a ≤ 65535 := by
  simp only [Lit.wf, Bool.and_eq_true, decide_eq_true_eq] at h
  exact h
theorem bounds_i8 {a : Int} (h : (Lit.int .i8 a).wf = true) : -128 ≤ a ∧ a ≤ 127 := by
  simp only [Lit.wf, Bool.and_eq_true, decide_eq_true_eq] at h
  exact h
theorem bounds_i16 {a : Int} (h : (Lit.int .i16 a).wf = true) : -32768 ≤ a ∧ a ≤ 32767 := by
  simp only [Lit.wf, Bool.and_eq_true, decide_eq_true_eq] at h
  exact h
theorem and1023 {a : Int} (h0 : 0 ≤ a) (h1 : a ≤ 65535) : bits .and .u16 a 1023 = a % 1024 := by
  rw [u16_and a 1023 h0 (by omega) (by decide) (by decide)]
  show ((a.toNat &&& 2 ^ 10 - 1 : Nat) : Int) = _
  rw [Nat.and_two_pow_sub_one_eq_mod]
  omega
/-- a symbol of two fives -/
theorem ofS {A h l : Int} (hA : A = 32 * h + l) (h0 : 0 ≤ h) (h1 : h ≤ 31) (l0 : 0 ≤ l) (l1 : l ≤ 31) (w : World) : Calls Try.prog 53 #[.int .u16 A] w fun e w' => e = .returned (.complex .f64 (fd (2 * h - 31) 0) (fd (2 * l - 31) 0)) ∧ w' = w := by
  have h2 := ofC A (by omega) (by omega) w
  have e1 : A % 1024 / 32 = h := by omega
  have e2 : A % 1024 % 32 = l := by omega
  unfold ptR ptI at h2
  rw [e1, e2] at h2
  exact h2
theorem fives (a : Int) : ∃ h l, a % 1024 = 32 * h + l ∧ 0 ≤ h ∧ h ≤ 31 ∧ 0 ≤ l ∧ l ≤ 31 := ⟨a % 1024 / 32, a % 1024 % 32, by omega, by omega, by omega, by omega, by omega⟩
theorem litS (a : Int) (n : Nat) (h : n = Ieee.double.nearest (decide (a < 0)) a.natAbs 0) : n = fd a 0 := h.trans (fd_eq a 0).symm
theorem lv_lo {n : Int} (h : n < 0) : lv n = 0 := by unfold lv; rw [if_neg (by omega), if_neg (by omega)]
theorem lv_mid {n : Int} (h : 0 ≤ n) (h2 : n ≤ 31) : lv n = n := by unfold lv; rw [if_neg (by omega)]; split <;> omega
theorem lv_hi {n : Int} (h : 31 < n) : lv n = 31 := by unfold lv; rw [if_pos h]
/-- math.Trunc, of whole numbers -/
theorem truncI {v : Int} (h : v.natAbs < 2 ^ 53) (w : World) : Calls Try.prog 62 #[.float .f64 (fd v 0)] w fun o w' => o = .returned (.float .f64 (fd v 0)) ∧ w' = w := by
  have h27 := @run_callFunc_extern Try.prog 65 _ (Extern.MathFloor.toIntegral "math.archTrunc" .zero) Try.func65 (by kernel_rfl) (by kernel_rfl) (by kernel_rfl) (by kernel_rfl)
  have hr : ∀ w, (Extern.MathFloor.toIntegral "math.archTrunc" .zero #[.float .f64 (fd v 0)]).run Try.prog w = .ok (.float .f64 (fd v 0)) w := by
    intro w
    have hx := is_fd v 0 h (by decide) (by decide)
    obtain ⟨m, i, hn, hi, hm⟩ := hx
    rw [archFloor_num "math.archTrunc" .zero hn, trunc_enc ⟨m, i, hn, hi, hm⟩]
  generalize fd v 0 = y at *
  clear h
  go_enter Try.func62, Try.ntmps62
  go_wp2
  go_ret
  exact ⟨rfl, rfl⟩
theorem lit1000 : (4652007308841189376 : Nat) = fd 1000 0 := litS 1000 _ (by decide +kernel)
theorem lit62 : (4633922541587529728 : Nat) = fd 62 0 := litS 62 _ (by decide +kernel)
theorem litm62 : (13857294578442305536 : Nat) = fd (-62) 0 := litS (-62) _ (by decide +kernel)
/-- may a coordinate be moved? -/
def mayMove (x u : Int) : Bool := decide (-62 ≤ u) && decide (u ≤ 62) && decide (-1000 ≤ x + u) && decide (x + u ≤ 1000)
theorem movedC {x u : Int} (hx : x.natAbs ≤ 2000) (hu : u.natAbs ≤ 2000) (w : World) : Calls Try.prog 57 #[.float .f64 (fd x 0), .float .f64 (fd u 0)] w fun o w' => o = .returned (.tuple #[.float .f64 (fd (x + u) 0), .bool (mayMove x u)]) ∧ w' = w := by
  have O1 := ord_int (a := u) (b := -62) (by omega) (by decide)
  have O2 := ord_int (a := u) (b := 62) (by omega) (by decide)
  rw [← litm62] at O1
  rw [← lit62] at O2
  have o3 := ord_eq (ord_int (a := u) (b := u) (by omega) (by omega)) rfl
  have O4 := ord_int (a := ((x + u).natAbs : Int)) (b := 1000) (by omega) (by decide)
  rw [← lit1000] at O4
  have ka : ∀ t w, (binOp .add t (.float .f64 (fd x 0)) (.float .f64 (fd u 0))).run Try.prog w = .ok (.float .f64 (fd (x + u) 0)) w := fun t w => run_float_arith w .add t .f64 _ _ _ (add_is (is_fd x 0 (by omega) (by decide) (by decide)) (is_fd u 0 (by omega) (by decide) (by decide)) (by omega) (by decide) (by decide))
  have hab := fd_abs (v := x + u) (e := 0) (by omega) (by decide) (by decide)
  have HA := Aside0.mk (absC hab.1 hab.2)
  have HT := Aside0.mk (truncI (v := u) (by omega))
  by_cases c1 : -62 ≤ u
  · have o1 := ord_ge O1 c1
    by_cases c2 : u ≤ 62
    · have o2 := ord_le O2 c2
      by_cases c3 : ((x + u).natAbs : Int) ≤ 1000
      · have o4 := ord_le O4 c3
        have hm : mayMove x u = true := by unfold mayMove; rw [decide_eq_true c1, decide_eq_true c2, decide_eq_true (by omega), decide_eq_true (by omega)]; rfl
        rw [hm]
        generalize fd ((x + u).natAbs : Int) 0 = yy at *
        generalize fd (x + u) 0 = y at *
        generalize fd x 0 = xx at *
        generalize fd u 0 = uu at *
        clear hab c1 c2 c3 hm hx hu O1 O2 O4
        rcases o1 with o1 | o1 <;> rcases o2 with o2 | o2 <;> rcases o4 with o4 | o4
        all_goals (
          go_enter Try.func57, Try.ntmps57
          go_wp2_with (first
            | (go_at_call 62; (refine (HT.out _).mono ?_); rintro o w2 ⟨rfl, rfl⟩)
            | (go_at_call 63; (refine (HA.out _).mono ?_); rintro o w2 ⟨rfl, rfl⟩)
            | simp only [ka])
          go_ret2
          exact ⟨rfl, rfl⟩)
      · have o4 := ord_gt O4 (by omega)
        have hm : mayMove x u = false := by
          unfold mayMove
          by_cases c5 : -1000 ≤ x + u
          · rw [decide_eq_false (show ¬ x + u ≤ 1000 by omega), Bool.and_false]
          · rw [decide_eq_false c5, Bool.and_false, Bool.false_and]
        rw [hm]
        generalize fd ((x + u).natAbs : Int) 0 = yy at *
        generalize fd (x + u) 0 = y at *
        generalize fd x 0 = xx at *
        generalize fd u 0 = uu at *
        clear hab c1 c2 c3 hm hx hu O1 O2 O4
        rcases o1 with o1 | o1 <;> rcases o2 with o2 | o2
        all_goals (
          go_enter Try.func57, Try.ntmps57
          go_wp2_with (first
            | (go_at_call 62; (refine (HT.out _).mono ?_); rintro o w2 ⟨rfl, rfl⟩)
            | (go_at_call 63; (refine (HA.out _).mono ?_); rintro o w2 ⟨rfl, rfl⟩)
            | simp only [ka])
          go_ret2
          exact ⟨rfl, rfl⟩)
    · have o2 := ord_gt O2 (by omega)
      have hm : mayMove x u = false := by unfold mayMove; rw [decide_eq_false c2, Bool.and_false, Bool.false_and, Bool.false_and]
      rw [hm]
      generalize fd (x + u) 0 = y at *
      generalize fd x 0 = xx at *
      generalize fd u 0 = uu at *
      clear hab c1 c2 hm hx hu O1 O2 O4
      rcases o1 with o1 | o1
      all_goals (
        go_enter Try.func57, Try.ntmps57
        go_wp2_with (simp only [ka])
        go_ret2
        exact ⟨rfl, rfl⟩)
  · have o1 := ord_lt O1 (by omega)
    have hm : mayMove x u = false := by unfold mayMove; rw [decide_eq_false c1, Bool.false_and, Bool.false_and, Bool.false_and]
    rw [hm]
    generalize fd (x + u) 0 = y at *
    generalize fd x 0 = xx at *
    generalize fd u 0 = uu at *
    clear hab c1 hm hx hu O1 O2 O4
    go_enter Try.func57, Try.ntmps57
    go_wp2_with (simp only [ka])
    go_ret2
    exact ⟨rfl, rfl⟩
end Go.Proofs.Ytmddafefdleimaa.M
