/- The law FieldReckons of the seat, over its printed functions: the document's products bit by bit and powers by squares. -/
import Derived.Test.YteoiedjnlljbmaaE
import Derived.Test.YteoiedjnlljbmaaPureFieldInverse
import Derived.Test.YteoiedjnlljbmaaMx8
set_option linter.unusedVariables false
set_option linter.unusedSimpArgs false
namespace Go.Proofs.Yteoiedjnlljbmaa.Pure
open Go.RowKit Go.Proofs.Yteoiedjnlljbmaa.M Go.Proofs.YteoiedjnlljbmaaW.PrintWords Go.Proofs.YteoiedjnlljbmaaW.PrintLast Go.Proofs.YteoiedjnlljbmaaW.PrintMore
theorem and64_one (y : Nat) (h : y < 1024) : Go.bits .and .i64 (y : Int) 1 = ((y % 2 : Nat) : Int) := by
  have t : (List.range 1024).all (fun y => decide (Go.bits .and .i64 ((y : Nat) : Int) 1 = ((y % 2 : Nat) : Int))) = true := by decide +kernel
  exact of_decide_eq_true (all_of t h)
theorem refmul_loop : ∀ (n x y out : Nat), y < 2 ^ n → y < 1024 → x < 1024 → out < 1024 →
    Ev (fun k => blackboardref1_Mul.l0 k (x : Int) (y : Int) (out : Int)) ((out ^^^ mu x y : Nat) : Int) := by
  have stop : ∀ (x out : Nat), out < 1024 → Ev (fun k => blackboardref1_Mul.l0 k (x : Int) ((0 : Nat) : Int) (out : Int)) ((out ^^^ mu x 0 : Nat) : Int) := by
    intro x out ho
    have e1 : IntKind.u16.wrap (out : Int) = (out : Int) := by rw [IntKind.wrap_u16]; omega
    have c : ¬ (((0 : Nat) : Int) > 0) := by omega
    rw [mu_zero, Nat.xor_zero]
    refine Ev.one ?_
    simp only [blackboardref1_Mul.l0, if_neg c, e1]
    exact Ev.now _
  intro n
  induction n with
  | zero =>
    intro x y out hy h1 hx ho
    have : y = 0 := by omega
    subst this
    exact stop x out ho
  | succ n ih =>
    intro x y out hy h1 hx ho
    by_cases y0 : y = 0
    · subst y0; exact stop x out ho
    have c : ((y : Nat) : Int) > 0 := by omega
    have e2 : wrap64 ((x : Int) * 2) = ((2 * x : Nat) : Int) := by rw [w64 (by omega) (by omega)]; omega
    have hs := step_lt hx
    have e5 := xor64 (2 * x) 1033 (Nat.lt_of_lt_of_le (show 2 * x < 2048 by omega) (by decide)) (by decide)
    have hp : 2 ^ (n + 1) = 2 * 2 ^ n := by rw [Nat.pow_succ, Nat.mul_comm]
    have go : ∀ (z o : Nat), z < 2 ^ n → z < 1024 → o < 1024 → Ev (fun k => if (wrap64 ((x : Int) * 2)) ≥ 1024 then (blackboardref1_Mul.l0 k (Go.bits .xor .i64 (wrap64 ((x : Int) * 2)) 1033) (z : Int) (o : Int)) else (blackboardref1_Mul.l0 k (wrap64 ((x : Int) * 2)) (z : Int) (o : Int))) ((o ^^^ mu (step x) z : Nat) : Int) := by
      intro z o hz hz1 ho1
      have h := ih (step x) z o hz hz1 hs ho1
      rw [e2]
      by_cases d : 2 * x ≥ 1024
      · have d' : ((2 * x : Nat) : Int) ≥ 1024 := by omega
        have e6 : step x = (2 * x) ^^^ 1033 := by unfold step; rw [if_pos d]
        rw [e6] at h ⊢
        rw [← e5] at h
        simp only [if_pos d']
        exact h
      · have d' : ¬ ((2 * x : Nat) : Int) ≥ 1024 := by omega
        have e6 : step x = 2 * x := by unfold step; rw [if_neg d]
        rw [e6] at h ⊢
        simp only [if_neg d']
        exact h
    obtain ⟨z, hz⟩ : ∃ z, y = 2 * z ∨ y = 2 * z + 1 := ⟨y / 2, by omega⟩
    have e3 : (y : Int) / 2 = (z : Int) := by omega
    have e4 := and64_one y h1
    refine Ev.one ?_
    rcases hz with hz | hz
    · have m2 : y % 2 = 0 := by omega
      have c1 : ¬ (((0 : Nat) : Int) = 1) := by omega
      have hzl : z < 2 ^ n := by omega
      have hzk : z < 1024 := by omega
      have hm : mu x y = mu (step x) z := by rw [hz]; exact mu_even hx (by omega)
      rw [m2] at e4
      simp only [blackboardref1_Mul.l0, if_pos c, e4, if_neg c1, e3]
      rw [hm]
      exact go z out hzl hzk ho
    · have m2 : y % 2 = 1 := by omega
      have c1 : ((1 : Nat) : Int) = 1 := by omega
      have hzl : z < 2 ^ n := by omega
      have hzk : z < 1024 := by omega
      have hm : out ^^^ mu x y = (out ^^^ x) ^^^ mu (step x) z := by rw [hz, mu_odd hx (by omega), Nat.xor_assoc]
      have e7 := xor64 out x (Nat.lt_of_lt_of_le ho (by decide)) (Nat.lt_of_lt_of_le hx (by decide))
      rw [m2] at e4
      simp only [blackboardref1_Mul.l0, if_pos c, e4, if_pos c1, e3, e7]
      rw [hm]
      exact go z (out ^^^ x) hzl hzk (xor_lt ho hx)
theorem refmul_is (a b : Nat) (ha : a < 65536) (hb : b < 65536) : Ev (fun k => blackboardref1_Mul.f k (a : Int) (b : Int)) ((mu (a % 1024) (b % 1024) : Nat) : Int) := by
  have la : a % 1024 < 1024 := Nat.mod_lt _ (by decide)
  have lb : b % 1024 < 1024 := Nat.mod_lt _ (by decide)
  have wa : wrap64 ((a % 1024 : Nat) : Int) = ((a % 1024 : Nat) : Int) := w64 (by omega) (by omega)
  have wb : wrap64 ((b % 1024 : Nat) : Int) = ((b % 1024 : Nat) : Int) := w64 (by omega) (by omega)
  unfold blackboardref1_Mul.f
  rw [and1023 a ha, and1023 b hb, wa, wb]
  have := refmul_loop 10 (a % 1024) (b % 1024) 0 lb lb la (by decide)
  rw [Nat.zero_xor] at this
  exact this
theorem refmul_ex {m n : Nat} (hm : m < 1023) (hn : n < 1023) : Ev (fun k => blackboardref1_Mul.f k ((ex m : Nat) : Int) ((ex n : Nat) : Int)) ((ex ((m + n) % 1023) : Nat) : Int) := by
  have h := refmul_is (ex m) (ex n) (Nat.lt_trans (ex_lt m) (by decide)) (Nat.lt_trans (ex_lt n) (by decide))
  rw [Nat.mod_eq_of_lt (ex_lt m), Nat.mod_eq_of_lt (ex_lt n), mu_ex hm hn] at h
  exact h
theorem refexp_loop : ∀ (d i n : Nat), i + d = n → n < 1023 → Ev (fun k => blackboardref1_Exp.l0 k (n : Int) ((ex i : Nat) : Int) (i : Int)) ((ex n : Nat) : Int) := by
  intro d
  induction d with
  | zero =>
    intro i n h hn
    have c : ¬ ((i : Int) < (n : Int)) := by omega
    have e : i = n := by omega
    subst e
    refine Ev.one ?_
    simp only [blackboardref1_Exp.l0, if_neg c]
    exact Ev.now _
  | succ d ih =>
    intro i n h hn
    have c : (i : Int) < (n : Int) := by omega
    have e := wn1 (i := i) (by omega)
    have hm := refmul_ex (m := i) (n := 1) (by omega) (by decide)
    have hi : (i + 1) % 1023 = i + 1 := Nat.mod_eq_of_lt (by omega)
    have := ih (i + 1) n (by omega) hn
    rw [ex_one, hi] at hm
    refine Ev.one ?_
    simp only [blackboardref1_Exp.l0, if_pos c, e]
    exact Ev.bind hm this
theorem refexp_is (n : Int) : Ev (fun k => blackboardref1_Exp.f k n) ((ex (n % 1023).toNat : Nat) : Int) := by
  have h1 : Int.tmod (wrap64 (Int.tmod n 1023 + 1023)) 1023 = (((n % 1023).toNat : Nat) : Int) := by
    have h := Int.tmod_eq_emod (a := n) (b := 1023)
    have hb : -1023 < Int.tmod n 1023 ∧ Int.tmod n 1023 < 1023 := by
      rw [h]; split <;> omega
    rw [w64 (by omega) (by omega), Int.tmod_eq_emod_of_nonneg (by omega)]
    rw [h]; split <;> omega
  unfold blackboardref1_Exp.f
  rw [h1]
  have := refexp_loop (n % 1023).toNat 0 (n % 1023).toNat (by omega) (by omega)
  rw [ex_zero] at this
  exact this
theorem refpow_loop : ∀ (b n p q : Nat), n < 2 ^ b → n < 1024 → p < 1023 → q < 1023 →
    Ev (fun k => blackboardref1_power.l0 k ((ex q : Nat) : Int) (n : Int) ((ex p : Nat) : Int)) ((ex ((p + q * n) % 1023) : Nat) : Int) := by
  have stop : ∀ (p q : Nat), p < 1023 → Ev (fun k => blackboardref1_power.l0 k ((ex q : Nat) : Int) ((0 : Nat) : Int) ((ex p : Nat) : Int)) ((ex ((p + q * 0) % 1023) : Nat) : Int) := by
    intro p q hp
    have c : ¬ (((0 : Nat) : Int) > 0) := by omega
    rw [Nat.mul_zero, Nat.add_zero, Nat.mod_eq_of_lt hp]
    refine Ev.one ?_
    simp only [blackboardref1_power.l0, if_neg c]
    exact Ev.now _
  intro b
  induction b with
  | zero =>
    intro n p q hn h1 hp hq
    have : n = 0 := by omega
    subst this
    exact stop p q hp
  | succ b ih =>
    intro n p q hn h1 hp hq
    by_cases n0 : n = 0
    · subst n0; exact stop p q hp
    have c : ((n : Nat) : Int) > 0 := by omega
    have hpw : 2 ^ (b + 1) = 2 * 2 ^ b := by rw [Nat.pow_succ, Nat.mul_comm]
    obtain ⟨z, hz⟩ : ∃ z, n = 2 * z ∨ n = 2 * z + 1 := ⟨n / 2, by omega⟩
    have e3 : (n : Int) / 2 = (z : Int) := by omega
    have e4 := and64_one n h1
    have hzl : z < 2 ^ b := by omega
    have hzk : z < 1024 := by omega
    have sq := refmul_ex hq hq
    have pr := refmul_ex hp hq
    refine Ev.one ?_
    rcases hz with hz | hz
    · have m2 : n % 2 = 0 := by omega
      have c1 : ¬ (((0 : Nat) : Int) = 1) := by omega
      rw [m2] at e4
      have h := ih z p ((q + q) % 1023) hzl hzk hp (mod_lt' _)
      rw [pow_even, ← hz] at h
      simp only [blackboardref1_power.l0, if_pos c, e4, if_neg c1, e3]
      exact Ev.bind sq h
    · have m2 : n % 2 = 1 := by omega
      have c1 : ((1 : Nat) : Int) = 1 := by omega
      rw [m2] at e4
      have h := ih z ((p + q) % 1023) ((q + q) % 1023) hzl hzk (mod_lt' _) (mod_lt' _)
      rw [pow_odd, ← hz] at h
      simp only [blackboardref1_power.l0, if_pos c, e4, if_pos c1, e3]
      exact Ev.bind pr (Ev.bind sq h)
theorem refpower_is {a : Nat} (n : Nat) (ha : a < 1024) (h0 : a ≠ 0) (hn : n < 1024) : Ev (fun k => blackboardref1_power.f k (a : Int) (n : Int)) ((ex ((lo a * n) % 1023) : Nat) : Int) := by
  obtain ⟨ea, la⟩ := ex_lo ha h0
  have h := refpow_loop 10 n 0 (lo a) hn hn (by decide) la
  rw [ea, ex_zero, Nat.zero_add] at h
  exact h
theorem refinv_is (a : Nat) (ha : a < 65536) : Ev (fun k => blackboardref1_Inv.f k (a : Int)) (if a % 1024 = 0 then ((0 : Int), false) else (((ex ((1023 - lo (a % 1024)) % 1023) : Nat) : Int), true)) := by
  unfold blackboardref1_Inv.f
  rw [and1023 a ha]
  by_cases c : a % 1024 = 0
  · have c' : ((a % 1024 : Nat) : Int) = 0 := by omega
    simp only [if_pos c, if_pos c']
    exact Ev.now _
  · have c' : ¬ ((a % 1024 : Nat) : Int) = 0 := by omega
    have h := refpower_is 1022 (Nat.mod_lt a (by decide)) c (by decide)
    have hl := lo_lt c
    have e : lo (a % 1024) * 1022 % 1023 = (1023 - lo (a % 1024)) % 1023 := by omega
    rw [e] at h
    simp only [if_neg c, if_neg c']
    exact Ev.bind h (Ev.now _)
theorem pow_mod (m : Nat) (n : Int) : (((m : Int) * n) % 1023).toNat = m * (n % 1023).toNat % 1023 := by
  have hn : n = 1023 * (n / 1023) + ((n % 1023).toNat : Int) := by omega
  generalize (n % 1023).toNat = r at *
  generalize n / 1023 = q at *
  rw [hn, Int.mul_add, show (m : Int) * (1023 * q) = 1023 * (m * q) by rw [← Int.mul_assoc, Int.mul_comm (m : Int) 1023, Int.mul_assoc], Int.mul_add_emod_self_left, ← Int.natCast_mul]
  generalize m * r = t
  omega
theorem refpow_is (a : Nat) (n : Int) (ha : a < 65536) : Ev (fun k => blackboardref1_Pow.f k (a : Int) n) ((pw a n : Nat) : Int) := by
  unfold blackboardref1_Pow.f pw
  rw [and1023 a ha]
  by_cases c0 : n = 0
  · simp only [if_pos c0]; exact Ev.now _
  by_cases c : a % 1024 = 0
  · have c' : ((a % 1024 : Nat) : Int) = 0 := by omega
    simp only [if_neg c0, if_pos c, if_pos c']
    exact Ev.now _
  · have c' : ¬ ((a % 1024 : Nat) : Int) = 0 := by omega
    have h1 : Int.tmod (wrap64 (Int.tmod n 1023 + 1023)) 1023 = (((n % 1023).toNat : Nat) : Int) := by
      have h := Int.tmod_eq_emod (a := n) (b := 1023)
      have hb : -1023 < Int.tmod n 1023 ∧ Int.tmod n 1023 < 1023 := by
        rw [h]; split <;> omega
      rw [w64 (by omega) (by omega), Int.tmod_eq_emod_of_nonneg (by omega)]
      rw [h]; split <;> omega
    have h := refpower_is (n % 1023).toNat (Nat.mod_lt a (by decide)) c (by omega)
    rw [← pow_mod] at h
    simp only [if_neg c0, if_neg c, if_neg c', h1]
    exact Ev.bind h (Ev.now _)

/-! by tables that may be none -/
theorem Ev.const {α : Type} {g : Nat → Option α} {r : α} (h : ∀ k, g k = some r) : Ev g r := by rw [show g = fun _ => some r from funext h]; exact Ev.now r
def Tab (e l : List Int) : Prop := Ev (fun k => field_Tables_made.f k e l) (En 1023, Ln 1023)
theorem tab_made : Tab (En 1023) (Ln 1023) := by
  unfold Tab
  simp only [made_is]
  exact Ev.now _
theorem log_ev {e l : List Int} (h : Tab e l) (a : Nat) : Ev (fun k => field_Tables_Log.f k e l (a : Int)) (if a % 1024 = 0 then ((0 : Int), false) else (((lo (a % 1024) : Nat) : Int), true)) := by
  have hk := fun k => log_is k a
  have e1 : Int.tmod (a : Int) 1024 = ((a % 1024 : Nat) : Int) := by rw [Int.tmod_eq_emod_of_nonneg (by omega)]; omega
  unfold field_Tables_Log.f at hk ⊢
  simp only [e1] at hk ⊢
  by_cases c : a % 1024 = 0
  · have c' : ((a % 1024 : Nat) : Int) = 0 := by omega
    simp only [if_pos c, if_pos c']
    exact Ev.now _
  · have c' : ¬ ((a % 1024 : Nat) : Int) = 0 := by omega
    simp only [if_neg c, if_neg c', made_is, Option.bind_some] at hk
    simp only [if_neg c, if_neg c']
    refine Ev.bind h ?_
    dsimp only
    generalize Ln 1023 = L at hk ⊢
    exact Ev.const hk
theorem exp_ev {e l : List Int} (h : Tab e l) (n : Int) : Ev (fun k => field_Tables_Exp.f k e l n) ((ex (n % 1023).toNat : Nat) : Int) := by
  have hk := fun k => exp_is k n
  simp only [field_Tables_Exp.f, made_is, Option.bind_some] at hk
  unfold field_Tables_Exp.f
  refine Ev.bind h ?_
  dsimp only
  generalize En 1023 = E at hk ⊢
  generalize Ln 1023 = L at hk ⊢
  exact Ev.const hk
theorem mul_ev {e l : List Int} (h : Tab e l) (a b : Nat) : Ev (fun k => field_Tables_Mul.f k e l (a : Int) (b : Int)) ((mu (a % 1024) (b % 1024) : Nat) : Int) := by
  have hk := fun k => mul_is k a b
  simp only [field_Tables_Mul.f, made_is, Option.bind_some] at hk
  unfold field_Tables_Mul.f
  refine Ev.bind h ?_
  dsimp only
  generalize En 1023 = E at hk ⊢
  generalize Ln 1023 = L at hk ⊢
  exact Ev.const hk
theorem inv_ev {e l : List Int} (h : Tab e l) (a : Nat) : Ev (fun k => field_Tables_Inv.f k e l (a : Int)) (if a % 1024 = 0 then ((0 : Int), false) else (((ex ((1023 - lo (a % 1024)) % 1023) : Nat) : Int), true)) := by
  have hk := fun k => inv_is k a
  simp only [field_Tables_Inv.f, made_is, Option.bind_some] at hk
  unfold field_Tables_Inv.f
  refine Ev.bind h ?_
  dsimp only
  by_cases c : a % 1024 = 0
  · simp only [if_pos c] at hk ⊢; exact Ev.const hk
  · simp only [if_neg c] at hk ⊢; exact Ev.const hk
theorem pow_ev {e l : List Int} (h : Tab e l) (a : Nat) (n : Int) : Ev (fun k => field_Tables_Pow.f k e l (a : Int) n) ((pw a n : Nat) : Int) := by
  have hk := fun k => pow_is k a n
  simp only [field_Tables_Pow.f, made_is, Option.bind_some] at hk
  unfold field_Tables_Pow.f
  refine Ev.bind h ?_
  dsimp only
  generalize En 1023 = E at hk ⊢
  generalize Ln 1023 = L at hk ⊢
  exact Ev.const hk
theorem reck_j0 {e l : List Int} (h : Tab e l) (a b : Nat) (n x : Int) (ok : Bool) (ha : a < 65536) (hb : b < 65536) :
    Ev (fun k => blackboardlaw2_reckons.j0 k (a : Int) (b : Int) n x ok x ok false e l) true := by
  have hx : a ^^^ b < 65536 := Nat.xor_lt_two_pow (n := 16) ha hb
  have e1 : Go.bits .and .u16 (Go.bits .xor .u16 (a : Int) (b : Int)) 1023 = (((a ^^^ b) % 1024 : Nat) : Int) := by
    rw [u16_xor_nat a b ha hb]; exact and1023 _ hx
  have e2 := add_is a b ha hb
  refine Ev.one ?_
  simp only [blackboardlaw2_reckons.j0, Bool.false_eq_true, if_false, e1, e2, Option.bind_some, if_true]
  refine Ev.bind (mul_ev h a b) ?_
  refine Ev.bind (refmul_is a b ha hb) ?_
  simp only [if_true, beq_self_eq_true]
  refine Ev.bind (pow_ev h a n) ?_
  refine Ev.bind (refpow_is a n ha) ?_
  simp only [if_true]
  refine Ev.bind (exp_ev h n) ?_
  refine Ev.bind (refexp_is n) ?_
  simp only [beq_self_eq_true]
  exact Ev.now _
theorem reckons_is {e l : List Int} (h : Tab e l) (a b : Nat) (n : Int) (ha : a < 65536) (hb : b < 65536) :
    Ev (fun k => blackboardlaw2_reckons.f k e l (a : Int) (b : Int) n) true := by
  have hA := and1023 a ha
  unfold blackboardlaw2_reckons.f
  refine Ev.bind (inv_ev h a) ?_
  refine Ev.bind (refinv_is a ha) ?_
  refine Ev.bind (log_ev h a) ?_
  rw [hA]
  by_cases c : a % 1024 = 0
  · have c1 : (false != (((a % 1024 : Nat) : Int) != 0)) = false := by rw [c]; rfl
    have c2 : (((0 : Int)) != 0) = false := rfl
    simp only [if_pos c, c1, c2, Bool.false_eq_true, if_false]
    exact reck_j0 h a b n _ _ ha hb
  · have hl := lo_lt c
    have he := (ex_lo (Nat.mod_lt a (by decide)) c).1
    have c0 : (((a % 1024 : Nat) : Int) != 0) = true := by rw [bne_iff_ne]; omega
    have c1 : (true != (((a % 1024 : Nat) : Int) != 0)) = false := by rw [c0]; rfl
    have c2 : ¬ (((lo (a % 1024) : Nat) : Int) < 0) := by omega
    have c3 : ¬ (((lo (a % 1024) : Nat) : Int) > 1022) := by omega
    have hr := refexp_is ((lo (a % 1024) : Nat) : Int)
    have e1 : ((((lo (a % 1024) : Nat) : Int)) % 1023).toNat = lo (a % 1024) := by omega
    rw [e1, he] at hr
    simp only [if_neg c, c1, Bool.false_eq_true, if_false, if_true, if_neg c2, if_neg c3]
    refine Ev.bind hr ?_
    simp only [if_true]
    exact reck_j0 h a b n _ _ ha hb
theorem FieldReckons : blackboardlaw2_FieldReckons.Pure := by
  intro a b n ha hb hn
  have ha := bounds_u16 ha
  have hb := bounds_u16 hb
  obtain ⟨a, rfl⟩ : ∃ n : Nat, a = (n : Int) := ⟨a.toNat, by omega⟩
  obtain ⟨b, rfl⟩ : ∃ n : Nat, b = (n : Int) := ⟨b.toNat, by omega⟩
  have la : a < 65536 := by omega
  have lb : b < 65536 := by omega
  refine Ev.rounds ?_
  unfold blackboardlaw2_FieldReckons.f
  refine Ev.bind awake2 ?_
  simp only [if_true]
  refine Ev.bind make_is ?_
  dsimp only
  refine Ev.bind (reckons_is tab_made a b n la lb) ?_
  simp only [if_true]
  exact Ev.bind (reckons_is made_none a b n la lb) (Ev.now _)
end Go.Proofs.Yteoiedjnlljbmaa.Pure
