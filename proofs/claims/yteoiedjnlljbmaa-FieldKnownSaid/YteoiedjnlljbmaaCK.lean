/- What package field's functions come to: by hand. -/
import Derived.Test.YteoiedjnlljbmaaBK
import Derived.Test.YteoiedjnlljbmaaKx3
set_option linter.unusedVariables false
set_option linter.unusedSimpArgs false
namespace Go.Proofs.Yteoiedjnlljbmaa.Pure
open Go.RowKit Go.Proofs.Yteoiedjnlljbmaa.K Go.Proofs.YteoiedjnlljbmaaW.PrintWords Go.Proofs.YteoiedjnlljbmaaW.PrintLast Go.Proofs.YteoiedjnlljbmaaW.PrintMore

theorem w64 {x : Int} (h0 : -9223372036854775808 ≤ x) (h1 : x ≤ 9223372036854775807) : wrap64 x = x := by unfold wrap64; omega
theorem wn1 {i : Nat} (h : i ≤ 1000000000000000) : wrap64 ((i : Int) + 1) = ((i + 1 : Nat) : Int) := by rw [w64 (by omega) (by omega)]; rfl
theorem Ev.one {α : Type} {g : Nat → Option α} {r : α} (h : Ev (fun k => g (k + 1)) r) : Ev g r := Ev.step (fun _ => rfl) h
theorem rdn (s : List Int) (n : Nat) : rd s (n : Int) = s.getD n 0 := by unfold rd; rw [Int.toNat_natCast]
theorem wrap_i64_small (n : Int) (h0 : 0 ≤ n) (h1 : n < 2 ^ 40) : IntKind.i64.wrap n = n := by
  rw [show (2 : Int) ^ 40 = 1099511627776 from rfl] at h1
  rw [IntKind.wrap_i64]; omega
theorem xor64 (a b : Nat) (ha : a < 2 ^ 40) (hb : b < 2 ^ 40) : Go.bits .xor .i64 (a : Int) (b : Int) = ((a ^^^ b : Nat) : Int) := by
  have hp : (2 : Nat) ^ 40 ≤ 2 ^ IntKind.i64.bits := Nat.pow_le_pow_right (by decide) (by decide)
  have ha' : a % 2 ^ IntKind.i64.bits = a := Nat.mod_eq_of_lt (Nat.lt_of_lt_of_le ha hp)
  have hb' : b % 2 ^ IntKind.i64.bits = b := Nat.mod_eq_of_lt (Nat.lt_of_lt_of_le hb hp)
  simp only [bits, BitVec.ofInt_natCast, BitVec.toNat_xor, BitVec.toNat_ofNat, ha', hb']
  have hc : a ^^^ b < 2 ^ 40 := Nat.xor_lt_two_pow ha hb
  exact wrap_i64_small _ (Int.natCast_nonneg _) (by exact_mod_cast hc)
/-- the first n of the powers, and of the logarithms -/
def En (n : Nat) : List Int := (List.range 1023).map fun q => ((if q < n then ex q else 0 : Nat) : Int)
def Ln (n : Nat) : List Int := (List.range 1024).map fun a => ((if lo a < n then lo a else 0 : Nat) : Int)
theorem En_length (n : Nat) : (En n).length = 1023 := by simp [En]
theorem Ln_length (n : Nat) : (Ln n).length = 1024 := by simp [Ln]
theorem En_set (n : Nat) (h : n < 1023) : (En n).set n ((ex n : Nat) : Int) = En (n + 1) := by
  apply List.ext_getElem
  · rw [List.length_set, En_length, En_length]
  · intro q h1 h2
    rw [List.getElem_set]
    by_cases e : n = q
    · subst e; simp [En]
    · rw [if_neg e]
      simp only [En, List.getElem_map, List.getElem_range]
      congr 1
      by_cases c : q < n
      · rw [if_pos c, if_pos (by omega)]
      · rw [if_neg c, if_neg (by omega)]
theorem Ln_set (n : Nat) (h : n < 1023) : (Ln n).set (ex n) (n : Int) = Ln (n + 1) := by
  apply List.ext_getElem
  · rw [List.length_set, Ln_length, Ln_length]
  · intro a h1 h2
    rw [Ln_length] at h2
    rw [List.getElem_set]
    by_cases e : ex n = a
    · subst e
      rw [if_pos rfl]
      simp only [Ln, List.getElem_map, List.getElem_range]
      rw [lo_ex h, if_pos (by omega)]
    · rw [if_neg e]
      simp only [Ln, List.getElem_map, List.getElem_range]
      congr 1
      by_cases c : lo a < n
      · rw [if_pos c, if_pos (by omega)]
      · by_cases d : lo a = n
        · by_cases a0 : a = 0
          · rw [a0] at d ⊢
            have : lo 0 = 0 := by decide +kernel
            rw [this]; split <;> split <;> rfl
          · exact absurd (by rw [← d]; exact (ex_lo h2 a0).1) e
        · rw [if_neg c, if_neg (by omega)]
theorem En_zero : En 0 = List.replicate 1023 0 := by decide +kernel
theorem Ln_zero : Ln 0 = List.replicate 1024 0 := by decide +kernel
theorem make_loop : ∀ (d n : Nat), n + d = 1023 → Ev (fun k => field_Make.l0 k ((ex (n % 1023) : Nat) : Int) (n : Int) (En n) (Ln n)) (En 1023, Ln 1023) := by
  intro d
  induction d with
  | zero =>
    intro n hn
    have c1 : ¬ ((n : Int) < 1023) := by omega
    have e : n = 1023 := by omega
    refine Ev.one ?_
    simp only [field_Make.l0, if_neg c1, e]
    exact Ev.now _
  | succ d ih =>
    intro n hn
    have hlt : n < 1023 := by omega
    have c1 : (n : Int) < 1023 := by omega
    have c2 : 0 ≤ (n : Int) := by omega
    have c3 : (n : Int) < ((En n).length : Int) := by rw [En_length]; omega
    have hx := ex_lt n
    have c4 : 0 ≤ ((ex n : Nat) : Int) := Int.natCast_nonneg _
    have c5 : ((ex n : Nat) : Int) < ((Ln n).length : Int) := by rw [Ln_length]; omega
    have e1 : IntKind.u16.wrap ((ex n : Nat) : Int) = ((ex n : Nat) : Int) := by rw [IntKind.wrap_u16]; omega
    have e2 : wrap64 (((ex n : Nat) : Int) * 2) = ((2 * ex n : Nat) : Int) := by rw [w64 (by omega) (by omega)]; omega
    have ei := wn1 (i := n) (by omega)
    have hs := step_ex hlt
    have hnext := ih (n + 1) (by omega)
    rw [← hs, ← En_set n hlt, ← Ln_set n hlt] at hnext
    rw [Nat.mod_eq_of_lt hlt]
    refine Ev.one ?_
    unfold step at hnext
    by_cases c : 2 * ex n ≥ 1024
    · have c' : ((2 * ex n : Nat) : Int) ≥ 1024 := by omega
      rw [if_pos c] at hnext
      have e3 := xor64 (2 * ex n) 1033 (Nat.lt_of_lt_of_le (show 2 * ex n < 2048 by omega) (by decide)) (by decide)
      rw [← e3] at hnext
      simp only [field_Make.l0, if_pos c1, if_pos c2, if_pos c3, Option.bind_some, if_pos c4, if_pos c5, e1, e2, if_pos c', Int.toNat_natCast, ei]
      exact hnext
    · have c' : ¬ ((2 * ex n : Nat) : Int) ≥ 1024 := by omega
      rw [if_neg c] at hnext
      simp only [field_Make.l0, if_pos c1, if_pos c2, if_pos c3, Option.bind_some, if_pos c4, if_pos c5, e1, e2, if_neg c', Int.toNat_natCast, ei]
      exact hnext
theorem make_is : Ev (fun k => field_Make.f k) (En 1023, Ln 1023) := by
  unfold field_Make.f
  simp only [show (1023 : Nat) ≤ 140737488355328 by decide, show (1024 : Nat) ≤ 35184372088832 by decide, if_true]
  have := make_loop 1023 0 (by omega)
  rw [En_zero, Ln_zero] at this
  exact this

/-! the functions over the tables -/
theorem En_get (n : Nat) (h : n < 1023) : (En 1023).getD n 0 = ((ex n : Nat) : Int) := by
  rw [List.getD_eq_getElem?_getD, List.getElem?_eq_getElem (by rw [En_length]; exact h)]
  simp [En, h]
theorem Ln_get (a : Nat) (h : a < 1024) (h0 : a ≠ 0) : (Ln 1023).getD a 0 = ((lo a : Nat) : Int) := by
  rw [List.getD_eq_getElem?_getD, List.getElem?_eq_getElem (by rw [Ln_length]; exact h)]
  simp [Ln, (ex_lo h h0).2]
theorem made_is (k : Nat) : field_Tables_made.f k (En 1023) (Ln 1023) = some (En 1023, Ln 1023) := by
  unfold field_Tables_made.f
  have c : ¬ (((En 1023).length : Nat) : Int) = 0 := by have h := En_length 1023; omega
  rw [if_neg c]
theorem ev_pair {g : Nat → Option (List Int × List Int)} {p : List Int × List Int} (h : Ev g p) : Ev (fun k => (g k).bind fun bt => some (bt.1, bt.2)) p := Ev.bind h (Ev.now p)
theorem made_none : Ev (fun k => field_Tables_made.f k [] []) (En 1023, Ln 1023) := by
  unfold field_Tables_made.f
  simp only [show (([] : List Int).length : Int) = 0 from rfl, if_true]
  exact ev_pair make_is
/-- a symbol of 16 bits as one of the field -/
theorem log_is (k a : Nat) : field_Tables_Log.f k (En 1023) (Ln 1023) (a : Int) = if a % 1024 = 0 then some (0, false) else some (((lo (a % 1024) : Nat) : Int), true) := by
  unfold field_Tables_Log.f
  have e : Int.tmod (a : Int) 1024 = ((a % 1024 : Nat) : Int) := by rw [Int.tmod_eq_emod_of_nonneg (by omega)]; omega
  rw [e, made_is, Option.bind_some]
  by_cases c : a % 1024 = 0
  · rw [if_pos c, if_pos (by omega)]
  · have hl : a % 1024 < 1024 := Nat.mod_lt _ (by decide)
    rw [if_neg c, if_neg (by omega), if_pos (Int.natCast_nonneg _), if_pos (by rw [Ln_length]; omega), rdn, Ln_get _ hl c]
theorem exp_is (k : Nat) (n : Int) : field_Tables_Exp.f k (En 1023) (Ln 1023) n = some ((ex (n % 1023).toNat : Nat) : Int) := by
  unfold field_Tables_Exp.f
  have h1 : Int.tmod (wrap64 (Int.tmod n 1023 + 1023)) 1023 = (((n % 1023).toNat : Nat) : Int) := by
    have h := Int.tmod_eq_emod (a := n) (b := 1023)
    have hb : -1023 < Int.tmod n 1023 ∧ Int.tmod n 1023 < 1023 := by
      rw [h]; split <;> omega
    rw [w64 (by omega) (by omega), Int.tmod_eq_emod_of_nonneg (by omega)]
    rw [h]; split <;> omega
  rw [made_is, Option.bind_some, h1]
  have hl : (n % 1023).toNat < 1023 := by omega
  rw [if_pos (Int.natCast_nonneg _), if_pos (by rw [En_length]; omega), rdn, En_get _ hl]
end Go.Proofs.Yteoiedjnlljbmaa.Pure
