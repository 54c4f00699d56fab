/- A page: Program, Erase; by hand. -/
import Derived.Test.YtmddafefdleimaaT
namespace Go.Proofs.Ytmddafefdleimaa.M
open Go.RowKit Go.Proofs.YtmddafefdleimaaW.PrintWords Go.Proofs.YtmddafefdleimaaW.PrintLast Go.Proofs.YtmddafefdleimaaW.PrintMore Go.Proofs.Ytmddafefdleimaa.Rw Go.Proofs.Ytmddafefdleimaa.Fl
set_option linter.unusedVariables false
set_option linter.unusedSimpArgs false
theorem geC (x : Int) (w : World) : Calls Try.prog 52 #[.int .u16 x] w fun e w' => e = .returned (.bool (decide (1024 ≤ x))) ∧ w' = w := by
  go_enter Try.func52, Try.ntmps52
  go_wp2
  go_ret
  exact ⟨rfl, rfl⟩
section
variable {w W W1 : World} {base g b : Nat} {P : Pts} {S xs : List Int} {st : Int} {sv : Value}
set_option maxHeartbeats 1600000 in
theorem indexC (A : Option Addr) (c : Nat) (hC : Kd.C (Kd.int .u16) w A xs.length xs) (hm : xs.length ≤ 1000) : Calls Try.prog 60 #[.slice A xs.length c, .func (.func 52) #[] #[]] w fun e w' =>
    ∃ r : Int, e = .returned (.int .i64 r) ∧ Aside0 (0 ≤ r ↔ ∃ j, j < xs.length ∧ 1024 ≤ xs.getD j 0) ∧ w' = w := by
  have HC := Aside0.mk hC
  obtain ⟨n, hn⟩ : ∃ n, xs.length = n := ⟨_, rfl⟩
  have HN := Aside0.mk hn
  rw [hn] at hm ⊢
  clear hn hC
  go_enter Try.func60, Try.ntmps60
  go_wp2
  go_loopw [5, 8] (fun _ v8 wr => ∃ i : Nat, i ≤ n ∧ v8 = .int .i64 (i : Int) ∧ Aside0 (wr = w) ∧ Aside0 (∀ j, j < i → xs.getD j 0 < 1024)) (fun _ v8 _ => n - (intOf v8).toNat)
  case atStart => exact ⟨0, Nat.zero_le _, rfl, ⟨rfl⟩, ⟨fun j hj => absurd hj (Nat.not_lt_zero _)⟩⟩
  case round =>
    obtain ⟨i, hi, rfl, HW, HPre⟩ := hrel
    by_cases ci : i < n
    · have cii : (i : Int) < (n : Int) := by omega
      obtain ⟨ad, e1, hx⟩ := at_num HC.out i (by rw [HN.out]; exact ci)
      cases e1
      rw [← HW.out] at hx
      obtain ⟨x, hx0⟩ : ∃ x, xs.getD i 0 = x := ⟨_, rfl⟩
      rw [hx0] at hx
      by_cases c : 1024 ≤ x
      · have cb : decide (1024 ≤ x) = true := decide_eq_true c
        have HX : Aside0 (∃ j, j < n ∧ 1024 ≤ xs.getD j 0) := ⟨⟨i, ci, by rw [hx0]; exact c⟩⟩
        clear c hx0
        go_wp2_with (first | (go_at_call 52; (refine (geC x _).mono ?_); rintro o w2 ⟨rfl, hw⟩; obtain rfl := hw.symm))
        go_ret
        exact ⟨_, rfl, ⟨⟨fun _ => HX.out, fun _ => by omega⟩⟩, HW.out⟩
      · have cb : decide (1024 ≤ x) = false := decide_eq_false c
        have HPre2 : Aside0 (∀ j, j < i + 1 → xs.getD j 0 < 1024) := ⟨fun j hj => by
          by_cases e : j = i
          · subst e; rw [hx0]; omega
          · exact HPre.out j (by omega)⟩
        clear c hx0
        go_wp2_with (first | (go_at_call 52; (refine (geC x _).mono ?_); rintro o w2 ⟨rfl, hw⟩; obtain rfl := hw.symm))
        go_roundw
        case rel => exact ⟨i + 1, ci, rfl, HW, HPre2⟩
        case measure => simp [intOf]; omega
    · obtain rfl : i = n := by omega
      go_wp2
      go_ret
      exact ⟨_, rfl, ⟨⟨fun h => absurd h (by decide), fun ⟨j, hj, hx⟩ => absurd hx (by have := HPre.out j hj; omega)⟩⟩, HW.out⟩
theorem containsC (A : Option Addr) (c : Nat) (hC : Kd.C (Kd.int .u16) w A xs.length xs) (hm : xs.length ≤ 1000) (bb : Bool) (hb : bb = true ↔ ∃ j, j < xs.length ∧ 1024 ≤ xs.getD j 0) : Calls Try.prog 51 #[.slice A xs.length c, .func (.func 52) #[] #[]] w fun e w' =>
    e = .returned (.bool bb) ∧ w' = w := by
  have HI := Aside0.mk (indexC A c hC hm)
  have HB := Aside0.mk hb
  clear hC hb
  generalize xs.length = n at *
  go_enter Try.func51, Try.ntmps51
  go_wp2_with (first | (go_at_call 60; (refine HI.out.mono ?_); rintro o w2 ⟨r, rfl, hr, hw⟩; obtain rfl := hw.symm; have hd : decide (0 ≤ r) = bb := (by cases h9 : bb with | true => exact decide_eq_true (hr.out.2 (HB.out.1 h9)) | false => exact decide_eq_false (fun h8 => by have := HB.out.2 (hr.out.1 h8); rw [h9] at this; cases this)); clear hr))
  go_ret
  exact ⟨rfl, rfl⟩
theorem progOrder (h : IsC w base g b P S st sv) (hst : st ≠ 0) (v : Value) (A : Option Addr) (m c : Nat) (keep : Int) : Calls Try.prog 39 #[.pointer (some ⟨g, 0, none⟩), .slice A m c, .int .i64 keep] w fun e w' => e = .returned (.int .i64 5) ∧ w' = w := by
  obtain ⟨c0, c1, c2⟩ := h.cells
  have hb : (st != 0) = true := bne_iff_ne.2 hst
  clear h hst
  go_enter Try.func39, Try.ntmps39
  go_wp2
  go_ret
  exact ⟨rfl, rfl⟩
theorem progSize (h : IsC w base g b P S 0 sv) (A : Option Addr) (m c : Nat) (hm : m ≠ P.length) (keep : Int) : Calls Try.prog 39 #[.pointer (some ⟨g, 0, none⟩), .slice A m c, .int .i64 keep] w fun e w' => e = .returned (.int .i64 3) ∧ w' = w := by
  obtain ⟨c0, c1, c2⟩ := h.cells
  have hb : ((m : Int) != (P.length : Int)) = true := bne_iff_ne.2 (by omega)
  generalize P.length = n at *
  clear h hm
  go_enter Try.func39, Try.ntmps39
  go_wp2
  go_ret
  exact ⟨rfl, rfl⟩
theorem progArg (h : IsC w base g b P S 0 sv) (A : Option Addr) (c : Nat) (hC : Kd.C (Kd.int .u16) w A xs.length xs) (hm : xs.length = P.length) (hx : ∃ j, j < xs.length ∧ 1024 ≤ xs.getD j 0) (keep : Int) : Calls Try.prog 39 #[.pointer (some ⟨g, 0, none⟩), .slice A xs.length c, .int .i64 keep] w fun e w' => e = .returned (.int .i64 1) ∧ w' = w := by
  obtain ⟨c0, c1, c2⟩ := h.cells
  have hle := h.le
  have HK := Aside0.mk (containsC A c hC (by omega) true ⟨fun _ => hx, fun _ => rfl⟩)
  rw [← hm] at c0
  generalize xs.length = n at *
  clear h hm hC hx
  go_enter Try.func39, Try.ntmps39
  go_wp2_with (first | (go_at_call 51; (refine HK.out.mono ?_); rintro o w2 ⟨rfl, hw⟩; obtain rfl := hw.symm))
  go_ret
  exact ⟨rfl, rfl⟩
end
/-- a symbol's point -/
def ofPt (s : Int) : Int × Int := (2 * (s / 32) - 31, 2 * (s % 32) - 31)
theorem ofP (s : Int) (h0 : 0 ≤ s) (h1 : s < 1024) (w : World) : Calls Try.prog 53 #[.int .u16 s] w fun e w' => e = .returned (ptV (ofPt s)) ∧ w' = w := by
  have h2 := ofC s h0 (by omega) w
  have e1 : s % 1024 = s := by omega
  unfold ptR ptI at h2
  rw [e1] at h2
  exact h2
/-- the first i of them are put to their symbols' points -/
def progL (P : Pts) (S : List Int) (i : Nat) : Pts := (S.take i).map ofPt ++ P.drop i
theorem progL_zero (P : Pts) (S : List Int) : progL P S 0 = P := rfl
theorem progL_len {P : Pts} {S : List Int} {i : Nat} (hS : S.length = P.length) (hi : i ≤ P.length) : (progL P S i).length = P.length := by
  unfold progL; simp; omega
theorem progL_succ {P : Pts} {S : List Int} {i : Nat} (hS : S.length = P.length) (hi : i < P.length) : (progL P S i).set i (ofPt (S.getD i 0)) = progL P S (i + 1) := by
  unfold progL
  have h1 : ((S.take i).map ofPt).length = i := by simp; omega
  rw [List.set_append_right _ _ (by omega), h1, Nat.sub_self]
  have h2 : P.drop i = P[i] :: P.drop (i + 1) := List.drop_eq_getElem_cons hi
  have h3 : S.take (i + 1) = S.take i ++ [S[i]'(by omega)] := (List.take_append_getElem (by omega)).symm
  rw [h2, List.set_cons_zero, h3, List.map_append, List.append_assoc]
  rw [List.getD_eq_getElem?_getD, List.getElem?_eq_getElem (by omega : i < S.length)]; rfl
theorem progL_all {P : Pts} {S : List Int} (hS : S.length = P.length) : progL P S P.length = S.map ofPt := by
  unfold progL
  rw [List.drop_length, List.append_nil, ← hS, List.take_length]
end Go.Proofs.Ytmddafefdleimaa.M
