/- Go's math on words: Mod by two; the grid; by hand. -/
import Derived.Test.YtggfmihmpnaboaaD
namespace Go.Proofs.Ytggfmihmpnaboaa.M
open Go.RowKit Go.Proofs.YtggfmihmpnaboaaW.PrintWords Go.Proofs.YtggfmihmpnaboaaW.PrintLast Go.Proofs.YtggfmihmpnaboaaW.PrintMore Go.Proofs.Ytggfmihmpnaboaa.Rw Go.Proofs.Ytggfmihmpnaboaa.Fl
set_option linter.unusedVariables false
set_option linter.unusedSimpArgs false
theorem fd_inj {a b e : Int} (ha : a.natAbs < 2 ^ 53) (hb : b.natAbs < 2 ^ 53) (h1 : -1000 ≤ e) (h2 : e ≤ 900) (h : fd a e = fd b e) : a = b := by
  have i1 := is_fd a e ha (by omega) h2
  have i2 := is_fd b e hb (by omega) h2
  rw [← h] at i2
  have h3 := order_is i1 i2
  rw [order_is i1 i1, Int.compare_eq_eq.2 rfl] at h3
  injection h3 with h3
  exact Int.compare_eq_eq.1 h3.symm
/-- the number whose word lies in a slot -/
noncomputable def unfd (e : Int) (v : Value) : Nat := match v with
  | .float _ x => Classical.epsilon fun U : Nat => fd (U : Int) e = x ∧ U < 2 ^ 53
  | _ => 0
theorem unfd_fd {U : Nat} {e : Int} (h : U < 2 ^ 53) (h1 : -1000 ≤ e) (h2 : e ≤ 900) : unfd e (.float .f64 (fd (U : Int) e)) = U := by
  have hs := Classical.epsilon_spec (p := fun U' : Nat => fd (U' : Int) e = fd (U : Int) e ∧ U' < 2 ^ 53) ⟨U, rfl, h⟩
  have := fd_inj (by simpa using hs.2) (by simpa using h) h1 h2 hs.1
  have h5 : unfd e (.float .f64 (fd (U : Int) e)) = Classical.epsilon fun U' : Nat => fd (U' : Int) e = fd (U : Int) e ∧ U' < 2 ^ 53 := rfl
  omega
theorem dbl_fd {l s k : Nat} (hk : l = s + 1 + k) (hs : s ≤ 60) (hl : l ≤ 52) : dbl k = fd ((2 ^ l : Nat) : Int) (-(s : Int)) := by
  have hne : (2 ^ l : Nat) ≠ 0 := Nat.ne_of_gt (Nat.two_pow_pos l)
  have hlt : (2 ^ l : Nat) < 2 ^ 53 := Nat.pow_lt_pow_right (by decide) (by omega)
  rw [(fd_wd hne hlt (by omega) (by omega)).1, Nat.log2_two_pow, ← Nat.pow_add, Nat.add_sub_cancel' hl, Nat.sub_self]
  unfold wd dbl
  have : (-(s : Int) + l + 1023).toNat = 1024 + k := by omega
  rw [this]; omega
/-- one round of Mod: the greatest power of two is taken away -/
theorem mod_round {U s : Nat} (hs : s ≤ 60) (h53 : U < 2 ^ 53) (hlo : 2 ^ (s + 1) ≤ U) (hhi : U ≤ 31 * 2 ^ s) :
    ∃ k : Nat, (k = 0 ∨ k = 1 ∨ k = 2 ∨ k = 3) ∧ -(s : Int) + U.log2 + 1 = (k : Int) + 2 ∧ 2 ^ U.log2 ≤ U ∧ (U - 2 ^ U.log2) % 2 ^ (s + 1) = U % 2 ^ (s + 1) ∧ U - 2 ^ U.log2 < U ∧
      FloatKind.f64.format.sub (fd (U : Int) (-(s : Int))) (dbl k) = some (fd ((U - 2 ^ U.log2 : Nat) : Int) (-(s : Int))) := by
  have hU : U ≠ 0 := by have := Nat.two_pow_pos (s + 1); omega
  have h1 : s + 1 ≤ U.log2 := (Nat.le_log2 hU).2 hlo
  have h2 : U.log2 < s + 5 := by
    apply (Nat.log2_lt hU).2
    have : (2 : Nat) ^ (s + 5) = 32 * 2 ^ s := by rw [Nat.pow_add]; omega
    have := Nat.two_pow_pos s
    omega
  have h3 := Nat.log2_self_le hU
  have hp := Nat.two_pow_pos U.log2
  have hl : U.log2 ≤ 52 := by have := (Nat.log2_lt hU).2 h53; omega
  refine ⟨U.log2 - (s + 1), by omega, by omega, h3, ?_, by omega, ?_⟩
  · obtain ⟨d, hd⟩ : ∃ d, U.log2 = (s + 1) + d := ⟨U.log2 - (s + 1), by omega⟩
    have h4 : 2 ^ U.log2 = 2 ^ (s + 1) * 2 ^ d := by rw [hd, Nat.pow_add]
    rw [h4] at h3 ⊢
    rw [Nat.sub_mul_mod h3]
  · rw [dbl_fd (l := U.log2) (s := s) (by omega) hs hl]
    have h5 := sub_is (is_fd (U : Int) (-(s : Int)) (by simpa using h53) (by omega) (by omega)) (is_fd ((2 ^ U.log2 : Nat) : Int) (-(s : Int)) (by rw [Int.natAbs_natCast]; omega) (by omega) (by omega)) (by omega) (by omega) (by omega)
    rw [← Int.ofNat_sub h3] at h5
    exact h5
theorem lit_half : (4602678819172646912 : Nat) = fd 1 (-1) := by rw [fd_eq]; decide +kernel
theorem isTwo : Is 4611686018427387904 2 0 := by rw [lit2]; exact is_fd 2 0 (by decide) (by decide) (by decide)
set_option maxHeartbeats 3200000 in
theorem modC {V : Int} {s : Nat} (hs : s ≤ 60) (h53 : V.natAbs < 2 ^ 53) (hb : V.natAbs ≤ 31 * 2 ^ s) (w : World) : Calls Try.prog 31 #[.float .f64 (fd V (-(s : Int))), .float .f64 4611686018427387904] w fun o w' =>
    o = .returned (.float .f64 (Ieee.double.word (decide (V < 0)) (fd ((V.natAbs % 2 ^ (s + 1) : Nat) : Int) (-(s : Int))))) ∧ w' = w := by
  have e1 : -1000 ≤ -(s : Int) := by omega
  have e2 : -(s : Int) ≤ 900 := by omega
  have HI := Aside0.mk (isInfC (v := V) h53 e1 e2)
  have HQ := Aside0.mk (isNaNC (v := V) h53 e1 e2)
  have hq2 := isNaNC (v := 2) (e := 0) (by decide) (by decide) (by decide)
  rw [← lit2] at hq2
  have HQ2 := Aside0.mk hq2
  have hz2 : FloatKind.f64.format.order 4611686018427387904 0 = some .gt := by decide +kernel
  have HA2 := Aside0.mk (absC (x := 4611686018427387904) (r := 4611686018427387904) (by decide) (by decide))
  have hf2 := frexpC (U := 2) (e := 0) (by decide) (by decide) (by decide) (by decide)
  rw [show ((2 : Nat) : Int) = 2 from rfl, ← lit2, show (0 : Int) + ((2 : Nat).log2 : Int) + 1 = 2 from by decide +kernel, show fd 2 (-((2 : Nat).log2 : Int) - 1) = 4602678819172646912 from by rw [fd_eq]; decide +kernel] at hf2
  have HF2 := Aside0.mk hf2
  have hzx := order_zero (e := -(s : Int)) h53 e1 e2
  have hflip : Aside0 (∀ U : Nat, U < 2 ^ 53 → Op.negFloat .f64 (fd (U : Int) (-(s : Int))) = Ieee.double.word true (fd (U : Int) (-(s : Int)))) := ⟨fun U hU => by
    have hU' : ((U : Int)).natAbs < 2 ^ 53 := by simpa using hU
    have hw := fd_word hU' (by omega) e2
    have hr := rung_lt hU' (show -1022 ≤ -(s : Int) by omega) e2
    rw [decide_eq_false (show ¬ (U : Int) < 0 by omega), word_pos] at hw
    have h := word_flip (fd (U : Int) (-(s : Int))) (by omega) false
    rw [word_pos] at h
    exact h⟩
  have hstart : Aside0 (V < 0 → Op.negFloat .f64 (fd V (-(s : Int))) = fd (V.natAbs : Int) (-(s : Int))) := ⟨fun h => by
    rw [neg_fd (by omega) h53 (by omega) e2]; congr 1; omega⟩
  have H53 := Aside0.mk h53
  have HB := Aside0.mk hb
  clear h53 hb hq2 hf2
  have ku : ∀ x, Op.unary .neg (.float .f64 x) = pure (.float .f64 (Op.negFloat .f64 x)) := fun _ => rfl
  by_cases hV : V < 0
  · rw [Int.compare_eq_lt.2 hV] at hzx
    have hzx : FloatKind.f64.format.order (fd V (-(s : Int))) 0 = some .lt := hzx
    have hng := hstart.out hV
    rw [decide_eq_true hV]
    clear hstart
    go_enter Try.func31, Try.ntmps31
    go_wp2_with (first
      | (go_at_call 33; (refine (HI.out _).mono ?_); rintro o w2 ⟨rfl, hw⟩; obtain rfl := hw.symm)
      | (go_at_call 32; (first | (refine (HQ.out _).mono ?_; rintro o w2 ⟨rfl, hw⟩; obtain rfl := hw.symm; clear HQ) | (refine (HQ2.out _).mono ?_; rintro o w2 ⟨rfl, hw⟩; obtain rfl := hw.symm)))
      | (go_at_call 25; (refine (HA2.out _).mono ?_); rintro o w2 ⟨rfl, hw⟩; obtain rfl := hw.symm)
      | (go_at_call 35; (refine (HF2.out _).mono ?_); rintro o w2 ⟨rfl, hw⟩; obtain rfl := hw.symm))
    go_loopw [7, 8, 9] (fun v7 _ _ wr => ∃ U : Nat, v7 = .float .f64 (fd (U : Int) (-(s : Int))) ∧ Aside0 (wr = w) ∧ Aside0 (U ≤ V.natAbs ∧ U % 2 ^ (s + 1) = V.natAbs % 2 ^ (s + 1))) (fun v7 _ _ _ => unfd (-(s : Int)) v7)
    case atStart => exact ⟨V.natAbs, rfl, ⟨rfl⟩, ⟨Nat.le_refl _, rfl⟩⟩
    case round =>
      obtain ⟨U, rfl, HW, HU⟩ := hrel
      obtain ⟨hU1, hU2⟩ := HU.out
      have hU53 : U < 2 ^ 53 := Nat.lt_of_le_of_lt hU1 H53.out
      have ho := order_gen (is_fd (U : Int) (-(s : Int)) (by simpa using hU53) (by omega) e2) isTwo (by omega)
      have hp : (2 : Int) * 2 ^ (0 - -(s : Int)).toNat = ((2 ^ (s + 1) : Nat) : Int) := by
        have : (0 - -(s : Int)).toNat = s := by omega
        rw [this, Nat.pow_succ, Int.natCast_mul, Int.natCast_pow, Int.mul_comm]; rfl
      rw [hp] at ho
      by_cases c : 2 ^ (s + 1) ≤ U
      · obtain ⟨k, hk, hke, hk1, hk2, hk3, hks⟩ := mod_round hs hU53 c (Nat.le_trans hU1 HB.out)
        have hU0 : U ≠ 0 := by have := Nat.two_pow_pos (s + 1); omega
        have HK := Aside0.mk (ldexpC k hk)
        have hfr := frexpC (U := U) (e := -(s : Int)) hU0 hU53 (by omega) (by omega)
        rw [hke] at hfr
        have HF := Aside0.mk hfr
        have ks : ∀ t w, (binOp .sub t (.float .f64 (fd (U : Int) (-(s : Int)))) (.float .f64 (dbl k))).run Try.prog w = .ok (.float .f64 (fd ((U - 2 ^ U.log2 : Nat) : Int) (-(s : Int)))) w := fun t w => run_float_arith w .sub t .f64 _ _ _ hks
        have hh := order_gen (is_fd (U : Int) (-(U.log2 : Int) - 1) (by simpa using hU53) (by have := (Nat.log2_lt hU0).2 hU53; omega) (by omega)) (is_fd 1 (-1) (by decide) (by decide) (by decide)) (by omega)
        rw [← lit_half] at hh
        have hhp : (1 : Int) * 2 ^ (-1 - (-(U.log2 : Int) - 1)).toNat = ((2 ^ U.log2 : Nat) : Int) := by
          have : (-1 - (-(U.log2 : Int) - 1)).toNat = U.log2 := by omega
          rw [this, Int.one_mul, Int.natCast_pow]; rfl
        rw [hhp] at hh
        have hh2 : FloatKind.f64.format.order (fd (U : Int) (-(U.log2 : Int) - 1)) 4602678819172646912 = some .gt ∨ FloatKind.f64.format.order (fd (U : Int) (-(U.log2 : Int) - 1)) 4602678819172646912 = some .eq := by
          rcases Nat.lt_or_ge (2 ^ U.log2) U with h | h
          · exact .inl (hh.trans (congrArg some (Int.compare_eq_gt.2 (by omega))))
          · exact .inr (hh.trans (congrArg some (Int.compare_eq_eq.2 (by omega))))
        have ho2 : FloatKind.f64.format.order (fd (U : Int) (-(s : Int))) 4611686018427387904 = some .gt ∨ FloatKind.f64.format.order (fd (U : Int) (-(s : Int))) 4611686018427387904 = some .eq := by
          rcases Nat.lt_or_ge (2 ^ (s + 1)) U with h | h
          · exact .inl (ho.trans (congrArg some (Int.compare_eq_gt.2 (by omega))))
          · exact .inr (ho.trans (congrArg some (Int.compare_eq_eq.2 (by omega))))
        have hm1 := unfd_fd (U := U) hU53 e1 e2
        have hm2 := unfd_fd (U := U - 2 ^ U.log2) (by omega) e1 e2
        have HM : Aside0 (unfd (-(s : Int)) (.float .f64 (fd ((U - 2 ^ U.log2 : Nat) : Int) (-(s : Int)))) < unfd (-(s : Int)) (.float .f64 (fd (U : Int) (-(s : Int))))) := ⟨by rw [hm1, hm2]; exact hk3⟩
        have HU2 : Aside0 (U - 2 ^ U.log2 ≤ V.natAbs ∧ (U - 2 ^ U.log2) % 2 ^ (s + 1) = V.natAbs % 2 ^ (s + 1)) := ⟨by omega, hk2.trans hU2⟩
        clear hm1 hm2 ho hh hhp hp hks hfr hke hk2 hU2 hU1 hk1 hk3 hU53 c hU0
        generalize U - 2 ^ U.log2 = U' at *
        generalize fd (U : Int) (-(U.log2 : Int) - 1) = fr at *
        rcases ho2 with ho2 | ho2 <;> rcases hh2 with hh2 | hh2
        all_goals (
          go_wp2_with (first
            | (go_at_call 35; (refine (HF.out _).mono ?_); rintro o w2 ⟨rfl, hw⟩; obtain rfl := hw.symm)
            | (go_at_call 36; (refine (HK.out _).mono ?_); rintro o w2 ⟨rfl, hw⟩; obtain rfl := hw.symm)
            | simp only [ks])
          go_roundw
          case rel => exact ⟨U', rfl, HW, HU2⟩
          case measure => exact HM.out)
      · have hlt : U < 2 ^ (s + 1) := by omega
        have ho3 : FloatKind.f64.format.order (fd (U : Int) (-(s : Int))) 4611686018427387904 = some .lt := ho.trans (congrArg some (Int.compare_eq_lt.2 (by omega)))
        have hUV : U = V.natAbs % 2 ^ (s + 1) := by rw [← hU2, Nat.mod_eq_of_lt hlt]
        have hfl := hflip.out U hU53
        have HUV := Aside0.mk hUV
        clear ho hp hU1 hU2 hU53 c hlt hUV HU
        go_wp2
        go_ret
        rw [← HUV.out]
        exact ⟨rfl, HW.out⟩
  · have hzx : FloatKind.f64.format.order (fd V (-(s : Int))) 0 = some .gt ∨ FloatKind.f64.format.order (fd V (-(s : Int))) 0 = some .eq := by
      rcases Int.lt_or_le 0 V with h | h
      · exact .inl (hzx.trans (congrArg some (Int.compare_eq_gt.2 h)))
      · exact .inr (hzx.trans (congrArg some (Int.compare_eq_eq.2 (by omega))))
    have hVn : (V.natAbs : Int) = V := by omega
    rw [decide_eq_false hV, word_pos]
    clear hstart hflip ku
    rcases hzx with hzx | hzx
    all_goals (
      go_enter Try.func31, Try.ntmps31
      go_wp2_with (first
        | (go_at_call 33; (refine (HI.out _).mono ?_); rintro o w2 ⟨rfl, hw⟩; obtain rfl := hw.symm)
        | (go_at_call 32; (first | (refine (HQ.out _).mono ?_; rintro o w2 ⟨rfl, hw⟩; obtain rfl := hw.symm; clear HQ) | (refine (HQ2.out _).mono ?_; rintro o w2 ⟨rfl, hw⟩; obtain rfl := hw.symm)))
        | (go_at_call 25; (refine (HA2.out _).mono ?_); rintro o w2 ⟨rfl, hw⟩; obtain rfl := hw.symm)
        | (go_at_call 35; (refine (HF2.out _).mono ?_); rintro o w2 ⟨rfl, hw⟩; obtain rfl := hw.symm))
      go_loopw [7, 8, 9] (fun v7 _ _ wr => ∃ U : Nat, v7 = .float .f64 (fd (U : Int) (-(s : Int))) ∧ Aside0 (wr = w) ∧ Aside0 (U ≤ V.natAbs ∧ U % 2 ^ (s + 1) = V.natAbs % 2 ^ (s + 1))) (fun v7 _ _ _ => unfd (-(s : Int)) v7)
      case atStart => exact ⟨V.natAbs, by rw [hVn], ⟨rfl⟩, ⟨Nat.le_refl _, rfl⟩⟩
      case round =>
        obtain ⟨U, rfl, HW, HU⟩ := hrel
        obtain ⟨hU1, hU2⟩ := HU.out
        have hU53 : U < 2 ^ 53 := Nat.lt_of_le_of_lt hU1 H53.out
        have ho := order_gen (is_fd (U : Int) (-(s : Int)) (by simpa using hU53) (by omega) e2) isTwo (by omega)
        have hp : (2 : Int) * 2 ^ (0 - -(s : Int)).toNat = ((2 ^ (s + 1) : Nat) : Int) := by
          have : (0 - -(s : Int)).toNat = s := by omega
          rw [this, Nat.pow_succ, Int.natCast_mul, Int.natCast_pow, Int.mul_comm]; rfl
        rw [hp] at ho
        by_cases c : 2 ^ (s + 1) ≤ U
        · obtain ⟨k, hk, hke, hk1, hk2, hk3, hks⟩ := mod_round hs hU53 c (Nat.le_trans hU1 HB.out)
          have hU0 : U ≠ 0 := by have := Nat.two_pow_pos (s + 1); omega
          have HK := Aside0.mk (ldexpC k hk)
          have hfr := frexpC (U := U) (e := -(s : Int)) hU0 hU53 (by omega) (by omega)
          rw [hke] at hfr
          have HF := Aside0.mk hfr
          have ks : ∀ t w, (binOp .sub t (.float .f64 (fd (U : Int) (-(s : Int)))) (.float .f64 (dbl k))).run Try.prog w = .ok (.float .f64 (fd ((U - 2 ^ U.log2 : Nat) : Int) (-(s : Int)))) w := fun t w => run_float_arith w .sub t .f64 _ _ _ hks
          have hh := order_gen (is_fd (U : Int) (-(U.log2 : Int) - 1) (by simpa using hU53) (by have := (Nat.log2_lt hU0).2 hU53; omega) (by omega)) (is_fd 1 (-1) (by decide) (by decide) (by decide)) (by omega)
          rw [← lit_half] at hh
          have hhp : (1 : Int) * 2 ^ (-1 - (-(U.log2 : Int) - 1)).toNat = ((2 ^ U.log2 : Nat) : Int) := by
            have : (-1 - (-(U.log2 : Int) - 1)).toNat = U.log2 := by omega
            rw [this, Int.one_mul, Int.natCast_pow]; rfl
          rw [hhp] at hh
          have hh2 : FloatKind.f64.format.order (fd (U : Int) (-(U.log2 : Int) - 1)) 4602678819172646912 = some .gt ∨ FloatKind.f64.format.order (fd (U : Int) (-(U.log2 : Int) - 1)) 4602678819172646912 = some .eq := by
            rcases Nat.lt_or_ge (2 ^ U.log2) U with h | h
            · exact .inl (hh.trans (congrArg some (Int.compare_eq_gt.2 (by omega))))
            · exact .inr (hh.trans (congrArg some (Int.compare_eq_eq.2 (by omega))))
          have ho2 : FloatKind.f64.format.order (fd (U : Int) (-(s : Int))) 4611686018427387904 = some .gt ∨ FloatKind.f64.format.order (fd (U : Int) (-(s : Int))) 4611686018427387904 = some .eq := by
            rcases Nat.lt_or_ge (2 ^ (s + 1)) U with h | h
            · exact .inl (ho.trans (congrArg some (Int.compare_eq_gt.2 (by omega))))
            · exact .inr (ho.trans (congrArg some (Int.compare_eq_eq.2 (by omega))))
          have hm1 := unfd_fd (U := U) hU53 e1 e2
          have hm2 := unfd_fd (U := U - 2 ^ U.log2) (by omega) e1 e2
          have HM : Aside0 (unfd (-(s : Int)) (.float .f64 (fd ((U - 2 ^ U.log2 : Nat) : Int) (-(s : Int)))) < unfd (-(s : Int)) (.float .f64 (fd (U : Int) (-(s : Int))))) := ⟨by rw [hm1, hm2]; exact hk3⟩
          have HU2 : Aside0 (U - 2 ^ U.log2 ≤ V.natAbs ∧ (U - 2 ^ U.log2) % 2 ^ (s + 1) = V.natAbs % 2 ^ (s + 1)) := ⟨by omega, hk2.trans hU2⟩
          clear hm1 hm2 ho hh hhp hp hks hfr hke hk2 hU2 hU1 hk1 hk3 hU53 c hU0
          generalize U - 2 ^ U.log2 = U' at *
          generalize fd (U : Int) (-(U.log2 : Int) - 1) = fr at *
          rcases ho2 with ho2 | ho2 <;> rcases hh2 with hh2 | hh2
          all_goals (
            go_wp2_with (first
              | (go_at_call 35; (refine (HF.out _).mono ?_); rintro o w2 ⟨rfl, hw⟩; obtain rfl := hw.symm)
              | (go_at_call 36; (refine (HK.out _).mono ?_); rintro o w2 ⟨rfl, hw⟩; obtain rfl := hw.symm)
              | simp only [ks])
            go_roundw
            case rel => exact ⟨U', rfl, HW, HU2⟩
            case measure => exact HM.out)
        · have hlt : U < 2 ^ (s + 1) := by omega
          have ho3 : FloatKind.f64.format.order (fd (U : Int) (-(s : Int))) 4611686018427387904 = some .lt := ho.trans (congrArg some (Int.compare_eq_lt.2 (by omega)))
          have hUV : U = V.natAbs % 2 ^ (s + 1) := by rw [← hU2, Nat.mod_eq_of_lt hlt]
          have HUV := Aside0.mk hUV
          clear ho hp hU1 hU2 hU53 c hlt hUV HU
          go_wp2
          go_ret
          rw [← HUV.out]
          exact ⟨rfl, HW.out⟩)
theorem ModC {V : Int} {s : Nat} (hs : s ≤ 60) (h53 : V.natAbs < 2 ^ 53) (hb : V.natAbs ≤ 31 * 2 ^ s) (w : World) : Calls Try.prog 26 #[.float .f64 (fd V (-(s : Int))), .float .f64 4611686018427387904] w fun o w' =>
    o = .returned (.float .f64 (Ieee.double.word (decide (V < 0)) (fd ((V.natAbs % 2 ^ (s + 1) : Nat) : Int) (-(s : Int))))) ∧ w' = w := by
  have HM := Aside0.mk (modC hs h53 hb)
  generalize Ieee.double.word (decide (V < 0)) (fd ((V.natAbs % 2 ^ (s + 1) : Nat) : Int) (-(s : Int))) = y at *
  generalize fd V (-(s : Int)) = x at *
  clear h53 hb
  go_enter Try.func26, Try.ntmps26
  go_wp2_with (first
    | (go_at_call 31; (refine (HM.out _).mono ?_); rintro o w2 ⟨rfl, rfl⟩))
  go_ret
  exact ⟨rfl, rfl⟩
theorem lit_m31 : (13852790978814935040 : Nat) = fd (-31) 0 := by rw [fd_eq]; decide +kernel
theorem lit1 : (4607182418800017408 : Nat) = fd 1 0 := by rw [fd_eq]; decide +kernel
/-- is a coordinate one of a symbol's? -/
def oddB (V : Int) (s : Nat) : Bool := decide (V.natAbs ≤ 31 * 2 ^ s) && decide (V.natAbs % 2 ^ (s + 1) = 2 ^ s)
theorem oddC {V : Int} {s : Nat} (hs : s ≤ 60) (h53 : V.natAbs < 2 ^ 53) (w : World) : Calls Try.prog 21 #[.float .f64 (fd V (-(s : Int)))] w fun o w' => o = .returned (.bool (oddB V s)) ∧ w' = w := by
  have e1 : -1000 ≤ -(s : Int) := by omega
  have e2 : -(s : Int) ≤ 900 := by omega
  have hx := is_fd V (-(s : Int)) h53 (by omega) e2
  have hss : (0 - -(s : Int)).toNat = s := by omega
  have o1 := order_gen hx (is_fd (-31) 0 (by decide) (by decide) (by decide)) (by omega)
  have o2 := order_gen hx (is_fd 31 0 (by decide) (by decide) (by decide)) (by omega)
  rw [hss, ← lit_m31] at o1
  rw [hss, ← lit31] at o2
  have hps := pow_pos' s
  have hpn : ((2 ^ s : Nat) : Int) = (2 : Int) ^ s := Int.natCast_pow 2 s
  have hb31 : (31 * 2 ^ s : Nat) = ((31 * (2 : Int) ^ s).toNat) := by omega
  by_cases c1 : V < -31 * (2 : Int) ^ s
  · have ho1 : FloatKind.f64.format.order (fd V (-(s : Int))) 13852790978814935040 = some .lt := o1.trans (congrArg some (Int.compare_eq_lt.2 c1))
    have hr : oddB V s = false := by unfold oddB; rw [decide_eq_false (by omega), Bool.false_and]
    rw [hr]
    clear o1 o2 hx h53 hps hpn hb31 c1 hss hr
    generalize fd V (-(s : Int)) = x at *
    go_enter Try.func21, Try.ntmps21
    go_wp2
    go_ret
    exact ⟨rfl, rfl⟩
  · have ho1 : FloatKind.f64.format.order (fd V (-(s : Int))) 13852790978814935040 = some .gt ∨ FloatKind.f64.format.order (fd V (-(s : Int))) 13852790978814935040 = some .eq := by
      rcases Int.lt_or_le (-31 * (2 : Int) ^ s) V with h | h
      · exact .inl (o1.trans (congrArg some (Int.compare_eq_gt.2 h)))
      · exact .inr (o1.trans (congrArg some (Int.compare_eq_eq.2 (by omega))))
    by_cases c2 : 31 * (2 : Int) ^ s < V
    · have ho2 : FloatKind.f64.format.order (fd V (-(s : Int))) 4629418941960159232 = some .gt := o2.trans (congrArg some (Int.compare_eq_gt.2 c2))
      have hr : oddB V s = false := by unfold oddB; rw [decide_eq_false (by omega), Bool.false_and]
      rw [hr]
      clear o1 o2 hx h53 hps hpn hb31 c1 c2 hss hr
      generalize fd V (-(s : Int)) = x at *
      rcases ho1 with ho1 | ho1
      all_goals (
        go_enter Try.func21, Try.ntmps21
        go_wp2
        go_ret
        exact ⟨rfl, rfl⟩)
    · have ho2 : FloatKind.f64.format.order (fd V (-(s : Int))) 4629418941960159232 = some .lt ∨ FloatKind.f64.format.order (fd V (-(s : Int))) 4629418941960159232 = some .eq := by
        rcases Int.lt_or_le V (31 * (2 : Int) ^ s) with h | h
        · exact .inl (o2.trans (congrArg some (Int.compare_eq_lt.2 h)))
        · exact .inr (o2.trans (congrArg some (Int.compare_eq_eq.2 (by omega))))
      have hin : V.natAbs ≤ 31 * 2 ^ s := by omega
      have HM := Aside0.mk (ModC hs h53 hin)
      have hU : V.natAbs % 2 ^ (s + 1) < 2 ^ 53 := Nat.lt_of_le_of_lt (Nat.mod_le _ _) h53
      have hr : oddB V s = decide (V.natAbs % 2 ^ (s + 1) = 2 ^ s) := by unfold oddB; rw [decide_eq_true hin, Bool.true_and]
      rw [hr]
      generalize V.natAbs % 2 ^ (s + 1) = U at *
      have hU' : ((U : Int)).natAbs < 2 ^ 53 := by simpa using hU
      have o3 := order_gen (is_fd (U : Int) (-(s : Int)) hU' (by omega) e2) (is_fd 1 0 (by decide) (by decide) (by decide)) (by omega)
      rw [hss, ← lit1, Int.one_mul] at o3
      have ho3 : (FloatKind.f64.format.order (fd (U : Int) (-(s : Int))) 4607182418800017408 == some Ordering.eq) = decide (U = 2 ^ s) := by
        have o3' : FloatKind.f64.format.order (fd (U : Int) (-(s : Int))) 4607182418800017408 = some (compare (U : Int) ((2 : Int) ^ s)) := o3
        rw [o3']
        by_cases c : U = 2 ^ s
        · rw [decide_eq_true c, Int.compare_eq_eq.2 (by omega)]; rfl
        · rw [decide_eq_false c]
          cases h2 : compare (U : Int) ((2 : Int) ^ s) with
          | eq => exact absurd (Int.compare_eq_eq.1 h2) (by omega)
          | lt => rfl
          | gt => rfl
      have hw := fd_word hU' (by omega) e2
      have hrg := rung_lt hU' (show -1022 ≤ -(s : Int) by omega) e2
      rw [decide_eq_false (show ¬ (U : Int) < 0 by omega), word_pos] at hw
      have hab : Ieee.double.word (decide (V < 0)) (fd (U : Int) (-(s : Int))) < 18446744073709551616 ∧ Ieee.double.word (decide (V < 0)) (fd (U : Int) (-(s : Int))) % 2 ^ 63 = fd (U : Int) (-(s : Int)) := by
        rw [hw]
        generalize rung (U : Int) (-(s : Int)) = r at *
        cases decide (V < 0)
        · rw [word_pos]; exact ⟨by omega, Nat.mod_eq_of_lt (by omega)⟩
        · rw [word_neg', Nat.add_mod_left]; exact ⟨by omega, Nat.mod_eq_of_lt (by omega)⟩
      have HA := Aside0.mk (absC hab.1 hab.2)
      clear hw hrg hab o1 o2 o3 hx hU hU' hin h53 hps hpn hb31 c1 c2 hss hr
      generalize Ieee.double.word (decide (V < 0)) (fd (U : Int) (-(s : Int))) = z at *
      generalize fd (U : Int) (-(s : Int)) = y at *
      generalize fd V (-(s : Int)) = x at *
      generalize decide (U = 2 ^ s) = b at *
      rcases ho1 with ho1 | ho1 <;> rcases ho2 with ho2 | ho2
      all_goals (
        go_enter Try.func21, Try.ntmps21
        go_wp2_with (first
          | (go_at_call 26; (refine (HM.out _).mono ?_); rintro o w2 ⟨rfl, rfl⟩)
          | (go_at_call 25; (refine (HA.out _).mono ?_); rintro o w2 ⟨rfl, rfl⟩))
        go_ret
        exact ⟨rfl, rfl⟩)
/-- is a point a symbol's? -/
theorem gridC {V W : Int} {s t : Nat} (hs : s ≤ 60) (h53 : V.natAbs < 2 ^ 53) (ht : t ≤ 60) (k53 : W.natAbs < 2 ^ 53) (w : World) : Calls Try.prog 14 #[.complex .f64 (fd V (-(s : Int))) (fd W (-(t : Int)))] w fun o w' => o = .returned (.bool (oddB V s && oddB W t)) ∧ w' = w := by
  have HX := Aside0.mk (oddC hs h53)
  have HY := Aside0.mk (oddC ht k53)
  generalize oddB V s = a at *
  generalize oddB W t = b at *
  generalize fd V (-(s : Int)) = x at *
  generalize fd W (-(t : Int)) = y at *
  clear h53 k53
  cases a
  all_goals (
    go_enter Try.func14, Try.ntmps14
    go_wp2_with (first
      | (go_at_call 21; (first | (refine (HX.out _).mono ?_; rintro e w2 ⟨rfl, rfl⟩; clear HX) | (refine (HY.out _).mono ?_; rintro e w2 ⟨rfl, rfl⟩))))
    go_ret
    exact ⟨rfl, rfl⟩)
end Go.Proofs.Ytggfmihmpnaboaa.M
