/- The walk of PlainSame: one byte turned, and they are not the same; turned back, they are. -/
import Derived.Test.YtanfpjlcpcfjoaaH
namespace Go.Proofs.Ytanfpjlcpcfjoaa.M
open Go.RowKit Go.Proofs.YtanfpjlcpcfjoaaW.PrintWords Go.Proofs.YtanfpjlcpcfjoaaW.PrintLast Go.Proofs.YtanfpjlcpcfjoaaW.PrintMore Go.Proofs.Ytanfpjlcpcfjoaa.Rw
set_option linter.unusedVariables false
set_option linter.unusedSimpArgs false
theorem bounds_u8 {a : Int} (h : (Lit.int .u8 a).wf = true) : 0 ≤ a ∧ a ≤ 255 := by
  simp only [Lit.wf, Bool.and_eq_true, decide_eq_true_eq] at h
  exact h
theorem made_one (W : World) (n : Nat) (h : n ≤ 1000) : Kd.R (Kd.int .u8) 5 (W.alloc (.cells (Array.replicate n (.int .u8 0)) 5 (0, 0))) W.heap.size (fun _ => True) (.slice (some ⟨W.heap.size, 0, none⟩) n n) (List.replicate n 0) :=
  Kd.R_of_own ⟨by simp [encs], .inr ⟨W.heap.size, n, _, by simp, Nat.le_refl _, blk_new W _, by simp, Nat.le_trans h (by decide), by simp, by simp [encs]⟩⟩ (fun _ _ => trivial)
theorem sameL_set {N k : Nat} (hk : k < N) (b z : List Int) : sameL ((List.replicate N z).set k b) (List.replicate N z) = decide (strOfNums b = strOfNums z) := by
  by_cases h : strOfNums b = strOfNums z
  · rw [decide_eq_true h]
    refine sameL_yes (by simp) (fun j hj => ?_)
    have hj' : j < N := by simpa using hj
    rw [List.getD_eq_getElem?_getD, List.getD_eq_getElem?_getD, List.getElem?_set]
    by_cases e : k = j
    · subst e; simp [hj', h]
    · simp [e]
  · rw [decide_eq_false h]
    refine sameL_no (j := k) (by simpa using hk) (by simpa using hk) ?_
    rw [List.getD_eq_getElem?_getD, List.getD_eq_getElem?_getD]
    simpa [hk] using h
theorem sameL_refl (L : Ln) : sameL L L = true := decide_eq_true rfl
theorem back_set {N k : Nat} (hk : k < N) (b z : List Int) : ((List.replicate N z).set k b).set k z = List.replicate N z := by
  rw [List.set_set]
  refine List.ext_getElem? fun j => ?_
  rw [List.getElem?_set]
  by_cases e : k = j
  · subst e; simp [hk]
  · simp [e]
theorem sameNC {w : World} {lo hi g n lo' hi' g' : Nat} {L M : Ln} (hI : IsP w lo hi g L n) (hJ : IsP w lo' hi' g' M n) (b : Bool) (hb : sameL L M = b) : Calls Try.prog 15 #[.pointer (some ⟨g, 0, none⟩), .pointer (some ⟨g', 0, none⟩)] w fun e w' =>
    e = .returned (.bool b) ∧ Aside0 (Below w.heap.size w w') := sameC hI hJ b (by rw [hb]; simp)
theorem writeNC {w : World} {lo hi g n : Nat} {L : Ln} (hI : IsP w lo hi g L n) (i : Nat) (il : i < L.length) (A : Option Addr) (c : Nat) (xs : List Int) (hC : Kd.C (Kd.int .u8) w A xs.length xs) (hx : xs.length = n) (hc : n ≤ c) :
    Calls Try.prog 10 #[.pointer (some ⟨g, 0, none⟩), .int .i64 (i : Int), .slice A n c] w fun e w' => e = .returned (.int .i64 0) ∧ Aside0 (IsP w' lo hi g (L.set i xs) n) ∧ Aside0 (Out w w' lo hi) := by
  have h := writeC hI i il A c xs hC (by omega) hx
  rw [hx] at h
  exact h
theorem C_of_R2 {w : World} {base q n c : Nat} {ok : Nat → Prop} {xs : List Int} (h : Kd.R (Kd.int .u8) 5 w base ok (.slice (some ⟨q, 0, none⟩) n c) xs) (hx : xs.length = n) : Kd.C (Kd.int .u8) w (some ⟨q, 0, none⟩) xs.length xs := by
  obtain ⟨A, c', e⟩ := Kd.R_slice h
  rw [e] at h
  have h2 := (Kd.R_reads' h).2.2
  have : A = some ⟨q, 0, none⟩ := by simp at e; exact e.1.symm
  rw [this] at h2
  exact h2
/-- two arrays side by side, and a row above them -/
structure Two (w W : World) (lo mid hi n : Nat) (P Q : Ln) (vz : Value) (z : List Int) : Prop where
  bel : Below w.heap.size w W
  bl : w.heap.size ≤ lo
  lm : lo ≤ mid
  hp : IsP W lo mid lo P n
  hq : IsP W mid hi mid Q n
  hz : Kd.R (Kd.int .u8) 5 W hi (fun _ => True) vz z
section
variable {w W W1 : World} {lo mid hi n : Nat} {P P' Q Q' : Ln} {vz : Value} {z : List Int}
theorem IsP.lo_le {g : Nat} (h : IsP W lo hi g P n) : lo ≤ hi := let ⟨_, _, h⟩ := h; Nat.le_trans h.lg (Nat.le_of_lt h.gh)
theorem Two.step (h : Two w W lo mid hi n P Q vz z) (hb : Below W.heap.size W W1) : Two w W1 lo mid hi n P Q vz z :=
  ⟨below_step h.bel hb, h.bl, h.lm, h.hp.below hb, h.hq.below hb, row_below h.hz hb⟩
theorem Two.outP (h : Two w W lo mid hi n P Q vz z) (hP : IsP W1 lo mid lo P' n) (ho : Out W W1 lo mid) : Two w W1 lo mid hi n P' Q vz z :=
  ⟨Below.trans h.bel (ho.1.mono h.bl), h.bl, h.lm, hP, h.hq.apart ho (.inr (Nat.le_refl _)) (Nat.le_trans h.lm h.hp.top), row_out h.hz ho h.hq.lo_le⟩
theorem Two.outQ (h : Two w W lo mid hi n P Q vz z) (hQ : IsP W1 mid hi mid Q' n) (ho : Out W W1 mid hi) : Two w W1 lo mid hi n P Q' vz z :=
  ⟨Below.trans h.bel (ho.1.mono (Nat.le_trans h.bl h.lm)), h.bl, h.lm, h.hp.apart ho (.inl (Nat.le_refl _)) h.hp.top, hQ, row_out h.hz ho (Nat.le_refl _)⟩
end
set_option maxHeartbeats 6400000 in
set_option maxRecDepth 100000 in
theorem same_walk (a0 : Int) (a1 : Int) (A2 : Option Addr) (c2 : Nat) (l2 : List (Int)) (w : World) (w0 : (Lit.int .u8 a0).wf = true) (w1 : (Lit.int .u8 a1).wf = true) (r2 : Kd.C (Kd.int .u8) w A2 l2.length l2) (k2 : l2.length ≤ c2) (m2 : l2.length ≤ maxLen) (y2 : l2.length * 1 ≤ 140737488351232) (g2 : ∀ y ∈ l2, (Lit.int .u8 y).wf = true) :
    Calls Try.prog 6 #[.int .u8 a0, .int .u8 a1, .slice A2 l2.length c2] w fun e w' => e = .returned (.bool true) ∧ Below w.heap.size w w' := by
  obtain ⟨b00, b01⟩ := bounds_u8 w0
  obtain ⟨b10, b11⟩ := bounds_u8 w1
  have HR := Aside0.mk r2
  have HG := Aside0.mk g2
  have hl63 : l2.length ≤ 9223372036854775807 := by omega
  clear w0 w1 r2 g2 m2
  obtain ⟨N, hN⟩ : ∃ N : Nat, 1 + a0 % 20 = (N : Int) := ⟨(1 + a0 % 20).toNat, by omega⟩
  have hN1 : 1 ≤ N := by omega
  have hN2 : N ≤ 20 := by omega
  obtain ⟨k, hk⟩ : ∃ k : Nat, a1 % (N : Int) = (k : Int) := ⟨(a1 % (N : Int)).toNat, by have := Int.emod_nonneg a1 (b := (N : Int)) (by omega); omega⟩
  have hkN : k < N := by have := Int.emod_lt_of_pos a1 (b := (N : Int)) (by omega); omega
  by_cases h0 : l2.length = 0
  · go_enter Try.func6, Try.ntmps6
    go_wp2_with (first | (go_at_call 7; (refine (awakeC _).mono ?_); rintro e w2 ⟨rfl, hb⟩; have HB := Aside0.mk hb; clear hb))
    go_ret
    exact ⟨rfl, HB.out⟩
  · by_cases h50 : (50 : Int) < (l2.length : Int)
    · have h50b : decide ((50 : Int) < (l2.length : Int)) = true := decide_eq_true h50
      have h0b : ((l2.length : Int) == 0) = false := beq_eq_false_iff_ne.2 (by omega)
      go_enter Try.func6, Try.ntmps6
      go_wp2_with (first | (go_at_call 7; (refine (awakeC _).mono ?_); rintro e w2 ⟨rfl, hb⟩; have HB := Aside0.mk hb; clear hb))
      go_ret
      exact ⟨rfl, HB.out⟩
    · have h50b : decide ((50 : Int) < (l2.length : Int)) = false := decide_eq_false h50
      have h0b : ((l2.length : Int) == 0) = false := beq_eq_false_iff_ne.2 (by omega)
      have hn50 : l2.length ≤ 50 := by omega
      have HN : Aside0 ((if (N : Int) < 0 then 0 else (N : Int)) = (N : Int)) := ⟨if_neg (by omega)⟩
      have Hn : Aside0 ((if (l2.length : Int) < 0 then 0 else (l2.length : Int)) = (l2.length : Int)) := ⟨if_neg (by omega)⟩
      have HN200 : Aside0 (N ≤ 200) := ⟨by omega⟩
      have Hn200 : Aside0 (l2.length ≤ 200) := ⟨by omega⟩
      have hmk := fun (W : World) => mk_row (P := Try.prog) (t := 31) (e := 5) (z := .int .u8 0) Try.underlying31 info5 rfl l2.length (by omega) (by omega) W
      obtain ⟨z, hz⟩ : ∃ z, List.replicate l2.length (0 : Int) = z := ⟨_, rfl⟩
      obtain ⟨L0, hL0⟩ : ∃ L0, List.replicate N z = L0 := ⟨_, rfl⟩
      obtain ⟨L1, hL1⟩ : ∃ L1, L0.set k l2 = L1 := ⟨_, rfl⟩
      obtain ⟨s, hs⟩ : ∃ s, decide (strOfNums l2 = strOfNums z) = s := ⟨_, rfl⟩
      have HL10 : Aside0 (L1.set k z = L0) := ⟨by rw [← hL1, ← hL0]; exact back_set hkN l2 z⟩
      have HS0 : Aside0 (sameL L0 L0 = true) := ⟨sameL_refl _⟩
      have HS1 : Aside0 (sameL L1 L1 = true) := ⟨sameL_refl _⟩
      have HS : Aside0 (sameL L1 L0 = s) := ⟨by rw [← hL1, ← hL0, sameL_set hkN, hs]⟩
      have HK0 : Aside0 (k < L0.length) := ⟨by rw [← hL0]; simpa using hkN⟩
      have HK1 : Aside0 (k < L1.length) := ⟨by rw [← hL1, List.length_set]; exact HK0.out⟩
      have Hz := Aside0.mk hz
      have Hzl : Aside0 (z.length = l2.length) := ⟨by rw [← hz]; simp⟩
      have HL0 := Aside0.mk hL0
      have HL1 := Aside0.mk hL1
      obtain ⟨s1, hs1⟩ : ∃ s1, strOfNums l2 = s1 := ⟨_, rfl⟩
      obtain ⟨s2, hs2⟩ : ∃ s2, strOfNums z = s2 := ⟨_, rfl⟩
      have hss : (s1.toList == s2.toList) = s := by rw [str_eq, ← hs1, ← hs2]; exact hs
      have Hs1 := Aside0.mk hs1
      have Hs2 := Aside0.mk hs2
      clear hz hL0 hL1 hs hs1 hs2 h0 h50
      have Hn1000 : Aside0 (l2.length ≤ 1000) := ⟨by omega⟩
      go_enter Try.func6, Try.ntmps6
      go_wp2_with (first
        | (go_at_call 7; (refine (awakeC _).mono ?_); rintro e w0 ⟨rfl, hb⟩; have HB0 := Aside0.mk hb; clear hb)
        | (go_at_call 8; (refine (newC _ _ N l2.length HN.out Hn.out HN200.out Hn200.out _).mono ?_); rintro e w1 ⟨rfl, HP1, hb⟩; rw [Hz.out, HL0.out] at HP1; have HB1 := Aside0.mk (below_step HB0.out hb.out); have HA1 := Aside0.mk hb.out.size; have HA0 := Aside0.mk HB0.out.size; clear HB0 hb)
        | (go_at_call 14; (refine (copyC HP1.out).mono ?_); rintro e w2 ⟨rfl, HQ2, hb⟩; have hal := below_alloc (Below.refl _ w2) (.cells (Array.replicate l2.length (.int .u8 0)) 5 (0, 0)); have hz3 := made_one w2 l2.length Hn1000.out; rw [Hz.out] at hz3; have HT3 := Aside0.mk (Two.mk (below_step (below_step HB1.out hb.out) hal) HA0.out HA1.out ((HP1.out.below hb.out).below hal) (HQ2.out.below hal) hz3); clear HP1 HB1 HQ2 hb hal hz3)
        | (go_at_call 10; (first
          | ((refine (writeC HT3.out.hp k HK0.out A2 c2 l2 (Kd.C_below HR.out HT3.out.bel) k2 rfl).mono ?_); rintro e w4 ⟨rfl, HP, HO⟩; rw [HL1.out] at HP; have HT4 := Aside0.mk (HT3.out.outP HP.out HO.out); clear HT3 HP HO)
          | ((refine (writeC HT5.out.hq k HK0.out A2 c2 l2 (Kd.C_below HR.out HT5.out.bel) k2 rfl).mono ?_); rintro e w6 ⟨rfl, HQ, HO⟩; rw [HL1.out] at HQ; have HT6 := Aside0.mk (HT5.out.outQ HQ.out HO.out); clear HT5 HQ HO)
          | (have hcc := C_of_R2 HT8.out.hz Hzl.out; have h9 := (writeNC HT8.out.hq k HK1.out (some ⟨w2.heap.size, 0, none⟩) l2.length z hcc Hzl.out (Nat.le_refl _)); (refine h9.mono ?_); clear h9 hcc; rintro e w9 ⟨rfl, HQ, HO⟩; rw [HL10.out] at HQ; have HT9 := Aside0.mk (HT8.out.outQ HQ.out HO.out); clear HT8 HQ HO; have hc1 : (convert 31 9 (.slice A2 l2.length c2)).run Try.prog w9 = .ok (.string s1) w9 := (by rw [← Hs1.out]; exact strC (Kd.C_below HR.out HT9.out.bel)); have hc2 : (convert 31 9 (.slice (some ⟨w2.heap.size, 0, none⟩) l2.length l2.length)).run Try.prog w9 = .ok (.string s2) w9 := (by rw [← Hs2.out]; have hzz := C_of_R2 HT9.out.hz Hzl.out; rw [Hzl.out] at hzz; exact strC hzz))))
        | (go_at_call 15; (first
          | ((refine (sameNC HT4.out.hp HT4.out.hq s HS.out).mono ?_); rintro e w5 ⟨rfl, hb⟩; have HT5 := Aside0.mk (HT4.out.step hb.out); clear HT4 hb)
          | ((refine (sameNC HT6.out.hp HT6.out.hq true HS1.out).mono ?_); rintro e w7 ⟨rfl, hb⟩; have HT7 := Aside0.mk (HT6.out.step hb.out); clear HT6 hb)
          | ((refine (sameNC HT9.out.hp HT9.out.hq true HS0.out).mono ?_); rintro e w10 ⟨rfl, hb⟩; have HT10 := Aside0.mk (HT9.out.step hb.out); clear HT9 hb)
          | ((refine (sameNC HT10.out.hq HT10.out.hp true HS0.out).mono ?_); rintro e w11 ⟨rfl, hb⟩; have HT11 := Aside0.mk (HT10.out.step hb.out); clear HT10 hb)
          | ((refine (sameNilC _ _).mono ?_); rintro e w12 ⟨rfl, rfl⟩)))
        | (go_at_call 9; (refine (trimC HT7.out.hp k HK1.out).mono ?_); rintro e w8 ⟨rfl, HP, HO⟩; rw [Hz.out, HL10.out] at HP; have HT8 := Aside0.mk (HT7.out.outP HP.out HO.out); clear HT7 HP HO))
      go_ret
      exact ⟨rfl, HT11.out.bel⟩
end Go.Proofs.Ytanfpjlcpcfjoaa.M
