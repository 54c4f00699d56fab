/- Printed for this seat by a program of this session (over the kit's print), with contracts of its own laid in. -/
import Derived.Test.YtdgpondnogpolaaMx0
import Derived.Test.YtdgpondnogpolaaMx5
namespace Go.Proofs.Ytdgpondnogpolaa.M
open Go.RowKit Go.Proofs.YtdgpondnogpolaaW.PrintWords Go.Proofs.YtdgpondnogpolaaW.PrintLast Go.Proofs.YtdgpondnogpolaaW.PrintMore
attribute [local go_sem] max2_int min2_int max_two min_two max_three min_three max_four min_four   -- for this text's walks alone
set_option linter.unusedVariables false
set_option linter.unusedSimpArgs false

/-! ### blackboardref1_Pack: function 13 -/
def blackboardref1_Pack.l0 : Nat → List Int → List Int → Int → Option (List Int)
  | 0, _, _, _ => none
  | k + 1, x0, x3, x4 => if x4 < (wrap64 (8 * (x0.length : Int))) then (if 0 ≤ (wrap64 (Int.tdiv x4 8)) then (if (wrap64 (Int.tdiv x4 8)) < (x0.length : Int) then (if 0 ≤ (IntKind.u64.wrap (wrap64 (7 - (Int.tmod x4 8)))) then (if (Go.bits .and .u8 (shr .u8 (rd x0 (wrap64 (Int.tdiv x4 8))) (IntKind.u64.wrap (wrap64 (7 - (Int.tmod x4 8))))) 1) = 1 then (if 0 ≤ (wrap64 (Int.tdiv x4 10)) then (if (wrap64 (Int.tdiv x4 10)) < (x3.length : Int) then (if 0 ≤ (IntKind.u64.wrap (wrap64 (9 - (Int.tmod x4 10)))) then (blackboardref1_Pack.l0 k x0 (x3.set ((wrap64 (Int.tdiv x4 10)) : Int).toNat (Go.bits .or .u16 (rd x3 (wrap64 (Int.tdiv x4 10))) (shl .u16 1 (IntKind.u64.wrap (wrap64 (9 - (Int.tmod x4 10))))))) (wrap64 (x4 + 1))) else (none)) else (none)) else (none)) else (blackboardref1_Pack.l0 k x0 x3 (wrap64 (x4 + 1)))) else (none)) else (none)) else (none)) else (some x3)
def blackboardref1_Pack.f (k : Nat) (l0 : List Int) : Option (List Int) := (blackboardref1_Symbols.f (l0.length : Int)).bind fun t141 => (if 0 ≤ t141 then (if (t141 : Int).toNat ≤ 140737488355328 then (blackboardref1_Pack.l0 k l0 (List.replicate (t141 : Int).toNat 0) 0) else (none)) else (none))
theorem blackboardref1_Pack.mono_l : ∀ k, (∀ y0 y1 y2, LeO (blackboardref1_Pack.l0 k y0 y1 y2) (blackboardref1_Pack.l0 (k + 1) y0 y1 y2))
  | 0 => fun _ _ _ r h => by simp [blackboardref1_Pack.l0] at h
  | k + 1 => by
    have ih0 := blackboardref1_Pack.mono_l k
    · intro y0 y1 y2
      unfold blackboardref1_Pack.l0
      repeat' first
      | (with_reducible exact ih0 _ _ _)
      | (with_reducible exact LeO.refl _)
      | (with_reducible exact LeO.none _)
      | (with_reducible refine LeO.ite ?_ ?_)
      | (with_reducible refine LeO.bind ?_ (fun _ => ?_))
      | exact ih0 _ _ _
      | exact LeO.none _
      | refine LeO.ite ?_ ?_
      | refine LeO.bind ?_ (fun _ => ?_)
theorem blackboardref1_Pack.mono : ∀ a0 k, LeO (blackboardref1_Pack.f k a0) (blackboardref1_Pack.f (k + 1) a0) := by
  intro a0 k
  have ih0 := blackboardref1_Pack.mono_l k
  unfold blackboardref1_Pack.f
  repeat' first
      | (with_reducible exact ih0 _ _ _)
      | (with_reducible exact LeO.refl _)
      | (with_reducible exact LeO.none _)
      | (with_reducible refine LeO.ite ?_ ?_)
      | (with_reducible refine LeO.bind ?_ (fun _ => ?_))
      | exact ih0 _ _ _
      | exact LeO.none _
      | refine LeO.ite ?_ ?_
      | refine LeO.bind ?_ (fun _ => ?_)
set_option maxHeartbeats 8000000 in
set_option maxRecDepth 100000 in
theorem blackboardref1_Pack.calls (k : Nat) (A0 : Option Addr) (c0 : Nat) (l0 : List Int) (r : List Int) (w : World) (hr0 : Kd.C (Kd.int .u8) w A0 l0.length l0) (hc0 : l0.length ≤ c0) (h : blackboardref1_Pack.f k l0 = some r) :
    Calls Try.prog 13 #[.slice A0 l0.length c0] w fun e w' => ∃ v0_ : Value, e = .returned (v0_) ∧ Kd.R (Kd.int .u16) 34 w' w.heap.size (fun _ => True) v0_ r ∧ Below w.heap.size w w' := by
  have HR0 := Aside0.mk hr0
  have HC0 := Aside0.mk hc0
  clear hr0 hc0
  have HB := Aside0.mk (Below.refl w.heap.size w)
  have H : ((blackboardref1_Symbols.f (l0.length : Int)).bind fun t141 => (if 0 ≤ t141 then (if (t141 : Int).toNat ≤ 140737488355328 then (blackboardref1_Pack.l0 k l0 (List.replicate (t141 : Int).toNat 0) 0) else (none)) else (none))) = some r := h
  clear h
  replace H := Option.bind_eq_some_iff.mp H
  obtain ⟨t141, A20, H⟩ := H
  replace H : (if 0 ≤ t141 then (if (t141 : Int).toNat ≤ 140737488355328 then (blackboardref1_Pack.l0 k l0 (List.replicate (t141 : Int).toNat 0) 0) else (none)) else (none)) = some r := H
  have A2 := Aside0.mk A20
  clear A20
  by_cases c3 : 0 ≤ t141
  · rw [if_pos c3] at H
    have c3b0 := eq_true c3
    have c3b1 : decide (0 ≤ t141) = true := decide_eq_true c3
    clear c3
    by_cases c4 : (t141 : Int).toNat ≤ 140737488355328
    · rw [if_pos c4] at H
      have c4b0 := eq_true c4
      have c4b1 : decide ((t141 : Int).toNat ≤ 140737488355328) = true := decide_eq_true c4
      clear c4
      obtain ⟨y142, hy142⟩ : ∃ y_ : List Int, y_ = (List.replicate (t141 : Int).toNat 0) := ⟨_, rfl⟩
      replace H : (blackboardref1_Pack.l0 k l0 y142 0) = some r := by first | (rw [hy142]; with_reducible exact H) | (have H2_ := (Option.bind_some _ _).symm.trans H; rw [hy142]; with_reducible exact H2_) | (have H2_ := (Option.bind_some _ _).symm.trans H; with_reducible exact H2_) | with_reducible exact H | (rw [hy142]; exact H) | exact H
      have Ny142 := Aside0.mk hy142
      clear hy142
      have H' := Aside0.mk H
      clear H
      go_enter Try.func13, Try.ntmps13
      go_wp2_with (first | ((with_reducible refine gate_callee (f := 15) rfl ?_); refine goesL_ (some 7) rfl rfl Try.func15 (by kernel_rfl) rfl #[.int .i64 (l0.length : Int)] rfl (by (try simp only [List.map_toArray, List.map_cons, List.map_nil]); first | done | rfl | (simp only [List.length_drop, List.length_take]; rfl)) ?_; (with_reducible refine (blackboardref1_Symbols.calls (l0.length : Int) t141 _ A2.out).mono ?_); rintro e w5 ⟨rfl, hb⟩; refine ⟨_, rfl, ?_⟩; have n0_ := Aside0.mk (below_step (by repeat (first | (with_reducible first | exact HB.out | apply below_alloc | apply pw_below_drewN | apply below_drew1) | exact HB.out)) hb); clear HB; have HB := n0_; clear n0_; (try clear hb); (try clear hb2); (try clear hk); (try clear hi)) | ((with_reducible refine gate_dst (N := 8) rfl ?_); refine Kd.R_make (Kd.int .u16) _ 34 rfl (N := 8) rfl 23 _ _ rfl t141 rfl rfl Try.underlying23 (.int .u16 0) 2 info34 rfl (by decide) (by omega) 0 (ok := fun _ => True) (okp := fun _ => True) rfl (fun _ hk => hk) trivial (of_decide_eq_true (by first | (with_reducible assumption) | assumption)) (Nat.le_trans (Nat.mul_le_mul_right _ (of_decide_eq_true (by first | (with_reducible assumption) | assumption) : t141.toNat ≤ 140737488355328)) (by omega)) (Below.refl _ _) (Nat.le_refl _) ?_; intro v143 w6 ho7 hb hg_ hnew_; clear hg_ hnew_; (first | rw [← Ny142.out] at ho7 | (simp only [Int.reduceToNat] at ho7; rw [← Ny142.out] at ho7)); have n0_ := Aside0.mk (Kd.R_lower ho7 (below_size (by repeat (first | (with_reducible first | exact HB.out | apply below_alloc | apply pw_below_drewN | apply below_drew1) | exact HB.out)))); have n1_ := Aside0.mk (below_step (by repeat (first | (with_reducible first | exact HB.out | apply below_alloc | apply pw_below_drewN | apply below_drew1) | exact HB.out)) hb); clear HB; have HO144 := n0_; have HB := n1_; clear n0_ n1_; clear hb ho7))
      go_loopg [4] k (fun kq v4 w' => ∃ (x3_1 : List Int) (x4_1 : Int), v4 = .int .i64 x4_1 ∧ Aside0 (blackboardref1_Pack.l0 kq l0 x3_1 x4_1 = some r) ∧ Aside0 (kq ≤ k) ∧ Aside0 (Kd.R (Kd.int .u16) 34 w' w.heap.size (fun _ => True) v143 x3_1) ∧ Aside0 (Below w.heap.size w w'))
      case atStart => exact ⟨(y142), (0), (by first | rfl | (simp; done) | (simp [*]; done)), H', ⟨Nat.le_refl _⟩, ⟨by (with_reducible repeat (first | apply Kd.R_alloc | apply Kd.R_drewN | apply Kd.R_drew)); exact HO144.out⟩, ⟨by repeat (first | (with_reducible first | exact HB.out | apply below_alloc | apply pw_below_drewN | apply below_drew1) | exact HB.out)⟩⟩
      case round =>
        clear H'
        try clear c1
        try clear p2
        try clear c3
        try clear c3b0
        try clear c3b1
        try clear c4
        try clear c4b0
        try clear c4b1
        obtain ⟨x3_1, x4_1, rfl, HA, HK1, HO_3, HB⟩ := hrel
        cases gk with
        | zero => exact absurd HA.out (by simp [blackboardref1_Pack.l0])
        | succ k1 =>
          have H := HA.out
          clear HA
          simp only [blackboardref1_Pack.l0] at H
          by_cases c8 : x4_1 < (wrap64 (8 * (l0.length : Int)))
          · rw [if_pos c8] at H
            have c8b0 : decide (x4_1 < (wrap64 (8 * (l0.length : Int)))) = true := decide_eq_true c8
            clear c8
            obtain ⟨ji9, hji9⟩ : ∃ j_ : Int, (wrap64 (Int.tdiv x4_1 8)) = j_ := ⟨_, rfl⟩
            replace H : (if 0 ≤ (ji9) then (if (ji9) < (l0.length : Int) then (if 0 ≤ (IntKind.u64.wrap (wrap64 (7 - (Int.tmod x4_1 8)))) then (if (Go.bits .and .u8 (shr .u8 (rd l0 (ji9)) (IntKind.u64.wrap (wrap64 (7 - (Int.tmod x4_1 8))))) 1) = 1 then (if 0 ≤ (wrap64 (Int.tdiv x4_1 10)) then (if (wrap64 (Int.tdiv x4_1 10)) < (x3_1.length : Int) then (if 0 ≤ (IntKind.u64.wrap (wrap64 (9 - (Int.tmod x4_1 10)))) then (blackboardref1_Pack.l0 k1 l0 (x3_1.set ((wrap64 (Int.tdiv x4_1 10)) : Int).toNat (Go.bits .or .u16 (rd x3_1 (wrap64 (Int.tdiv x4_1 10))) (shl .u16 1 (IntKind.u64.wrap (wrap64 (9 - (Int.tmod x4_1 10))))))) (wrap64 (x4_1 + 1))) else (none)) else (none)) else (none)) else (blackboardref1_Pack.l0 k1 l0 x3_1 (wrap64 (x4_1 + 1)))) else (none)) else (none)) else (none)) = some r := by first | (rw [hji9] at H; exact H) | (simp only [hji9] at H ⊢; exact H)
            have hji9w : (IntKind.i64.wrap (Int.tdiv x4_1 8)) = ji9 := (i64_w _).trans hji9
            by_cases c10 : 0 ≤ (ji9)
            · rw [if_pos c10] at H
              have c10b0 : decide (0 ≤ (ji9)) = true := decide_eq_true c10
              clear c10
              by_cases c11 : (ji9) < (l0.length : Int)
              · rw [if_pos c11] at H
                have c11b0 : decide ((ji9) < (l0.length : Int)) = true := decide_eq_true c11
                clear c11
                obtain ⟨ji12, hji12⟩ : ∃ j_ : Int, (IntKind.u64.wrap (wrap64 (7 - (Int.tmod x4_1 8)))) = j_ := ⟨_, rfl⟩
                replace H : (if 0 ≤ (ji12) then (if (Go.bits .and .u8 (shr .u8 (rd l0 (ji9)) (ji12)) 1) = 1 then (if 0 ≤ (wrap64 (Int.tdiv x4_1 10)) then (if (wrap64 (Int.tdiv x4_1 10)) < (x3_1.length : Int) then (if 0 ≤ (IntKind.u64.wrap (wrap64 (9 - (Int.tmod x4_1 10)))) then (blackboardref1_Pack.l0 k1 l0 (x3_1.set ((wrap64 (Int.tdiv x4_1 10)) : Int).toNat (Go.bits .or .u16 (rd x3_1 (wrap64 (Int.tdiv x4_1 10))) (shl .u16 1 (IntKind.u64.wrap (wrap64 (9 - (Int.tmod x4_1 10))))))) (wrap64 (x4_1 + 1))) else (none)) else (none)) else (none)) else (blackboardref1_Pack.l0 k1 l0 x3_1 (wrap64 (x4_1 + 1)))) else (none)) = some r := by first | (rw [hji12] at H; exact H) | (simp only [hji12] at H ⊢; exact H)
                by_cases c13 : 0 ≤ (ji12)
                · rw [if_pos c13] at H
                  have c13b0 := eq_true c13
                  have c13b1 : decide (0 ≤ (ji12)) = true := decide_eq_true c13
                  clear c13
                  obtain ⟨ji14, hji14⟩ : ∃ j_ : Int, (shr .u8 (rd l0 (ji9)) (ji12)) = j_ := ⟨_, rfl⟩
                  replace H : (if (Go.bits .and .u8 (ji14) 1) = 1 then (if 0 ≤ (wrap64 (Int.tdiv x4_1 10)) then (if (wrap64 (Int.tdiv x4_1 10)) < (x3_1.length : Int) then (if 0 ≤ (IntKind.u64.wrap (wrap64 (9 - (Int.tmod x4_1 10)))) then (blackboardref1_Pack.l0 k1 l0 (x3_1.set ((wrap64 (Int.tdiv x4_1 10)) : Int).toNat (Go.bits .or .u16 (rd x3_1 (wrap64 (Int.tdiv x4_1 10))) (shl .u16 1 (IntKind.u64.wrap (wrap64 (9 - (Int.tmod x4_1 10))))))) (wrap64 (x4_1 + 1))) else (none)) else (none)) else (none)) else (blackboardref1_Pack.l0 k1 l0 x3_1 (wrap64 (x4_1 + 1)))) = some r := by first | (rw [hji14] at H; exact H) | (simp only [hji14] at H ⊢; exact H)
                  have hji14_ : ((rd l0 (ji9)) / 2 ^ min (ji12).toNat 8) = ji14 := hji14
                  have hji14z : (ji12) ≤ 8 → ((rd l0 (ji9)) / 2 ^ (ji12).toNat) = ji14 := shr_small hji14
                  by_cases c15 : (Go.bits .and .u8 (ji14) 1) = 1
                  · rw [if_pos c15] at H
                    have c15b0 : ((Go.bits .and .u8 (ji14) 1) == 1) = true := beq_iff_eq.mpr c15
                    have c15b1 : ((Go.bits .and .u8 (ji14) 1) != 1) = false := bne_eq_false_iff_eq.mpr c15
                    clear c15
                    obtain ⟨ji16, hji16⟩ : ∃ j_ : Int, (wrap64 (Int.tdiv x4_1 10)) = j_ := ⟨_, rfl⟩
                    replace H : (if 0 ≤ (ji16) then (if (ji16) < (x3_1.length : Int) then (if 0 ≤ (IntKind.u64.wrap (wrap64 (9 - (Int.tmod x4_1 10)))) then (blackboardref1_Pack.l0 k1 l0 (x3_1.set ((ji16) : Int).toNat (Go.bits .or .u16 (rd x3_1 (ji16)) (shl .u16 1 (IntKind.u64.wrap (wrap64 (9 - (Int.tmod x4_1 10))))))) (wrap64 (x4_1 + 1))) else (none)) else (none)) else (none)) = some r := by first | (rw [hji16] at H; exact H) | (simp only [hji16] at H ⊢; exact H)
                    have hji16w : (IntKind.i64.wrap (Int.tdiv x4_1 10)) = ji16 := (i64_w _).trans hji16
                    by_cases c17 : 0 ≤ (ji16)
                    · rw [if_pos c17] at H
                      have c17b0 : decide (0 ≤ (ji16)) = true := decide_eq_true c17
                      clear c17
                      by_cases c18 : (ji16) < (x3_1.length : Int)
                      · rw [if_pos c18] at H
                        have c18b0 : decide ((ji16) < (x3_1.length : Int)) = true := decide_eq_true c18
                        clear c18
                        obtain ⟨ji19, hji19⟩ : ∃ j_ : Int, (IntKind.u64.wrap (wrap64 (9 - (Int.tmod x4_1 10)))) = j_ := ⟨_, rfl⟩
                        replace H : (if 0 ≤ (ji19) then (blackboardref1_Pack.l0 k1 l0 (x3_1.set ((ji16) : Int).toNat (Go.bits .or .u16 (rd x3_1 (ji16)) (shl .u16 1 (ji19)))) (wrap64 (x4_1 + 1))) else (none)) = some r := by first | (rw [hji19] at H; exact H) | (simp only [hji19] at H ⊢; exact H)
                        by_cases c20 : 0 ≤ (ji19)
                        · rw [if_pos c20] at H
                          have c20b0 := eq_true c20
                          have c20b1 : decide (0 ≤ (ji19)) = true := decide_eq_true c20
                          clear c20
                          obtain ⟨ji21, hji21⟩ : ∃ j_ : Int, (shl .u16 1 (ji19)) = j_ := ⟨_, rfl⟩
                          replace H : (blackboardref1_Pack.l0 k1 l0 (x3_1.set ((ji16) : Int).toNat (Go.bits .or .u16 (rd x3_1 (ji16)) (ji21))) (wrap64 (x4_1 + 1))) = some r := by first | (rw [hji21] at H; exact H) | (simp only [hji21] at H ⊢; exact H)
                          have hji21_ : (IntKind.u16.wrap (1 * 2 ^ min (ji19).toNat 16)) = ji21 := hji21
                          have hji21z : (ji19) ≤ 16 → (IntKind.u16.wrap (1 * 2 ^ (ji19).toNat)) = ji21 := shl_small hji21
                          have hji21u : (IntKind.u16.wrap (2 ^ min (ji19).toNat 16)) = ji21 := by have h_ := hji21_; rw [Int.one_mul] at h_; exact h_
                          have hji21v : (ji19) ≤ 16 → (IntKind.u16.wrap (2 ^ (ji19).toNat)) = ji21 := fun hle_ => by have h_ := hji21z hle_; rw [Int.one_mul] at h_; exact h_
                          obtain ⟨y147, hy147⟩ : ∃ y_ : List Int, y_ = (x3_1.set ((ji16) : Int).toNat (Go.bits .or .u16 (rd x3_1 (ji16)) (ji21))) := ⟨_, rfl⟩
                          replace H : (blackboardref1_Pack.l0 k1 l0 y147 (wrap64 (x4_1 + 1))) = some r := by first | (rw [hy147]; with_reducible exact H) | (have H2_ := (Option.bind_some _ _).symm.trans H; rw [hy147]; with_reducible exact H2_) | (have H2_ := (Option.bind_some _ _).symm.trans H; with_reducible exact H2_) | with_reducible exact H | (rw [hy147]; exact H) | exact H
                          have Ny147 := Aside0.mk hy147
                          clear hy147
                          have H' := Aside0.mk H
                          clear H
                          have p145 : 0 ≤ ((ji9) : Int) := of_decide_eq_true (by first | (with_reducible assumption) | assumption)
                          have q145 : (ji9) < (l0.length : Int) := of_decide_eq_true (by first | (with_reducible assumption) | assumption)
                          obtain ⟨ad145, e145, hx145_0⟩ := Kd.at_int HR0.out (ji9) p145 q145
                          cases e145
                          replace hx145_0 := (HB.out.cell (World.block_lt_of_cell? w _ hx145_0)).trans hx145_0
                          replace p145 := eq_true p145
                          replace q145 := eq_true q145
                          obtain ⟨Ao23, co23, eo23⟩ := Kd.R_slice HO_3.out
                          subst eo23
                          have p146 : 0 ≤ ((ji16) : Int) := of_decide_eq_true (by first | (with_reducible assumption) | assumption)
                          have q146 : (ji16) < (x3_1.length : Int) := of_decide_eq_true (by first | (with_reducible assumption) | assumption)
                          obtain ⟨ad146, e146, hx146_0⟩ := Kd.at_int (Kd.R_reads' HO_3.out).2.2 (ji16) p146 q146
                          cases e146
                          replace p146 := eq_true p146
                          replace q146 := eq_true q146
                          have p22 : 0 ≤ ((ji16) : Int) := of_decide_eq_true (by first | (with_reducible assumption) | assumption)
                          have q22 : ((ji16) : Int) < ((x3_1.length : Int) : Int) := of_decide_eq_true (by first | (with_reducible assumption) | assumption)
                          obtain ⟨go22, co22, eo22, gb22, gl22, cl22, HG22⟩ := Kd.R_form HO_3.out (by omega)
                          (first | cases eo22 | (injection eo22 with ea_ en_ ec_; (first | subst ea_ | (injection ea_ with ea_; subst ea_)); subst ec_; clear en_))
                          have GB22 := Aside0.mk gb22
                          have GG22 := Aside0.mk HG22
                          clear gb22 gl22 HG22
                          (first | simp only [add_plain] at hx146_0 | skip)
                          obtain ⟨hx22_0, hf22_0⟩ := Kd.R_celln 0 HO_3.out ((ji16) : Int) p22 q22
                          replace p22 := eq_true p22
                          replace q22 := eq_true q22
                          have HP24 := Kd.R_putg HO_3.out ((ji16) : Int) (Go.bits .or .u16 (rd x3_1 (ji16)) (ji21))
                          go_wp2_with (first | ((with_reducible refine gate_store (t := 34) (p := 39) rfl ?_); refine store_event (t := 34) (p := 39) (v := ?vo_w25) (w1 := (wr.setCell ⟨go22, ((ji16) : Int).toNat, none⟩ (.int .u16 (Go.bits .or .u16 (rd x3_1 (ji16)) (ji21))))) ?hg ?ho ?hn ?hr ?_; (case ho => rfl); (case hg => rfl); (case hn => rfl); (case hr => first | (go_simp; done) | (go_simp; rfl)); intro w25 hw; have hg : wr.grownBy w25 (some go22) := (by rw [hw]; exact HP24.2); have hp_ : Kd.R (Kd.int .u16) 34 w25 w.heap.size (fun _ => True) (.slice (some ⟨go22, 0, none⟩) x3_1.length co23) y147 := (by rw [hw, Ny147.out]; exact HP24.1); clear HP24; have n0_ := Aside0.mk (hp_); have n1_ := Aside0.mk ((by rw [hw]; exact below_set (HB.out) GB22.out : Below w.heap.size w w25)); clear HO_3; clear HB; have HO_3 := n0_; have HB := n1_; clear n0_ n1_; clear hg hw hp_))
                          go_roundg k1
                          case measure => have := HK1.out; omega
                          case rel => exact ⟨(y147), (wrap64 (x4_1 + 1)), (by first | rfl | (simp; done) | (simp [*]; done)), H', ⟨by have := HK1.out; omega⟩, ⟨by (with_reducible repeat (first | apply Kd.R_alloc | apply Kd.R_drewN | apply Kd.R_drew)); exact HO_3.out⟩, ⟨by repeat (first | (with_reducible first | exact HB.out | apply below_alloc | apply pw_below_drewN | apply below_drew1) | exact HB.out)⟩⟩
                        · rw [if_neg c20] at H
                          exact absurd H (by simp)
                      · rw [if_neg c18] at H
                        exact absurd H (by simp)
                    · rw [if_neg c17] at H
                      exact absurd H (by simp)
                  · rw [if_neg c15] at H
                    have c15b0 : ((Go.bits .and .u8 (ji14) 1) == 1) = false := beq_eq_false_iff_ne.mpr c15
                    have c15b1 : ((Go.bits .and .u8 (ji14) 1) != 1) = true := bne_iff_ne.mpr c15
                    have H' := Aside0.mk H
                    clear H
                    have p145 : 0 ≤ ((ji9) : Int) := of_decide_eq_true (by first | (with_reducible assumption) | assumption)
                    have q145 : (ji9) < (l0.length : Int) := of_decide_eq_true (by first | (with_reducible assumption) | assumption)
                    obtain ⟨ad145, e145, hx145_0⟩ := Kd.at_int HR0.out (ji9) p145 q145
                    cases e145
                    replace hx145_0 := (HB.out.cell (World.block_lt_of_cell? w _ hx145_0)).trans hx145_0
                    replace p145 := eq_true p145
                    replace q145 := eq_true q145
                    go_wp2
                    go_roundg k1
                    case measure => have := HK1.out; omega
                    case rel => exact ⟨(x3_1), (wrap64 (x4_1 + 1)), (by first | rfl | (simp; done) | (simp [*]; done)), H', ⟨by have := HK1.out; omega⟩, ⟨by (with_reducible repeat (first | apply Kd.R_alloc | apply Kd.R_drewN | apply Kd.R_drew)); exact HO_3.out⟩, ⟨by repeat (first | (with_reducible first | exact HB.out | apply below_alloc | apply pw_below_drewN | apply below_drew1) | exact HB.out)⟩⟩
                · rw [if_neg c13] at H
                  exact absurd H (by simp)
              · rw [if_neg c11] at H
                exact absurd H (by simp)
            · rw [if_neg c10] at H
              exact absurd H (by simp)
          · rw [if_neg c8] at H
            have c8b0 : decide (x4_1 < (wrap64 (8 * (l0.length : Int)))) = false := decide_eq_false c8
            clear c8
            obtain rfl := Option.some.inj H
            go_wp2
            go_ret
            exact ⟨_, by first | rfl | (simp [errW_none, errW_some] <;> rfl) | (simp [*, errW_none, errW_some] <;> rfl), by (with_reducible repeat (first | apply Kd.R_alloc | apply Kd.R_drewN | apply Kd.R_drew)); exact HO_3.out, by repeat (first | (with_reducible first | exact HB.out | apply below_alloc | apply pw_below_drewN | apply below_drew1) | exact HB.out)⟩
    · rw [if_neg c4] at H
      exact absurd H (by simp)
  · rw [if_neg c3] at H
    exact absurd H (by simp)

end Go.Proofs.Ytdgpondnogpolaa.M
