/- The walk of ChipKnown: a device by hand. -/
import Derived.Test.YtmddafefdleimaaI
import Derived.Test.YtmddafefdleimaaWalkFails
namespace Go.Proofs.Ytmddafefdleimaa.M
open Go.RowKit Go.Proofs.YtmddafefdleimaaW.PrintWords Go.Proofs.YtmddafefdleimaaW.PrintLast Go.Proofs.YtmddafefdleimaaW.PrintMore Go.Proofs.Ytmddafefdleimaa.Rw Go.Proofs.Ytmddafefdleimaa.Fl Go.Maps
set_option linter.unusedVariables false
set_option linter.unusedSimpArgs false
abbrev L4 : List F := [(2, 1, 25), (5, 1, 0), (8, 2, 20), (10, 2, 0)]
abbrev xs25 : List Int := List.replicate 25 0
abbrev Lk (w W : World) (base c : Nat) (qs : List Nat) (ops refused : Int) (dark : Bool) (a : Nums) : Prop := Lq w W base c qs 4 2 1 9 25 L4 ops refused dark a
set_option maxHeartbeats 12800000 in
set_option maxRecDepth 100000 in
theorem known_walk (w : World) : Calls Try.prog 7 #[] w fun e w' => e = .returned (.bool true) ∧ Below w.heap.size w w' := by
  have may : MayG ((4 : Nat) : Int) ((2 : Nat) : Int) ((1 : Nat) : Int) ((9 : Nat) : Int) := ⟨by decide, by decide, by decide, by decide, by decide, by decide, by decide, by decide, by decide⟩
  have HNew := Aside0.mk (fun (W : World) (q1 q2 : Nat) (hq1 : W.heap[q1]? = some (.cells #[.int .i64 3] 3 (0, 0))) (hq2 : W.heap[q2]? = some (.cells #[.int .i64 2, .int .i64 1, .int .i64 25, .int .i64 5, .int .i64 1, .int .i64 0, .int .i64 8, .int .i64 2, .int .i64 20, .int .i64 10, .int .i64 2, .int .i64 0] 42 (0, 0))) =>
    newCh 4 2 1 9 25 may rfl W (some ⟨q1, 0, none⟩) 1 [3] (C_row (t := 3) hq1 (by decide)) (by decide) (by decide) (fun y hy => by
      have : y = 0 := by simpa using hy
      subst this; decide) (some ⟨q2, 0, none⟩) 4 L4 (C_of_blockF (l := L4) hq2 (by decide)) (by decide) ⟨by decide, by decide, (by simp [Apart])⟩)
  have hmk : ∀ W, (Instr.makeSlice 32 (.int .i64 25) (.int .i64 25)).run Try.prog W = .ok (.slice (some ⟨W.heap.size, 0, none⟩) 25 25) (W.alloc (.cells (Array.replicate 25 (.int .u16 0)) 40 (0, 0))) := mk32 25 (by omega)
  clear may
  go_enter Try.func7, Try.ntmps7
  go_upto_region 5 with (first
    | (go_at_call 8; (refine (awakeC _).mono ?_); rintro e w1 ⟨rfl, HB1⟩))
  have hA := below_alloc (below_alloc (below_alloc (Below.refl w1.heap.size w1) (.cells #[.int .i64 4, .int .i64 2, .int .i64 1, .int .i64 9] 23 (0, 0))) (.cells #[.int .i64 2, .int .i64 1, .int .i64 25, .int .i64 5, .int .i64 1, .int .i64 0, .int .i64 8, .int .i64 2, .int .i64 20, .int .i64 10, .int .i64 2, .int .i64 0] 42 (0, 0))) (.cells #[.int .i64 3] 3 (0, 0))
  have hQ2 := blk_alloc (blk_new (w1.alloc (.cells #[.int .i64 4, .int .i64 2, .int .i64 1, .int .i64 9] 23 (0, 0))) (.cells #[.int .i64 2, .int .i64 1, .int .i64 25, .int .i64 5, .int .i64 1, .int .i64 0, .int .i64 8, .int .i64 2, .int .i64 20, .int .i64 10, .int .i64 2, .int .i64 0] 42 (0, 0))) (.cells #[.int .i64 3] 3 (0, 0))
  have hQ1 := blk_new ((w1.alloc (.cells #[.int .i64 4, .int .i64 2, .int .i64 1, .int .i64 9] 23 (0, 0))).alloc (.cells #[.int .i64 2, .int .i64 1, .int .i64 25, .int .i64 5, .int .i64 1, .int .i64 0, .int .i64 8, .int .i64 2, .int .i64 20, .int .i64 10, .int .i64 2, .int .i64 0] 42 (0, 0))) (.cells #[.int .i64 3] 3 (0, 0))
  have hG : (w1.alloc (.cells #[.int .i64 4, .int .i64 2, .int .i64 1, .int .i64 9] 23 (0, 0))).heap[w1.heap.size]? = some (.cells #[.int .i64 4, .int .i64 2, .int .i64 1, .int .i64 9] 23 (0, 0)) := blk_new w1 _
  have HAb := Aside0.mk (below_step HB1.out hA)
  have e1 : ∀ o, (w1.alloc o).heap.size = w1.heap.size + 1 := fun o => World.size_alloc _ _
  have e2 : ∀ o p, ((w1.alloc o).alloc p).heap.size = w1.heap.size + 1 + 1 := fun o p => by rw [World.size_alloc, World.size_alloc]
  rw [e2] at hQ1
  rw [e1] at hQ2
  have HN5 := Aside0.mk (HNew.out _ _ _ hQ1 hQ2)
  clear e1 e2
  unfold geoV at HN5
  simp only [c0, c1, c2, c3, show ((4 : Nat) : Int) = 4 from rfl, show ((9 : Nat) : Int) = 9 from rfl] at HN5
  have hG2 := blk_alloc hG (.cells #[.int .i64 2, .int .i64 1, .int .i64 25, .int .i64 5, .int .i64 1, .int .i64 0, .int .i64 8, .int .i64 2, .int .i64 20, .int .i64 10, .int .i64 2, .int .i64 0] 42 (0, 0))
  have g0 : ((w1.alloc (.cells #[.int .i64 4, .int .i64 2, .int .i64 1, .int .i64 9] 23 (0, 0))).alloc (.cells #[.int .i64 2, .int .i64 1, .int .i64 25, .int .i64 5, .int .i64 1, .int .i64 0, .int .i64 8, .int .i64 2, .int .i64 20, .int .i64 10, .int .i64 2, .int .i64 0] 42 (0, 0))).cell? ⟨w1.heap.size, 0, none⟩ = some (.int .i64 4) := (blk_cell hG2 0).trans rfl
  have g1 : ((w1.alloc (.cells #[.int .i64 4, .int .i64 2, .int .i64 1, .int .i64 9] 23 (0, 0))).alloc (.cells #[.int .i64 2, .int .i64 1, .int .i64 25, .int .i64 5, .int .i64 1, .int .i64 0, .int .i64 8, .int .i64 2, .int .i64 20, .int .i64 10, .int .i64 2, .int .i64 0] 42 (0, 0))).cell? ⟨w1.heap.size, 1, none⟩ = some (.int .i64 2) := (blk_cell hG2 1).trans rfl
  have g2 : ((w1.alloc (.cells #[.int .i64 4, .int .i64 2, .int .i64 1, .int .i64 9] 23 (0, 0))).alloc (.cells #[.int .i64 2, .int .i64 1, .int .i64 25, .int .i64 5, .int .i64 1, .int .i64 0, .int .i64 8, .int .i64 2, .int .i64 20, .int .i64 10, .int .i64 2, .int .i64 0] 42 (0, 0))).cell? ⟨w1.heap.size, 2, none⟩ = some (.int .i64 1) := (blk_cell hG2 2).trans rfl
  have g3 : ((w1.alloc (.cells #[.int .i64 4, .int .i64 2, .int .i64 1, .int .i64 9] 23 (0, 0))).alloc (.cells #[.int .i64 2, .int .i64 1, .int .i64 25, .int .i64 5, .int .i64 1, .int .i64 0, .int .i64 8, .int .i64 2, .int .i64 20, .int .i64 10, .int .i64 2, .int .i64 0] 42 (0, 0))).cell? ⟨w1.heap.size, 3, none⟩ = some (.int .i64 9) := (blk_cell hG2 3).trans rfl
  clear hA hQ2 hQ1 hG hG2 HNew
  go_upto_region 9 with (first
    | (go_at_call 11; (refine HN5.out.mono ?_); rintro e w7 ⟨s0, rfl, HI7, HB7, HFr⟩; have HL7 : Aside0 (Lk w w7 _ s0.c [] 0 0 false (newN 25 fun x => decide ((x : Int) ∈ ([3] : List Int)))) := ⟨Lq.of (qs := []) HAb.out HI7.out HB7.out HFr.out (fun q hq => by cases hq)⟩))
  have HAa := Aside0.mk (Lq.alloc HL7.out (.cells (Array.replicate 25 (.int .u16 0)) 40 (0, 0)))
  have HRa := Aside0.mk (made_row (enc := Value.int .u16) (t := 40) w7 25 0)
  obtain ⟨c, hc⟩ : ∃ c, s0.c = c := ⟨_, rfl⟩
  obtain ⟨sb, hsb⟩ : ∃ c, w7.heap.size = c := ⟨_, rfl⟩
  obtain ⟨W0, hW0⟩ : ∃ W0, (w7.alloc (.cells (Array.replicate 25 (.int .u16 0)) 40 (0, 0))) = W0 := ⟨_, rfl⟩
  rw [hc, hsb, hW0] at HAa
  rw [hsb, hW0] at HRa
  rw [hc, hsb, hW0]
  obtain ⟨base, HLa⟩ : ∃ base, Aside0 (Lk w W0 base c [sb] 0 0 false (newN 25 fun x => decide ((x : Int) ∈ ([3] : List Int)))) := ⟨_, HAa⟩
  clear hc hsb hW0 HAa HL7 HI7 HB7 HFr HN5 g0 g1 g2 g3 HAb HB1 hmk
  have HP0 := Aside0.mk (HLa.out.progYes 0 0 sb (by decide) (by decide) HRa.out List.mem_cons_self (List.length_replicate ..) (row_reps_lt (by decide) (by decide)) rfl rfl (by decide) ⟨fun _ _ _ => rfl, .inl rfl⟩ 0 0 false rfl)
  simp only [c0, c1, c2, c3] at HP0
  go_upto_region 10 with (first
    | (go_at_call 14; (with_reducible refine HP0.out.mono ?_); rintro e u1 ⟨rfl, HL_1, HK_1⟩; have HR_1 := Aside0.mk (HK_1.out.row HRa.out List.mem_cons_self); clear HP0 HK_1; have HP1 := Aside0.mk (HL_1.out.progNo 0 0 sb (by decide) (by decide) HR_1.out List.mem_cons_self (List.length_replicate ..) (row_reps_lt (by decide) (by decide)) (by decide) 5 false ⟨fun h => absurd (h.1 0 (Nat.le_refl _) (by decide)) (by decide), fun h => by cases h⟩ rfl (by decide) 1 (by decide)); simp only [c0, c1, c2, c3] at HP1)
    | (go_at_call 14; (with_reducible refine HP1.out.mono ?_); rintro e u2 ⟨rfl, HL_2, HK_2⟩; have HR_2 := Aside0.mk (HK_2.out.row HR_1.out List.mem_cons_self); clear HP1 HK_2; have HP2 := Aside0.mk (HL_2.out.progFail 0 1 sb (by decide) (by decide) HR_2.out List.mem_cons_self (List.length_replicate ..) (row_reps_lt (by decide) (by decide)) rfl rfl (by decide) ⟨fun y h1 h2 => (by obtain rfl : y = 1 := (by omega); rfl), .inr (by decide)⟩ 2 25 true rfl 16 (by decide) 16 2 (by decide) (by decide)); simp only [c0, c1, c2, c3] at HP2)
    | (go_at_call 14; (with_reducible refine HP2.out.mono ?_); rintro e u3 ⟨rfl, HL_3, HK_3⟩; have HR_3 := Aside0.mk (HK_3.out.row HR_2.out List.mem_cons_self); clear HP2 HK_3; have HP3 := Aside0.mk (HL_3.out.progNo 3 0 sb (by decide) (by decide) HR_3.out List.mem_cons_self (List.length_replicate ..) (row_reps_lt (by decide) (by decide)) (by decide) 9 true ⟨fun _ => rfl, fun _ => ⟨fun _ _ _ => rfl, .inl rfl⟩⟩ (by decide) (by decide) 2 (by decide)); simp only [c0, c1, c2, c3] at HP3)
    | (go_at_call 14; (with_reducible refine HP3.out.mono ?_); rintro e u4 ⟨rfl, HL_4, HK_4⟩; have HR_4 := Aside0.mk (HK_4.out.row HR_3.out List.mem_cons_self); clear HP3 HK_4; have HP4 := Aside0.mk (HL_4.out.eraseNo 3 (by decide) (by decide) 9 (by decide) (by decide) 3 (by decide)); simp only [c0, c1, c2, c3] at HP4)
    | (go_at_call 13; (with_reducible refine HP4.out.mono ?_); rintro e u5 ⟨rfl, HL_5, HK_5⟩; have HR_5 := Aside0.mk (HK_5.out.row HR_4.out List.mem_cons_self); clear HP4 HK_5; have HP5 := Aside0.mk (HL_5.out.eraseFail 1 (by decide) (by decide) (by decide) (by decide) 5 0 true rfl); simp only [c0, c1, c2, c3] at HP5)
    | (go_at_call 13; (with_reducible refine HP5.out.mono ?_); rintro e u6 ⟨rfl, HL_6, HK_6⟩; have HR_6 := Aside0.mk (HK_6.out.row HR_5.out List.mem_cons_self); clear HP5 HK_6; have HP6 := Aside0.mk (HL_6.out.progNo 1 0 sb (by decide) (by decide) HR_6.out List.mem_cons_self (List.length_replicate ..) (row_reps_lt (by decide) (by decide)) (by decide) 6 true ⟨fun _ => rfl, fun _ => ⟨fun _ _ _ => rfl, .inl rfl⟩⟩ (by decide) (by decide) 3 (by decide)); simp only [c0, c1, c2, c3] at HP6)
    | (go_at_call 14; (with_reducible refine HP6.out.mono ?_); rintro e u7 ⟨rfl, HL_7, HK_7⟩; have HR_7 := Aside0.mk (HK_7.out.row HR_6.out List.mem_cons_self); clear HP6 HK_7; have HP7 := Aside0.mk (HL_7.out.eraseNo 1 (by decide) (by decide) 7 (by decide) (by decide) 3 (by decide)); simp only [c0, c1, c2, c3] at HP7)
    | (go_at_call 13; (with_reducible refine HP7.out.mono ?_); rintro e u8 ⟨rfl, HL_8, HK_8⟩; have HR_8 := Aside0.mk (HK_8.out.row HR_7.out List.mem_cons_self); clear HP7 HK_8; have HP8 := Aside0.mk (HL_8.out.progCut 2 0 sb (by decide) (by decide) HR_8.out List.mem_cons_self (List.length_replicate ..) (row_reps_lt (by decide) (by decide)) (by decide) (by decide) (by decide) ⟨fun _ _ _ => rfl, .inl rfl⟩ 8 20 true rfl 20 2 (by decide) (by decide)); simp only [c0, c1, c2, c3] at HP8)
    | (go_at_call 14; (with_reducible refine HP8.out.mono ?_); rintro e u9 ⟨rfl, HL_9, HK_9⟩; have HR_9 := Aside0.mk (HK_9.out.row HR_8.out List.mem_cons_self); clear HP8 HK_9; have HP9 := Aside0.mk (HL_9.out.progDark 2 1 (some ⟨sb, 0, none⟩) 25 25); simp only [c0, c1, c2, c3] at HP9)
    | (go_at_call 14; (with_reducible refine HP9.out.mono ?_); rintro e u10 ⟨rfl, HB_10⟩; have HL_10 := Aside0.mk (HL_9.out.below HB_10.out)))
  have HL10 : Aside0 (Lk w u10 base c [sb] 9 3 true _) := ⟨HL_10.out⟩
  clear HLa HRa HL_1 HR_1 HL_2 HR_2 HL_3 HR_3 HL_4 HR_4 HL_5 HR_5 HL_6 HR_6 HL_7 HR_7 HL_8 HR_8 HL_9 HR_9 HB_10 HL_10 HP9
  have HL11 := Aside0.mk ((Lq.alloc HL10.out (.cells #[.int .i64 0, .int .i64 5, .int .i64 6, .int .i64 9, .int .i64 9, .int .i64 7, .int .i64 6, .int .i64 7, .int .i64 8, .int .i64 8] 29 (0, 0))).alloc (.cells #[.int .i64 0, .int .i64 5, .int .i64 6, .int .i64 9, .int .i64 9, .int .i64 7, .int .i64 6, .int .i64 7, .int .i64 8, .int .i64 8] 29 (0, 0)))
  have HG1 : Aside0 (Row (Value.int .i64) 29 ((u10.alloc (.cells #[.int .i64 0, .int .i64 5, .int .i64 6, .int .i64 9, .int .i64 9, .int .i64 7, .int .i64 6, .int .i64 7, .int .i64 8, .int .i64 8] 29 (0, 0))).alloc (.cells #[.int .i64 0, .int .i64 5, .int .i64 6, .int .i64 9, .int .i64 9, .int .i64 7, .int .i64 6, .int .i64 7, .int .i64 8, .int .i64 8] 29 (0, 0))) u10.heap.size [0, 5, 6, 9, 9, 7, 6, 7, 8, 8]) := ⟨blk_alloc (blk_new u10 _) _⟩
  have HG2 : Aside0 (Row (Value.int .i64) 29 ((u10.alloc (.cells #[.int .i64 0, .int .i64 5, .int .i64 6, .int .i64 9, .int .i64 9, .int .i64 7, .int .i64 6, .int .i64 7, .int .i64 8, .int .i64 8] 29 (0, 0))).alloc (.cells #[.int .i64 0, .int .i64 5, .int .i64 6, .int .i64 9, .int .i64 9, .int .i64 7, .int .i64 6, .int .i64 7, .int .i64 8, .int .i64 8] 29 (0, 0))) (u10.heap.size + 1) [0, 5, 6, 9, 9, 7, 6, 7, 8, 8]) := ⟨by
    have := blk_new (u10.alloc (.cells #[.int .i64 0, .int .i64 5, .int .i64 6, .int .i64 9, .int .i64 9, .int .i64 7, .int .i64 6, .int .i64 7, .int .i64 8, .int .i64 8] 29 (0, 0))) (.cells #[.int .i64 0, .int .i64 5, .int .i64 6, .int .i64 9, .int .i64 9, .int .i64 7, .int .i64 6, .int .i64 7, .int .i64 8, .int .i64 8] 29 (0, 0))
    rw [World.size_alloc] at this
    exact this⟩
  go_upto_region 11 with (fail)
  obtain ⟨q1, hq1⟩ : ∃ c, u10.heap.size = c := ⟨_, rfl⟩
  obtain ⟨W1, hW1⟩ : ∃ W0, ((u10.alloc (.cells #[.int .i64 0, .int .i64 5, .int .i64 6, .int .i64 9, .int .i64 9, .int .i64 7, .int .i64 6, .int .i64 7, .int .i64 8, .int .i64 8] 29 (0, 0))).alloc (.cells #[.int .i64 0, .int .i64 5, .int .i64 6, .int .i64 9, .int .i64 9, .int .i64 7, .int .i64 6, .int .i64 7, .int .i64 8, .int .i64 8] 29 (0, 0))) = W0 := ⟨_, rfl⟩
  rw [hq1, hW1] at HG1 HG2
  rw [hW1] at HL11
  rw [hq1, hW1]
  clear hq1 hW1 HL10
  have HL12 := Aside0.mk (HL11.out.sub (qs1 := [sb]) (fun q hq => List.mem_cons_of_mem _ (List.mem_cons_of_mem _ hq)))
  clear HL11
  go_wp2
  go_loopw [8] (fun v8 wr => ∃ i : Nat, i ≤ 10 ∧ v8 = .int .i64 (i : Int) ∧ Aside0 (Lk w wr base c [sb] 9 3 true _) ∧ Aside0 (Row (Value.int .i64) 29 wr q1 [0, 5, 6, 9, 9, 7, 6, 7, 8, 8]) ∧ Aside0 (Row (Value.int .i64) 29 wr (q1 + 1) [0, 5, 6, 9, 9, 7, 6, 7, 8, 8])) (fun v8 _ => 10 - (intOf v8).toNat)
  case atStart => exact ⟨0, Nat.zero_le _, rfl, HL12, HG1, HG2⟩
  case round =>
    clear HL12 HG1 HG2
    obtain ⟨i, hi, rfl, HL, HG1, HG2⟩ := hrel
    by_cases ci : i < 10
    · have cii : (i : Int) < 10 := by omega
      have hx := HG1.out.cellD 0 i ci
      have hy := HG2.out.cellD 0 i ci
      generalize [0, 5, 6, 9, 9, 7, 6, 7, 8, 8].getD i (0 : Int) = z at hx hy
      go_wp2
      go_quiet (fail)
      have HL1 := Aside0.mk (HL.out.drewN nq)
      have HG11 := Aside0.mk (HG1.out.drewN nq)
      have HG21 := Aside0.mk (HG2.out.drewN nq)
      clear HL HG1 HG2
      go_wp2
      go_roundw
      case rel => exact ⟨i + 1, ci, rfl, HL1, HG11, HG21⟩
      case measure => simp [intOf]; omega
    · obtain rfl : i = 10 := by omega
      have HO1 := Aside0.mk HL.out.opsR
      have HPw := Aside0.mk HL.out.power
      go_upto_region 18 with (first
        | (go_at_call 16; (with_reducible refine HO1.out.mono ?_); rintro e w11 ⟨rfl, hw⟩; obtain rfl := hw.symm)
        | (go_at_call 22; (with_reducible refine HPw.out.mono ?_); rintro e w13 ⟨rfl, HL13, HK13⟩))
      have HS1 := Aside0.mk (HL13.out.senseYes 2 0 (by decide) (by decide) (by decide) (0, 0, 0) false rfl (by decide))
      simp only [c0, c1, c2, c3] at HS1
      clear HL HG1 HG2 HO1 HPw HK13
      go_upto_region 19 with (first
        | (go_at_call 17; (with_reducible refine HS1.out.mono ?_); rintro e w14 ⟨q, cc, rfl, hcc, HV, HVl, HQ, HL14, HK14⟩))
      have HVP : Aside0 (Vec w14 q (progL (List.replicate 25 (0, 0)) (List.replicate 25 0) 20)) := HV
      have HL15 : Aside0 (Lk w w14 base c [sb] 10 3 false _) := ⟨HL14.out.sub (qs1 := [sb]) (fun q hq => List.mem_cons_of_mem _ hq)⟩
      clear HV HVl HQ HL14 HK14 HS1 HL13
      have hVn : (progL (List.replicate 25 (0, 0)) (List.replicate 25 0) 20 : Pts).length = 25 := rfl
      have HVn := Aside0.mk hVn
      clear hVn
      go_wp2
      go_loopw [12, 13] (fun v12 v13 wr => ∃ i : Nat, i ≤ 25 ∧ v12 = .int .i64 ((i - 20 : Nat) : Int) ∧ v13 = .int .i64 (i : Int) ∧ wr = w14) (fun _ v13 _ => 25 - (intOf v13).toNat)
      case atStart => exact ⟨0, Nat.zero_le _, rfl, rfl, rfl⟩
      case round =>
        obtain ⟨i, hi, rfl, rfl, rfl⟩ := hrel
        by_cases ci : i < 25
        · have cii : (i : Int) < 25 := by omega
          have hx := HVP.out.cell (i := i) (by rw [HVn.out]; exact ci)
          rw [progL_rep (by decide) ci] at hx
          by_cases ck : i < 20
          · rw [if_pos ck, show ofPt 0 = (-31, -31) from rfl] at hx
            unfold ptV at hx
            dsimp only at hx
            have e1 := ord_eqb (ord_int (a := -31) (b := 0) (by decide) (by decide))
            rw [fd_zero, show decide ((-31 : Int) = 0) = false from rfl] at e1
            generalize fd (-31) 0 = xx at hx e1
            rw [show i - 20 = 0 by omega]
            go_wp2
            go_roundw
            case rel => exact ⟨i + 1, ci, by rw [show i + 1 - 20 = 0 by omega], rfl, by first | rfl | trivial⟩
            case measure => simp [intOf]; omega
          · rw [if_neg ck, ptV_zero] at hx
            have e1 := ord_eqb (ord_int (a := 0) (b := 0) (by decide) (by decide))
            rw [fd_zero, show decide ((0 : Int) = 0) = true from rfl] at e1
            obtain ⟨t, ht⟩ : ∃ t, i - 20 = t := ⟨_, rfl⟩
            rw [ht]
            have ht2 : i + 1 - 20 = t + 1 := by omega
            have HT2 := Aside0.mk ht2
            have ht5 : (t : Int) ≤ 25 := by omega
            clear ht2 ht
            go_wp2
            go_roundw
            case rel => exact ⟨i + 1, ci, by rw [HT2.out]; rfl, rfl, by first | rfl | trivial⟩
            case measure => simp [intOf]; omega
        · obtain rfl : i = 25 := by omega
          have HS2 := Aside0.mk (HL15.out.senseCut 0 1 (by decide) (by decide) (by decide) (10, 2, 0) true rfl rfl)
          simp only [c0, c1, c2, c3] at HS2
          go_upto_region 27 with (first
            | (go_at_call 17; (with_reducible refine HS2.out.mono ?_); rintro e w15 ⟨rfl, HL16, HK16⟩; have HPw := Aside0.mk HL16.out.power)
            | (go_at_call 22; (with_reducible refine HPw.out.mono ?_); rintro e w16 ⟨rfl, HL17, HK17⟩))
          have HS3 := Aside0.mk (HL17.out.senseYes 0 1 (by decide) (by decide) (by decide) (0, 0, 0) false rfl (by decide))
          simp only [c0, c1, c2, c3] at HS3
          clear HL15 HS2 HL16 HK16 HPw HK17 HVP HVn
          go_upto_region 28 with (first
            | (go_at_call 17; (with_reducible refine HS3.out.mono ?_); rintro e w17 ⟨q5, cc5, rfl, hcc5, HV, HVl, HQ, HL18, HK18⟩))
          have HVP : Aside0 (Vec w17 q5 (progL (List.replicate 25 (0, 0)) (List.replicate 25 0) 16)) := HV
          have HL19 : Aside0 (Lk w w17 base c [sb] 12 3 false _) := ⟨HL18.out.sub (qs1 := [sb]) (fun q hq => List.mem_cons_of_mem _ hq)⟩
          have HVn : Aside0 ((progL (List.replicate 25 (0, 0)) (List.replicate 25 0) 16 : Pts).length = 25) := ⟨rfl⟩
          clear HV HVl HQ HL18 HK18 HS3 HL17
          go_wp2
          go_loopw [18, 19] (fun v18 v19 wr => ∃ i : Nat, i ≤ 25 ∧ v18 = .int .i64 ((if i ≤ 16 then i else 16 : Nat) : Int) ∧ v19 = .int .i64 (i : Int) ∧ wr = w17) (fun _ v19 _ => 25 - (intOf v19).toNat)
          case atStart => exact ⟨0, Nat.zero_le _, rfl, rfl, rfl⟩
          case round =>
            obtain ⟨i, hi, rfl, rfl, rfl⟩ := hrel
            by_cases ci : i < 25
            · have cii : (i : Int) < 25 := by omega
              have hx := HVP.out.cell (i := i) (by rw [HVn.out]; exact ci)
              rw [progL_rep (by decide) ci] at hx
              by_cases ck : i < 16
              · rw [if_pos ck, show ofPt 0 = (-31, -31) from rfl] at hx
                unfold ptV at hx
                dsimp only at hx
                have e1 := ord_eqb (ord_int (a := -31) (b := 0) (by decide) (by decide))
                rw [fd_zero, show decide ((-31 : Int) = 0) = false from rfl] at e1
                generalize fd (-31) 0 = xx at hx e1
                rw [if_pos (show i ≤ 16 by omega)]
                have h23 : ((if i + 1 ≤ 16 then i + 1 else 16 : Nat) : Int) = (i : Int) + 1 := by rw [if_pos (by omega)]; omega
                have H23 := Aside0.mk h23
                clear h23
                go_wp2
                go_roundw
                case rel => exact ⟨i + 1, ci, by rw [H23.out], rfl, by first | rfl | trivial⟩
                case measure => simp [intOf]; omega
              · rw [if_neg ck, ptV_zero] at hx
                have e1 := ord_eqb (ord_int (a := 0) (b := 0) (by decide) (by decide))
                rw [fd_zero, show decide ((0 : Int) = 0) = true from rfl] at e1
                have h22 : ((if i ≤ 16 then i else 16 : Nat) : Int) = 16 := by
                  by_cases h : i ≤ 16
                  · rw [if_pos h]; omega
                  · rw [if_neg h]; rfl
                rw [h22]
                have h23 : ((if i + 1 ≤ 16 then i + 1 else 16 : Nat) : Int) = 16 := by rw [if_neg (by omega)]; rfl
                have H23 := Aside0.mk h23
                clear h23 h22
                go_wp2
                go_roundw
                case rel => exact ⟨i + 1, ci, by rw [H23.out], rfl, by first | rfl | trivial⟩
                case measure => simp [intOf]; omega
            · obtain rfl : i = 25 := by omega
              rw [if_neg (show ¬ 25 ≤ 16 by decide), show ((16 : Nat) : Int) = 16 from rfl]
              have HMk := Aside0.mk (HL19.out.markYes 0 (by decide) (by decide) (0, 0, 0) false rfl (by decide))
              simp only [c0, c1, c2, c3] at HMk
              clear HVP HVn
              go_upto_region 36 with (first
                | (go_at_call 20; (with_reducible refine HMk.out.mono ?_); rintro e w20 ⟨rfl, HL20, HK20⟩; have HMd := Aside0.mk (HL20.out.markedYes 0 (by decide) (by decide) (0, 0, 0) false rfl (by decide) true rfl); simp only [c0, c1, c2, c3] at HMd)
                | (go_at_call 21; (with_reducible refine HMd.out.mono ?_); rintro e w21 ⟨rfl, HL21, HK21⟩))
              have HSo := Aside0.mk (HL21.out.senseOut 4 0 (.inr (by decide)) (by decide))
              clear HL19 HMk HL20 HK20 HMd HK21
              have HL2b := Aside0.mk (litS 2 4611686018427387904 (by decide +kernel))
              go_wp2_with (first
                | (go_at_call 17; (with_reducible refine HSo.out.mono ?_); rintro e w22 ⟨rfl, HL22, HK22⟩; have HRf : Aside0 (Calls Try.prog 15 #[ptr c] w22 fun e w' => e = .returned (.int .i64 4) ∧ w' = w22) := ⟨HL22.out.refusedR⟩; have HBr1 := Aside0.mk (HL22.out.brokenR 1 (by decide) true rfl); have HBr0 := Aside0.mk (HL22.out.brokenR 0 (by decide) false rfl); have HEr := Aside0.mk (HL22.out.erasesR 0 (by decide) 0 rfl); have HDo := Aside0.mk (HL22.out.driftOut 2 0 0 (by decide) (by decide) (by decide) 4611686018427387904 0); have hdy := HL22.out.driftYes 0 0 0 (by decide) (by decide) rfl (by decide) 2 0 (by decide) (by decide) (by decide +kernel) (by decide +kernel) (by decide +kernel) (by decide +kernel); rw [fd_zero, ← HL2b.out] at hdy; have HDy := Aside0.mk hdy; clear hdy; simp only [c0, c1, c2, c3] at HBr1 HBr0 HEr HDo HDy)
                | (go_at_call 15; (with_reducible refine HRf.out.mono ?_); rintro e w23 ⟨rfl, hw⟩; obtain rfl := hw.symm)
                | (go_at_call 19; (with_reducible refine HBr1.out.mono ?_); rintro e w24 ⟨rfl, hw⟩; obtain rfl := hw.symm)
                | (go_at_call 19; (with_reducible refine HBr0.out.mono ?_); rintro e w25 ⟨rfl, hw⟩; obtain rfl := hw.symm)
                | (go_at_call 23; (with_reducible refine HEr.out.mono ?_); rintro e w26 ⟨rfl, hw⟩; obtain rfl := hw.symm)
                | (go_at_call 24; (with_reducible refine HDo.out.mono ?_); rintro e w27 ⟨rfl, hw⟩; obtain rfl := hw.symm)
                | (go_at_call 24; (with_reducible refine HDy.out.mono ?_); rintro e w28 ⟨rfl, HL28, HK28⟩; have HWo := Aside0.mk (HL28.out.worst (fun i j hi hj => by rcases (by omega : i = 0 ∨ i = 1 ∨ i = 2 ∨ i = 3) with rfl | rfl | rfl | rfl <;> rcases (by omega : j = 0 ∨ j = 1) with rfl | rfl <;> decide +kernel) 1 (by decide +kernel)))
                | (go_at_call 25; (with_reducible refine HWo.out.mono ?_); rintro e w29 ⟨rfl, HB29⟩))
              go_ret
              exact ⟨rfl, below_step HL28.out.bel HB29.out⟩
end Go.Proofs.Ytmddafefdleimaa.M
