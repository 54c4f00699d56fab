/- The walk of PlainPlays: whatever is written, read, trimmed: each answer; a copy goes its own way; two are the same just if all pages are. -/
import Derived.Test.YtanfpjlcpcfjoaaZ
import Derived.Deep.RegionHeld3
namespace Go.Proofs.Ytanfpjlcpcfjoaa.M
open Go.RowKit Go.Proofs.YtanfpjlcpcfjoaaW.PrintWords Go.Proofs.YtanfpjlcpcfjoaaW.PrintLast Go.Proofs.YtanfpjlcpcfjoaaW.PrintMore Go.Proofs.Ytanfpjlcpcfjoaa.Rw
set_option linter.unusedVariables false
set_option linter.unusedSimpArgs false
/-- what stands before the first round -/
structure Fi (w0 W : World) (lo hi g q n : Nat) (L : Ln) : Prop where
  bel : Below w0.heap.size w0 W
  pr : Pr W lo hi g q n (fun k => q < k) L
  w0s : w0.heap.size < lo
  hig : hi ≤ g
  gq : g < q
section
variable {w0 W W1 : World} {lo hi g q n : Nat} {L L' : Ln}
theorem Fi.bel2 (h : Fi w0 W lo hi g q n L) : w0.heap.size ≤ min lo q := by
  have h1 := h.w0s; have h2 := h.hig; have h3 := h.gq; have h4 := h.pr.hp.lo_le; omega
theorem Fi.step (h : Fi w0 W lo hi g q n L) (hP : Pr W1 lo hi g q n (fun k => q < k) L') (ho : Out2 W W1 lo hi q) : Fi w0 W1 lo hi g q n L' :=
  ⟨Below.trans h.bel (ho.1.mono h.bel2), hP, h.w0s, h.hig, h.gq⟩
/-- the rows that are handed in, in a world above -/
theorem deed_C {B : Option Addr} {b : Nat} {xs : List Int} {m : Nat} (hC : Kd.C (Kd.int .u8) w0 B m xs) (hb : Below w0.heap.size w0 W) (hm : w0.heap.size ≤ b) : ∀ W', Below b W W' → Kd.C (Kd.int .u8) W' B m xs :=
  fun W' hW => Kd.C_below hC (Below.trans hb (hW.mono hm))
end
set_option maxHeartbeats 6400000 in
set_option maxRecDepth 100000 in
theorem plays_walk (a0_0 : Int) (a0_1 : Int) (A1 : Option Addr) (c1 : Nat) (l1 : List ((Int) × (Int) × (List (Int)))) (A2 : Option Addr) (c2 : Nat) (l2 : List ((Int) × (Int) × (List (Int)))) (w : World) (wa0_0 : (Lit.int .i64 a0_0).wf = true) (wa0_1 : (Lit.int .i64 a0_1).wf = true) (r1 : Kd.C (Kd.pair (Kd.int .i64) (Kd.pair (Kd.int .i64) (Kd.slice 5 (Kd.int .u8)))) w A1 l1.length l1) (k1 : l1.length ≤ c1) (m1 : l1.length ≤ maxLen) (y1 : l1.length * 40 ≤ 140737488351232) (g1 : ∀ y ∈ l1, ((Lit.int .i64 y.1).wf = true ∧ (Lit.int .i64 y.2.1).wf = true ∧ (y.2.2.length ≤ maxLen ∧ ∀ z0 ∈ y.2.2, (Lit.int .u8 z0).wf = true))) (r2 : Kd.C (Kd.pair (Kd.int .i64) (Kd.pair (Kd.int .i64) (Kd.slice 5 (Kd.int .u8)))) w A2 l2.length l2) (k2 : l2.length ≤ c2) (m2 : l2.length ≤ maxLen) (y2 : l2.length * 40 ≤ 140737488351232) (g2 : ∀ y ∈ l2, ((Lit.int .i64 y.1).wf = true ∧ (Lit.int .i64 y.2.1).wf = true ∧ (y.2.2.length ≤ maxLen ∧ ∀ z0 ∈ y.2.2, (Lit.int .u8 z0).wf = true))) :
    Calls Try.prog 4 #[.agg #[.int .i64 a0_0, .int .i64 a0_1], .slice A1 l1.length c1, .slice A2 l2.length c2] w fun e w' => e = .returned (.bool true) ∧ Below w.heap.size w w' := by
  have R1 := Aside0.mk r1
  have R2 := Aside0.mk r2
  have G1 : Aside0 (∀ i, i < l1.length → (l1.getD i (0, 0, [])).2.2.length ≤ 9223372036854775807) := ⟨fun i hi => (g1 _ (mem_getD _ hi)).2.2.1⟩
  have G2 : Aside0 (∀ i, i < l2.length → (l2.getD i (0, 0, [])).2.2.length ≤ 9223372036854775807) := ⟨fun i hi => (g2 _ (mem_getD _ hi)).2.2.1⟩
  have n1 : l1.length ≤ 9223372036854775807 := by omega
  have n2 : l2.length ≤ 9223372036854775807 := by omega
  have HBb := Aside0.mk (below_alloc (Below.refl w.heap.size w) (.cells #[.int .i64 a0_0, .int .i64 a0_1] 35 (0, 0)))
  have HBX := Aside0.mk (blk_new w (.cells #[.int .i64 a0_0, .int .i64 a0_1] 35 (0, 0)))
  clear r1 r2 g1 g2 m1 m2 wa0_0 wa0_1
  by_cases q1 : (200 : Int) < a0_0
  · have d1 : decide ((200 : Int) < a0_0) = true := decide_eq_true q1
    go_enter Try.func4, Try.ntmps4
    go_wp2_with (first | (go_at_call 7; (refine (awakeC _).mono ?_); rintro e w2 ⟨rfl, hb⟩; have HB := Aside0.mk (below_step HBb.out hb); have hbk := (hb.block w.heap.size (blk_lt HBX.out)).trans HBX.out; have hc0 := blk_cell hbk 0; have hc1 := blk_cell hbk 1; clear hb hbk))
    go_ret
    exact ⟨rfl, HB.out⟩
  have d1 : decide ((200 : Int) < a0_0) = false := decide_eq_false q1
  by_cases q2 : (200 : Int) < a0_1
  · have d2 : decide ((200 : Int) < a0_1) = true := decide_eq_true q2
    go_enter Try.func4, Try.ntmps4
    go_wp2_with (first | (go_at_call 7; (refine (awakeC _).mono ?_); rintro e w2 ⟨rfl, hb⟩; have HB := Aside0.mk (below_step HBb.out hb); have hbk := (hb.block w.heap.size (blk_lt HBX.out)).trans HBX.out; have hc0 := blk_cell hbk 0; have hc1 := blk_cell hbk 1; clear hb hbk))
    go_ret
    exact ⟨rfl, HB.out⟩
  have d2 : decide ((200 : Int) < a0_1) = false := decide_eq_false q2
  by_cases q3 : (200 : Int) < (l1.length : Int)
  · have d3 : decide ((200 : Int) < (l1.length : Int)) = true := decide_eq_true q3
    go_enter Try.func4, Try.ntmps4
    go_wp2_with (first | (go_at_call 7; (refine (awakeC _).mono ?_); rintro e w2 ⟨rfl, hb⟩; have HB := Aside0.mk (below_step HBb.out hb); have hbk := (hb.block w.heap.size (blk_lt HBX.out)).trans HBX.out; have hc0 := blk_cell hbk 0; have hc1 := blk_cell hbk 1; clear hb hbk))
    go_ret
    exact ⟨rfl, HB.out⟩
  have d3 : decide ((200 : Int) < (l1.length : Int)) = false := decide_eq_false q3
  by_cases q4 : (200 : Int) < (l2.length : Int)
  · have d4 : decide ((200 : Int) < (l2.length : Int)) = true := decide_eq_true q4
    go_enter Try.func4, Try.ntmps4
    go_wp2_with (first | (go_at_call 7; (refine (awakeC _).mono ?_); rintro e w2 ⟨rfl, hb⟩; have HB := Aside0.mk (below_step HBb.out hb); have hbk := (hb.block w.heap.size (blk_lt HBX.out)).trans HBX.out; have hc0 := blk_cell hbk 0; have hc1 := blk_cell hbk 1; clear hb hbk))
    go_ret
    exact ⟨rfl, HB.out⟩
  have d4 : decide ((200 : Int) < (l2.length : Int)) = false := decide_eq_false q4
  obtain ⟨N, hN⟩ : ∃ N : Nat, (if a0_0 < 0 then 0 else a0_0) = (N : Int) := ⟨(if a0_0 < 0 then 0 else a0_0).toNat, by split <;> omega⟩
  obtain ⟨n, hn⟩ : ∃ n : Nat, (if a0_1 < 0 then 0 else a0_1) = (n : Int) := ⟨(if a0_1 < 0 then 0 else a0_1).toNat, by split <;> omega⟩
  have lN : N ≤ 200 := by split at hN <;> omega
  have ln : n ≤ 200 := by split at hn <;> omega
  have HN := Aside0.mk hN
  have Hn := Aside0.mk hn
  have le1 : l1.length ≤ 200 := by omega
  have le2 : l2.length ≤ 200 := by omega
  clear hN hn q1 q2 q3 q4
  go_enter Try.func4, Try.ntmps4
  go_upto_region 5 with (first | (go_at_call 7; (refine (awakeC _).mono ?_); rintro e w2 ⟨rfl, hb⟩; have HB := Aside0.mk (below_step HBb.out hb); have hbk := Aside0.mk ((hb.block w.heap.size (blk_lt HBX.out)).trans HBX.out); have hc0 := blk_cell hbk.out 0; have hc1 := blk_cell hbk.out 1; clear hb))
  clear HBb HBX d1 d2 d3 d4
  have hw2 : w.heap.size < w2.heap.size := blk_lt hbk.out
  go_region_held3 (fun W' => W'.cell? ⟨w.heap.size, 0, none⟩ = some (.int .i64 a0_0) ∧ W'.cell? ⟨w.heap.size, 1, none⟩ = some (.int .i64 a0_1))
    (first | go_keep | exact ⟨hc2, hc3⟩ | exact ⟨hc4, hc5⟩)
    (first
    | (go_at_call 8; (refine (newC a0_0 a0_1 N n HN.out Hn.out lN ln _).mono ?_); rintro e w3 ⟨rfl, HP, HB3⟩; have HBc := Aside0.mk (below_step (below_drew HB.out) HB3.out); have hbk3 := Aside0.mk ((HB3.out.block w.heap.size (blk_lt hbk.out)).trans (blk_drew hbk.out)); have hc2 := blk_cell hbk3.out 0; have hc3 := blk_cell hbk3.out 1)
    | (go_at_call 12; (refine (refNewC a0_0 a0_1 N n HN.out Hn.out lN ln w3 (fun k => w3.heap.size + 1 < k) (by omega) (by omega)).mono ?_); rintro e w4 ⟨rfl, HR, HB4, hs4⟩; have HF := Aside0.mk (Fi.mk (below_step HBc.out HB4.out) (pr_new HP.out (Below.refl _ _) HR.out HB4.out hs4) hw2 (Nat.le_refl _) (Nat.lt_succ_self _)); have hbk5 := (HB4.out.block w.heap.size (blk_lt hbk3.out)).trans hbk3.out; have hc4 := blk_cell hbk5 0; have hc5 := blk_cell hbk5 1))
  have HF2 : Aside0 (∃ L, L.length = N ∧ Fi w w4 w2.heap.size w3.heap.size w3.heap.size (w3.heap.size + 1) n L) := ⟨_, List.length_replicate, HF.out⟩
  clear HB hbk hc0 hc1 HP HB3 HBc hbk3 hc2 hc3 HR HB4 hs4 HF hbk5 hc4 hc5 hw2 HN Hn
  generalize w2.heap.size = lo at *
  generalize w3.heap.size = g at *
  go_wp2
  go_loopw [9] (fun v9 wr => ∃ i : Nat, (i : Int) ≤ (l1.length : Int) ∧ v9 = .int .i64 (i : Int) ∧ Aside0 (∃ L, L.length = N ∧ Fi w wr lo g g (g + 1) n L)) (fun v9 _ => l1.length - (intOf v9).toNat)
  case atStart => exact ⟨0, by omega, rfl, HF2⟩
  case round =>
    clear HF2
    obtain ⟨i, hi, rfl, HF⟩ := hrel
    by_cases c : (i : Int) < (l1.length : Int)
    · have cN : i < l1.length := by omega
      obtain ⟨ad, B, c3, e1, hx, hy, hz, hcc, hC⟩ := at_deed R1.out i cN
      cases e1
      have hm := G1.out i cN
      generalize l1.getD i (0, 0, []) = y at *
      obtain ⟨d, l, xs⟩ := y
      obtain ⟨L, hL, hF⟩ := HF.out
      replace hx := (hF.bel.cell (World.block_lt_of_cell? w _ hx)).trans hx
      replace hy := (hF.bel.cell (World.block_lt_of_cell? w _ hy)).trans hy
      replace hz := (hF.bel.cell (World.block_lt_of_cell? w _ hz)).trans hz
      have HF3 := Aside0.mk hF
      have HL := Aside0.mk hL
      have HCx := Aside0.mk (deed_C hC hF.bel hF.bel2)
      clear hF hL hC HF
      go_wp2_with (first | (go_at_call 13; (refine (doC HF3.out.pr d l B c3 xs HCx.out hcc hm).mono ?_); rintro e w5 ⟨rfl, L', hL', HP, HO⟩; have HF4 : Aside0 (∃ L, L.length = N ∧ Fi w w5 lo g g (g + 1) n L) := ⟨L', hL'.trans HL.out, HF3.out.step HP.out HO.out⟩; clear HF3 HP HO))
      go_roundw
      case rel => exact ⟨i + 1, by omega, rfl, HF4⟩
      case measure => simp [intOf]; omega
    · obtain ⟨L, hL, hF⟩ := HF.out
      obtain ⟨A, c7, vs, hI⟩ := hF.pr.hm
      obtain ⟨hg0, hg1⟩ := hI.cells
      have HF3 := Aside0.mk hF
      have HL := Aside0.mk hL
      have HI := Aside0.mk hI
      have HC5 := Aside0.mk (Below.refl wr.heap.size wr)
      clear hF hL hI HF
      go_upto_region 13 with (fail)
      have hgl : g < wr.heap.size := World.block_lt_of_cell? wr _ hg0
      have hll : L.length ≤ 200 := HI.out.ll
      go_cut [10, 11] from 59 (fun v10 v11 wx => ∃ lo2 hi2 hk kk ok2, v10 = .pointer (some ⟨lo2, 0, none⟩) ∧ v11 = .pointer (some ⟨hk, 0, none⟩) ∧ Aside0 (Fo w wx lo g g (g + 1) lo2 hi2 hk kk n wr.heap.size ok2 L L))
      case first =>
        go_region_held3 (fun W' => W'.cell? ⟨g, 0, none⟩ = some (.int .i64 (n : Int)) ∧ W'.cell? ⟨g, 1, none⟩ = some (.slice A L.length c7))
          (first | go_keep | exact ⟨(HC5.out.cell hgl).trans hg0, (HC5.out.cell hgl).trans hg1⟩)
          (first
          | (go_at_call 14; (refine (copyC (HF3.out.pr.hp.below ?hb)).mono ?_); (case hb => (first | exact below_drew HC5.out | exact HC5.out | exact below_alloc HC5.out _ | exact below_drew (below_alloc HC5.out _))); rintro e w5 ⟨rfl, HQ, HBq⟩; have HC5 : Aside0 (Below wr.heap.size wr w5) := ⟨by (first | exact below_step (below_drew HC5.out) HBq.out | exact below_step HC5.out HBq.out | exact below_step (below_drew (below_alloc HC5.out _)) HBq.out | exact below_step (below_alloc HC5.out _) HBq.out)⟩)
          | (apply vec_step (s := .const (.slice none 0 0)) (x := .tmp 68) (m := L.length) (L := L) (vs := vs); (case h => (first | exact HI.out.move (fun k _ hl => (below_drew HC5.out).block k hl) | exact HI.out.move (fun k _ hl => HC5.out.block k hl))); (case hgd => rfl); (case ho => rfl); (case hs => rfl); (case hx => rfl); (case hm => rfl); (intro A8 c8 w6 HV HBv; have HC5 : Aside0 (Below wr.heap.size wr w6) := ⟨by (first | exact below_step (below_drew HC5.out) HBv.out | exact below_step HC5.out HBv.out)⟩))
          | fail)
        all_goals (
          have hqs : g + 1 < wr.heap.size := HF3.out.pr.hfr _ (Nat.le_refl _)
          have hbo := below_alloc HC5.out (.cells #[.int .i64 (n : Int), .slice A8 L.length c8] 45 (0, 0))
          obtain ⟨kk, hPr, hkk⟩ := mkPr HI.out hbo (HQ.out.below (below_alloc HBv.out (.cells #[.int .i64 (n : Int), .slice A8 L.length c8] 45 (0, 0)))) (Nat.le_refl _) (blk_new w6 (.cells #[.int .i64 (n : Int), .slice A8 L.length c8] 45 (0, 0))) rfl HC5.out.size (fun h => Nat.not_lt.2 HBv.out.size h.2) HBq.out.size (HV.out.below (below_alloc (Below.refl _ w6) (.cells #[.int .i64 (n : Int), .slice A8 L.length c8] 45 (0, 0)))) (Nat.le_refl _) (Nat.lt_succ_self g) w.heap.size (by have h1 := HF3.out.w0s; have h2 := HF3.out.pr.hp.lo_le; omega) hqs
          have HO := Aside0.mk (Fo.mk (below_step HF3.out.bel hbo) (HF3.out.pr.hp.below hbo) (HI.out.until hbo) hPr rfl HF3.out.w0s HF3.out.bel.size (Nat.le_refl _) (Nat.lt_succ_self _) hqs (Nat.le_refl _) hkk)
          clear hqs hbo hPr hkk HF3 HI HC5 HQ HBv HV HBq hg0 hg1 hgl hll
          go_wp2
          go_meet
          case rel => exact ⟨_, _, _, _, _, rfl, rfl, HO⟩)
      case rest =>
        obtain ⟨lo2, hi2, hk, kk, ok2, rfl, rfl, HO⟩ := hcut
        generalize wr.heap.size = s at *
        clear HF3 HI HC5 hg0 hg1 hgl
        have HO2 : Aside0 (∃ L2, Fo w wc lo g g (g + 1) lo2 hi2 hk kk n s ok2 L L2) := ⟨_, HO.out⟩
        clear HO
        go_wp2
        go_loopw [12] (fun v12 wt => ∃ j : Nat, (j : Int) ≤ (l2.length : Int) ∧ v12 = .int .i64 (j : Int) ∧ Aside0 (∃ L2, Fo w wt lo g g (g + 1) lo2 hi2 hk kk n s ok2 L L2)) (fun v12 _ => l2.length - (intOf v12).toNat)
        case atStart => exact ⟨0, by omega, rfl, HO2⟩
        case round =>
          clear HO2
          obtain ⟨j, hj, rfl, HF⟩ := hrel
          by_cases cj : (j : Int) < (l2.length : Int)
          · have cN : j < l2.length := by omega
            obtain ⟨ad, B, c3, e1, hx, hy, hz, hcc, hC⟩ := at_deed R2.out j cN
            cases e1
            have hm := G2.out j cN
            generalize l2.getD j (0, 0, []) = y at *
            obtain ⟨d, l, xs⟩ := y
            obtain ⟨L2, hF⟩ := HF.out
            replace hx := (hF.bel.cell (World.block_lt_of_cell? w _ hx)).trans hx
            replace hy := (hF.bel.cell (World.block_lt_of_cell? w _ hy)).trans hy
            replace hz := (hF.bel.cell (World.block_lt_of_cell? w _ hz)).trans hz
            have HF3 := Aside0.mk hF
            have HCx := Aside0.mk (deed_C hC hF.bel hF.bel2)
            clear hF hC HF
            go_wp2_with (first | (go_at_call 13; (refine (doC HF3.out.pr d l B c3 xs HCx.out hcc hm).mono ?_); rintro e w5 ⟨rfl, L', hL', HP, HO⟩; have HF4 : Aside0 (∃ L2, Fo w w5 lo g g (g + 1) lo2 hi2 hk kk n s ok2 L L2) := ⟨L', HF3.out.step HP.out HO.out hL'⟩; clear HF3 HP HO))
            go_roundw
            case rel => exact ⟨j + 1, by omega, rfl, HF4⟩
            case measure => simp [intOf]; omega
          · obtain ⟨L2, hF⟩ := HF.out
            obtain ⟨b, hb⟩ : ∃ b, sameL L L2 = b := ⟨_, rfl⟩
            have HF3 := Aside0.mk hF
            have Hb := Aside0.mk hb
            clear hF HF hb
            go_wp2_with (first
              | (go_at_call 15; (first
                | (refine (sameNC HF3.out.hp HF3.out.pr.hp b Hb.out).mono ?_; rintro e w7 ⟨rfl, HB7⟩; have HF7 := Aside0.mk (HF3.out.below HB7.out); clear HF3)
                | (refine (sameNC HF8.out.hp HF8.out.hp true (sameL_refl _)).mono ?_; rintro e w9 ⟨rfl, HB9⟩; have HF9 := Aside0.mk (HF8.out.below HB9.out); clear HF8)))
              | (go_at_call 16; (refine (samePlainC HF7.out.hm HF7.out.pr.hm HF7.out.len.symm b Hb.out).mono ?_); rintro e w8 ⟨rfl, HB8⟩; have HF8 := Aside0.mk (HF7.out.below HB8.out); clear HF7))
            go_ret
            exact ⟨rfl, HF9.out.bel⟩
end Go.Proofs.Ytanfpjlcpcfjoaa.M
