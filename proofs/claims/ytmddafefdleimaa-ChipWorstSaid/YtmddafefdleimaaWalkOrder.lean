/- The walk of ChipOrder: pages go in order. -/
import Derived.Test.YtmddafefdleimaaH
import Derived.Deep.CutRange
import Derived.Deep.CutBlock
namespace Go.Proofs.Ytmddafefdleimaa.M
open Go.RowKit Go.Proofs.YtmddafefdleimaaW.PrintWords Go.Proofs.YtmddafefdleimaaW.PrintLast Go.Proofs.YtmddafefdleimaaW.PrintMore Go.Proofs.Ytmddafefdleimaa.Rw Go.Proofs.Ytmddafefdleimaa.Fl Go.Maps
set_option linter.unusedVariables false
set_option linter.unusedSimpArgs false
theorem bounds_u8 {a : Int} (h : (Lit.int .u8 a).wf = true) : 0 ≤ a ∧ a ≤ 255 := by
  simp only [Lit.wf, Bool.and_eq_true, decide_eq_true_eq] at h
  exact h
abbrev noMk : Nat → Bool := fun x => decide ((x : Int) ∈ ([] : List Int))
theorem noMk_at (x : Nat) : noMk x = false := rfl
/-- the chip, and the law's own rows beside it -/
structure OL (w W : World) (base c sb nb : Nat) (s : Ch) (Bn Pn Wn Kn n : Nat) (nx nr : List Int) (i r : Int) : Prop where
  cs : CS w base W s
  os : OrdS s Bn Pn Wn Kn n noMk nx i r
  hc : s.c = c
  rs : Row (Value.int .u16) 40 W sb (List.replicate n 0)
  rn : Row (Value.int .i64) 3 W nb nr
  rb : W.heap[w.heap.size]? = some (.cells #[.int .i64 Bn, .int .i64 Pn, .int .i64 Wn, .int .i64 Kn] 23 (0, 0))
  os1 : s.own sb = .out
  os2 : s.own nb = .out
  os3 : s.own w.heap.size = .out
  sn : sb ≠ nb
  bn : w.heap.size ≠ nb
  nl : w.heap.size ≤ nb
section
variable {w W W1 : World} {base c sb nb : Nat} {s s1 : Ch} {Bn Pn Wn Kn n : Nat} {nx nr nx1 : List Int} {i r i1 r1 : Int}
theorem OL.below (h : OL w W base c sb nb s Bn Pn Wn Kn n nx nr i r) (hb : Below W.heap.size W W1) : OL w W1 base c sb nb s Bn Pn Wn Kn n nx nr i r :=
  ⟨h.cs.below hb, h.os, h.hc, h.rs.below hb, h.rn.below hb, blk_below h.rb hb, h.os1, h.os2, h.os3, h.sn, h.bn, h.nl⟩
theorem OL.drewN (h : OL w W base c sb nb s Bn Pn Wn Kn n nx nr i r) (m : Nat) : OL w (W.drewN m) base c sb nb s Bn Pn Wn Kn n nx nr i r := h.below (pw_below_drewN (Below.refl _ _) m)
theorem OL.step (h : OL w W base c sb nb s Bn Pn Wn Kn n nx nr i r) (hcs : CS w base W1 s1) (hc : s1.c = c) (ho : OrdS s1 Bn Pn Wn Kn n noMk nx1 i1 r1) (hF : Fm base s.own W W1) (hO : ∀ k, k < W.heap.size → s1.own k = s.own k) : OL w W1 base c sb nb s1 Bn Pn Wn Kn n nx1 nr i1 r1 :=
  ⟨hcs, ho, hc, hF.row h.rs h.os1, hF.row h.rn h.os2, (hF.out _ (blk_lt h.rb) h.os3).trans h.rb, (hO _ h.rs.lt).trans h.os1, (hO _ h.rn.lt).trans h.os2, (hO _ (blk_lt h.rb)).trans h.os3, h.sn, h.bn, h.nl⟩
theorem OL.put (h : OL w W base c sb nb s Bn Pn Wn Kn n nx nr i r) (b : Nat) (v : Int) (hv : nr.set b v = nx) : OL w (W.setCell ⟨nb, b, none⟩ (.int .i64 v)) base c sb nb s Bn Pn Wn Kn n nx nx i r :=
  ⟨h.cs.far (p := ⟨nb, b, none⟩) h.os2 h.nl _, h.os, h.hc, h.rs.far (p := ⟨nb, b, none⟩) h.sn _, hv ▸ h.rn.set b v, blk_far h.rb (p := ⟨nb, b, none⟩) h.bn _, h.os1, h.os2, h.os3, h.sn, h.bn, h.nl⟩
theorem OL.bc (h : OL w W base c sb nb s Bn Pn Wn Kn n nx nr i r) : W.cell? ⟨w.heap.size, 0, none⟩ = some (.int .i64 Bn) ∧ W.cell? ⟨w.heap.size, 1, none⟩ = some (.int .i64 Pn) := ⟨(blk_cell h.rb 0).trans rfl, (blk_cell h.rb 1).trans rfl⟩
end
theorem mk34c (n : Nat) (hn : n ≤ 1000) (W : World) : (Instr.makeSlice 34 (.int .i64 (n : Int)) (.int .i64 (n : Int))).run Try.prog W = .ok (.slice (some ⟨W.heap.size, 0, none⟩) n n) (W.alloc (.cells (Array.replicate n (.int .i64 0)) 3 (0, 0))) :=
  mk_row (P := Try.prog) (t := 34) (e := 3) (z := .int .i64 0) Try.underlying34 (bytes := 8) (by kernel_rfl) rfl n (by omega) (by omega) W
set_option maxHeartbeats 3200000 in
set_option maxRecDepth 100000 in
theorem order_walk (a0_0 : Int) (a0_1 : Int) (a0_2 : Int) (a0_3 : Int) (A1 : Option Addr) (c1 : Nat) (l1 : List ((Int) × (Int))) (w : World) (wa0_0 : (Lit.int .i64 a0_0).wf = true) (wa0_1 : (Lit.int .i64 a0_1).wf = true) (wa0_2 : (Lit.int .i64 a0_2).wf = true) (wa0_3 : (Lit.int .i64 a0_3).wf = true) (r1 : Kd.C (Kd.pair (Kd.int .u8) (Kd.int .u8)) w A1 l1.length l1) (k1 : l1.length ≤ c1) (m1 : l1.length ≤ maxLen) (y1 : l1.length * 2 ≤ 140737488351232) (g1 : ∀ y ∈ l1, ((Lit.int .u8 y.1).wf = true ∧ (Lit.int .u8 y.2).wf = true)) :
    Calls Try.prog 3 #[.agg #[.int .i64 a0_0, .int .i64 a0_1, .int .i64 a0_2, .int .i64 a0_3], .slice A1 l1.length c1] w fun e w' => e = .returned (.bool true) ∧ Below w.heap.size w w' := by
  clear wa0_0 wa0_1 wa0_2 wa0_3 m1
  have HG1 := Aside0.mk g1
  have HR1 := Aside0.mk r1
  clear g1 r1
  have HB0 := Aside0.mk (below_alloc (Below.refl w.heap.size w) (.cells #[.int .i64 a0_0, .int .i64 a0_1, .int .i64 a0_2, .int .i64 a0_3] 23 (0, 0)))
  have HN0 := Aside0.mk (blk_new w (.cells #[.int .i64 a0_0, .int .i64 a0_1, .int .i64 a0_2, .int .i64 a0_3] 23 (0, 0)))
  by_cases hM : MayG a0_0 a0_1 a0_2 a0_3
  · by_cases hS : a0_0 * a0_1 * (a0_2 * (a0_3 + 16)) ≤ 20000
    · have HMay := Aside0.mk (fun W => refMayC (a := a0_0) (b := a0_1) (c := a0_2) (d := a0_3) W true ⟨fun _ => rfl, fun _ => hM⟩)
      have HSm := Aside0.mk (fun W => smallC W hM true (decide_eq_true hS))
      by_cases hL : (100 : Int) < (l1.length : Int)
      · clear hM hS
        unfold geoV at HMay HSm
        go_enter Try.func3, Try.ntmps3
        go_wp2_with (first
          | (go_at_call 8; (refine (awakeC _).mono ?_); rintro e w1 ⟨rfl, HB1⟩; have HB2 := Aside0.mk (below_step HB0.out HB1.out); have hb1 := (HB1.out.block _ (blk_lt HN0.out)).trans HN0.out; have HN1 := Aside0.mk hb1; have d0 : w1.cell? ⟨w.heap.size, 0, none⟩ = some (.int .i64 a0_0) := (blk_cell hb1 0).trans rfl; have d1 : w1.cell? ⟨w.heap.size, 1, none⟩ = some (.int .i64 a0_1) := (blk_cell hb1 1).trans rfl; have d2 : w1.cell? ⟨w.heap.size, 2, none⟩ = some (.int .i64 a0_2) := (blk_cell hb1 2).trans rfl; have d3 : w1.cell? ⟨w.heap.size, 3, none⟩ = some (.int .i64 a0_3) := (blk_cell hb1 3).trans rfl; clear hb1)
          | (go_at_call 9; (refine (HMay.out _).mono ?_); rintro e w3 ⟨rfl, HB3⟩; have HB4 := Aside0.mk (below_step HB2.out HB3.out); have hb3 := (HB3.out.block _ (blk_lt HN1.out)).trans HN1.out; have HN3 := Aside0.mk hb3; have e0 : w3.cell? ⟨w.heap.size, 0, none⟩ = some (.int .i64 a0_0) := (blk_cell hb3 0).trans rfl; have e1 : w3.cell? ⟨w.heap.size, 1, none⟩ = some (.int .i64 a0_1) := (blk_cell hb3 1).trans rfl; have e2 : w3.cell? ⟨w.heap.size, 2, none⟩ = some (.int .i64 a0_2) := (blk_cell hb3 2).trans rfl; have e3 : w3.cell? ⟨w.heap.size, 3, none⟩ = some (.int .i64 a0_3) := (blk_cell hb3 3).trans rfl; clear hb3)
          | (go_at_call 10; (refine (HSm.out _).mono ?_); rintro e w5 ⟨rfl, HB5⟩; have HB6 := Aside0.mk (below_step HB4.out HB5.out); have hb5 := (HB5.out.block _ (blk_lt HN3.out)).trans HN3.out; have HN5 := Aside0.mk hb5; have f0 : w5.cell? ⟨w.heap.size, 0, none⟩ = some (.int .i64 a0_0) := (blk_cell hb5 0).trans rfl; have f1 : w5.cell? ⟨w.heap.size, 1, none⟩ = some (.int .i64 a0_1) := (blk_cell hb5 1).trans rfl; have f2 : w5.cell? ⟨w.heap.size, 2, none⟩ = some (.int .i64 a0_2) := (blk_cell hb5 2).trans rfl; have f3 : w5.cell? ⟨w.heap.size, 3, none⟩ = some (.int .i64 a0_3) := (blk_cell hb5 3).trans rfl; clear hb5))
        go_ret
        exact ⟨rfl, HB6.out⟩
      · obtain ⟨Bn, rfl⟩ : ∃ Bn : Nat, a0_0 = (Bn : Int) := ⟨a0_0.toNat, by have := hM.a0; omega⟩
        obtain ⟨Pn, rfl⟩ : ∃ Bn : Nat, a0_1 = (Bn : Int) := ⟨a0_1.toNat, by have := hM.b0; omega⟩
        obtain ⟨Wn, rfl⟩ : ∃ Bn : Nat, a0_2 = (Bn : Int) := ⟨a0_2.toNat, by have := hM.c0; omega⟩
        obtain ⟨Kn, rfl⟩ : ∃ Bn : Nat, a0_3 = (Bn : Int) := ⟨a0_3.toNat, by have := hM.d0; omega⟩
        obtain ⟨n, hn⟩ : ∃ n, Wn * (Kn + 16) = n := ⟨_, rfl⟩
        have hni : (Wn : Int) * ((Kn : Int) + 16) = (n : Int) := by rw [← hn]; push_cast; rfl
        have hnb : n ≤ 320 ∧ 17 ≤ n := by have := room hM; rw [hni] at this; omega
        have hBn : 4 ≤ Bn ∧ Bn ≤ 64 := by have := hM.a0; have := hM.a1; omega
        have hPn : 2 ≤ Pn ∧ Pn ≤ 32 := by have := hM.b0; have := hM.b1; omega
        have HNew := Aside0.mk (fun W => newCh Bn Pn Wn Kn n hM hn W none 0 [] (Kd.C_nil _ _) (by decide) (by decide) (fun y hy => absurd hy (Nat.not_lt_zero _)) none 0 [] (Kd.C_nil _ _) (by decide) ⟨by decide, (fun x hx => by cases hx), (by simp [Apart])⟩)
        have HCells := Aside0.mk (fun W => refCellsC (a := Bn) (b := Pn) (c := Wn) (d := Kn) W hM n hni)
        have hmk32 := mk32 n (by omega)
        have hmk34 := mk34c Bn (by omega)
        clear hM hS hn hni
        unfold geoV at HMay HSm HNew HCells
        go_enter Try.func3, Try.ntmps3
        go_upto_region 9 with (first
          | (go_at_call 8; (refine (awakeC _).mono ?_); rintro e w1 ⟨rfl, HB1⟩; have HB2 := Aside0.mk (below_step HB0.out HB1.out); have hb1 := (HB1.out.block _ (blk_lt HN0.out)).trans HN0.out; have HN1 := Aside0.mk hb1; have d0 : w1.cell? ⟨w.heap.size, 0, none⟩ = some (.int .i64 (Bn : Int)) := (blk_cell hb1 0).trans rfl; have d1 : w1.cell? ⟨w.heap.size, 1, none⟩ = some (.int .i64 (Pn : Int)) := (blk_cell hb1 1).trans rfl; have d2 : w1.cell? ⟨w.heap.size, 2, none⟩ = some (.int .i64 (Wn : Int)) := (blk_cell hb1 2).trans rfl; have d3 : w1.cell? ⟨w.heap.size, 3, none⟩ = some (.int .i64 (Kn : Int)) := (blk_cell hb1 3).trans rfl; clear hb1)
          | (go_at_call 9; (refine (HMay.out _).mono ?_); rintro e w3 ⟨rfl, HB3⟩; have HB4 := Aside0.mk (below_step HB2.out HB3.out); have hb3 := (HB3.out.block _ (blk_lt HN1.out)).trans HN1.out; have HN3 := Aside0.mk hb3; have e0 : w3.cell? ⟨w.heap.size, 0, none⟩ = some (.int .i64 (Bn : Int)) := (blk_cell hb3 0).trans rfl; have e1 : w3.cell? ⟨w.heap.size, 1, none⟩ = some (.int .i64 (Pn : Int)) := (blk_cell hb3 1).trans rfl; have e2 : w3.cell? ⟨w.heap.size, 2, none⟩ = some (.int .i64 (Wn : Int)) := (blk_cell hb3 2).trans rfl; have e3 : w3.cell? ⟨w.heap.size, 3, none⟩ = some (.int .i64 (Kn : Int)) := (blk_cell hb3 3).trans rfl; clear hb3)
          | (go_at_call 10; (refine (HSm.out _).mono ?_); rintro e w5 ⟨rfl, HB5⟩; have HB6 := Aside0.mk (below_step HB4.out HB5.out); have hb5 := (HB5.out.block _ (blk_lt HN3.out)).trans HN3.out; have HN5 := Aside0.mk hb5; have f0 : w5.cell? ⟨w.heap.size, 0, none⟩ = some (.int .i64 (Bn : Int)) := (blk_cell hb5 0).trans rfl; have f1 : w5.cell? ⟨w.heap.size, 1, none⟩ = some (.int .i64 (Pn : Int)) := (blk_cell hb5 1).trans rfl; have f2 : w5.cell? ⟨w.heap.size, 2, none⟩ = some (.int .i64 (Wn : Int)) := (blk_cell hb5 2).trans rfl; have f3 : w5.cell? ⟨w.heap.size, 3, none⟩ = some (.int .i64 (Kn : Int)) := (blk_cell hb5 3).trans rfl; clear hb5)
          | (go_at_call 11; (refine (HNew.out _).mono ?_); rintro e w7 ⟨s0, rfl, HI7, HB7, HFr⟩; have HC7 := Aside0.mk (CS.mk HI7.out (below_step HB6.out HB7.out) HB6.out.size HB7.out.size); have hb7 := (HB7.out.block _ (blk_lt HN5.out)).trans HN5.out; have HN7 := Aside0.mk hb7; have g0 : w7.cell? ⟨w.heap.size, 0, none⟩ = some (.int .i64 (Bn : Int)) := (blk_cell hb7 0).trans rfl; have g1 : w7.cell? ⟨w.heap.size, 1, none⟩ = some (.int .i64 (Pn : Int)) := (blk_cell hb7 1).trans rfl; have g2 : w7.cell? ⟨w.heap.size, 2, none⟩ = some (.int .i64 (Wn : Int)) := (blk_cell hb7 2).trans rfl; have g3 : w7.cell? ⟨w.heap.size, 3, none⟩ = some (.int .i64 (Kn : Int)) := (blk_cell hb7 3).trans rfl; clear hb7)
          | (go_at_call 12; (refine (HCells.out _).mono ?_); rintro e w9 ⟨rfl, HB9⟩; have HC9 := Aside0.mk (HC7.out.below HB9.out); have hb9 := (HB9.out.block _ (blk_lt HN7.out)).trans HN7.out; have HN9 := Aside0.mk hb9; have h0 : w9.cell? ⟨w.heap.size, 0, none⟩ = some (.int .i64 (Bn : Int)) := (blk_cell hb9 0).trans rfl; have h1 : w9.cell? ⟨w.heap.size, 1, none⟩ = some (.int .i64 (Pn : Int)) := (blk_cell hb9 1).trans rfl; have h2 : w9.cell? ⟨w.heap.size, 2, none⟩ = some (.int .i64 (Wn : Int)) := (blk_cell hb9 2).trans rfl; have h3 : w9.cell? ⟨w.heap.size, 3, none⟩ = some (.int .i64 (Kn : Int)) := (blk_cell hb9 3).trans rfl; clear hb9))
        have HO9 := Aside0.mk (OrdS.of HFr.out)
        have HOut : Aside0 (s0.own w.heap.size = .out) := ⟨Classical.byContradiction fun e => absurd (HI7.out.low _ e) (Nat.not_le_of_lt (blk_lt HN5.out))⟩
        have HL : Aside0 (OL w ((w9.alloc (.cells (Array.replicate n (.int .u16 0)) 40 (0, 0))).alloc (.cells (Array.replicate Bn (.int .i64 0)) 3 (0, 0))) w5.heap.size s0.c w9.heap.size (w9.heap.size + 1) s0 Bn Pn Wn Kn n (List.replicate Bn 0) (List.replicate Bn 0) 0 0) := by
          have h1 := made_row (enc := Value.int .u16) (t := 40) w9 n 0
          have h2 := made_row (enc := Value.int .i64) (t := 3) (w9.alloc (.cells (Array.replicate n (.int .u16 0)) 40 (0, 0))) Bn 0
          rw [World.size_alloc] at h2
          have h3 := blk_lt HN9.out
          exact ⟨⟨(HC9.out.alloc _).alloc _, HO9.out, rfl, h1.alloc _, h2, blk_alloc (blk_alloc HN9.out _) _, HC9.out.new, HC9.out.is.new _ (Nat.le_succ _), HOut.out, Nat.ne_of_lt (Nat.lt_succ_self _), Nat.ne_of_lt (Nat.lt_succ_of_lt h3), Nat.le_of_lt (Nat.lt_succ_of_lt h3)⟩⟩
        have i0 : (w9.alloc (.cells (Array.replicate n (.int .u16 0)) 40 (0, 0))).cell? ⟨w.heap.size, 0, none⟩ = some (.int .i64 (Bn : Int)) := (blk_cell (blk_alloc HN9.out _) 0).trans rfl
        clear HC9 HO9 HOut HN9 HI7 HB7 HFr HC7 HN7 HB9 HN5 HB6 HB5 HN3 HB4 HB3 HN1 HB2 HB1 HB0 HN0 HMay HSm HNew HCells d0 d1 d2 d3 e0 e1 e2 e3 f0 f1 f2 f3 g0 g1 g2 g3 h0 h1 h2 h3
        go_upto_region 10 with (fail)
        obtain ⟨cc, hcc⟩ : ∃ c, s0.c = c := ⟨_, rfl⟩
        obtain ⟨base, hba⟩ : ∃ c, w5.heap.size = c := ⟨_, rfl⟩
        obtain ⟨sb, hsb⟩ : ∃ c, w9.heap.size = c := ⟨_, rfl⟩
        rw [hcc, hba, hsb] at HL
        rw [hcc, hsb]
        obtain ⟨nb, hnbb⟩ : ∃ c, sb + 1 = c := ⟨_, rfl⟩
        rw [hnbb] at HL ⊢
        obtain ⟨W0, hW0⟩ : ∃ W0, ((w9.alloc (.cells (Array.replicate n (.int .u16 0)) 40 (0, 0))).alloc (.cells (Array.replicate Bn (.int .i64 0)) 3 (0, 0))) = W0 := ⟨_, rfl⟩
        rw [hW0] at HL ⊢
        clear hcc hba hsb hnbb hW0 i0 hmk32 hmk34
        go_wp2
        go_loopw [9, 10, 11, 12, 13] (fun v9 v10 v11 v12 v13 wr => ∃ (i : Nat) (r : Nat) (s : Ch) (nx : List Int), i ≤ l1.length ∧ r ≤ i ∧ v9 = .int .i64 (r : Int) ∧ v10 = .int .i64 (i : Int) ∧ Aside0 (OL w wr base cc sb nb s Bn Pn Wn Kn n nx nx i r)) (fun _ v10 _ _ _ _ => l1.length - (intOf v10).toNat)
        case atStart => exact ⟨0, 0, _, _, Nat.zero_le _, Nat.le_refl _, rfl, rfl, HL⟩
        case round =>
          clear HL
          obtain ⟨i, r, s, nx, hi, hri, rfl, rfl, HL⟩ := hrel
          by_cases ci : i < l1.length
          · have cii : (i : Int) < (l1.length : Int) := by omega
            have HR1w := Aside0.mk (Kd.C_below HR1.out HL.out.cs.bel)
            obtain ⟨ad, e1, hx0, hy0⟩ := at_pair HR1w.out i ci
            cases e1
            have hgm := HG1.out _ (mem_getD (0, 0) ci)
            clear HR1w
            generalize l1.getD i (0, 0) = xy at hx0 hy0 hgm
            obtain ⟨x, y⟩ := xy
            dsimp only at hx0 hy0 hgm
            obtain ⟨bx0, bx1⟩ := bounds_u8 hgm.1
            obtain ⟨by0, by1⟩ := bounds_u8 hgm.2
            obtain ⟨b, hb⟩ : ∃ b : Nat, x % (Bn : Int) = (b : Int) := ⟨(x % (Bn : Int)).toNat, by have := Int.emod_nonneg x (show (Bn : Int) ≠ 0 by omega); omega⟩
            obtain ⟨p, hp⟩ : ∃ b : Nat, y % ((Pn : Int) + 1) = (b : Int) := ⟨(y % ((Pn : Int) + 1)).toNat, by have := Int.emod_nonneg y (show (Pn : Int) + 1 ≠ 0 by omega); omega⟩
            have hbB : b < Bn := by have := Int.emod_lt_of_pos x (show (0 : Int) < (Bn : Int) by omega); omega
            have hpP : p ≤ Pn := by have := Int.emod_lt_of_pos y (show (0 : Int) < (Pn : Int) + 1 by omega); omega
            obtain ⟨d0, d1⟩ := HL.out.bc
            have htx : x.tmod (Bn : Int) = (b : Int) := by rw [Int.tmod_eq_emod_of_nonneg bx0]; exact hb
            have hty : y.tmod ((Pn : Int) + 1) = (p : Int) := by rw [Int.tmod_eq_emod_of_nonneg by0]; exact hp
            have hz1 : ((Bn : Int) == 0) = false := beq_eq_false_iff_ne.2 (by omega)
            have hz2 : (((Pn : Int) + 1) == 0) = false := beq_eq_false_iff_ne.2 (by omega)
            have hw1 : IntKind.i64.wrap ((Pn : Int) + 1) = (Pn : Int) + 1 := wrap_i64_small _ (by omega) (by omega)
            have hw2 : IntKind.i64.wrap x = x := wrap_i64_small _ (by omega) (by omega)
            have hw3 : IntKind.i64.wrap y = y := wrap_i64_small _ (by omega) (by omega)
            have hw4 : IntKind.i64.wrap (b : Int) = (b : Int) := wrap_i64_small _ (by omega) (by omega)
            have hw5 : IntKind.i64.wrap (p : Int) = (p : Int) := wrap_i64_small _ (by omega) (by omega)
            clear hgm
            go_upto_region 14 with (fail)
            go_quiet (fail)
            have HL1 := Aside0.mk (HL.out.drewN nq)
            obtain ⟨W1, hW1⟩ : ∃ W1, wr.drewN nq = W1 := ⟨_, rfl⟩
            rw [hW1] at HL1 ⊢
            clear hW1 HL hx0 hy0 htx hty hz1 hz2 hw1 hw2 hw3 hw4 hw5 d0 d1 hb hp bx0 bx1 by0 by1
            obtain ⟨d0, d1⟩ := HL1.out.bc
            have hnl := HL1.out.os.nl
            have hops : (i : Int) < 1000000 := by omega
            by_cases hpe : p = Pn
            · obtain rfl := hpe.symm
              have HE := Aside0.mk (HL1.out.os.eraseYes HL1.out.cs b hbB (noMk_at b) hops)
              rw [HL1.out.hc] at HE
              go_upto_region 18 with (first | (go_at_call 13; (refine HE.out.mono ?_); rintro e w5 ⟨rfl, s5, HC5, hc5, HO5, HF5, HW5⟩))
              have HL2 := Aside0.mk (HL1.out.step HC5.out hc5 HO5.out HF5.out HW5.out)
              have HL3 := Aside0.mk (HL2.out.put b 0 rfl)
              have hcb := HL2.out.rn.cellD 0 b (by omega)
              have hfb := HL2.out.rn.frozen b
              have hbB2 : (b : Int) < (Bn : Int) := by omega
              clear HL1 HL2 HE HC5 HO5 HF5 HW5 hpe hnl d0 d1
              go_wp2
              go_roundw
              case rel => exact ⟨i + 1, r, _, _, ci, by omega, rfl, rfl, HL3⟩
              case measure => simp [intOf]; omega
            · have hpn : p < Pn := by omega
              have hpne : ((p : Int) == (Pn : Int)) = false := beq_eq_false_iff_ne.2 (by omega)
              have hcb := HL1.out.rn.cellD 0 b (by omega)
              have hbB2 : (b : Int) < (Bn : Int) := by omega
              by_cases hq : (p : Int) = nx.getD b 0
              · have HE := Aside0.mk (HL1.out.os.progYes HL1.out.cs b p sb hbB hpn HL1.out.rs HL1.out.os1 (List.length_replicate ..) (row_reps_lt (by decide) (by decide)) (noMk_at b) hops hq)
                rw [HL1.out.hc] at HE
                have HQ := Aside0.mk hq
                clear hq
                go_upto_region 20 with (first | (go_at_call 14; (refine HE.out.mono ?_); rintro e w5 ⟨rfl, s5, HC5, hc5, HO5, HF5, HW5⟩))
                have HL2 := Aside0.mk (HL1.out.step HC5.out hc5 HO5.out HF5.out HW5.out)
                have HL3 := Aside0.mk (HL2.out.put b ((p : Int) + 1) rfl)
                have hcb2 := HL2.out.rn.cellD 0 b (by omega)
                rw [← HQ.out] at hcb2
                have hfb := HL2.out.rn.frozen b
                clear HL1 HL2 HE HC5 HO5 HF5 HW5 hnl d0 d1 hcb HQ hpe
                go_wp2
                go_roundw
                case rel => exact ⟨i + 1, r, _, _, ci, by omega, rfl, rfl, HL3⟩
                case measure => simp [intOf]; omega
              · have HE := Aside0.mk (HL1.out.os.progNo HL1.out.cs b p sb hbB hpn HL1.out.rs HL1.out.os1 (List.length_replicate ..) (row_reps_lt (by decide) (by decide)) (noMk_at b) hops hq)
                rw [HL1.out.hc] at HE
                have HQ := Aside0.mk hq
                clear hq
                go_upto_region 20 with (first | (go_at_call 14; (refine HE.out.mono ?_); rintro e w5 ⟨rfl, s5, HC5, hc5, HO5, HF5, HW5⟩))
                have HL2 := Aside0.mk (HL1.out.step HC5.out hc5 HO5.out HF5.out HW5.out)
                have hcb2 := HL2.out.rn.cellD 0 b (by omega)
                have hqf : ((p : Int) == nx.getD b 0) = false := beq_eq_false_iff_ne.2 HQ.out
                clear HQ
                generalize nx.getD b 0 = z at hcb2 hqf hcb
                clear HL1 HE HC5 HO5 HF5 HW5 hnl d0 d1 hcb hpe
                go_wp2
                go_roundw
                case rel => exact ⟨i + 1, r + 1, _, _, ci, by omega, rfl, rfl, HL2⟩
                case measure => simp [intOf]; omega
          · obtain rfl : i = l1.length := by omega
            have HP7 := Aside0.mk (HL.out.os.opsR HL.out.cs)
            have HP8 := Aside0.mk (HL.out.os.refusedR HL.out.cs)
            rw [HL.out.hc] at HP7 HP8
            go_wp2_with (first
              | (go_at_call 16; (refine HP7.out.mono ?_); rintro e w5 ⟨rfl, hw⟩; obtain rfl := hw.symm)
              | (go_at_call 15; (refine HP8.out.mono ?_); rintro e w6 ⟨rfl, hw⟩; obtain rfl := hw.symm))
            go_ret
            exact ⟨rfl, HL.out.cs.bel⟩
    · have HMay := Aside0.mk (fun W => refMayC (a := a0_0) (b := a0_1) (c := a0_2) (d := a0_3) W true ⟨fun _ => rfl, fun _ => hM⟩)
      have HSm := Aside0.mk (fun W => smallC W hM false (decide_eq_false hS))
      clear hM hS
      unfold geoV at HMay HSm
      go_enter Try.func3, Try.ntmps3
      go_wp2_with (first
          | (go_at_call 8; (refine (awakeC _).mono ?_); rintro e w1 ⟨rfl, HB1⟩; have HB2 := Aside0.mk (below_step HB0.out HB1.out); have hb1 := (HB1.out.block _ (blk_lt HN0.out)).trans HN0.out; have HN1 := Aside0.mk hb1; have d0 : w1.cell? ⟨w.heap.size, 0, none⟩ = some (.int .i64 a0_0) := (blk_cell hb1 0).trans rfl; have d1 : w1.cell? ⟨w.heap.size, 1, none⟩ = some (.int .i64 a0_1) := (blk_cell hb1 1).trans rfl; have d2 : w1.cell? ⟨w.heap.size, 2, none⟩ = some (.int .i64 a0_2) := (blk_cell hb1 2).trans rfl; have d3 : w1.cell? ⟨w.heap.size, 3, none⟩ = some (.int .i64 a0_3) := (blk_cell hb1 3).trans rfl; clear hb1)
          | (go_at_call 9; (refine (HMay.out _).mono ?_); rintro e w3 ⟨rfl, HB3⟩; have HB4 := Aside0.mk (below_step HB2.out HB3.out); have hb3 := (HB3.out.block _ (blk_lt HN1.out)).trans HN1.out; have HN3 := Aside0.mk hb3; have e0 : w3.cell? ⟨w.heap.size, 0, none⟩ = some (.int .i64 a0_0) := (blk_cell hb3 0).trans rfl; have e1 : w3.cell? ⟨w.heap.size, 1, none⟩ = some (.int .i64 a0_1) := (blk_cell hb3 1).trans rfl; have e2 : w3.cell? ⟨w.heap.size, 2, none⟩ = some (.int .i64 a0_2) := (blk_cell hb3 2).trans rfl; have e3 : w3.cell? ⟨w.heap.size, 3, none⟩ = some (.int .i64 a0_3) := (blk_cell hb3 3).trans rfl; clear hb3)
          | (go_at_call 10; (refine (HSm.out _).mono ?_); rintro e w5 ⟨rfl, HB5⟩; have HB6 := Aside0.mk (below_step HB4.out HB5.out); have hb5 := (HB5.out.block _ (blk_lt HN3.out)).trans HN3.out; have HN5 := Aside0.mk hb5; have f0 : w5.cell? ⟨w.heap.size, 0, none⟩ = some (.int .i64 a0_0) := (blk_cell hb5 0).trans rfl; have f1 : w5.cell? ⟨w.heap.size, 1, none⟩ = some (.int .i64 a0_1) := (blk_cell hb5 1).trans rfl; have f2 : w5.cell? ⟨w.heap.size, 2, none⟩ = some (.int .i64 a0_2) := (blk_cell hb5 2).trans rfl; have f3 : w5.cell? ⟨w.heap.size, 3, none⟩ = some (.int .i64 a0_3) := (blk_cell hb5 3).trans rfl; clear hb5))
      go_ret
      exact ⟨rfl, HB6.out⟩
  · have HMay := Aside0.mk (fun W => refMayC (a := a0_0) (b := a0_1) (c := a0_2) (d := a0_3) W false ⟨fun h => absurd h hM, fun h => by cases h⟩)
    clear hM
    unfold geoV at HMay
    go_enter Try.func3, Try.ntmps3
    go_wp2_with (first
          | (go_at_call 8; (refine (awakeC _).mono ?_); rintro e w1 ⟨rfl, HB1⟩; have HB2 := Aside0.mk (below_step HB0.out HB1.out); have hb1 := (HB1.out.block _ (blk_lt HN0.out)).trans HN0.out; have HN1 := Aside0.mk hb1; have d0 : w1.cell? ⟨w.heap.size, 0, none⟩ = some (.int .i64 a0_0) := (blk_cell hb1 0).trans rfl; have d1 : w1.cell? ⟨w.heap.size, 1, none⟩ = some (.int .i64 a0_1) := (blk_cell hb1 1).trans rfl; have d2 : w1.cell? ⟨w.heap.size, 2, none⟩ = some (.int .i64 a0_2) := (blk_cell hb1 2).trans rfl; have d3 : w1.cell? ⟨w.heap.size, 3, none⟩ = some (.int .i64 a0_3) := (blk_cell hb1 3).trans rfl; clear hb1)
          | (go_at_call 9; (refine (HMay.out _).mono ?_); rintro e w3 ⟨rfl, HB3⟩; have HB4 := Aside0.mk (below_step HB2.out HB3.out); have hb3 := (HB3.out.block _ (blk_lt HN1.out)).trans HN1.out; have HN3 := Aside0.mk hb3; have e0 : w3.cell? ⟨w.heap.size, 0, none⟩ = some (.int .i64 a0_0) := (blk_cell hb3 0).trans rfl; have e1 : w3.cell? ⟨w.heap.size, 1, none⟩ = some (.int .i64 a0_1) := (blk_cell hb3 1).trans rfl; have e2 : w3.cell? ⟨w.heap.size, 2, none⟩ = some (.int .i64 a0_2) := (blk_cell hb3 2).trans rfl; have e3 : w3.cell? ⟨w.heap.size, 3, none⟩ = some (.int .i64 a0_3) := (blk_cell hb3 3).trans rfl; clear hb3))
    go_ret
    exact ⟨rfl, HB4.out⟩
end Go.Proofs.Ytmddafefdleimaa.M
