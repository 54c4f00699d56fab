/- A chip: operate; by hand. -/
import Derived.Test.YtmddafefdleimaaK
import Derived.WalkMore
import Derived.ScopeJumps
namespace Go.Proofs.Ytmddafefdleimaa.M
open Go.RowKit Go.Proofs.YtmddafefdleimaaW.PrintWords Go.Proofs.YtmddafefdleimaaW.PrintLast Go.Proofs.YtmddafefdleimaaW.PrintMore Go.Proofs.Ytmddafefdleimaa.Rw Go.Proofs.Ytmddafefdleimaa.Fl Go.Maps
set_option linter.unusedVariables false
set_option linter.unusedSimpArgs false
/-- what does not belong to the chip is as it was -/
structure Fm (base : Nat) (own : Nat → Tag) (w W : World) : Prop where
  bel : Below base w W
  out : ∀ k, k < w.heap.size → own k = .out → W.heap[k]? = w.heap[k]?
theorem Fm.refl (base : Nat) (own : Nat → Tag) (w : World) : Fm base own w w := ⟨Below.refl _ _, fun _ _ _ => rfl⟩
theorem Fm.trans {base : Nat} {own : Nat → Tag} {w W V : World} (h : Fm base own w W) (h2 : Fm base own W V) : Fm base own w V :=
  ⟨Below.trans h.bel h2.bel, fun k hk ho => (h2.out k (Nat.lt_of_lt_of_le hk h.bel.size) ho).trans (h.out k hk ho)⟩
theorem Fm.below {base : Nat} {own : Nat → Tag} {w W : World} (hb : Below w.heap.size w W) (hl : base ≤ w.heap.size) : Fm base own w W := ⟨hb.mono hl, fun k hk _ => hb.block k hk⟩
theorem Fm.put {base : Nat} {own : Nat → Tag} {w W : World} (h : Fm base own w W) {p : Addr} (hp : own p.block ≠ .out) (hl : base ≤ p.block) (u : Value) : Fm base own w (W.setCell p u) :=
  ⟨h.bel.setCell hl u, fun k hk ho => (Below.heap_setCell W p u k (fun e => hp (e ▸ ho))).trans (h.out k hk ho)⟩
theorem Fm.new {base : Nat} {own : Nat → Tag} {w W : World} (h : Fm base own w W) {p : Addr} (hp : w.heap.size ≤ p.block) (hl : base ≤ w.heap.size) (u : Value) : Fm base own w (W.setCell p u) :=
  ⟨h.bel.setCell (Nat.le_trans hl hp) u, fun k hk ho => (Below.heap_setCell W p u k (fun e => by omega)).trans (h.out k hk ho)⟩
section
variable {base : Nat} {w W1 : World} {s : Ch}
theorem wfi {n : Int} (h : 0 ≤ n) (h2 : n ≤ 1000000) : (Lit.int .i64 n).wf = true := Go.WalkArith.wf_i64 ⟨by omega, by omega⟩
theorem atCh (h : IsCh base w s) (f : F) (ok : Bool) (hf : lookF s.F s.ops = (f, ok)) : Calls Try.prog 49 #[ptr s.fq, .int .i64 s.ops] w fun e w' => e = .returned (.tuple #[.agg #[.int .i64 f.1, .int .i64 f.2.1, .int .i64 f.2.2], .bool ok]) ∧ Aside0 (Below w.heap.size w w') := by
  obtain ⟨w0, hI⟩ := h.isF
  exact (atFC hI s.ops (wfi h.bops.1 h.bops.2) f ok hf).mono fun e w' ⟨he, hb⟩ => ⟨he, ⟨hb⟩⟩
set_option maxHeartbeats 1600000 in
theorem operateDark (h : IsCh base w s) (hd : s.dark = true) (v1 v2 : Value) : Calls Try.prog 32 #[ptr s.c, v1, v2] w fun e w' => e = .returned (.int .i64 8) ∧ Aside0 (Below w.heap.size w w') := by
  obtain ⟨g0, g1, g2, g3, g4, g5, g6, g7, g8, gf⟩ := h.ccells
  rw [hd] at g8
  have hl : s.c < w.heap.size := blk_lt h.hc
  have HB := Aside0.mk (below_alloc (Below.refl w.heap.size w) (.cells #[.int .i64 0, .int .i64 0, .int .i64 0] 42 (0, 0)))
  generalize s.c = c at *
  clear h hd gf g0 g1 g2 g3 g4 g5 g6 g7
  go_enter Try.func32, Try.ntmps32
  go_wp2
  go_step3
  go_wp2
  try rw [Exit.noGoto_ret]
  go_ret
  exact ⟨rfl, HB⟩
/-- a scope that is left by a goto ahead, or not at all -/
theorem wp_scope_fwd {P : Program} {a : Act} {w : World} {Q : Exit → Act → World → Prop} {c rest : Code} (l : Nat) (hf : findLabel c l = some rest)
    (first : c.wp P (Exit.jump l (fun a w => rest.wp P (Exit.jump l (fun _ _ => False) Q) a w) Q) a w) : (Code.scope c).wp P Q a w :=
  wp_scope_jumps l _ (fun _ _ => 0) hf first fun a w h => Code.wp_mono (fun e a w hq => by
    cases e with
    | goto l' => exact absurd hq.2 id
    | _ => exact hq) h
def Refuses (m : Int) : Prop := m = 1 ∨ m = 3 ∨ m = 5 ∨ m = 9
instance (m : Int) : Decidable (Refuses m) := by unfold Refuses; infer_instance
/-- one more operation -/
abbrev tick (s : Ch) : Ch := { s with ops := s.ops + 1, refused := s.refused, dark := s.dark }
theorem IsCh.put {W : World} (h : IsCh base W s) (o r : Int) (d : Bool) (ho : 0 ≤ o ∧ s.ops ≤ o ∧ o ≤ 1000000) (hr : 0 ≤ r ∧ r ≤ o) (i : Nat) (v : Value)
    (hc : (#[.int .i64 s.Bn, .int .i64 s.Pn, .int .i64 s.Wn, .int .i64 s.Kn, slc s.la s.Bn s.cap, ptr s.fq, .int .i64 s.ops, .int .i64 s.refused, .bool s.dark] : Array Value).setIfInBounds i v = #[.int .i64 s.Bn, .int .i64 s.Pn, .int .i64 s.Wn, .int .i64 s.Kn, slc s.la s.Bn s.cap, ptr s.fq, .int .i64 o, .int .i64 r, .bool d]) :
    IsCh base (W.setCell ⟨s.c, i, none⟩ v) { s with ops := o, refused := r, dark := d } :=
  h.chip o r d ho hr (Nat.le_of_eq (by simp [World.setCell])) (fun k _ hk => Below.heap_setCell W ⟨s.c, i, none⟩ v k hk) (blk_put h.hc i v hc)
theorem IsCh.fmput {W w : World} (h : IsCh base W s) (hF : Fm base s.own w W) (i : Nat) (v : Value) : Fm base s.own w (W.setCell ⟨s.c, i, none⟩ v) := hF.put (p := ⟨s.c, i, none⟩) (by show s.own s.c ≠ .out; rw [h.oc]; decide) (h.low s.c (by rw [h.oc]; decide)) v
set_option maxHeartbeats 3200000 in
set_option maxRecDepth 100000 in
theorem operateNo (h : IsCh base w s) (hbase : base ≤ w.heap.size) (hd : s.dark = false) (ho : s.ops < 1000000) (k1 k2 : Nat) (c1 c2 : Array Value) (m : Int) (hm : m ≠ 0)
    (hk1 : ∀ W, Sem.run Try.prog (callFunc k1 c1) W = .ok (.enter k1 c1) W)
    (H1 : ∀ W, Fm base s.own w W → IsCh base W (tick s) → Calls Try.prog k1 c1 W fun e w' => e = .returned (.int .i64 m) ∧ Aside0 (Below W.heap.size W w')) :
    Calls Try.prog 32 #[ptr s.c, .func (.func k1) #[] c1, .func (.func k2) #[] c2] w fun e w' => e = .returned (.int .i64 m) ∧ Aside0 (IsCh base w' { s with ops := s.ops + 1, refused := s.refused + (if Refuses m then 1 else 0), dark := s.dark }) ∧ Aside0 (Fm base s.own w w') := by
  obtain ⟨g0, g1, g2, g3, g4, g5, g6, g7, g8, gf⟩ := h.ccells
  rw [hd] at g8
  obtain ⟨f, ok, hf⟩ : ∃ f ok, lookF s.F s.ops = (f, ok) := ⟨_, _, rfl⟩
  have hbb := below_alloc (Below.refl w.heap.size w) (.cells #[.int .i64 0, .int .i64 0, .int .i64 0] 42 (0, 0))
  have hnew := blk_new w (.cells #[.int .i64 0, .int .i64 0, .int .i64 0] 42 (0, 0))
  have hI1 := h.below hbb
  have HA := Aside0.mk (fun W (hW : Below w.heap.size w W) => atCh (h.below hW) f ok hf)
  have HB := Aside0.mk hbb
  have HN := Aside0.mk hnew
  have H0 := Aside0.mk h
  have HH1 := Aside0.mk H1
  have HM := Aside0.mk hm
  have hlt : s.c < w.heap.size := blk_lt h.hc
  have hopb := h.bops
  have hrfb := h.bref
  have HC := Aside0.mk (rfl : s.c = s.c)
  obtain ⟨c, hc⟩ : ∃ c, s.c = c := ⟨_, rfl⟩
  obtain ⟨fq, hfq⟩ : ∃ c, s.fq = c := ⟨_, rfl⟩
  obtain ⟨ops, hops⟩ : ∃ c, s.ops = c := ⟨_, rfl⟩
  rw [hc] at g0 g1 g2 g3 g4 g5 g6 g7 g8 gf hlt ⊢
  rw [hfq] at g5 HA
  rw [hops] at g6 HA
  have HCc := Aside0.mk hc
  have HOp := Aside0.mk hops
  clear h hbb hnew hI1 H1 hm hf HC g0 g1 g2 g3 g4
  clear hc hfq hops
  go_enter Try.func32, Try.ntmps32
  go_wp2
  refine wp_scope_fwd 0 rfl ?_
  go_upto_region 5 with (fail)
  have hne1 : ¬ c = w.heap.size := Nat.ne_of_lt hlt
  have hne2 : ¬ w.heap.size = c := (Nat.ne_of_lt hlt).symm
  have hBd := HB.out.drew
  have HBd := Aside0.mk hBd
  clear hBd
  go_region_held3 (fun W' => W'.cell? ⟨c, 5, none⟩ = some (ptr fq) ∧ W'.cell? ⟨c, 6, none⟩ = some (.int .i64 ops))
    (first | go_keep | exact hkp | fail)
    (first
    | (go_at_call 49; (refine (HA.out _ HBd.out).mono ?_); rintro e w3 ⟨rfl, HB3⟩; have HB4 := Aside0.mk (below_step HBd.out HB3.out); have hb3 := (HB3.out.block w.heap.size (blk_lt HN.out)).trans HN.out; have HN3 := Aside0.mk hb3; have z0 := blk_cell hb3 0; have z1 := blk_cell hb3 1; have z2 := blk_cell hb3 2; have y0 := blk_frozen hb3 0; have y1 := blk_frozen hb3 1; have y2 := blk_frozen hb3 2; have hkp : w3.cell? ⟨c, 5, none⟩ = some (ptr fq) ∧ w3.cell? ⟨c, 6, none⟩ = some (.int .i64 ops) := ⟨(HB4.out.cell hlt).trans g5, (HB4.out.cell hlt).trans g6⟩; clear hb3)
    | fail)
  have hI5 : IsCh base (((w3.setCell ⟨w.heap.size, 0, none⟩ (.int .i64 f.1)).setCell ⟨w.heap.size, 1, none⟩ (.int .i64 f.2.1)).setCell ⟨w.heap.size, 2, none⟩ (.int .i64 f.2.2)) s :=
    (((H0.out.below HB4.out).far (p := ⟨w.heap.size, 0, none⟩) (H0.out.new _ (Nat.le_refl _)) _).far (p := ⟨w.heap.size, 1, none⟩) (H0.out.new _ (Nat.le_refl _)) _).far (p := ⟨w.heap.size, 2, none⟩) (H0.out.new _ (Nat.le_refl _)) _
  have hF5 : Fm base s.own w (((w3.setCell ⟨w.heap.size, 0, none⟩ (.int .i64 f.1)).setCell ⟨w.heap.size, 1, none⟩ (.int .i64 f.2.1)).setCell ⟨w.heap.size, 2, none⟩ (.int .i64 f.2.2)) :=
    (((Fm.below HB4.out hbase).new (p := ⟨w.heap.size, 0, none⟩) (Nat.le_refl _) hbase _).new (p := ⟨w.heap.size, 1, none⟩) (Nat.le_refl _) hbase _).new (p := ⟨w.heap.size, 2, none⟩) (Nat.le_refl _) hbase _
  have hN5 := blk_put (blk_put (blk_put HN3.out 0 (.int .i64 f.1) rfl) 1 (.int .i64 f.2.1) rfl) 2 (.int .i64 f.2.2) rfl
  clear HB3 HB4 HN3 z0 z1 z2 y0 y1 y2 hkp HBd HB HN HA g5 g6 g7 g8 gf
  generalize (((w3.setCell ⟨w.heap.size, 0, none⟩ (.int .i64 f.1)).setCell ⟨w.heap.size, 1, none⟩ (.int .i64 f.2.1)).setCell ⟨w.heap.size, 2, none⟩ (.int .i64 f.2.2)) = W5 at *
  have hI6 := hI5.put (s.ops + 1) s.refused s.dark (by omega) (by omega) 6 (.int .i64 (s.ops + 1)) rfl
  have hF6 := hI5.fmput hF5 6 (.int .i64 (s.ops + 1))
  obtain ⟨-, -, -, -, -, -, g6, -, -, gf⟩ := hI5.ccells
  have HC6 := Aside0.mk (HH1.out _ hF6 hI6)
  have hb6 := (World.setCell W5 ⟨s.c, 6, none⟩ (.int .i64 (s.ops + 1))).heap
  rw [HCc.out] at HC6 g6 gf hI6 hF6
  have hopb2 : s.ops + 1 ≤ 1000000 := by omega
  rw [HOp.out] at HC6 g6 hI6 hF6 hopb hopb2
  have HI6 := Aside0.mk hI6
  have HF6 := Aside0.mk hF6
  clear hI5 hF5 hI6 hF6 hrfb HH1 hne1 hne2 hlt ho
  have HL7 : Aside0 (base ≤ w.heap.size) := ⟨hbase⟩
  clear hbase hd
  have hmb : (m != 0) = true := bne_iff_ne.2 HM.out
  go_wp2_with (first | ((with_reducible refine HC6.out.mono ?_); rintro e w7 ⟨rfl, HB7⟩))
  have hI7 := HI6.out.below HB7.out
  have HF7 := Aside0.mk (HF6.out.trans (Fm.below HB7.out (Nat.le_trans HL7.out HF6.out.bel.size)))
  obtain ⟨-, -, -, -, -, -, -, h7, -, hf7⟩ := hI7.ccells
  have HI7 := Aside0.mk hI7
  have hr7 : 0 ≤ s.refused ∧ s.refused ≤ ops + 1 := hI7.bref
  clear hI7 HB7 HI6 HF6 HC6 g6 gf hN5 hb6
  go_step3
  refine ⟨rfl, ?_⟩
  show Code.wp _ _ _ _ _
  by_cases hr : Refuses m
  · have HR := Aside0.mk hr
    rcases hr with rfl | rfl | rfl | rfl
    all_goals (
      go_wp2
      simp only [Exit.jump]
      go_ret
      refine ⟨rfl, ⟨?_⟩, ⟨?_⟩⟩
      · rw [if_pos HR.out, HOp.out]
        exact HI7.out.put (ops + 1) (s.refused + 1) s.dark ⟨by show 0 ≤ ops + 1; omega, by show ops + 1 ≤ ops + 1; omega, hopb2⟩ ⟨by omega, by have := H0.out.bref; rw [HOp.out] at this; omega⟩ 7 (.int .i64 (s.refused + 1)) rfl
      · exact HI7.out.fmput HF7.out 7 (.int .i64 (s.refused + 1)))
  · have HR := Aside0.mk hr
    have e1 : (m == 1) = false := beq_eq_false_iff_ne.2 (fun e => hr (.inl e))
    have e2 : (m == 3) = false := beq_eq_false_iff_ne.2 (fun e => hr (.inr (.inl e)))
    have e3 : (m == 5) = false := beq_eq_false_iff_ne.2 (fun e => hr (.inr (.inr (.inl e))))
    have e4 : (m == 9) = false := beq_eq_false_iff_ne.2 (fun e => hr (.inr (.inr (.inr e))))
    clear hr
    go_wp2
    simp only [Exit.jump]
    go_ret
    refine ⟨rfl, ⟨?_⟩, HF7⟩
    rw [if_neg HR.out, HOp.out, Int.add_zero]
    exact HI7.out
set_option maxHeartbeats 3200000 in
set_option maxRecDepth 100000 in
theorem operateYes (h : IsCh base w s) (hbase : base ≤ w.heap.size) (hd : s.dark = false) (ho : s.ops < 1000000) (k1 k2 : Nat) (c1 c2 : Array Value) (f : F) (ok : Bool) (hf : lookF s.F s.ops = (f, ok)) (r : Int) (hr : r = 0 ∨ r = 6 ∨ r = 7) (hcut : f.2.1 ≠ 2 ∨ r ≠ 0) (R : Ch → Prop)
    (hk1 : ∀ W, Sem.run Try.prog (callFunc k1 c1) W = .ok (.enter k1 c1) W) (hk2 : ∀ v W, Sem.run Try.prog (callFunc k2 (#[v] ++ c2)) W = .ok (.enter k2 (#[v] ++ c2)) W)
    (H1 : ∀ W, Fm base s.own w W → IsCh base W (tick s) → Calls Try.prog k1 c1 W fun e w' => e = .returned (.int .i64 0) ∧ Aside0 (Below W.heap.size W w'))
    (H2 : ∀ W, Fm base s.own w W → IsCh base W (tick s) → Calls Try.prog k2 (#[.agg #[.int .i64 f.1, .int .i64 f.2.1, .int .i64 f.2.2]] ++ c2) W fun e w' => e = .returned (.int .i64 r) ∧ ∃ s2, R s2 ∧ Aside0 (IsCh base w' s2) ∧ Aside0 (Fm base s.own W w')) :
    Calls Try.prog 32 #[ptr s.c, .func (.func k1) #[] c1, .func (.func k2) #[] c2] w fun e w' => e = .returned (.int .i64 r) ∧ ∃ s2, R s2 ∧ Aside0 (IsCh base w' s2) ∧ Aside0 (Fm base s.own w w') := by
  obtain ⟨g0, g1, g2, g3, g4, g5, g6, g7, g8, gf⟩ := h.ccells
  rw [hd] at g8
  have hbb := below_alloc (Below.refl w.heap.size w) (.cells #[.int .i64 0, .int .i64 0, .int .i64 0] 42 (0, 0))
  have hnew := blk_new w (.cells #[.int .i64 0, .int .i64 0, .int .i64 0] 42 (0, 0))
  have hI1 := h.below hbb
  have HA := Aside0.mk (fun W (hW : Below w.heap.size w W) => atCh (h.below hW) f ok hf)
  have HB := Aside0.mk hbb
  have HN := Aside0.mk hnew
  have H0 := Aside0.mk h
  have HH1 := Aside0.mk H1
  have HH2 := Aside0.mk H2
  have HCut := Aside0.mk hcut
  have hlt : s.c < w.heap.size := blk_lt h.hc
  have hopb := h.bops
  have hrfb := h.bref
  have HC := Aside0.mk (rfl : s.c = s.c)
  obtain ⟨c, hc⟩ : ∃ c, s.c = c := ⟨_, rfl⟩
  obtain ⟨fq, hfq⟩ : ∃ c, s.fq = c := ⟨_, rfl⟩
  obtain ⟨ops, hops⟩ : ∃ c, s.ops = c := ⟨_, rfl⟩
  rw [hc] at g0 g1 g2 g3 g4 g5 g6 g7 g8 gf hlt ⊢
  rw [hfq] at g5 HA
  rw [hops] at g6 HA
  have HCc := Aside0.mk hc
  have HOp := Aside0.mk hops
  clear h hbb hnew hI1 H1 H2 hcut hf HC g0 g1 g2 g3 g4
  clear hc hfq hops
  go_enter Try.func32, Try.ntmps32
  go_wp2
  refine wp_scope_fwd 0 rfl ?_
  go_upto_region 5 with (fail)
  have hne1 : ¬ c = w.heap.size := Nat.ne_of_lt hlt
  have hne2 : ¬ w.heap.size = c := (Nat.ne_of_lt hlt).symm
  have hBd := HB.out.drew
  have HBd := Aside0.mk hBd
  clear hBd
  go_region_held3 (fun W' => W'.cell? ⟨c, 5, none⟩ = some (ptr fq) ∧ W'.cell? ⟨c, 6, none⟩ = some (.int .i64 ops))
    (first | go_keep | exact hkp | fail)
    (first
    | (go_at_call 49; (refine (HA.out _ HBd.out).mono ?_); rintro e w3 ⟨rfl, HB3⟩; have HB4 := Aside0.mk (below_step HBd.out HB3.out); have hb3 := (HB3.out.block w.heap.size (blk_lt HN.out)).trans HN.out; have HN3 := Aside0.mk hb3; have z0 := blk_cell hb3 0; have z1 := blk_cell hb3 1; have z2 := blk_cell hb3 2; have y0 := blk_frozen hb3 0; have y1 := blk_frozen hb3 1; have y2 := blk_frozen hb3 2; have hkp : w3.cell? ⟨c, 5, none⟩ = some (ptr fq) ∧ w3.cell? ⟨c, 6, none⟩ = some (.int .i64 ops) := ⟨(HB4.out.cell hlt).trans g5, (HB4.out.cell hlt).trans g6⟩; clear hb3)
    | fail)
  have hI5 : IsCh base (((w3.setCell ⟨w.heap.size, 0, none⟩ (.int .i64 f.1)).setCell ⟨w.heap.size, 1, none⟩ (.int .i64 f.2.1)).setCell ⟨w.heap.size, 2, none⟩ (.int .i64 f.2.2)) s :=
    (((H0.out.below HB4.out).far (p := ⟨w.heap.size, 0, none⟩) (H0.out.new _ (Nat.le_refl _)) _).far (p := ⟨w.heap.size, 1, none⟩) (H0.out.new _ (Nat.le_refl _)) _).far (p := ⟨w.heap.size, 2, none⟩) (H0.out.new _ (Nat.le_refl _)) _
  have hF5 : Fm base s.own w (((w3.setCell ⟨w.heap.size, 0, none⟩ (.int .i64 f.1)).setCell ⟨w.heap.size, 1, none⟩ (.int .i64 f.2.1)).setCell ⟨w.heap.size, 2, none⟩ (.int .i64 f.2.2)) :=
    (((Fm.below HB4.out hbase).new (p := ⟨w.heap.size, 0, none⟩) (Nat.le_refl _) hbase _).new (p := ⟨w.heap.size, 1, none⟩) (Nat.le_refl _) hbase _).new (p := ⟨w.heap.size, 2, none⟩) (Nat.le_refl _) hbase _
  have hN5 := blk_put (blk_put (blk_put HN3.out 0 (.int .i64 f.1) rfl) 1 (.int .i64 f.2.1) rfl) 2 (.int .i64 f.2.2) rfl
  clear HB3 HB4 HN3 z0 z1 z2 y0 y1 y2 hkp HBd HB HN HA g5 g6 g7 g8 gf
  generalize (((w3.setCell ⟨w.heap.size, 0, none⟩ (.int .i64 f.1)).setCell ⟨w.heap.size, 1, none⟩ (.int .i64 f.2.1)).setCell ⟨w.heap.size, 2, none⟩ (.int .i64 f.2.2)) = W5 at *
  have hI6 := hI5.put (s.ops + 1) s.refused s.dark (by omega) (by omega) 6 (.int .i64 (s.ops + 1)) rfl
  have hF6 := hI5.fmput hF5 6 (.int .i64 (s.ops + 1))
  obtain ⟨-, -, -, -, -, -, g6, -, -, gf⟩ := hI5.ccells
  have hNe : w.heap.size ≠ s.c := by rw [HCc.out]; exact hne2
  have hN6 := blk_far hN5 (p := ⟨s.c, 6, none⟩) hNe (.int .i64 (s.ops + 1))
  obtain ⟨-, -, -, -, -, -, g6, -, -, gf⟩ := hI5.ccells
  rw [HCc.out] at g6 gf
  have hopb2 : s.ops + 1 ≤ 1000000 := by omega
  rw [HOp.out] at g6 hopb hopb2
  have HN6 := Aside0.mk hN6
  have HI6 := Aside0.mk hI6
  have HF6 := Aside0.mk hF6
  have HL7 : Aside0 (base ≤ w.heap.size) := ⟨hbase⟩
  clear hI5 hF5 hI6 hF6 hrfb hne1 hne2 hlt ho hN5 hN6 hNe hbase hd
  obtain ⟨f1, f2, f3⟩ := f
  rw [HCc.out, HOp.out] at HN6 HF6
  have HI6b := Aside0.mk HI6.out
  rw [HCc.out, HOp.out] at HI6b
  go_upto_region 7 with (fail)
  generalize hW6 : (World.setCell W5 ⟨c, 6, none⟩ (.int .i64 (ops + 1))) = W6 at *
  have HI7 : Aside0 (IsCh base W6 (tick s)) := ⟨by have := HI6.out; rw [HCc.out, HOp.out, hW6] at this; unfold tick; rw [HCc.out, HOp.out]; exact this⟩
  have HC7 := Aside0.mk (HH1.out _ HF6.out HI7.out)
  clear HI6 HI6b hW6 g6 gf HH1
  have hN6s := blk_lt HN6.out
  go_upto_region 9 with (first | ((with_reducible refine HC7.out.mono ?_); rintro e w7 ⟨rfl, HB7⟩))
  have hI8 := HI7.out.below HB7.out
  have hF8 := HF6.out.trans (Fm.below HB7.out (Nat.le_trans HL7.out HF6.out.bel.size))
  have hN8 := blk_below HN6.out HB7.out
  have z0 := (blk_cell hN8 0).trans rfl
  have z1 := (blk_cell hN8 1).trans rfl
  have z2 := (blk_cell hN8 2).trans rfl
  have HC8 := Aside0.mk (HH2.out _ hF8 hI8)
  have HF8 := Aside0.mk hF8
  have HN8 := Aside0.mk hN8
  clear hI8 hF8 hN8 HC7 HI7 HF6 HB7 HN6 HH2 hN6s
  go_upto_region 10 with (first | ((refine HC8.out.mono ?_); rintro e w9 ⟨rfl, s2, HR2, HI9, HF9⟩))
  have hN9 := (HF9.out.out _ (blk_lt HN8.out) (H0.out.new _ (Nat.le_refl _))).trans HN8.out
  have y0 := (blk_cell hN9 0).trans rfl
  have y1 := (blk_cell hN9 1).trans rfl
  have y2 := (blk_cell hN9 2).trans rfl
  have HFin := Aside0.mk (HF8.out.trans HF9.out)
  have HRR := Aside0.mk HR2
  clear z0 z1 z2 hN9 HC8 HF8 HN8 HF9 HR2
  by_cases hf2 : f2 = 2
  · have hf2b : (f2 == 2) = true := beq_iff_eq.2 hf2
    have hr0 : r ≠ 0 := HCut.out.resolve_left (fun e => e hf2)
    rcases hr with rfl | rfl | rfl
    · exact absurd rfl hr0
    all_goals (
      clear hr0
      subst hf2
      go_wp2
      go_step3
      go_wp2
      (try simp only [Exit.jump])
      go_ret
      exact ⟨rfl, s2, HRR.out, HI9, HFin⟩)
  · have hf2b : (f2 == 2) = false := beq_eq_false_iff_ne.2 hf2
    clear hf2
    rcases hr with rfl | rfl | rfl
    all_goals (
      go_wp2
      go_step3
      go_wp2
      (try simp only [Exit.jump])
      go_ret
      exact ⟨rfl, s2, HRR.out, HI9, HFin⟩)
set_option maxHeartbeats 3200000 in
set_option maxRecDepth 100000 in
theorem operateCut (h : IsCh base w s) (hbase : base ≤ w.heap.size) (hd : s.dark = false) (ho : s.ops < 1000000) (k1 k2 : Nat) (c1 c2 : Array Value) (f : F) (ok : Bool) (hf : lookF s.F s.ops = (f, ok)) (hcut : f.2.1 = 2) (R : Ch → Prop) (hR : ∀ s2, R s2 → s2.c = s.c)
    (hk1 : ∀ W, Sem.run Try.prog (callFunc k1 c1) W = .ok (.enter k1 c1) W) (hk2 : ∀ v W, Sem.run Try.prog (callFunc k2 (#[v] ++ c2)) W = .ok (.enter k2 (#[v] ++ c2)) W)
    (H1 : ∀ W, Fm base s.own w W → IsCh base W (tick s) → Calls Try.prog k1 c1 W fun e w' => e = .returned (.int .i64 0) ∧ Aside0 (Below W.heap.size W w'))
    (H2 : ∀ W, Fm base s.own w W → IsCh base W (tick s) → Calls Try.prog k2 (#[.agg #[.int .i64 f.1, .int .i64 f.2.1, .int .i64 f.2.2]] ++ c2) W fun e w' => e = .returned (.int .i64 0) ∧ ∃ s2, R s2 ∧ Aside0 (IsCh base w' s2) ∧ Aside0 (Fm base s.own W w')) :
    Calls Try.prog 32 #[ptr s.c, .func (.func k1) #[] c1, .func (.func k2) #[] c2] w fun e w' => e = .returned (.int .i64 8) ∧ ∃ s2, R s2 ∧ Aside0 (IsCh base w' { s2 with ops := s2.ops, refused := s2.refused, dark := true }) ∧ Aside0 (Fm base s.own w w') := by
  obtain ⟨g0, g1, g2, g3, g4, g5, g6, g7, g8, gf⟩ := h.ccells
  rw [hd] at g8
  have hbb := below_alloc (Below.refl w.heap.size w) (.cells #[.int .i64 0, .int .i64 0, .int .i64 0] 42 (0, 0))
  have hnew := blk_new w (.cells #[.int .i64 0, .int .i64 0, .int .i64 0] 42 (0, 0))
  have hI1 := h.below hbb
  have HA := Aside0.mk (fun W (hW : Below w.heap.size w W) => atCh (h.below hW) f ok hf)
  have HB := Aside0.mk hbb
  have HN := Aside0.mk hnew
  have H0 := Aside0.mk h
  have HH1 := Aside0.mk H1
  have HH2 := Aside0.mk H2
  have HRc := Aside0.mk hR
  have HCut := Aside0.mk hcut
  have hlt : s.c < w.heap.size := blk_lt h.hc
  have hopb := h.bops
  have hrfb := h.bref
  have HC := Aside0.mk (rfl : s.c = s.c)
  obtain ⟨c, hc⟩ : ∃ c, s.c = c := ⟨_, rfl⟩
  obtain ⟨fq, hfq⟩ : ∃ c, s.fq = c := ⟨_, rfl⟩
  obtain ⟨ops, hops⟩ : ∃ c, s.ops = c := ⟨_, rfl⟩
  rw [hc] at g0 g1 g2 g3 g4 g5 g6 g7 g8 gf hlt ⊢
  rw [hfq] at g5 HA
  rw [hops] at g6 HA
  have HCc := Aside0.mk hc
  have HOp := Aside0.mk hops
  clear h hbb hnew hI1 H1 H2 hR hcut hf HC g0 g1 g2 g3 g4
  clear hc hfq hops
  go_enter Try.func32, Try.ntmps32
  go_wp2
  refine wp_scope_fwd 0 rfl ?_
  go_upto_region 5 with (fail)
  have hne1 : ¬ c = w.heap.size := Nat.ne_of_lt hlt
  have hne2 : ¬ w.heap.size = c := (Nat.ne_of_lt hlt).symm
  have hBd := HB.out.drew
  have HBd := Aside0.mk hBd
  clear hBd
  go_region_held3 (fun W' => W'.cell? ⟨c, 5, none⟩ = some (ptr fq) ∧ W'.cell? ⟨c, 6, none⟩ = some (.int .i64 ops))
    (first | go_keep | exact hkp | fail)
    (first
    | (go_at_call 49; (refine (HA.out _ HBd.out).mono ?_); rintro e w3 ⟨rfl, HB3⟩; have HB4 := Aside0.mk (below_step HBd.out HB3.out); have hb3 := (HB3.out.block w.heap.size (blk_lt HN.out)).trans HN.out; have HN3 := Aside0.mk hb3; have z0 := blk_cell hb3 0; have z1 := blk_cell hb3 1; have z2 := blk_cell hb3 2; have y0 := blk_frozen hb3 0; have y1 := blk_frozen hb3 1; have y2 := blk_frozen hb3 2; have hkp : w3.cell? ⟨c, 5, none⟩ = some (ptr fq) ∧ w3.cell? ⟨c, 6, none⟩ = some (.int .i64 ops) := ⟨(HB4.out.cell hlt).trans g5, (HB4.out.cell hlt).trans g6⟩; clear hb3)
    | fail)
  have hI5 : IsCh base (((w3.setCell ⟨w.heap.size, 0, none⟩ (.int .i64 f.1)).setCell ⟨w.heap.size, 1, none⟩ (.int .i64 f.2.1)).setCell ⟨w.heap.size, 2, none⟩ (.int .i64 f.2.2)) s :=
    (((H0.out.below HB4.out).far (p := ⟨w.heap.size, 0, none⟩) (H0.out.new _ (Nat.le_refl _)) _).far (p := ⟨w.heap.size, 1, none⟩) (H0.out.new _ (Nat.le_refl _)) _).far (p := ⟨w.heap.size, 2, none⟩) (H0.out.new _ (Nat.le_refl _)) _
  have hF5 : Fm base s.own w (((w3.setCell ⟨w.heap.size, 0, none⟩ (.int .i64 f.1)).setCell ⟨w.heap.size, 1, none⟩ (.int .i64 f.2.1)).setCell ⟨w.heap.size, 2, none⟩ (.int .i64 f.2.2)) :=
    (((Fm.below HB4.out hbase).new (p := ⟨w.heap.size, 0, none⟩) (Nat.le_refl _) hbase _).new (p := ⟨w.heap.size, 1, none⟩) (Nat.le_refl _) hbase _).new (p := ⟨w.heap.size, 2, none⟩) (Nat.le_refl _) hbase _
  have hN5 := blk_put (blk_put (blk_put HN3.out 0 (.int .i64 f.1) rfl) 1 (.int .i64 f.2.1) rfl) 2 (.int .i64 f.2.2) rfl
  clear HB3 HB4 HN3 z0 z1 z2 y0 y1 y2 hkp HBd HB HN HA g5 g6 g7 g8 gf
  generalize (((w3.setCell ⟨w.heap.size, 0, none⟩ (.int .i64 f.1)).setCell ⟨w.heap.size, 1, none⟩ (.int .i64 f.2.1)).setCell ⟨w.heap.size, 2, none⟩ (.int .i64 f.2.2)) = W5 at *
  have hI6 := hI5.put (s.ops + 1) s.refused s.dark (by omega) (by omega) 6 (.int .i64 (s.ops + 1)) rfl
  have hF6 := hI5.fmput hF5 6 (.int .i64 (s.ops + 1))
  obtain ⟨-, -, -, -, -, -, g6, -, -, gf⟩ := hI5.ccells
  have hNe : w.heap.size ≠ s.c := by rw [HCc.out]; exact hne2
  have hN6 := blk_far hN5 (p := ⟨s.c, 6, none⟩) hNe (.int .i64 (s.ops + 1))
  obtain ⟨-, -, -, -, -, -, g6, -, -, gf⟩ := hI5.ccells
  rw [HCc.out] at g6 gf
  have hopb2 : s.ops + 1 ≤ 1000000 := by omega
  rw [HOp.out] at g6 hopb hopb2
  have HN6 := Aside0.mk hN6
  have HI6 := Aside0.mk hI6
  have HF6 := Aside0.mk hF6
  have HL7 : Aside0 (base ≤ w.heap.size) := ⟨hbase⟩
  clear hI5 hF5 hI6 hF6 hrfb hne1 hne2 hlt ho hN5 hN6 hNe hbase hd
  obtain ⟨f1, f2, f3⟩ := f
  rw [HCc.out, HOp.out] at HN6 HF6
  have HI6b := Aside0.mk HI6.out
  rw [HCc.out, HOp.out] at HI6b
  go_upto_region 7 with (fail)
  generalize hW6 : (World.setCell W5 ⟨c, 6, none⟩ (.int .i64 (ops + 1))) = W6 at *
  have HI7 : Aside0 (IsCh base W6 (tick s)) := ⟨by have := HI6.out; rw [HCc.out, HOp.out, hW6] at this; unfold tick; rw [HCc.out, HOp.out]; exact this⟩
  have HC7 := Aside0.mk (HH1.out _ HF6.out HI7.out)
  clear HI6 HI6b hW6 g6 gf HH1
  have hN6s := blk_lt HN6.out
  go_upto_region 9 with (first | ((with_reducible refine HC7.out.mono ?_); rintro e w7 ⟨rfl, HB7⟩))
  have hI8 := HI7.out.below HB7.out
  have hF8 := HF6.out.trans (Fm.below HB7.out (Nat.le_trans HL7.out HF6.out.bel.size))
  have hN8 := blk_below HN6.out HB7.out
  have z0 := (blk_cell hN8 0).trans rfl
  have z1 := (blk_cell hN8 1).trans rfl
  have z2 := (blk_cell hN8 2).trans rfl
  have HC8 := Aside0.mk (HH2.out _ hF8 hI8)
  have HF8 := Aside0.mk hF8
  have HN8 := Aside0.mk hN8
  clear hI8 hF8 hN8 HC7 HI7 HF6 HB7 HN6 HH2 hN6s
  go_upto_region 10 with (first | ((refine HC8.out.mono ?_); rintro e w9 ⟨rfl, s2, HR2, HI9, HF9⟩))
  have hN9 := (HF9.out.out _ (blk_lt HN8.out) (H0.out.new _ (Nat.le_refl _))).trans HN8.out
  have y0 := (blk_cell hN9 0).trans rfl
  have y1 := (blk_cell hN9 1).trans rfl
  have y2 := (blk_cell hN9 2).trans rfl
  have HFin := Aside0.mk (HF8.out.trans HF9.out)
  have HRR := Aside0.mk HR2
  clear z0 z1 z2 hN9 HC8 HF8 HN8 HF9 HR2
  have hc2 : s2.c = c := (HRc.out s2 HRR.out).trans HCc.out
  obtain ⟨-, -, -, -, -, -, -, -, g8, gf⟩ := HI9.out.ccells
  rw [hc2] at g8 gf
  have hcc : f2 = 2 := HCut.out
  subst hcc
  have HC2 := Aside0.mk hc2
  clear hc2
  go_wp2
  go_step3
  go_wp2
  (try simp only [Exit.jump])
  go_ret
  refine ⟨rfl, s2, HRR.out, ⟨?_⟩, ⟨?_⟩⟩
  · have h9 := HI9.out.put s2.ops s2.refused true ⟨HI9.out.bops.1, Int.le_refl _, HI9.out.bops.2⟩ HI9.out.bref 8 (.bool true) rfl
    rw [HC2.out] at h9
    rw [HC2.out]; exact h9
  · have h9 : base ≤ s2.c ∧ s.own s2.c ≠ .out := by rw [HC2.out, ← HCc.out]; exact ⟨H0.out.low _ (by rw [H0.out.oc]; decide), by rw [H0.out.oc]; decide⟩
    have h8 := HFin.out.put (p := ⟨s2.c, 8, none⟩) h9.2 h9.1 (.bool true)
    rw [HC2.out] at h8
    exact h8
end
end Go.Proofs.Ytmddafefdleimaa.M
