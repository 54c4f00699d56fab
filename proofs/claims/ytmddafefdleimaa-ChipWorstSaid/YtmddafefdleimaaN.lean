/- A chip: New; by hand. -/
import Derived.Test.YtmddafefdleimaaR
namespace Go.Proofs.Ytmddafefdleimaa.M
open Go.RowKit Go.Proofs.YtmddafefdleimaaW.PrintWords Go.Proofs.YtmddafefdleimaaW.PrintLast Go.Proofs.YtmddafefdleimaaW.PrintMore Go.Proofs.Ytmddafefdleimaa.Rw Go.Proofs.Ytmddafefdleimaa.Fl Go.Maps
set_option linter.unusedVariables false
set_option linter.unusedSimpArgs false
attribute [local go_sem ↓] Go.wp_at_zero Go.wp_at_succ
theorem info72 : (Try.prog.info? 72).map (fun i => (i.zero, i.size, i.bytes)) = some (some (.pointer none), 1, 8) := by kernel_rfl
theorem info68 : (Try.prog.info? 68).map (fun i => (i.zero, i.size, i.bytes)) = some (some (.pointer none), 1, 8) := by kernel_rfl
section
variable {base : Nat} {W W1 : World} {s : Ch} {i j q : Nat} {lv v : Value} {pg : Nat → Pg}
/-- the append of a page, as a step of a region that draws -/
theorem page_step {ops : Array Oper} {o : Oper} {a : Act} {W2 : World} {K : Act → World → Prop} {Q : Exit → Act → World → Prop} {E : Prop} {A0 : Option Addr} {c0 g b p : Nat}
    (hgd : o.guard = none) (sx x : Operand) (ho : o.op = .call { callee := .builtin .append, args := #[sx, x], argTypes := #[69, 69] }) (hs : a.eval sx = .slice A0 j c0) (hx : a.eval x = .slice (some ⟨p, 0, none⟩) 1 1)
    (h : Up base W s i lv) (hp : Pu W base s.n s.own i j q pg (.slice A0 j c0)) (hj : j + 1 ≤ 64) (hb : Below W.heap.size W W2) (hq : W2.heap[p]? = some (.cells #[ptr g] 72 (0, 0))) (hI : IsC W2 W.heap.size g b (List.replicate s.n (0, 0)) [] 0 (.slice none 0 0)) (hbase : base ≤ W.heap.size)
    (hK : ∀ gg cap W3, W3.cell? ⟨q, 0, none⟩ = some (.slice A0 j c0) → W3.frozen? ⟨q, 0, none⟩ = false → Aside0 (∀ k, k < W.heap.size → s.own k = .out → W3.heap[k]? = W.heap[k]?) → Aside0 (∃ own1 pg1, Up base (W3.setCell ⟨q, 0, none⟩ (slc gg (j + 1) cap)) { s with own := own1 } i lv ∧ Pu (W3.setCell ⟨q, 0, none⟩ (slc gg (j + 1) cap)) base s.n own1 i (j + 1) q pg1 (slc gg (j + 1) cap) ∧ Fm base s.own W (W3.setCell ⟨q, 0, none⟩ (slc gg (j + 1) cap)) ∧ (∀ k, k < W.heap.size → own1 k = s.own k)) → K (a.put o.dst (slc gg (j + 1) cap)) W3) :
    if Region.wanted o (yielded ops a.tmps) = true then Oper.wp Try.prog o a W2 K Q else E := by
  obtain ⟨i72, hi72, hz⟩ := Option.map_eq_some_iff.1 info72
  simp only [Prod.mk.injEq] at hz
  have hrow := own_move hp.row (w1 := W2) (fun k hk => hb.block k (h.lt (by rw [hp.vo k hk]; intro e; cases e)))
  have hlen : base ≤ W2.heap.size := Nat.le_trans hbase hb.size
  refine step_append_lies (W2) hgd sx x 69 ho base 72 i72 (.pointer none) 1 8 Try.underlying69 hi72 hz.1 hz.2.1 hz.2.2 rfl (by decide) (.slice A0 j c0) j _ hs hrow ⟨p, 0, none⟩ 1 1 [ptr g] hx rfl (fun j y hy => World.news_of_block hq j y (by simpa using hy)) (by simp [Value.oneCell']) (by decide) (Nat.le_trans hj (by decide)) (by omega) hlen _ rfl (fun gg cap W3 h1 h2 h3 h4 => ?_)
  have hql : q < W.heap.size := h.lt (by rw [hp.oq]; intro e; cases e)
  have hgr : W3.heap[q]? = W2.heap[q]? := h2.block q (Nat.lt_of_lt_of_le hql hb.size) (fun e => by have := hp.vo q e.symm; rw [hp.oq] at this; cases this)
  have hq3 := (hgr.trans (hb.block q hql)).trans hp.hq
  exact hK gg cap W3 ((blk_cell hq3 0).trans rfl) (blk_frozen hq3 0) ⟨fun k hk ho => (h2.block k (Nat.lt_of_lt_of_le hk hb.size) (fun e => by have := hp.vo k e.symm; rw [ho] at this; cases this)).trans (hb.block k hk)⟩ ⟨h.push hp hb hI hbase h1 h2 h3 h4⟩
/-- the append of a block, at a plain region's list -/
theorem block_step {ops : Array Oper} {rest : List Oper} {o : Oper} {a : Act} {W2 : World} {Q : Exit → Act → World → Prop} {A0 : Option Addr} {c0 p : Nat}
    (hgd : o.guard = none) (sx x : Operand) (ho : o.op = .call { callee := .builtin .append, args := #[sx, x], argTypes := #[64, 64] }) (hs : a.eval sx = .slice A0 i c0) (hx : a.eval x = .slice (some ⟨p, 0, none⟩) 1 1)
    (h : Up base W s i (.slice A0 i c0)) (hi : i < s.Bn) (hp : Pu W base s.n s.own i s.Pn q pg v) (hj : i + 1 ≤ 64) (hb : Below W.heap.size W W2) (hq : W2.heap[p]? = some (.cells #[ptr q] 68 (0, 0))) (hbase : base ≤ W.heap.size)
    (hK : ∀ gg cap W3, W3.cell? ⟨s.c, 4, none⟩ = some (.slice A0 i c0) → W3.frozen? ⟨s.c, 4, none⟩ = false → Aside0 (∃ own1 bl1, Up base (W3.setCell ⟨s.c, 4, none⟩ (slc gg (i + 1) cap)) { s with own := own1, bl := bl1 } (i + 1) (slc gg (i + 1) cap) ∧ Fm base s.own W (W3.setCell ⟨s.c, 4, none⟩ (slc gg (i + 1) cap)) ∧ (∀ k, k < W.heap.size → own1 k = s.own k) ∧ ((∀ x, (s.bl x).marked = false) → ∀ x, (bl1 x).marked = false)) → wpList Try.prog ops Q rest (a.put o.dst (slc gg (i + 1) cap)) W3) :
    wpList Try.prog ops Q (o :: rest) a W2 := by
  obtain ⟨i68, hi68, hz⟩ := Option.map_eq_some_iff.1 info68
  simp only [Prod.mk.injEq] at hz
  have hrow := own_move h.row (w1 := W2) (fun k hk => hb.block k (h.lt (by rw [h.lo k hk]; intro e; cases e)))
  have hlen : base ≤ W2.heap.size := Nat.le_trans hbase hb.size
  refine wpList_append_lies (W2) hgd sx x 64 ho base 68 i68 (.pointer none) 1 8 Try.underlying64 hi68 hz.1 hz.2.1 hz.2.2 rfl (by decide) (.slice A0 i c0) i _ hs hrow ⟨p, 0, none⟩ 1 1 [ptr q] hx rfl (fun j y hy => World.news_of_block hq j y (by simpa using hy)) (by simp [Value.oneCell']) (by decide) (Nat.le_trans hj (by decide)) (by omega) hlen _ rfl (fun gg cap W3 h1 h2 h3 h4 => ?_)
  have hql : s.c < W.heap.size := h.lt (by rw [h.oc]; intro e; cases e)
  have hgr : W3.heap[s.c]? = W2.heap[s.c]? := h2.block s.c (Nat.lt_of_lt_of_le hql hb.size) (fun e => by have := h.lo s.c e.symm; rw [h.oc] at this; cases this)
  have hq3 := (hgr.trans (hb.block s.c hql)).trans h.hc
  exact hK gg cap W3 ((blk_cell hq3 4).trans rfl) (blk_frozen hq3 4) ⟨h.close hi hp hb hbase h1 h2 h3 h4⟩
end
theorem IsC.low {W : World} {base base' g b : Nat} {P : Pts} {S : List Int} {st : Int} (h : IsC W base g b P S st (.slice none 0 0)) (hl : base' ≤ base) (h0 : st ≠ 1) : IsC W base' g b P S st (.slice none 0 0) :=
  ⟨h.hg, h.hb, Nat.le_trans hl h.bg, Nat.le_trans hl h.bb, h.gb, h.le, .inl ⟨h0, rfl⟩⟩
abbrev mkS (c Bn Pn Wn Kn n : Nat) (own : Nat → Tag) (bl : Nat → Bl) : Ch := ⟨c, 0, 0, 0, 0, Bn, Pn, Wn, Kn, n, bl, [], 0, 0, false, own⟩
/-- the chip under way, and the box of its geometry -/
structure NS (w W : World) (c Bn Pn Wn Kn n i : Nat) (own : Nat → Tag) (bl : Nat → Bl) (lv : Value) : Prop where
  up : Up w.heap.size W (mkS c Bn Pn Wn Kn n own bl) i lv
  bel : Below w.heap.size w W
  box : W.heap[w.heap.size]? = some (.cells #[.int .i64 Bn, .int .i64 Pn, .int .i64 Wn, .int .i64 Kn] 23 (0, 0))
  bo : own w.heap.size = .out
theorem NS.bc {w W : World} {c Bn Pn Wn Kn n i : Nat} {own : Nat → Tag} {bl : Nat → Bl} {lv : Value} (h : NS w W c Bn Pn Wn Kn n i own bl lv) :
    W.cell? ⟨w.heap.size, 0, none⟩ = some (.int .i64 Bn) ∧ W.cell? ⟨w.heap.size, 1, none⟩ = some (.int .i64 Pn) ∧ W.cell? ⟨w.heap.size, 2, none⟩ = some (.int .i64 Wn) ∧ W.cell? ⟨w.heap.size, 3, none⟩ = some (.int .i64 Kn) :=
  ⟨(blk_cell h.box 0).trans rfl, (blk_cell h.box 1).trans rfl, (blk_cell h.box 2).trans rfl, (blk_cell h.box 3).trans rfl⟩
theorem NS.to {w W W1 : World} {c Bn Pn Wn Kn n i i1 : Nat} {own own1 : Nat → Tag} {bl bl1 : Nat → Bl} {lv lv1 : Value} (h : NS w W c Bn Pn Wn Kn n i own bl lv) (hu : Up w.heap.size W1 (mkS c Bn Pn Wn Kn n own1 bl1) i1 lv1) (hf : Fm w.heap.size own W W1) (ho : ∀ k, k < W.heap.size → own1 k = own k) : NS w W1 c Bn Pn Wn Kn n i1 own1 bl1 lv1 :=
  ⟨hu, Below.trans h.bel hf.bel, (hf.out _ (blk_lt h.box) h.bo).trans h.box, (ho _ (blk_lt h.box)).trans h.bo⟩
theorem NS.open {w W : World} {c Bn Pn Wn Kn n i : Nat} {own : Nat → Tag} {bl : Nat → Bl} {lv : Value} (h : NS w W c Bn Pn Wn Kn n i own bl lv) :
    ∃ own1 pg, NS w (W.alloc (.cells #[.slice none 0 0, .bool false, .bool false, .int .i64 0] 71 (0, 0))) c Bn Pn Wn Kn n i own1 bl lv ∧ Pu (W.alloc (.cells #[.slice none 0 0, .bool false, .bool false, .int .i64 0] 71 (0, 0))) w.heap.size n own1 i 0 W.heap.size pg (.slice none 0 0) := by
  have hl := blk_lt h.box
  obtain ⟨h1, h2⟩ := h.up.open (pg := fun _ => ⟨0, 0, [], [], 0⟩) h.bel.size
  exact ⟨_, _, ⟨h1, below_alloc h.bel _, blk_alloc h.box _, (if_neg (Nat.ne_of_lt hl)).trans h.bo⟩, h2⟩
theorem Pu.head {W : World} {base n i j q : Nat} {own : Nat → Tag} {pg : Nat → Pg} {v : Value} (h : Pu W base n own i j q pg v) : ∃ A c, v = .slice A j c := by
  rcases h.row with ⟨hil, ⟨e, hz⟩ | ⟨k, cap, cur, e, -⟩⟩
  · exact ⟨none, 0, by rw [e, hz]⟩
  · exact ⟨_, _, e⟩
theorem Up.head {base : Nat} {W : World} {s : Ch} {i : Nat} {lv : Value} (h : Up base W s i lv) : ∃ A c, lv = .slice A i c := by
  rcases h.row with ⟨hil, ⟨e, hz⟩ | ⟨k, cap, cur, e, -⟩⟩
  · exact ⟨none, 0, by rw [e, hz]⟩
  · exact ⟨_, _, e⟩
structure Fresh (s : Ch) (Bn Pn Wn Kn n : Nat) (bads : List Int) (L : List F) : Prop where
  eB : s.Bn = Bn
  eP : s.Pn = Pn
  eW : s.Wn = Wn
  eK : s.Kn = Kn
  en : s.n = n
  eF : s.F = L
  o : s.ops = 0
  r : s.refused = 0
  d : s.dark = false
  mkd : ∀ x, x < Bn → (s.bl x).marked = decide ((x : Int) ∈ bads)
  br : ∀ x, x < Bn → (s.bl x).broken = false ∧ (s.bl x).erases = 0
  st : ∀ x y, x < Bn → y < Pn → ((s.bl x).pg y).st = 0 ∧ ((s.bl x).pg y).P = List.replicate n (0, 0)
set_option maxHeartbeats 3200000 in
set_option maxRecDepth 100000 in
theorem newCh (Bn Pn Wn Kn n : Nat) (may : MayG Bn Pn Wn Kn) (hn : Wn * (Kn + 16) = n) (w : World) (A1 : Option Addr) (c1 : Nat) (bads : List Int) (hC1 : Kd.C (Kd.int .i64) w A1 bads.length bads) (hcl1 : bads.length ≤ c1) (hb1 : bads.length ≤ 1000)
    (hbad : ∀ y, y < bads.length → 0 ≤ bads.getD y 0 ∧ bads.getD y 0 < (Bn : Int)) (A2 : Option Addr) (c2 : Nat) (L : List F) (hC2 : Kd.C Tri w A2 L.length L) (hcl2 : L.length ≤ c2) (hok : OkF L) :
    Calls Try.prog 11 #[geoV Bn Pn Wn Kn, .slice A1 bads.length c1, .slice A2 L.length c2] w fun e w' => ∃ s, e = .returned (.tuple #[ptr s.c, .int .i64 0]) ∧ Aside0 (IsCh w.heap.size w' s) ∧ Aside0 (Below w.heap.size w w') ∧ Aside0 (Fresh s Bn Pn Wn Kn n bads L) := by
  have HM := Aside0.mk (mayC (a := Bn) (b := Pn) (c := Wn) (d := Kn) (w.alloc (.cells #[.int .i64 Bn, .int .i64 Pn, .int .i64 Wn, .int .i64 Kn] 23 (0, 0))) may)
  have hni : (Wn : Int) * ((Kn : Int) + 16) = (n : Int) := by rw [← hn]; push_cast; rfl
  have HG := Aside0.mk (fun W => cellsC (a := Bn) (b := Pn) (c := Wn) (d := Kn) W may n hni)
  have HB := Aside0.mk (below_alloc (Below.refl w.heap.size w) (.cells #[.int .i64 Bn, .int .i64 Pn, .int .i64 Wn, .int .i64 Kn] 23 (0, 0)))
  have HN := Aside0.mk (blk_new w (.cells #[.int .i64 Bn, .int .i64 Pn, .int .i64 Wn, .int .i64 Kn] 23 (0, 0)))
  have hr := room may
  rw [hni] at hr
  have hBn := may.a1
  have hBn0 := may.a0
  have hPn := may.b1
  have hPn0 := may.b0
  have Hmay := Aside0.mk may
  have Hn := Aside0.mk hn
  have HC1 := Aside0.mk hC1
  have HC2 := Aside0.mk hC2
  have Hok := Aside0.mk hok
  have Hbad := Aside0.mk hbad
  clear may hn hni hC1 hC2 hok hbad
  unfold geoV at HM HG ⊢
  go_enter Try.func11, Try.ntmps11
  go_upto_region 4 with (first | (go_at_call 26; (refine HM.out.mono ?_); rintro e w2 ⟨rfl, HB2⟩; have hb2 := (HB2.out.block w.heap.size (blk_lt HN.out)).trans HN.out; have HB3 := Aside0.mk (below_step HB.out HB2.out); have HN2 := Aside0.mk hb2; have d0 := (blk_cell hb2 0).trans rfl; have d1 := (blk_cell hb2 1).trans rfl; have d2 := (blk_cell hb2 2).trans rfl; have d3 := (blk_cell hb2 3).trans rfl; clear hb2))
  have HS0 : Aside0 (NS w (w2.alloc (.cells #[.int .i64 Bn, .int .i64 Pn, .int .i64 Wn, .int .i64 Kn, .slice none 0 0, .pointer none, .int .i64 0, .int .i64 0, .bool false] 67 (0, 0))) w2.heap.size Bn Pn Wn Kn n 0 (fun k => if k = w2.heap.size then .chip else .out) (fun _ => ⟨0, 0, 0, fun _ => ⟨0, 0, [], [], 0⟩, false, false, 0⟩) (.slice none 0 0)) :=
    ⟨⟨Up.start w w2 HB3.out Bn Pn Wn Kn n Hmay.out Hn.out [] _, below_alloc HB3.out _, blk_alloc HN2.out _, if_neg (Nat.ne_of_lt (blk_lt HN2.out))⟩⟩
  clear HM HB HN HB2 HB3 HN2 d0 d1 d2 d3
  obtain ⟨cp, hcp⟩ : ∃ cp, w2.heap.size = cp := ⟨_, rfl⟩
  rw [hcp] at HS0 ⊢
  obtain ⟨W0, hW0⟩ : ∃ W0, (w2.alloc (.cells #[.int .i64 Bn, .int .i64 Pn, .int .i64 Wn, .int .i64 Kn, .slice none 0 0, .pointer none, .int .i64 0, .int .i64 0, .bool false] 67 (0, 0))) = W0 := ⟨_, rfl⟩
  rw [hW0] at HS0 ⊢
  clear hcp hW0
  have hn1000 : n ≤ 1000 := by omega
  have hn0 : (if (n : Int) < 0 then 0 else (n : Int)) = (n : Int) := if_neg (by omega)
  have Hn0 := Aside0.mk hn0
  clear hn0
  obtain ⟨d0, d1, d2, d3⟩ := HS0.out.bc
  go_wp2
  go_loopw [9, 21] (fun v9 v21 wr => ∃ (i : Nat) (own : Nat → Tag) (bl : Nat → Bl) (lv : Value), i ≤ Bn ∧ v21 = .int .i64 (i : Int) ∧ Aside0 (NS w wr cp Bn Pn Wn Kn n i own bl lv) ∧ Aside0 (∀ x, (bl x).marked = false)) (fun _ v21 _ => Bn - (intOf v21).toNat)
  case atStart => exact ⟨0, _, _, _, Nat.zero_le _, rfl, HS0, ⟨fun _ => rfl⟩⟩
  case round =>
    clear HS0 d0 d1 d2 d3
    obtain ⟨i, own, bl, lv, hi, rfl, HS, HMk⟩ := hrel
    by_cases ci : i < Bn
    · have cii : (i : Int) < (Bn : Int) := by omega
      obtain ⟨A4, c4, rfl⟩ := HS.out.up.head
      obtain ⟨own1, pg, hS1, hP1⟩ := HS.out.open
      have HS1 := Aside0.mk hS1
      have HP1 := Aside0.mk hP1
      clear hS1 hP1
      go_upto_region 7 with (fail)
      obtain ⟨q, hq⟩ : ∃ q, wr.heap.size = q := ⟨_, rfl⟩
      rw [hq] at HP1 ⊢
      obtain ⟨W1, hW1⟩ : ∃ W1, (wr.alloc (.cells #[.slice none 0 0, .bool false, .bool false, .int .i64 0] 71 (0, 0))) = W1 := ⟨_, rfl⟩
      rw [hW1] at HS1 HP1 ⊢
      clear hq hW1 HS
      obtain ⟨d0, d1, d2, d3⟩ := HS1.out.bc
      go_wp2
      go_loopw [27] (fun v27 wr => ∃ (j : Nat) (own : Nat → Tag) (pg : Nat → Pg) (v : Value), j ≤ Pn ∧ v27 = .int .i64 (j : Int) ∧ Aside0 (NS w wr cp Bn Pn Wn Kn n i own bl (.slice A4 i c4)) ∧ Aside0 (Pu wr w.heap.size n own i j q pg v)) (fun v27 _ => Pn - (intOf v27).toNat)
      case atStart => exact ⟨0, _, _, _, Nat.zero_le _, rfl, HS1, HP1⟩
      case round =>
        clear HS1 HP1 d0 d1 d2 d3
        obtain ⟨j, own, pg, v, hj, rfl, HS, HP⟩ := hrel
        obtain ⟨A0, c0, rfl⟩ := HP.out.head
        by_cases cj : j < Pn
        · have cjj : (j : Int) < (Pn : Int) := by omega
          have hj64 : j + 1 ≤ 64 := by omega
          obtain ⟨d0, d1, d2, d3⟩ := HS.out.bc
          have hql := blk_lt HP.out.hq
          have hq0 : wr.cell? ⟨q, 0, none⟩ = some (.slice A0 j c0) := (blk_cell HP.out.hq 0).trans rfl
          have hqf := blk_frozen HP.out.hq 0
          have hne : ¬ w.heap.size = q := fun e => by have := HS.out.bo; rw [e, HP.out.oq] at this; cases this
          have hne2 : ¬ q = w.heap.size := fun e => hne e.symm
          go_upto_region 9 with (fail)
          go_region_law
            (first
            | (go_simp; go_at_call 28; (refine (HG.out _).mono ?_); rintro e w3 ⟨rfl, HB3⟩; have HBa := Aside0.mk (below_step (below_drew (Below.refl wr.heap.size wr)) HB3.out);   have hq3 := (HBa.out.block q hql).trans HP.out.hq; have hqc3 : w3.cell? ⟨q, 0, none⟩ = some (.slice A0 j c0) := (blk_cell hq3 0).trans rfl; have HQ3 := Aside0.mk hq3; clear hq3; go_wp2_with fail)
            | (go_simp; go_at_call 27; (refine (newC (n : Int) n Hn0.out hn1000 _).mono ?_); rintro e w4 ⟨rfl, HI, HB4⟩; have HBb := Aside0.mk (below_step HBa.out HB4.out); have hb4 := (HBb.out.block w.heap.size (blk_lt HS.out.box)).trans HS.out.box;  have hq4 := (HBb.out.block q hql).trans HP.out.hq; have hqc4 : w4.cell? ⟨q, 0, none⟩ = some (.slice A0 j c0) := (blk_cell hq4 0).trans rfl; have HIb := Aside0.mk (IsC.low HI.out HBa.out.size (by decide)); have hn4 : ¬ w.heap.size = w4.heap.size := Nat.ne_of_lt (blk_lt hb4); have hn5 : ¬ q = w4.heap.size := Nat.ne_of_lt (blk_lt hq4); have hn6 : ¬ w4.heap.size = q := fun e => hn5 e.symm; have hn7 : ¬ w4.heap.size = w.heap.size := fun e => hn4 e.symm; have hqd4 : (w4.alloc (.cells #[ptr (w3.heap.size + 1)] 72 (0, 0))).cell? ⟨q, 0, none⟩ = some (.slice A0 j c0) := (blk_cell (blk_alloc hq4 _) 0).trans rfl; clear hb4 hq4; go_wp2_with fail)
            | (apply page_step (sx := .tmp 33) (x := .tmp 37); (case h => exact HS.out.up); (case hp => exact HP.out); (case hgd => rfl); (case ho => rfl); (case hs => rfl); (case hx => rfl); (case hj => exact hj64); (case hb => exact below_alloc HBb.out _); (case hq => exact blk_new _ _); (case hI => exact HIb.out.below (below_alloc (Below.refl _ _) _)); (case hbase => exact HS.out.bel.size); (intro gg cap w5 hcc hcf HO5 HU5;   skip))
            | fail)
          all_goals (
            obtain ⟨own1, pg1, hU, hP, hF, hO⟩ := HU5.out
            have HS' := Aside0.mk (HS.out.to hU hF hO)
            have HP' := Aside0.mk hP
            clear HB3 HBa HQ3 HB4 HBb HIb HI HO5 HU5 hU hP hF hO HS HP hcc hcf hql hq0 hqf hne hne2 hqc3 hqc4 hqd4 hn4 hn5 hn6 hn7 d0 d1 d2 d3
            go_wp2
            go_roundw
            case rel => exact ⟨j + 1, own1, pg1, _, cj, rfl, HS', HP'⟩
            case measure => simp [intOf]; omega)
        · obtain rfl : j = Pn := by omega
          have hi64 : i + 1 ≤ 64 := by omega
          have hc0 := HS.out.up.hc
          have h4 : wr.cell? ⟨cp, 4, none⟩ = some (.slice A4 i c4) := (blk_cell hc0 4).trans rfl
          clear hc0
          go_wp2_with (first | ((with_reducible refine gate_builtin (b := .append) (xs := #[.tmp 46, .tmp 48]) rfl ?_); at_builtin; refine block_step rfl (.tmp 46) (.tmp 48) rfl rfl rfl HS.out.up ci HP.out hi64 (below_alloc (Below.refl _ _) _) (blk_new _ _) HS.out.bel.size (fun gg cap w5 hcc hcf HU5 => ?_)))
          obtain ⟨own1, bl1, hU, hF, hO, hM⟩ := HU5.out
          have HS' := Aside0.mk (HS.out.to hU hF hO)
          have HMk' := Aside0.mk (hM HMk.out)
          clear HU5 hU hF hO hM HS HP hcc hcf h4
          go_roundw
          case rel => exact ⟨i + 1, own1, bl1, _, ci, rfl, HS', HMk'⟩
          case measure => simp [intOf]; omega
    · obtain rfl : i = Bn := by omega
      obtain ⟨A4, c4, rfl⟩ := HS.out.up.head
      have HMk0 : Aside0 (∀ x : Nat, (bl x).marked = decide ((x : Int) ∈ bads.take 0)) := ⟨fun x => by rw [HMk.out x]; simp⟩
      clear HMk
      go_wp2
      go_loopw [11, 55] (fun v11 v55 wr => ∃ (k : Nat) (bl : Nat → Bl), k ≤ bads.length ∧ v55 = .int .i64 (k : Int) ∧ Aside0 (NS w wr cp i Pn Wn Kn n i own bl (.slice A4 i c4)) ∧ Aside0 (∀ x : Nat, (bl x).marked = decide ((x : Int) ∈ bads.take k))) (fun _ v55 _ => bads.length - (intOf v55).toNat)
      case atStart => exact ⟨0, bl, Nat.zero_le _, rfl, HS, HMk0⟩
      case round =>
        clear HS HMk0
        obtain ⟨k, bl, hk, rfl, HS, HMk⟩ := hrel
        obtain ⟨la, cap, hv, hcap, hla, hPt⟩ := ptrs_of HS.out.up.row (show 0 < i by omega)
        obtain ⟨rfl, -, rfl⟩ : A4 = some ⟨la, 0, none⟩ ∧ True ∧ c4 = cap := by cases hv; exact ⟨rfl, trivial, rfl⟩
        have HPt := Aside0.mk hPt
        clear hv hPt
        have hc0 := HS.out.up.hc
        have h4 : wr.cell? ⟨cp, 4, none⟩ = some (slc la i c4) := (blk_cell hc0 4).trans rfl
        clear hc0
        obtain ⟨d0, d1, d2, d3⟩ := HS.out.bc
        by_cases ck : k < bads.length
        · have ckk : (k : Int) < (bads.length : Int) := by omega
          have HCk := Aside0.mk (Kd.C_below HC1.out HS.out.bel)
          obtain ⟨ad, e1, hx0⟩ := at_num HCk.out k ck
          cases e1
          obtain ⟨hx1, hx2⟩ := Hbad.out k ck
          obtain ⟨x, hx⟩ : ∃ x : Nat, bads.getD k 0 = (x : Int) := ⟨_, (Int.toNat_of_nonneg hx1).symm⟩
          rw [hx] at hx0 hx1 hx2
          have hxi : x < i := by omega
          have hxc := HPt.out.cell hxi
          have hbx := HS.out.up.hb x hxi
          have hb1c : wr.cell? ⟨(bl x).q, 1, none⟩ = some (.bool (bl x).marked) := (blk_cell hbx 1).trans rfl
          have hb1f := blk_frozen hbx 1
          have hup := HS.out.up.mark x hxi
          have HS' := Aside0.mk (HS.out.to hup.1 hup.2 (fun _ _ => rfl))
          have HMk' : Aside0 (∀ y : Nat, (if y = x then ({ bl x with marked := true } : Bl) else bl y).marked = decide ((y : Int) ∈ bads.take (k + 1))) := ⟨fun y => by
            have e3 : bads.take (k + 1) = bads.take k ++ [(x : Int)] := by
              rw [List.take_succ_eq_append_getElem ck]
              have : bads[k] = (x : Int) := by rw [← hx, List.getD_eq_getElem?_getD, List.getElem?_eq_getElem ck]; rfl
              rw [this]
            rw [e3]
            by_cases e : y = x
            · subst e; simp
            · have hne : ¬ (y : Int) = (x : Int) := by omega
              rw [if_neg e, HMk.out y]; simp [hne]⟩
          clear hup HCk hbx hcap hla HPt HMk
          generalize hqq : (bl x).q = qq at *
          go_wp2
          go_roundw
          case rel => exact ⟨k + 1, _, ck, rfl, HS', HMk'⟩
          case measure => simp [intOf]; omega
        · obtain rfl : k = bads.length := by omega
          have HC2w := Aside0.mk (Kd.C_below HC2.out HS.out.bel)
          have HMk' : Aside0 (∀ x : Nat, (bl x).marked = decide ((x : Int) ∈ bads)) := ⟨fun x => by rw [HMk.out x, List.take_length]⟩
          have hcl := blk_lt HS.out.up.hc
          clear HMk h4 d0 d1 d2 d3
          go_wp2_with (first | (go_at_call 29; (refine (newYes A2 c2 L _ HC2w.out hcl2 Hok.out).mono ?_); rintro e w5 ⟨g, rfl, HI, HB5⟩; have hc5 := (HB5.out.block cp hcl).trans HS.out.up.hc; have h5 : w5.cell? ⟨cp, 5, none⟩ = some (.pointer none) := (blk_cell hc5 5).trans rfl; have h5f := blk_frozen hc5 5; clear hc5))
          go_ret2
          obtain ⟨s', hI', e1, e2, e3, e4, e5, e6, e7, e8, e9, e10, e11, hF, hO⟩ := HS.out.up.done HI.out HB5.out HS.out.bel.size
          refine ⟨s', (by rw [e1]; rfl), ⟨hI'⟩, ⟨Below.trans HS.out.bel hF.bel⟩, ⟨⟨e3, e4, e5, e6, e7, e8, e9, e10, e11, fun x hx => by rw [e2]; exact HMk'.out x, fun x hx => by rw [e2]; exact HS.out.up.fr x hx, fun x y hx hy => by rw [e2]; exact HS.out.up.st x y hx hy⟩⟩⟩
end Go.Proofs.Ytmddafefdleimaa.M
