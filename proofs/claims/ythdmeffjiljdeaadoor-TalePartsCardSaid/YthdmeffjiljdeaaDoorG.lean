/- Tales: the event of a line; by hand. -/
import Derived.Test.YthdmeffjiljdeaaDoorF
import Derived.Deep.RegionHeld3
import Derived.BigRegion
namespace Go.Proofs.YthdmeffjiljdeaaDoor.M
open Go.RowKit Go.Proofs.YthdmeffjiljdeaaDoorW.PrintWords Go.Proofs.YthdmeffjiljdeaaDoorW.PrintLast Go.Proofs.YthdmeffjiljdeaaDoorW.PrintMore Go.Proofs.YthdmeffjiljdeaaDoor.Rw Go.Proofs.YthdmeffjiljdeaaDoor.Fl
set_option linter.unusedVariables false
set_option linter.unusedSimpArgs false
theorem run_store_complex {P : Program} {w : World} {a : Addr} {m : Mode} (k : FloatKind) (x y : Nat) : (store a (.complex k x y) m).run P w = stored P w a (.complex k x y) m := run_store P w a _ m rfl
attribute [local go_sem] run_store_complex
theorem size32 : (Tryd.prog.info? 32).map (·.size) = some 6 := by kernel_rfl
theorem und32 : ∃ fs, Tryd.prog.underlying 32 = some (.struct fs) := ⟨_, Tryd.underlying32⟩
theorem end12 {Q : Ending → World → Prop} {a : Act} {w : World} {b : Nat} {cs : Array Value} {q : Bool} (h2 : a.tmps.getD 2 undef = .pointer (some ⟨b, 0, none⟩)) (h3 : a.tmps.getD 3 undef = .bool q) (hd : a.defers = []) (hg : w.heap[b]? = some (.cells cs 32 (0, 0))) (hs : cs.size = 6) (h : Q (.returned (.tuple #[.agg cs, .bool q])) w) : bodyPost Tryd.prog Tryd.f12 Q Exit.ret a w := by
  obtain ⟨fs, hu⟩ := und32
  refine ⟨hd, _, ?_, h⟩
  rw [results_cell_tmp rfl, h2, h3]
  have := run_loadVar_row (P := Tryd.prog) w b 32 32 cs (0, 0) _ hg hu rfl (by rw [size32, hs])
  simp [asAddr, Result.andThen, this]
/-- a walk's state: the result's cell, the pieces, the event -/
structure ES (w0 W : World) (b g1 g2 : Nat) (ls cs : Array Value) : Prop where
  hr : W.heap[b]? = some (.cells #[.int .i64 0, .int .i64 0, .int .i64 0, .int .i64 0, .complex .f64 0 0, .slice none 0 0] 32 (0, 0))
  hl : W.heap[g1]? = some (.cells ls 9 (0, 0))
  he : W.heap[g2]? = some (.cells cs 32 (0, 0))
  bel : Below b w0 W
theorem ES.below {w0 W W1 : World} {b g1 g2 : Nat} {ls cs : Array Value} (h : ES w0 W b g1 g2 ls cs) (hb : Below W.heap.size W W1) : ES w0 W1 b g1 g2 ls cs :=
  ⟨(hb.block b (blk_lt h.hr)).trans h.hr, (hb.block g1 (blk_lt h.hl)).trans h.hl, (hb.block g2 (blk_lt h.he)).trans h.he, Below.trans h.bel (hb.mono (Nat.le_of_lt (blk_lt h.hr)))⟩
theorem ES.set {w0 W : World} {b g1 g2 : Nat} {ls cs : Array Value} (h : ES w0 W b g1 g2 ls cs) (h12 : g1 ≠ g2) (hb2 : b < g2) (i : Nat) (v : Value) : ES w0 (W.setCell ⟨g2, i, none⟩ v) b g1 g2 ls (cs.setIfInBounds i v) :=
  ⟨blk_far h.hr (by show b ≠ g2; omega) v, blk_far h.hl (by show g1 ≠ g2; omega) v, blk_set h.he i v, h.bel.setCell (by show b ≤ g2; omega) v⟩
theorem piece_cell {W : World} {g1 : Nat} {ls : List (List UInt8)} (h : W.heap[g1]? = some (.cells (ls.map strV).toArray 9 (0, 0))) {i : Nat} (hi : i < ls.length) : W.cell? ⟨g1, i, none⟩ = some (strV (ls.getD i [])) := by
  refine (blk_cell h i).trans ?_
  rw [List.getElem?_toArray, List.getElem?_map, List.getElem?_eq_getElem hi, List.getD_eq_getElem?_getD, List.getElem?_eq_getElem hi]
  rfl
theorem doF_in (l : List UInt8) : ∀ k, k ≤ 7 → 0 ≤ doF l k ∧ doF l k ≤ 7
  | 0, _ => ⟨Int.le_refl 0, by show (0 : Int) ≤ 7; decide⟩
  | n + 1, h => by
    have := doF_in l n (by omega)
    unfold doF
    split
    · omega
    · exact this
theorem wcmp (a l : List UInt8) : ((⟨a.toArray⟩ : ByteArray).toList == (⟨l.toArray⟩ : ByteArray).toList) = (a == l) := by rw [ByteArray.toList_mk, ByteArray.toList_mk]
/-- the numbers so far -/
def nc (ls : List (List UInt8)) (i : Nat) : Array Value := ((List.range 7).map fun j => Value.int .i64 (if 1 ≤ j ∧ j < i then (numF (ls.getD j [])).1 else 0)).toArray
theorem nc_one (ls : List (List UInt8)) : nc ls 1 = #[.int .i64 0, .int .i64 0, .int .i64 0, .int .i64 0, .int .i64 0, .int .i64 0, .int .i64 0] := rfl
theorem nc_set (ls : List (List UInt8)) (i : Nat) (h1 : 1 ≤ i) (h7 : i < 6) : (nc ls i).setIfInBounds i (.int .i64 (numF (ls.getD i [])).1) = nc ls (i + 1) := by
  rcases (by omega : i = 1 ∨ i = 2 ∨ i = 3 ∨ i = 4 ∨ i = 5) with rfl | rfl | rfl | rfl | rfl <;> rfl
theorem OwnB.low {base base' : Nat} {v : Value} {l : List Int} {W : World} (h : OwnB base v l W) (hl : base' ≤ base) : OwnB base' v l W := by
  refine ⟨⟨h.1.1, ?_⟩, h.2⟩
  rcases h.1.2 with hn | ⟨g, cap, cur, hv, hb, rest⟩
  · exact .inl hn
  · exact .inr ⟨g, cap, cur, hv, Nat.le_trans hl hb, rest⟩
theorem OwnB.set {base : Nat} {v : Value} {l : List Int} {W : World} (h : OwnB base v l W) {p : Addr} (hp : p.block < base) (u : Value) : OwnB base v l (W.setCell p u) :=
  ⟨own_setCell h.1 (fun e => by have := (h.1.lt p.block e.symm).1; omega) u, h.2⟩
theorem OwnB.C {base : Nat} {A : Option Addr} {c : Nat} {l : List Int} {W : World} (h : OwnB base (.slice A l.length c) l W) : Kd.C (Kd.int .u8) W A l.length l := Kd.C_of_reads (own_reads' h.1)
theorem OwnB.below {base : Nat} {v : Value} {l : List Int} {W W1 : World} (h : OwnB base v l W) (hb : Below W.heap.size W W1) : OwnB base v l W1 :=
  ⟨own_move h.1 (fun k hk => hb.block k ((h.1.lt k hk).2)), h.2⟩
theorem es_end {w0 W : World} {b g1 g2 : Nat} {ls : Array Value} {d a1 a2 a3 : Int} {x4 x5 : Nat} {Ab : Option Addr} {cb : Nat} {ud : List Int} (h : ES w0 W b g1 g2 ls #[.int .i64 d, .int .i64 a1, .int .i64 a2, .int .i64 a3, .complex .f64 x4 x5, .slice Ab ud.length cb]) (ho : OwnB (b + 1) (.slice Ab ud.length cb) ud W) :
    ((((((W.setCell ⟨b, 0, none⟩ (.int .i64 d)).setCell ⟨b, 1, none⟩ (.int .i64 a1)).setCell ⟨b, 2, none⟩ (.int .i64 a2)).setCell ⟨b, 3, none⟩ (.int .i64 a3)).setCell ⟨b, 4, none⟩ (.complex .f64 x4 x5)).setCell ⟨b, 5, none⟩ (.slice Ab ud.length cb)).heap[b]? = some (.cells #[.int .i64 d, .int .i64 a1, .int .i64 a2, .int .i64 a3, .complex .f64 x4 x5, .slice Ab ud.length cb] 32 (0, 0)) ∧
    OwnB b (.slice Ab ud.length cb) ud ((((((W.setCell ⟨b, 0, none⟩ (.int .i64 d)).setCell ⟨b, 1, none⟩ (.int .i64 a1)).setCell ⟨b, 2, none⟩ (.int .i64 a2)).setCell ⟨b, 3, none⟩ (.int .i64 a3)).setCell ⟨b, 4, none⟩ (.complex .f64 x4 x5)).setCell ⟨b, 5, none⟩ (.slice Ab ud.length cb)) ∧
    Below b w0 ((((((W.setCell ⟨b, 0, none⟩ (.int .i64 d)).setCell ⟨b, 1, none⟩ (.int .i64 a1)).setCell ⟨b, 2, none⟩ (.int .i64 a2)).setCell ⟨b, 3, none⟩ (.int .i64 a3)).setCell ⟨b, 4, none⟩ (.complex .f64 x4 x5)).setCell ⟨b, 5, none⟩ (.slice Ab ud.length cb)) :=
  ⟨blk_put (blk_put (blk_put (blk_put (blk_put (blk_put h.hr 0 (.int .i64 d) rfl) 1 (.int .i64 a1) rfl) 2 (.int .i64 a2) rfl) 3 (.int .i64 a3) rfl) 4 (.complex .f64 x4 x5) rfl) 5 (.slice Ab ud.length cb) rfl,
   ((((((ho.set (Nat.lt_succ_self b) _).set (Nat.lt_succ_self b) _).set (Nat.lt_succ_self b) _).set (Nat.lt_succ_self b) _).set (Nat.lt_succ_self b) _).set (Nat.lt_succ_self b) _).low (Nat.le_succ b),
   (((((h.bel.setCell (Nat.le_refl _) _).setCell (Nat.le_refl _) _).setCell (Nat.le_refl _) _).setCell (Nat.le_refl _) _).setCell (Nat.le_refl _) _).setCell (Nat.le_refl _) _⟩
theorem store12 {ops : Array Oper} {o : Oper} {a : Act} {W : World} {K : Act → World → Prop} {Q : Exit → Act → World → Prop} {E : Prop} {b : Nat} {r0 r1 r2 r3 r4 r5 : Value} {d a1 a2 a3 : Int} {x4 x5 : Nat} {A : Option Addr} {n c : Nat}
    (hgd : o.guard = none) (hdst : o.dst = none) (ho : o.op = .store 32 (.tmp 2) (.tmp 77)) (h2 : a.eval (.tmp 2) = .pointer (some ⟨b, 0, none⟩)) (h77 : a.eval (.tmp 77) = .agg #[.int .i64 d, .int .i64 a1, .int .i64 a2, .int .i64 a3, .complex .f64 x4 x5, .slice A n c])
    (hr0 : W.cell? ⟨b, 0, none⟩ = some r0) (hr1 : W.cell? ⟨b, 1, none⟩ = some r1) (hr2 : W.cell? ⟨b, 2, none⟩ = some r2) (hr3 : W.cell? ⟨b, 3, none⟩ = some r3) (hr4 : W.cell? ⟨b, 4, none⟩ = some r4) (hr5 : W.cell? ⟨b, 5, none⟩ = some r5)
    (q0 : W.frozen? ⟨b, 0, none⟩ = false) (q1 : W.frozen? ⟨b, 1, none⟩ = false) (q2 : W.frozen? ⟨b, 2, none⟩ = false) (q3 : W.frozen? ⟨b, 3, none⟩ = false) (q4 : W.frozen? ⟨b, 4, none⟩ = false) (q5 : W.frozen? ⟨b, 5, none⟩ = false)
    (hK : K a ((((((W.setCell ⟨b, 0, none⟩ (.int .i64 d)).setCell ⟨b, 1, none⟩ (.int .i64 a1)).setCell ⟨b, 2, none⟩ (.int .i64 a2)).setCell ⟨b, 3, none⟩ (.int .i64 a3)).setCell ⟨b, 4, none⟩ (.complex .f64 x4 x5)).setCell ⟨b, 5, none⟩ (.slice A n c))) :
    if Region.wanted o (yielded ops a.tmps) = true then Oper.wp Tryd.prog o a W K Q else E := by
  have hw : Region.wanted o (yielded ops a.tmps) = true := by simp [Region.wanted, hgd]
  rw [if_pos hw]
  unfold Oper.wp execOp
  rw [ho]
  dsimp only
  rw [h2, h77]
  go_simp
  exact hK
set_option maxRecDepth 20000 in
set_option maxHeartbeats 6400000 in
theorem eventC (s : List UInt8) (hs : s.length ≤ 90000) (w : World) (h : GV w) :
    Calls Tryd.prog 12 #[strV s] w fun o w' => ∃ A c, o = .returned (.tuple #[.agg ((eventF s).1.cells (.slice A (eventF s).1.data.length c)), .bool (eventF s).2]) ∧ Aside0 (OwnB w.heap.size (.slice A (eventF s).1.data.length c) (eventF s).1.data w') ∧ Aside0 (Below w.heap.size w w') := by
  have HG := Aside0.mk h
  obtain ⟨b, hb⟩ : ∃ b, w.heap.size = b := ⟨_, rfl⟩
  have HBs := Aside0.mk hb
  have HSp := Aside0.mk (fun W (hG : GV W) => splitC s (by omega) W hG)
  have HSl := Aside0.mk (sp_le s)
  obtain ⟨T, hT⟩ : ∃ T : ByteArray, (⟨s.toArray⟩ : ByteArray) = T := ⟨_, rfl⟩
  obtain ⟨res, hres⟩ : ∃ res, eventF s = res := ⟨_, rfl⟩
  have HRe := Aside0.mk hres
  unfold eventF at HRe
  obtain ⟨ls, hls⟩ : ∃ ls, spF s = ls := ⟨_, rfl⟩
  rw [hls] at HSp HRe HSl
  obtain ⟨n, hn⟩ : ∃ n, ls.length = n := ⟨_, rfl⟩
  rw [hn] at HSp HRe
  rw [hres]
  unfold strV at HSp ⊢
  rw [hT] at HSp ⊢
  have HT := Aside0.mk hT
  have Hn := Aside0.mk hn
  clear hT hls hn hres h
  go_enter Tryd.func12, Tryd.ntmps12
  go_upto_region 1 with (fail)
  have hz1 : (w.alloc (.cells #[.int .i64 0, .int .i64 0, .int .i64 0, .int .i64 0, .complex .f64 0 0, .slice none 0 0] 32)).heap[w.heap.size]? = some (.cells #[.int .i64 0, .int .i64 0, .int .i64 0, .int .i64 0, .complex .f64 0 0, .slice none 0 0] 32 (0, 0)) := blk_new w _
  have hB1 := below_alloc (Below.refl w.heap.size w) (.cells #[.int .i64 0, .int .i64 0, .int .i64 0, .int .i64 0, .complex .f64 0 0, .slice none 0 0] 32)
  generalize w.alloc (.cells #[.int .i64 0, .int .i64 0, .int .i64 0, .int .i64 0, .complex .f64 0 0, .slice none 0 0] 32) = w1 at *
  have HS1 := Aside0.mk (HSp.out w1 (HG.out.below hB1))
  rw [hb] at hz1 hB1
  have hbl : b < w1.heap.size := (Array.getElem?_eq_some_iff.1 hz1).1
  have HB1 := Aside0.mk hB1
  have Hz1 := Aside0.mk hz1
  obtain ⟨g1, hg1⟩ : ∃ g1, w1.heap.size = g1 := ⟨_, rfl⟩
  rw [hg1] at HS1
  have Hg1 := Aside0.mk hg1
  clear hB1 hz1 hb HSp hg1
  go_upto_region 2 with (first | (go_at_call 19; (refine HS1.out.mono ?_); rintro o w2 ⟨rfl, hw2'⟩; have hw2 := Aside0.mk hw2'; clear hw2'))
  have HB2 : Aside0 (Below b w w2) := ⟨by rw [hw2.out]; exact HB1.out.alloc (Nat.le_of_lt hbl) _⟩
  have hz2 : w2.heap[b]? = some (.cells #[.int .i64 0, .int .i64 0, .int .i64 0, .int .i64 0, .complex .f64 0 0, .slice none 0 0] 32 (0, 0)) := by rw [hw2.out]; exact (Below.heap_alloc w1 _ b hbl).trans Hz1.out
  have hl2 : w2.heap[g1]? = some (.cells (ls.map strV).toArray 9 (0, 0)) := by rw [hw2.out, ← Hg1.out]; exact blk_new w1 _
  have hg12 : b < g1 := by rw [← Hg1.out]; exact hbl
  clear hw2 HB1 Hz1 HS1 hbl Hg1
  by_cases h7 : n = 7
  ·
    as_aux_lemma =>
      subst h7
      have Hl2 := Aside0.mk hl2
      have Hz2 := Aside0.mk hz2
      clear hl2 hz2
      go_upto_region 5 with (fail)
      obtain ⟨g2, hg2⟩ : ∃ g2, w2.heap.size = g2 := ⟨_, rfl⟩
      have he3 : (w2.alloc (.cells #[.int .i64 0, .int .i64 0, .int .i64 0, .int .i64 0, .complex .f64 0 0, .slice none 0 0] 32)).heap[w2.heap.size]? = some (.cells #[.int .i64 0, .int .i64 0, .int .i64 0, .int .i64 0, .complex .f64 0 0, .slice none 0 0] 32 (0, 0)) := blk_new w2 _
      have hB3 := below_alloc (Below.refl w2.heap.size w2) (.cells #[.int .i64 0, .int .i64 0, .int .i64 0, .int .i64 0, .complex .f64 0 0, .slice none 0 0] 32)
      generalize w2.alloc (.cells #[.int .i64 0, .int .i64 0, .int .i64 0, .int .i64 0, .complex .f64 0 0, .slice none 0 0] 32) = w3 at *
      have hg12' : g1 < g2 := by rw [← hg2]; exact blk_lt Hl2.out
      have HS : Aside0 (ES w w3 b g1 g2 (ls.map strV).toArray #[.int .i64 0, .int .i64 0, .int .i64 0, .int .i64 0, .complex .f64 0 0, .slice none 0 0]) :=
        ⟨(hB3.block b (blk_lt Hz2.out)).trans Hz2.out, (hB3.block g1 (blk_lt Hl2.out)).trans Hl2.out, by rw [← hg2]; exact he3, Below.trans HB2.out (hB3.mono (Nat.le_of_lt (blk_lt Hz2.out)))⟩
      rw [hg2]
      have Hg12 := Aside0.mk (And.intro hg12 hg12')
      clear Hl2 Hz2 hg2 he3 hB3 HB2 hg12 hg12'
      have HW := Aside0.mk (fun (k : Nat) W (hG : GV W) => wordC (k : Int) W hG)
      obtain ⟨l0, hl0⟩ : ∃ l0, ls.getD 0 [] = l0 := ⟨_, rfl⟩
      have Hl0 := Aside0.mk hl0
      obtain ⟨L0, hL0⟩ : ∃ L0 : ByteArray, (⟨l0.toArray⟩ : ByteArray) = L0 := ⟨_, rfl⟩
      have HL0 := Aside0.mk hL0
      clear hl0 hL0
      go_upto_region 6 with (fail)
      go_loopw [6] (fun v6 wr => ∃ k : Nat, 1 ≤ k ∧ k ≤ 8 ∧ v6 = .int .i64 (k : Int) ∧ Aside0 (ES w wr b g1 g2 (ls.map strV).toArray #[.int .i64 (doF l0 (k - 1)), .int .i64 0, .int .i64 0, .int .i64 0, .complex .f64 0 0, .slice none 0 0])) (fun v6 _ => 8 - (intOf v6).toNat)
      case atStart => exact ⟨1, by decide, by decide, rfl, HS⟩
      case round =>
        clear HS
        obtain ⟨k, hk1, hk8, rfl, HS⟩ := hrel
        by_cases ck : k ≤ 7
        ·
          as_aux_lemma =>
            have cki : (k : Int) ≤ 7 := by omega
            have HSd : Aside0 (ES w wr.drew b g1 g2 (ls.map strV).toArray #[.int .i64 (doF l0 (k - 1)), .int .i64 0, .int .i64 0, .int .i64 0, .complex .f64 0 0, .slice none 0 0]) := ⟨HS.out.below (below_drew (Below.refl _ _))⟩
            have HGd : Aside0 (GV wr.drew) := ⟨HG.out.below (by rw [HBs.out]; exact HSd.out.bel)⟩
            have HWk := Aside0.mk (HW.out k)
            obtain ⟨Tk, hTk⟩ : ∃ Tk : ByteArray, (⟨(wordF (k : Int)).toArray⟩ : ByteArray) = Tk := ⟨_, rfl⟩
            rw [hTk] at HWk
            have hc0 : wr.cell? ⟨g1, 0, none⟩ = some (.string L0) := by rw [← HL0.out, ← Hl0.out]; exact piece_cell HS.out.hl (by rw [Hn.out]; decide)
            have hcmp : (Tk.toList == L0.toList) = (wordF (k : Int) == l0) := by rw [← hTk, ← HL0.out]; exact wcmp _ _
            have hd : doF l0 k = if wordF (k : Int) = l0 then (k : Int) else doF l0 (k - 1) := by
              obtain ⟨m, rfl⟩ : ∃ m, k = m + 1 := ⟨k - 1, by omega⟩
              rfl
            have Hd := Aside0.mk hd
            clear hd hTk
            by_cases hwk : wordF (k : Int) = l0
            ·
              as_aux_lemma =>
                have hcm : (Tk.toList == L0.toList) = true := by rw [hcmp]; exact beq_iff_eq.2 hwk
                have Hwk := Aside0.mk hwk
                clear hcmp hwk
                go_upto_region 8 with (fail)
                go_region_held3 (fun W' => W'.cell? ⟨g1, 0, none⟩ = some (.string L0))
                  (first | go_keep | exact hkp | fail)
                  (first | (go_at_call 20; (refine (HWk.out _ HGd.out).mono ?_); rintro o w4 ⟨rfl, HB4⟩; have HS4 := Aside0.mk (HSd.out.below HB4.out); have hkp : w4.cell? ⟨g1, 0, none⟩ = some (.string L0) := by { rw [← HL0.out, ← Hl0.out]; exact piece_cell HS4.out.hl (by rw [Hn.out]; decide) }) | fail)
                have hd0 : w4.cell? ⟨g2, 0, none⟩ = some (.int .i64 (doF l0 (k - 1))) := (blk_cell HS4.out.he 0).trans rfl
                have hd1 : w4.frozen? ⟨g2, 0, none⟩ = false := blk_frozen HS4.out.he 0
                have hk9 : (k : Int) + 1 ≤ 9 := by omega
                have HS5 : Aside0 (ES w (w4.setCell ⟨g2, 0, none⟩ (.int .i64 (k : Int))) b g1 g2 (ls.map strV).toArray #[.int .i64 (doF l0 (k + 1 - 1)), .int .i64 0, .int .i64 0, .int .i64 0, .complex .f64 0 0, .slice none 0 0]) := ⟨by
                  rw [Nat.add_sub_cancel, Hd.out, if_pos Hwk.out]
                  exact HS4.out.set (Nat.ne_of_lt Hg12.out.2) (Nat.lt_trans Hg12.out.1 Hg12.out.2) 0 _⟩
                clear HS HS4 HSd hkp hc0
                go_wp2
                go_roundw
                case rel => exact ⟨k + 1, by omega, by omega, rfl, HS5⟩
                case measure => simp [intOf]; omega
            · have hcm : (Tk.toList == L0.toList) = false := by rw [hcmp]; exact beq_eq_false_iff_ne.2 hwk
              have Hwk := Aside0.mk hwk
              clear hcmp hwk
              go_upto_region 8 with (fail)
              go_region_held3 (fun W' => W'.cell? ⟨g1, 0, none⟩ = some (.string L0))
                (first | go_keep | exact hkp | fail)
                (first | (go_at_call 20; (refine (HWk.out _ HGd.out).mono ?_); rintro o w4 ⟨rfl, HB4⟩; have HS4 := Aside0.mk (HSd.out.below HB4.out); have hkp : w4.cell? ⟨g1, 0, none⟩ = some (.string L0) := by { rw [← HL0.out, ← Hl0.out]; exact piece_cell HS4.out.hl (by rw [Hn.out]; decide) }) | fail)
              have hk9 : (k : Int) + 1 ≤ 9 := by omega
              have HS5 : Aside0 (ES w w4 b g1 g2 (ls.map strV).toArray #[.int .i64 (doF l0 (k + 1 - 1)), .int .i64 0, .int .i64 0, .int .i64 0, .complex .f64 0 0, .slice none 0 0]) := ⟨by
                rw [Nat.add_sub_cancel, Hd.out, if_neg Hwk.out]
                exact HS4.out⟩
              clear HS HS4 HSd hkp hc0
              go_wp2
              go_roundw
              case rel => exact ⟨k + 1, by omega, by omega, rfl, HS5⟩
              case measure => simp [intOf]; omega
        ·
          as_aux_lemma =>
            obtain rfl : k = 8 := by omega
            clear HW
            obtain ⟨d, hd⟩ : ∃ d, doF l0 (8 - 1) = d := ⟨_, rfl⟩
            rw [hd] at HS
            have Hd : Aside0 (doF (ls.getD 0 []) 7 = d) := ⟨by rw [Hl0.out]; exact hd⟩
            clear hd
            go_upto_region 12 with (fail)
            obtain ⟨g8, hg8⟩ : ∃ g8, wr.heap.size = g8 := ⟨_, rfl⟩
            have h8b : (wr.alloc (.cells #[.int .i64 0, .int .i64 0, .int .i64 0, .int .i64 0, .int .i64 0, .int .i64 0, .int .i64 0] 56)).heap[wr.heap.size]? = some (.cells (nc ls 1) 56 (0, 0)) := blk_new wr _
            have HS8 : Aside0 (ES w (wr.alloc (.cells #[.int .i64 0, .int .i64 0, .int .i64 0, .int .i64 0, .int .i64 0, .int .i64 0, .int .i64 0] 56)) b g1 g2 (ls.map strV).toArray #[.int .i64 d, .int .i64 0, .int .i64 0, .int .i64 0, .complex .f64 0 0, .slice none 0 0]) := ⟨HS.out.below (below_alloc (Below.refl _ _) _)⟩
            have H28 : Aside0 (g2 < g8) := ⟨by rw [← hg8]; exact blk_lt HS.out.he⟩
            generalize wr.alloc (.cells #[.int .i64 0, .int .i64 0, .int .i64 0, .int .i64 0, .int .i64 0, .int .i64 0, .int .i64 0] 56) = w6 at *
            rw [hg8] at h8b ⊢
            have H8b := Aside0.mk h8b
            clear h8b hg8 HS
            go_upto_region 13 with (fail)
            go_loopw [7, 9] (fun v7 v9 wq => ∃ i : Nat, 1 ≤ i ∧ i ≤ 6 ∧ v9 = .int .i64 (i : Int) ∧ v7 = .bool (okF ls (i - 1)) ∧ Aside0 (ES w wq b g1 g2 (ls.map strV).toArray #[.int .i64 d, .int .i64 0, .int .i64 0, .int .i64 0, .complex .f64 0 0, .slice none 0 0]) ∧ Aside0 (wq.heap[g8]? = some (.cells (nc ls i) 56 (0, 0)))) (fun _ v9 _ => 8 - (intOf v9).toNat)
            case atStart => exact ⟨1, by decide, by decide, rfl, rfl, HS8, H8b⟩
            case round =>
              clear HS8 H8b
              obtain ⟨i, hi1, hi6, rfl, rfl, HS, H8⟩ := hrel
              by_cases ci : i < 6
              ·
                as_aux_lemma =>
                  have cii : (i : Int) < 6 := by omega
                  have cij : (i : Int) < 7 := by omega
                  have hi0 : (0 : Int) ≤ (i : Int) := by omega
                  have hin : (i : Int).toNat = i := by omega
                  obtain ⟨Li, hLi⟩ : ∃ Li : ByteArray, (⟨(ls.getD i []).toArray⟩ : ByteArray) = Li := ⟨_, rfl⟩
                  obtain ⟨a, ha⟩ : ∃ a, (numF (ls.getD i [])).1 = a := ⟨_, rfl⟩
                  obtain ⟨f, hf⟩ : ∃ f, (numF (ls.getD i [])).2 = f := ⟨_, rfl⟩
                  have HN := Aside0.mk (numberC Li (by rw [← hLi, tl_str]; have := HSl.out i; omega) wr (HG.out.below (by rw [HBs.out]; exact HS.out.bel)))
                  rw [← hLi] at HN
                  have e0 : ((⟨(ls.getD i []).toArray⟩ : ByteArray)).data.toList = ls.getD i [] := rfl
                  rw [e0, ha, hf, hLi] at HN
                  have hci : wr.cell? ⟨g1, i, none⟩ = some (.string Li) := by rw [← hLi]; exact piece_cell HS.out.hl (by rw [Hn.out]; omega)
                  have Hset := Aside0.mk (nc_set ls i hi1 ci)
                  rw [ha] at Hset
                  have hok : okF ls (i + 1 - 1) = (okF ls (i - 1) && f) := by
                    obtain ⟨m, rfl⟩ : ∃ m, i = m + 1 := ⟨i - 1, by omega⟩
                    rw [← hf]; rfl
                  have Hok := Aside0.mk hok
                  have hz8 : ∃ v8, wr.cell? ⟨g8, i, none⟩ = some v8 := by
                    have hlt : i < (nc ls i).size := by unfold nc; simp; omega
                    exact ⟨_, (blk_cell H8.out i).trans (Array.getElem?_eq_getElem hlt)⟩
                  obtain ⟨v8, hz8⟩ := hz8
                  have H88 := Aside0.mk hz8
                  clear e0 ha hf hLi hok hz8
                  cases hq : okF ls (i - 1) with
                  | true =>
                    as_aux_lemma =>
                      rw [hq] at Hok
                      clear hq
                      go_upto_region 16 with (first | (go_at_call 21; (refine HN.out.mono ?_); rintro o w7 ⟨rfl, HB7⟩))
                      have HS7 := Aside0.mk (HS.out.below HB7.out)
                      have H87 := Aside0.mk ((HB7.out.block g8 (blk_lt H8.out)).trans H8.out)
                      have hz7 : w7.cell? ⟨g8, i, none⟩ = some v8 := (HB7.out.cell (p := ⟨g8, i, none⟩) (blk_lt H8.out)).trans H88.out
                      have hf7 := blk_frozen H87.out i
                      have HS9 : Aside0 (ES w (w7.setCell ⟨g8, i, none⟩ (.int .i64 a)) b g1 g2 (ls.map strV).toArray #[.int .i64 d, .int .i64 0, .int .i64 0, .int .i64 0, .complex .f64 0 0, .slice none 0 0]) := ⟨by
                        have h1 := Hg12.out
                        have h2 := H28.out
                        exact ⟨blk_far HS7.out.hr (by show b ≠ g8; omega) _, blk_far HS7.out.hl (by show g1 ≠ g8; omega) _, blk_far HS7.out.he (by show g2 ≠ g8; omega) _, HS7.out.bel.setCell (by show b ≤ g8; omega) _⟩⟩
                      have H89 : Aside0 ((w7.setCell ⟨g8, i, none⟩ (.int .i64 a)).heap[g8]? = some (.cells (nc ls (i + 1)) 56 (0, 0))) := ⟨blk_put H87.out i _ Hset.out⟩
                      clear HS HS7 H87 HB7 H8 HN H88
                      go_wp2
                      refine ⟨?_, ?measure⟩
                      iterate 23 (apply Exists.intro)
                      refine ⟨?rel, rfl⟩
                      case rel => exact ⟨i + 1, by omega, by omega, rfl, by rw [Hok.out]; rfl, HS9, H89⟩
                      case measure => simp [intOf]; omega
                  | false =>
                    as_aux_lemma =>
                      rw [hq] at Hok
                      clear hq
                      go_upto_region 16 with (first | (go_at_call 21; (refine HN.out.mono ?_); rintro o w7 ⟨rfl, HB7⟩))
                      have HS7 := Aside0.mk (HS.out.below HB7.out)
                      have H87 := Aside0.mk ((HB7.out.block g8 (blk_lt H8.out)).trans H8.out)
                      have hz7 : w7.cell? ⟨g8, i, none⟩ = some v8 := (HB7.out.cell (p := ⟨g8, i, none⟩) (blk_lt H8.out)).trans H88.out
                      have hf7 := blk_frozen H87.out i
                      have HS9 : Aside0 (ES w (w7.setCell ⟨g8, i, none⟩ (.int .i64 a)) b g1 g2 (ls.map strV).toArray #[.int .i64 d, .int .i64 0, .int .i64 0, .int .i64 0, .complex .f64 0 0, .slice none 0 0]) := ⟨by
                        have h1 := Hg12.out
                        have h2 := H28.out
                        exact ⟨blk_far HS7.out.hr (by show b ≠ g8; omega) _, blk_far HS7.out.hl (by show g1 ≠ g8; omega) _, blk_far HS7.out.he (by show g2 ≠ g8; omega) _, HS7.out.bel.setCell (by show b ≤ g8; omega) _⟩⟩
                      have H89 : Aside0 ((w7.setCell ⟨g8, i, none⟩ (.int .i64 a)).heap[g8]? = some (.cells (nc ls (i + 1)) 56 (0, 0))) := ⟨blk_put H87.out i _ Hset.out⟩
                      clear HS HS7 H87 HB7 H8 HN H88
                      go_wp2
                      refine ⟨?_, ?measure⟩
                      iterate 23 (apply Exists.intro)
                      refine ⟨?rel, rfl⟩
                      case rel => exact ⟨i + 1, by omega, by omega, rfl, by rw [Hok.out]; rfl, HS9, H89⟩
                      case measure => simp [intOf]; omega
              ·
                as_aux_lemma =>
                  obtain rfl : i = 6 := by omega
                  have hqe : ∃ q, okF ls (6 - 1) = q := ⟨_, rfl⟩
                  obtain ⟨q, hq⟩ := hqe
                  have Hq : Aside0 (okF ls 5 = q) := ⟨hq⟩
                  rw [hq]
                  have Hr1 := Aside0.mk HRe.out
                  rw [if_pos trivial] at Hr1
                  rw [Hd.out, Hq.out] at Hr1
                  have e1 : wr.cell? ⟨g8, 1, none⟩ = some (.int .i64 (numF (ls.getD 1 [])).1) := (blk_cell H8.out 1).trans rfl
                  have e2 : wr.cell? ⟨g8, 2, none⟩ = some (.int .i64 (numF (ls.getD 2 [])).1) := (blk_cell H8.out 2).trans rfl
                  have e3 : wr.cell? ⟨g8, 3, none⟩ = some (.int .i64 (numF (ls.getD 3 [])).1) := (blk_cell H8.out 3).trans rfl
                  have e4 : wr.cell? ⟨g8, 4, none⟩ = some (.int .i64 (numF (ls.getD 4 [])).1) := (blk_cell H8.out 4).trans rfl
                  have e5 : wr.cell? ⟨g8, 5, none⟩ = some (.int .i64 (numF (ls.getD 5 [])).1) := (blk_cell H8.out 5).trans rfl
                  have Hb1 := Aside0.mk (numF_in (ls.getD 1 []))
                  have Hb2 := Aside0.mk (numF_in (ls.getD 2 []))
                  have Hb3 := Aside0.mk (numF_in (ls.getD 3 []))
                  generalize (numF (ls.getD 1 [])).1 = a1 at *
                  generalize (numF (ls.getD 2 [])).1 = a2 at *
                  generalize (numF (ls.getD 3 [])).1 = a3 at *
                  generalize (numF (ls.getD 4 [])).1 = a4 at *
                  generalize (numF (ls.getD 5 [])).1 = a5 at *
                  have d1 : wr.cell? ⟨g2, 1, none⟩ = some (.int .i64 0) := (blk_cell HS.out.he 1).trans rfl
                  have d2 : wr.cell? ⟨g2, 2, none⟩ = some (.int .i64 0) := (blk_cell HS.out.he 2).trans rfl
                  have d3 : wr.cell? ⟨g2, 3, none⟩ = some (.int .i64 0) := (blk_cell HS.out.he 3).trans rfl
                  have d4 : wr.cell? ⟨g2, 4, none⟩ = some (.complex .f64 0 0) := (blk_cell HS.out.he 4).trans rfl
                  have f1 := blk_frozen HS.out.he 1
                  have f2 := blk_frozen HS.out.he 2
                  have f3 := blk_frozen HS.out.he 3
                  have f4 := blk_frozen HS.out.he 4
                  clear hq HRe Hq Hd
                  go_upto_region 17 with (fail)
                  go_region
                  ·
                    as_aux_lemma =>
                      have HSa : Aside0 (ES w ((((wr.setCell ⟨g2, 1, none⟩ (.int .i64 a1)).setCell ⟨g2, 2, none⟩ (.int .i64 a2)).setCell ⟨g2, 3, none⟩ (.int .i64 a3)).setCell ⟨g2, 4, none⟩ (.complex .f64 (floatOfInt .f64 a4) (floatOfInt .f64 a5))).drew b g1 g2 (ls.map strV).toArray #[.int .i64 d, .int .i64 a1, .int .i64 a2, .int .i64 a3, .complex .f64 (fw a4) (fw a5), .slice none 0 0]) := ⟨by
                        have h1 := Hg12.out
                        exact ((((HS.out.set (by omega) (by omega) 1 (.int .i64 a1)).set (by omega) (by omega) 2 (.int .i64 a2)).set (by omega) (by omega) 3 (.int .i64 a3)).set (by omega) (by omega) 4 (.complex .f64 (fw a4) (fw a5))).below (below_drew (Below.refl _ _))⟩
                      clear e1 e2 e3 e4 e5 d1 d2 d3 d4 f1 f2 f3 f4 HS H8
                      generalize ((((wr.setCell ⟨g2, 1, none⟩ (.int .i64 a1)).setCell ⟨g2, 2, none⟩ (.int .i64 a2)).setCell ⟨g2, 3, none⟩ (.int .i64 a3)).setCell ⟨g2, 4, none⟩ (.complex .f64 (floatOfInt .f64 a4) (floatOfInt .f64 a5))).drew = wa at *
                      have hc6 : wa.cell? ⟨g1, 6, none⟩ = some (strV (ls.getD 6 [])) := piece_cell HSa.out.hl (by rw [Hn.out]; decide)
                      have HU := Aside0.mk (unbytesC (ls.getD 6 []) (by have := HSl.out 6; omega) wa)
                      have HUl := Aside0.mk (unb_len (ls.getD 6 []))
                      have HUs := Aside0.mk (HSl.out 6)
                      obtain ⟨uq, huq⟩ : ∃ uq, (unbF (ls.getD 6 [])).2 = uq := ⟨_, rfl⟩
                      obtain ⟨ud, hud⟩ : ∃ ud, (unbF (ls.getD 6 [])).1 = ud := ⟨_, rfl⟩
                      rw [huq, hud] at HU Hr1
                      rw [hud] at HUl
                      unfold strV at hc6
                      generalize (⟨(ls.getD 6 []).toArray⟩ : ByteArray) = L6 at *
                      clear huq hud
                      go_upto_region 19 with (first | (go_at_call 22; (refine HU.out.mono ?_); rintro o wb ⟨vb, rfl, HOb, HBb⟩))
                      have HSb := Aside0.mk (HSa.out.below HBb.out)
                      obtain ⟨Ab, cb, rfl⟩ : ∃ Ab cb, vb = .slice Ab ud.length cb := by
                        rcases HOb.out.1.2 with ⟨e, hz⟩ | ⟨k2, cap, cur, e, -⟩
                        · exact ⟨none, 0, by rw [hz]; exact e⟩
                        · exact ⟨_, _, e⟩
                      have d5 : wb.cell? ⟨g2, 5, none⟩ = some (.slice none 0 0) := (blk_cell HSb.out.he 5).trans rfl
                      have f5 := blk_frozen HSb.out.he 5
                      have HSc : Aside0 (ES w (wb.setCell ⟨g2, 5, none⟩ (.slice Ab ud.length cb)) b g1 g2 (ls.map strV).toArray #[.int .i64 d, .int .i64 a1, .int .i64 a2, .int .i64 a3, .complex .f64 (fw a4) (fw a5), .slice Ab ud.length cb]) := ⟨by
                        have h1 := Hg12.out
                        exact HSb.out.set (by omega) (by omega) 5 _⟩
                      have HOc : Aside0 (OwnB (b + 1) (.slice Ab ud.length cb) ud (wb.setCell ⟨g2, 5, none⟩ (.slice Ab ud.length cb))) := ⟨by
                        have h1 := Hg12.out
                        have h2 := blk_lt HSa.out.he
                        exact (HOb.out.set (by show g2 < _; omega) _).low (by omega)⟩
                      go_upto_region 20 with (fail)
                      generalize wb.setCell ⟨g2, 5, none⟩ (.slice Ab ud.length cb) = wc at *
                      clear d5 f5 HSb HOb HSa hc6 HBb HU
                      have HGc : Aside0 (GV wc) := ⟨HG.out.below (by rw [HBs.out]; exact HSc.out.bel)⟩
                      have HE : Aside0 (EvOK ⟨d, a1, a2, a3, fw a4, fw a5, ud⟩) := ⟨⟨Hb1.out, Hb2.out, Hb3.out, by have h1 := HUl.out; have h2 := HUs.out; show ud.length ≤ 50000; omega, HOc.out.2⟩⟩
                      have HLn := Aside0.mk (fun W (hW : Below wc.heap.size wc W) => lineC ⟨d, a1, a2, a3, fw a4, fw a5, ud⟩ Ab cb W (HGc.out.below hW) HE.out (Kd.C_below (OwnB.C HOc.out) hW))
                      have k0 : wc.cell? ⟨g2, 0, none⟩ = some (.int .i64 d) := (blk_cell HSc.out.he 0).trans rfl
                      have k1 : wc.cell? ⟨g2, 1, none⟩ = some (.int .i64 a1) := (blk_cell HSc.out.he 1).trans rfl
                      have k2 : wc.cell? ⟨g2, 2, none⟩ = some (.int .i64 a2) := (blk_cell HSc.out.he 2).trans rfl
                      have k3 : wc.cell? ⟨g2, 3, none⟩ = some (.int .i64 a3) := (blk_cell HSc.out.he 3).trans rfl
                      have k4 : wc.cell? ⟨g2, 4, none⟩ = some (.complex .f64 (fw a4) (fw a5)) := (blk_cell HSc.out.he 4).trans rfl
                      have k5 : wc.cell? ⟨g2, 5, none⟩ = some (.slice Ab ud.length cb) := (blk_cell HSc.out.he 5).trans rfl
                      obtain ⟨r0, hr0⟩ : ∃ v, wc.cell? ⟨b, 0, none⟩ = some v := ⟨_, (blk_cell HSc.out.hr 0).trans rfl⟩
                      obtain ⟨r1, hr1⟩ : ∃ v, wc.cell? ⟨b, 1, none⟩ = some v := ⟨_, (blk_cell HSc.out.hr 1).trans rfl⟩
                      obtain ⟨r2, hr2⟩ : ∃ v, wc.cell? ⟨b, 2, none⟩ = some v := ⟨_, (blk_cell HSc.out.hr 2).trans rfl⟩
                      obtain ⟨r3, hr3⟩ : ∃ v, wc.cell? ⟨b, 3, none⟩ = some v := ⟨_, (blk_cell HSc.out.hr 3).trans rfl⟩
                      obtain ⟨r4, hr4⟩ : ∃ v, wc.cell? ⟨b, 4, none⟩ = some v := ⟨_, (blk_cell HSc.out.hr 4).trans rfl⟩
                      obtain ⟨r5, hr5⟩ : ∃ v, wc.cell? ⟨b, 5, none⟩ = some v := ⟨_, (blk_cell HSc.out.hr 5).trans rfl⟩
                      have q0 := blk_frozen HSc.out.hr 0
                      have q1 := blk_frozen HSc.out.hr 1
                      have q2 := blk_frozen HSc.out.hr 2
                      have q3 := blk_frozen HSc.out.hr 3
                      have q4 := blk_frozen HSc.out.hr 4
                      have q5 := blk_frozen HSc.out.hr 5
                      clear HE
                      generalize fw a4 = x4 at *
                      generalize fw a5 = x5 at *
                      have HSk := Aside0.mk (fun W (hW : Below wc.heap.size wc W) => by
                        have h := HSc.out.below hW
                        exact (And.intro ((blk_cell h.he 0).trans rfl) (And.intro ((blk_cell h.he 1).trans rfl) (And.intro ((blk_cell h.he 2).trans rfl) (And.intro ((blk_cell h.he 3).trans rfl) (And.intro ((blk_cell h.he 4).trans rfl) ((blk_cell h.he 5).trans rfl))))) : W.cell? ⟨g2, 0, none⟩ = some (.int .i64 d) ∧ W.cell? ⟨g2, 1, none⟩ = some (.int .i64 a1) ∧ W.cell? ⟨g2, 2, none⟩ = some (.int .i64 a2) ∧ W.cell? ⟨g2, 3, none⟩ = some (.int .i64 a3) ∧ W.cell? ⟨g2, 4, none⟩ = some (.complex .f64 x4 x5) ∧ W.cell? ⟨g2, 5, none⟩ = some (.slice Ab ud.length cb)))
                      have hne : ¬ g2 = b := by have h1 := Hg12.out; omega
                      have hne2 : ¬ b = g2 := fun e => hne e.symm
                      cases q with
                      | false =>
                        have HRes : Aside0 (res = (⟨d, a1, a2, a3, x4, x5, ud⟩, false)) := ⟨by rw [← Hr1.out]; simp⟩
                        clear Hr1 HLn HSk
                        refine wp_region_any rfl ?_
                        refine wpAny_take (i := 1) (v := ?_) rfl (by kernel_rfl) (by kernel_rfl) (by kernel_rfl) (fun _ _ _ h => h) (Or.inl ⟨by rfl, ?hy⟩) ?_
                        case hy => (intro w; go_simp; with_reducible rfl)
                        simp only [List.getElem_toArray, List.getElem_cons_succ, List.getElem_cons_zero, Act.put, List.setIfInBounds_toArray, List.set_cons_zero, List.set_cons_succ]
                        refine wpAny_take (i := 2) (v := ?_) rfl (by kernel_rfl) (by kernel_rfl) (by kernel_rfl) (fun _ _ _ h => h) (Or.inl ⟨by rfl, ?hy⟩) ?_
                        case hy => (intro w; go_simp; with_reducible rfl)
                        simp only [List.getElem_toArray, List.getElem_cons_succ, List.getElem_cons_zero, Act.put, List.setIfInBounds_toArray, List.set_cons_zero, List.set_cons_succ]
                        refine wpAny_take (i := 3) (v := undef) rfl (by kernel_rfl) (by kernel_rfl) (by kernel_rfl) (fun _ _ _ h => h) (Or.inr ⟨by rfl, rfl⟩) ?_
                        simp only [List.getElem_toArray, List.getElem_cons_succ, List.getElem_cons_zero, Act.put, List.setIfInBounds_toArray, List.set_cons_zero, List.set_cons_succ]
                        refine wpAny_take (i := 4) (v := ?_) rfl (by kernel_rfl) (by kernel_rfl) (by kernel_rfl) (fun _ _ _ h => h) (Or.inl ⟨by rfl, ?hy⟩) ?_
                        case hy => (intro w; go_simp; with_reducible rfl)
                        simp only [List.getElem_toArray, List.getElem_cons_succ, List.getElem_cons_zero, Act.put, List.setIfInBounds_toArray, List.set_cons_zero, List.set_cons_succ]
                        refine wpAny_take (i := 5) (v := ?_) rfl (by kernel_rfl) (by kernel_rfl) (by kernel_rfl) (fun _ _ _ h => h) (Or.inl ⟨by rfl, ?hy⟩) ?_
                        case hy => (intro w; go_simp; with_reducible rfl)
                        simp only [List.getElem_toArray, List.getElem_cons_succ, List.getElem_cons_zero, Act.put, List.setIfInBounds_toArray, List.set_cons_zero, List.set_cons_succ]
                        refine wpAny_take (i := 6) (v := undef) rfl (by kernel_rfl) (by kernel_rfl) (by kernel_rfl) (fun _ _ _ h => h) (Or.inr ⟨by rfl, rfl⟩) ?_
                        simp only [List.getElem_toArray, List.getElem_cons_succ, List.getElem_cons_zero, Act.put, List.setIfInBounds_toArray, List.set_cons_zero, List.set_cons_succ]
                        refine wpAny_take (i := 7) (v := undef) rfl (by kernel_rfl) (by kernel_rfl) (by kernel_rfl) (fun _ _ _ h => h) (Or.inr ⟨by rfl, rfl⟩) ?_
                        simp only [List.getElem_toArray, List.getElem_cons_succ, List.getElem_cons_zero, Act.put, List.setIfInBounds_toArray, List.set_cons_zero, List.set_cons_succ]
                        refine wpAny_take (i := 8) (v := undef) rfl (by kernel_rfl) (by kernel_rfl) (by kernel_rfl) (fun _ _ _ h => h) (Or.inr ⟨by rfl, rfl⟩) ?_
                        simp only [List.getElem_toArray, List.getElem_cons_succ, List.getElem_cons_zero, Act.put, List.setIfInBounds_toArray, List.set_cons_zero, List.set_cons_succ]
                        refine wpAny_take (i := 9) (v := undef) rfl (by kernel_rfl) (by kernel_rfl) (by kernel_rfl) (fun _ _ _ h => h) (Or.inr ⟨by rfl, rfl⟩) ?_
                        simp only [List.getElem_toArray, List.getElem_cons_succ, List.getElem_cons_zero, Act.put, List.setIfInBounds_toArray, List.set_cons_zero, List.set_cons_succ]
                        refine wpAny_take (i := 10) (v := undef) rfl (by kernel_rfl) (by kernel_rfl) (by kernel_rfl) (fun _ _ _ h => h) (Or.inr ⟨by rfl, rfl⟩) ?_
                        simp only [List.getElem_toArray, List.getElem_cons_succ, List.getElem_cons_zero, Act.put, List.setIfInBounds_toArray, List.set_cons_zero, List.set_cons_succ]
                        refine wpAny_take (i := 11) (v := ?_) rfl (by kernel_rfl) (by kernel_rfl) (by kernel_rfl) (fun _ _ _ h => h) (Or.inl ⟨by rfl, ?hy⟩) ?_
                        case hy => (intro w; go_simp; with_reducible rfl)
                        simp only [List.getElem_toArray, List.getElem_cons_succ, List.getElem_cons_zero, Act.put, List.setIfInBounds_toArray, List.set_cons_zero, List.set_cons_succ]
                        refine wpAny_ready (rs := [0]) (by kernel_rfl) (by simp) ?_
                        refine AllReady.cons rfl (fun K' hK => ?_) AllReady.nil
                        go_simp
                        refine hK _ _ ?_
                        clear hK K'
                        refine wpAny_ready (rs := [12]) (by kernel_rfl) (by simp) ?_
                        refine AllReady.cons rfl (fun K' hK => ?_) AllReady.nil
                        refine store12 (W := wc.drew) rfl rfl rfl rfl rfl hr0 hr1 hr2 hr3 hr4 hr5 q0 q1 q2 q3 q4 q5 (hK _ _ ?_)
                        clear hK K'
                        refine wpAny_take (i := 13) (v := ?_) rfl (by kernel_rfl) (by kernel_rfl) (by kernel_rfl) (fun _ _ _ h => h) (Or.inl ⟨by rfl, ?hy⟩) ?_
                        case hy => (intro w; go_simp; with_reducible rfl)
                        simp only [List.getElem_toArray, List.getElem_cons_succ, List.getElem_cons_zero, Act.put, List.setIfInBounds_toArray, List.set_cons_zero, List.set_cons_succ]
                        refine wpAny_done (by kernel_rfl) ?_ _
                        have hE := es_end (HSc.out.below (below_drew (Below.refl wc.heap.size wc))) (HOc.out.below (below_drew (Below.refl wc.heap.size wc)))
                        generalize ((((((wc.drew.setCell ⟨b, 0, none⟩ (.int .i64 d)).setCell ⟨b, 1, none⟩ (.int .i64 a1)).setCell ⟨b, 2, none⟩ (.int .i64 a2)).setCell ⟨b, 3, none⟩ (.int .i64 a3)).setCell ⟨b, 4, none⟩ (.complex .f64 x4 x5)).setCell ⟨b, 5, none⟩ (.slice Ab ud.length cb)) = We at *
                        have HEn := Aside0.mk hE
                        clear hE
                        go_wp2
                        refine end12 (w := We) rfl rfl rfl HEn.out.1 rfl ⟨Ab, cb, by rw [HRes.out]; rfl, ⟨?_⟩, ⟨?_⟩⟩
                        · rw [HRes.out, HBs.out]
                          exact HEn.out.2.1
                        · rw [HBs.out]
                          exact HEn.out.2.2
                      | true =>
                        cases uq with
                        | false =>
                          have HRes : Aside0 (res = (⟨d, a1, a2, a3, x4, x5, ud⟩, false)) := ⟨by rw [← Hr1.out]; simp⟩
                          clear Hr1 HLn HSk
                          refine wp_region_any rfl ?_
                          refine wpAny_take (i := 1) (v := ?_) rfl (by kernel_rfl) (by kernel_rfl) (by kernel_rfl) (fun _ _ _ h => h) (Or.inl ⟨by rfl, ?hy⟩) ?_
                          case hy => (intro w; go_simp; with_reducible rfl)
                          simp only [List.getElem_toArray, List.getElem_cons_succ, List.getElem_cons_zero, Act.put, List.setIfInBounds_toArray, List.set_cons_zero, List.set_cons_succ]
                          refine wpAny_take (i := 2) (v := ?_) rfl (by kernel_rfl) (by kernel_rfl) (by kernel_rfl) (fun _ _ _ h => h) (Or.inl ⟨by rfl, ?hy⟩) ?_
                          case hy => (intro w; go_simp; with_reducible rfl)
                          simp only [List.getElem_toArray, List.getElem_cons_succ, List.getElem_cons_zero, Act.put, List.setIfInBounds_toArray, List.set_cons_zero, List.set_cons_succ]
                          refine wpAny_take (i := 3) (v := ?_) rfl (by kernel_rfl) (by kernel_rfl) (by kernel_rfl) (fun _ _ _ h => h) (Or.inl ⟨by rfl, ?hy⟩) ?_
                          case hy => (intro w; go_simp; with_reducible rfl)
                          simp only [List.getElem_toArray, List.getElem_cons_succ, List.getElem_cons_zero, Act.put, List.setIfInBounds_toArray, List.set_cons_zero, List.set_cons_succ]
                          refine wpAny_take (i := 4) (v := ?_) rfl (by kernel_rfl) (by kernel_rfl) (by kernel_rfl) (fun _ _ _ h => h) (Or.inl ⟨by rfl, ?hy⟩) ?_
                          case hy => (intro w; go_simp; with_reducible rfl)
                          simp only [List.getElem_toArray, List.getElem_cons_succ, List.getElem_cons_zero, Act.put, List.setIfInBounds_toArray, List.set_cons_zero, List.set_cons_succ]
                          refine wpAny_take (i := 5) (v := ?_) rfl (by kernel_rfl) (by kernel_rfl) (by kernel_rfl) (fun _ _ _ h => h) (Or.inl ⟨by rfl, ?hy⟩) ?_
                          case hy => (intro w; go_simp; with_reducible rfl)
                          simp only [List.getElem_toArray, List.getElem_cons_succ, List.getElem_cons_zero, Act.put, List.setIfInBounds_toArray, List.set_cons_zero, List.set_cons_succ]
                          refine wpAny_take (i := 6) (v := undef) rfl (by kernel_rfl) (by kernel_rfl) (by kernel_rfl) (fun _ _ _ h => h) (Or.inr ⟨by rfl, rfl⟩) ?_
                          simp only [List.getElem_toArray, List.getElem_cons_succ, List.getElem_cons_zero, Act.put, List.setIfInBounds_toArray, List.set_cons_zero, List.set_cons_succ]
                          refine wpAny_take (i := 7) (v := undef) rfl (by kernel_rfl) (by kernel_rfl) (by kernel_rfl) (fun _ _ _ h => h) (Or.inr ⟨by rfl, rfl⟩) ?_
                          simp only [List.getElem_toArray, List.getElem_cons_succ, List.getElem_cons_zero, Act.put, List.setIfInBounds_toArray, List.set_cons_zero, List.set_cons_succ]
                          refine wpAny_take (i := 8) (v := undef) rfl (by kernel_rfl) (by kernel_rfl) (by kernel_rfl) (fun _ _ _ h => h) (Or.inr ⟨by rfl, rfl⟩) ?_
                          simp only [List.getElem_toArray, List.getElem_cons_succ, List.getElem_cons_zero, Act.put, List.setIfInBounds_toArray, List.set_cons_zero, List.set_cons_succ]
                          refine wpAny_take (i := 9) (v := undef) rfl (by kernel_rfl) (by kernel_rfl) (by kernel_rfl) (fun _ _ _ h => h) (Or.inr ⟨by rfl, rfl⟩) ?_
                          simp only [List.getElem_toArray, List.getElem_cons_succ, List.getElem_cons_zero, Act.put, List.setIfInBounds_toArray, List.set_cons_zero, List.set_cons_succ]
                          refine wpAny_take (i := 10) (v := undef) rfl (by kernel_rfl) (by kernel_rfl) (by kernel_rfl) (fun _ _ _ h => h) (Or.inr ⟨by rfl, rfl⟩) ?_
                          simp only [List.getElem_toArray, List.getElem_cons_succ, List.getElem_cons_zero, Act.put, List.setIfInBounds_toArray, List.set_cons_zero, List.set_cons_succ]
                          refine wpAny_take (i := 11) (v := ?_) rfl (by kernel_rfl) (by kernel_rfl) (by kernel_rfl) (fun _ _ _ h => h) (Or.inl ⟨by rfl, ?hy⟩) ?_
                          case hy => (intro w; go_simp; with_reducible rfl)
                          simp only [List.getElem_toArray, List.getElem_cons_succ, List.getElem_cons_zero, Act.put, List.setIfInBounds_toArray, List.set_cons_zero, List.set_cons_succ]
                          refine wpAny_ready (rs := [0]) (by kernel_rfl) (by simp) ?_
                          refine AllReady.cons rfl (fun K' hK => ?_) AllReady.nil
                          go_simp
                          refine hK _ _ ?_
                          clear hK K'
                          refine wpAny_ready (rs := [12]) (by kernel_rfl) (by simp) ?_
                          refine AllReady.cons rfl (fun K' hK => ?_) AllReady.nil
                          refine store12 (W := wc.drew) rfl rfl rfl rfl rfl hr0 hr1 hr2 hr3 hr4 hr5 q0 q1 q2 q3 q4 q5 (hK _ _ ?_)
                          clear hK K'
                          refine wpAny_take (i := 13) (v := ?_) rfl (by kernel_rfl) (by kernel_rfl) (by kernel_rfl) (fun _ _ _ h => h) (Or.inl ⟨by rfl, ?hy⟩) ?_
                          case hy => (intro w; go_simp; with_reducible rfl)
                          simp only [List.getElem_toArray, List.getElem_cons_succ, List.getElem_cons_zero, Act.put, List.setIfInBounds_toArray, List.set_cons_zero, List.set_cons_succ]
                          refine wpAny_done (by kernel_rfl) ?_ _
                          have hE := es_end (HSc.out.below (below_drew (Below.refl wc.heap.size wc))) (HOc.out.below (below_drew (Below.refl wc.heap.size wc)))
                          generalize ((((((wc.drew.setCell ⟨b, 0, none⟩ (.int .i64 d)).setCell ⟨b, 1, none⟩ (.int .i64 a1)).setCell ⟨b, 2, none⟩ (.int .i64 a2)).setCell ⟨b, 3, none⟩ (.int .i64 a3)).setCell ⟨b, 4, none⟩ (.complex .f64 x4 x5)).setCell ⟨b, 5, none⟩ (.slice Ab ud.length cb)) = We at *
                          have HEn := Aside0.mk hE
                          clear hE
                          go_wp2
                          refine end12 (w := We) rfl rfl rfl HEn.out.1 rfl ⟨Ab, cb, by rw [HRes.out]; rfl, ⟨?_⟩, ⟨?_⟩⟩
                          · rw [HRes.out, HBs.out]
                            exact HEn.out.2.1
                          · rw [HBs.out]
                            exact HEn.out.2.2
                        | true =>
                          have HRes : Aside0 (res = (⟨d, a1, a2, a3, x4, x5, ud⟩, lineF ⟨d, a1, a2, a3, x4, x5, ud⟩ == s ++ [10])) := ⟨by rw [← Hr1.out]; simp⟩
                          obtain ⟨TT, hTT⟩ : ∃ TT : ByteArray, T ++ (⟨#[10]⟩ : ByteArray) = TT := ⟨_, rfl⟩
                          have hTl : TT.toList = s ++ [10] := by
                            rw [← hTT, ← HT.out, show ((⟨s.toArray⟩ : ByteArray) ++ (⟨#[10]⟩ : ByteArray)) = ⟨(s ++ [10]).toArray⟩ from by apply congrArg ByteArray.mk; simp]
                            exact ByteArray.toList_mk _
                          have hcat : ∀ W, (Op.stringOp .add T (⟨#[10]⟩ : ByteArray)).run Tryd.prog W = .ok (.string TT) W := fun W => by rw [← hTT]; exact run_string_add _ _ _ (by rw [← HT.out, tl_str]; omega) (by decide)
                          have HTl := Aside0.mk hTl
                          clear Hr1 hTT hTl
                          go_region_held3 (fun W' => W'.cell? ⟨g2, 0, none⟩ = some (.int .i64 d) ∧ W'.cell? ⟨g2, 1, none⟩ = some (.int .i64 a1) ∧ W'.cell? ⟨g2, 2, none⟩ = some (.int .i64 a2) ∧ W'.cell? ⟨g2, 3, none⟩ = some (.int .i64 a3) ∧ W'.cell? ⟨g2, 4, none⟩ = some (.complex .f64 x4 x5) ∧ W'.cell? ⟨g2, 5, none⟩ = some (.slice Ab ud.length cb))
                            (first | go_keep | exact HSk.out _ HBd2.out | (simp [go_sem, cell_far, hne, hne2, *]; done) | fail)
                            (first | (go_at_call 14; (refine (HLn.out _ (below_drew (Below.refl _ _))).mono ?_); rintro o wd ⟨rfl, HBd⟩; have HBd2 := Aside0.mk (Below.trans (below_drew (Below.refl wc.heap.size wc)) HBd.out); have hr2 := (HSc.out.below HBd2.out).hr; obtain ⟨m0, m1, m2, m3, m4, m5⟩ := (And.intro ((blk_cell hr2 0).trans rfl) (And.intro ((blk_cell hr2 1).trans rfl) (And.intro ((blk_cell hr2 2).trans rfl) (And.intro ((blk_cell hr2 3).trans rfl) (And.intro ((blk_cell hr2 4).trans rfl) ((blk_cell hr2 5).trans rfl))))) : wd.cell? ⟨b, 0, none⟩ = some (.int .i64 0) ∧ wd.cell? ⟨b, 1, none⟩ = some (.int .i64 0) ∧ wd.cell? ⟨b, 2, none⟩ = some (.int .i64 0) ∧ wd.cell? ⟨b, 3, none⟩ = some (.int .i64 0) ∧ wd.cell? ⟨b, 4, none⟩ = some (.complex .f64 0 0) ∧ wd.cell? ⟨b, 5, none⟩ = some (.slice none 0 0)); have n0 := blk_frozen hr2 0; have n1 := blk_frozen hr2 1; have n2 := blk_frozen hr2 2; have n3 := blk_frozen hr2 3; have n4 := blk_frozen hr2 4; have n5 := blk_frozen hr2 5; clear hr2) | fail)
                          rw [← HTl.out] at HRes
                          have hE := es_end (HSc.out.below HBd2.out) (HOc.out.below HBd2.out)
                          generalize ((((((wd.setCell ⟨b, 0, none⟩ (.int .i64 d)).setCell ⟨b, 1, none⟩ (.int .i64 a1)).setCell ⟨b, 2, none⟩ (.int .i64 a2)).setCell ⟨b, 3, none⟩ (.int .i64 a3)).setCell ⟨b, 4, none⟩ (.complex .f64 x4 x5)).setCell ⟨b, 5, none⟩ (.slice Ab ud.length cb)) = We at *
                          have HEn := Aside0.mk hE
                          clear hE
                          go_wp2
                          refine end12 (w := We) rfl rfl rfl HEn.out.1 rfl ⟨Ab, cb, by rw [HRes.out]; rfl, ⟨?_⟩, ⟨?_⟩⟩
                          · rw [HRes.out, HBs.out]
                            exact HEn.out.2.1
                          · rw [HBs.out]
                            exact HEn.out.2.2
  · have hF : res = (ev0, false) := by rw [← HRe.out]; exact if_neg h7
    subst hF
    have h7i : ¬ ((n : Int) = 7) := by omega
    clear hl2 HRe h7
    have hc0 : w2.cell? ⟨b, 0, none⟩ = some (.int .i64 0) := (blk_cell hz2 0).trans rfl
    have hc1 : w2.cell? ⟨b, 1, none⟩ = some (.int .i64 0) := (blk_cell hz2 1).trans rfl
    have hc2 : w2.cell? ⟨b, 2, none⟩ = some (.int .i64 0) := (blk_cell hz2 2).trans rfl
    have hc3 : w2.cell? ⟨b, 3, none⟩ = some (.int .i64 0) := (blk_cell hz2 3).trans rfl
    have hc4 : w2.cell? ⟨b, 4, none⟩ = some (.complex .f64 0 0) := (blk_cell hz2 4).trans rfl
    have hc5 : w2.cell? ⟨b, 5, none⟩ = some (.slice none 0 0) := (blk_cell hz2 5).trans rfl
    have hf0 := blk_frozen hz2 0
    have hf1 := blk_frozen hz2 1
    have hf2 := blk_frozen hz2 2
    have hf3 := blk_frozen hz2 3
    have hf4 := blk_frozen hz2 4
    have hf5 := blk_frozen hz2 5
    have Hz := Aside0.mk (blk_put (blk_put (blk_put (blk_put (blk_put (blk_put hz2 0 (.int .i64 0) rfl) 1 (.int .i64 0) rfl) 2 (.int .i64 0) rfl) 3 (.int .i64 0) rfl) 4 (.complex .f64 0 0) rfl) 5 (.slice none 0 0) rfl)
    clear hz2
    go_wp2
    refine end12 rfl rfl rfl Hz.out rfl ⟨none, 0, rfl, ⟨OwnB.nil _ _⟩, ⟨?_⟩⟩
    rw [HBs.out]
    exact (((((HB2.out.setCell (Nat.le_refl _) _).setCell (Nat.le_refl _) _).setCell (Nat.le_refl _) _).setCell (Nat.le_refl _) _).setCell (Nat.le_refl _) _).setCell (Nat.le_refl _) _
end Go.Proofs.YthdmeffjiljdeaaDoor.M
