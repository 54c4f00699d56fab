/- Tales: the line of an event; by hand. -/
import Derived.Test.YthdmeffjiljdeaaDoorD
namespace Go.Proofs.YthdmeffjiljdeaaDoor.M
open Go.RowKit Go.Proofs.YthdmeffjiljdeaaDoorW.PrintWords Go.Proofs.YthdmeffjiljdeaaDoorW.PrintLast Go.Proofs.YthdmeffjiljdeaaDoorW.PrintMore Go.Proofs.YthdmeffjiljdeaaDoor.Rw Go.Proofs.YthdmeffjiljdeaaDoor.Fl
set_option linter.unusedVariables false
set_option linter.unusedSimpArgs false
open Go.Sort in
theorem below_grow (w : World) (k : Nat) (os : Array Obj) : Below w.heap.size w (grow (w.drewN k) os) :=
  ⟨rfl, rfl, rfl, by unfold grow; simp, fun i hi => by unfold grow; simp [Array.getElem?_append, hi]⟩
abbrev strV (l : List UInt8) : Value := .string ⟨l.toArray⟩
theorem itoaC (n : Int) (h0 : -9223372036854775808 ≤ n) (h1 : n ≤ 9223372036854775807) (w : World) (h : GV w) : Calls Tryd.prog 25 #[.int .i64 n] w fun e w' => e = .returned (strV (Lib.itoa n)) ∧ Aside0 (Below w.heap.size w w') := by
  refine (Tryd.strconv_Itoa n h0 h1 w h.pw).mono fun e w' ⟨he, k, os, hw⟩ => ⟨he, ⟨?_⟩⟩
  rw [hw]
  exact below_grow w k os
/-- a row of words that is the call's own, and a block that is another -/
structure SL (base q : Nat) (ob : Obj) (v : Value) (l : List (List UInt8)) (W0 W : World) : Prop where
  own : W.ownsRow base 9 1 v l.length (l.map strV)
  ne : v.ownBlock ≠ some q
  hq : W.heap[q]? = some ob
  bel : Below base W0 W
theorem SL.below {base q : Nat} {ob : Obj} {v : Value} {l : List (List UInt8)} {W0 W W1 : World} (h : SL base q ob v l W0 W) (hb : Below W.heap.size W W1) (h0 : base ≤ W.heap.size) : SL base q ob v l W0 W1 :=
  ⟨own_move h.own (fun k hk => hb.block k ((h.own.lt k hk).2)), h.ne, (hb.block q (Array.getElem?_eq_some_iff.1 h.hq).1).trans h.hq, Below.trans h.bel (hb.mono h0)⟩
/-- the append of one word -/
theorem word_step {ops : Array Oper} {rest : List Oper} {o : Oper} {a : Act} {W W2 : World} {Q : Exit → Act → World → Prop} {base p q : Nat} {ob : Obj} {v : Value} {l : List (List UInt8)} {s : List UInt8} {w0 : World}
    (hgd : o.guard = none) (sx x : Operand) (ho : o.op = .call { callee := .builtin .append, args := #[sx, x], argTypes := #[33, 33] }) (hs : a.eval sx = v) (hx : a.eval x = .slice (some ⟨p, 0, none⟩) 1 1)
    (h : SL base q ob v l w0 W) (hn : l.length ≤ 1000) (hb : Below W.heap.size W W2) (hq : W2.heap[p]? = some (.cells #[strV s] 9 (0, 0))) (hbase : base ≤ W.heap.size)
    (hK : ∀ gg cap W3, Aside0 (SL base q ob (.slice (some ⟨gg, 0, none⟩) (l.length + 1) cap) (l ++ [s]) w0 W3) → wpList Tryd.prog ops Q rest (a.put o.dst (.slice (some ⟨gg, 0, none⟩) (l.length + 1) cap)) W3) :
    wpList Tryd.prog ops Q (o :: rest) a W2 := by
  obtain ⟨i9, hi9, hz⟩ := Option.map_eq_some_iff.1 info9
  simp only [Prod.mk.injEq] at hz
  have h2 := h.below hb hbase
  have hlen : base ≤ W2.heap.size := Nat.le_trans hbase hb.size
  refine wpList_append_lies W2 hgd sx x 33 ho base 9 i9 (.string ByteArray.empty) 1 16 Tryd.underlying33 hi9 hz.1 hz.2.1 hz.2.2 rfl (by decide) v l.length _ hs h2.own ⟨p, 0, none⟩ 1 1 [strV s] hx rfl (fun j y hy => World.news_of_block hq j y (by simpa using hy)) (by simp [Value.oneCell', strV]) (by decide) (Nat.le_trans (Nat.add_le_add_right hn 1) (by decide)) (by omega) hlen _ rfl (fun gg cap W3 h3 h4 h5 h6 => ?_)
  have hql : q < W2.heap.size := (Array.getElem?_eq_some_iff.1 h2.hq).1
  refine hK gg cap W3 ⟨⟨?_, ?_, ?_, ?_⟩⟩
  · rw [List.map_append, List.length_append]; exact h3
  · intro e
    have e2 : gg = q := Option.some.inj e
    rcases h5 with h5 | h5
    · exact h2.ne (h5.trans (congrArg some e2))
    · omega
  · exact (h4.block q hql (fun e => h2.ne e.symm)).trans h2.hq
  · exact Below.grown h2.bel h4 hlen (fun k hk => (h2.own.lt k hk).1)
theorem SL.joinC {base q : Nat} {ob : Obj} {gg cap n : Nat} {l : List (List UInt8)} {W0 W : World} (h : SL base q ob (.slice (some ⟨gg, 0, none⟩) n cap) l W0 W) (hn : l.length = n) (hl : (Lib.join l [32]).length ≤ 140737488355328) (h1 : n ≤ 1000) :
    Calls Tryd.prog 26 #[.slice (some ⟨gg, 0, none⟩) n cap, .string ⟨#[32]⟩] W fun e w' => e = .returned (strV (Lib.join l [32])) ∧ Aside0 (Below W.heap.size W w') := by
  subst hn
  have hm : (l.map fun x : List UInt8 => (⟨x.toArray⟩ : ByteArray)).map (·.data.toList) = l := by rw [List.map_map]; exact (List.map_congr_left (fun x _ => rfl)).trans (List.map_id l)
  have hcells := h.own.cells (g := gg) rfl
  have hcap : l.length ≤ cap ∧ gg < W.heap.size := by
    refine ⟨?_, (h.own.lt gg rfl).2⟩
    rcases h.own.2 with ⟨e, _⟩ | ⟨g', cap', cur, e, _, _, hle, _⟩
    · cases e
    · cases e; exact hle
  have := Tryd.strings_Join gg 0 cap (l.map fun x : List UInt8 => (⟨x.toArray⟩ : ByteArray)) ⟨#[32]⟩ W (fun j x hx => by
    have h2 := hcells j (strV x.data.toList) (by
      rw [List.getElem?_map] at hx ⊢
      cases hj : l[j]? with
      | none => rw [hj] at hx; cases hx
      | some y => rw [hj] at hx; cases hx; rfl)
    rw [Nat.zero_add]
    have h3 : (⟨gg, 0, none⟩ : Addr).add j = ⟨gg, j, none⟩ := by unfold Addr.add; split <;> simp_all
    rw [h3] at h2
    exact h2) hcap.2 (by rw [List.length_map]; omega) (by rw [List.length_map]; exact hcap.1) (by rw [hm]; exact hl)
  rw [List.length_map, hm] at this
  exact this.mono fun e w' ⟨he, hb⟩ => ⟨he, ⟨hb⟩⟩
/-- an event as numbers -/
structure Ev where
  «do» : Int
  lpn : Int
  page : Int
  cell : Int
  re : Nat
  im : Nat
  data : List Int
def Ev.cells (e : Ev) (v : Value) : Array Value := #[.int .i64 e.do, .int .i64 e.lpn, .int .i64 e.page, .int .i64 e.cell, .complex .f64 e.re e.im, v]
def lineF (e : Ev) : List UInt8 :=
  if wordF e.do = [] ∨ e.lpn < 0 ∨ e.page < 0 ∨ e.cell < 0 ∨ wholeF e.re = false ∨ wholeF e.im = false then [] else
    Lib.join [wordF e.do, Lib.itoa e.lpn, Lib.itoa e.page, Lib.itoa e.cell, Lib.itoa (partF e.re), Lib.itoa (partF e.im), (bytesB e.data).data.toList] [32] ++ [10]
theorem nDigits_le : ∀ (k u : Nat), u < 10 ^ (k + 1) → Lib.nDigits u ≤ k + 1
  | 0, u, h => by rw [Lib.nDigits_small (by simpa using h)]; exact Nat.le_refl _
  | k + 1, u, h => by
    by_cases hu : u < 10
    · rw [Lib.nDigits_small hu]; omega
    · rw [Lib.nDigits_big hu]
      have := nDigits_le k (u / 10) (by rw [Nat.pow_succ] at h; omega)
      omega
theorem itoa_len {n : Int} (h0 : -9223372036854775808 ≤ n) (h1 : n ≤ 9223372036854775807) : (Lib.itoa n).length ≤ 20 := by
  unfold Lib.itoa
  split
  · rw [List.length_cons, Lib.decDigits_length]
    have := nDigits_le 18 n.natAbs (by show n.natAbs < 10000000000000000000; omega)
    omega
  · rw [Lib.decDigits_length]
    have := nDigits_le 18 n.toNat (by show n.toNat < 10000000000000000000; omega)
    omega
theorem wordF_len (n : Int) : (wordF n).length ≤ 7 := by
  unfold wordF
  repeat' split
  all_goals decide
/-- what an event must be -/
structure EvOK (e : Ev) : Prop where
  i1 : -9223372036854775808 ≤ e.lpn ∧ e.lpn ≤ 9223372036854775807
  i2 : -9223372036854775808 ≤ e.page ∧ e.page ≤ 9223372036854775807
  i3 : -9223372036854775808 ≤ e.cell ∧ e.cell ≤ 9223372036854775807
  dl : e.data.length ≤ 50000
  dx : ∀ x ∈ e.data, 0 ≤ x ∧ x ≤ 255
set_option maxHeartbeats 3200000 in
theorem lineC (e : Ev) (A : Option Addr) (c : Nat) (w : World) (h : GV w) (hE : EvOK e) (hC : Kd.C (Kd.int .u8) w A e.data.length e.data) :
    Calls Tryd.prog 14 #[.agg (e.cells (.slice A e.data.length c))] w fun o w' => o = .returned (strV (lineF e)) ∧ Aside0 (Below w.heap.size w w') := by
  obtain ⟨d, lpn, page, cell, re, im, data⟩ := e
  dsimp only at hC
  have HC := Aside0.mk hC
  have HE := Aside0.mk hE
  have HG := Aside0.mk h
  have hbox : (w.alloc (.cells (Ev.cells ⟨d, lpn, page, cell, re, im, data⟩ (.slice A data.length c)) 32 (0, 0))).heap[w.heap.size]? = some (.cells (Ev.cells ⟨d, lpn, page, cell, re, im, data⟩ (.slice A data.length c)) 32 (0, 0)) := blk_new w _
  have HB1 := Aside0.mk (below_alloc (Below.refl w.heap.size w) (.cells (Ev.cells ⟨d, lpn, page, cell, re, im, data⟩ (.slice A data.length c)) 32 (0, 0)))
  have HW := Aside0.mk (fun W (hG : GV W) => wordC d W hG)
  have HWr := Aside0.mk (wholeC re)
  have HWi := Aside0.mk (wholeC im)
  obtain ⟨T, hT⟩ : ∃ T : ByteArray, (⟨(wordF d).toArray⟩ : ByteArray) = T := ⟨_, rfl⟩
  obtain ⟨res, hres⟩ : ∃ res, lineF ⟨d, lpn, page, cell, re, im, data⟩ = res := ⟨_, rfl⟩
  have HRe := Aside0.mk hres
  dsimp only
  rw [hres]
  rw [hT] at HW
  have HT := Aside0.mk hT
  clear h hC hE hres hT
  unfold Ev.cells at hbox HB1 ⊢
  dsimp only at hbox HB1 ⊢
  go_enter Tryd.func14, Tryd.ntmps14
  go_upto_region 1 with (fail)
  generalize w.alloc (.cells #[.int .i64 d, .int .i64 lpn, .int .i64 page, .int .i64 cell, .complex .f64 re im, .slice A data.length c] 32) = w1 at *
  have hG1 : GV w1 := HG.out.below HB1.out
  have HW1 := Aside0.mk (HW.out w1 hG1)
  obtain ⟨b, hb⟩ : ∃ b, w.heap.size = b := ⟨_, rfl⟩
  rw [hb] at hbox ⊢ HB1
  have HBs := Aside0.mk hb
  have hbl : b < w1.heap.size := (Array.getElem?_eq_some_iff.1 hbox).1
  have Hbox := Aside0.mk hbox
  have hc0 := (blk_cell hbox 0).trans rfl
  clear hG1 HW hb hbox
  go_upto_region 2 with (first | (go_at_call 20; (refine HW1.out.mono ?_); rintro o w2 ⟨rfl, HB2⟩))
  have hbox2 := (HB2.out.block b hbl).trans Hbox.out
  have hc1 : w2.cell? ⟨b, 1, none⟩ = some (.int .i64 lpn) := (blk_cell hbox2 1).trans rfl
  have hc2 : w2.cell? ⟨b, 2, none⟩ = some (.int .i64 page) := (blk_cell hbox2 2).trans rfl
  have hc3 : w2.cell? ⟨b, 3, none⟩ = some (.int .i64 cell) := (blk_cell hbox2 3).trans rfl
  have hc4 : w2.cell? ⟨b, 4, none⟩ = some (.complex .f64 re im) := (blk_cell hbox2 4).trans rfl
  have hc5 : w2.cell? ⟨b, 5, none⟩ = some (.slice A data.length c) := (blk_cell hbox2 5).trans rfl
  have HBe := Aside0.mk (Below.trans HB1.out (HB2.out.mono (Nat.le_of_lt hbl)))
  have Hbox2 := Aside0.mk hbox2
  clear hc0 hbox2 HW1
  by_cases hTe : wordF d = []
  · have hte : T.toList.isEmpty = true := by rw [← HT.out, ByteArray.toList_mk, hTe]; rfl
    have HR0 : Aside0 (res = []) := ⟨by rw [← HRe.out]; unfold lineF; exact if_pos (.inl hTe)⟩
    clear hTe
    go_wp2_with (first | (go_at_call 24; (first | with_reducible refine (HWr.out _).mono ?_ | with_reducible refine (HWi.out _).mono ?_); rintro o w3 ⟨rfl, hw⟩; obtain rfl := hw.symm))
    go_ret
    exact ⟨by rw [HR0.out]; rfl, by rw [HBs.out]; exact HBe⟩
  have hte : T.toList.isEmpty = false := by rw [← HT.out, ByteArray.toList_mk]; cases hx : wordF d with | nil => exact absurd hx hTe | cons a l => rfl
  have HTe := Aside0.mk hTe
  clear hTe
  by_cases h1 : lpn < 0
  · have HR0 : Aside0 (res = []) := ⟨by rw [← HRe.out]; unfold lineF; exact if_pos (.inr (.inl h1))⟩
    go_wp2_with (first | (go_at_call 24; (first | with_reducible refine (HWr.out _).mono ?_ | with_reducible refine (HWi.out _).mono ?_); rintro o w3 ⟨rfl, hw⟩; obtain rfl := hw.symm))
    go_ret
    exact ⟨by rw [HR0.out]; rfl, by rw [HBs.out]; exact HBe⟩
  by_cases h2 : page < 0
  · have HR0 : Aside0 (res = []) := ⟨by rw [← HRe.out]; unfold lineF; exact if_pos (.inr (.inr (.inl h2)))⟩
    go_wp2_with (first | (go_at_call 24; (first | with_reducible refine (HWr.out _).mono ?_ | with_reducible refine (HWi.out _).mono ?_); rintro o w3 ⟨rfl, hw⟩; obtain rfl := hw.symm))
    go_ret
    exact ⟨by rw [HR0.out]; rfl, by rw [HBs.out]; exact HBe⟩
  by_cases h3 : cell < 0
  · have HR0 : Aside0 (res = []) := ⟨by rw [← HRe.out]; unfold lineF; exact if_pos (.inr (.inr (.inr (.inl h3))))⟩
    go_wp2_with (first | (go_at_call 24; (first | with_reducible refine (HWr.out _).mono ?_ | with_reducible refine (HWi.out _).mono ?_); rintro o w3 ⟨rfl, hw⟩; obtain rfl := hw.symm))
    go_ret
    exact ⟨by rw [HR0.out]; rfl, by rw [HBs.out]; exact HBe⟩
  cases h4 : wholeF re with
  | false =>
    have HR0 : Aside0 (res = []) := ⟨by rw [← HRe.out]; unfold lineF; exact if_pos (.inr (.inr (.inr (.inr (.inl h4)))))⟩
    rw [h4] at HWr
    go_wp2_with (first | (go_at_call 24; (first | with_reducible refine (HWr.out _).mono ?_ | with_reducible refine (HWi.out _).mono ?_); rintro o w3 ⟨rfl, hw⟩; obtain rfl := hw.symm))
    go_ret
    exact ⟨by rw [HR0.out]; rfl, by rw [HBs.out]; exact HBe⟩
  | true =>
  cases h5 : wholeF im with
  | false =>
    have HR0 : Aside0 (res = []) := ⟨by rw [← HRe.out]; unfold lineF; exact if_pos (.inr (.inr (.inr (.inr (.inr h5)))))⟩
    rw [h4] at HWr
    rw [h5] at HWi
    go_wp2_with (first | (go_at_call 24; (first | with_reducible refine (HWr.out _).mono ?_ | with_reducible refine (HWi.out _).mono ?_); rintro o w3 ⟨rfl, hw⟩; obtain rfl := hw.symm))
    go_ret
    exact ⟨by rw [HR0.out]; rfl, by rw [HBs.out]; exact HBe⟩
  | true =>
    rw [h4] at HWr
    rw [h5] at HWi
    have HR1 : Aside0 (res = Lib.join [wordF d, Lib.itoa lpn, Lib.itoa page, Lib.itoa cell, Lib.itoa (partF re), Lib.itoa (partF im), (bytesB data).data.toList] [32] ++ [10]) := ⟨by
      rw [← HRe.out]; unfold lineF; refine if_neg ?_
      rintro (h | h | h | h | h | h)
      · exact HTe.out h
      · exact h1 h
      · exact h2 h
      · exact h3 h
      · exact absurd (h.symm.trans h4) (by decide)
      · exact absurd (h.symm.trans h5) (by decide)⟩
    have hin4 : inB re = true := by unfold wholeF at h4; revert h4; cases inB re <;> simp
    have hin5 : inB im = true := by unfold wholeF at h5; revert h5; cases inB im <;> simp
    have hp4 := fun W => partC hin4 W
    have hp5 := fun W => partC hin5 W
    have Hq4 := Aside0.mk (inB_part hin4).2
    have Hq5 := Aside0.mk (inB_part hin5).2
    clear HRe HTe h4 h5 hin4 hin5
    generalize partF re = x at *
    generalize partF im = y at *
    go_upto_region 4 with (first | (go_at_call 24; (first | with_reducible refine (HWr.out _).mono ?_ | with_reducible refine (HWi.out _).mono ?_); rintro o w3 ⟨rfl, hw⟩; obtain rfl := hw.symm))
    clear hte h1 h2 h3 HWr HWi HB1
    have hbl2 : b < w2.heap.size := Nat.lt_of_lt_of_le hbl HB2.out.size
    go_upto_region 5 with (fail)
    have hTv : Value.string T = strV (wordF d) := by unfold strV; rw [HT.out]
    obtain ⟨g, hg⟩ : ∃ g, w2.heap.size = g := ⟨_, rfl⟩
    have hrow : (w2.alloc (.cells #[.string T] 9)).heap[w2.heap.size]? = some (.cells #[.string T] 9 (0, 0)) := blk_new w2 _
    have HB3 := Aside0.mk (below_alloc (Below.refl w2.heap.size w2) (.cells #[.string T] 9))
    have hsz : (w2.alloc (.cells #[.string T] 9)).heap.size = w2.heap.size + 1 := by simp
    have ha : ∀ k v, w2.cell? ⟨b, k, none⟩ = some v → (w2.alloc (.cells #[.string T] 9)).cell? ⟨b, k, none⟩ = some v := fun k v hv => (HB3.out.cell (p := ⟨b, k, none⟩) hbl2).trans hv
    replace hc1 := ha _ _ hc1
    replace hc2 := ha _ _ hc2
    replace hc3 := ha _ _ hc3
    replace hc4 := ha _ _ hc4
    replace hc5 := ha _ _ hc5
    generalize w2.alloc (.cells #[.string T] 9) = w3 at *
    clear ha
    rw [hg] at HB3 hrow hsz hbl2 ⊢
    have Hrow := Aside0.mk hrow
    have HBg : Aside0 (Below g w2 w3) := HB3
    have Hg := Aside0.mk hg
    have Hsz := Aside0.mk hsz
    have Hc5 := Aside0.mk hc5
    clear hrow hsz hg hTv HB3 hc5
    go_upto_region 6 with (fail)
    obtain ⟨q, hq⟩ : ∃ q, w3.heap.size = q := ⟨_, rfl⟩
    have hqb : (w3.alloc (.cells #[.int .i64 lpn, .int .i64 page, .int .i64 cell, .int .i64 x, .int .i64 y] 3)).heap[w3.heap.size]? = some (.cells #[.int .i64 lpn, .int .i64 page, .int .i64 cell, .int .i64 x, .int .i64 y] 3 (0, 0)) := blk_new w3 _
    have hB4 := below_alloc (Below.refl w3.heap.size w3) (.cells #[.int .i64 lpn, .int .i64 page, .int .i64 cell, .int .i64 x, .int .i64 y] 3)
    generalize w3.alloc (.cells #[.int .i64 lpn, .int .i64 page, .int .i64 cell, .int .i64 x, .int .i64 y] 3) = w4 at *
    have hg3 : g + 1 = q := by rw [← hq]; exact Hsz.out.symm
    have HS : Aside0 (SL g q (.cells #[.int .i64 lpn, .int .i64 page, .int .i64 cell, .int .i64 x, .int .i64 y] 3 (0, 0)) (.slice (some ⟨g, 0, none⟩) 1 1) [wordF d] w2 w4) := ⟨by
      refine ⟨⟨rfl, .inr ⟨g, 1, _, rfl, Nat.le_refl _, (hB4.block g (by omega)).trans Hrow.out, Nat.le_refl _, by decide, rfl, ?_⟩⟩, ?_, by rw [← hq]; exact hqb, Below.trans HBg.out (hB4.mono (by omega))⟩
      · show [Value.string T] = [strV (wordF d)]
        unfold strV; rw [HT.out]
      · intro e; have e2 : g = q := Option.some.inj e; omega⟩
    have hg2 : g ≤ w4.heap.size := by have := hB4.size; omega
    have Hqg : Aside0 (g + 1 = q) := ⟨hg3⟩
    have hG4 : GV w4 := by
      have e1 : Below w.heap.size w w4 := by rw [HBs.out]; exact Below.trans HBe.out (HS.out.bel.mono (Nat.le_of_lt hbl2))
      exact HG.out.below e1
    have HG4 := Aside0.mk hG4
    rw [hq]
    clear hq hqb hB4 hg3 hG4 Hrow HBg Hsz hg2 hc1 hc2 hc3 hc4
    go_loopw [4, 59] (fun v4 v59 wr => ∃ k : Nat, k ≤ 5 ∧ v59 = .int .i64 (k : Int) ∧ Aside0 (SL g q (.cells #[.int .i64 lpn, .int .i64 page, .int .i64 cell, .int .i64 x, .int .i64 y] 3 (0, 0)) v4 (wordF d :: ([lpn, page, cell, x, y].take k).map Lib.itoa) w2 wr)) (fun _ v59 _ => 5 - (intOf v59).toNat)
    case atStart => exact ⟨0, by omega, rfl, HS⟩
    case round =>
      clear HS
      obtain ⟨k, hk, rfl, HS⟩ := hrel
      by_cases ck : k < 5
      · obtain ⟨n, hn⟩ : ∃ n, [lpn, page, cell, x, y].getD k 0 = n := ⟨_, rfl⟩
        have hck : wr.cell? ⟨q, k, none⟩ = some (.int .i64 n) := by
          refine (blk_cell HS.out.hq k).trans ?_
          rw [← hn]
          rcases (by omega : k = 0 ∨ k = 1 ∨ k = 2 ∨ k = 3 ∨ k = 4) with rfl | rfl | rfl | rfl | rfl <;> rfl
        have hn0 : -9223372036854775808 ≤ n ∧ n ≤ 9223372036854775807 := by
          have h1 := HE.out.i1; have h2 := HE.out.i2; have h3 := HE.out.i3; have h4 := Hq4.out; have h5 := Hq5.out
          dsimp only at h1 h2 h3
          rw [← hn]
          rcases (by omega : k = 0 ∨ k = 1 ∨ k = 2 ∨ k = 3 ∨ k = 4) with rfl | rfl | rfl | rfl | rfl
          · exact h1
          · exact h2
          · exact h3
          · show _ ≤ x ∧ x ≤ _; omega
          · show _ ≤ y ∧ y ≤ _; omega
        have hsn : wordF d :: ([lpn, page, cell, x, y].take (k + 1)).map Lib.itoa = (wordF d :: ([lpn, page, cell, x, y].take k).map Lib.itoa) ++ [Lib.itoa n] := by
          rw [← hn]
          rcases (by omega : k = 0 ∨ k = 1 ∨ k = 2 ∨ k = 3 ∨ k = 4) with rfl | rfl | rfl | rfl | rfl <;> rfl
        have Hsn := Aside0.mk hsn
        have hll : (wordF d :: ([lpn, page, cell, x, y].take k).map Lib.itoa).length ≤ 1000 := by simp; omega
        have hbw : Below w.heap.size w wr := by rw [HBs.out]; exact Below.trans HBe.out (HS.out.bel.mono (Nat.le_of_lt hbl2))
        have HI := Aside0.mk (itoaC n hn0.1 hn0.2 wr (HG.out.below hbw))
        have hgw : g ≤ wr.heap.size := by have := (Array.getElem?_eq_some_iff.1 HS.out.hq).1; have := Hqg.out; omega
        have cki : (k : Int) < 5 := by omega
        clear hn hsn hbw hn0
        generalize (wordF d :: ([lpn, page, cell, x, y].take k).map Lib.itoa) = lk at *
        have Hll := Aside0.mk hll
        have Hgw := Aside0.mk hgw
        clear hll hgw
        go_wp2_with (first
          | (go_at_call 25; (refine HI.out.mono ?_); rintro o w5 ⟨rfl, HB5⟩)
          | ((with_reducible refine gate_builtin (b := .append) (xs := #[.tmp 63, .tmp 66]) rfl ?_); at_builtin; refine word_step (s := Lib.itoa n) rfl (.tmp 63) (.tmp 66) rfl rfl rfl (HS.out.below HB5.out Hgw.out) Hll.out (below_alloc (Below.refl _ _) _) (blk_new _ _) (Nat.le_trans Hgw.out HB5.out.size) (fun gg cap w6 HS6 => ?_)))
        clear HS HB5 HI
        go_roundw
        case rel => exact ⟨k + 1, ck, rfl, by rw [Hsn.out]; exact HS6⟩
        case measure => simp [intOf]; omega
      · obtain rfl : k = 5 := by omega
        have hL : (wordF d :: ([lpn, page, cell, x, y].take 5).map Lib.itoa) = [wordF d, Lib.itoa lpn, Lib.itoa page, Lib.itoa cell, Lib.itoa x, Lib.itoa y] := rfl
        rw [hL] at HS
        have hcx : wr.cell? ⟨b, 5, none⟩ = some (.slice A data.length c) := (blk_cell ((HS.out.bel.block b hbl2).trans Hbox2.out) 5).trans rfl
        have hbw : Below w.heap.size w wr := by rw [HBs.out]; exact Below.trans HBe.out (HS.out.bel.mono (Nat.le_of_lt hbl2))
        have HBW := Aside0.mk hbw
        have HBy := Aside0.mk (bytesC A c data wr (Kd.C_below HC.out hbw) HE.out.dl (fun k hk => by
          have := HE.out.dx (data.getD k 0) (mem_getD 0 hk)
          exact this))
        have Hgw : Aside0 (g ≤ wr.heap.size) := ⟨by have := (Array.getElem?_eq_some_iff.1 HS.out.hq).1; have := Hqg.out; omega⟩
        have HJl : Aside0 ((Lib.join ([wordF d, Lib.itoa lpn, Lib.itoa page, Lib.itoa cell, Lib.itoa x, Lib.itoa y] ++ [(bytesB data).data.toList]) [32]).length ≤ 140737488355328) := ⟨by
          rw [List.cons_append, Lib.join_length]
          have h0 := wordF_len d
          have h1 := itoa_len HE.out.i1.1 HE.out.i1.2
          have h2 := itoa_len HE.out.i2.1 HE.out.i2.2
          have h3 := itoa_len HE.out.i3.1 HE.out.i3.2
          have h4 := itoa_len (n := x) (by have := Hq4.out; omega) (by have := Hq4.out; omega)
          have h5 := itoa_len (n := y) (by have := Hq5.out; omega) (by have := Hq5.out; omega)
          have h6 : (bytesB data).data.toList.length ≤ 100001 := by
            have := HE.out.dl
            have h7 := bytesL_len data
            unfold bytesB
            rw [strOfNums_data, List.length_map, List.length_cons]
            dsimp only at this
            omega
          simp [Lib.lens] at *
          omega⟩
        generalize hbd : bytesB data = B at *
        obtain ⟨J, hJ⟩ : ∃ J : ByteArray, (⟨(Lib.join ([wordF d, Lib.itoa lpn, Lib.itoa page, Lib.itoa cell, Lib.itoa x, Lib.itoa y] ++ [B.data.toList]) [32]).toArray⟩ : ByteArray) = J := ⟨_, rfl⟩
        have hJs : J.size ≤ 140737488355328 := by rw [← hJ, tl_str]; exact HJl.out
        have hJa : (J ++ (⟨#[10]⟩ : ByteArray)) = ⟨(Lib.join ([wordF d, Lib.itoa lpn, Lib.itoa page, Lib.itoa cell, Lib.itoa x, Lib.itoa y] ++ [B.data.toList]) [32] ++ [10]).toArray⟩ := by
          rw [← hJ]
          apply congrArg ByteArray.mk
          simp
        have HJe := Aside0.mk hJ
        have HJa := Aside0.mk hJa
        clear hbw hL hJ hJa
        go_wp2_with (first
          | (go_at_call 27; (refine HBy.out.mono ?_); rintro o w5 ⟨rfl, HB5⟩)
          | (go_at_call 26; have hj := HS6.out.joinC rfl HJl.out (show 7 ≤ 1000 by decide); rw [strV, HJe.out] at hj; refine hj.mono ?_; clear hj; rintro o w7 ⟨rfl, HB7⟩)
          | ((with_reducible refine gate_builtin (b := .append) (xs := #[.tmp 69, .tmp 73]) rfl ?_); at_builtin; refine word_step (s := B.data.toList) rfl (.tmp 69) (.tmp 73) rfl rfl rfl (HS.out.below HB5.out Hgw.out) (show 6 ≤ 1000 by decide) (below_alloc (Below.refl _ _) _) (blk_new _ _) (Nat.le_trans Hgw.out HB5.out.size) (fun gg cap w6 HS6 => ?_)))
        go_ret
        refine ⟨?_, ⟨?_⟩⟩
        · show Ending.returned (Value.string (J ++ (⟨#[10]⟩ : ByteArray))) = _
          rw [HJa.out, HR1.out]; rfl
        · rw [HBs.out]
          have e1 := HS6.out.bel
          have e2 : b ≤ w6.heap.size := by have := e1.size; have := HB2.out.size; omega
          exact Below.trans HBe.out (Below.trans (e1.mono (Nat.le_of_lt hbl2)) (HB7.out.mono e2))
end Go.Proofs.YthdmeffjiljdeaaDoor.M
