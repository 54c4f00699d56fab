/- A chip as it is built; by hand. -/
import Derived.Test.YtmddafefdleimaaQ
import Derived.Deep.AppendLies
import Derived.Deep.RegionHeld3
namespace Go.Proofs.Ytmddafefdleimaa.M
open Go.RowKit Go.Proofs.YtmddafefdleimaaW.PrintWords Go.Proofs.YtmddafefdleimaaW.PrintLast Go.Proofs.YtmddafefdleimaaW.PrintMore Go.Proofs.Ytmddafefdleimaa.Rw Go.Proofs.Ytmddafefdleimaa.Fl Go.Maps
set_option linter.unusedVariables false
set_option linter.unusedSimpArgs false
def Old (i : Nat) : Tag → Prop
  | .chip => True
  | .arr => True
  | .blk x => x < i
  | .row x => x < i
  | .page x _ => x < i
  | _ => False
theorem Old.ne {i : Nat} {t : Tag} (h : Old i t) : t ≠ .out := by intro e; subst e; exact h
abbrev ptrs (f : Nat → Nat) (n : Nat) : List Value := (List.range n).map fun x => ptr (f x)
theorem ptrs_succ (f : Nat → Nat) (n : Nat) : ptrs f (n + 1) = ptrs f n ++ [ptr (f n)] := by simp [ptrs, List.range_succ]
theorem ptrs_congr {f f' : Nat → Nat} {n : Nat} (h : ∀ i, i < n → f i = f' i) : ptrs f n = ptrs f' n := List.map_congr_left fun x hx => by rw [h x (List.mem_range.1 hx)]
theorem ptrs_of {W : World} {base t n : Nat} {v : Value} {f : Nat → Nat} (h : W.ownsRow base t 1 v n (ptrs f n)) (hn : 0 < n) : ∃ q c, v = slc q n c ∧ n ≤ c ∧ base ≤ q ∧ Ptrs W t q n f := by
  rcases h with ⟨hil, ⟨e, hz⟩ | ⟨k, cap, cur, e, hk, hcur, hcap, _, hsz, htake⟩⟩
  · omega
  · refine ⟨k, cap, e, hcap, hk, cur, hcur, fun i hi => ?_⟩
    have h6 : (cur.toList.take (n * 1))[i]? = (ptrs f n)[i]? := by rw [htake]
    rw [Nat.mul_one, List.getElem?_take, if_pos hi] at h6
    rw [← Array.getElem?_toList, h6]
    simp [ptrs, hi]
/-- i blocks are whole -/
structure Up (base : Nat) (W : World) (s : Ch) (i : Nat) (lv : Value) : Prop where
  may : MayG s.Bn s.Pn s.Wn s.Kn
  n : s.Wn * (s.Kn + 16) = s.n
  hc : W.heap[s.c]? = some (.cells #[.int .i64 s.Bn, .int .i64 s.Pn, .int .i64 s.Wn, .int .i64 s.Kn, lv, .pointer none, .int .i64 0, .int .i64 0, .bool false] 67 (0, 0))
  row : W.ownsRow base 68 1 lv i (ptrs (fun x => (s.bl x).q) i)
  lo : ∀ k, lv.ownBlock = some k → s.own k = .arr
  hb : ∀ x, x < i → W.heap[(s.bl x).q]? = some (.cells #[slc (s.bl x).pa s.Pn (s.bl x).cap, .bool (s.bl x).marked, .bool false, .int .i64 0] 71 (0, 0))
  hp : ∀ x, x < i → Ptrs W 72 (s.bl x).pa s.Pn (fun j => ((s.bl x).pg j).g)
  pg : ∀ x j, x < i → j < s.Pn → PgAt W base s.n s.own (.page x j) ((s.bl x).pg j)
  st : ∀ x j, x < i → j < s.Pn → ((s.bl x).pg j).st = 0 ∧ ((s.bl x).pg j).P = List.replicate s.n (0, 0)
  oc : s.own s.c = .chip
  oq : ∀ x, x < i → s.own (s.bl x).q = .blk x
  op : ∀ x, x < i → s.own (s.bl x).pa = .row x
  new : ∀ k, W.heap.size ≤ k → s.own k = .out
  low : ∀ k, s.own k ≠ .out → base ≤ k
  pc : ∀ x, x < i → s.Pn ≤ (s.bl x).cap
  fr : ∀ x, x < i → (s.bl x).broken = false ∧ (s.bl x).erases = 0
/-- of the next one, j pages -/
structure Pu (W : World) (base n : Nat) (own : Nat → Tag) (i j q : Nat) (pg : Nat → Pg) (v : Value) : Prop where
  hq : W.heap[q]? = some (.cells #[v, .bool false, .bool false, .int .i64 0] 71 (0, 0))
  row : W.ownsRow base 72 1 v j (ptrs (fun y => (pg y).g) j)
  vo : ∀ k, v.ownBlock = some k → own k = .row i
  oq : own q = .blk i
  pgs : ∀ y, y < j → PgAt W base n own (.page i y) (pg y)
  sts : ∀ y, y < j → (pg y).st = 0 ∧ (pg y).P = List.replicate n (0, 0)
section
variable {base : Nat} {W W1 : World} {s : Ch} {i j q : Nat} {lv v : Value} {pg : Nat → Pg}
theorem Up.lt (h : Up base W s i lv) {k : Nat} (hk : s.own k ≠ .out) : k < W.heap.size := by
  rcases Nat.lt_or_ge k W.heap.size with h1 | h1
  · exact h1
  · exact absurd (h.new k h1) hk
theorem Up.move (h : Up base W s i lv) (own1 : Nat → Tag) (hm : ∀ k, Old i (s.own k) → W1.heap[k]? = W.heap[k]? ∧ own1 k = s.own k) (hn : ∀ k, W1.heap.size ≤ k → own1 k = .out) (hl : ∀ k, own1 k ≠ .out → base ≤ k) : Up base W1 { s with own := own1 } i lv where
  may := h.may
  n := h.n
  hc := (hm _ (by rw [h.oc]; trivial)).1.trans h.hc
  row := own_move h.row fun k hk => (hm k (by rw [h.lo k hk]; trivial)).1
  lo := fun k hk => (hm k (by rw [h.lo k hk]; trivial)).2.trans (h.lo k hk)
  hb := fun x hx => (hm _ (by rw [h.oq x hx]; exact hx)).1.trans (h.hb x hx)
  hp := fun x hx => (h.hp x hx).move (hm _ (by rw [h.op x hx]; exact hx)).1
  pg := fun x y hx hy => (h.pg x y hx hy).move fun k hk => ⟨(hm k (by rw [hk]; exact hx)).1, (hm k (by rw [hk]; exact hx)).2.trans hk⟩
  st := h.st
  oc := (hm _ (by rw [h.oc]; trivial)).2.trans h.oc
  oq := fun x hx => (hm _ (by rw [h.oq x hx]; exact hx)).2.trans (h.oq x hx)
  op := fun x hx => (hm _ (by rw [h.op x hx]; exact hx)).2.trans (h.op x hx)
  new := hn
  low := hl
  pc := h.pc
  fr := h.fr
theorem Up.below (h : Up base W s i lv) (hb : Below W.heap.size W W1) : Up base W1 s i lv :=
  h.move s.own (fun k hk => ⟨hb.block k (h.lt hk.ne), rfl⟩) (fun k hk => h.new k (Nat.le_trans hb.size hk)) h.low
theorem Pu.move {n : Nat} {own own1 : Nat → Tag} (h : Pu W base n own i j q pg v) (hm : ∀ k, (own k = .blk i ∨ own k = .row i ∨ ∃ y, own k = .page i y) → W1.heap[k]? = W.heap[k]? ∧ own1 k = own k) : Pu W1 base n own1 i j q pg v where
  hq := (hm _ (.inl h.oq)).1.trans h.hq
  row := own_move h.row fun k hk => (hm k (.inr (.inl (h.vo k hk)))).1
  vo := fun k hk => (hm k (.inr (.inl (h.vo k hk)))).2.trans (h.vo k hk)
  oq := (hm _ (.inl h.oq)).2.trans h.oq
  pgs := fun y hy => (h.pgs y hy).move fun k hk => ⟨(hm k (.inr (.inr ⟨y, hk⟩))).1, (hm k (.inr (.inr ⟨y, hk⟩))).2.trans hk⟩
  sts := h.sts
theorem Pu.below (hu : Up base W s i lv) (h : Pu W base s.n s.own i j q pg v) (hb : Below W.heap.size W W1) : Pu W1 base s.n s.own i j q pg v :=
  h.move fun k hk => ⟨hb.block k (hu.lt (by rcases hk with e | e | ⟨y, e⟩ <;> (rw [e]; intro e2; cases e2))), rfl⟩
/-- a block's struct is laid -/
theorem Up.open (h : Up base W s i lv) (hbase : base ≤ W.heap.size) : Up base (W.alloc (.cells #[.slice none 0 0, .bool false, .bool false, .int .i64 0] 71 (0, 0))) { s with own := fun k => if k = W.heap.size then .blk i else s.own k } i lv ∧
    Pu (W.alloc (.cells #[.slice none 0 0, .bool false, .bool false, .int .i64 0] 71 (0, 0))) base s.n (fun k => if k = W.heap.size then .blk i else s.own k) i 0 W.heap.size pg (.slice none 0 0) := by
  have hb := below_alloc (Below.refl W.heap.size W) (.cells #[.slice none 0 0, .bool false, .bool false, .int .i64 0] 71 (0, 0))
  refine ⟨h.move _ (fun k hk => ?_) (fun k hk => ?_) (fun k hk => ?_), ⟨blk_new W _, ⟨rfl, .inl ⟨rfl, rfl⟩⟩, fun k hk => (by cases hk), if_pos rfl, fun y hy => absurd hy (Nat.not_lt_zero _), fun y hy => absurd hy (Nat.not_lt_zero _)⟩⟩
  · have hl := h.lt hk.ne
    exact ⟨hb.block k hl, if_neg (by omega)⟩
  · rw [World.size_alloc] at hk
    show (if k = W.heap.size then Tag.blk i else s.own k) = .out
    rw [if_neg (by omega)]; exact h.new k (by omega)
  · by_cases e : k = W.heap.size
    · omega
    · have hk2 : (if k = W.heap.size then Tag.blk i else s.own k) ≠ .out := hk
      rw [if_neg e] at hk2; exact h.low k hk2
/-- a page more -/
theorem Up.push (h : Up base W s i lv) (hp : Pu W base s.n s.own i j q pg v) {W2 W3 : World} {g b gg cap : Nat} (hb : Below W.heap.size W W2) (hI : IsC W2 W.heap.size g b (List.replicate s.n (0, 0)) [] 0 (.slice none 0 0)) (hbase : base ≤ W.heap.size)
    (ho : W3.ownsRow base 72 1 (slc gg (j + 1) cap) (j + 1) (ptrs (fun y => (pg y).g) j ++ [ptr g])) (hg : W2.grownBy W3 v.ownBlock) (hat : v.ownBlock = some gg ∨ gg = W2.heap.size) (hlt : gg < W3.heap.size) :
    ∃ own1 pg1, Up base (W3.setCell ⟨q, 0, none⟩ (slc gg (j + 1) cap)) { s with own := own1 } i lv ∧ Pu (W3.setCell ⟨q, 0, none⟩ (slc gg (j + 1) cap)) base s.n own1 i (j + 1) q pg1 (slc gg (j + 1) cap) ∧ Fm base s.own W (W3.setCell ⟨q, 0, none⟩ (slc gg (j + 1) cap)) ∧ (∀ k, k < W.heap.size → own1 k = s.own k) := by
  have hgl : g < W2.heap.size := blk_lt hI.hg
  have hbl : b < W2.heap.size := hI.hb.lt
  have hg0 := hI.bg
  have hb0 := hI.bb
  have hs2 : W.heap.size ≤ W2.heap.size := hb.size
  have hs3 : W2.heap.size ≤ W3.heap.size := hg.size
  have hql : q < W.heap.size := h.lt (by rw [hp.oq]; intro e; cases e)
  have hsz : (W3.setCell ⟨q, 0, none⟩ (slc gg (j + 1) cap)).heap.size = W3.heap.size := by simp [World.setCell]
  have hvl : ∀ k, v.ownBlock = some k → k < W.heap.size := fun k hk => h.lt (by rw [hp.vo k hk]; intro e; cases e)
  have hvq : ∀ k, v.ownBlock = some k → k ≠ q := fun k hk e => by have := hp.vo k hk; rw [e, hp.oq] at this; cases this
  have hgg : gg ≠ g ∧ gg ≠ b ∧ gg ≠ q := by
    rcases hat with e | e
    · have := hvl _ e; exact ⟨by omega, by omega, hvq _ e⟩
    · exact ⟨by omega, by omega, by omega⟩
  have hkeep : ∀ k, k < W.heap.size → some k ≠ v.ownBlock → k ≠ q → (W3.setCell ⟨q, 0, none⟩ (slc gg (j + 1) cap)).heap[k]? = W.heap[k]? := fun k h1 h2 h3 =>
    (Below.heap_setCell W3 ⟨q, 0, none⟩ _ k h3).trans ((hg.block k (by omega) h2).trans (hb.block k h1))
  have hkeep2 : ∀ k, W.heap.size ≤ k → k < W2.heap.size → (W3.setCell ⟨q, 0, none⟩ (slc gg (j + 1) cap)).heap[k]? = W2.heap[k]? := fun k h1 h2 =>
    (Below.heap_setCell W3 ⟨q, 0, none⟩ _ k (by show k ≠ q; omega)).trans (hg.block k h2 (fun e => by have := hvl k e.symm; omega))
  let own1 : Nat → Tag := fun k => if k = g ∨ k = b then .page i j else if k = gg then .row i else s.own k
  have hown : ∀ k, k < W.heap.size → own1 k = s.own k := fun k hk => by
    show (if k = g ∨ k = b then Tag.page i j else if k = gg then .row i else s.own k) = _
    rw [if_neg (by omega)]
    by_cases e : k = gg
    · rw [if_pos e]
      rcases hat with e2 | e2
      · rw [e]; exact (hp.vo _ e2).symm
      · omega
    · rw [if_neg e]
  refine ⟨own1, fun y => if y = j then ⟨g, b, List.replicate s.n (0, 0), [], 0⟩ else pg y, h.move own1 (fun k hk => ?_) (fun k hk => ?_) (fun k hk => ?_), ?_, ⟨?_, fun k hk hko => hkeep k hk (fun e => ?_) (fun e => ?_)⟩, hown⟩
  · have hkl := h.lt hk.ne
    refine ⟨hkeep k hkl (fun e => ?_) (fun e => ?_), hown k hkl⟩
    · rw [hp.vo k e.symm] at hk; exact Nat.lt_irrefl _ hk
    · rw [e, hp.oq] at hk; exact Nat.lt_irrefl _ hk
  · rw [hsz] at hk
    show (if k = g ∨ k = b then Tag.page i j else if k = gg then .row i else s.own k) = .out
    rw [if_neg (by omega), if_neg (by omega)]
    exact h.new k (by omega)
  · rcases Nat.lt_or_ge k W.heap.size with h1 | h1
    · rw [hown k h1] at hk; exact h.low k hk
    · omega
  · have hgr : W3.heap[q]? = W.heap[q]? := (hg.block q (by omega) (fun e => hvq q e.symm rfl)).trans (hb.block q hql)
    refine ⟨blk_put (hgr.trans hp.hq) 0 (slc gg (j + 1) cap) rfl, ?_, fun k hk => ?_, (hown q hql).trans hp.oq, fun y hy => ?_, fun y hy => ?_⟩
    · rw [ptrs_succ]
      have e1 : ptrs (fun y => (if y = j then (⟨g, b, List.replicate s.n (0, 0), [], 0⟩ : Pg) else pg y).g) j = ptrs (fun y => (pg y).g) j := ptrs_congr fun x hx => by rw [if_neg (by omega)]
      rw [e1, if_pos rfl]
      exact own_setCell ho (fun e => by have : gg = q := by simpa [slc, Value.ownBlock] using e.symm
                                        exact hgg.2.2 this) _
    · have : gg = k := by simpa [slc, Value.ownBlock] using hk
      subst this
      show (if gg = g ∨ gg = b then Tag.page i j else if gg = gg then .row i else s.own gg) = .row i
      rw [if_neg (by omega), if_pos rfl]
    · by_cases e : y = j
      · subst e
        rw [if_pos rfl]
        refine ⟨⟨.slice none 0 0, ⟨(hkeep2 g (by omega) hgl).trans hI.hg, hI.hb.move (hkeep2 b (by omega) hbl), (by show base ≤ g; omega), (by show base ≤ b; omega), hI.gb, hI.le, .inl ⟨(by show (0 : Int) ≠ 1; decide), rfl⟩⟩, fun k hk => by cases hk⟩, List.length_replicate .., if_pos (.inl rfl), if_pos (.inr rfl)⟩
      · rw [if_neg e]
        refine (hp.pgs y (by omega)).move fun k hk => ?_
        have hkl : k < W.heap.size := h.lt (by rw [hk]; intro e; cases e)
        refine ⟨hkeep k hkl (fun e2 => ?_) (fun e2 => ?_), (hown k hkl).trans hk⟩
        · rw [hp.vo k e2.symm] at hk; cases hk
        · rw [e2, hp.oq] at hk; cases hk
    · by_cases e : y = j
      · subst e; rw [if_pos rfl]; exact ⟨rfl, rfl⟩
      · rw [if_neg e]; exact hp.sts y (by omega)
  · have b1 : Below base W W3 := Below.trans (hb.mono hbase) (Below.grown (Below.refl _ _) hg (Nat.le_trans hbase hs2) (fun k hk => h.low k (by rw [hp.vo k hk]; intro e; cases e)))
    exact b1.setCell (p := ⟨q, 0, none⟩) (h.low q (by rw [hp.oq]; intro e; cases e)) _
  · rw [hp.vo k e.symm] at hko; cases hko
  · rw [e, hp.oq] at hko; cases hko
/-- a block more -/
theorem Up.close (h : Up base W s i lv) (hi : i < s.Bn) (hp : Pu W base s.n s.own i s.Pn q pg v) {W2 W3 : World} {gg cap : Nat} (hb : Below W.heap.size W W2) (hbase : base ≤ W.heap.size)
    (ho : W3.ownsRow base 68 1 (slc gg (i + 1) cap) (i + 1) (ptrs (fun x => (s.bl x).q) i ++ [ptr q])) (hg : W2.grownBy W3 lv.ownBlock) (hat : lv.ownBlock = some gg ∨ gg = W2.heap.size) (hlt : gg < W3.heap.size) :
    ∃ own1 bl1, Up base (W3.setCell ⟨s.c, 4, none⟩ (slc gg (i + 1) cap)) { s with own := own1, bl := bl1 } (i + 1) (slc gg (i + 1) cap) ∧ Fm base s.own W (W3.setCell ⟨s.c, 4, none⟩ (slc gg (i + 1) cap)) ∧ (∀ k, k < W.heap.size → own1 k = s.own k) ∧ ((∀ x, (s.bl x).marked = false) → ∀ x, (bl1 x).marked = false) := by
  have hs2 : W.heap.size ≤ W2.heap.size := hb.size
  have hs3 : W2.heap.size ≤ W3.heap.size := hg.size
  have hcl : s.c < W.heap.size := h.lt (by rw [h.oc]; intro e; cases e)
  have hsz : (W3.setCell ⟨s.c, 4, none⟩ (slc gg (i + 1) cap)).heap.size = W3.heap.size := by simp [World.setCell]
  have hvl : ∀ k, lv.ownBlock = some k → k < W.heap.size := fun k hk => h.lt (by rw [h.lo k hk]; intro e; cases e)
  have hvq : ∀ k, lv.ownBlock = some k → k ≠ s.c := fun k hk e => by have := h.lo k hk; rw [e, h.oc] at this; cases this
  have hgg : gg ≠ s.c := by
    rcases hat with e | e
    · exact hvq _ e
    · omega
  have hkeep : ∀ k, k < W.heap.size → some k ≠ lv.ownBlock → k ≠ s.c → (W3.setCell ⟨s.c, 4, none⟩ (slc gg (i + 1) cap)).heap[k]? = W.heap[k]? := fun k h1 h2 h3 =>
    (Below.heap_setCell W3 ⟨s.c, 4, none⟩ _ k h3).trans ((hg.block k (by omega) h2).trans (hb.block k h1))
  let own1 : Nat → Tag := fun k => if k = gg then .arr else s.own k
  have hown : ∀ k, k < W.heap.size → own1 k = s.own k := fun k hk => by
    show (if k = gg then Tag.arr else s.own k) = _
    by_cases e : k = gg
    · rw [if_pos e]
      rcases hat with e2 | e2
      · rw [e]; exact (h.lo _ e2).symm
      · omega
    · rw [if_neg e]
  have hkk : ∀ k t, s.own k = t → t ≠ .out → t ≠ .arr → t ≠ .chip → (W3.setCell ⟨s.c, 4, none⟩ (slc gg (i + 1) cap)).heap[k]? = W.heap[k]? ∧ own1 k = t := fun k t h1 h2 h3 h4 => by
    have hkl : k < W.heap.size := h.lt (by rw [h1]; exact h2)
    exact ⟨hkeep k hkl (fun e => h3 (by rw [← h1]; exact h.lo k e.symm)) (fun e => h4 (by rw [← h1, e]; exact h.oc)), (hown k hkl).trans h1⟩
  have hPn : 0 < s.Pn := by have := h.may.b0; omega
  obtain ⟨pa, cp, hv, hcp, hpb, hPt⟩ := ptrs_of hp.row hPn
  subst hv
  have hpo : s.own pa = .row i := hp.vo pa rfl
  have hbl : ∀ x, x < i → (if x = i then (⟨q, pa, cp, pg, false, false, 0⟩ : Bl) else s.bl x) = s.bl x := fun x hx => if_neg (by omega)
  have hfm : Fm base s.own W (W3.setCell ⟨s.c, 4, none⟩ (slc gg (i + 1) cap)) := by
    refine ⟨?_, fun k hk hko => hkeep k hk (fun e => ?_) (fun e => ?_)⟩
    · have b1 : Below base W W3 := Below.trans (hb.mono hbase) (Below.grown (Below.refl _ _) hg (Nat.le_trans hbase hs2) (fun k hk => h.low k (by rw [h.lo k hk]; intro e; cases e)))
      exact b1.setCell (p := ⟨s.c, 4, none⟩) (h.low s.c (by rw [h.oc]; intro e; cases e)) _
    · rw [h.lo k e.symm] at hko; cases hko
    · rw [e, h.oc] at hko; cases hko
  refine ⟨own1, fun x => if x = i then ⟨q, pa, cp, pg, false, false, 0⟩ else s.bl x, ?_, hfm, hown, fun hm x => by by_cases e : x = i <;> simp [e, hm]⟩
  refine ⟨h.may, h.n, ?_, ?_, fun k hk => ?_, fun x hx => ?_, fun x hx => ?_, fun x y hx hy => ?_, fun x y hx hy => ?_, ?_, fun x hx => ?_, fun x hx => ?_, fun k hk => ?_, fun k hk => ?_, fun x hx => ?_, fun x hx => ?_⟩
  · have hgr : W3.heap[s.c]? = W.heap[s.c]? := (hg.block s.c (by omega) (fun e => hvq s.c e.symm rfl)).trans (hb.block s.c hcl)
    exact blk_put (hgr.trans h.hc) 4 (slc gg (i + 1) cap) rfl
  · dsimp only
    rw [ptrs_succ, if_pos rfl]
    have e1 : ptrs (fun x => (if x = i then (⟨q, pa, cp, pg, false, false, 0⟩ : Bl) else s.bl x).q) i = ptrs (fun x => (s.bl x).q) i := ptrs_congr fun x hx => by rw [hbl x hx]
    rw [e1]
    exact own_setCell ho (fun e => by have : gg = s.c := by simpa [slc, Value.ownBlock] using e.symm
                                      exact hgg this) _
  · have : gg = k := by simpa [slc, Value.ownBlock] using hk
    subst this
    exact if_pos rfl
  · dsimp only
    by_cases e : x = i
    · subst e; rw [if_pos rfl]
      exact (hkk q _ hp.oq (by intro e; cases e) (by intro e; cases e) (by intro e; cases e)).1.trans hp.hq
    · have hx' : x < i := by omega
      rw [if_neg e]
      exact (hkk _ _ (h.oq x hx') (by intro e; cases e) (by intro e; cases e) (by intro e; cases e)).1.trans (h.hb x hx')
  · dsimp only
    by_cases e : x = i
    · subst e; rw [if_pos rfl]
      exact hPt.move (hkk pa _ hpo (by intro e; cases e) (by intro e; cases e) (by intro e; cases e)).1
    · have hx' : x < i := by omega
      rw [if_neg e]
      exact (h.hp x hx').move (hkk _ _ (h.op x hx') (by intro e; cases e) (by intro e; cases e) (by intro e; cases e)).1
  · dsimp only
    by_cases e : x = i
    · subst e; rw [if_pos rfl]
      exact (hp.pgs y hy).move fun k hk => hkk k _ hk (by intro e; cases e) (by intro e; cases e) (by intro e; cases e)
    · have hx' : x < i := by omega
      rw [if_neg e]
      exact (h.pg x y hx' hy).move fun k hk => hkk k _ hk (by intro e; cases e) (by intro e; cases e) (by intro e; cases e)
  · dsimp only
    by_cases e : x = i
    · subst e; rw [if_pos rfl]; exact hp.sts y hy
    · rw [if_neg e]; exact h.st x y (by omega) hy
  · exact (hown _ hcl).trans h.oc
  · dsimp only
    by_cases e : x = i
    · subst e; rw [if_pos rfl]; exact (hkk q _ hp.oq (by intro e; cases e) (by intro e; cases e) (by intro e; cases e)).2
    · have hx' : x < i := by omega
      rw [if_neg e]; exact (hkk _ _ (h.oq x hx') (by intro e; cases e) (by intro e; cases e) (by intro e; cases e)).2
  · dsimp only
    by_cases e : x = i
    · subst e; rw [if_pos rfl]; exact (hkk pa _ hpo (by intro e; cases e) (by intro e; cases e) (by intro e; cases e)).2
    · have hx' : x < i := by omega
      rw [if_neg e]; exact (hkk _ _ (h.op x hx') (by intro e; cases e) (by intro e; cases e) (by intro e; cases e)).2
  · rw [hsz] at hk
    show (if k = gg then Tag.arr else s.own k) = .out
    rw [if_neg (by omega)]
    exact h.new k (by omega)
  · rcases Nat.lt_or_ge k W.heap.size with h1 | h1
    · have hk2 : own1 k ≠ .out := hk
      rw [hown k h1] at hk2; exact h.low k hk2
    · omega
  · dsimp only
    by_cases e : x = i
    · subst e; rw [if_pos rfl]; exact hcp
    · rw [if_neg e]; exact h.pc x (by omega)
  · dsimp only
    by_cases e : x = i
    · subst e; rw [if_pos rfl]; exact ⟨rfl, rfl⟩
    · rw [if_neg e]; exact h.fr x (by omega)
/-- the chip's struct is laid -/
theorem Up.start (w W : World) (hb : Below w.heap.size w W) (Bn Pn Wn Kn n : Nat) (may : MayG Bn Pn Wn Kn) (hn : Wn * (Kn + 16) = n) (F : List F) (bl : Nat → Bl) : Up w.heap.size (W.alloc (.cells #[.int .i64 Bn, .int .i64 Pn, .int .i64 Wn, .int .i64 Kn, .slice none 0 0, .pointer none, .int .i64 0, .int .i64 0, .bool false] 67 (0, 0)))
    { c := W.heap.size, la := 0, cap := 0, fq := 0, mb := 0, Bn := Bn, Pn := Pn, Wn := Wn, Kn := Kn, n := n, bl := bl, F := F, ops := 0, refused := 0, dark := false, own := fun k => if k = W.heap.size then .chip else .out } 0 (.slice none 0 0) where
  may := may
  n := hn
  hc := blk_new W _
  row := ⟨rfl, .inl ⟨rfl, rfl⟩⟩
  lo := fun k hk => by cases hk
  hb := fun x hx => absurd hx (Nat.not_lt_zero _)
  hp := fun x hx => absurd hx (Nat.not_lt_zero _)
  pg := fun x y hx => absurd hx (Nat.not_lt_zero _)
  st := fun x y hx => absurd hx (Nat.not_lt_zero _)
  oc := if_pos rfl
  oq := fun x hx => absurd hx (Nat.not_lt_zero _)
  op := fun x hx => absurd hx (Nat.not_lt_zero _)
  new := fun k hk => by
    rw [World.size_alloc] at hk
    exact if_neg (by omega)
  low := fun k hk => by
    by_cases e : k = W.heap.size
    · rw [e]; exact hb.size
    · exact absurd (if_neg e) hk
  pc := fun x hx => absurd hx (Nat.not_lt_zero _)
  fr := fun x hx => absurd hx (Nat.not_lt_zero _)
/-- a block is marked -/
theorem Up.mark (h : Up base W s i lv) (x : Nat) (hx : x < i) : Up base (W.setCell ⟨(s.bl x).q, 1, none⟩ (.bool true)) { s with bl := fun y => if y = x then { s.bl x with marked := true } else s.bl y } i lv ∧ Fm base s.own W (W.setCell ⟨(s.bl x).q, 1, none⟩ (.bool true)) := by
  have hf : ∀ k, k ≠ (s.bl x).q → (W.setCell ⟨(s.bl x).q, 1, none⟩ (.bool true)).heap[k]? = W.heap[k]? := fun k hk => Below.heap_setCell W ⟨(s.bl x).q, 1, none⟩ (.bool true) k hk
  have hne : ∀ k t, s.own k = t → t ≠ .blk x → k ≠ (s.bl x).q := fun k t h1 h2 e => h2 (by rw [← h1, e]; exact h.oq x hx)
  have hq : ∀ y, (if y = x then ({ s.bl x with marked := true } : Bl) else s.bl y).q = (s.bl y).q := fun y => by by_cases e : y = x <;> simp [e]
  have hpa : ∀ y, (if y = x then ({ s.bl x with marked := true } : Bl) else s.bl y).pa = (s.bl y).pa := fun y => by by_cases e : y = x <;> simp [e]
  have hcp : ∀ y, (if y = x then ({ s.bl x with marked := true } : Bl) else s.bl y).cap = (s.bl y).cap := fun y => by by_cases e : y = x <;> simp [e]
  have hpg : ∀ y, (if y = x then ({ s.bl x with marked := true } : Bl) else s.bl y).pg = (s.bl y).pg := fun y => by by_cases e : y = x <;> simp [e]
  have hbk : ∀ y, (if y = x then ({ s.bl x with marked := true } : Bl) else s.bl y).broken = (s.bl y).broken := fun y => by by_cases e : y = x <;> simp [e]
  have her : ∀ y, (if y = x then ({ s.bl x with marked := true } : Bl) else s.bl y).erases = (s.bl y).erases := fun y => by by_cases e : y = x <;> simp [e]
  have hsz : (W.setCell ⟨(s.bl x).q, 1, none⟩ (.bool true)).heap.size = W.heap.size := by simp [World.setCell]
  refine ⟨⟨h.may, h.n, (hf _ (hne _ _ h.oc (by intro e; cases e))).trans h.hc, ?_, h.lo, fun y hy => ?_, fun y hy => ?_, fun y z hy hz => ?_, fun y z hy hz => ?_, h.oc, fun y hy => ?_, fun y hy => ?_, fun k hk => h.new k (by rw [hsz] at hk; exact hk), h.low, fun y hy => ?_, fun y hy => ?_⟩, (Fm.refl base s.own W).put (p := ⟨(s.bl x).q, 1, none⟩) (by show s.own (s.bl x).q ≠ .out; rw [h.oq x hx]; intro e; cases e) (h.low _ (by rw [h.oq x hx]; intro e; cases e)) _⟩
  · have e1 : ptrs (fun y => (if y = x then ({ s.bl x with marked := true } : Bl) else s.bl y).q) i = ptrs (fun y => (s.bl y).q) i := ptrs_congr fun y _ => hq y
    show World.ownsRow _ base 68 1 lv i (ptrs (fun y => (if y = x then ({ s.bl x with marked := true } : Bl) else s.bl y).q) i)
    rw [e1]
    exact own_move h.row fun k hk => hf k (hne k _ (h.lo k hk) (by intro e; cases e))
  · dsimp only
    rw [hq, hpa, hcp]
    by_cases e : y = x
    · subst e
      rw [if_pos rfl]
      exact blk_put (h.hb y hy) 1 (.bool true) rfl
    · rw [if_neg e]
      exact (hf _ (hne _ _ (h.oq y hy) (by intro e2; cases e2; exact e rfl))).trans (h.hb y hy)
  · dsimp only
    rw [hpa, hpg]
    exact (h.hp y hy).move (hf _ (hne _ _ (h.op y hy) (by intro e; cases e)))
  · dsimp only
    rw [hpg]
    exact (h.pg y z hy hz).move fun k hk => ⟨hf k (hne k _ hk (by intro e; cases e)), hk⟩
  · dsimp only
    rw [hpg]; exact h.st y z hy hz
  · dsimp only
    rw [hq]; exact h.oq y hy
  · dsimp only
    rw [hpa]; exact h.op y hy
  · dsimp only
    rw [hcp]; exact h.pc y hy
  · dsimp only
    rw [hbk, her]; exact h.fr y hy
/-- the fates are laid: the chip is whole -/
theorem Up.done (h : Up base W s s.Bn lv) {W2 : World} {g : Nat} {L : List F} (hF : IsF W W2 g L) (hb : Below W.heap.size W W2) (hbase : base ≤ W.heap.size) :
    ∃ s', IsCh base (W2.setCell ⟨s.c, 5, none⟩ (ptr g)) s' ∧ s'.c = s.c ∧ s'.bl = s.bl ∧ s'.Bn = s.Bn ∧ s'.Pn = s.Pn ∧ s'.Wn = s.Wn ∧ s'.Kn = s.Kn ∧ s'.n = s.n ∧ s'.F = L ∧ s'.ops = 0 ∧ s'.refused = 0 ∧ s'.dark = false ∧ Fm base s.own W (W2.setCell ⟨s.c, 5, none⟩ (ptr g)) ∧ ∀ k, k < W.heap.size → s'.own k = s.own k := by
  obtain ⟨f1, f2, b, f3, f4, f5, f6⟩ := hF
  have hBn : 0 < s.Bn := by have := h.may.a0; omega
  obtain ⟨la, cap, hv, hcap, hla, hP⟩ := ptrs_of h.row hBn
  subst hv
  have hlo : s.own la = .arr := h.lo la rfl
  have hgl : g < W2.heap.size := blk_lt f3
  have hcl : s.c < W.heap.size := h.lt (by rw [h.oc]; intro e; cases e)
  have hs2 := hb.size
  have hsz : (W2.setCell ⟨s.c, 5, none⟩ (ptr g)).heap.size = W2.heap.size := by simp [World.setCell]
  let own1 : Nat → Tag := fun k => if k = g ∨ k = b then .fat else s.own k
  have hown : ∀ k, k < W.heap.size → own1 k = s.own k := fun k hk => if_neg (by omega)
  have hf : ∀ k, k ≠ s.c → (W2.setCell ⟨s.c, 5, none⟩ (ptr g)).heap[k]? = W2.heap[k]? := fun k hk => Below.heap_setCell W2 ⟨s.c, 5, none⟩ (ptr g) k hk
  have hkk : ∀ k t, s.own k = t → t ≠ .out → t ≠ .chip → (W2.setCell ⟨s.c, 5, none⟩ (ptr g)).heap[k]? = W.heap[k]? ∧ own1 k = t := fun k t h1 h2 h3 => by
    have hkl : k < W.heap.size := h.lt (by rw [h1]; exact h2)
    exact ⟨(hf k (fun e => h3 (by rw [← h1, e]; exact h.oc))).trans (hb.block k hkl), (hown k hkl).trans h1⟩
  refine ⟨{ s with la := la, cap := cap, fq := g, mb := b, F := L, ops := 0, refused := 0, dark := false, own := own1 }, ?_, rfl, rfl, rfl, rfl, rfl, rfl, rfl, rfl, rfl, rfl, rfl, ⟨(hb.mono hbase).setCell (p := ⟨s.c, 5, none⟩) (h.low s.c (by rw [h.oc]; intro e; cases e)) _, fun k hk ho => (hf k (fun e => by rw [e, h.oc] at ho; cases ho)).trans (hb.block k hk)⟩, hown⟩
  exact {
    may := h.may
    n := h.n
    hc := blk_put ((hb.block _ hcl).trans h.hc) 5 (ptr g) rfl
    hl := hP.move (hkk la _ hlo (by intro e; cases e) (by intro e; cases e)).1
    hb := fun i hi => by
      have h1 := (hkk _ _ (h.oq i hi) (by intro e; cases e) (by intro e; cases e)).1.trans (h.hb i hi)
      rw [h1, (h.fr i hi).1, (h.fr i hi).2]
    hp := fun i hi => (h.hp i hi).move (hkk _ _ (h.op i hi) (by intro e; cases e) (by intro e; cases e)).1
    pg := fun i j hi hj => (h.pg i j hi hj).move fun k hk => hkk k _ hk (by intro e; cases e) (by intro e; cases e)
    f1 := f1
    f2 := f2
    hf := (hf g (by omega)).trans f3
    hm := owns_at f4 (hf b (by omega))
    fm := f6
    oc := (hown _ hcl).trans h.oc
    oa := (hkk la _ hlo (by intro e; cases e) (by intro e; cases e)).2
    ofq := if_pos (.inl rfl)
    omb := if_pos (.inr rfl)
    oq := fun i hi => (hkk _ _ (h.oq i hi) (by intro e; cases e) (by intro e; cases e)).2
    op := fun i hi => (hkk _ _ (h.op i hi) (by intro e; cases e) (by intro e; cases e)).2
    new := fun k hk => by
      rw [hsz] at hk
      show (if k = g ∨ k = b then Tag.fat else s.own k) = .out
      rw [if_neg (by omega)]; exact h.new k (by omega)
    low := fun k hk => by
      rcases Nat.lt_or_ge k W.heap.size with h1 | h1
      · have hk2 : own1 k ≠ .out := hk
        rw [hown k h1] at hk2; exact h.low k hk2
      · omega
    w0 := ⟨W, f5⟩
    bops := ⟨Int.le_refl _, by show (0 : Int) ≤ 1000000; decide⟩
    bref := ⟨Int.le_refl _, Int.le_refl _⟩
    ber := fun i hi => by
      show 0 ≤ (s.bl i).erases ∧ (s.bl i).erases ≤ 0
      rw [(h.fr i hi).2]; exact ⟨Int.le_refl _, Int.le_refl _⟩
    lc := hcap
    pc := h.pc }
end
end Go.Proofs.Ytmddafefdleimaa.M
