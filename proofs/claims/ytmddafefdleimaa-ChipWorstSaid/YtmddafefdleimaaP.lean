/- A chip: where it lies, who owns what; by hand. -/
import Derived.Test.YtmddafefdleimaaE
import Derived.Test.YtmddafefdleimaaFe
namespace Go.Proofs.Ytmddafefdleimaa.M
open Go.RowKit Go.Proofs.YtmddafefdleimaaW.PrintWords Go.Proofs.YtmddafefdleimaaW.PrintLast Go.Proofs.YtmddafefdleimaaW.PrintMore Go.Proofs.Ytmddafefdleimaa.Rw Go.Proofs.Ytmddafefdleimaa.Fl Go.Maps
set_option linter.unusedVariables false
set_option linter.unusedSimpArgs false
inductive Tag | out | chip | arr | fat | blk (i : Nat) | row (i : Nat) | page (i j : Nat)
  deriving DecidableEq
structure Pg where
  g : Nat
  b : Nat
  P : Pts
  S : List Int
  st : Int
structure Bl where
  q : Nat
  pa : Nat
  cap : Nat
  pg : Nat → Pg
  marked : Bool
  broken : Bool
  erases : Int
structure Ch where
  c : Nat
  la : Nat
  cap : Nat
  fq : Nat
  mb : Nat
  Bn : Nat
  Pn : Nat
  Wn : Nat
  Kn : Nat
  n : Nat
  bl : Nat → Bl
  F : List F
  ops : Int
  refused : Int
  dark : Bool
  own : Nat → Tag
def Ptrs (W : World) (t q n : Nat) (f : Nat → Nat) : Prop := ∃ cur : Array Value, W.heap[q]? = some (.cells cur t (0, 0)) ∧ ∀ i, i < n → cur[i]? = some (.pointer (some ⟨f i, 0, none⟩))
theorem Ptrs.move {W W1 : World} {t q n : Nat} {f : Nat → Nat} (h : Ptrs W t q n f) (hm : W1.heap[q]? = W.heap[q]?) : Ptrs W1 t q n f := let ⟨c, h1, h2⟩ := h; ⟨c, hm.trans h1, h2⟩
theorem Ptrs.congr {W : World} {t q n : Nat} {f f' : Nat → Nat} (h : Ptrs W t q n f) (hf : ∀ i, i < n → f i = f' i) : Ptrs W t q n f' := let ⟨c, h1, h2⟩ := h; ⟨c, h1, fun i hi => by rw [h2 i hi, hf i hi]⟩
theorem Ptrs.cell {W : World} {t q n : Nat} {f : Nat → Nat} (h : Ptrs W t q n f) {i : Nat} (hi : i < n) : W.cell? ⟨q, i, none⟩ = some (.pointer (some ⟨f i, 0, none⟩)) := by
  obtain ⟨c, h1, h2⟩ := h
  rw [blk_cell h1 i]; exact h2 i hi
theorem Ptrs.lt {W : World} {t q n : Nat} {f : Nat → Nat} (h : Ptrs W t q n f) : q < W.heap.size := let ⟨_, h1, _⟩ := h; blk_lt h1
abbrev slc (q n c : Nat) : Value := .slice (some ⟨q, 0, none⟩) n c
abbrev ptr (q : Nat) : Value := .pointer (some ⟨q, 0, none⟩)
/-- a page of a chip -/
structure PgAt (W : World) (base n : Nat) (own : Nat → Tag) (t : Tag) (p : Pg) : Prop where
  is : ∃ sv, IsC W base p.g p.b p.P p.S p.st sv ∧ ∀ k, sv.ownBlock = some k → own k = t
  len : p.P.length = n
  og : own p.g = t
  ob : own p.b = t
/-- a chip: its block, the blocks' pointers, the blocks, the pages' pointers, the pages, the fates; each block of the heap that is its own bears its name -/
structure IsCh (base : Nat) (W : World) (s : Ch) : Prop where
  may : MayG s.Bn s.Pn s.Wn s.Kn
  n : s.Wn * (s.Kn + 16) = s.n
  hc : W.heap[s.c]? = some (.cells #[.int .i64 s.Bn, .int .i64 s.Pn, .int .i64 s.Wn, .int .i64 s.Kn, slc s.la s.Bn s.cap, ptr s.fq, .int .i64 s.ops, .int .i64 s.refused, .bool s.dark] 67 (0, 0))
  hl : Ptrs W 68 s.la s.Bn (fun i => (s.bl i).q)
  hb : ∀ i, i < s.Bn → W.heap[(s.bl i).q]? = some (.cells #[slc (s.bl i).pa s.Pn (s.bl i).cap, .bool (s.bl i).marked, .bool (s.bl i).broken, .int .i64 (s.bl i).erases] 71 (0, 0))
  hp : ∀ i, i < s.Bn → Ptrs W 72 (s.bl i).pa s.Pn (fun j => ((s.bl i).pg j).g)
  pg : ∀ i j, i < s.Bn → j < s.Pn → PgAt W base s.n s.own (.page i j) ((s.bl i).pg j)
  f1 : Apart s.F
  f2 : s.F.length ≤ 256
  hf : W.heap[s.fq]? = some (.cells #[.map (some s.mb)] 93 (0, 0))
  hm : W.ownsMap Try.prog 3 fateElem s.mb s.F.length (DF s.F)
  fm : s.mb < s.fq
  oc : s.own s.c = .chip
  oa : s.own s.la = .arr
  ofq : s.own s.fq = .fat
  omb : s.own s.mb = .fat
  oq : ∀ i, i < s.Bn → s.own (s.bl i).q = .blk i
  op : ∀ i, i < s.Bn → s.own (s.bl i).pa = .row i
  new : ∀ k, W.heap.size ≤ k → s.own k = .out
  low : ∀ k, s.own k ≠ .out → base ≤ k
  w0 : ∃ w0 : World, w0.heap.size ≤ s.mb
  bops : 0 ≤ s.ops ∧ s.ops ≤ 1000000
  bref : 0 ≤ s.refused ∧ s.refused ≤ s.ops
  ber : ∀ i, i < s.Bn → 0 ≤ (s.bl i).erases ∧ (s.bl i).erases ≤ s.ops
  lc : s.Bn ≤ s.cap
  pc : ∀ i, i < s.Bn → s.Pn ≤ (s.bl i).cap
theorem IsC.moveT {W W1 : World} {base g b : Nat} {P : Pts} {S : List Int} {st : Int} {sv : Value} (h : IsC W base g b P S st sv) (h1 : W1.heap[g]? = W.heap[g]?) (h2 : W1.heap[b]? = W.heap[b]?) (h3 : ∀ k, sv.ownBlock = some k → W1.heap[k]? = W.heap[k]?) : IsC W1 base g b P S st sv := by
  refine ⟨h1.trans h.hg, h.hb.move h2, h.bg, h.bb, h.gb, h.le, ?_⟩
  rcases h.sv with q1 | ⟨q1, q2, q3⟩
  · exact .inl q1
  · exact .inr ⟨q1, q2, row_move q3 h3⟩
theorem PgAt.move {W W1 : World} {base n : Nat} {own own1 : Nat → Tag} {t : Tag} {p : Pg} (h : PgAt W base n own t p) (hm : ∀ k, own k = t → W1.heap[k]? = W.heap[k]? ∧ own1 k = t) : PgAt W1 base n own1 t p := by
  obtain ⟨⟨sv, h1, h2⟩, h3, h4, h5⟩ := h
  exact ⟨⟨sv, h1.moveT (hm _ h4).1 (hm _ h5).1 (fun k hk => (hm k (h2 k hk)).1), fun k hk => (hm k (h2 k hk)).2⟩, h3, (hm _ h4).2, (hm _ h5).2⟩
theorem owns_at {w W : World} {b n : Nat} {D : Dm} (h : w.ownsMap Try.prog 3 fateElem b n D) (hb : W.heap[b]? = w.heap[b]?) : W.ownsMap Try.prog 3 fateElem b n D := by
  obtain ⟨es, clock, h1, h2⟩ := h
  exact ⟨es, clock, hb.trans h1, h2⟩
section
variable {base : Nat} {W W1 : World} {s : Ch}
theorem IsCh.lt (h : IsCh base W s) {k : Nat} (hk : s.own k ≠ .out) : k < W.heap.size := by
  rcases Nat.lt_or_ge k W.heap.size with h1 | h1
  · exact h1
  · exact absurd (h.new k h1) hk
/-- all that is its own is as it was -/
theorem IsCh.move (h : IsCh base W s) (hs : W.heap.size ≤ W1.heap.size) (hm : ∀ k, s.own k ≠ .out → W1.heap[k]? = W.heap[k]?) : IsCh base W1 s where
  may := h.may
  n := h.n
  hc := (hm _ (by rw [h.oc]; decide)).trans h.hc
  hl := h.hl.move (hm _ (by rw [h.oa]; decide))
  hb := fun i hi => (hm _ (by rw [h.oq i hi]; intro e; cases e)).trans (h.hb i hi)
  hp := fun i hi => (h.hp i hi).move (hm _ (by rw [h.op i hi]; intro e; cases e))
  pg := fun i j hi hj => (h.pg i j hi hj).move fun k hk => ⟨hm k (by rw [hk]; intro e; cases e), hk⟩
  f1 := h.f1
  f2 := h.f2
  hf := (hm _ (by rw [h.ofq]; decide)).trans h.hf
  hm := owns_at h.hm (hm s.mb (by rw [h.omb]; decide))
  fm := h.fm
  oc := h.oc
  oa := h.oa
  ofq := h.ofq
  omb := h.omb
  oq := h.oq
  op := h.op
  new := fun k hk => h.new k (Nat.le_trans hs hk)
  low := h.low
  w0 := h.w0
  bops := h.bops
  bref := h.bref
  ber := h.ber
  lc := h.lc
  pc := h.pc
theorem IsCh.below (h : IsCh base W s) (hb : Below W.heap.size W W1) : IsCh base W1 s := h.move hb.size fun k hk => hb.block k (h.lt hk)
/-- a cell of a block that is not its own is written -/
theorem IsCh.far (h : IsCh base W s) {p : Addr} (hp : s.own p.block = .out) (u : Value) : IsCh base (W.setCell p u) s :=
  h.move (Nat.le_of_eq (by simp [World.setCell])) fun k hk => Below.heap_setCell W p u k (fun e => hk (e ▸ hp))
theorem IsCh.drew (h : IsCh base W s) : IsCh base W.drew s := h.move (Nat.le_refl _) fun _ _ => rfl
theorem IsCh.drewN (h : IsCh base W s) (n : Nat) : IsCh base (W.drewN n) s := h.below (pw_below_drewN (Below.refl _ _) n)
/-- the chip's own block is written -/
theorem IsCh.chip (h : IsCh base W s) (o r : Int) (d : Bool) (ho : 0 ≤ o ∧ s.ops ≤ o ∧ o ≤ 1000000) (hr : 0 ≤ r ∧ r ≤ o) (hs : W.heap.size ≤ W1.heap.size) (hm : ∀ k, s.own k ≠ .out → k ≠ s.c → W1.heap[k]? = W.heap[k]?)
    (hc : W1.heap[s.c]? = some (.cells #[.int .i64 s.Bn, .int .i64 s.Pn, .int .i64 s.Wn, .int .i64 s.Kn, slc s.la s.Bn s.cap, ptr s.fq, .int .i64 o, .int .i64 r, .bool d] 67 (0, 0))) : IsCh base W1 { s with ops := o, refused := r, dark := d } := by
  have hne : ∀ k t, s.own k = t → t ≠ .chip → k ≠ s.c := fun k t h1 h2 e => h2 (by rw [← h1, e]; exact h.oc)
  exact {
    may := h.may
    n := h.n
    hc := hc
    hl := h.hl.move (hm _ (by rw [h.oa]; decide) (hne _ _ h.oa (by decide)))
    hb := fun i hi => (hm _ (by rw [h.oq i hi]; intro e; cases e) (hne _ _ (h.oq i hi) (by intro e; cases e))).trans (h.hb i hi)
    hp := fun i hi => (h.hp i hi).move (hm _ (by rw [h.op i hi]; intro e; cases e) (hne _ _ (h.op i hi) (by intro e; cases e)))
    pg := fun i j hi hj => (h.pg i j hi hj).move fun k hk => ⟨hm k (by rw [hk]; intro e; cases e) (hne _ _ hk (by intro e; cases e)), hk⟩
    f1 := h.f1
    f2 := h.f2
    hf := (hm _ (by rw [h.ofq]; decide) (hne _ _ h.ofq (by decide))).trans h.hf
    hm := owns_at h.hm (hm s.mb (by rw [h.omb]; decide) (hne _ _ h.omb (by decide)))
    fm := h.fm
    oc := h.oc
    oa := h.oa
    ofq := h.ofq
    omb := h.omb
    oq := h.oq
    op := h.op
    new := fun k hk => h.new k (Nat.le_trans hs hk)
    low := h.low
    w0 := h.w0
    bops := ⟨ho.1, ho.2.2⟩
    bref := hr
    ber := fun i hi => ⟨(h.ber i hi).1, Int.le_trans (h.ber i hi).2 ho.2.1⟩
    lc := h.lc
    pc := h.pc }
/-- one of the blocks becomes another -/
def setB (s : Ch) (i : Nat) (b : Bl) : Ch := { s with bl := fun k => if k = i then b else s.bl k }
theorem setB_at (s : Ch) (i : Nat) (b : Bl) : (setB s i b).bl i = b := by simp [setB]
theorem setB_ne (s : Ch) {i k : Nat} (b : Bl) (h : k ≠ i) : (setB s i b).bl k = s.bl k := by simp [setB, h]
/-- .. its flags -/
theorem IsCh.blk (h : IsCh base W s) (i : Nat) (hi : i < s.Bn) (m k : Bool) (e : Int) (he : 0 ≤ e ∧ e ≤ s.ops) (hs : W.heap.size ≤ W1.heap.size) (hm : ∀ k, s.own k ≠ .out → k ≠ (s.bl i).q → W1.heap[k]? = W.heap[k]?)
    (hc : W1.heap[(s.bl i).q]? = some (.cells #[slc (s.bl i).pa s.Pn (s.bl i).cap, .bool m, .bool k, .int .i64 e] 71 (0, 0))) : IsCh base W1 (setB s i { s.bl i with marked := m, broken := k, erases := e }) := by
  have hne : ∀ k t, s.own k = t → t ≠ .blk i → k ≠ (s.bl i).q := fun k t h1 h2 e => h2 (by rw [← h1, e]; exact h.oq i hi)
  have hq' : ∀ x, ((setB s i { s.bl i with marked := m, broken := k, erases := e }).bl x).q = (s.bl x).q := fun x => by by_cases hx : x = i <;> simp [setB, hx]
  have hpa : ∀ x, ((setB s i { s.bl i with marked := m, broken := k, erases := e }).bl x).pa = (s.bl x).pa := fun x => by by_cases hx : x = i <;> simp [setB, hx]
  have hpg : ∀ x, ((setB s i { s.bl i with marked := m, broken := k, erases := e }).bl x).pg = (s.bl x).pg := fun x => by by_cases hx : x = i <;> simp [setB, hx]
  have hcp : ∀ x, ((setB s i { s.bl i with marked := m, broken := k, erases := e }).bl x).cap = (s.bl x).cap := fun x => by by_cases hx : x = i <;> simp [setB, hx]
  exact {
    may := h.may
    n := h.n
    hc := (hm _ (by rw [h.oc]; decide) (hne _ _ h.oc (by intro e; cases e))).trans h.hc
    hl := (h.hl.move (hm _ (by rw [h.oa]; decide) (hne _ _ h.oa (by intro e; cases e)))).congr fun x hx => (hq' x).symm
    hb := fun x hx => by
      by_cases e1 : x = i
      · subst e1; rw [setB_at]; exact hc
      · rw [setB_ne s _ e1]
        exact (hm _ (by rw [h.oq x hx]; intro e; cases e) (hne _ _ (h.oq x hx) (by intro e; cases e; exact e1 rfl))).trans (h.hb x hx)
    hp := fun x hx => by
      rw [hpa x, hpg x]
      exact (h.hp x hx).move (hm _ (by rw [h.op x hx]; intro e; cases e) (hne _ _ (h.op x hx) (by intro e; cases e)))
    pg := fun x j hx hj => by
      rw [hpg x]
      exact (h.pg x j hx hj).move fun k hk => ⟨hm k (by rw [hk]; intro e; cases e) (hne _ _ hk (by intro e; cases e)), hk⟩
    f1 := h.f1
    f2 := h.f2
    hf := (hm _ (by rw [h.ofq]; decide) (hne _ _ h.ofq (by intro e; cases e))).trans h.hf
    hm := owns_at h.hm (hm s.mb (by rw [h.omb]; decide) (hne _ _ h.omb (by intro e; cases e)))
    fm := h.fm
    oc := h.oc
    oa := h.oa
    ofq := h.ofq
    omb := h.omb
    oq := fun x hx => by rw [hq' x]; exact h.oq x hx
    op := fun x hx => by rw [hpa x]; exact h.op x hx
    new := fun k hk => h.new k (Nat.le_trans hs hk)
    low := h.low
    w0 := h.w0
    bops := h.bops
    bref := h.bref
    ber := fun x hx => by
      by_cases e1 : x = i
      · subst e1; rw [setB_at]; exact he
      · rw [setB_ne s _ e1]; exact h.ber x hx
    lc := h.lc
    pc := fun x hx => by rw [hcp x]; exact h.pc x hx }
/-- one of the pages becomes another -/
def setP (s : Ch) (i j : Nat) (p : Pg) (own : Nat → Tag) : Ch := { s with bl := fun k => if k = i then { s.bl i with pg := fun m => if m = j then p else (s.bl i).pg m } else s.bl k, own := own }
theorem IsCh.page (h : IsCh base W s) (i j : Nat) (hi : i < s.Bn) (hj : j < s.Pn) (p : Pg) (own : Nat → Tag) (hg : p.g = ((s.bl i).pg j).g) (hb : p.b = ((s.bl i).pg j).b) (hs : W.heap.size ≤ W1.heap.size)
    (hm : ∀ k, s.own k ≠ .out → k ≠ ((s.bl i).pg j).g → k ≠ ((s.bl i).pg j).b → W1.heap[k]? = W.heap[k]?) (ho : ∀ k, k < W.heap.size → own k = s.own k) (hn : ∀ k, W1.heap.size ≤ k → own k = .out) (hlow : base ≤ W.heap.size)
    (hp : ∃ sv, IsC W1 base p.g p.b p.P p.S p.st sv ∧ ∀ k, sv.ownBlock = some k → own k = .page i j) (hl : p.P.length = s.n) : IsCh base W1 (setP s i j p own) := by
  have P0 := h.pg i j hi hj
  have hne : ∀ k t, s.own k = t → t ≠ .page i j → k ≠ ((s.bl i).pg j).g ∧ k ≠ ((s.bl i).pg j).b := fun k t h1 h2 => ⟨fun e => h2 (by rw [← h1, e]; exact P0.og), fun e => h2 (by rw [← h1, e]; exact P0.ob)⟩
  have hk : ∀ k t, s.own k = t → t ≠ .out → t ≠ .page i j → W1.heap[k]? = W.heap[k]? ∧ own k = t := fun k t h1 h2 h3 =>
    ⟨hm k (by rw [h1]; exact h2) (hne k t h1 h3).1 (hne k t h1 h3).2, (ho k (h.lt (by rw [h1]; exact h2))).trans h1⟩
  have hq : ∀ x, ((setP s i j p own).bl x).q = (s.bl x).q := fun x => by by_cases hx : x = i <;> simp [setP, hx]
  have hpa : ∀ x, ((setP s i j p own).bl x).pa = (s.bl x).pa := fun x => by by_cases hx : x = i <;> simp [setP, hx]
  have hcp : ∀ x, ((setP s i j p own).bl x).cap = (s.bl x).cap := fun x => by by_cases hx : x = i <;> simp [setP, hx]
  have hmk : ∀ x, ((setP s i j p own).bl x).marked = (s.bl x).marked := fun x => by by_cases hx : x = i <;> simp [setP, hx]
  have hbk : ∀ x, ((setP s i j p own).bl x).broken = (s.bl x).broken := fun x => by by_cases hx : x = i <;> simp [setP, hx]
  have her : ∀ x, ((setP s i j p own).bl x).erases = (s.bl x).erases := fun x => by by_cases hx : x = i <;> simp [setP, hx]
  have hgg : ∀ x y, (((setP s i j p own).bl x).pg y).g = ((s.bl x).pg y).g := fun x y => by
    by_cases hx : x = i
    · subst hx
      by_cases hy : y = j
      · subst hy; simp [setP, hg]
      · simp [setP, hy]
    · simp [setP, hx]
  exact {
    may := h.may
    n := h.n
    hc := (hk _ _ h.oc (by decide) (by intro e; cases e)).1.trans h.hc
    hl := (h.hl.move (hk _ _ h.oa (by decide) (by intro e; cases e)).1).congr fun x hx => (hq x).symm
    hb := fun x hx => by
      rw [hq x, hpa x, hcp x, hmk x, hbk x, her x]
      exact (hk _ _ (h.oq x hx) (by intro e; cases e) (by intro e; cases e)).1.trans (h.hb x hx)
    hp := fun x hx => by
      rw [hpa x]
      exact ((h.hp x hx).move (hk _ _ (h.op x hx) (by intro e; cases e) (by intro e; cases e)).1).congr fun y hy => (hgg x y).symm
    pg := fun x y hx hy => by
      by_cases e1 : x = i ∧ y = j
      · obtain ⟨rfl, rfl⟩ := e1
        have e2 : ((setP s x y p own).bl x).pg y = p := by simp [setP]
        rw [e2]
        exact ⟨hp, hl, by rw [hg]; exact (ho _ (h.lt (by rw [P0.og]; intro e; cases e))).trans P0.og, by rw [hb]; exact (ho _ (h.lt (by rw [P0.ob]; intro e; cases e))).trans P0.ob⟩
      · have e2 : ((setP s i j p own).bl x).pg y = (s.bl x).pg y := by
          by_cases hx : x = i
          · subst hx
            have hy : y ≠ j := fun e => e1 ⟨rfl, e⟩
            simp [setP, hy]
          · simp [setP, hx]
        rw [e2]
        exact (h.pg x y hx hy).move fun k hk2 => hk k _ hk2 (by intro e; cases e) (by intro e; cases e; exact e1 ⟨rfl, rfl⟩)
    f1 := h.f1
    f2 := h.f2
    hf := (hk _ _ h.ofq (by decide) (by intro e; cases e)).1.trans h.hf
    hm := owns_at h.hm (hk _ _ h.omb (by decide) (by intro e; cases e)).1
    fm := h.fm
    oc := (hk _ _ h.oc (by decide) (by intro e; cases e)).2
    oa := (hk _ _ h.oa (by decide) (by intro e; cases e)).2
    ofq := (hk _ _ h.ofq (by decide) (by intro e; cases e)).2
    omb := (hk _ _ h.omb (by decide) (by intro e; cases e)).2
    oq := fun x hx => by rw [hq x]; exact (hk _ _ (h.oq x hx) (by intro e; cases e) (by intro e; cases e)).2
    op := fun x hx => by rw [hpa x]; exact (hk _ _ (h.op x hx) (by intro e; cases e) (by intro e; cases e)).2
    new := hn
    low := fun k hk2 => by
      rcases Nat.lt_or_ge k W.heap.size with h1 | h1
      · exact h.low k (by rw [← ho k h1]; exact hk2)
      · omega
    w0 := h.w0
    bops := h.bops
    bref := h.bref
    ber := fun x hx => by rw [her x]; exact h.ber x hx
    lc := h.lc
    pc := fun x hx => by rw [hcp x]; exact h.pc x hx }
theorem IsCh.ccells (h : IsCh base W s) : W.cell? ⟨s.c, 0, none⟩ = some (.int .i64 s.Bn) ∧ W.cell? ⟨s.c, 1, none⟩ = some (.int .i64 s.Pn) ∧ W.cell? ⟨s.c, 2, none⟩ = some (.int .i64 s.Wn) ∧ W.cell? ⟨s.c, 3, none⟩ = some (.int .i64 s.Kn) ∧
    W.cell? ⟨s.c, 4, none⟩ = some (slc s.la s.Bn s.cap) ∧ W.cell? ⟨s.c, 5, none⟩ = some (ptr s.fq) ∧ W.cell? ⟨s.c, 6, none⟩ = some (.int .i64 s.ops) ∧ W.cell? ⟨s.c, 7, none⟩ = some (.int .i64 s.refused) ∧ W.cell? ⟨s.c, 8, none⟩ = some (.bool s.dark) ∧ ∀ i, W.frozen? ⟨s.c, i, none⟩ = false :=
  ⟨(blk_cell h.hc 0).trans rfl, (blk_cell h.hc 1).trans rfl, (blk_cell h.hc 2).trans rfl, (blk_cell h.hc 3).trans rfl, (blk_cell h.hc 4).trans rfl, (blk_cell h.hc 5).trans rfl, (blk_cell h.hc 6).trans rfl, (blk_cell h.hc 7).trans rfl, (blk_cell h.hc 8).trans rfl, fun i => blk_frozen h.hc i⟩
theorem IsCh.bcells (h : IsCh base W s) (i : Nat) (hi : i < s.Bn) : W.cell? ⟨(s.bl i).q, 0, none⟩ = some (slc (s.bl i).pa s.Pn (s.bl i).cap) ∧ W.cell? ⟨(s.bl i).q, 1, none⟩ = some (.bool (s.bl i).marked) ∧ W.cell? ⟨(s.bl i).q, 2, none⟩ = some (.bool (s.bl i).broken) ∧ W.cell? ⟨(s.bl i).q, 3, none⟩ = some (.int .i64 (s.bl i).erases) ∧ ∀ k, W.frozen? ⟨(s.bl i).q, k, none⟩ = false :=
  ⟨(blk_cell (h.hb i hi) 0).trans rfl, (blk_cell (h.hb i hi) 1).trans rfl, (blk_cell (h.hb i hi) 2).trans rfl, (blk_cell (h.hb i hi) 3).trans rfl, fun k => blk_frozen (h.hb i hi) k⟩
theorem IsCh.isF (h : IsCh base W s) : ∃ w0, IsF w0 W s.fq s.F := let ⟨w0, h0⟩ := h.w0; ⟨w0, h.f1, h.f2, s.mb, h.hf, h.hm, h0, h.fm⟩
theorem IsCh.bn (h : IsCh base W s) : 4 ≤ s.Bn ∧ s.Bn ≤ 64 ∧ 2 ≤ s.Pn ∧ s.Pn ≤ 32 ∧ 1 ≤ s.Wn ∧ s.Wn ≤ 4 ∧ 1 ≤ s.Kn ∧ s.Kn ≤ 64 ∧ 17 ≤ s.n ∧ s.n ≤ 320 := by
  obtain ⟨h1, h2, h3, h4, h5, h6, h7, h8, h9⟩ := h.may
  have hr := room h.may
  have hn := h.n
  have : ((s.Wn * (s.Kn + 16) : Nat) : Int) = (s.Wn : Int) * ((s.Kn : Int) + 16) := by push_cast; rfl
  omega
end
end Go.Proofs.Ytmddafefdleimaa.M
