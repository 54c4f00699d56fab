/- A chip within a call, with the call's own blocks beside it; by hand (the wrappers printed by law10.genY.py). -/
import Derived.Test.YtmddafefdleimaaX
namespace Go.Proofs.Ytmddafefdleimaa.M
open Go.RowKit Go.Proofs.YtmddafefdleimaaW.PrintWords Go.Proofs.YtmddafefdleimaaW.PrintLast Go.Proofs.YtmddafefdleimaaW.PrintMore Go.Proofs.Ytmddafefdleimaa.Rw Go.Proofs.Ytmddafefdleimaa.Fl Go.Maps
set_option linter.unusedVariables false
set_option linter.unusedSimpArgs false
/-- the chip at c; the blocks qs are not its own -/
def Lq (w W : World) (base c : Nat) (qs : List Nat) (Bn Pn Wn Kn n : Nat) (L : List F) (ops refused : Int) (dark : Bool) (a : Nums) : Prop :=
  ∃ s, CS w base W s ∧ Abs s Bn Pn Wn Kn n L ops refused dark a ∧ s.c = c ∧ ∀ q ∈ qs, s.own q = .out ∧ q < W.heap.size
/-- what lies in them stays -/
def Kq (qs : List Nat) (W w' : World) : Prop := ∀ q ∈ qs, w'.heap[q]? = W.heap[q]?
theorem Kq.row {qs : List Nat} {W w' : World} (h : Kq qs W w') {α : Type} {enc : α → Value} {t : TypeId} {q : Nat} {xs : List α} (hr : Row enc t W q xs) (hq : q ∈ qs) : Row enc t w' q xs := (h q hq).trans hr
theorem Kq.blk {qs : List Nat} {W w' : World} (h : Kq qs W w') {q : Nat} {o : Obj} (hr : W.heap[q]? = some o) (hq : q ∈ qs) : w'.heap[q]? = some o := (h q hq).trans hr
section
variable {w W W1 : World} {base c : Nat} {qs : List Nat} {Bn Pn Wn Kn n : Nat} {L : List F} {ops refused : Int} {dark : Bool} {a : Nums} {xs : List Int}
theorem Lq.bel (h : Lq w W base c qs Bn Pn Wn Kn n L ops refused dark a) : Below w.heap.size w W := let ⟨_, h1, _⟩ := h; h1.bel
theorem Lq.below (h : Lq w W base c qs Bn Pn Wn Kn n L ops refused dark a) (hb : Below W.heap.size W W1) : Lq w W1 base c qs Bn Pn Wn Kn n L ops refused dark a :=
  let ⟨s, h1, h2, h3, h4⟩ := h; ⟨s, h1.below hb, h2, h3, fun q hq => ⟨(h4 q hq).1, Nat.lt_of_lt_of_le (h4 q hq).2 hb.size⟩⟩
theorem Lq.alloc (h : Lq w W base c qs Bn Pn Wn Kn n L ops refused dark a) (o : Obj) : Lq w (W.alloc o) base c (W.heap.size :: qs) Bn Pn Wn Kn n L ops refused dark a := by
  obtain ⟨s, h1, h2, h3, h4⟩ := h
  refine ⟨s, h1.alloc o, h2, h3, fun q hq => ?_⟩
  rw [World.size_alloc]
  rcases List.mem_cons.1 hq with rfl | hq
  · exact ⟨h1.new, Nat.lt_succ_self _⟩
  · exact ⟨(h4 q hq).1, Nat.lt_succ_of_lt (h4 q hq).2⟩
theorem Lq.drewN (h : Lq w W base c qs Bn Pn Wn Kn n L ops refused dark a) (m : Nat) : Lq w (W.drewN m) base c qs Bn Pn Wn Kn n L ops refused dark a := h.below (pw_below_drewN (Below.refl _ _) m)
theorem Lq.far (h : Lq w W base c qs Bn Pn Wn Kn n L ops refused dark a) {p : Addr} (hq : p.block ∈ qs) (hl : w.heap.size ≤ p.block) (u : Value) : Lq w (W.setCell p u) base c qs Bn Pn Wn Kn n L ops refused dark a := by
  obtain ⟨s, h1, h2, h3, h4⟩ := h
  exact ⟨s, h1.far (h4 _ hq).1 hl u, h2, h3, fun q hq => ⟨(h4 q hq).1, by simpa [World.setCell] using (h4 q hq).2⟩⟩
theorem Lq.sub (h : Lq w W base c qs Bn Pn Wn Kn n L ops refused dark a) {qs1 : List Nat} (hs : ∀ q ∈ qs1, q ∈ qs) : Lq w W base c qs1 Bn Pn Wn Kn n L ops refused dark a := let ⟨s, h1, h2, h3, h4⟩ := h; ⟨s, h1, h2, h3, fun q hq => h4 q (hs q hq)⟩
theorem Lq.lt (h : Lq w W base c qs Bn Pn Wn Kn n L ops refused dark a) {q : Nat} (hq : q ∈ qs) : q < W.heap.size := let ⟨_, _, _, _, h4⟩ := h; (h4 q hq).2
theorem Lq.add (h : Lq w W base c qs Bn Pn Wn Kn n L ops refused dark a) {q : Nat} (hf : W.heap.size ≤ q) (hl : q < W1.heap.size) (hb : Below W.heap.size W W1) : Lq w W1 base c (q :: qs) Bn Pn Wn Kn n L ops refused dark a := by
  obtain ⟨s, h1, h2, h3, h4⟩ := h
  refine ⟨s, h1.below hb, h2, h3, fun p hp => ?_⟩
  rcases List.mem_cons.1 hp with rfl | hp
  · exact ⟨h1.is.new _ hf, hl⟩
  · exact ⟨(h4 p hp).1, Nat.lt_of_lt_of_le (h4 p hp).2 hb.size⟩
theorem Lq.got {s : Ch} {w' : World} {ops1 refused1 : Int} {dark1 : Bool} {a1 : Nums} (hc : s.c = c) (h4 : ∀ q ∈ qs, s.own q = .out ∧ q < W.heap.size) (h : Left w base s W w' Bn Pn Wn Kn n L ops1 refused1 dark1 a1) :
    Aside0 (Lq w w' base c qs Bn Pn Wn Kn n L ops1 refused1 dark1 a1) ∧ Aside0 (Kq qs W w') := by
  obtain ⟨s1, e1, e2, e3, e4, e5⟩ := h
  exact ⟨⟨s1, e1.out, e3.out, e2.trans hc, fun q hq => ⟨(e5.out q (h4 q hq).2).trans (h4 q hq).1, Nat.lt_of_lt_of_le (h4 q hq).2 e4.out.bel.size⟩⟩, ⟨fun q hq => e4.out.out q (h4 q hq).2 (h4 q hq).1⟩⟩
theorem Lq.of {W0 : World} {s : Ch} {bads : List Int} (hb : Below w.heap.size w W0) (hI : IsCh W0.heap.size W s) (hB : Below W0.heap.size W0 W) (hF : Fresh s Bn Pn Wn Kn n bads L) (hq : ∀ q ∈ qs, q < W0.heap.size) :
    Lq w W W0.heap.size s.c qs Bn Pn Wn Kn n L 0 0 false (newN n fun x => decide ((x : Int) ∈ bads)) :=
  ⟨s, ⟨hI, below_step hb hB, hb.size, hB.size⟩, Abs.of hF, rfl, fun q h => ⟨Classical.byContradiction fun e => absurd (hI.low _ e) (Nat.not_le_of_lt (hq q h)), Nat.lt_of_lt_of_le (hq q h) hB.size⟩⟩
theorem Lq.progYes (h : Lq w W base c qs Bn Pn Wn Kn n L ops refused false a) (i j sb : Nat) (hi : i < Bn) (hj : j < Pn) (hr : Row (Value.int .u16) 40 W sb xs) (hs : sb ∈ qs) (hl : xs.length = n) (hx : ∀ y, y < xs.length → 0 ≤ xs.getD y 0 ∧ xs.getD y 0 < 1024) (hm : a.mkd i = false) (hk : a.br i = false) (ho : ops < 1000000) (he : Next (a.st i) Pn j) (f0 f2 : Int) (ok : Bool) (hf : lookF L ops = ((f0, 0, f2), ok)) :
    Calls Try.prog 14 #[ptr c, .int .i64 (i : Int), .int .i64 (j : Int), .slice (some ⟨sb, 0, none⟩) n n] W fun e w' => e = .returned (.int .i64 0) ∧ Aside0 (Lq w w' base c qs Bn Pn Wn Kn n L (ops + 1) (refused) false { a with st := up2 a.st i j 1, P := up2 a.P i j (progL (a.P i j) xs n), S := up2 a.S i j xs }) ∧ Aside0 (Kq qs W w') := by
  obtain ⟨s, h1, h2, rfl, h4⟩ := h
  exact (h2.progYes h1 i j sb hi hj hr (h4 sb hs).1 hl hx hm hk ho he f0 f2 ok hf).mono fun e w' ⟨e1, e2⟩ => ⟨e1, Lq.got rfl h4 e2⟩
theorem Lq.progNo (h : Lq w W base c qs Bn Pn Wn Kn n L ops refused false a) (i j sb : Nat) (hi : i < Bn) (hj : j < Pn) (hr : Row (Value.int .u16) 40 W sb xs) (hs : sb ∈ qs) (hl : xs.length = n) (hx : ∀ y, y < xs.length → 0 ≤ xs.getD y 0 ∧ xs.getD y 0 < 1024) (ho : ops < 1000000) (m : Int) (r : Bool) (he : Next (a.st i) Pn j ↔ r = true) (hm : (if a.mkd i then 9 else if r then (if a.br i then 6 else 0) else 5) = m) (hm0 : m ≠ 0) (r2 : Int) (hr2 : refused + (if Refuses m then 1 else 0) = r2) :
    Calls Try.prog 14 #[ptr c, .int .i64 (i : Int), .int .i64 (j : Int), .slice (some ⟨sb, 0, none⟩) n n] W fun e w' => e = .returned (.int .i64 m) ∧ Aside0 (Lq w w' base c qs Bn Pn Wn Kn n L (ops + 1) (r2) false a) ∧ Aside0 (Kq qs W w') := by
  obtain ⟨s, h1, h2, rfl, h4⟩ := h
  exact (h2.progNo h1 i j sb hi hj hr (h4 sb hs).1 hl hx ho m r he hm hm0 r2 hr2).mono fun e w' ⟨e1, e2⟩ => ⟨e1, Lq.got rfl h4 e2⟩
theorem Lq.progCut (h : Lq w W base c qs Bn Pn Wn Kn n L ops refused false a) (i j sb : Nat) (hi : i < Bn) (hj : j < Pn) (hr : Row (Value.int .u16) 40 W sb xs) (hs : sb ∈ qs) (hl : xs.length = n) (hx : ∀ y, y < xs.length → 0 ≤ xs.getD y 0 ∧ xs.getD y 0 < 1024) (hm : a.mkd i = false) (hk : a.br i = false) (ho : ops < 1000000) (he : Next (a.st i) Pn j) (f0 f2 : Int) (ok : Bool) (hf : lookF L ops = ((f0, 2, f2), ok)) (km : Nat) (st' : Int) (hkm : (if (if f2 < 0 then 0 else f2) ≤ (n : Int) then (if f2 < 0 then 0 else f2) else (n : Int)) = (km : Int)) (hst' : (if f2 ≤ 0 then 0 else if (n : Int) ≤ f2 then 1 else 2) = st') :
    Calls Try.prog 14 #[ptr c, .int .i64 (i : Int), .int .i64 (j : Int), .slice (some ⟨sb, 0, none⟩) n n] W fun e w' => e = .returned (.int .i64 8) ∧ Aside0 (Lq w w' base c qs Bn Pn Wn Kn n L (ops + 1) (refused) true { a with st := up2 a.st i j st', P := up2 a.P i j (progL (a.P i j) xs km), S := up2 a.S i j xs }) ∧ Aside0 (Kq qs W w') := by
  obtain ⟨s, h1, h2, rfl, h4⟩ := h
  exact (h2.progCut h1 i j sb hi hj hr (h4 sb hs).1 hl hx hm hk ho he f0 f2 ok hf km st' hkm hst').mono fun e w' ⟨e1, e2⟩ => ⟨e1, Lq.got rfl h4 e2⟩
theorem Lq.progFail (h : Lq w W base c qs Bn Pn Wn Kn n L ops refused false a) (i j sb : Nat) (hi : i < Bn) (hj : j < Pn) (hr : Row (Value.int .u16) 40 W sb xs) (hs : sb ∈ qs) (hl : xs.length = n) (hx : ∀ y, y < xs.length → 0 ≤ xs.getD y 0 ∧ xs.getD y 0 < 1024) (hm : a.mkd i = false) (hk : a.br i = false) (ho : ops < 1000000) (he : Next (a.st i) Pn j) (f0 f2 : Int) (ok : Bool) (hf : lookF L ops = ((f0, 1, f2), ok)) (y : Int) (hy : (if (n : Int) - 9 * (Wn : Int) < f2 then (n : Int) - 9 * (Wn : Int) else f2) = y) (km : Nat) (st' : Int) (hkm : (if (if y < 0 then 0 else y) ≤ (n : Int) then (if y < 0 then 0 else y) else (n : Int)) = (km : Int)) (hst' : (if y ≤ 0 then 0 else if (n : Int) ≤ y then 1 else 2) = st') :
    Calls Try.prog 14 #[ptr c, .int .i64 (i : Int), .int .i64 (j : Int), .slice (some ⟨sb, 0, none⟩) n n] W fun e w' => e = .returned (.int .i64 6) ∧ Aside0 (Lq w w' base c qs Bn Pn Wn Kn n L (ops + 1) (refused) false { a with st := up2 a.st i j st', P := up2 a.P i j (progL (a.P i j) xs km), S := up2 a.S i j xs }) ∧ Aside0 (Kq qs W w') := by
  obtain ⟨s, h1, h2, rfl, h4⟩ := h
  exact (h2.progFail h1 i j sb hi hj hr (h4 sb hs).1 hl hx hm hk ho he f0 f2 ok hf y hy km st' hkm hst').mono fun e w' ⟨e1, e2⟩ => ⟨e1, Lq.got rfl h4 e2⟩
theorem Lq.eraseYes (h : Lq w W base c qs Bn Pn Wn Kn n L ops refused false a) (i : Nat) (hi : i < Bn) (hm : a.mkd i = false) (hk : a.br i = false) (ho : ops < 1000000) (f0 f2 : Int) (ok : Bool) (hf : lookF L ops = ((f0, 0, f2), ok)) :
    Calls Try.prog 13 #[ptr c, .int .i64 (i : Int)] W fun e w' => e = .returned (.int .i64 0) ∧ Aside0 (Lq w w' base c qs Bn Pn Wn Kn n L (ops + 1) (refused) false { a with mkd := up1 a.mkd i (a.mkd i), br := up1 a.br i (a.br i), er := up1 a.er i (a.er i + 1), st := fun x y => if x = i then 0 else a.st x y, P := fun x y => if x = i then List.replicate n (0, 0) else a.P x y }) ∧ Aside0 (Kq qs W w') := by
  obtain ⟨s, h1, h2, rfl, h4⟩ := h
  exact (h2.eraseYes h1 i hi hm hk ho f0 f2 ok hf).mono fun e w' ⟨e1, e2⟩ => ⟨e1, Lq.got rfl h4 e2⟩
theorem Lq.eraseNo (h : Lq w W base c qs Bn Pn Wn Kn n L ops refused false a) (i : Nat) (hi : i < Bn) (ho : ops < 1000000) (m : Int) (hm : (if a.mkd i then 9 else if a.br i then 7 else 0) = m) (hm0 : m ≠ 0) (r2 : Int) (hr2 : refused + (if Refuses m then 1 else 0) = r2) :
    Calls Try.prog 13 #[ptr c, .int .i64 (i : Int)] W fun e w' => e = .returned (.int .i64 m) ∧ Aside0 (Lq w w' base c qs Bn Pn Wn Kn n L (ops + 1) (r2) false a) ∧ Aside0 (Kq qs W w') := by
  obtain ⟨s, h1, h2, rfl, h4⟩ := h
  exact (h2.eraseNo h1 i hi ho m hm hm0 r2 hr2).mono fun e w' ⟨e1, e2⟩ => ⟨e1, Lq.got rfl h4 e2⟩
theorem Lq.eraseFail (h : Lq w W base c qs Bn Pn Wn Kn n L ops refused false a) (i : Nat) (hi : i < Bn) (hm : a.mkd i = false) (hk : a.br i = false) (ho : ops < 1000000) (f0 f2 : Int) (ok : Bool) (hf : lookF L ops = ((f0, 1, f2), ok)) :
    Calls Try.prog 13 #[ptr c, .int .i64 (i : Int)] W fun e w' => e = .returned (.int .i64 7) ∧ Aside0 (Lq w w' base c qs Bn Pn Wn Kn n L (ops + 1) (refused) false { a with mkd := up1 a.mkd i (a.mkd i), br := up1 a.br i true, er := up1 a.er i (a.er i) }) ∧ Aside0 (Kq qs W w') := by
  obtain ⟨s, h1, h2, rfl, h4⟩ := h
  exact (h2.eraseFail h1 i hi hm hk ho f0 f2 ok hf).mono fun e w' ⟨e1, e2⟩ => ⟨e1, Lq.got rfl h4 e2⟩
theorem Lq.markYes (h : Lq w W base c qs Bn Pn Wn Kn n L ops refused false a) (i : Nat) (hi : i < Bn) (ho : ops < 1000000) (f : F) (ok : Bool) (hf : lookF L ops = (f, ok)) (hf2 : f.2.1 ≠ 2) :
    Calls Try.prog 20 #[ptr c, .int .i64 (i : Int)] W fun e w' => e = .returned (.int .i64 0) ∧ Aside0 (Lq w w' base c qs Bn Pn Wn Kn n L (ops + 1) (refused) false { a with mkd := up1 a.mkd i true, br := up1 a.br i (a.br i), er := up1 a.er i (a.er i) }) ∧ Aside0 (Kq qs W w') := by
  obtain ⟨s, h1, h2, rfl, h4⟩ := h
  exact (h2.markYes h1 i hi ho f ok hf hf2).mono fun e w' ⟨e1, e2⟩ => ⟨e1, Lq.got rfl h4 e2⟩
theorem Lq.markedYes (h : Lq w W base c qs Bn Pn Wn Kn n L ops refused false a) (i : Nat) (hi : i < Bn) (ho : ops < 1000000) (f : F) (ok : Bool) (hf : lookF L ops = (f, ok)) (hf2 : f.2.1 ≠ 2) (b : Bool) (hb : a.mkd i = b) :
    Calls Try.prog 21 #[ptr c, .int .i64 (i : Int)] W fun e w' => e = .returned (.tuple #[.bool b, .int .i64 0]) ∧ Aside0 (Lq w w' base c qs Bn Pn Wn Kn n L (ops + 1) (refused) false a) ∧ Aside0 (Kq qs W w') := by
  obtain ⟨s, h1, h2, rfl, h4⟩ := h
  exact (h2.markedYes h1 i hi ho f ok hf hf2 b hb).mono fun e w' ⟨e1, e2⟩ => ⟨e1, Lq.got rfl h4 e2⟩
theorem Lq.senseCut (h : Lq w W base c qs Bn Pn Wn Kn n L ops refused false a) (i j : Nat) (hi : i < Bn) (hj : j < Pn) (ho : ops < 1000000) (f : F) (ok : Bool) (hf : lookF L ops = (f, ok)) (hf2 : f.2.1 = 2) :
    Calls Try.prog 17 #[ptr c, .int .i64 (i : Int), .int .i64 (j : Int)] W fun e w' => e = .returned (.tuple #[.slice none 0 0, .int .i64 8]) ∧ Aside0 (Lq w w' base c qs Bn Pn Wn Kn n L (ops + 1) (refused) true a) ∧ Aside0 (Kq qs W w') := by
  obtain ⟨s, h1, h2, rfl, h4⟩ := h
  exact (h2.senseCut h1 i j hi hj ho f ok hf hf2).mono fun e w' ⟨e1, e2⟩ => ⟨e1, Lq.got rfl h4 e2⟩
theorem Lq.senseOut (h : Lq w W base c qs Bn Pn Wn Kn n L ops refused false a) (i j : Int) (hi : i < 0 ∨ (Bn : Int) ≤ i) (ho : ops < 1000000) :
    Calls Try.prog 17 #[ptr c, .int .i64 i, .int .i64 j] W fun e w' => e = .returned (.tuple #[.slice none 0 0, .int .i64 1]) ∧ Aside0 (Lq w w' base c qs Bn Pn Wn Kn n L (ops + 1) (refused + 1) false a) ∧ Aside0 (Kq qs W w') := by
  obtain ⟨s, h1, h2, rfl, h4⟩ := h
  exact (h2.senseOut h1 i j hi ho).mono fun e w' ⟨e1, e2⟩ => ⟨e1, Lq.got rfl h4 e2⟩
theorem Lq.power (h : Lq w W base c qs Bn Pn Wn Kn n L ops refused dark a)  :
    Calls Try.prog 22 #[ptr c] W fun e w' => e = .returned (.tuple #[]) ∧ Aside0 (Lq w w' base c qs Bn Pn Wn Kn n L (ops) (refused) false a) ∧ Aside0 (Kq qs W w') := by
  obtain ⟨s, h1, h2, rfl, h4⟩ := h
  exact (h2.power h1 ).mono fun e w' ⟨e1, e2⟩ => ⟨e1, Lq.got rfl h4 e2⟩
theorem Lq.senseYes (h : Lq w W base c qs Bn Pn Wn Kn n L ops refused false a) (i j : Nat) (hi : i < Bn) (hj : j < Pn) (ho : ops < 1000000) (f : F) (ok : Bool) (hf : lookF L ops = (f, ok)) (hf2 : f.2.1 ≠ 2) :
    Calls Try.prog 17 #[ptr c, .int .i64 (i : Int), .int .i64 (j : Int)] W fun e w' => ∃ q cc, e = .returned (.tuple #[.slice (some ⟨q, 0, none⟩) n cc, .int .i64 0]) ∧ n ≤ cc ∧ Aside0 (Vec w' q (a.P i j)) ∧ Aside0 ((a.P i j).length = n) ∧ Aside0 (w.heap.size ≤ q) ∧ Aside0 (Lq w w' base c (q :: qs) Bn Pn Wn Kn n L (ops + 1) refused false a) ∧ Aside0 (Kq qs W w') := by
  obtain ⟨s, h1, h2, rfl, h4⟩ := h
  refine (h2.senseYes h1 i j hi hj ho f ok hf hf2).mono ?_
  rintro e w' ⟨q, cc, rfl, e1, e2, e3, e4, e5, k1, k3, k4⟩
  refine ⟨q, cc, rfl, e1, e4, e5, ⟨Nat.le_trans h1.bel.size e3.out⟩, ⟨tick s, k1.out, k3.out, rfl, fun p hp => ?_⟩, ⟨fun p hp => k4.out.out p (h4 p hp).2 (h4 p hp).1⟩⟩
  rcases List.mem_cons.1 hp with rfl | hp
  · exact ⟨e2.out, e4.out.lt⟩
  · exact ⟨(h4 p hp).1, Nat.lt_of_lt_of_le (h4 p hp).2 k4.out.bel.size⟩
theorem Lq.opsR (h : Lq w W base c qs Bn Pn Wn Kn n L ops refused dark a)  : Calls Try.prog 16 #[ptr c] W fun e w' => e = .returned (.int .i64 ops) ∧ w' = W := by
  obtain ⟨s, h1, h2, rfl, h4⟩ := h
  exact h2.opsR h1 
theorem Lq.refusedR (h : Lq w W base c qs Bn Pn Wn Kn n L ops refused dark a)  : Calls Try.prog 15 #[ptr c] W fun e w' => e = .returned (.int .i64 refused) ∧ w' = W := by
  obtain ⟨s, h1, h2, rfl, h4⟩ := h
  exact h2.refusedR h1 
theorem Lq.brokenR (h : Lq w W base c qs Bn Pn Wn Kn n L ops refused dark a) (i : Nat) (hi : i < Bn) (b : Bool) (hb : a.br i = b) : Calls Try.prog 19 #[ptr c, .int .i64 (i : Int)] W fun e w' => e = .returned (.bool b) ∧ w' = W := by
  obtain ⟨s, h1, h2, rfl, h4⟩ := h
  exact h2.brokenR h1 i hi b hb
theorem Lq.erasesR (h : Lq w W base c qs Bn Pn Wn Kn n L ops refused dark a) (i : Nat) (hi : i < Bn) (b : Int) (hb : a.er i = b) : Calls Try.prog 23 #[ptr c, .int .i64 (i : Int)] W fun e w' => e = .returned (.int .i64 b) ∧ w' = W := by
  obtain ⟨s, h1, h2, rfl, h4⟩ := h
  exact h2.erasesR h1 i hi b hb
theorem Lq.progDark (h : Lq w W base c qs Bn Pn Wn Kn n L ops refused true a) (i j : Nat) (A : Option Addr) (m q : Nat) : Calls Try.prog 14 #[ptr c, .int .i64 (i : Int), .int .i64 (j : Int), .slice A m q] W fun e w' => e = .returned (.int .i64 8) ∧ Aside0 (Below W.heap.size W w') := by
  obtain ⟨s, h1, h2, rfl, h4⟩ := h
  exact M.progDark h1.is h2.d i j A m q
theorem Lq.eraseDark (h : Lq w W base c qs Bn Pn Wn Kn n L ops refused true a) (i : Nat) (hi : i < Bn) : Calls Try.prog 13 #[ptr c, .int .i64 (i : Int)] W fun e w' => e = .returned (.int .i64 8) ∧ Aside0 (Below W.heap.size W w') := by
  obtain ⟨s, h1, h2, rfl, h4⟩ := h
  exact M.eraseDark h1.is h2.d i (by rw [h2.eB]; exact hi)
theorem Lq.eraseDarkOut (h : Lq w W base c qs Bn Pn Wn Kn n L ops refused true a) (i : Int) (hi : i < 0 ∨ (Bn : Int) ≤ i) : Calls Try.prog 13 #[ptr c, .int .i64 i] W fun e w' => e = .returned (.int .i64 8) ∧ Aside0 (Below W.heap.size W w') := by
  obtain ⟨s, h1, h2, rfl, h4⟩ := h
  exact M.eraseDarkOut h1.is h2.d i (by rw [h2.eB]; exact hi)
theorem Lq.markDark (h : Lq w W base c qs Bn Pn Wn Kn n L ops refused true a) (i : Nat) (hi : i < Bn) : Calls Try.prog 20 #[ptr c, .int .i64 (i : Int)] W fun e w' => e = .returned (.int .i64 8) ∧ Aside0 (Below W.heap.size W w') := by
  obtain ⟨s, h1, h2, rfl, h4⟩ := h
  exact M.markDark h1.is h2.d i (by rw [h2.eB]; exact hi)
theorem Lq.markedDark (h : Lq w W base c qs Bn Pn Wn Kn n L ops refused true a) (i : Nat) (hi : i < Bn) : Calls Try.prog 21 #[ptr c, .int .i64 (i : Int)] W fun e w' => e = .returned (.tuple #[.bool false, .int .i64 8]) ∧ Aside0 (Below W.heap.size W w') := by
  obtain ⟨s, h1, h2, rfl, h4⟩ := h
  exact M.markedDark h1.is h2.d i (by rw [h2.eB]; exact hi)
theorem Lq.senseDark (h : Lq w W base c qs Bn Pn Wn Kn n L ops refused true a) (i j : Nat) (hi : i < Bn) (hj : j < Pn) : Calls Try.prog 17 #[ptr c, .int .i64 (i : Int), .int .i64 (j : Int)] W fun e w' => e = .returned (.tuple #[.slice none 0 0, .int .i64 8]) ∧ Aside0 (Below W.heap.size W w') := by
  obtain ⟨s, h1, h2, rfl, h4⟩ := h
  exact M.senseDark h1.is h2.d i j (by rw [h2.eB]; exact hi) (by rw [h2.eP]; exact hj)
end
end Go.Proofs.Ytmddafefdleimaa.M
