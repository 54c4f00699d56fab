/- A chip within a call; what stands awake; by hand. -/
import Derived.Test.YtmddafefdleimaaG
namespace Go.Proofs.Ytmddafefdleimaa.M
open Go.RowKit Go.Proofs.YtmddafefdleimaaW.PrintWords Go.Proofs.YtmddafefdleimaaW.PrintLast Go.Proofs.YtmddafefdleimaaW.PrintMore Go.Proofs.Ytmddafefdleimaa.Rw Go.Proofs.Ytmddafefdleimaa.Fl Go.Maps
set_option linter.unusedVariables false
set_option linter.unusedSimpArgs false
theorem C_row {k : IntKind} {t : TypeId} {W : World} {q : Nat} {xs : List Int} (h : Row (Value.int k) t W q xs) (hm : xs.length ≤ 9223372036854775807) : Kd.C (Kd.int k) W (some ⟨q, 0, none⟩) xs.length xs := by
  refine ⟨rfl, hm, fun _ => ⟨⟨q, 0, none⟩, rfl, fun j x hx => ⟨[.int k x], rfl, rfl, fun i u hu => ?_⟩⟩⟩
  have hi : i < 1 := (List.getElem?_eq_some_iff.1 hu).1
  obtain rfl : i = 0 := by omega
  have hj := (List.getElem?_eq_some_iff.1 hx).1
  have hc := h.cell j hj
  have e : Addr.add ⟨q, 0, none⟩ (j * 1 + 0) = ⟨q, j, none⟩ := by
    unfold Addr.add
    split
    · rename_i h0
      have : j = 0 := by omega
      rw [this]
    · simp
  have e2 : (j * (Kd.int k).sz + 0) = j * 1 + 0 := rfl
  rw [e2, e, hc]
  have hx2 := (List.getElem?_eq_some_iff.1 hx).2
  rw [hx2]
  simpa using hu
/-- a chip that the call at w has made -/
structure CS (w : World) (base : Nat) (W : World) (s : Ch) : Prop where
  is : IsCh base W s
  bel : Below w.heap.size w W
  lo : w.heap.size ≤ base
  hi : base ≤ W.heap.size
section
variable {w W W1 : World} {base : Nat} {s s1 : Ch}
theorem CS.step (h : CS w base W s) (hI : IsCh base W1 s1) (hF : Fm base s.own W W1) : CS w base W1 s1 := ⟨hI, Below.trans h.bel (hF.bel.mono h.lo), h.lo, Nat.le_trans h.hi hF.bel.size⟩
theorem CS.below (h : CS w base W s) (hb : Below W.heap.size W W1) : CS w base W1 s := ⟨h.is.below hb, below_step h.bel hb, h.lo, Nat.le_trans h.hi hb.size⟩
theorem CS.alloc (h : CS w base W s) (o : Obj) : CS w base (W.alloc o) s := h.below (below_alloc (Below.refl _ _) o)
theorem CS.drew (h : CS w base W s) : CS w base W.drew s := h.below (below_drew (Below.refl _ _))
theorem CS.far (h : CS w base W s) {p : Addr} (hp : s.own p.block = .out) (hl : w.heap.size ≤ p.block) (u : Value) : CS w base (W.setCell p u) s := ⟨h.is.far hp u, h.bel.setCell hl u, h.lo, by simpa [World.setCell] using h.hi⟩
theorem CS.new (h : CS w base W s) : s.own W.heap.size = .out := h.is.new _ (Nat.le_refl _)
theorem Fm.row {α : Type} {enc : α → Value} {t : TypeId} {q : Nat} {xs : List α} {own : Nat → Tag} (hF : Fm base own W W1) (h : Row enc t W q xs) (ho : own q = .out) : Row enc t W1 q xs := (hF.out q h.lt ho).trans h
theorem CS.new_row (h : CS w base W s) {α : Type} {enc : α → Value} {t : TypeId} {q : Nat} {xs : List α} (hr : Row enc t W1 q xs) (hq : W.heap.size ≤ q) : s.own q = .out := h.is.new _ hq
end
theorem row_reps_lt {n : Nat} {x : Int} (h0 : 0 ≤ x) (h1 : x < 1024) : ∀ y, y < (List.replicate n x).length → 0 ≤ (List.replicate n x).getD y 0 ∧ (List.replicate n x).getD y 0 < 1024 := by
  intro y hy
  rw [List.length_replicate] at hy
  have : (List.replicate n x).getD y 0 = x := by simp [List.getD_eq_getElem?_getD, hy]
  rw [this]; exact ⟨h0, h1⟩
theorem mk32 (n : Nat) (hn : n ≤ 1000) (W : World) : (Instr.makeSlice 32 (.int .i64 (n : Int)) (.int .i64 (n : Int))).run Try.prog W = .ok (.slice (some ⟨W.heap.size, 0, none⟩) n n) (W.alloc (.cells (Array.replicate n (.int .u16 0)) 40 (0, 0))) :=
  mk_row (P := Try.prog) (t := 32) (e := 40) (z := .int .u16 0) (by kernel_rfl) (bytes := 2) (by kernel_rfl) rfl n (by omega) (by omega) W
/-- getters -/
theorem setP_at (s : Ch) (i j : Nat) (p : Pg) (own : Nat → Tag) : ((setP s i j p own).bl i).pg j = p := by simp [setP]
theorem setP_ne (s : Ch) {i j x y : Nat} (p : Pg) (own : Nat → Tag) (h : ¬ (x = i ∧ y = j)) : ((setP s i j p own).bl x).pg y = (s.bl x).pg y := by
  by_cases hx : x = i
  · subst hx
    have hy : y ≠ j := fun e => h ⟨rfl, e⟩
    simp [setP, hy]
  · simp [setP, hx]
theorem setP_mk (s : Ch) (i j : Nat) (p : Pg) (own : Nat → Tag) (x : Nat) : ((setP s i j p own).bl x).marked = (s.bl x).marked ∧ ((setP s i j p own).bl x).broken = (s.bl x).broken ∧ ((setP s i j p own).bl x).erases = (s.bl x).erases := by
  by_cases hx : x = i <;> simp [setP, hx]
theorem setP_fields (s : Ch) (i j : Nat) (p : Pg) (own : Nat → Tag) : (setP s i j p own).c = s.c ∧ (setP s i j p own).Bn = s.Bn ∧ (setP s i j p own).Pn = s.Pn ∧ (setP s i j p own).Wn = s.Wn ∧ (setP s i j p own).Kn = s.Kn ∧ (setP s i j p own).n = s.n ∧ (setP s i j p own).F = s.F ∧ (setP s i j p own).ops = s.ops ∧ (setP s i j p own).refused = s.refused ∧ (setP s i j p own).dark = s.dark ∧ (setP s i j p own).own = own := ⟨rfl, rfl, rfl, rfl, rfl, rfl, rfl, rfl, rfl, rfl, rfl⟩
theorem eraseUp_at (s : Ch) (i : Nat) {x y k : Nat} (hy : y < k) (e : x = i) : ((eraseUp s i k).bl x).pg y = blank s i y := by
  subst e; simp [eraseUp, hy]
theorem eraseUp_ne (s : Ch) (i k : Nat) {x : Nat} (e : ¬ x = i) : (eraseUp s i k).bl x = s.bl x := by simp [eraseUp, e]
theorem eraseUp_mk (s : Ch) (i k x : Nat) : ((eraseUp s i k).bl x).marked = (s.bl x).marked ∧ ((eraseUp s i k).bl x).broken = (s.bl x).broken ∧ ((eraseUp s i k).bl x).erases = (s.bl x).erases := by
  by_cases hx : x = i <;> simp [eraseUp, hx]
/-- no fates; pages go in order -/
structure OrdS (s : Ch) (Bn Pn Wn Kn n : Nat) (mkf : Nat → Bool) (nx : List Int) (ops refused : Int) : Prop where
  eB : s.Bn = Bn
  eP : s.Pn = Pn
  eW : s.Wn = Wn
  eK : s.Kn = Kn
  en : s.n = n
  eF : s.F = []
  o : s.ops = ops
  r : s.refused = refused
  d : s.dark = false
  mkd : ∀ x, x < Bn → (s.bl x).marked = mkf x
  br : ∀ x, x < Bn → (s.bl x).broken = false
  nl : nx.length = Bn
  nb : ∀ x, x < Bn → 0 ≤ nx.getD x 0 ∧ nx.getD x 0 ≤ (Pn : Int)
  st : ∀ x y, x < Bn → y < Pn → ((s.bl x).pg y).st = if (y : Int) < nx.getD x 0 then 1 else 0
theorem OrdS.of {s : Ch} {Bn Pn Wn Kn n : Nat} {bads : List Int} (h : Fresh s Bn Pn Wn Kn n bads []) : OrdS s Bn Pn Wn Kn n (fun x => decide ((x : Int) ∈ bads)) (List.replicate Bn 0) 0 0 where
  eB := h.eB
  eP := h.eP
  eW := h.eW
  eK := h.eK
  en := h.en
  eF := h.eF
  o := h.o
  r := h.r
  d := h.d
  mkd := h.mkd
  br := fun x hx => (h.br x hx).1
  nl := List.length_replicate ..
  nb := fun x hx => by
    have : (List.replicate Bn (0 : Int)).getD x 0 = 0 := by simp [List.getD_eq_getElem?_getD, hx]
    rw [this]; omega
  st := fun x y hx hy => by
    have : (List.replicate Bn (0 : Int)).getD x 0 = 0 := by simp [List.getD_eq_getElem?_getD, hx]
    rw [this, if_neg (by omega)]; exact (h.st x y hx hy).1
theorem OrdS.ord {s : Ch} {Bn Pn Wn Kn n : Nat} {mkf : Nat → Bool} {nx : List Int} {ops refused : Int} (h : OrdS s Bn Pn Wn Kn n mkf nx ops refused) {i j : Nat} (hi : i < Bn) (hj : j < Pn) : Ord s i j ↔ (j : Int) = nx.getD i 0 := by
  have hb := h.nb i hi
  unfold Ord
  rw [h.eP]
  constructor
  · rintro ⟨h1, h2⟩
    have h3 : ¬ (j : Int) < nx.getD i 0 := fun e => by
      have := h1 j (Nat.le_refl _) hj
      rw [h.st i j hi hj, if_pos e] at this; cases this
    rcases h2 with h2 | h2
    · omega
    · rw [h.st i (j - 1) hi (by omega)] at h2
      by_cases e : ((j - 1 : Nat) : Int) < nx.getD i 0
      · omega
      · rw [if_neg e] at h2; exact absurd rfl h2
  · intro e
    refine ⟨fun y h1 h2 => by rw [h.st i y hi h2, if_neg (by omega)], ?_⟩
    by_cases h0 : j = 0
    · exact .inl h0
    · refine .inr ?_
      rw [h.st i (j - 1) hi (by omega), if_pos (by omega)]; decide
theorem getD_set_ne' {l : List Int} {i x : Nat} {v : Int} (h : ¬ x = i) : (l.set i v).getD x 0 = l.getD x 0 := by
  rw [List.getD_eq_getElem?_getD, List.getD_eq_getElem?_getD, List.getElem?_set_ne (fun e => h e.symm)]
theorem getD_set_at {l : List Int} {i : Nat} {v : Int} (h : i < l.length) : (l.set i v).getD i 0 = v := by
  rw [List.getD_eq_getElem?_getD, List.getElem?_set_self h]; rfl
section
variable {w W : World} {base : Nat} {s : Ch} {Bn Pn Wn Kn n : Nat} {mkf : Nat → Bool} {nx xs : List Int} {ops refused : Int}
theorem OrdS.progYes (o : OrdS s Bn Pn Wn Kn n mkf nx ops refused) (h : CS w base W s) (i j sb : Nat) (hi : i < Bn) (hj : j < Pn) (hr : Row (Value.int .u16) 40 W sb xs) (hso : s.own sb = .out) (hl : xs.length = n) (hx : ∀ y, y < xs.length → 0 ≤ xs.getD y 0 ∧ xs.getD y 0 < 1024)
    (hm : mkf i = false) (ho : ops < 1000000) (he : (j : Int) = nx.getD i 0) :
    Calls Try.prog 14 #[ptr s.c, .int .i64 (i : Int), .int .i64 (j : Int), .slice (some ⟨sb, 0, none⟩) n n] W fun e w' => e = .returned (.int .i64 0) ∧
      ∃ s1, Aside0 (CS w base w' s1) ∧ s1.c = s.c ∧ Aside0 (OrdS s1 Bn Pn Wn Kn n mkf (nx.set i ((j : Int) + 1)) (ops + 1) refused) ∧ Aside0 (Fm base s.own W w') ∧ Aside0 (∀ k, k < W.heap.size → s1.own k = s.own k) := by
  subst hl
  have hbn := h.is.bn
  rw [o.en] at hbn
  refine (M.progYes h.is h.hi o.d (by rw [o.o]; exact ho) i j (by rw [o.eB]; exact hi) (by rw [o.eP]; exact hj) (some ⟨sb, 0, none⟩) xs.length (C_row hr (by omega)) (Nat.le_refl _) hx o.en.symm (fun ad e => by cases e; exact hso) ((o.ord hi hj).2 he) ((o.mkd i hi).trans hm) (o.br i hi) 0 0 false (by rw [o.eF]; rfl)).mono ?_
  rintro e w' ⟨rfl, own', h1, h2, h3⟩
  refine ⟨rfl, _, ⟨h.step h1.out h2.out⟩, rfl, ⟨?_⟩, h2, h3⟩
  have e1 := setP_mk (tick s) i j ⟨((s.bl i).pg j).g, ((s.bl i).pg j).b, progL ((s.bl i).pg j).P xs s.n, xs, 1⟩ own'
  exact {
    eB := o.eB
    eP := o.eP
    eW := o.eW
    eK := o.eK
    en := o.en
    eF := o.eF
    o := by show s.ops + 1 = ops + 1; rw [o.o]
    r := o.r
    d := o.d
    mkd := fun x hx => (e1 x).1.trans (o.mkd x hx)
    br := fun x hx => (e1 x).2.1.trans (o.br x hx)
    nl := by rw [List.length_set]; exact o.nl
    nb := fun x hx => by
      by_cases e : x = i
      · subst e; rw [getD_set_at (by rw [o.nl]; exact hx)]; omega
      · rw [getD_set_ne' e]; exact o.nb x hx
    st := fun x y hx hy => by
      by_cases e : x = i
      · subst e
        rw [getD_set_at (by rw [o.nl]; exact hx)]
        by_cases e2 : y = j
        · subst e2; rw [setP_at, if_pos (by omega)]
        · rw [setP_ne _ _ _ (fun hh => e2 hh.2)]
          refine (o.st x y hx hy).trans ?_
          rw [← he]
          by_cases e3 : (y : Int) < (j : Int)
          · rw [if_pos e3, if_pos (by omega)]
          · rw [if_neg e3, if_neg (by omega)]
      · rw [getD_set_ne' e, setP_ne _ _ _ (fun hh => e hh.1)]
        exact o.st x y hx hy }
theorem OrdS.progNo (o : OrdS s Bn Pn Wn Kn n mkf nx ops refused) (h : CS w base W s) (i j sb : Nat) (hi : i < Bn) (hj : j < Pn) (hr : Row (Value.int .u16) 40 W sb xs) (hso : s.own sb = .out) (hl : xs.length = n) (hx : ∀ y, y < xs.length → 0 ≤ xs.getD y 0 ∧ xs.getD y 0 < 1024)
    (hm : mkf i = false) (ho : ops < 1000000) (he : ¬ (j : Int) = nx.getD i 0) :
    Calls Try.prog 14 #[ptr s.c, .int .i64 (i : Int), .int .i64 (j : Int), .slice (some ⟨sb, 0, none⟩) n n] W fun e w' => e = .returned (.int .i64 5) ∧
      ∃ s1, Aside0 (CS w base w' s1) ∧ s1.c = s.c ∧ Aside0 (OrdS s1 Bn Pn Wn Kn n mkf nx (ops + 1) (refused + 1)) ∧ Aside0 (Fm base s.own W w') ∧ Aside0 (∀ k, k < W.heap.size → s1.own k = s.own k) := by
  subst hl
  have hbn := h.is.bn
  rw [o.en] at hbn
  refine (M.progNo h.is h.hi o.d (by rw [o.o]; exact ho) i j (by rw [o.eB]; exact hi) (by rw [o.eP]; exact hj) (some ⟨sb, 0, none⟩) xs.length (C_row hr (by omega)) (Nat.le_refl _) hx o.en.symm (fun ad e => by cases e; exact hso) 5 false ⟨fun hh => absurd ((o.ord hi hj).1 hh) he, fun hh => by cases hh⟩ (by rw [(o.mkd i hi).trans hm]; rfl) (by decide)).mono ?_
  rintro e w' ⟨rfl, h1, h2⟩
  refine ⟨rfl, _, ⟨h.step h1.out h2.out⟩, rfl, ⟨?_⟩, h2, ⟨fun _ _ => rfl⟩⟩
  exact {
    eB := o.eB
    eP := o.eP
    eW := o.eW
    eK := o.eK
    en := o.en
    eF := o.eF
    o := by show s.ops + 1 = ops + 1; rw [o.o]
    r := by show s.refused + (if Refuses 5 then 1 else 0) = refused + 1; rw [o.r, if_pos (by decide)]
    d := o.d
    mkd := o.mkd
    br := o.br
    nl := o.nl
    nb := o.nb
    st := o.st }
theorem OrdS.eraseYes (o : OrdS s Bn Pn Wn Kn n mkf nx ops refused) (h : CS w base W s) (i : Nat) (hi : i < Bn) (hm : mkf i = false) (ho : ops < 1000000) :
    Calls Try.prog 13 #[ptr s.c, .int .i64 (i : Int)] W fun e w' => e = .returned (.int .i64 0) ∧
      ∃ s1, Aside0 (CS w base w' s1) ∧ s1.c = s.c ∧ Aside0 (OrdS s1 Bn Pn Wn Kn n mkf (nx.set i 0) (ops + 1) refused) ∧ Aside0 (Fm base s.own W w') ∧ Aside0 (∀ k, k < W.heap.size → s1.own k = s.own k) := by
  refine (M.eraseYes h.is h.hi o.d (by rw [o.o]; exact ho) i (by rw [o.eB]; exact hi) ((o.mkd i hi).trans hm) (o.br i hi) 0 0 false (by rw [o.eF]; rfl)).mono ?_
  rintro e w' ⟨rfl, h1, h2⟩
  refine ⟨rfl, _, ⟨h.step h1.out h2.out⟩, rfl, ⟨?_⟩, h2, ⟨fun _ _ => rfl⟩⟩
  have e1 := eraseUp_mk (worn (tick s) i) i s.Pn
  have e2 : ∀ x, ((worn (tick s) i).bl x).marked = (s.bl x).marked ∧ ((worn (tick s) i).bl x).broken = (s.bl x).broken ∧ ((worn (tick s) i).bl x).pg = (s.bl x).pg := fun x => by
    by_cases e : x = i
    · subst e; rw [show (worn (tick s) x).bl x = _ from setB_at _ _ _]; exact ⟨rfl, rfl, rfl⟩
    · rw [show (worn (tick s) i).bl x = _ from setB_ne _ _ e]; exact ⟨rfl, rfl, rfl⟩
  exact {
    eB := o.eB
    eP := o.eP
    eW := o.eW
    eK := o.eK
    en := o.en
    eF := o.eF
    o := by show s.ops + 1 = ops + 1; rw [o.o]
    r := o.r
    d := o.d
    mkd := fun x hx => (e1 x).1.trans ((e2 x).1.trans (o.mkd x hx))
    br := fun x hx => (e1 x).2.1.trans ((e2 x).2.1.trans (o.br x hx))
    nl := by rw [List.length_set]; exact o.nl
    nb := fun x hx => by
      by_cases e : x = i
      · subst e; rw [getD_set_at (by rw [o.nl]; exact hx)]; omega
      · rw [getD_set_ne' e]; exact o.nb x hx
    st := fun x y hx hy => by
      by_cases e : x = i
      · rw [eraseUp_at _ i (by rw [o.eP]; exact hy) e, e, getD_set_at (by rw [o.nl]; omega), if_neg (by omega)]
      · rw [getD_set_ne' e, eraseUp_ne _ i _ e, (e2 x).2.2]; exact o.st x y hx hy }
theorem OrdS.marked (o : OrdS s Bn Pn Wn Kn n mkf nx ops refused) (h : CS w base W s) (i : Nat) (hi : i < Bn) (ho : ops < 1000000) (b : Bool) (hb : mkf i = b) :
    Calls Try.prog 21 #[ptr s.c, .int .i64 (i : Int)] W fun e w' => e = .returned (.tuple #[.bool b, .int .i64 0]) ∧
      ∃ s1, Aside0 (CS w base w' s1) ∧ s1.c = s.c ∧ Aside0 (OrdS s1 Bn Pn Wn Kn n mkf nx (ops + 1) refused) ∧ Aside0 (Fm base s.own W w') ∧ Aside0 (∀ k, k < W.heap.size → s1.own k = s.own k) := by
  refine (markedYes h.is h.hi o.d (by rw [o.o]; exact ho) (0, 0, 0) false (by rw [o.eF]; rfl) (by decide) i (by rw [o.eB]; exact hi)).mono ?_
  rintro e w' ⟨rfl, h1, h2⟩
  refine ⟨by rw [o.mkd i hi, hb], _, ⟨h.step h1.out h2.out⟩, rfl, ⟨?_⟩, h2, ⟨fun _ _ => rfl⟩⟩
  exact {
    eB := o.eB
    eP := o.eP
    eW := o.eW
    eK := o.eK
    en := o.en
    eF := o.eF
    o := by show s.ops + 1 = ops + 1; rw [o.o]
    r := o.r
    d := o.d
    mkd := o.mkd
    br := o.br
    nl := o.nl
    nb := o.nb
    st := o.st }
theorem OrdS.opsR (o : OrdS s Bn Pn Wn Kn n mkf nx ops refused) (h : CS w base W s) : Calls Try.prog 16 #[ptr s.c] W fun e w' => e = .returned (.int .i64 ops) ∧ w' = W := by
  have := opsC h.is; rw [o.o] at this; exact this
theorem OrdS.refusedR (o : OrdS s Bn Pn Wn Kn n mkf nx ops refused) (h : CS w base W s) : Calls Try.prog 15 #[ptr s.c] W fun e w' => e = .returned (.int .i64 refused) ∧ w' = W := by
  have := refusedC h.is; rw [o.r] at this; exact this
end
set_option maxHeartbeats 3200000 in
set_option maxRecDepth 100000 in
theorem awakeC (w : World) : Calls Try.prog 8 #[] w fun e w' => e = .returned (.bool true) ∧ Aside0 (Below w.heap.size w w') := by
  have hmk : ∀ W, (Instr.makeSlice 32 (.int .i64 25) (.int .i64 25)).run Try.prog W = .ok (.slice (some ⟨W.heap.size, 0, none⟩) 25 25) (W.alloc (.cells (Array.replicate 25 (.int .u16 0)) 40 (0, 0))) := mk32 25 (by omega)
  have hb1 := below_alloc (Below.refl w.heap.size w) (.cells #[.int .i64 3] 3 (0, 0))
  have hN := newCh 4 2 1 9 25 ⟨by decide, by decide, by decide, by decide, by decide, by decide, by decide, by decide, by decide⟩ rfl (w.alloc (.cells #[.int .i64 3] 3 (0, 0))) (some ⟨w.heap.size, 0, none⟩) 1 [3] (C_row (t := 3) (blk_new w _) (by decide)) (by decide) (by decide)
    (fun y hy => by
      have : y = 0 := by simpa using hy
      subst this; decide) none 0 [] (Kd.C_nil _ _) (by decide) ⟨by decide, (fun x hx => by cases hx), (by simp [Apart])⟩
  have HN := Aside0.mk hN
  have HB := Aside0.mk hb1
  clear hN hb1
  go_enter Try.func8, Try.ntmps8
  go_upto_region 4 with (first
    | (go_at_call 11; (refine HN.out.mono ?_); rintro e w1 ⟨s, rfl, HI, HB1, HFr⟩; have HC := Aside0.mk (CS.mk HI.out (below_step HB.out HB1.out) HB.out.size HB1.out.size)))
  have HO := Aside0.mk (OrdS.of HFr.out)
  clear HI HB1 HFr HB
  have HC1 := Aside0.mk (HC.out.alloc (.cells (Array.replicate 25 (.int .u16 0)) 40 (0, 0)))
  have HP1 := Aside0.mk (HO.out.progNo HC1.out 0 1 w1.heap.size (by decide) (by decide) (made_row (enc := Value.int .u16) w1 25 0) HC.out.new rfl (row_reps_lt (by decide) (by decide)) rfl (by decide) (by decide))
  obtain ⟨c, hc⟩ : ∃ c, s.c = c := ⟨_, rfl⟩
  rw [hc] at HP1 ⊢
  go_upto_region 5 with (first | (go_at_call 14; (refine HP1.out.mono ?_); rintro e w2 ⟨rfl, s2, HC2, hc2, HO2, -, -⟩))
  clear HC HC1 HO HP1
  have HC3 := Aside0.mk (HC2.out.alloc (.cells (Array.replicate 25 (.int .u16 0)) 40 (0, 0)))
  have HP3 := Aside0.mk (HO2.out.progYes HC3.out 0 0 w2.heap.size (by decide) (by decide) (made_row (enc := Value.int .u16) w2 25 0) HC2.out.new rfl (row_reps_lt (by decide) (by decide)) rfl (by decide) (by decide))
  rw [hc2] at HP3
  go_upto_region 6 with (first | (go_at_call 14; (refine HP3.out.mono ?_); rintro e w3 ⟨rfl, s3, HC4, hc3, HO4, -, -⟩))
  have HP5 := Aside0.mk (HO4.out.marked HC4.out 3 (by decide) (by decide) true rfl)
  rw [hc3] at HP5
  clear HC2 HC3 HO2 HP3
  go_upto_region 7 with (first | (go_at_call 21; (refine HP5.out.mono ?_); rintro e w4 ⟨rfl, s4, HC6, hc4, HO6, -, -⟩))
  have HP7 := Aside0.mk (HO6.out.opsR HC6.out)
  have HP8 := Aside0.mk (HO6.out.refusedR HC6.out)
  rw [hc4] at HP7 HP8
  clear HC4 HO4 HP5
  go_wp2_with (first
    | (go_at_call 16; (refine HP7.out.mono ?_); rintro e w5 ⟨rfl, hw⟩; obtain rfl := hw.symm)
    | (go_at_call 15; (refine HP8.out.mono ?_); rintro e w6 ⟨rfl, hw⟩; obtain rfl := hw.symm))
  go_ret
  exact ⟨rfl, ⟨HC6.out.bel⟩⟩
end Go.Proofs.Ytmddafefdleimaa.M
