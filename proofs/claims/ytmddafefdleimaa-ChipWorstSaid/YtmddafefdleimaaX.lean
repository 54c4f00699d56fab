/- A chip, as numbers: what each operation makes of them; by hand. -/
import Derived.Test.YtmddafefdleimaaJ
namespace Go.Proofs.Ytmddafefdleimaa.M
open Go.RowKit Go.Proofs.YtmddafefdleimaaW.PrintWords Go.Proofs.YtmddafefdleimaaW.PrintLast Go.Proofs.YtmddafefdleimaaW.PrintMore Go.Proofs.Ytmddafefdleimaa.Rw Go.Proofs.Ytmddafefdleimaa.Fl Go.Maps
set_option linter.unusedVariables false
set_option linter.unusedSimpArgs false
def up1 {α : Type} (f : Nat → α) (i : Nat) (v : α) : Nat → α := fun x => if x = i then v else f x
def up2 {α : Type} (f : Nat → Nat → α) (i j : Nat) (v : α) : Nat → Nat → α := fun x y => if x = i ∧ y = j then v else f x y
/-- a chip's numbers: what is marked, broken, how often wiped; of each page: what it is, its points, its symbols -/
structure Nums where
  mkd : Nat → Bool
  br : Nat → Bool
  er : Nat → Int
  st : Nat → Nat → Int
  P : Nat → Nat → Pts
  S : Nat → Nat → List Int
structure Abs (s : Ch) (Bn Pn Wn Kn n : Nat) (L : List F) (ops refused : Int) (dark : Bool) (a : Nums) : Prop where
  eB : s.Bn = Bn
  eP : s.Pn = Pn
  eW : s.Wn = Wn
  eK : s.Kn = Kn
  en : s.n = n
  eF : s.F = L
  o : s.ops = ops
  r : s.refused = refused
  d : s.dark = dark
  mkd : ∀ x, x < Bn → (s.bl x).marked = a.mkd x
  br : ∀ x, x < Bn → (s.bl x).broken = a.br x
  er : ∀ x, x < Bn → (s.bl x).erases = a.er x
  st : ∀ x y, x < Bn → y < Pn → ((s.bl x).pg y).st = a.st x y
  P : ∀ x y, x < Bn → y < Pn → ((s.bl x).pg y).P = a.P x y
  S : ∀ x y, x < Bn → y < Pn → a.st x y = 1 → ((s.bl x).pg y).S = a.S x y
abbrev newN (n : Nat) (mk : Nat → Bool) : Nums := ⟨mk, fun _ => false, fun _ => 0, fun _ _ => 0, fun _ _ => List.replicate n (0, 0), fun _ _ => []⟩
theorem Abs.of {s : Ch} {Bn Pn Wn Kn n : Nat} {bads : List Int} {L : List F} (h : Fresh s Bn Pn Wn Kn n bads L) : Abs s Bn Pn Wn Kn n L 0 0 false (newN n fun x => decide ((x : Int) ∈ bads)) where
  eB := h.eB
  eP := h.eP
  eW := h.eW
  eK := h.eK
  en := h.en
  eF := h.eF
  o := h.o
  r := h.r
  d := h.d
  mkd := h.mkd
  br := fun x hx => (h.br x hx).1
  er := fun x hx => (h.br x hx).2
  st := fun x y hx hy => (h.st x y hx hy).1
  P := fun x y hx hy => (h.st x y hx hy).2
  S := fun x y hx hy h1 => by cases h1
/-- is a page the next one of its block? -/
def Next (st : Nat → Int) (Pn j : Nat) : Prop := (∀ y, j ≤ y → y < Pn → st y = 0) ∧ (j = 0 ∨ st (j - 1) ≠ 0)
section
variable {w W : World} {base : Nat} {s : Ch} {Bn Pn Wn Kn n : Nat} {L : List F} {ops refused : Int} {dark : Bool} {a : Nums} {xs : List Int}
theorem Abs.ord (h : Abs s Bn Pn Wn Kn n L ops refused dark a) {i j : Nat} (hi : i < Bn) (hj : j < Pn) : Ord s i j ↔ Next (a.st i) Pn j := by
  unfold Ord Next
  rw [h.eP]
  constructor
  · rintro ⟨h1, h2⟩
    refine ⟨fun y h3 h4 => (h.st i y hi h4).symm.trans (h1 y h3 h4), ?_⟩
    rcases h2 with h2 | h2
    · exact .inl h2
    · by_cases h0 : j = 0
      · exact .inl h0
      · exact .inr (by rw [← h.st i (j - 1) hi (by omega)]; exact h2)
  · rintro ⟨h1, h2⟩
    refine ⟨fun y h3 h4 => (h.st i y hi h4).trans (h1 y h3 h4), ?_⟩
    rcases h2 with h2 | h2
    · exact .inl h2
    · by_cases h0 : j = 0
      · exact .inl h0
      · exact .inr (by rw [h.st i (j - 1) hi (by omega)]; exact h2)
/-- nothing but the counts -/
theorem Abs.same (h : Abs s Bn Pn Wn Kn n L ops refused dark a) {o r o1 r1 : Int} {d : Bool} (ho : o = o1) (hr : r = r1) : Abs { s with ops := o, refused := r, dark := d } Bn Pn Wn Kn n L o1 r1 d a where
  eB := h.eB
  eP := h.eP
  eW := h.eW
  eK := h.eK
  en := h.en
  eF := h.eF
  o := ho
  r := hr
  d := rfl
  mkd := h.mkd
  br := h.br
  er := h.er
  st := h.st
  P := h.P
  S := h.S
/-- one page -/
theorem Abs.page (h : Abs s Bn Pn Wn Kn n L ops refused dark a) (i j : Nat) (g b : Nat) (Q : Pts) (T : List Int) (t : Int) (own : Nat → Tag) : Abs (setP s i j ⟨g, b, Q, T, t⟩ own) Bn Pn Wn Kn n L ops refused dark { a with st := up2 a.st i j t, P := up2 a.P i j Q, S := up2 a.S i j T } where
  eB := h.eB
  eP := h.eP
  eW := h.eW
  eK := h.eK
  en := h.en
  eF := h.eF
  o := h.o
  r := h.r
  d := h.d
  mkd := fun x hx => (setP_mk s i j _ own x).1.trans (h.mkd x hx)
  br := fun x hx => (setP_mk s i j _ own x).2.1.trans (h.br x hx)
  er := fun x hx => (setP_mk s i j _ own x).2.2.trans (h.er x hx)
  st := fun x y hx hy => by
    show _ = (if x = i ∧ y = j then t else a.st x y)
    by_cases e : x = i ∧ y = j
    · rw [if_pos e]; obtain ⟨rfl, rfl⟩ := e; rw [setP_at]
    · rw [if_neg e, setP_ne _ _ _ e]; exact h.st x y hx hy
  P := fun x y hx hy => by
    show _ = (if x = i ∧ y = j then Q else a.P x y)
    by_cases e : x = i ∧ y = j
    · rw [if_pos e]; obtain ⟨rfl, rfl⟩ := e; rw [setP_at]
    · rw [if_neg e, setP_ne _ _ _ e]; exact h.P x y hx hy
  S := fun x y hx hy => by
    show (if x = i ∧ y = j then t else a.st x y) = 1 → _ = (if x = i ∧ y = j then T else a.S x y)
    by_cases e : x = i ∧ y = j
    · rw [if_pos e, if_pos e]; obtain ⟨rfl, rfl⟩ := e; rw [setP_at]; exact fun _ => rfl
    · rw [if_neg e, if_neg e, setP_ne _ _ _ e]; exact h.S x y hx hy
/-- a block's flags -/
theorem Abs.flags (h : Abs s Bn Pn Wn Kn n L ops refused dark a) (i : Nat) (hi : i < Bn) (m k : Bool) (e : Int) : Abs (setB s i { s.bl i with marked := m, broken := k, erases := e }) Bn Pn Wn Kn n L ops refused dark { a with mkd := up1 a.mkd i m, br := up1 a.br i k, er := up1 a.er i e } where
  eB := h.eB
  eP := h.eP
  eW := h.eW
  eK := h.eK
  en := h.en
  eF := h.eF
  o := h.o
  r := h.r
  d := h.d
  mkd := fun x hx => by
    show _ = (if x = i then m else a.mkd x)
    by_cases e2 : x = i
    · rw [if_pos e2, e2, setB_at]
    · rw [if_neg e2, setB_ne _ _ e2]; exact h.mkd x hx
  br := fun x hx => by
    show _ = (if x = i then k else a.br x)
    by_cases e2 : x = i
    · rw [if_pos e2, e2, setB_at]
    · rw [if_neg e2, setB_ne _ _ e2]; exact h.br x hx
  er := fun x hx => by
    show _ = (if x = i then e else a.er x)
    by_cases e2 : x = i
    · rw [if_pos e2, e2, setB_at]
    · rw [if_neg e2, setB_ne _ _ e2]; exact h.er x hx
  st := fun x y hx hy => by
    by_cases e2 : x = i
    · subst e2; rw [setB_at]; exact h.st x y hx hy
    · rw [setB_ne _ _ e2]; exact h.st x y hx hy
  P := fun x y hx hy => by
    by_cases e2 : x = i
    · subst e2; rw [setB_at]; exact h.P x y hx hy
    · rw [setB_ne _ _ e2]; exact h.P x y hx hy
  S := fun x y hx hy => by
    by_cases e2 : x = i
    · subst e2; rw [setB_at]; exact h.S x y hx hy
    · rw [setB_ne _ _ e2]; exact h.S x y hx hy
/-- a block is wiped -/
theorem Abs.wipe (h : Abs s Bn Pn Wn Kn n L ops refused dark a) (i : Nat) : Abs (eraseUp s i s.Pn) Bn Pn Wn Kn n L ops refused dark { a with st := fun x y => if x = i then 0 else a.st x y, P := fun x y => if x = i then List.replicate n (0, 0) else a.P x y } where
  eB := h.eB
  eP := h.eP
  eW := h.eW
  eK := h.eK
  en := h.en
  eF := h.eF
  o := h.o
  r := h.r
  d := h.d
  mkd := fun x hx => (eraseUp_mk s i s.Pn x).1.trans (h.mkd x hx)
  br := fun x hx => (eraseUp_mk s i s.Pn x).2.1.trans (h.br x hx)
  er := fun x hx => (eraseUp_mk s i s.Pn x).2.2.trans (h.er x hx)
  st := fun x y hx hy => by
    show _ = (if x = i then 0 else a.st x y)
    by_cases e : x = i
    · rw [if_pos e, eraseUp_at _ i (by rw [h.eP]; exact hy) e]
    · rw [if_neg e, eraseUp_ne _ i _ e]; exact h.st x y hx hy
  P := fun x y hx hy => by
    show _ = (if x = i then List.replicate n (0, 0) else a.P x y)
    by_cases e : x = i
    · rw [if_pos e, eraseUp_at _ i (by rw [h.eP]; exact hy) e, ← h.en]
    · rw [if_neg e, eraseUp_ne _ i _ e]; exact h.P x y hx hy
  S := fun x y hx hy h1 => by
    have h2 : (if x = i then 0 else a.st x y) = 1 := h1
    by_cases e : x = i
    · rw [if_pos e] at h2; cases h2
    · rw [if_neg e] at h2; rw [eraseUp_ne _ i _ e]; exact h.S x y hx hy h2
/-- what an operation leaves -/
def Left (w : World) (base : Nat) (s : Ch) (W w' : World) (Bn Pn Wn Kn n : Nat) (L : List F) (ops refused : Int) (dark : Bool) (a : Nums) : Prop :=
  ∃ s1, Aside0 (CS w base w' s1) ∧ s1.c = s.c ∧ Aside0 (Abs s1 Bn Pn Wn Kn n L ops refused dark a) ∧ Aside0 (Fm base s.own W w') ∧ Aside0 (∀ k, k < W.heap.size → s1.own k = s.own k)
theorem Abs.progYes (o : Abs s Bn Pn Wn Kn n L ops refused false a) (h : CS w base W s) (i j sb : Nat) (hi : i < Bn) (hj : j < Pn) (hr : Row (Value.int .u16) 40 W sb xs) (hso : s.own sb = .out) (hl : xs.length = n) (hx : ∀ y, y < xs.length → 0 ≤ xs.getD y 0 ∧ xs.getD y 0 < 1024)
    (hm : a.mkd i = false) (hk : a.br i = false) (ho : ops < 1000000) (he : Next (a.st i) Pn j) (f0 f2 : Int) (ok : Bool) (hf : lookF L ops = ((f0, 0, f2), ok)) :
    Calls Try.prog 14 #[ptr s.c, .int .i64 (i : Int), .int .i64 (j : Int), .slice (some ⟨sb, 0, none⟩) n n] W fun e w' => e = .returned (.int .i64 0) ∧
      Left w base s W w' Bn Pn Wn Kn n L (ops + 1) refused false { a with st := up2 a.st i j 1, P := up2 a.P i j (progL (a.P i j) xs n), S := up2 a.S i j xs } := by
  subst hl
  have hbn := h.is.bn
  rw [o.en] at hbn
  refine (M.progYes h.is h.hi o.d (by rw [o.o]; exact ho) i j (by rw [o.eB]; exact hi) (by rw [o.eP]; exact hj) (some ⟨sb, 0, none⟩) xs.length (C_row hr (by omega)) (Nat.le_refl _) hx o.en.symm (fun ad e => by cases e; exact hso) ((o.ord hi hj).2 he) ((o.mkd i hi).trans hm) ((o.br i hi).trans hk) f0 f2 ok (by rw [o.eF, o.o]; exact hf)).mono ?_
  rintro e w' ⟨rfl, own', h1, h2, h3⟩
  refine ⟨rfl, _, ⟨h.step h1.out h2.out⟩, rfl, ⟨?_⟩, h2, h3⟩
  have h5 := (o.same (o := s.ops + 1) (r := s.refused) (d := s.dark) (congrArg (· + 1) o.o) o.r).page i j ((s.bl i).pg j).g ((s.bl i).pg j).b (progL ((s.bl i).pg j).P xs xs.length) xs 1 own'
  rw [o.P i j hi hj, o.d] at h5
  rw [o.P i j hi hj, o.en]
  have h6 : tick s = { s with ops := s.ops + 1, refused := s.refused, dark := false } := by unfold tick; rw [o.d]
  rw [h6]; exact h5
theorem Abs.progNo (o : Abs s Bn Pn Wn Kn n L ops refused false a) (h : CS w base W s) (i j sb : Nat) (hi : i < Bn) (hj : j < Pn) (hr : Row (Value.int .u16) 40 W sb xs) (hso : s.own sb = .out) (hl : xs.length = n) (hx : ∀ y, y < xs.length → 0 ≤ xs.getD y 0 ∧ xs.getD y 0 < 1024)
    (ho : ops < 1000000) (m : Int) (r : Bool) (he : Next (a.st i) Pn j ↔ r = true) (hm : (if a.mkd i then 9 else if r then (if a.br i then 6 else 0) else 5) = m) (hm0 : m ≠ 0) (r2 : Int) (hr2 : refused + (if Refuses m then 1 else 0) = r2) :
    Calls Try.prog 14 #[ptr s.c, .int .i64 (i : Int), .int .i64 (j : Int), .slice (some ⟨sb, 0, none⟩) n n] W fun e w' => e = .returned (.int .i64 m) ∧
      Left w base s W w' Bn Pn Wn Kn n L (ops + 1) r2 false a := by
  subst hl
  have hbn := h.is.bn
  rw [o.en] at hbn
  refine (M.progNo h.is h.hi o.d (by rw [o.o]; exact ho) i j (by rw [o.eB]; exact hi) (by rw [o.eP]; exact hj) (some ⟨sb, 0, none⟩) xs.length (C_row hr (by omega)) (Nat.le_refl _) hx o.en.symm (fun ad e => by cases e; exact hso) m r ((o.ord hi hj).trans he) (by rw [o.mkd i hi, o.br i hi]; exact hm) hm0).mono ?_
  rintro e w' ⟨rfl, h1, h2⟩
  refine ⟨rfl, _, ⟨h.step h1.out h2.out⟩, rfl, ⟨?_⟩, h2, ⟨fun _ _ => rfl⟩⟩
  rw [o.d]; exact o.same (congrArg (· + 1) o.o) ((congrArg (fun z => z + if Refuses m then 1 else 0) o.r).trans hr2)
theorem Abs.progCut (o : Abs s Bn Pn Wn Kn n L ops refused false a) (h : CS w base W s) (i j sb : Nat) (hi : i < Bn) (hj : j < Pn) (hr : Row (Value.int .u16) 40 W sb xs) (hso : s.own sb = .out) (hl : xs.length = n) (hx : ∀ y, y < xs.length → 0 ≤ xs.getD y 0 ∧ xs.getD y 0 < 1024)
    (hm : a.mkd i = false) (hk : a.br i = false) (ho : ops < 1000000) (he : Next (a.st i) Pn j) (f0 f2 : Int) (ok : Bool) (hf : lookF L ops = ((f0, 2, f2), ok)) (km : Nat) (st' : Int)
    (hkm : (if (if f2 < 0 then 0 else f2) ≤ (n : Int) then (if f2 < 0 then 0 else f2) else (n : Int)) = (km : Int)) (hst' : (if f2 ≤ 0 then 0 else if (n : Int) ≤ f2 then 1 else 2) = st') :
    Calls Try.prog 14 #[ptr s.c, .int .i64 (i : Int), .int .i64 (j : Int), .slice (some ⟨sb, 0, none⟩) n n] W fun e w' => e = .returned (.int .i64 8) ∧
      Left w base s W w' Bn Pn Wn Kn n L (ops + 1) refused true { a with st := up2 a.st i j st', P := up2 a.P i j (progL (a.P i j) xs km), S := up2 a.S i j xs } := by
  subst hl
  have hbn := h.is.bn
  rw [o.en] at hbn
  refine (M.progCut h.is h.hi o.d (by rw [o.o]; exact ho) i j (by rw [o.eB]; exact hi) (by rw [o.eP]; exact hj) (some ⟨sb, 0, none⟩) xs.length (C_row hr (by omega)) (Nat.le_refl _) hx o.en.symm (fun ad e => by cases e; exact hso) ((o.ord hi hj).2 he) ((o.mkd i hi).trans hm) ((o.br i hi).trans hk) f0 f2 ok (by rw [o.eF, o.o]; exact hf) km st' (by rw [o.en]; exact hkm) (by rw [o.en]; exact hst')).mono ?_
  rintro e w' ⟨rfl, own', h1, h2, h3⟩
  refine ⟨rfl, _, ⟨h.step h1.out h2.out⟩, rfl, ⟨?_⟩, h2, h3⟩
  have h5 := (o.same (o := s.ops + 1) (r := s.refused) (d := true) (congrArg (· + 1) o.o) o.r).page i j ((s.bl i).pg j).g ((s.bl i).pg j).b (progL ((s.bl i).pg j).P xs km) xs st' own'
  rw [o.P i j hi hj] at h5
  rw [o.P i j hi hj]
  exact h5
theorem Abs.progFail (o : Abs s Bn Pn Wn Kn n L ops refused false a) (h : CS w base W s) (i j sb : Nat) (hi : i < Bn) (hj : j < Pn) (hr : Row (Value.int .u16) 40 W sb xs) (hso : s.own sb = .out) (hl : xs.length = n) (hx : ∀ y, y < xs.length → 0 ≤ xs.getD y 0 ∧ xs.getD y 0 < 1024)
    (hm : a.mkd i = false) (hk : a.br i = false) (ho : ops < 1000000) (he : Next (a.st i) Pn j) (f0 f2 : Int) (ok : Bool) (hf : lookF L ops = ((f0, 1, f2), ok)) (y : Int) (hy : (if (n : Int) - 9 * (Wn : Int) < f2 then (n : Int) - 9 * (Wn : Int) else f2) = y) (km : Nat) (st' : Int)
    (hkm : (if (if y < 0 then 0 else y) ≤ (n : Int) then (if y < 0 then 0 else y) else (n : Int)) = (km : Int)) (hst' : (if y ≤ 0 then 0 else if (n : Int) ≤ y then 1 else 2) = st') :
    Calls Try.prog 14 #[ptr s.c, .int .i64 (i : Int), .int .i64 (j : Int), .slice (some ⟨sb, 0, none⟩) n n] W fun e w' => e = .returned (.int .i64 6) ∧
      Left w base s W w' Bn Pn Wn Kn n L (ops + 1) refused false { a with st := up2 a.st i j st', P := up2 a.P i j (progL (a.P i j) xs km), S := up2 a.S i j xs } := by
  subst hl
  have hbn := h.is.bn
  rw [o.en] at hbn
  refine (M.progFail h.is h.hi o.d (by rw [o.o]; exact ho) i j (by rw [o.eB]; exact hi) (by rw [o.eP]; exact hj) (some ⟨sb, 0, none⟩) xs.length (C_row hr (by omega)) (Nat.le_refl _) hx o.en.symm (fun ad e => by cases e; exact hso) ((o.ord hi hj).2 he) ((o.mkd i hi).trans hm) ((o.br i hi).trans hk) f0 f2 ok (by rw [o.eF, o.o]; exact hf) y (by rw [o.en, o.eW]; exact hy) km st' (by rw [o.en]; exact hkm) (by rw [o.en]; exact hst')).mono ?_
  rintro e w' ⟨rfl, own', h1, h2, h3⟩
  refine ⟨rfl, _, ⟨h.step h1.out h2.out⟩, rfl, ⟨?_⟩, h2, h3⟩
  have h5 := (o.same (o := s.ops + 1) (r := s.refused) (d := false) (congrArg (· + 1) o.o) o.r).page i j ((s.bl i).pg j).g ((s.bl i).pg j).b (progL ((s.bl i).pg j).P xs km) xs st' own'
  rw [o.P i j hi hj] at h5
  rw [o.P i j hi hj]
  have h6 : tick s = { s with ops := s.ops + 1, refused := s.refused, dark := false } := by unfold tick; rw [o.d]
  rw [h6]; exact h5
theorem Abs.eraseYes (o : Abs s Bn Pn Wn Kn n L ops refused false a) (h : CS w base W s) (i : Nat) (hi : i < Bn) (hm : a.mkd i = false) (hk : a.br i = false) (ho : ops < 1000000) (f0 f2 : Int) (ok : Bool) (hf : lookF L ops = ((f0, 0, f2), ok)) :
    Calls Try.prog 13 #[ptr s.c, .int .i64 (i : Int)] W fun e w' => e = .returned (.int .i64 0) ∧
      Left w base s W w' Bn Pn Wn Kn n L (ops + 1) refused false { a with mkd := up1 a.mkd i (a.mkd i), br := up1 a.br i (a.br i), er := up1 a.er i (a.er i + 1), st := fun x y => if x = i then 0 else a.st x y, P := fun x y => if x = i then List.replicate n (0, 0) else a.P x y } := by
  refine (M.eraseYes h.is h.hi o.d (by rw [o.o]; exact ho) i (by rw [o.eB]; exact hi) ((o.mkd i hi).trans hm) ((o.br i hi).trans hk) f0 f2 ok (by rw [o.eF, o.o]; exact hf)).mono ?_
  rintro e w' ⟨rfl, h1, h2⟩
  refine ⟨rfl, _, ⟨h.step h1.out h2.out⟩, rfl, ⟨?_⟩, h2, ⟨fun _ _ => rfl⟩⟩
  have h5 := ((o.same (o := s.ops + 1) (r := s.refused) (d := false) (congrArg (· + 1) o.o) o.r).flags i hi (s.bl i).marked (s.bl i).broken ((s.bl i).erases + 1)).wipe i
  rw [o.mkd i hi, o.br i hi, o.er i hi] at h5
  have h6 : tick s = { s with ops := s.ops + 1, refused := s.refused, dark := false } := by unfold tick; rw [o.d]
  rw [h6]
  unfold worn
  dsimp only at h5 ⊢
  rw [o.mkd i hi, o.br i hi, o.er i hi]
  exact h5
theorem Abs.eraseNo (o : Abs s Bn Pn Wn Kn n L ops refused false a) (h : CS w base W s) (i : Nat) (hi : i < Bn) (ho : ops < 1000000) (m : Int) (hm : (if a.mkd i then 9 else if a.br i then 7 else 0) = m) (hm0 : m ≠ 0) (r2 : Int) (hr2 : refused + (if Refuses m then 1 else 0) = r2) :
    Calls Try.prog 13 #[ptr s.c, .int .i64 (i : Int)] W fun e w' => e = .returned (.int .i64 m) ∧ Left w base s W w' Bn Pn Wn Kn n L (ops + 1) r2 false a := by
  refine (M.eraseNo h.is h.hi o.d (by rw [o.o]; exact ho) i (by rw [o.eB]; exact hi) m (by rw [o.mkd i hi, o.br i hi]; exact hm) hm0).mono ?_
  rintro e w' ⟨rfl, h1, h2⟩
  refine ⟨rfl, _, ⟨h.step h1.out h2.out⟩, rfl, ⟨?_⟩, h2, ⟨fun _ _ => rfl⟩⟩
  rw [o.d]; exact o.same (congrArg (· + 1) o.o) ((congrArg (fun z => z + if Refuses m then 1 else 0) o.r).trans hr2)
theorem Abs.eraseFail (o : Abs s Bn Pn Wn Kn n L ops refused false a) (h : CS w base W s) (i : Nat) (hi : i < Bn) (hm : a.mkd i = false) (hk : a.br i = false) (ho : ops < 1000000) (f0 f2 : Int) (ok : Bool) (hf : lookF L ops = ((f0, 1, f2), ok)) :
    Calls Try.prog 13 #[ptr s.c, .int .i64 (i : Int)] W fun e w' => e = .returned (.int .i64 7) ∧ Left w base s W w' Bn Pn Wn Kn n L (ops + 1) refused false { a with mkd := up1 a.mkd i (a.mkd i), br := up1 a.br i true, er := up1 a.er i (a.er i) } := by
  refine (M.eraseFail h.is h.hi o.d (by rw [o.o]; exact ho) i (by rw [o.eB]; exact hi) ((o.mkd i hi).trans hm) ((o.br i hi).trans hk) f0 f2 ok (by rw [o.eF, o.o]; exact hf)).mono ?_
  rintro e w' ⟨rfl, h1, h2⟩
  refine ⟨rfl, _, ⟨h.step h1.out h2.out⟩, rfl, ⟨?_⟩, h2, ⟨fun _ _ => rfl⟩⟩
  have h5 := (o.same (o := s.ops + 1) (r := s.refused) (d := false) (congrArg (· + 1) o.o) o.r).flags i hi (s.bl i).marked true (s.bl i).erases
  rw [o.mkd i hi, o.er i hi] at h5
  have h6 : tick s = { s with ops := s.ops + 1, refused := s.refused, dark := false } := by unfold tick; rw [o.d]
  rw [h6]
  dsimp only at h5 ⊢
  rw [o.mkd i hi, o.er i hi]
  exact h5
theorem Abs.markYes (o : Abs s Bn Pn Wn Kn n L ops refused false a) (h : CS w base W s) (i : Nat) (hi : i < Bn) (ho : ops < 1000000) (f : F) (ok : Bool) (hf : lookF L ops = (f, ok)) (hf2 : f.2.1 ≠ 2) :
    Calls Try.prog 20 #[ptr s.c, .int .i64 (i : Int)] W fun e w' => e = .returned (.int .i64 0) ∧ Left w base s W w' Bn Pn Wn Kn n L (ops + 1) refused false { a with mkd := up1 a.mkd i true, br := up1 a.br i (a.br i), er := up1 a.er i (a.er i) } := by
  refine (M.markYes h.is h.hi o.d (by rw [o.o]; exact ho) i (by rw [o.eB]; exact hi) f ok (by rw [o.eF, o.o]; exact hf) hf2).mono ?_
  rintro e w' ⟨rfl, h1, h2⟩
  refine ⟨rfl, _, ⟨h.step h1.out h2.out⟩, rfl, ⟨?_⟩, h2, ⟨fun _ _ => rfl⟩⟩
  have h5 := (o.same (o := s.ops + 1) (r := s.refused) (d := false) (congrArg (· + 1) o.o) o.r).flags i hi true (s.bl i).broken (s.bl i).erases
  rw [o.br i hi, o.er i hi] at h5
  have h6 : tick s = { s with ops := s.ops + 1, refused := s.refused, dark := false } := by unfold tick; rw [o.d]
  rw [h6]
  dsimp only at h5 ⊢
  rw [o.br i hi, o.er i hi]
  exact h5
theorem Abs.ticked (o : Abs s Bn Pn Wn Kn n L ops refused false a) : Abs (tick s) Bn Pn Wn Kn n L (ops + 1) refused false a := by
  have h6 : tick s = { s with ops := s.ops + 1, refused := s.refused, dark := false } := by unfold tick; rw [o.d]
  rw [h6]; exact o.same (congrArg (· + 1) o.o) o.r
theorem Abs.markedYes (o : Abs s Bn Pn Wn Kn n L ops refused false a) (h : CS w base W s) (i : Nat) (hi : i < Bn) (ho : ops < 1000000) (f : F) (ok : Bool) (hf : lookF L ops = (f, ok)) (hf2 : f.2.1 ≠ 2) (b : Bool) (hb : a.mkd i = b) :
    Calls Try.prog 21 #[ptr s.c, .int .i64 (i : Int)] W fun e w' => e = .returned (.tuple #[.bool b, .int .i64 0]) ∧ Left w base s W w' Bn Pn Wn Kn n L (ops + 1) refused false a := by
  refine (M.markedYes h.is h.hi o.d (by rw [o.o]; exact ho) f ok (by rw [o.eF, o.o]; exact hf) hf2 i (by rw [o.eB]; exact hi)).mono ?_
  rintro e w' ⟨rfl, h1, h2⟩
  exact ⟨by rw [o.mkd i hi, hb], _, ⟨h.step h1.out h2.out⟩, rfl, ⟨o.ticked⟩, h2, ⟨fun _ _ => rfl⟩⟩
theorem Abs.senseYes (o : Abs s Bn Pn Wn Kn n L ops refused false a) (h : CS w base W s) (i j : Nat) (hi : i < Bn) (hj : j < Pn) (ho : ops < 1000000) (f : F) (ok : Bool) (hf : lookF L ops = (f, ok)) (hf2 : f.2.1 ≠ 2) :
    Calls Try.prog 17 #[ptr s.c, .int .i64 (i : Int), .int .i64 (j : Int)] W fun e w' => ∃ q c, e = .returned (.tuple #[.slice (some ⟨q, 0, none⟩) n c, .int .i64 0]) ∧ n ≤ c ∧ Aside0 (s.own q = .out) ∧ Aside0 (W.heap.size ≤ q) ∧ Aside0 (Vec w' q (a.P i j)) ∧ Aside0 ((a.P i j).length = n) ∧ Aside0 (CS w base w' (tick s)) ∧ Aside0 (Abs (tick s) Bn Pn Wn Kn n L (ops + 1) refused false a) ∧ Aside0 (Fm base s.own W w') := by
  have hlen := (h.is.pg i j (by rw [o.eB]; exact hi) (by rw [o.eP]; exact hj)).len
  refine (M.senseYes h.is h.hi o.d (by rw [o.o]; exact ho) f ok (by rw [o.eF, o.o]; exact hf) hf2 i j (by rw [o.eB]; exact hi) (by rw [o.eP]; exact hj)).mono ?_
  rintro e w' ⟨q, c, rfl, h1, h2, h3, h4, h5, h6⟩
  rw [o.en] at hlen h1
  rw [o.P i j hi hj] at hlen h4
  exact ⟨q, c, by rw [o.en], h1, h2, h3, h4, ⟨hlen⟩, ⟨h.step h5.out h6.out⟩, ⟨o.ticked⟩, h6⟩
theorem Abs.senseCut (o : Abs s Bn Pn Wn Kn n L ops refused false a) (h : CS w base W s) (i j : Nat) (hi : i < Bn) (hj : j < Pn) (ho : ops < 1000000) (f : F) (ok : Bool) (hf : lookF L ops = (f, ok)) (hf2 : f.2.1 = 2) :
    Calls Try.prog 17 #[ptr s.c, .int .i64 (i : Int), .int .i64 (j : Int)] W fun e w' => e = .returned (.tuple #[.slice none 0 0, .int .i64 8]) ∧ Left w base s W w' Bn Pn Wn Kn n L (ops + 1) refused true a := by
  refine (M.senseCut h.is h.hi o.d (by rw [o.o]; exact ho) f ok (by rw [o.eF, o.o]; exact hf) hf2 i j (by rw [o.eB]; exact hi) (by rw [o.eP]; exact hj)).mono ?_
  rintro e w' ⟨rfl, h1, h2⟩
  exact ⟨rfl, _, ⟨h.step h1.out h2.out⟩, rfl, ⟨o.same (congrArg (· + 1) o.o) o.r⟩, h2, ⟨fun _ _ => rfl⟩⟩
theorem Abs.senseOut (o : Abs s Bn Pn Wn Kn n L ops refused false a) (h : CS w base W s) (i j : Int) (hi : i < 0 ∨ (Bn : Int) ≤ i) (ho : ops < 1000000) :
    Calls Try.prog 17 #[ptr s.c, .int .i64 i, .int .i64 j] W fun e w' => e = .returned (.tuple #[.slice none 0 0, .int .i64 1]) ∧ Left w base s W w' Bn Pn Wn Kn n L (ops + 1) (refused + 1) false a := by
  refine (M.senseOut h.is h.hi o.d (by rw [o.o]; exact ho) i j (by rw [o.eB]; exact hi)).mono ?_
  rintro e w' ⟨rfl, h1, h2⟩
  refine ⟨rfl, _, ⟨h.step h1.out h2.out⟩, rfl, ⟨?_⟩, h2, ⟨fun _ _ => rfl⟩⟩
  rw [o.d]; exact o.same (congrArg (· + 1) o.o) (congrArg (· + 1) o.r)
theorem Abs.power (o : Abs s Bn Pn Wn Kn n L ops refused dark a) (h : CS w base W s) :
    Calls Try.prog 22 #[ptr s.c] W fun e w' => e = .returned (.tuple #[]) ∧ Left w base s W w' Bn Pn Wn Kn n L ops refused false a := by
  refine (powerC h.is).mono ?_
  rintro e w' ⟨rfl, h1, h2⟩
  exact ⟨rfl, _, ⟨h.step h1.out h2.out⟩, rfl, ⟨o.same o.o o.r⟩, h2, ⟨fun _ _ => rfl⟩⟩
theorem Abs.opsR (o : Abs s Bn Pn Wn Kn n L ops refused dark a) (h : CS w base W s) : Calls Try.prog 16 #[ptr s.c] W fun e w' => e = .returned (.int .i64 ops) ∧ w' = W := by
  have := opsC h.is; rw [o.o] at this; exact this
theorem Abs.refusedR (o : Abs s Bn Pn Wn Kn n L ops refused dark a) (h : CS w base W s) : Calls Try.prog 15 #[ptr s.c] W fun e w' => e = .returned (.int .i64 refused) ∧ w' = W := by
  have := refusedC h.is; rw [o.r] at this; exact this
theorem Abs.brokenR (o : Abs s Bn Pn Wn Kn n L ops refused dark a) (h : CS w base W s) (i : Nat) (hi : i < Bn) (b : Bool) (hb : a.br i = b) : Calls Try.prog 19 #[ptr s.c, .int .i64 (i : Int)] W fun e w' => e = .returned (.bool b) ∧ w' = W := by
  have := brokenC h.is i (by rw [o.eB]; exact hi); rw [o.br i hi, hb] at this; exact this
theorem Abs.erasesR (o : Abs s Bn Pn Wn Kn n L ops refused dark a) (h : CS w base W s) (i : Nat) (hi : i < Bn) (b : Int) (hb : a.er i = b) : Calls Try.prog 23 #[ptr s.c, .int .i64 (i : Int)] W fun e w' => e = .returned (.int .i64 b) ∧ w' = W := by
  have := erasesC h.is i (by rw [o.eB]; exact hi); rw [o.er i hi, hb] at this; exact this
end
end Go.Proofs.Ytmddafefdleimaa.M
