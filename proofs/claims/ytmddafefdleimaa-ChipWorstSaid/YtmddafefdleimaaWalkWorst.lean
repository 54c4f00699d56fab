/- The walk of ChipWorst: what moves is counted by codeword. -/
import Derived.Test.YtmddafefdleimaaI
import Derived.Test.YtmddafefdleimaaWalkFails
namespace Go.Proofs.Ytmddafefdleimaa.M
open Go.RowKit Go.Proofs.YtmddafefdleimaaW.PrintWords Go.Proofs.YtmddafefdleimaaW.PrintLast Go.Proofs.YtmddafefdleimaaW.PrintMore Go.Proofs.Ytmddafefdleimaa.Rw Go.Proofs.Ytmddafefdleimaa.Fl Go.Maps
set_option linter.unusedVariables false
set_option linter.unusedSimpArgs false
attribute [local go_sem] max2_int min2_int max_two min_two
/-- pages of block i in order, all of symbol x: p of them are used -/
abbrev ordM (n i p : Nat) (x : Int) : Nums := ⟨fun x => decide ((x : Int) ∈ ([] : List Int)), fun _ => false, fun _ => 0, fun u y => if u = i ∧ y < p then 1 else 0, fun u y => if u = i ∧ y < p then progL (List.replicate n (0, 0)) (List.replicate n x) n else List.replicate n (0, 0), fun u y => if u = i ∧ y < p then List.replicate n x else []⟩
theorem ordM_zero (n i : Nat) (x : Int) : ordM n i 0 x = newN n fun x => decide ((x : Int) ∈ ([] : List Int)) := by
  unfold ordM newN; simp
theorem ordM_next (n i p Pn : Nat) (x : Int) : Next ((ordM n i p x).st i) Pn p := by
  refine ⟨fun y h1 h2 => ?_, ?_⟩
  · show (if i = i ∧ y < p then (1 : Int) else 0) = 0
    rw [if_neg (by omega)]
  · by_cases h0 : p = 0
    · exact .inl h0
    · refine .inr ?_
      show (if i = i ∧ p - 1 < p then (1 : Int) else 0) ≠ 0
      rw [if_pos ⟨rfl, by omega⟩]; decide
theorem ordM_succ (n i p : Nat) (z : Int) : ({ ordM n i p z with st := up2 (ordM n i p z).st i p 1, P := up2 (ordM n i p z).P i p (progL ((ordM n i p z).P i p) (List.replicate n z) n), S := up2 (ordM n i p z).S i p (List.replicate n z) } : Nums) = ordM n i (p + 1) z := by
  have key : ∀ {α : Type} (u v : α) (x y : Nat), (if x = i ∧ y = p then u else if x = i ∧ y < p then u else v) = if x = i ∧ y < p + 1 then u else v := by
    intro α u v x y
    by_cases h : x = i
    · subst h
      by_cases h2 : y = p
      · subst h2; rw [if_pos ⟨rfl, rfl⟩, if_pos ⟨rfl, Nat.lt_succ_self _⟩]
      · by_cases h3 : y < p
        · rw [if_neg (fun e => h2 e.2), if_pos ⟨rfl, h3⟩, if_pos ⟨rfl, by omega⟩]
        · rw [if_neg (fun e => h2 e.2), if_neg (fun e => h3 e.2), if_neg (fun e => by omega)]
    · rw [if_neg (fun e => h e.1), if_neg (fun e => h e.1), if_neg (fun e => h e.1)]
  have e1 : (ordM n i p z).P i p = List.replicate n (0, 0) := by
    show (if i = i ∧ p < p then _ else _) = _
    rw [if_neg (by omega)]
  rw [e1]
  simp only [ordM, Nums.mk.injEq, true_and]
  exact ⟨by funext x y; exact key 1 0 x y, by funext x y; exact key _ _ x y, by funext x y; exact key _ _ x y⟩
/-- a page whose cells stand at (1, 1), those that have moved at (7, 1) -/
def movP (mv : List Bool) (y n : Nat) : Pts := (List.range n).map fun k => if mv.getD (y * n + k) false then (7, 1) else (1, 1)
theorem movP_len (mv : List Bool) (y n : Nat) : (movP mv y n).length = n := by simp [movP]
theorem movP_at {mv : List Bool} {y n k : Nat} (h : k < n) : (movP mv y n).getD k (0, 0) = if mv.getD (y * n + k) false then (7, 1) else (1, 1) := by
  rw [List.getD_eq_getElem?_getD]; simp [movP, h]
theorem getD_rep_false (m i : Nat) : (List.replicate m false).getD i false = false := by
  rw [List.getD_eq_getElem?_getD, List.getElem?_replicate]
  by_cases h : i < m
  · rw [if_pos h]; rfl
  · rw [if_neg h]; rfl
theorem movP_zero (m y n : Nat) : movP (List.replicate m false) y n = progL (List.replicate n (0, 0)) (List.replicate n 528) n := by
  have h : progL (List.replicate n (0, 0)) (List.replicate n 528) n = List.replicate n (1, 1) := by
    unfold progL
    rw [List.take_replicate, List.map_replicate, List.drop_replicate, Nat.sub_self, List.replicate_zero, List.append_nil, Nat.min_self]
    rfl
  rw [h]
  apply List.ext_getElem
  · simp [movP]
  · intro k h1 h2
    simp only [movP, List.getElem_map, List.getElem_range, List.getElem_replicate]
    rw [getD_rep_false]; rfl
theorem getD_setb_ne {l : List Bool} {i j : Nat} {b : Bool} (h : i ≠ j) : (l.set i b).getD j false = l.getD j false := by
  rw [List.getD_eq_getElem?_getD, List.getD_eq_getElem?_getD, List.getElem?_set_ne h]
theorem getD_setb_at {l : List Bool} {i : Nat} {b : Bool} (h : i < l.length) : (l.set i b).getD i false = b := by
  rw [List.getD_eq_getElem?_getD, List.getElem?_set_self h]; rfl
theorem idx_ne {p y n k j : Nat} (hk : k < n) (hj : j < n) (h : p * n + k = y * n + j) : p = y ∧ k = j := by
  have h1 : (p * n + k) / n = (y * n + j) / n := by rw [h]
  have hn : 0 < n := by omega
  rw [Nat.add_comm, Nat.add_mul_div_right _ _ hn, Nat.div_eq_of_lt hk, Nat.add_comm (y * n), Nat.add_mul_div_right _ _ hn, Nat.div_eq_of_lt hj] at h1
  have h2 : p = y := by omega
  subst h2
  exact ⟨rfl, by omega⟩
theorem movP_set {mv : List Bool} {p n k : Nat} (hk : k < n) (hl : p * n + k < mv.length) : (movP mv p n).set k (7, 1) = movP (mv.set (p * n + k) true) p n := by
  apply List.ext_getElem
  · simp [movP]
  · intro j h1 h2
    have hj : j < n := by simpa [movP] using h2
    rw [List.getElem_set]
    simp only [movP, List.getElem_map, List.getElem_range]
    by_cases e : k = j
    · subst e; rw [if_pos rfl, getD_setb_at hl]; rfl
    · rw [if_neg e, getD_setb_ne (by omega)]
theorem movP_other {mv : List Bool} {p y n k : Nat} (hk : k < n) (h : y ≠ p) : movP (mv.set (p * n + k) true) y n = movP mv y n := by
  unfold movP
  refine List.map_congr_left fun j hj => ?_
  have hj := List.mem_range.1 hj
  rw [getD_setb_ne (fun e => h (idx_ne hk hj e).1.symm)]
theorem bad_mov {mv : List Bool} {p n k : Nat} (hk : k < n) : bad (movP mv p n) (List.replicate n 528) k = mv.getD (p * n + k) false := by
  unfold bad
  rw [movP_at hk]
  have : (List.replicate n (528 : Int)).getD k 0 = 528 := by simp [List.getD_eq_getElem?_getD, hk]
  rw [this]
  cases mv.getD (p * n + k) false
  · decide
  · decide
/-- block 1: every page used, the cells of mv moved -/
abbrev mvN (n : Nat) (mv : List Bool) : Nums := ⟨fun x => decide ((x : Int) ∈ ([] : List Int)), fun _ => false, fun _ => 0, fun u _ => if u = 1 then 1 else 0, fun u y => if u = 1 then movP mv y n else List.replicate n (0, 0), fun u _ => if u = 1 then List.replicate n 528 else []⟩
section
variable {w W W1 : World} {base c : Nat} {qs : List Nat} {Bn Pn Wn Kn n : Nat} {L : List F} {ops refused : Int} {dark : Bool} {a a1 : Nums}
theorem Lq.congr (h : Lq w W base c qs Bn Pn Wn Kn n L ops refused dark a) (h1 : ∀ x, x < Bn → a.mkd x = a1.mkd x ∧ a.br x = a1.br x ∧ a.er x = a1.er x) (h2 : ∀ x y, x < Bn → y < Pn → a.st x y = a1.st x y ∧ a.P x y = a1.P x y ∧ a.S x y = a1.S x y) : Lq w W base c qs Bn Pn Wn Kn n L ops refused dark a1 := by
  obtain ⟨s, k1, k2, k3, k4⟩ := h
  refine ⟨s, k1, ?_, k3, k4⟩
  exact {
    eB := k2.eB
    eP := k2.eP
    eW := k2.eW
    eK := k2.eK
    en := k2.en
    eF := k2.eF
    o := k2.o
    r := k2.r
    d := k2.d
    mkd := fun x hx => (k2.mkd x hx).trans (h1 x hx).1
    br := fun x hx => (k2.br x hx).trans (h1 x hx).2.1
    er := fun x hx => (k2.er x hx).trans (h1 x hx).2.2
    st := fun x y hx hy => (k2.st x y hx hy).trans (h2 x y hx hy).1
    P := fun x y hx hy => (k2.P x y hx hy).trans (h2 x y hx hy).2.1
    S := fun x y hx hy he => (k2.S x y hx hy ((h2 x y hx hy).1.trans he)).trans (h2 x y hx hy).2.2 }
end
theorem wfold_append (W : Nat) (l m : List Int) (st : List Int × Int) : wfold W (l ++ m) st = wfold W m (wfold W l st) := by unfold wfold; rw [List.foldl_append]
/-- the greater of two -/
def mx2 (a c : Int) : Int := if a < c then c else a
/-- two counts, one with a greater start and a row of another length -/
theorem wfold_two {W : Nat} (hW : 0 < W) : ∀ (l : List Int) (m1 m2 : List Int) (a b c : Int), W ≤ m1.length → W ≤ m2.length → (∀ v, v < W → m1.getD v 0 = m2.getD v 0) → b = mx2 a c →
    (wfold W l (m2, b)).2 = mx2 (wfold W l (m1, a)).2 c
  | [], m1, m2, a, b, c, _, _, _, hb => hb
  | x :: l, m1, m2, a, b, c, h1, h2, hv, hb => by
    show (wfold W l (wstep W (m2, b) x)).2 = mx2 (wfold W l (wstep W (m1, a) x)).2 c
    unfold wstep
    dsimp only
    have h0 := Int.emod_nonneg x (show (W : Int) ≠ 0 by omega)
    have h3 := Int.emod_lt_of_pos x (show (0 : Int) < (W : Int) by omega)
    have hu : (x % (W : Int)).toNat < W := by omega
    generalize (x % (W : Int)).toNat = u at hu ⊢
    have e := hv u hu
    rw [← e]
    refine wfold_two hW l _ _ _ _ c (by rw [List.length_set]; exact h1) (by rw [List.length_set]; exact h2) (fun v hv2 => ?_) ?_
    · by_cases e2 : v = u
      · subst e2; rw [getD_set_at (by omega), getD_set_at (by omega)]
      · rw [getD_set_ne' e2, getD_set_ne' e2]; exact hv v hv2
    · subst hb
      unfold mx2
      (repeat' split) <;> omega
theorem mxF_mx2 (a : Int) (f : Nat → Int) (k : Nat) : mxF a f (k + 1) = mx2 (f k) (mxF a f k) := by
  show (if mxF a f k < f k then f k else mxF a f k) = if f k < mxF a f k then mxF a f k else f k
  split <;> split <;> omega
theorem mxF_nonneg {a : Int} {f : Nat → Int} (ha : 0 ≤ a) : ∀ k, 0 ≤ mxF a f k
  | 0 => ha
  | k + 1 => by
    have := mxF_nonneg (f := f) ha k
    show 0 ≤ if mxF a f k < f k then f k else mxF a f k
    split <;> omega
theorem mxF_zero {a : Int} (ha : 0 ≤ a) {f : Nat → Int} : ∀ k, (∀ j, j < k → f j = 0) → mxF a f k = a
  | 0, _ => rfl
  | k + 1, h => by
    show (if mxF a f k < f k then f k else mxF a f k) = a
    rw [mxF_zero ha k (fun j hj => h j (by omega)), h k (Nat.lt_succ_self _), if_neg (by omega)]
theorem mxO_one {f : Nat → Nat → Int} {P : Nat} (h : ∀ i j, i ≠ 1 → j < P → f i j = 0) : ∀ B, mxO f P (B + 2) = mxF 0 (f 1) P
  | 0 => by
    show mxF (mxF 0 (f 0) P) (f 1) P = _
    rw [mxF_zero (Int.le_refl _) P (fun j hj => h 0 j (by decide) hj)]
  | B + 1 => by
    show mxF (mxO f P (B + 2)) (f (B + 2)) P = _
    rw [mxO_one h B]
    exact mxF_zero (mxF_nonneg (Int.le_refl _) P) P (fun j hj => h (B + 2) j (by omega) hj)
theorem mxO_none {f : Nat → Nat → Int} {P : Nat} : ∀ B, (∀ i j, i < B → j < P → f i j = 0) → mxO f P B = 0
  | 0, _ => rfl
  | B + 1, h => by
    show mxF (mxO f P B) (f B) P = 0
    rw [mxO_none B (fun i j hi hj => h i j (by omega) hj)]
    exact mxF_zero (Int.le_refl _) P (fun j hj => h B j (Nat.lt_succ_self _) hj)
theorem wfold_le (W : Nat) (l : List Int) (m : List Int) (a : Int) : a ≤ (wfold W l (m, a)).2 := by
  induction l generalizing m a with
  | nil => exact Int.le_refl _
  | cons x l ih =>
    have h := ih (wstep W (m, a) x).1 (wstep W (m, a) x).2
    have h2 : a ≤ (wstep W (m, a) x).2 := by
      unfold wstep; dsimp only; split <;> omega
    exact Int.le_trans h2 h
theorem pageW_none (W : Nat) (P : Pts) (S : List Int) : pageW W 0 P S = 0 := rfl
theorem Wok.fold (W : Nat) {m : Nat} : ∀ (l : List Int) (st : List Int × Int) (k : Nat), Wok st m k → Wok (wfold W l st) m (k + l.length)
  | [], st, k, h => h
  | x :: l, st, k, h => by
    have h2 := Wok.fold W l (wstep W st x) (k + 1) (h.step W x)
    rw [show k + 1 + l.length = k + (x :: l).length from by simp; omega] at h2
    exact h2
theorem four_zero (v : Nat) : [0, 0, 0, 0].getD v (0 : Int) = 0 := by
  rcases (by omega : v = 0 ∨ v = 1 ∨ v = 2 ∨ v = 3 ∨ 4 ≤ v) with rfl | rfl | rfl | rfl | h4
  · rfl
  · rfl
  · rfl
  · rfl
  · rw [List.getD_eq_getElem?_getD, List.getElem?_eq_none (by simpa using h4)]; rfl
theorem rep_zero (n v : Nat) : (List.replicate n (0 : Int)).getD v 0 = 0 := by
  rw [List.getD_eq_getElem?_getD, List.getElem?_replicate]
  by_cases h : v < n
  · rw [if_pos h]; rfl
  · rw [if_neg h]; rfl
theorem pageW_le {W : Nat} {mv : List Bool} {y n : Nat} : 0 ≤ pageW W 1 (movP mv y n) (List.replicate n 528) ∧ pageW W 1 (movP mv y n) (List.replicate n 528) ≤ (n : Int) := by
  have h0 : Wok ([0, 0, 0, 0], 0) 4 0 := ⟨rfl, fun v => by dsimp only; rw [four_zero]; exact ⟨Int.le_refl _, Int.le_refl _⟩, ⟨Int.le_refl _, Int.le_refl _⟩⟩
  have h1 := (h0.fold W (wrongsOf 1 (movP mv y n) (List.replicate n 528))).n
  have h2 : (wrongsOf 1 (movP mv y n) (List.replicate n 528)).length ≤ n := by
    unfold wrongsOf
    rw [if_pos rfl]
    have := wrongL_le (movP mv y n) (List.replicate n 528) (movP mv y n).length
    rw [movP_len] at this ⊢
    exact this
  unfold pageW
  omega
theorem mxF_le {f : Nat → Int} {b : Int} (hb : 0 ≤ b) : ∀ k, (∀ j, j < k → f j ≤ b) → mxF 0 f k ≤ b
  | 0, _ => hb
  | k + 1, h => by
    have h1 := mxF_le hb k (fun j hj => h j (by omega))
    have h2 := h k (Nat.lt_succ_self _)
    show (if mxF 0 f k < f k then f k else mxF 0 f k) ≤ b
    split <;> omega
/-- the greatest of the first t pages -/
def gr (W : Nat) (mv : List Bool) (n t : Nat) : Int := mxF 0 (fun y => pageW W 1 (movP mv y n) (List.replicate n 528)) t
theorem gr_bound (W : Nat) (mv : List Bool) (n t : Nat) : 0 ≤ gr W mv n t ∧ gr W mv n t ≤ (n : Int) := ⟨mxF_nonneg (Int.le_refl _) t, mxF_le (by omega) t (fun j _ => pageW_le.2)⟩
theorem gr_succ {W : Nat} (hW : 0 < W) (hW4 : W ≤ 4) (mv : List Bool) (n t : Nat) : (wfold W (wrongL (movP mv t n) (List.replicate n 528) n) (List.replicate W 0, gr W mv n t)).2 = gr W mv n (t + 1) := by
  rw [wfold_two hW (wrongL (movP mv t n) (List.replicate n 528) n) [0, 0, 0, 0] (List.replicate W 0) 0 (gr W mv n t) (gr W mv n t) hW4 (by simp) (fun v _ => by rw [four_zero, rep_zero]) (by
    have := (gr_bound W mv n t).1
    unfold mx2; split <;> omega)]
  unfold gr
  rw [mxF_mx2]
  congr 1
  unfold pageW wrongsOf
  rw [if_pos rfl, movP_len]
theorem mk57 (m : Nat) (hm : m ≤ 100000) (W : World) : (Instr.makeSlice 57 (.int .i64 (m : Int)) (.int .i64 (m : Int))).run Try.prog W = .ok (.slice (some ⟨W.heap.size, 0, none⟩) m m) (W.alloc (.cells (Array.replicate m (.bool false)) 4 (0, 0))) :=
  mk_row (P := Try.prog) (t := 57) (e := 4) (z := .bool false) (by kernel_rfl) (bytes := 1) (by kernel_rfl) rfl m (by omega) (by omega) W
theorem idx_lt {p k P n : Nat} (hp : p < P) (hk : k < n) : p * n + k < P * n := by
  have : (p + 1) * n ≤ P * n := Nat.mul_le_mul_right n hp
  rw [Nat.add_mul, Nat.one_mul] at this
  omega
set_option maxHeartbeats 12800000 in
set_option maxRecDepth 100000 in
theorem worst_walk (a0_0 : Int) (a0_1 : Int) (a0_2 : Int) (a0_3 : Int) (A1 : Option Addr) (c1 : Nat) (l1 : List ((Int) × (Int))) (w : World) (wa0_0 : (Lit.int .i64 a0_0).wf = true) (wa0_1 : (Lit.int .i64 a0_1).wf = true) (wa0_2 : (Lit.int .i64 a0_2).wf = true) (wa0_3 : (Lit.int .i64 a0_3).wf = true) (r1 : Kd.C (Kd.pair (Kd.int .u16) (Kd.int .u16)) w A1 l1.length l1) (k1 : l1.length ≤ c1) (m1 : l1.length ≤ maxLen) (y1 : l1.length * 4 ≤ 140737488351232) (g1 : ∀ y ∈ l1, ((Lit.int .u16 y.1).wf = true ∧ (Lit.int .u16 y.2).wf = true)) :
    Calls Try.prog 6 #[.agg #[.int .i64 a0_0, .int .i64 a0_1, .int .i64 a0_2, .int .i64 a0_3], .slice A1 l1.length c1] w fun e w' => e = .returned (.bool true) ∧ Below w.heap.size w w' := by
  clear wa0_0 wa0_1 wa0_2 wa0_3 m1
  have HG1 := Aside0.mk g1
  have HR1 := Aside0.mk r1
  clear g1 r1
  by_cases hL : (200 : Int) < (l1.length : Int)
  · have HB0 := Aside0.mk (below_alloc (Below.refl w.heap.size w) (.cells #[.int .i64 a0_0, .int .i64 a0_1, .int .i64 a0_2, .int .i64 a0_3] 23 (0, 0)))
    have HN0 := Aside0.mk (blk_new w (.cells #[.int .i64 a0_0, .int .i64 a0_1, .int .i64 a0_2, .int .i64 a0_3] 23 (0, 0)))
    by_cases hM : MayG a0_0 a0_1 a0_2 a0_3
    · have HMay := Aside0.mk (fun W => refMayC (a := a0_0) (b := a0_1) (c := a0_2) (d := a0_3) W true ⟨fun _ => rfl, fun _ => hM⟩)
      obtain ⟨sm, hsm⟩ : ∃ sm, decide (a0_0 * a0_1 * (a0_2 * (a0_3 + 16)) ≤ 20000) = sm := ⟨_, rfl⟩
      have HSm := Aside0.mk (fun W => smallC W hM sm hsm)
      clear hM hsm
      unfold geoV at HMay HSm
      cases sm
      all_goals (
        go_enter Try.func6, Try.ntmps6
        go_wp2_with (first
          | (go_at_call 8; (refine (awakeC _).mono ?_); rintro e w1 ⟨rfl, HB1⟩; have HB2 := Aside0.mk (below_step HB0.out HB1.out); have hb1 := (HB1.out.block _ (blk_lt HN0.out)).trans HN0.out; have HN1 := Aside0.mk hb1; have d0 : w1.cell? ⟨w.heap.size, 0, none⟩ = some (.int .i64 a0_0) := (blk_cell hb1 0).trans rfl; have d1 : w1.cell? ⟨w.heap.size, 1, none⟩ = some (.int .i64 a0_1) := (blk_cell hb1 1).trans rfl; have d2 : w1.cell? ⟨w.heap.size, 2, none⟩ = some (.int .i64 a0_2) := (blk_cell hb1 2).trans rfl; have d3 : w1.cell? ⟨w.heap.size, 3, none⟩ = some (.int .i64 a0_3) := (blk_cell hb1 3).trans rfl; clear hb1)
          | (go_at_call 9; (refine (HMay.out _).mono ?_); rintro e w3 ⟨rfl, HB3⟩; have HB4 := Aside0.mk (below_step HB2.out HB3.out); have hb3 := (HB3.out.block _ (blk_lt HN1.out)).trans HN1.out; have HN3 := Aside0.mk hb3; have e0 : w3.cell? ⟨w.heap.size, 0, none⟩ = some (.int .i64 a0_0) := (blk_cell hb3 0).trans rfl; have e1 : w3.cell? ⟨w.heap.size, 1, none⟩ = some (.int .i64 a0_1) := (blk_cell hb3 1).trans rfl; have e2 : w3.cell? ⟨w.heap.size, 2, none⟩ = some (.int .i64 a0_2) := (blk_cell hb3 2).trans rfl; have e3 : w3.cell? ⟨w.heap.size, 3, none⟩ = some (.int .i64 a0_3) := (blk_cell hb3 3).trans rfl; clear hb3)
          | (go_at_call 10; (refine (HSm.out _).mono ?_); rintro e w5 ⟨rfl, HB5⟩; have HB6 := Aside0.mk (below_step HB4.out HB5.out); have hb5 := (HB5.out.block _ (blk_lt HN3.out)).trans HN3.out; have HN5 := Aside0.mk hb5; have f0 : w5.cell? ⟨w.heap.size, 0, none⟩ = some (.int .i64 a0_0) := (blk_cell hb5 0).trans rfl; have f1 : w5.cell? ⟨w.heap.size, 1, none⟩ = some (.int .i64 a0_1) := (blk_cell hb5 1).trans rfl; have f2 : w5.cell? ⟨w.heap.size, 2, none⟩ = some (.int .i64 a0_2) := (blk_cell hb5 2).trans rfl; have f3 : w5.cell? ⟨w.heap.size, 3, none⟩ = some (.int .i64 a0_3) := (blk_cell hb5 3).trans rfl; clear hb5))
        go_ret
        exact ⟨rfl, HB6.out⟩)
    · have HMay := Aside0.mk (fun W => refMayC (a := a0_0) (b := a0_1) (c := a0_2) (d := a0_3) W false ⟨fun h => absurd h hM, fun h => by cases h⟩)
      clear hM
      unfold geoV at HMay
      go_enter Try.func6, Try.ntmps6
      go_wp2_with (first
          | (go_at_call 8; (refine (awakeC _).mono ?_); rintro e w1 ⟨rfl, HB1⟩; have HB2 := Aside0.mk (below_step HB0.out HB1.out); have hb1 := (HB1.out.block _ (blk_lt HN0.out)).trans HN0.out; have HN1 := Aside0.mk hb1; have d0 : w1.cell? ⟨w.heap.size, 0, none⟩ = some (.int .i64 a0_0) := (blk_cell hb1 0).trans rfl; have d1 : w1.cell? ⟨w.heap.size, 1, none⟩ = some (.int .i64 a0_1) := (blk_cell hb1 1).trans rfl; have d2 : w1.cell? ⟨w.heap.size, 2, none⟩ = some (.int .i64 a0_2) := (blk_cell hb1 2).trans rfl; have d3 : w1.cell? ⟨w.heap.size, 3, none⟩ = some (.int .i64 a0_3) := (blk_cell hb1 3).trans rfl; clear hb1)
          | (go_at_call 9; (refine (HMay.out _).mono ?_); rintro e w3 ⟨rfl, HB3⟩; have HB4 := Aside0.mk (below_step HB2.out HB3.out); have hb3 := (HB3.out.block _ (blk_lt HN1.out)).trans HN1.out; have HN3 := Aside0.mk hb3; have e0 : w3.cell? ⟨w.heap.size, 0, none⟩ = some (.int .i64 a0_0) := (blk_cell hb3 0).trans rfl; have e1 : w3.cell? ⟨w.heap.size, 1, none⟩ = some (.int .i64 a0_1) := (blk_cell hb3 1).trans rfl; have e2 : w3.cell? ⟨w.heap.size, 2, none⟩ = some (.int .i64 a0_2) := (blk_cell hb3 2).trans rfl; have e3 : w3.cell? ⟨w.heap.size, 3, none⟩ = some (.int .i64 a0_3) := (blk_cell hb3 3).trans rfl; clear hb3))
      go_ret
      exact ⟨rfl, HB4.out⟩
  · -- the few moves
    have HB0 := Aside0.mk (below_alloc (Below.refl w.heap.size w) (.cells #[.int .i64 a0_0, .int .i64 a0_1, .int .i64 a0_2, .int .i64 a0_3] 23 (0, 0)))
    have HN0 := Aside0.mk (blk_new w (.cells #[.int .i64 a0_0, .int .i64 a0_1, .int .i64 a0_2, .int .i64 a0_3] 23 (0, 0)))
    by_cases hM : MayG a0_0 a0_1 a0_2 a0_3
    · by_cases hS : a0_0 * a0_1 * (a0_2 * (a0_3 + 16)) ≤ 20000
      · have HMay := Aside0.mk (fun W => refMayC (a := a0_0) (b := a0_1) (c := a0_2) (d := a0_3) W true ⟨fun _ => rfl, fun _ => hM⟩)
        have HSm := Aside0.mk (fun W => smallC W hM true (decide_eq_true hS))
        obtain ⟨Bn, rfl⟩ : ∃ Bn : Nat, a0_0 = (Bn : Int) := ⟨a0_0.toNat, by have := hM.a0; omega⟩
        obtain ⟨Pn, rfl⟩ : ∃ Bn : Nat, a0_1 = (Bn : Int) := ⟨a0_1.toNat, by have := hM.b0; omega⟩
        obtain ⟨Wn, rfl⟩ : ∃ Bn : Nat, a0_2 = (Bn : Int) := ⟨a0_2.toNat, by have := hM.c0; omega⟩
        obtain ⟨Kn, rfl⟩ : ∃ Bn : Nat, a0_3 = (Bn : Int) := ⟨a0_3.toNat, by have := hM.d0; omega⟩
        obtain ⟨n, hn⟩ : ∃ n, Wn * (Kn + 16) = n := ⟨_, rfl⟩
        have hni : (Wn : Int) * ((Kn : Int) + 16) = (n : Int) := by rw [← hn]; push_cast; rfl
        have hnb : n ≤ 320 ∧ 17 ≤ n := by have := room hM; rw [hni] at this; omega
        have hBn : 4 ≤ Bn ∧ Bn ≤ 64 := by have := hM.a0; have := hM.a1; omega
        have hPn : 2 ≤ Pn ∧ Pn ≤ 32 := by have := hM.b0; have := hM.b1; omega
        have HCells := Aside0.mk (fun W => refCellsC (a := Bn) (b := Pn) (c := Wn) (d := Kn) W hM n hni)
        have hmk32 := mk32 n (by omega)
        have hWn : 1 ≤ Wn ∧ Wn ≤ 4 := by have := hM.c0; have := hM.c1; omega
        have hmk34 := mk34c Wn (by omega)
        obtain ⟨PN, hPN⟩ : ∃ PN, Pn * n = PN := ⟨_, rfl⟩
        have hPNb : PN ≤ 10240 := by
          rw [← hPN]
          exact Nat.le_trans (Nat.mul_le_mul hPn.2 hnb.1) (by decide)
        have hPNi : (Pn : Int) * (n : Int) = (PN : Int) := by rw [← hPN]; push_cast; rfl
        have HPN := Aside0.mk hPN
        have hmk57 := mk57 PN (by omega)
        have HNew := Aside0.mk (fun W => newCh Bn Pn Wn Kn n hM hn W none 0 [] (Kd.C_nil _ _) (by decide) (by decide) (fun y hy => absurd hy (Nat.not_lt_zero _)) none 0 [] (Kd.C_nil _ _) (by decide) ⟨by decide, (fun x hx => by cases hx), (by simp [Apart])⟩)
        clear hM hS hn hni hPN
        unfold geoV at HMay HSm HNew HCells
        go_enter Try.func6, Try.ntmps6
        go_upto_region 10 with (first
            | (go_at_call 8; (refine (awakeC _).mono ?_); rintro e w1 ⟨rfl, HB1⟩; have HB2 := Aside0.mk (below_step HB0.out HB1.out); have hb1 := (HB1.out.block _ (blk_lt HN0.out)).trans HN0.out; have HN1 := Aside0.mk hb1; have d0 : w1.cell? ⟨w.heap.size, 0, none⟩ = some (.int .i64 (Bn : Int)) := (blk_cell hb1 0).trans rfl; have d1 : w1.cell? ⟨w.heap.size, 1, none⟩ = some (.int .i64 (Pn : Int)) := (blk_cell hb1 1).trans rfl; have d2 : w1.cell? ⟨w.heap.size, 2, none⟩ = some (.int .i64 (Wn : Int)) := (blk_cell hb1 2).trans rfl; have d3 : w1.cell? ⟨w.heap.size, 3, none⟩ = some (.int .i64 (Kn : Int)) := (blk_cell hb1 3).trans rfl; clear hb1)
            | (go_at_call 9; (refine (HMay.out _).mono ?_); rintro e w3 ⟨rfl, HB3⟩; have HB4 := Aside0.mk (below_step HB2.out HB3.out); have hb3 := (HB3.out.block _ (blk_lt HN1.out)).trans HN1.out; have HN3 := Aside0.mk hb3; have e0 : w3.cell? ⟨w.heap.size, 0, none⟩ = some (.int .i64 (Bn : Int)) := (blk_cell hb3 0).trans rfl; have e1 : w3.cell? ⟨w.heap.size, 1, none⟩ = some (.int .i64 (Pn : Int)) := (blk_cell hb3 1).trans rfl; have e2 : w3.cell? ⟨w.heap.size, 2, none⟩ = some (.int .i64 (Wn : Int)) := (blk_cell hb3 2).trans rfl; have e3 : w3.cell? ⟨w.heap.size, 3, none⟩ = some (.int .i64 (Kn : Int)) := (blk_cell hb3 3).trans rfl; clear hb3)
            | (go_at_call 10; (refine (HSm.out _).mono ?_); rintro e w5 ⟨rfl, HB5⟩; have HB6 := Aside0.mk (below_step HB4.out HB5.out); have hb5 := (HB5.out.block _ (blk_lt HN3.out)).trans HN3.out; have HN5 := Aside0.mk hb5; have f0 : w5.cell? ⟨w.heap.size, 0, none⟩ = some (.int .i64 (Bn : Int)) := (blk_cell hb5 0).trans rfl; have f1 : w5.cell? ⟨w.heap.size, 1, none⟩ = some (.int .i64 (Pn : Int)) := (blk_cell hb5 1).trans rfl; have f2 : w5.cell? ⟨w.heap.size, 2, none⟩ = some (.int .i64 (Wn : Int)) := (blk_cell hb5 2).trans rfl; have f3 : w5.cell? ⟨w.heap.size, 3, none⟩ = some (.int .i64 (Kn : Int)) := (blk_cell hb5 3).trans rfl; clear hb5)
            | (go_at_call 11; (refine (HNew.out _).mono ?_); rintro e w7 ⟨s0, rfl, HI7, HB7, HFr⟩; have HL7 := Aside0.mk (Lq.of (qs := [w.heap.size]) HB6.out HI7.out HB7.out HFr.out (fun q hq => by rw [List.mem_singleton.1 hq]; exact blk_lt HN5.out)); have hb7 := (HB7.out.block _ (blk_lt HN5.out)).trans HN5.out; have HN7 := Aside0.mk hb7; have g0 : w7.cell? ⟨w.heap.size, 0, none⟩ = some (.int .i64 (Bn : Int)) := (blk_cell hb7 0).trans rfl; have g1 : w7.cell? ⟨w.heap.size, 1, none⟩ = some (.int .i64 (Pn : Int)) := (blk_cell hb7 1).trans rfl; have g2 : w7.cell? ⟨w.heap.size, 2, none⟩ = some (.int .i64 (Wn : Int)) := (blk_cell hb7 2).trans rfl; have g3 : w7.cell? ⟨w.heap.size, 3, none⟩ = some (.int .i64 (Kn : Int)) := (blk_cell hb7 3).trans rfl; clear hb7)
            | (go_at_call 12; (refine (HCells.out _).mono ?_); rintro e w9 ⟨rfl, HB9⟩; have HL9 := Aside0.mk (HL7.out.below HB9.out); have HN9 := Aside0.mk (blk_below HN7.out HB9.out)))
        have HA9 := Aside0.mk (HL9.out.alloc (.cells (Array.replicate n (.int .u16 0)) 40 (0, 0)))
        have HR9 := Aside0.mk (made_row (enc := Value.int .u16) (t := 40) w9 n 0)
        have hgb : w.heap.size < w9.heap.size := blk_lt HN9.out
        have HX9 := Aside0.mk (blk_alloc HN9.out (.cells (Array.replicate n (.int .u16 0)) 40 (0, 0)))
        obtain ⟨c, hc⟩ : ∃ c, s0.c = c := ⟨_, rfl⟩
        obtain ⟨base, hba⟩ : ∃ c, w5.heap.size = c := ⟨_, rfl⟩
        obtain ⟨sb, hsb⟩ : ∃ c, w9.heap.size = c := ⟨_, rfl⟩
        rw [hc, hba, hsb] at HA9
        rw [hsb] at HR9 hgb
        rw [hc, hsb]
        obtain ⟨W0, hW0⟩ : ∃ W0, (w9.alloc (.cells (Array.replicate n (.int .u16 0)) 40 (0, 0))) = W0 := ⟨_, rfl⟩
        rw [hW0] at HA9 HR9 HX9 ⊢
        rw [← fill_zero n 528] at HR9
        clear hc hba hsb hW0 hmk32 HMay HSm HNew HCells HB0 HN0 HB1 HB2 HN1 HB3 HB4 HN3 HB5 HB6 HN5 HI7 HB7 HFr HL7 HN7 HB9 HL9 HN9 d0 d1 d2 d3 e0 e1 e2 e3 f0 f1 f2 f3 g0 g1 g2 g3
        have hsw : w.heap.size ≠ sb := Nat.ne_of_lt hgb
        have hws : sb ≠ w.heap.size := fun e => hsw e.symm
        go_wp2
        go_loopw [9] (fun v9 wr => ∃ i : Nat, i ≤ n ∧ v9 = .int .i64 (i : Int) ∧ Aside0 (Lq w wr base c [sb, w.heap.size] Bn Pn Wn Kn n [] 0 0 false (newN n fun x => decide ((x : Int) ∈ ([] : List Int)))) ∧ Aside0 (Row (Value.int .u16) 40 wr sb (fill n 528 i)) ∧ Aside0 (wr.heap[w.heap.size]? = some (.cells #[.int .i64 Bn, .int .i64 Pn, .int .i64 Wn, .int .i64 Kn] 23 (0, 0)))) (fun v9 _ => n - (intOf v9).toNat)
        case atStart => exact ⟨0, Nat.zero_le _, rfl, HA9, HR9, HX9⟩
        case round =>
          clear HA9 HR9 HX9
          obtain ⟨i, hi, rfl, HL, HR, HX⟩ := hrel
          by_cases ci : i < n
          · have cii : (i : Int) < (n : Int) := by omega
            have hcl := HR.out.cellD 0 i (by rw [fill_len hi]; exact ci)
            have hfl := HR.out.frozen i
            have HL1 := Aside0.mk (HL.out.far (p := ⟨sb, i, none⟩) List.mem_cons_self (Nat.le_of_lt hgb) (.int .u16 528))
            have HR1 : Aside0 (Row (Value.int .u16) 40 (wr.setCell ⟨sb, i, none⟩ (.int .u16 528)) sb (fill n 528 (i + 1))) := ⟨by rw [← fill_set ci]; exact HR.out.set i 528⟩
            have HX1 := Aside0.mk (blk_far HX.out (p := ⟨sb, i, none⟩) hsw (.int .u16 528))
            clear HL HR HX
            go_wp2
            go_roundw
            case rel => exact ⟨i + 1, ci, rfl, HL1, HR1, HX1⟩
            case measure => simp [intOf]; omega
          · obtain rfl : i = n := by omega
            rw [fill_all] at HR
            have hL0 := HL.out
            rw [← ordM_zero i 1 528] at hL0
            have HL0 := Aside0.mk hL0
            clear hL0 HL
            go_wp2
            go_loopw [10] (fun v10 wr => ∃ p : Nat, p ≤ Pn ∧ v10 = .int .i64 (p : Int) ∧ Aside0 (Lq w wr base c [sb, w.heap.size] Bn Pn Wn Kn i [] (p : Int) 0 false (ordM i 1 p 528)) ∧ Aside0 (Row (Value.int .u16) 40 wr sb (List.replicate i 528)) ∧ Aside0 (wr.heap[w.heap.size]? = some (.cells #[.int .i64 Bn, .int .i64 Pn, .int .i64 Wn, .int .i64 Kn] 23 (0, 0)))) (fun v10 _ => Pn - (intOf v10).toNat)
            case atStart => exact ⟨0, Nat.zero_le _, rfl, HL0, HR, HX⟩
            case round =>
              clear HL0 HR HX
              obtain ⟨p, hp, rfl, HL, HR, HX⟩ := hrel
              have x1 : wr.cell? ⟨w.heap.size, 1, none⟩ = some (.int .i64 (Pn : Int)) := (blk_cell HX.out 1).trans rfl
              by_cases cp : p < Pn
              · have cpp : (p : Int) < (Pn : Int) := by omega
                have HP := Aside0.mk (HL.out.progYes 1 p sb (by omega) (by omega) HR.out List.mem_cons_self (List.length_replicate ..) (row_reps_lt (by decide) (by decide)) rfl rfl (by omega) (ordM_next i 1 p Pn 528) 0 0 false rfl)
                rw [ordM_succ] at HP
                simp only [c0, M.c1, c2, c3] at HP
                go_wp2_with (first | (go_at_call 14; (with_reducible refine HP.out.mono ?_); rintro e w3 ⟨rfl, HL3, HK3⟩))
                go_roundw
                case rel => exact ⟨p + 1, cp, rfl, HL3, ⟨HK3.out.row HR.out List.mem_cons_self⟩, ⟨HK3.out.blk HX.out (List.mem_cons_of_mem _ List.mem_cons_self)⟩⟩
                case measure => simp [intOf]; omega
              · obtain rfl : p = Pn := by omega
                have HLm : Aside0 (Lq w wr base c [sb, w.heap.size] Bn p Wn Kn i [] (p : Int) 0 false (mvN i (List.replicate PN false))) := ⟨HL.out.congr (fun x _ => ⟨rfl, rfl, rfl⟩) (fun x y hx hy => by
                  show (if x = 1 ∧ y < p then (1 : Int) else 0) = (if x = 1 then 1 else 0) ∧ (if x = 1 ∧ y < p then progL (List.replicate i (0, 0)) (List.replicate i 528) i else List.replicate i (0, 0)) = (if x = 1 then movP (List.replicate PN false) y i else List.replicate i (0, 0)) ∧ (if x = 1 ∧ y < p then List.replicate i (528 : Int) else []) = if x = 1 then List.replicate i 528 else []
                  by_cases h : x = 1
                  · simp only [h, hy, and_self, if_true, movP_zero]
                  · simp only [h, false_and, if_false, and_self])⟩
                clear HL
                have HA := Aside0.mk (HLm.out.alloc (.cells (Array.replicate PN (.bool false)) 4 (0, 0)))
                have HM := Aside0.mk (made_row (enc := Value.bool) (t := 4) wr PN false)
                have HX2 := Aside0.mk (blk_alloc HX.out (.cells (Array.replicate PN (.bool false)) 4 (0, 0)))
                have hgl : w.heap.size < wr.heap.size := blk_lt HX.out
                go_upto_region 20 with (fail)
                obtain ⟨mq, hmq⟩ : ∃ c, wr.heap.size = c := ⟨_, rfl⟩
                obtain ⟨W6, hW6⟩ : ∃ W6, (wr.alloc (.cells (Array.replicate PN (.bool false)) 4 (0, 0))) = W6 := ⟨_, rfl⟩
                rw [hmq] at HA HM hgl ⊢
                rw [hW6] at HA HM HX2 ⊢
                clear hmq hW6 HLm HR HX x1 hmk57 hPNi
                have HA2 := Aside0.mk (HA.out.sub (qs1 := [mq, w.heap.size]) (fun q hq => by
                  rcases List.mem_cons.1 hq with rfl | hq
                  · exact List.mem_cons_self
                  · exact List.mem_cons_of_mem _ (List.mem_cons_of_mem _ hq)))
                clear HA
                have m3 : w.heap.size ≠ mq := Nat.ne_of_lt hgl
                have HL6 := Aside0.mk (litS 6 4618441417868443648 (by decide +kernel))
                go_wp2
                go_loopw [12, 13, 14] (fun v12 v13 v14 wr => ∃ (t : Nat) (mv : List Bool), t ≤ l1.length ∧ mv.length = PN ∧ v12 = .int .i64 (t : Int) ∧ Aside0 (Lq w wr base c [mq, w.heap.size] Bn p Wn Kn i [] (p : Int) 0 false (mvN i mv)) ∧ Aside0 (Row Value.bool 4 wr mq mv) ∧ Aside0 (wr.heap[w.heap.size]? = some (.cells #[.int .i64 Bn, .int .i64 p, .int .i64 Wn, .int .i64 Kn] 23 (0, 0)))) (fun v12 _ _ _ => l1.length - (intOf v12).toNat)
                case atStart => exact ⟨0, _, Nat.zero_le _, List.length_replicate .., rfl, HA2, HM, HX2⟩
                case round =>
                  clear HA2 HM HX2
                  obtain ⟨t, mv, ht, hml, rfl, HL, HM, HX⟩ := hrel
                  by_cases ct : t < l1.length
                  · have ctt : (t : Int) < (l1.length : Int) := by omega
                    have HR1w := Aside0.mk (Kd.C_below HR1.out HL.out.bel)
                    obtain ⟨ad, e1, hx0, hy0⟩ := at_pair HR1w.out t ct
                    cases e1
                    have hgm := HG1.out _ (mem_getD (0, 0) ct)
                    clear HR1w
                    generalize l1.getD t (0, 0) = xy at hx0 hy0 hgm
                    obtain ⟨x, y⟩ := xy
                    dsimp only at hx0 hy0 hgm
                    obtain ⟨bx0, bx1⟩ := bounds16 hgm.1
                    obtain ⟨by0, by1⟩ := bounds16 hgm.2
                    obtain ⟨b, hb⟩ : ∃ b : Nat, x % (p : Int) = (b : Int) := ⟨(x % (p : Int)).toNat, by have := Int.emod_nonneg x (show (p : Int) ≠ 0 by omega); omega⟩
                    obtain ⟨k, hk⟩ : ∃ b : Nat, y % (i : Int) = (b : Int) := ⟨(y % (i : Int)).toNat, by have := Int.emod_nonneg y (show (i : Int) ≠ 0 by omega); omega⟩
                    have hbB : b < p := by have := Int.emod_lt_of_pos x (show (0 : Int) < (p : Int) by omega); omega
                    have hkP : k < i := by have := Int.emod_lt_of_pos y (show (0 : Int) < (i : Int) by omega); omega
                    have d1 : wr.cell? ⟨w.heap.size, 1, none⟩ = some (.int .i64 (p : Int)) := (blk_cell HX.out 1).trans rfl
                    have htx : x.tmod (p : Int) = (b : Int) := by rw [Int.tmod_eq_emod_of_nonneg bx0]; exact hb
                    have hty : y.tmod (i : Int) = (k : Int) := by rw [Int.tmod_eq_emod_of_nonneg by0]; exact hk
                    have hz1 : ((p : Int) == 0) = false := beq_eq_false_iff_ne.2 (by omega)
                    have hz2 : ((i : Int) == 0) = false := beq_eq_false_iff_ne.2 (by omega)
                    have hw2 : IntKind.i64.wrap x = x := wrap_i64_small _ (by omega) (by omega)
                    have hw3 : IntKind.i64.wrap y = y := wrap_i64_small _ (by omega) (by omega)
                    have hw4 : IntKind.i64.wrap (b : Int) = (b : Int) := wrap_i64_small _ (by omega) (by omega)
                    have hw5 : IntKind.i64.wrap (k : Int) = (k : Int) := wrap_i64_small _ (by omega) (by omega)
                    clear hgm
                    go_upto_region 23 with (fail)
                    go_quiet (fail)
                    have HLa := Aside0.mk (HL.out.drewN nq)
                    have HMa := Aside0.mk (HM.out.drewN nq)
                    have HXa := Aside0.mk (blk_drewN HX.out nq)
                    obtain ⟨W1, hW1⟩ : ∃ W1, wr.drewN nq = W1 := ⟨_, rfl⟩
                    rw [hW1] at HLa HMa HXa ⊢
                    clear hW1 HL HM HX hx0 hy0 htx hty hz1 hz2 hw2 hw3 hw4 hw5 d1 hb hk bx0 bx1 by0 by1
                    obtain ⟨u, hu⟩ : ∃ u, b * i = u := ⟨_, rfl⟩
                    obtain ⟨ix, hix⟩ : ∃ ix, u + k = ix := ⟨_, rfl⟩
                    have hixl : ix < PN := by rw [← hix, ← hu, ← HPN.out]; exact idx_lt hbB hkP
                    have hmu : (b : Int) * (i : Int) = (u : Int) := by rw [← hu]; push_cast; rfl
                    have hsu : (u : Int) + (k : Int) = (ix : Int) := by rw [← hix]; push_cast; rfl
                    have hixk : b * i + k = ix := by rw [hu, hix]
                    have HIx := Aside0.mk hixk
                    have hixi : (ix : Int) < (PN : Int) := by omega
                    have hul : u ≤ ix := by omega
                    have hcm := HMa.out.cellD false ix (by rw [hml]; exact hixl)
                    have hfm := HMa.out.frozen ix
                    clear hu hix hixk
                    cases hbv : mv.getD ix false with
                    | true =>
                      rw [hbv] at hcm
                      clear hbv
                      go_wp2
                      go_roundw
                      case rel => exact ⟨t + 1, mv, ct, hml, rfl, HLa, HMa, HXa⟩
                      case measure => simp [intOf]; omega
                    | false =>
                      rw [hbv] at hcm
                      have h11 : ((mvN i mv).P 1 b).getD k (0, 0) = (1, 1) := by
                        show (movP mv b i).getD k (0, 0) = (1, 1)
                        rw [movP_at hkP, HIx.out, hbv]; rfl
                      have hd := HLa.out.driftYes 1 b k (by omega) hbB rfl hkP 6 0 (by decide) (by decide) (by rw [h11]; decide) (by rw [h11]; decide) (by rw [h11]; decide) (by rw [h11]; decide)
                      rw [fd_zero, ← HL6.out, h11] at hd
                      have HD := Aside0.mk hd
                      simp only [c0, M.c1, c2, c3] at HD
                      clear hd h11 hbv
                      go_upto_region 27 with (first | (go_at_call 24; (with_reducible refine HD.out.mono ?_); rintro e w5 ⟨rfl, HL5, HK5⟩))
                      have HM5 := Aside0.mk (HK5.out.row HMa.out List.mem_cons_self)
                      have HX5 := Aside0.mk (HK5.out.blk HXa.out (List.mem_cons_of_mem _ List.mem_cons_self))
                      have hcm5 := HM5.out.cellD false ix (by rw [hml]; exact hixl)
                      have hfm5 := HM5.out.frozen ix
                      have HM6 := Aside0.mk (HM5.out.set ix true)
                      have HX6 := Aside0.mk (blk_far HX5.out (p := ⟨mq, ix, none⟩) m3 (.bool true))
                      have HL7 : Aside0 (Lq w (w5.setCell ⟨mq, ix, none⟩ (.bool true)) base c [mq, w.heap.size] Bn p Wn Kn i [] (p : Int) 0 false (mvN i (mv.set ix true))) := ⟨(HL5.out.far (p := ⟨mq, ix, none⟩) List.mem_cons_self (Nat.le_of_lt hgl) (.bool true)).congr (fun x _ => ⟨rfl, rfl, rfl⟩) (fun x y hx hy => by
                        refine ⟨rfl, ?_, rfl⟩
                        show (if x = 1 ∧ y = b then (movP mv b i).set k (1 + 6, 1 + 0) else if x = 1 then movP mv y i else List.replicate i (0, 0)) = if x = 1 then movP (mv.set ix true) y i else List.replicate i (0, 0)
                        by_cases h1 : x = 1
                        · by_cases h2 : y = b
                          · rw [if_pos ⟨h1, h2⟩, if_pos h1, h2, ← HIx.out]
                            exact movP_set hkP (by rw [HIx.out, hml]; exact hixl)
                          · rw [if_neg (fun e => h2 e.2), if_pos h1, if_pos h1, ← HIx.out, movP_other hkP h2]
                        · rw [if_neg (fun e => h1 e.1), if_neg h1, if_neg h1])⟩
                      clear HL5 HK5 HD HM5 HX5 HLa HMa HXa hcm
                      go_wp2
                      go_roundw
                      case rel => exact ⟨t + 1, mv.set ix true, ct, by rw [List.length_set]; exact hml, rfl, HL7, HM6, HX6⟩
                      case measure => simp [intOf]; omega
                  · obtain rfl : t = l1.length := by omega
                    have hgr0 : (0 : Int) = gr Wn mv i 0 := rfl
                    go_wp2
                    go_loopw [15, 16, 17, 18] (fun v15 v16 v17 v18 wq => ∃ t : Nat, t ≤ p ∧ v16 = .int .i64 (t : Int) ∧ v15 = .int .i64 (gr Wn mv i t) ∧ Aside0 (Lq w wq base c [mq, w.heap.size] Bn p Wn Kn i [] (p : Int) 0 false (mvN i mv)) ∧ Aside0 (Row Value.bool 4 wq mq mv) ∧ Aside0 (wq.heap[w.heap.size]? = some (.cells #[.int .i64 Bn, .int .i64 p, .int .i64 Wn, .int .i64 Kn] 23 (0, 0)))) (fun _ v16 _ _ _ => p - (intOf v16).toNat)
                    case atStart => exact ⟨0, Nat.zero_le _, rfl, by rw [← hgr0], HL, HM, HX⟩
                    case round =>
                      clear HL HM HX hgr0
                      obtain ⟨t, ht, rfl, rfl, HL, HM, HX⟩ := hrel
                      have d1 : wr.cell? ⟨w.heap.size, 1, none⟩ = some (.int .i64 (p : Int)) := (blk_cell HX.out 1).trans rfl
                      have d2 : wr.cell? ⟨w.heap.size, 2, none⟩ = some (.int .i64 (Wn : Int)) := (blk_cell HX.out 2).trans rfl
                      by_cases ct : t < p
                      · have ctt : (t : Int) < (p : Int) := by omega
                        have HGs := Aside0.mk (gr_succ (by omega) hWn.2 mv i t)
                        obtain ⟨hgb0, hgb1⟩ := gr_bound Wn mv i t
                        generalize gr Wn mv i t = g0 at *
                        have HA := Aside0.mk ((HL.out.alloc (.cells (Array.replicate Wn (.int .i64 0)) 3 (0, 0))))
                        have HC := Aside0.mk (made_row (enc := Value.int .i64) (t := 3) wr Wn 0)
                        have HM2 := Aside0.mk (HM.out.alloc (.cells (Array.replicate Wn (.int .i64 0)) 3 (0, 0)))
                        have HX2 := Aside0.mk (blk_alloc HX.out (.cells (Array.replicate Wn (.int .i64 0)) 3 (0, 0)))
                        have hml2 : mq < wr.heap.size := HM.out.lt
                        have hgl2 : w.heap.size < wr.heap.size := blk_lt HX.out
                        go_upto_region 33 with (fail)
                        obtain ⟨aq, haq⟩ : ∃ c, wr.heap.size = c := ⟨_, rfl⟩
                        obtain ⟨W6, hW6⟩ : ∃ W6, (wr.alloc (.cells (Array.replicate Wn (.int .i64 0)) 3 (0, 0))) = W6 := ⟨_, rfl⟩
                        rw [haq] at HA HC hml2 hgl2 ⊢
                        rw [hW6] at HA HC HM2 HX2 ⊢
                        clear haq hW6 HL HM HX d1 d2
                        have n1 : mq ≠ aq := Nat.ne_of_lt hml2
                        have n2 : w.heap.size ≠ aq := Nat.ne_of_lt hgl2
                        have HW0 : Aside0 (Wok (List.replicate Wn 0, g0) Wn 400) := ⟨⟨List.length_replicate .., fun v => by dsimp only; rw [rep_zero]; exact ⟨Int.le_refl _, by decide⟩, ⟨hgb0, by show g0 ≤ ((400 : Nat) : Int); omega⟩⟩⟩
                        go_wp2
                        go_loopw [15, 18] (fun v15 v18 wq => ∃ k : Nat, k ≤ i ∧ v18 = .int .i64 (k : Int) ∧ v15 = .int .i64 (wfold Wn (wrongL (movP mv t i) (List.replicate i 528) k) (List.replicate Wn 0, g0)).2 ∧ Aside0 (Row (Value.int .i64) 3 wq aq (wfold Wn (wrongL (movP mv t i) (List.replicate i 528) k) (List.replicate Wn 0, g0)).1) ∧ Aside0 (Lq w wq base c [aq, mq, w.heap.size] Bn p Wn Kn i [] (p : Int) 0 false (mvN i mv)) ∧ Aside0 (Row Value.bool 4 wq mq mv) ∧ Aside0 (wq.heap[w.heap.size]? = some (.cells #[.int .i64 Bn, .int .i64 p, .int .i64 Wn, .int .i64 Kn] 23 (0, 0)))) (fun _ v18 _ => i - (intOf v18).toNat)
                        case atStart => exact ⟨0, Nat.zero_le _, rfl, rfl, HC, HA, HM2, HX2⟩
                        case round =>
                          clear HC HA HM2 HX2
                          obtain ⟨k, hk, rfl, rfl, HC, HL, HM, HX⟩ := hrel
                          have hwl := wrongL_le (movP mv t i) (List.replicate i 528) k
                          have HWk := Aside0.mk (HW0.out.fold Wn (wrongL (movP mv t i) (List.replicate i 528) k))
                          by_cases ck : k < i
                          · have ckk : (k : Int) < (i : Int) := by omega
                            obtain ⟨u, hu⟩ : ∃ u, t * i = u := ⟨_, rfl⟩
                            obtain ⟨ix, hix⟩ : ∃ ix, u + k = ix := ⟨_, rfl⟩
                            have hixl : ix < PN := by rw [← hix, ← hu, ← HPN.out]; exact idx_lt ct ck
                            have hmu : (t : Int) * (i : Int) = (u : Int) := by rw [← hu]; push_cast; rfl
                            have hsu : (u : Int) + (k : Int) = (ix : Int) := by rw [← hix]; push_cast; rfl
                            have hixk : t * i + k = ix := by rw [hu, hix]
                            have hixi : (ix : Int) < (PN : Int) := by omega
                            have hul : u ≤ ix := by omega
                            have hcm := HM.out.cellD false ix (by rw [hml]; exact hixl)
                            have hbm := bad_mov (mv := mv) (p := t) ck
                            rw [hixk] at hbm
                            have hsc := wrongL_succ (movP mv t i) (List.replicate i 528) k
                            rw [hbm] at hsc
                            clear hu hix hixk hbm
                            obtain ⟨lw, hlw⟩ : ∃ lw, wrongL (movP mv t i) (List.replicate i 528) k = lw := ⟨_, rfl⟩
                            rw [hlw] at hsc HC HWk hwl ⊢
                            clear hlw
                            cases hbv : mv.getD ix false with
                            | false =>
                              rw [hbv] at hcm hsc
                              have HSc : Aside0 (wrongL (movP mv t i) (List.replicate i 528) (k + 1) = lw) := ⟨by rw [hsc]; simp⟩
                              clear hbv hsc HWk
                              go_wp2
                              go_roundw
                              case rel => exact ⟨k + 1, ck, rfl, by rw [HSc.out], by rw [HSc.out]; exact HC, HL, HM, HX⟩
                              case measure => simp [intOf]; omega
                            | true =>
                              rw [hbv] at hcm hsc
                              have HSc : Aside0 (wfold Wn (wrongL (movP mv t i) (List.replicate i 528) (k + 1)) (List.replicate Wn 0, g0) = wstep Wn (wfold Wn lw (List.replicate Wn 0, g0)) (k : Int)) := ⟨by rw [hsc, if_pos rfl, wfold_append]; rfl⟩
                              clear hbv hsc
                              obtain ⟨hml3, hmc, hmn⟩ := HWk.out
                              generalize wfold Wn lw (List.replicate Wn 0, g0) = st at *
                              obtain ⟨m, nn⟩ := st
                              dsimp only at hml3 hmc hmn HC
                              have hemod := Int.emod_nonneg (k : Int) (show (Wn : Int) ≠ 0 by omega)
                              have hemod2 := Int.emod_lt_of_pos (k : Int) (show (0 : Int) < (Wn : Int) by omega)
                              obtain ⟨v, hv⟩ : ∃ v : Nat, ((k : Int) % (Wn : Int)).toNat = v := ⟨_, rfl⟩
                              have hvw : v < Wn := by omega
                              have hvi : (v : Int) < (Wn : Int) := by omega
                              have htm : (k : Int).tmod (Wn : Int) = (v : Int) := by rw [Int.tmod_eq_emod_of_nonneg (by omega)]; omega
                              have hz1 : ((Wn : Int) == 0) = false := beq_eq_false_iff_ne.2 (by omega)
                              unfold wstep at HSc
                              dsimp only at HSc
                              rw [hv] at HSc
                              have hcc := HC.out.cellD 0 v (by omega)
                              have hfc := HC.out.frozen v
                              obtain ⟨q1, q2⟩ := hmc v
                              obtain ⟨n0, n9⟩ := hmn
                              generalize hcu : m.getD v 0 = cu at *
                              have d2 : wr.cell? ⟨w.heap.size, 2, none⟩ = some (.int .i64 (Wn : Int)) := (blk_cell HX.out 2).trans rfl
                              have HC1 := Aside0.mk (HC.out.set v (cu + 1))
                              have HL1 := Aside0.mk (HL.out.far (p := ⟨aq, v, none⟩) List.mem_cons_self (Nat.le_of_lt hgl2) (.int .i64 (cu + 1)))
                              have HM1 := Aside0.mk (HM.out.far (p := ⟨aq, v, none⟩) n1 (.int .i64 (cu + 1)))
                              have HX1 := Aside0.mk (blk_far HX.out (p := ⟨aq, v, none⟩) n2 (.int .i64 (cu + 1)))
                              have n3 : ¬ aq = w.heap.size := fun e => n2 e.symm
                              clear HC HL HM HX hmc hv hcu hemod hemod2 HWk hml3
                              go_wp2
                              go_roundw
                              case rel => exact ⟨k + 1, ck, rfl, by rw [HSc.out], by rw [HSc.out]; exact HC1, HL1, HM1, HX1⟩
                              case measure => simp [intOf]; omega
                          · obtain rfl : k = i := by omega
                            rw [HGs.out]
                            have HL1 := Aside0.mk (HL.out.sub (qs1 := [mq, w.heap.size]) (fun q hq => List.mem_cons_of_mem _ hq))
                            clear HWk HC HL
                            go_wp2
                            go_roundw
                            case rel => exact ⟨t + 1, ct, rfl, rfl, HL1, HM, HX⟩
                            case measure => simp [intOf]; omega
                      · obtain rfl : t = p := by omega
                        have hB2 : ∃ B2, Bn = B2 + 2 := ⟨Bn - 2, by omega⟩
                        obtain ⟨B2, hB2⟩ := hB2
                        have HWo := Aside0.mk (HL.out.worst (fun x y hx hy h1 k hk => by
                          have h2 : (if x = 1 then (1 : Int) else 0) = 1 := h1
                          have hx1 : x = 1 := Classical.byContradiction fun e => by rw [if_neg e] at h2; cases h2
                          subst hx1
                          have hk2 : k < (movP mv y i).length := hk
                          rw [movP_len] at hk2
                          show ((movP mv y i).getD k (0, 0)).1.natAbs ≤ 2000 ∧ ((movP mv y i).getD k (0, 0)).2.natAbs ≤ 2000
                          rw [movP_at hk2]
                          cases mv.getD (y * i + k) false <;> decide) (gr Wn mv i t) (by
                          rw [hB2, mxO_one (fun x y hx hy => by
                            show pageW Wn (if x = 1 then 1 else 0) _ _ = 0
                            rw [if_neg hx]; rfl)]
                          rfl))
                        generalize gr Wn mv i t = g9 at *
                        have HE := Aside0.mk (HL.out.eraseYes 1 (by omega) rfl rfl (by omega) 0 0 false rfl)
                        simp only [c0, M.c1, c2, c3] at HE
                        go_upto_region 41 with (first | (go_at_call 25; (with_reducible refine HWo.out.mono ?_); rintro e w8 ⟨rfl, HB8⟩))
                        have HE8 := Aside0.mk ((HL.out.below HB8.out).eraseYes 1 (by omega) rfl rfl (by omega) 0 0 false rfl)
                        simp only [c0, M.c1, c2, c3] at HE8
                        clear HE HWo
                        go_wp2_with (first
                          | (go_at_call 13; (with_reducible refine HE8.out.mono ?_); rintro e w9 ⟨rfl, HL9, HK9⟩; have HW9 := Aside0.mk (HL9.out.worst (fun x y hx hy h1 => by
                              exfalso
                              have h2 : (if x = 1 then (0 : Int) else if x = 1 then 1 else 0) = 1 := h1
                              by_cases e : x = 1
                              · rw [if_pos e] at h2; cases h2
                              · rw [if_neg e, if_neg e] at h2; cases h2) 0 (mxO_none _ (fun x y hx hy => by
                              show pageW Wn (if x = 1 then (0 : Int) else if x = 1 then 1 else 0) _ _ = 0
                              by_cases e : x = 1
                              · rw [if_pos e]; rfl
                              · rw [if_neg e, if_neg e]; rfl))))
                          | (go_at_call 25; (with_reducible refine HW9.out.mono ?_); rintro e w10 ⟨rfl, HB10⟩))
                        go_ret
                        exact ⟨rfl, below_step HL9.out.bel HB10.out⟩

      · have HMay := Aside0.mk (fun W => refMayC (a := a0_0) (b := a0_1) (c := a0_2) (d := a0_3) W true ⟨fun _ => rfl, fun _ => hM⟩)
        have HSm := Aside0.mk (fun W => smallC W hM false (decide_eq_false hS))
        clear hM hS
        unfold geoV at HMay HSm
        go_enter Try.func6, Try.ntmps6
        go_wp2_with (first
            | (go_at_call 8; (refine (awakeC _).mono ?_); rintro e w1 ⟨rfl, HB1⟩; have HB2 := Aside0.mk (below_step HB0.out HB1.out); have hb1 := (HB1.out.block _ (blk_lt HN0.out)).trans HN0.out; have HN1 := Aside0.mk hb1; have d0 : w1.cell? ⟨w.heap.size, 0, none⟩ = some (.int .i64 a0_0) := (blk_cell hb1 0).trans rfl; have d1 : w1.cell? ⟨w.heap.size, 1, none⟩ = some (.int .i64 a0_1) := (blk_cell hb1 1).trans rfl; have d2 : w1.cell? ⟨w.heap.size, 2, none⟩ = some (.int .i64 a0_2) := (blk_cell hb1 2).trans rfl; have d3 : w1.cell? ⟨w.heap.size, 3, none⟩ = some (.int .i64 a0_3) := (blk_cell hb1 3).trans rfl; clear hb1)
            | (go_at_call 9; (refine (HMay.out _).mono ?_); rintro e w3 ⟨rfl, HB3⟩; have HB4 := Aside0.mk (below_step HB2.out HB3.out); have hb3 := (HB3.out.block _ (blk_lt HN1.out)).trans HN1.out; have HN3 := Aside0.mk hb3; have e0 : w3.cell? ⟨w.heap.size, 0, none⟩ = some (.int .i64 a0_0) := (blk_cell hb3 0).trans rfl; have e1 : w3.cell? ⟨w.heap.size, 1, none⟩ = some (.int .i64 a0_1) := (blk_cell hb3 1).trans rfl; have e2 : w3.cell? ⟨w.heap.size, 2, none⟩ = some (.int .i64 a0_2) := (blk_cell hb3 2).trans rfl; have e3 : w3.cell? ⟨w.heap.size, 3, none⟩ = some (.int .i64 a0_3) := (blk_cell hb3 3).trans rfl; clear hb3)
            | (go_at_call 10; (refine (HSm.out _).mono ?_); rintro e w5 ⟨rfl, HB5⟩; have HB6 := Aside0.mk (below_step HB4.out HB5.out); have hb5 := (HB5.out.block _ (blk_lt HN3.out)).trans HN3.out; have HN5 := Aside0.mk hb5; have f0 : w5.cell? ⟨w.heap.size, 0, none⟩ = some (.int .i64 a0_0) := (blk_cell hb5 0).trans rfl; have f1 : w5.cell? ⟨w.heap.size, 1, none⟩ = some (.int .i64 a0_1) := (blk_cell hb5 1).trans rfl; have f2 : w5.cell? ⟨w.heap.size, 2, none⟩ = some (.int .i64 a0_2) := (blk_cell hb5 2).trans rfl; have f3 : w5.cell? ⟨w.heap.size, 3, none⟩ = some (.int .i64 a0_3) := (blk_cell hb5 3).trans rfl; clear hb5))
        go_ret
        exact ⟨rfl, HB6.out⟩
    · have HMay := Aside0.mk (fun W => refMayC (a := a0_0) (b := a0_1) (c := a0_2) (d := a0_3) W false ⟨fun h => absurd h hM, fun h => by cases h⟩)
      clear hM
      unfold geoV at HMay
      go_enter Try.func6, Try.ntmps6
      go_wp2_with (first
            | (go_at_call 8; (refine (awakeC _).mono ?_); rintro e w1 ⟨rfl, HB1⟩; have HB2 := Aside0.mk (below_step HB0.out HB1.out); have hb1 := (HB1.out.block _ (blk_lt HN0.out)).trans HN0.out; have HN1 := Aside0.mk hb1; have d0 : w1.cell? ⟨w.heap.size, 0, none⟩ = some (.int .i64 a0_0) := (blk_cell hb1 0).trans rfl; have d1 : w1.cell? ⟨w.heap.size, 1, none⟩ = some (.int .i64 a0_1) := (blk_cell hb1 1).trans rfl; have d2 : w1.cell? ⟨w.heap.size, 2, none⟩ = some (.int .i64 a0_2) := (blk_cell hb1 2).trans rfl; have d3 : w1.cell? ⟨w.heap.size, 3, none⟩ = some (.int .i64 a0_3) := (blk_cell hb1 3).trans rfl; clear hb1)
            | (go_at_call 9; (refine (HMay.out _).mono ?_); rintro e w3 ⟨rfl, HB3⟩; have HB4 := Aside0.mk (below_step HB2.out HB3.out); have hb3 := (HB3.out.block _ (blk_lt HN1.out)).trans HN1.out; have HN3 := Aside0.mk hb3; have e0 : w3.cell? ⟨w.heap.size, 0, none⟩ = some (.int .i64 a0_0) := (blk_cell hb3 0).trans rfl; have e1 : w3.cell? ⟨w.heap.size, 1, none⟩ = some (.int .i64 a0_1) := (blk_cell hb3 1).trans rfl; have e2 : w3.cell? ⟨w.heap.size, 2, none⟩ = some (.int .i64 a0_2) := (blk_cell hb3 2).trans rfl; have e3 : w3.cell? ⟨w.heap.size, 3, none⟩ = some (.int .i64 a0_3) := (blk_cell hb3 3).trans rfl; clear hb3))
      go_ret
      exact ⟨rfl, HB4.out⟩
end Go.Proofs.Ytmddafefdleimaa.M
