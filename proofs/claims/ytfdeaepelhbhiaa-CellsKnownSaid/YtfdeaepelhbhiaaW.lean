/- A page within a call: what it bears from deed to deed; what stands awake; the document's own answers; by hand. -/
import Derived.Test.YtfdeaepelhbhiaaV
namespace Go.Proofs.Ytfdeaepelhbhiaa.M
open Go.RowKit Go.Proofs.YtfdeaepelhbhiaaW.PrintWords Go.Proofs.YtfdeaepelhbhiaaW.PrintLast Go.Proofs.YtfdeaepelhbhiaaW.PrintMore Go.Proofs.Ytfdeaepelhbhiaa.Rw Go.Proofs.Ytfdeaepelhbhiaa.Fl
set_option linter.unusedVariables false
set_option linter.unusedSimpArgs false
/-- a page that a call has made -/
structure Cw (w0 W : World) (g b : Nat) (P : Pts) (S : List Int) (st : Int) : Prop where
  is : ∃ sv, IsC W w0.heap.size g b P S st sv
  bel : Below w0.heap.size w0 W
section
variable {w0 W W1 : World} {g b : Nat} {P : Pts} {S xs : List Int} {st : Int}
theorem Cw.below (h : Cw w0 W g b P S st) (hb : Below W.heap.size W W1) : Cw w0 W1 g b P S st := let ⟨⟨sv, h1⟩, h2⟩ := h; ⟨⟨sv, h1.below hb⟩, below_step h2 hb⟩
theorem Cw.lts (h : Cw w0 W g b P S st) : w0.heap.size ≤ g ∧ w0.heap.size ≤ b ∧ g < W.heap.size ∧ b < W.heap.size := let ⟨⟨_, h1⟩, _⟩ := h; ⟨h1.bg, h1.bb, blk_lt h1.hg, h1.hb.lt⟩
/-- another block is written -/
theorem Cw.far (h : Cw w0 W g b P S st) {p : Addr} (h1 : p.block ≠ g) (h2 : p.block ≠ b) (h3 : w0.heap.size ≤ p.block) (h4 : NoQ W g p.block) (u : Value) : Cw w0 (W.setCell p u) g b P S st := by
  obtain ⟨⟨sv, hI⟩, hb⟩ := h
  have hf : ∀ k, k ≠ p.block → (W.setCell p u).heap[k]? = W.heap[k]? := fun k hk => Below.heap_setCell W p u k hk
  refine ⟨⟨sv, (hf g h1.symm).trans hI.hg, hI.hb.move (hf b h2.symm), hI.bg, hI.bb, hI.gb, hI.le, ?_⟩, hb.setCell h3 u⟩
  rcases hI.sv with h5 | ⟨h5, h6, h7⟩
  · exact .inl h5
  · exact .inr ⟨h5, h6, row_move h7 fun k hk => hf k (fun e => h4 _ _ _ hI.hg (e ▸ hk))⟩
theorem cwNew (a : Int) (n : Nat) (ha : (if a < 0 then 0 else a) = (n : Int)) (hn : n ≤ 1000) (hb : Below w0.heap.size w0 W) : Calls Try.prog 8 #[.int .i64 a] W fun e w' =>
    ∃ g b, e = .returned (.pointer (some ⟨g, 0, none⟩)) ∧ Aside0 (Cw w0 w' g b (List.replicate n (0, 0)) [] 0) ∧ Aside0 (Below W.heap.size W w') ∧ W.heap.size ≤ g ∧ W.heap.size ≤ b :=
  (newC a n ha hn W).mono fun e w' ⟨h1, h2, h3⟩ => ⟨_, _, h1, ⟨⟨⟨_, h2.out.hg, h2.out.hb, Nat.le_trans hb.size h2.out.bg, Nat.le_trans hb.size h2.out.bb, h2.out.gb, h2.out.le, .inl ⟨by decide, rfl⟩⟩, below_step hb h3.out⟩⟩, h3, Nat.le_succ _, Nat.le_refl _⟩
theorem cwSense (h : Cw w0 W g b P S st) (hp : 0 < P.length) : Calls Try.prog 12 #[.pointer (some ⟨g, 0, none⟩)] W fun e w' =>
    ∃ q c, e = .returned (.slice (some ⟨q, 0, none⟩) P.length c) ∧ P.length ≤ c ∧ W.heap.size ≤ q ∧ Aside0 (Vec w' q P) ∧ Aside0 (Below W.heap.size W w') := let ⟨⟨_, h1⟩, _⟩ := h; senseC h1 hp
theorem cwState (h : Cw w0 W g b P S st) : Calls Try.prog 15 #[.pointer (some ⟨g, 0, none⟩)] W fun e w' => e = .returned (.int .i64 st) ∧ w' = W := let ⟨⟨_, h1⟩, _⟩ := h; stateC h1
theorem cwWrong (h : Cw w0 W g b P S 1) (hP : ∀ j, j < P.length → (P.getD j (0, 0)).1.natAbs ≤ 2000 ∧ (P.getD j (0, 0)).2.natAbs ≤ 2000) : Calls Try.prog 10 #[.pointer (some ⟨g, 0, none⟩)] W fun e w' =>
    ∃ v, e = .returned v ∧ Aside0 (Kd.R (Kd.int .i64) 3 w' W.heap.size (fun _ => True) v (wrongL P S P.length)) ∧ Aside0 (Below W.heap.size W w') := let ⟨⟨_, h1⟩, _⟩ := h; wrongC h1 hP
theorem cwDriftYes (h : Cw w0 W g b P S 1) (i : Nat) (hi : i < P.length) (u v : Int) (hu : u.natAbs ≤ 2000) (hv : v.natAbs ≤ 2000) (hx : (P.getD i (0, 0)).1.natAbs ≤ 2000) (hy : (P.getD i (0, 0)).2.natAbs ≤ 2000)
    (m1 : mayMove (P.getD i (0, 0)).1 u = true) (m2 : mayMove (P.getD i (0, 0)).2 v = true) :
    Calls Try.prog 11 #[.pointer (some ⟨g, 0, none⟩), .int .i64 (i : Int), .complex .f64 (fd u 0) (fd v 0)] W fun e w' => e = .returned (.bool true) ∧
      Aside0 (Cw w0 w' g b (P.set i ((P.getD i (0, 0)).1 + u, (P.getD i (0, 0)).2 + v)) S 1) ∧ Aside0 (∀ k, k ≠ b → w'.heap[k]? = W.heap[k]?) ∧ w'.heap.size = W.heap.size := by
  obtain ⟨⟨sv, h1⟩, hb⟩ := h
  refine (driftYes h1 i hi u v hu hv hx hy m1 m2).mono fun e w' ⟨e1, e2, e3⟩ => ⟨e1, ⟨⟨⟨sv, e2.out⟩, ?_⟩⟩, ⟨fun k hk => ?_⟩, ?_⟩
  · rw [e3.out]; exact hb.setCell (p := ⟨b, i, none⟩) h1.bb _
  · rw [e3.out]; exact Below.heap_setCell W ⟨b, i, none⟩ _ k hk
  · rw [e3.out]; simp [World.setCell]
theorem cwDriftNo (h : Cw w0 W g b P S 1) (i : Nat) (hi : i < P.length) (u v : Int) (hu : u.natAbs ≤ 2000) (hv : v.natAbs ≤ 2000) (hx : (P.getD i (0, 0)).1.natAbs ≤ 2000) (hy : (P.getD i (0, 0)).2.natAbs ≤ 2000)
    (m : (mayMove (P.getD i (0, 0)).1 u && mayMove (P.getD i (0, 0)).2 v) = false) :
    Calls Try.prog 11 #[.pointer (some ⟨g, 0, none⟩), .int .i64 (i : Int), .complex .f64 (fd u 0) (fd v 0)] W fun e w' => e = .returned (.bool false) ∧ w' = W := let ⟨⟨_, h1⟩, _⟩ := h; driftNo h1 i hi u v hu hv hx hy m
theorem cwDriftOut (h : Cw w0 W g b P S st) (i : Int) (hi : st ≠ 1 ∨ i < 0 ∨ (P.length : Int) ≤ i) (x y : Nat) :
    Calls Try.prog 11 #[.pointer (some ⟨g, 0, none⟩), .int .i64 i, .complex .f64 x y] W fun e w' => e = .returned (.bool false) ∧ w' = W := let ⟨⟨_, h1⟩, _⟩ := h; driftOut h1 i hi x y
theorem cwErase (h : Cw w0 W g b P S st) (hp : 0 < P.length) : Calls Try.prog 16 #[.pointer (some ⟨g, 0, none⟩)] W fun e w' => e = .returned (.tuple #[]) ∧ Aside0 (Cw w0 w' g b (List.replicate P.length (0, 0)) [] 0) := by
  obtain ⟨⟨sv, h1⟩, hb⟩ := h
  exact (eraseC h1 hp).mono fun e w' ⟨e1, e2, e3, _⟩ => ⟨e1, ⟨⟨⟨_, e2.out⟩, Below.trans hb e3.out⟩⟩⟩
theorem cwProg (h : Cw w0 W g b P S 0) (A : Option Addr) (c : Nat) (hC : Kd.C (Kd.int .u16) W A xs.length xs) (hcl : xs.length ≤ c) (hm : xs.length = P.length) (hp : 0 < P.length) (hx : ∀ j, j < xs.length → 0 ≤ xs.getD j 0 ∧ xs.getD j 0 < 1024) (hap : ∀ ad, A = some ad → ad.block ≠ b ∧ ad.block ≠ g)
    (keep : Int) (km : Nat) (st' : Int) (hkm : (if (if keep < 0 then 0 else keep) ≤ (P.length : Int) then (if keep < 0 then 0 else keep) else (P.length : Int)) = (km : Int)) (hst : (if keep ≤ 0 then 0 else if (P.length : Int) ≤ keep then 1 else 2) = st') :
    Calls Try.prog 9 #[.pointer (some ⟨g, 0, none⟩), .slice A xs.length c, .int .i64 keep] W fun e w' => e = .returned (.int .i64 0) ∧
      Aside0 (Cw w0 w' g b (progL P xs km) xs st') ∧ Aside0 (∀ k, k < W.heap.size → k ≠ g → k ≠ b → w'.heap[k]? = W.heap[k]?) ∧ Aside0 (W.heap.size ≤ w'.heap.size) ∧ Aside0 (∀ q, q < W.heap.size → NoQ w' g q) := by
  obtain ⟨⟨sv, h1⟩, hb⟩ := h
  exact (progOK h1 A c hC hcl hm hp hx hap keep km hkm).mono fun e w' ⟨e1, ⟨sv', e2⟩, e3, e4, e5⟩ => ⟨e1, ⟨⟨⟨sv', hst ▸ e2.out⟩, Below.trans hb e3.out⟩⟩, e4, ⟨e3.out.size⟩, e5⟩
theorem cwOrder (h : Cw w0 W g b P S st) (hst : st ≠ 0) (A : Option Addr) (m c : Nat) (keep : Int) : Calls Try.prog 9 #[.pointer (some ⟨g, 0, none⟩), .slice A m c, .int .i64 keep] W fun e w' => e = .returned (.int .i64 5) ∧ w' = W := let ⟨⟨_, h1⟩, _⟩ := h; progOrder h1 hst (.slice none 0 0) A m c keep
/-- what a row of a call's own is, read -/
theorem R_len {v : Value} {base : Nat} {ok : Nat → Prop} {L : List Int} (h : Kd.R (Kd.int .i64) 3 W base ok v L) : ∃ A c, v = .slice A L.length c ∧ Kd.C (Kd.int .i64) W A L.length L := by
  obtain ⟨A, c, e⟩ := Kd.R_slice h
  subst e
  exact ⟨A, c, rfl, (Kd.R_reads' h).2.2⟩
end
/-- a whole page of symbols: nothing is wrong -/
theorem sym_of {s : Int} (h0 : 0 ≤ s) (h1 : s < 1024) : symP (ofPt s) = s := by
  unfold symP ofPt
  rw [show (2 * (s / 32) - 31 + 32) / 2 = s / 32 by omega, show (2 * (s % 32) - 31 + 32) / 2 = s % 32 by omega, lv_mid (by omega) (by omega), lv_mid (by omega) (by omega)]
  omega
theorem pt_getD {S : List Int} {j : Nat} (hj : j < S.length) : (S.map ofPt).getD j (0, 0) = ofPt (S.getD j 0) := by
  rw [List.getD_eq_getElem?_getD, List.getElem?_map, List.getD_eq_getElem?_getD, List.getElem?_eq_getElem hj]; rfl
theorem good_of {S : List Int} {j : Nat} (hj : j < S.length) (h0 : 0 ≤ S.getD j 0) (h1 : S.getD j 0 < 1024) : bad (S.map ofPt) S j = false := by
  unfold bad
  rw [pt_getD hj, sym_of h0 h1]
  unfold ofPt
  rw [decide_eq_false (show ¬ 2 * (S.getD j 0 / 32) - 31 = 0 by omega)]
  simp
theorem wrong_none {P : Pts} {S : List Int} {n : Nat} (h : ∀ j, j < n → bad P S j = false) : wrongL P S n = [] := by
  unfold wrongL
  rw [List.filter_eq_nil_iff.2 (fun j hj => by rw [h j (List.mem_range.1 hj)]; decide)]; rfl
end Go.Proofs.Ytfdeaepelhbhiaa.M
