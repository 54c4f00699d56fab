/- A page's points: where they lie; New, State, Sense; by hand. -/
import Derived.Test.YtmddafefdleimaaD
import Derived.Test.YtmddafefdleimaaWN
import Derived.Lib.SliceRun
import Derived.Deep.RegionHeld3
namespace Go.Proofs.Ytmddafefdleimaa.M
open Go.RowKit Go.Proofs.YtmddafefdleimaaW.PrintWords Go.Proofs.YtmddafefdleimaaW.PrintLast Go.Proofs.YtmddafefdleimaaW.PrintMore Go.Proofs.Ytmddafefdleimaa.Rw Go.Proofs.Ytmddafefdleimaa.Fl
set_option linter.unusedVariables false
set_option linter.unusedSimpArgs false
abbrev Pts := List (Int × Int)
noncomputable def ptV (p : Int × Int) : Value := .complex .f64 (fd p.1 0) (fd p.2 0)
theorem ptV_zero : ptV (0, 0) = .complex .f64 0 0 := by unfold ptV; rw [fd_zero]
/-- a block whose first values are these points -/
def Vec (W : World) (q : Nat) (P : Pts) : Prop := ∃ cur : Array Value, W.heap[q]? = some (.cells cur 47 (0, 0)) ∧ P.length ≤ cur.size ∧ ∀ i, i < P.length → cur[i]? = some (ptV (P.getD i (0, 0)))
section
variable {W W1 : World} {q : Nat} {P : Pts}
theorem Vec.lt (h : Vec W q P) : q < W.heap.size := let ⟨_, h1, _⟩ := h; blk_lt h1
theorem Vec.move (h : Vec W q P) (hm : W1.heap[q]? = W.heap[q]?) : Vec W1 q P := let ⟨c, h1, h2, h3⟩ := h; ⟨c, hm.trans h1, h2, h3⟩
theorem Vec.below (h : Vec W q P) (hb : Below W.heap.size W W1) : Vec W1 q P := h.move (hb.block q h.lt)
theorem Vec.cell (h : Vec W q P) {i : Nat} (hi : i < P.length) : W.cell? ⟨q, i, none⟩ = some (ptV (P.getD i (0, 0))) := by
  obtain ⟨c, h1, h2, h3⟩ := h
  rw [blk_cell h1 i]; exact h3 i hi
theorem Vec.frozen (h : Vec W q P) (i : Nat) : W.frozen? ⟨q, i, none⟩ = false := let ⟨_, h1, _⟩ := h; blk_frozen h1 i
theorem Vec.set (h : Vec W q P) (i : Nat) (p : Int × Int) : Vec (W.setCell ⟨q, i, none⟩ (ptV p)) q (P.set i p) := by
  obtain ⟨c, h1, h2, h3⟩ := h
  refine ⟨c.setIfInBounds i (ptV p), blk_put h1 i (ptV p) rfl, by simpa using h2, fun j hj => ?_⟩
  have hj' : j < P.length := by simpa using hj
  rw [Array.getElem?_setIfInBounds, List.getD_eq_getElem?_getD, List.getElem?_set]
  by_cases e : i = j
  · subst e; rw [if_pos rfl, if_pos (by omega), if_pos rfl, if_pos hj']; rfl
  · rw [if_neg e, if_neg e, ← List.getD_eq_getElem?_getD]; exact h3 j hj'
theorem Vec.far (h : Vec W q P) {p : Addr} (hp : q ≠ p.block) (u : Value) : Vec (W.setCell p u) q P := h.move (Below.heap_setCell W p u q hp)
end
theorem row_move {k : IntKind} {e : TypeId} {W W1 : World} {base : Nat} {ok : Nat → Prop} {u : Value} {r : List Int} (h : Kd.R (Kd.int k) e W base ok u r) (hm : ∀ q, u.ownBlock = some q → W1.heap[q]? = W.heap[q]?) : Kd.R (Kd.int k) e W1 base ok u r :=
  Kd.R_of_own (own_move (Kd.own_of_R h) hm) h.1
/-- a page: its points, its symbols, what it is -/
structure IsC (W : World) (base g b : Nat) (P : Pts) (S : List Int) (st : Int) (sv : Value) : Prop where
  hg : W.heap[g]? = some (.cells #[.slice (some ⟨b, 0, none⟩) P.length P.length, sv, .int .i64 st] 90 (0, 0))
  hb : Vec W b P
  bg : base ≤ g
  bb : base ≤ b
  gb : g ≠ b
  le : P.length ≤ 1000
  sv : (st ≠ 1 ∧ sv = .slice none 0 0) ∨ (st = 1 ∧ S.length = P.length ∧ Kd.R (Kd.int .u16) 40 W base (fun k => k ≠ g ∧ k ≠ b) sv S)
section
variable {W W1 : World} {base g b : Nat} {P : Pts} {S : List Int} {st : Int} {sv : Value}
theorem IsC.move (h : IsC W base g b P S st sv) (hm : ∀ k, base ≤ k → k < W.heap.size → W1.heap[k]? = W.heap[k]?) : IsC W1 base g b P S st sv := by
  refine ⟨(hm g h.bg (blk_lt h.hg)).trans h.hg, h.hb.move (hm b h.bb h.hb.lt), h.bg, h.bb, h.gb, h.le, ?_⟩
  rcases h.sv with h1 | ⟨h1, h2, h3⟩
  · exact .inl h1
  · exact .inr ⟨h1, h2, row_move h3 fun k hk => hm k (Kd.R_base h3 k hk) (Kd.R_lt h3 k hk)⟩
theorem IsC.below (h : IsC W base g b P S st sv) (hb : Below W.heap.size W W1) : IsC W1 base g b P S st sv := h.move fun k _ hl => hb.block k hl
theorem IsC.cells (h : IsC W base g b P S st sv) : W.cell? ⟨g, 0, none⟩ = some (.slice (some ⟨b, 0, none⟩) P.length P.length) ∧ W.cell? ⟨g, 1, none⟩ = some sv ∧ W.cell? ⟨g, 2, none⟩ = some (.int .i64 st) :=
  ⟨by rw [blk_cell h.hg 0]; rfl, by rw [blk_cell h.hg 1]; rfl, by rw [blk_cell h.hg 2]; rfl⟩
end
theorem info34 : (Try.prog.info? 47).map (fun i => (i.zero, i.size, i.bytes)) = some (some (.complex .f64 0 0), 1, 16) := by kernel_rfl
theorem new_C (W : World) (n : Nat) (hn : n ≤ 1000) : IsC ((W.alloc (.cells (Array.replicate n (.complex .f64 0 0)) 47 (0, 0))).alloc (.cells #[.slice (some ⟨W.heap.size, 0, none⟩) n n, .slice none 0 0, .int .i64 0] 90 (0, 0))) W.heap.size (W.heap.size + 1) W.heap.size (List.replicate n (0, 0)) [] 0 (.slice none 0 0) := by
  have hb := blk_alloc (blk_new W (.cells (Array.replicate n (.complex .f64 0 0)) 47 (0, 0))) (.cells #[.slice (some ⟨W.heap.size, 0, none⟩) n n, .slice none 0 0, .int .i64 0] 90 (0, 0))
  have hg := blk_new (W.alloc (.cells (Array.replicate n (.complex .f64 0 0)) 47 (0, 0))) (.cells #[.slice (some ⟨W.heap.size, 0, none⟩) n n, .slice none 0 0, .int .i64 0] 90 (0, 0))
  rw [World.size_alloc] at hg
  refine ⟨by rw [List.length_replicate]; exact hg, ⟨_, hb, by simp, fun i hi => ?_⟩, by omega, Nat.le_refl _, by omega, by simpa using hn, .inl ⟨by decide, rfl⟩⟩
  have hi' : i < n := by simpa using hi
  rw [List.getD_eq_getElem?_getD]
  simp [hi', ptV_zero]
section
attribute [local go_sem] max2_int min2_int max_two min_two
set_option maxHeartbeats 1600000 in
theorem newC (a : Int) (n : Nat) (ha : (if a < 0 then 0 else a) = (n : Int)) (hn : n ≤ 1000) (w : World) : Calls Try.prog 27 #[.int .i64 a] w fun e w' =>
    e = .returned (.pointer (some ⟨w.heap.size + 1, 0, none⟩)) ∧ Aside0 (IsC w' w.heap.size (w.heap.size + 1) w.heap.size (List.replicate n (0, 0)) [] 0 (.slice none 0 0)) ∧ Aside0 (Below w.heap.size w w') := by
  have hmk := fun (W : World) => mk_row (P := Try.prog) (t := 44) (e := 47) (z := .complex .f64 0 0) (by kernel_rfl) info34 rfl n (by omega) (by omega) W
  have HE := Aside0.mk (new_C w n hn)
  have HB := Aside0.mk (below_alloc (below_alloc (Below.refl _ w) (.cells (Array.replicate n (.complex .f64 0 0)) 47 (0, 0))) (.cells #[.slice (some ⟨w.heap.size, 0, none⟩) n n, .slice none 0 0, .int .i64 0] 90 (0, 0)))
  go_enter Try.func27, Try.ntmps27
  go_wp2
  all_goals (try (exfalso; omega))
  all_goals (
    go_ret
    exact ⟨rfl, HE, HB⟩)
end
section
variable {w : World} {base g b : Nat} {P : Pts} {S : List Int} {st : Int} {sv : Value}
theorem stateC (h : IsC w base g b P S st sv) : Calls Try.prog 59 #[.pointer (some ⟨g, 0, none⟩)] w fun e w' => e = .returned (.int .i64 st) ∧ w' = w := by
  obtain ⟨c0, c1, c2⟩ := h.cells
  clear h
  go_enter Try.func59, Try.ntmps59
  go_wp2
  go_ret
  exact ⟨rfl, rfl⟩
/-- a row of points' values of a call's own is a vector -/
theorem vec_of_raw {W : World} {v : Value} {base : Nat} {ok : Nat → Prop} (h : (Kd.raw 1).R 47 W base ok v (P.map fun p => [ptV p])) (hp : 0 < P.length) : ∃ q c, v = .slice (some ⟨q, 0, none⟩) P.length c ∧ P.length ≤ c ∧ base ≤ q ∧ Vec W q P := by
  obtain ⟨_, inner, hown, hr⟩ := h
  rw [List.length_map] at hown
  rcases hown with ⟨hil, ⟨e, hz⟩ | ⟨k, cap, cur, e, hk, hcur, hcap, _, hsz, htake⟩⟩
  · omega
  · refine ⟨k, cap, e, hcap, hk, cur, hcur, by rw [hsz]; show P.length ≤ cap * 1; omega, fun i hi => ?_⟩
    have hvi : P[i]? = some (P[i]'hi) := List.getElem?_eq_getElem _
    have h5 := hr.2 i [ptV (P[i]'hi)] (by rw [List.getElem?_map, hvi]; rfl)
    have h6 := h5.1
    rw [← htake] at h6
    have h7 : ((cur.toList.take (P.length * 1)).drop (i * 1)).take 1 = [ptV (P[i]'hi)] := h6
    rw [List.getD_eq_getElem?_getD, hvi, ← Array.getElem?_toList]
    have h8 := congrArg (fun l : List Value => l[0]?) h7
    simp only [List.getElem?_take, List.getElem?_drop] at h8
    simpa [hi] using h8
theorem Vec.raw (h : Vec w b P) (hp : 0 < P.length) (hl : P.length ≤ 1000) : ReadsRow (fun (y cs : List Value) => cs = y ∧ cs.length = 1 ∧ ∀ u ∈ cs, u.oneCell' = true) 1 w (some ⟨b, 0, none⟩) P.length (P.map fun p => [ptV p]) := by
  refine ⟨by simp, by omega, fun _ => ⟨_, rfl, fun j p hj => ?_⟩⟩
  obtain ⟨u, hu, rfl⟩ := Option.map_eq_some_iff.1 (by rw [List.getElem?_map] at hj; exact hj)
  have hjl : j < P.length := (List.getElem?_eq_some_iff.1 hu).1
  refine ⟨[ptV u], rfl, ⟨rfl, rfl, fun y hy => by rw [List.mem_singleton.1 hy]; rfl⟩, fun i y hy => ?_⟩
  have hi0 : i = 0 := by have := (List.getElem?_eq_some_iff.1 hy).1; simpa using this
  subst hi0
  have hy2 : ptV u = y := by simpa using hy
  subst hy2
  rw [Nat.mul_one, Nat.add_zero]
  show w.cell? (Addr.add ⟨b, 0, none⟩ j) = _
  have e4 : (Addr.add ⟨b, 0, none⟩ j) = ⟨b, j, none⟩ := by simp [Addr.add]; intro h9; omega
  rw [e4, h.cell hjl, List.getD_eq_getElem?_getD, hu]; rfl
theorem empty_raw {W : World} {q base : Nat} (h : W.heap[q]? = some (.cells #[] 47 (0, 0))) (hb : base ≤ q) : (Kd.raw 1).R 47 W base (fun _ => True) (.slice (some ⟨q, 0, none⟩) 0 0) [] :=
  ⟨fun _ _ => trivial, [], ⟨rfl, .inr ⟨q, 0, #[], rfl, hb, h, Nat.le_refl _, Nat.zero_le _, rfl, rfl⟩⟩, ⟨rfl, fun i p hi => by simp at hi⟩⟩
set_option maxHeartbeats 1600000 in
theorem cloneP (hV : Vec w b P) (hp : 0 < P.length) (hl : P.length ≤ 1000) : Calls Try.prog 56 #[.slice (some ⟨b, 0, none⟩) P.length P.length] w fun e w' =>
    ∃ q c, e = .returned (.slice (some ⟨q, 0, none⟩) P.length c) ∧ P.length ≤ c ∧ w.heap.size ≤ q ∧ Aside0 (Vec w' q P) ∧ Aside0 (Below w.heap.size w w') := by
  have hnil := fun (w : World) => Lib.run_eql_slice_nil (P := Try.prog) w 44 47 (some ⟨b, 0, none⟩) P.length P.length 0 0 Try.underlying44
  have HE := Aside0.mk (empty_raw (blk_new w (.cells #[] 47 (0, 0))) (Nat.le_refl _))
  have HR := Aside0.mk ((hV.below (below_alloc (Below.refl _ w) (.cells #[] 47 (0, 0)))).raw hp hl)
  have HBa := Aside0.mk (below_alloc (Below.refl w.heap.size w) (.cells #[] 47 (0, 0)))
  obtain ⟨n, hn⟩ : ∃ n, P.length = n := ⟨_, rfl⟩
  have HN := Aside0.mk hn
  rw [hn] at hnil HR hl hp ⊢
  clear hn hV
  go_enter Try.func56, Try.ntmps56
  go_wp2_with ((with_reducible refine gate_builtin (b := .append) (xs := #[.tmp 5, .tmp 6]) rfl ?_); at_builtin; refine Kd.R_append_rows (Kd.raw 1) (w0 := w) w.heap.size rfl (.tmp 5) (.tmp 6) 44 47 (.complex .f64 0 0) 16 rfl Try.underlying44 info34 rfl (by decide) (by omega) (.slice (some ⟨w.heap.size, 0, none⟩) 0 0) [] (P.map fun p => [ptV p]) (some ⟨b, 0, none⟩) n n (fun _ => True) (fun _ => False) rfl rfl HE.out HR.out (fun _ _ hh => hh) (fun _ hk => hk.elim) (fun _ _ => trivial) HBa.out (by simp) (by simp; omega) ?_; intro v1 w1 hR hB _ _; rw [List.nil_append] at hR; obtain ⟨q, c, e, hc, hq, hV1⟩ := vec_of_raw hR (by rw [HN.out]; exact hp); subst e; rw [HN.out] at hc ⊢; have HV1 := Aside0.mk hV1; have HB1 := Aside0.mk hB; clear hR hB hV1)
  go_ret
  exact ⟨_, _, rfl, hc, hq, HV1, HB1⟩
theorem senseC (h : IsC w base g b P S st sv) (hp : 0 < P.length) : Calls Try.prog 42 #[.pointer (some ⟨g, 0, none⟩)] w fun e w' =>
    ∃ q c, e = .returned (.slice (some ⟨q, 0, none⟩) P.length c) ∧ P.length ≤ c ∧ w.heap.size ≤ q ∧ Aside0 (Vec w' q P) ∧ Aside0 (Below w.heap.size w w') := by
  obtain ⟨c0, c1, c2⟩ := h.cells
  have HC := Aside0.mk (cloneP h.hb hp h.le)
  clear h
  go_enter Try.func42, Try.ntmps42
  go_wp2_with (first | (go_at_call 56; (refine HC.out.mono ?_); rintro e w2 ⟨q, c, rfl, hc, hq, HV, HB⟩))
  go_ret
  exact ⟨q, c, rfl, hc, hq, HV, HB⟩
end
end Go.Proofs.Ytmddafefdleimaa.M
