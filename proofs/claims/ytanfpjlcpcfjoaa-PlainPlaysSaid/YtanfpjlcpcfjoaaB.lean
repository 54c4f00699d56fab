/- An array of host pages as a list of rows of bytes: where it lies, what keeps it. -/
import Derived.Test.YtanfpjlcpcfjoaaProg
import Derived.Test.YtanfpjlcpcfjoaaRw
import Derived.WalkKit
import Derived.WalkSpells
import Derived.BigQuiet
import Derived.Deep.QuietTactic
namespace Go.Proofs.Ytanfpjlcpcfjoaa.M
open Go.RowKit Go.Proofs.YtanfpjlcpcfjoaaW.PrintWords Go.Proofs.YtanfpjlcpcfjoaaW.PrintLast Go.Proofs.YtanfpjlcpcfjoaaW.PrintMore Go.Proofs.Ytanfpjlcpcfjoaa.Rw
set_option linter.unusedVariables false
set_option linter.unusedSimpArgs false
abbrev Ln := List (List Int)
/-- the rows' blocks: the state's own, none of the others -/
abbrev okR (lo hi g : Nat) (v : Value) : Nat → Prop := fun k => lo ≤ k ∧ k < hi ∧ k ≠ g ∧ some k ≠ v.ownBlock
structure IsPd (W : World) (lo hi g : Nat) (L : Ln) (n : Nat) (v : Value) (vs : List Value) : Prop where
  lg : lo ≤ g
  gh : g < hi
  hs : hi ≤ W.heap.size
  rl : ∀ r ∈ L, r.length = n
  ll : L.length ≤ 200
  nl : n ≤ 16777216
  blk : W.heap[g]? = some (.cells #[v, .int .i64 (n : Int)] 51 (0, 0))
  own : W.ownsRow lo 31 1 v vs.length vs
  ob : ∀ k, v.ownBlock = some k → k < hi ∧ k ≠ g
  len : vs.length = L.length
  rows : ∀ (i : Nat) (r : List Int), L[i]? = some r → ∃ u, vs[i]? = some u ∧ Kd.R (Kd.int .u8) 5 W lo (okR lo hi g v) u r
  apart : ∀ (i j : Nat) (u u' : Value), i ≠ j → vs[i]? = some u → vs[j]? = some u' → ∀ k, u.ownBlock = some k → u'.ownBlock ≠ some k
def IsP (W : World) (lo hi g : Nat) (L : Ln) (n : Nat) : Prop := ∃ v vs, IsPd W lo hi g L n v vs
theorem row_move {k : IntKind} {e : TypeId} {W W1 : World} {base : Nat} {ok : Nat → Prop} {u : Value} {r : List Int} (h : Kd.R (Kd.int k) e W base ok u r) (hm : ∀ q, u.ownBlock = some q → W1.heap[q]? = W.heap[q]?) : Kd.R (Kd.int k) e W1 base ok u r :=
  Kd.R_of_own (own_move (Kd.own_of_R h) hm) h.1
section
variable {W W1 : World} {lo hi g n : Nat} {L : Ln} {v : Value} {vs : List Value}
theorem own_ge (h : W.ownsRow lo 31 1 v vs.length vs) : ∀ k, v.ownBlock = some k → lo ≤ k := fun k hk => own_base h k hk
theorem IsPd.move (h : IsPd W lo hi g L n v vs) (hm : ∀ k, lo ≤ k → k < hi → W1.heap[k]? = W.heap[k]?) (hs : hi ≤ W1.heap.size) : IsPd W1 lo hi g L n v vs :=
  ⟨h.lg, h.gh, hs, h.rl, h.ll, h.nl, (hm g h.lg h.gh).trans h.blk, own_move h.own (fun k hk => hm k (own_ge h.own k hk) (h.ob k hk).1), h.ob, h.len,
    fun i r hr => let ⟨u, hu, hR⟩ := h.rows i r hr; ⟨u, hu, Kd.R_step hR (fun k hk _ => hm k hk.1 hk.2.1)⟩, h.apart⟩
theorem IsP.move (h : IsP W lo hi g L n) (hm : ∀ k, lo ≤ k → k < hi → W1.heap[k]? = W.heap[k]?) (hs : hi ≤ W1.heap.size) : IsP W1 lo hi g L n := let ⟨v, vs, h⟩ := h; ⟨v, vs, h.move hm hs⟩
theorem IsP.below (h : IsP W lo hi g L n) (hb : Below W.heap.size W W1) : IsP W1 lo hi g L n := by
  obtain ⟨v, vs, h⟩ := h
  exact ⟨v, vs, h.move (fun k _ hk => hb.block k (Nat.lt_of_lt_of_le hk h.hs)) (Nat.le_trans h.hs hb.size)⟩
/-- one row has been written -/
theorem IsPd.put (h : IsPd W lo hi g L n v vs) {i : Nat} {u : Value} {r : List Int} (hu : vs[i]? = some u) (il : i < L.length) (hr : r.length = n) (hg : W.grownBy W1 u.ownBlock) (hR : Kd.R (Kd.int .u8) 5 W1 lo (okR lo hi g v) u r) : IsPd W1 lo hi g (L.set i r) n v vs := by
  have hub : ∀ k, u.ownBlock = some k → okR lo hi g v k := fun k hk => hR.1 k hk
  refine ⟨h.lg, h.gh, Nat.le_trans h.hs hg.size, fun q hq => ?_, by simpa using h.ll, h.nl, ?_, ?_, h.ob, by simpa using h.len, fun j q hq => ?_, h.apart⟩
  · rcases List.mem_or_eq_of_mem_set hq with hq | hq
    · exact h.rl q hq
    · rw [hq]; exact hr
  · exact (hg.block g (blk_lt h.blk) (fun e => (hub g e.symm).2.2.1 rfl)).trans h.blk
  · exact own_move h.own (fun k hk => by
      have hlt : k < W.heap.size := Nat.lt_of_lt_of_le (h.ob k hk).1 h.hs
      exact hg.block k hlt (fun e => (hub k e.symm).2.2.2 hk.symm))
  · by_cases e : i = j
    · subst e
      rw [List.getElem?_set_self il] at hq
      cases hq
      exact ⟨u, hu, hR⟩
    · rw [List.getElem?_set_ne e] at hq
      obtain ⟨u', hu', hR'⟩ := h.rows j q hq
      exact ⟨u', hu', row_move hR' (fun k hk => hg.block k (Nat.lt_of_lt_of_le (hR'.1 k hk).2.1 h.hs) (fun e2 => h.apart i j u u' e hu hu' k e2.symm hk))⟩
/-- what is read: the head, the row's slot, the row -/
theorem IsPd.elem (h : IsPd W lo hi g L n v vs) {i : Nat} (il : i < L.length) : ∃ qo c u, v = .slice (some ⟨qo, 0, none⟩) L.length c ∧ L.length ≤ c ∧ W.cell? ⟨g, 0, none⟩ = some (.slice (some ⟨qo, 0, none⟩) L.length c) ∧ vs[i]? = some u ∧ W.cell? ⟨qo, i, none⟩ = some u ∧ Kd.R (Kd.int .u8) 5 W lo (okR lo hi g v) u (L.getD i []) := by
  have hL : L[i]? = some (L.getD i []) := by rw [List.getD_eq_getElem?_getD, List.getElem?_eq_getElem il]; rfl
  obtain ⟨u, hu, hR⟩ := h.rows i _ hL
  rcases h.own.2 with ⟨_, h0⟩ | ⟨qo, c, cur, hv, hb, hh, hnc, hcm, hcs, ht⟩
  · have := h.len; omega
  · rw [h.len] at hv hnc
    refine ⟨qo, c, u, hv, hnc, ?_, hu, ?_, hR⟩
    · have := (blk_cell h.blk 0).trans rfl
      rw [hv] at this; exact this
    · rw [blk_cell hh i]
      have h1 : (cur.toList.take (vs.length * 1))[i]? = some u := by rw [ht]; exact hu
      have h2 : i < vs.length := by rw [h.len]; exact il
      rw [List.getElem?_take_of_lt (by omega)] at h1
      simpa using h1
theorem IsPd.head (h : IsPd W lo hi g L n v vs) : ∃ A c, v = .slice A L.length c ∧ W.cell? ⟨g, 0, none⟩ = some (.slice A L.length c) ∧ W.cell? ⟨g, 1, none⟩ = some (.int .i64 (n : Int)) := by
  have h1 : W.cell? ⟨g, 1, none⟩ = some (.int .i64 (n : Int)) := (blk_cell h.blk 1).trans rfl
  have h0 : W.cell? ⟨g, 0, none⟩ = some v := (blk_cell h.blk 0).trans rfl
  rcases h.own.2 with ⟨hv, h2⟩ | ⟨qo, c, cur, hv, hb, hh, hnc, hcm, hcs, ht⟩
  · have hl := h.len
    have hl0 : L.length = 0 := by omega
    rw [hv] at h0
    exact ⟨none, 0, by rw [hv, hl0], by rw [hl0]; exact h0, h1⟩
  · rw [h.len] at hv
    exact ⟨_, c, hv, by rw [hv] at h0; exact h0, h1⟩
end
/-- a method of the state has written: what lies below the state, and what lies above it, is as it was -/
def Out (w w' : World) (lo hi : Nat) : Prop := Below lo w w' ∧ w.heap.size ≤ w'.heap.size ∧ ∀ k, hi ≤ k → k < w.heap.size → w'.heap[k]? = w.heap[k]?
theorem Out.of_below {w w' : World} {lo hi : Nat} (h : Below w.heap.size w w') (hl : lo ≤ w.heap.size) : Out w w' lo hi := ⟨h.mono hl, h.size, fun k _ hk => h.block k hk⟩
theorem Out.of_grown {w w' : World} {lo hi : Nat} {row : Option Nat} (h : w.grownBy w' row) (hl : lo ≤ w.heap.size) (hr : ∀ k, row = some k → lo ≤ k ∧ k < hi) : Out w w' lo hi :=
  ⟨Below.grown (Below.refl _ _) h hl (fun k hk => (hr k hk).1), h.size, fun k hk hlt => h.block k hlt (fun e => by have := (hr k e.symm).2; omega)⟩
theorem IsP.apart {w w' : World} {lo hi lo' hi' g n : Nat} {L : Ln} (h : IsP w lo hi g L n) (ho : Out w w' lo' hi') (hd : hi ≤ lo' ∨ hi' ≤ lo) (hb : lo' ≤ w.heap.size) : IsP w' lo hi g L n := by
  obtain ⟨v, vs, h⟩ := h
  refine ⟨v, vs, h.move (fun k h1 h2 => ?_) (Nat.le_trans h.hs ho.2.1)⟩
  rcases hd with hd | hd
  · exact ho.1.block k (by omega)
  · exact ho.2.2 k (by omega) (Nat.lt_of_lt_of_le h2 h.hs)
end Go.Proofs.Ytanfpjlcpcfjoaa.M
