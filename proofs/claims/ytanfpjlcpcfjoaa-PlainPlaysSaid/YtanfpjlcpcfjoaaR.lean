/- The reference's array: rows that are replaced, never written; by hand. -/
import Derived.Test.YtanfpjlcpcfjoaaWalkSame
namespace Go.Proofs.Ytanfpjlcpcfjoaa.M
open Go.RowKit Go.Proofs.YtanfpjlcpcfjoaaW.PrintWords Go.Proofs.YtanfpjlcpcfjoaaW.PrintLast Go.Proofs.YtanfpjlcpcfjoaaW.PrintMore Go.Proofs.Ytanfpjlcpcfjoaa.Rw
set_option linter.unusedVariables false
set_option linter.unusedSimpArgs false
/-- a page of the reference: nil stands for zeros -/
def RowR (W : World) (ok : Nat → Prop) (n : Nat) (u : Value) (r : List Int) : Prop := (u = .slice none 0 0 ∧ r = List.replicate n 0) ∨ (Kd.R (Kd.int .u8) 5 W 0 ok u r)
structure IsRd (W : World) (g q n : Nat) (ok : Nat → Prop) (L : Ln) (A : Option Addr) (c : Nat) (vs : List Value) : Prop where
  hg : W.heap[g]? = some (.cells #[.int .i64 (n : Int), .slice A L.length c] 45 (0, 0))
  hA : 0 < L.length → A = some ⟨q, 0, none⟩ ∧ ∃ cur : Array Value, W.heap[q]? = some (.cells cur 31 (0, 0)) ∧ L.length ≤ cur.size ∧ ∀ i, i < L.length → cur[i]? = vs[i]?
  hgq : g ≠ q
  lc : L.length ≤ c
  og : ¬ ok g
  oq : ¬ ok q
  len : vs.length = L.length
  ll : L.length ≤ 200
  nl : n ≤ 200
  rl : ∀ r ∈ L, r.length = n
  rows : ∀ (i : Nat) (r : List Int), L[i]? = some r → ∃ u, vs[i]? = some u ∧ RowR W ok n u r
def IsR (W : World) (g q n : Nat) (ok : Nat → Prop) (L : Ln) : Prop := ∃ A c vs, IsRd W g q n ok L A c vs
theorem RowR.move {W W1 : World} {ok : Nat → Prop} {n : Nat} {u : Value} {r : List Int} (h : RowR W ok n u r) (hm : ∀ k, ok k → k < W.heap.size → W1.heap[k]? = W.heap[k]?) : RowR W1 ok n u r := by
  rcases h with h | h
  · exact .inl h
  · exact .inr (row_move h (fun k hk => hm k (h.1 k hk) (Kd.R_lt h k hk)))
section
variable {W W1 : World} {g q n : Nat} {ok : Nat → Prop} {L : Ln} {A : Option Addr} {c : Nat} {vs : List Value}
theorem IsRd.move (h : IsRd W g q n ok L A c vs) (hm : ∀ k, (ok k ∨ k = g ∨ k = q) → k < W.heap.size → W1.heap[k]? = W.heap[k]?) : IsRd W1 g q n ok L A c vs :=
  ⟨(hm g (.inr (.inl rfl)) (blk_lt h.hg)).trans h.hg, fun hp => let ⟨e, cur, h1, h2, h3⟩ := h.hA hp; ⟨e, cur, (hm q (.inr (.inr rfl)) (blk_lt h1)).trans h1, h2, h3⟩, h.hgq, h.lc, h.og, h.oq, h.len, h.ll, h.nl, h.rl,
    fun i r hr => let ⟨u, hu, hR⟩ := h.rows i r hr; ⟨u, hu, hR.move (fun k hk hl => hm k (.inl hk) hl)⟩⟩
theorem IsR.move (h : IsR W g q n ok L) (hm : ∀ k, (ok k ∨ k = g ∨ k = q) → k < W.heap.size → W1.heap[k]? = W.heap[k]?) : IsR W1 g q n ok L := let ⟨A, c, vs, h⟩ := h; ⟨A, c, vs, h.move hm⟩
theorem IsR.below (h : IsR W g q n ok L) (hb : Below W.heap.size W W1) : IsR W1 g q n ok L := h.move (fun k _ hl => hb.block k hl)
/-- what is read -/
theorem IsRd.elem (h : IsRd W g q n ok L A c vs) {i : Nat} (il : i < L.length) : A = some ⟨q, 0, none⟩ ∧ ∃ u, W.cell? ⟨q, i, none⟩ = some u ∧ W.frozen? ⟨q, i, none⟩ = false ∧ vs[i]? = some u ∧ RowR W ok n u (L.getD i []) := by
  have hL : L[i]? = some (L.getD i []) := by rw [List.getD_eq_getElem?_getD, List.getElem?_eq_getElem il]; rfl
  obtain ⟨u, hu, hR⟩ := h.rows i _ hL
  obtain ⟨e, cur, h1, h2, h3⟩ := h.hA (by omega)
  exact ⟨e, u, by rw [blk_cell h1 i, h3 i il]; exact hu, blk_frozen h1 i, hu, hR⟩
/-- a page is replaced, in a world that has grown at most -/
theorem IsRd.put (h : IsRd W g q n ok L A c vs) (hb : Below W.heap.size W W1) {i : Nat} (il : i < L.length) {u : Value} {r : List Int} (hr : r.length = n) (hR : RowR W1 ok n u r) (h1 : u.oneCell' = true) :
    IsRd (W1.setCell ⟨q, i, none⟩ u) g q n ok (L.set i r) A c (vs.set i u) := by
  obtain ⟨e, cur, hq, hcs, hcv⟩ := h.hA (by omega)
  have hq1 : W1.heap[q]? = some (.cells cur 31 (0, 0)) := (hb.block q (blk_lt hq)).trans hq
  have hg1 := (hb.block g (blk_lt h.hg)).trans h.hg
  have hfar : ∀ k, k ≠ q → (W1.setCell ⟨q, i, none⟩ u).heap[k]? = W1.heap[k]? := fun k hk => Below.heap_setCell W1 ⟨q, i, none⟩ u k hk
  have hq2 : (W1.setCell ⟨q, i, none⟩ u).heap[q]? = some (.cells (cur.setIfInBounds i u) 31 (0, 0)) := blk_put hq1 i u rfl
  have hrow : ∀ {u' : Value} {r' : List Int}, RowR W1 ok n u' r' → RowR (W1.setCell ⟨q, i, none⟩ u) ok n u' r' := fun hx => hx.move (fun k hk _ => hfar k (fun e => h.oq (e ▸ hk)))
  refine ⟨?_, fun _ => ⟨e, _, hq2, by simpa using hcs, fun j hj => ?_⟩, h.hgq, by simpa using h.lc, h.og, h.oq, by simpa using h.len, by simpa using h.ll, h.nl, fun x hx => ?_, fun j x hx => ?_⟩
  · rw [hfar g h.hgq, List.length_set]; exact hg1
  · have hj' : j < L.length := by simpa using hj
    rw [List.getElem?_set, Array.getElem?_setIfInBounds]
    by_cases e2 : i = j
    · subst e2
      rw [if_pos rfl, if_pos rfl, if_pos (by omega), if_pos (by rw [h.len]; exact hj')]
    · rw [if_neg e2, if_neg e2]; exact hcv j hj'
  · rcases List.mem_or_eq_of_mem_set hx with hx | hx
    · exact h.rl x hx
    · rw [hx]; exact hr
  · by_cases e2 : i = j
    · subst e2
      rw [List.getElem?_set_self il] at hx
      cases hx
      exact ⟨u, by rw [List.getElem?_set_self (by rw [h.len]; exact il)], hrow hR⟩
    · rw [List.getElem?_set_ne e2] at hx
      obtain ⟨u', hu', hR'⟩ := h.rows j x hx
      exact ⟨u', by rw [List.getElem?_set_ne e2]; exact hu', hrow (hR'.move (fun k _ hl => hb.block k hl))⟩
end
end Go.Proofs.Ytanfpjlcpcfjoaa.M
