/- Plain: a page more; New. By hand. -/
import Derived.Test.YtanfpjlcpcfjoaaD
import Derived.Deep.RegionHeld3
import Derived.Deep.DrawnRows
import Derived.Deep.AppendLies
namespace Go.Proofs.Ytanfpjlcpcfjoaa.M
open Go.RowKit Go.Proofs.YtanfpjlcpcfjoaaW.PrintWords Go.Proofs.YtanfpjlcpcfjoaaW.PrintLast Go.Proofs.YtanfpjlcpcfjoaaW.PrintMore Go.Proofs.Ytanfpjlcpcfjoaa.Rw
attribute [local go_sem] max2_int min2_int max_two min_two
attribute [local go_sem ↓] Go.wp_at_zero Go.wp_at_succ
set_option linter.unusedVariables false
set_option linter.unusedSimpArgs false
theorem info31 : (Try.prog.info? 31).map (fun i => (i.zero, i.size, i.bytes)) = some (some (.slice none 0 0), 1, 24) := by kernel_rfl
/-- one page more at the end -/
theorem IsPd.push {W W2 W3 : World} {lo hi g n : Nat} {L : Ln} {v v' u : Value} {vs : List Value} {r : List Int} (h : IsPd W lo hi g L n v vs) (hb : Below W.heap.size W W2) (hR : Kd.R (Kd.int .u8) 5 W2 hi (fun _ => True) u r) (hr : r.length = n) (hl : L.length + 1 ≤ 200)
    (ho : W3.ownsRow lo 31 1 v' (vs.length + 1) (vs ++ [u])) (hg : W2.grownBy W3 v.ownBlock) (hat : v'.ownBlock = v.ownBlock ∨ ∃ k, v'.ownBlock = some k ∧ W2.heap.size ≤ k) :
    IsPd (W3.setCell ⟨g, 0, none⟩ v') lo W3.heap.size g (L ++ [r]) n v' (vs ++ [u]) := by
  have hsz : (W3.setCell ⟨g, 0, none⟩ v').heap.size = W3.heap.size := by simp [World.setCell]
  have hs2 : W.heap.size ≤ W2.heap.size := hb.size
  have hs3 : W2.heap.size ≤ W3.heap.size := hg.size
  have hhi := h.hs
  have hgh := h.gh
  have hlg := h.lg
  have hlo : lo ≤ hi := by omega
  have hvb : ∀ k, v.ownBlock = some k → k < hi ∧ k ≠ g := h.ob
  have hub : ∀ k, u.ownBlock = some k → hi ≤ k ∧ k < W2.heap.size := fun k hk => ⟨Kd.R_base hR k hk, Kd.R_lt hR k hk⟩
  have hg3 : W3.heap[g]? = W.heap[g]? := by
    rw [hg.block g (by omega) (fun e => (hvb g e.symm).2 rfl)]
    exact hb.block g (by omega)
  have hob : ∀ k, v'.ownBlock = some k → k < W3.heap.size ∧ k ≠ g := fun k hk => by
    refine ⟨?_, ?_⟩
    · rcases ho.2 with ⟨e, _⟩ | ⟨qo, c, cur, e, hq, hh, _⟩
      · rw [e] at hk; simp [Value.ownBlock] at hk
      · rw [e] at hk; have : qo = k := by simpa [Value.ownBlock] using hk
        subst this; exact blk_lt hh
    · rcases hat with e | ⟨k', e, hk'⟩
      · rw [e] at hk; exact (hvb k hk).2
      · rw [e] at hk; cases hk; omega
  -- which blocks stay from W2 on
  have hstay : ∀ k, k < W2.heap.size → some k ≠ v.ownBlock → k ≠ g → (W3.setCell ⟨g, 0, none⟩ v').heap[k]? = W2.heap[k]? := fun k hk hne hkg => by
    rw [Below.heap_setCell W3 ⟨g, 0, none⟩ v' k hkg]
    exact hg.block k hk hne
  have hne' : ∀ k, k < W2.heap.size → some k ≠ v.ownBlock → some k ≠ v'.ownBlock := fun k hk hne => by
    rcases hat with e | ⟨k', e, hk'⟩
    · rw [e]; exact hne
    · rw [e]; intro q; cases q; omega
  refine ⟨hlg, by omega, by rw [hsz]; exact Nat.le_refl _, fun q hq => ?_, by simpa using hl, h.nl, ?_, ?_, hob, by simp [h.len], fun i q hq => ?_, fun i j a a' hij ha ha' k hk hk' => ?_⟩
  · rcases List.mem_append.1 hq with hq | hq
    · exact h.rl q hq
    · rw [List.mem_singleton.1 hq]; exact hr
  · exact blk_put (hg3.trans h.blk) 0 v' rfl
  · rw [List.length_append, List.length_singleton]
    exact own_setCell ho (fun e => (hob g e.symm).2 rfl) v'
  · rcases Nat.lt_or_ge i L.length with hi' | hi'
    · rw [List.getElem?_append_left hi'] at hq
      obtain ⟨a, ha, hRa⟩ := h.rows i q hq
      refine ⟨a, ?_, ?_⟩
      · rw [List.getElem?_append_left (by rw [h.len]; exact hi')]; exact ha
      · have hba : ∀ k, a.ownBlock = some k → okR lo hi g v k := fun k hk => hRa.1 k hk
        have h1 := row_move hRa (W1 := W3.setCell ⟨g, 0, none⟩ v') (fun k hk => by
          have q1 := hba k hk
          rw [hstay k (by omega) q1.2.2.2 q1.2.2.1]
          exact hb.block k (by omega))
        refine Kd.R_of_own (Kd.own_of_R h1) (fun k hk => ?_)
        have q1 := hba k hk
        exact ⟨q1.1, by omega, q1.2.2.1, hne' k (by omega) q1.2.2.2⟩
    · have hil : i = L.length := by
        have := (List.getElem?_eq_some_iff.1 hq).1
        simp at this; omega
      subst hil
      rw [List.getElem?_append_right (Nat.le_refl _)] at hq
      simp at hq
      subst hq
      refine ⟨u, by rw [List.getElem?_append_right (by rw [h.len]; exact Nat.le_refl _), h.len]; simp, ?_⟩
      have h1 := row_move hR (W1 := W3.setCell ⟨g, 0, none⟩ v') (fun k hk => hstay k (hub k hk).2 (fun e => by have := (hvb k e.symm).1; have := (hub k hk).1; omega) (by have := (hub k hk).1; omega))
      refine Kd.R_of_own (own_less (Kd.own_of_R h1) hlo) (fun k hk => ?_)
      have q1 := hub k hk
      exact ⟨by omega, by omega, by omega, hne' k q1.2 (fun e => by have := (hvb k e.symm).1; omega)⟩
  · have key : ∀ (i : Nat) (a : Value), (vs ++ [u])[i]? = some a → (i < vs.length ∧ vs[i]? = some a ∧ ∀ k, a.ownBlock = some k → k < hi) ∨ (i = vs.length ∧ a = u) := fun i a ha => by
      rcases Nat.lt_or_ge i vs.length with h1 | h1
      · rw [List.getElem?_append_left h1] at ha
        refine .inl ⟨h1, ha, fun k hk => ?_⟩
        have hL : L[i]? = some (L.getD i []) := by rw [List.getD_eq_getElem?_getD, List.getElem?_eq_getElem (by rw [← h.len]; exact h1)]; rfl
        obtain ⟨a2, ha2, hRa⟩ := h.rows i _ hL
        rw [ha] at ha2; cases ha2
        exact (hRa.1 k hk).2.1
      · have : i = vs.length := by have := (List.getElem?_eq_some_iff.1 ha).1; simp at this; omega
        subst this
        rw [List.getElem?_append_right (Nat.le_refl _)] at ha
        simp at ha
        exact .inr ⟨rfl, ha.symm⟩
    rcases key i a ha with ⟨i1, i2, i3⟩ | ⟨i1, i2⟩ <;> rcases key j a' ha' with ⟨j1, j2, j3⟩ | ⟨j1, j2⟩
    · exact h.apart i j a a' hij i2 j2 k hk hk'
    · subst j2; have := i3 k hk; have := (hub k hk').1; omega
    · subst i2; have := j3 k hk'; have := (hub k hk).1; omega
    · omega
end Go.Proofs.Ytanfpjlcpcfjoaa.M
