/- One deed on both; by hand. -/
import Derived.Test.YtanfpjlcpcfjoaaU
namespace Go.Proofs.Ytanfpjlcpcfjoaa.M
open Go.RowKit Go.Proofs.YtanfpjlcpcfjoaaW.PrintWords Go.Proofs.YtanfpjlcpcfjoaaW.PrintLast Go.Proofs.YtanfpjlcpcfjoaaW.PrintMore Go.Proofs.Ytanfpjlcpcfjoaa.Rw
set_option linter.unusedVariables false
set_option linter.unusedSimpArgs false
/-- what a deed leaves -/
def Out2 (w w' : World) (lo hi q : Nat) : Prop := Below (min lo q) w w' ∧ w.heap.size ≤ w'.heap.size ∧ ∀ k, k < w.heap.size → ¬ (lo ≤ k ∧ k < hi) → k ≠ q → w'.heap[k]? = w.heap[k]?
theorem Out2.trans {w w1 w2 : World} {lo hi q : Nat} (h : Out2 w w1 lo hi q) (k : Out2 w1 w2 lo hi q) : Out2 w w2 lo hi q :=
  ⟨Below.trans h.1 k.1, Nat.le_trans h.2.1 k.2.1, fun j hj h1 h2 => (k.2.2 j (Nat.lt_of_lt_of_le hj h.2.1) h1 h2).trans (h.2.2 j hj h1 h2)⟩
theorem Out2.of_out {w w1 : World} {lo hi q : Nat} (h : Out w w1 lo hi) : Out2 w w1 lo hi q := by
  refine ⟨h.1.mono (Nat.min_le_left _ _), h.2.1, fun j hj h1 _ => ?_⟩
  by_cases h2 : j < lo
  · exact h.1.block j h2
  · exact h.2.2 j (by omega) hj
theorem Out2.of_outR {w w1 : World} {lo hi q : Nat} (h : OutR w w1 q) : Out2 w w1 lo hi q :=
  ⟨h.1.mono (Nat.min_le_right _ _), h.2.1, fun j hj _ h2 => h.2.2 j h2 hj⟩
theorem Out2.of_below {w w1 : World} {lo hi q : Nat} (h : Below w.heap.size w w1) (hl : lo ≤ w.heap.size) : Out2 w w1 lo hi q :=
  ⟨h.mono (Nat.le_trans (Nat.min_le_left _ _) hl), h.size, fun j hj _ _ => h.block j hj⟩
/-- both carry the same pages -/
structure Pr (W : World) (lo hi g q n : Nat) (ok : Nat → Prop) (L : Ln) : Prop where
  hp : IsP W lo hi lo L n
  hm : IsR W g q n ok L
  hap : ∀ k, lo ≤ k → k < hi → ¬ ok k ∧ k ≠ g ∧ k ≠ q
  hfr : ∀ k, W.heap.size ≤ k → ok k
section
variable {W W1 : World} {lo hi g q n : Nat} {ok : Nat → Prop} {L L' : Ln}
theorem Pr.below (h : Pr W lo hi g q n ok L) (hb : Below W.heap.size W W1) : Pr W1 lo hi g q n ok L :=
  ⟨h.hp.below hb, h.hm.below hb, h.hap, fun k hk => h.hfr k (Nat.le_trans hb.size hk)⟩
theorem IsR.lts (h : IsR W g q n ok L) : g < W.heap.size := let ⟨_, _, _, h⟩ := h; blk_lt h.hg
/-- the array has written: the reference is as it was -/
theorem Pr.keepR (h : Pr W lo hi g q n ok L) (ho : Out W W1 lo hi) : IsR W1 g q n ok L ∧ ∀ k, W1.heap.size ≤ k → ok k :=
  ⟨h.hm.move (fun k hk hl => by
    by_cases h1 : k < lo
    · exact ho.1.block k h1
    · refine ho.2.2 k (Nat.le_of_not_lt fun h2 => ?_) hl
      obtain ⟨a, b, c⟩ := h.hap k (by omega) h2
      rcases hk with hk | hk | hk
      · exact a hk
      · exact b hk
      · exact c hk), fun k hk => h.hfr k (Nat.le_trans ho.2.1 hk)⟩
theorem IsP.keepP (h : IsP W lo hi lo L n) (hq : ∀ k, lo ≤ k → k < hi → k ≠ q) (ho : OutR W W1 q) : IsP W1 lo hi lo L n :=
  h.move (fun k h1 h2 => ho.2.2 k (hq k h1 h2) (Nat.lt_of_lt_of_le h2 h.top)) (Nat.le_trans h.top ho.2.1)
/-- both have written -/
theorem Pr.both {W2 : World} (h : Pr W lo hi g q n ok L) (hP : IsP W1 lo hi lo L' n) (ho : Out W W1 lo hi) (hM : IsR W2 g q n ok L') (hoR : OutR W1 W2 q) : Pr W2 lo hi g q n ok L' ∧ Out2 W W2 lo hi q :=
  ⟨⟨hP.keepP (fun k h1 h2 => (h.hap k h1 h2).2.2) hoR, hM, h.hap, fun k hk => h.hfr k (Nat.le_trans (Nat.le_trans ho.2.1 hoR.2.1) hk)⟩, (Out2.of_out ho).trans (Out2.of_outR hoR)⟩
end
end Go.Proofs.Ytanfpjlcpcfjoaa.M
