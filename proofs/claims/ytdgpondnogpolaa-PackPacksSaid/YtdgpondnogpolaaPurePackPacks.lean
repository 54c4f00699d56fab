/- The law PackPacks of the seat, over its printed functions. -/
import Derived.Test.YtdgpondnogpolaaD
import Derived.Test.YtdgpondnogpolaaMx7
set_option linter.unusedVariables false
set_option linter.unusedSimpArgs false
namespace Go.Proofs.Ytdgpondnogpolaa.Pure
open Go.RowKit Go.Proofs.Ytdgpondnogpolaa.M Go.Proofs.YtdgpondnogpolaaW.PrintWords Go.Proofs.YtdgpondnogpolaaW.PrintLast Go.Proofs.YtdgpondnogpolaaW.PrintMore

theorem packs_j0 (b s : List Int) (n : Int) (hb : Bytes8 b) (hs : ∀ x ∈ s, 0 ≤ x) (h1 : b.length ≤ 2000) (h2 : s.length ≤ 2000) : Ev (fun k => blackboardlaw5_PackPacks.j0 k b s n false) true := by
  obtain ⟨r, hr1, hr2⟩ := unpack_any s hs (by omega) n
  obtain ⟨u, hu1, hu2⟩ := bytes_any n
  obtain ⟨v, hv1, hv2⟩ := symbols_any n
  have hsame := same_is (packOf b) (packOf b) (by rw [packOf_length]; omega)
  rw [decide_eq_true rfl] at hsame
  refine Ev.one ?_
  simp only [blackboardlaw5_PackPacks.j0, Bool.false_eq_true, if_false]
  refine Ev.bind (pack_is b hb (by omega)) ?_
  refine Ev.bind (unpack_pack b hb (by omega)) ?_
  refine Ev.bind hr1 ?_
  refine Ev.bind hr2 ?_
  refine Ev.bind (refpack_is b hb (by omega)) ?_
  refine Ev.bind hsame ?_
  simp only [if_true, hv1, hv2, hu1, hu2, Option.bind_some, beq_self_eq_true]
  exact Ev.now _
theorem PackPacks : blackboardlaw5_PackPacks.Pure := by
  intro b s n _ _ hb _ _ hs _
  have hb' : Bytes8 b := fun x hx => by have := bounds_u8 (hb x hx); omega
  have hs' : ∀ x ∈ s, 0 ≤ x := fun x hx => (bounds_u16 (hs x hx)).1
  refine Ev.rounds ?_
  unfold blackboardlaw5_PackPacks.f
  refine Ev.bind awake5 ?_
  have far : Ev (fun k => blackboardlaw5_PackPacks.j0 k b s n true) true := by
    refine Ev.one ?_
    simp only [blackboardlaw5_PackPacks.j0, if_true]; exact Ev.now _
  simp only [if_true]
  by_cases c1 : (b.length : Int) > 2000
  · simp only [if_pos c1]; exact far
  · simp only [if_neg c1]
    by_cases c2 : (s.length : Int) > 2000
    · rw [decide_eq_true c2]; exact far
    · rw [decide_eq_false c2]
      exact packs_j0 b s n hb' hs' (by omega) (by omega)
end Go.Proofs.Ytdgpondnogpolaa.Pure
