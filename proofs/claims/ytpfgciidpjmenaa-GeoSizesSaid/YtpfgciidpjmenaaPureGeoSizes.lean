/- The law GeoSizes of the seat, over its printed functions. -/
import Derived.Test.YtpfgciidpjmenaaB
import Derived.Test.YtpfgciidpjmenaaMx5
set_option linter.unusedVariables false
set_option linter.unusedSimpArgs false
namespace Go.Proofs.Ytpfgciidpjmenaa.Pure
open Go.RowKit Go.Proofs.Ytpfgciidpjmenaa.M Go.Proofs.YtpfgciidpjmenaaW.PrintWords Go.Proofs.YtpfgciidpjmenaaW.PrintLast

theorem GeoSizes (B P W K : Int) (hk : (Lit.int .i64 K).wf = true) : ∃ k, blackboardlaw7_GeoSizes.f k B P W K = some true := by
  refine Ev.rounds ?_
  unfold blackboardlaw7_GeoSizes.f
  rw [awake7]
  simp only [Option.bind_some, if_true, refmay_is]
  have off : ∀ L, Ev (fun k => blackboardlaw7_GeoSizes.j0 k true B P W K B P W L) true := fun L => by
    refine Ev.one ?_
    simp only [blackboardlaw7_GeoSizes.j0, if_true]
    exact Ev.now _
  by_cases h : May B P W K
  · simp only [decide_eq_true h, if_true]
    have hk1 := h.2.2.2.2.2.2.1
    have hk2 := h.2.2.2.2.2.2.2.1
    have hw1 := h.2.2.2.2.1
    have hw2 := h.2.2.2.2.2.1
    rw [w64 (x := K + 1) (by omega) (by omega)]
    by_cases h2 : May B P W (K + 1)
    · have e1 : W * (K + 1) = W * K + W := by rw [Int.mul_add, Int.mul_one]
      have e2 : W * (K + 1 + 16) = W * (K + 16) + W := by
        rw [show K + 1 + 16 = (K + 16) + 1 from by omega, Int.mul_add W (K + 16) 1, Int.mul_one]
      have hb := (wkb h).2
      have hb2 := (wkb h2).2
      have hc := prod_bd (a := W) (b := K + 16) (m := 4) (n := 80) (by omega) (by omega) (by omega) (by omega)
      rw [e1] at hb2
      simp only [decide_eq_true h2, Bool.not_true]
      refine Ev.one ?_
      simp only [blackboardlaw7_GeoSizes.j0, Bool.false_eq_true, if_false, size_yes h, size_yes h2, cells_yes h, cells_yes h2, count_yes h, count_yes h2, lpns_yes h 0 (by omega), lpns_yes h2 0 (by omega), Option.bind_some, e1, e2]
      generalize W * K = x at *
      generalize W * (K + 16) = y at *
      have g1 : wrap64 (y + W - y) = W := by rw [w64 (by omega) (by omega)]; omega
      have g2 : wrap64 (8 * wrap64 (10 * (x + W - 8) / 8 - 10 * (x - 8) / 8)) ≥ wrap64 (wrap64 (10 * W) - 8) := by
        rw [w64 (x := 10 * (x + W - 8) / 8 - 10 * (x - 8) / 8) (by omega) (by omega), w64 (x := 10 * W) (by omega) (by omega), w64 (by omega) (by omega), w64 (by omega) (by omega)]
        omega
      have g3 : wrap64 (8 * wrap64 (10 * (x + W - 8) / 8 - 10 * (x - 8) / 8)) ≤ wrap64 (wrap64 (10 * W) + 8) := by
        rw [w64 (x := 10 * (x + W - 8) / 8 - 10 * (x - 8) / 8) (by omega) (by omega), w64 (x := 10 * W) (by omega) (by omega), w64 (by omega) (by omega), w64 (by omega) (by omega)]
        omega
      simp only [if_pos g1, if_pos g2, if_pos g3, if_true, beq_self_eq_true]
      exact Ev.now _
    · simp only [decide_eq_false h2, Bool.not_false]
      exact off _
  · simp only [decide_eq_false h, Bool.false_eq_true, if_false]
    exact off _
theorem GeoSizes.walk (a0_0 : Int) (a0_1 : Int) (a0_2 : Int) (a0_3 : Int) (w : World) (wa0_0 : (Lit.int .i64 a0_0).wf = true) (wa0_1 : (Lit.int .i64 a0_1).wf = true) (wa0_2 : (Lit.int .i64 a0_2).wf = true) (wa0_3 : (Lit.int .i64 a0_3).wf = true) :
    Calls Try.prog 7 #[.agg #[.int .i64 a0_0, .int .i64 a0_1, .int .i64 a0_2, .int .i64 a0_3]] w fun e w' => e = .returned (.bool true) ∧ Below w.heap.size w w' := by
  obtain ⟨k, h⟩ := GeoSizes a0_0 a0_1 a0_2 a0_3 wa0_3
  exact blackboardlaw7_GeoSizes.calls k _ _ _ _ true w h
end Go.Proofs.Ytpfgciidpjmenaa.Pure
