/- The law GeoReckons of the seat, over its printed functions. -/
import Derived.Test.YtpfgciidpjmenaaB
import Derived.Test.YtpfgciidpjmenaaMx3
set_option linter.unusedVariables false
set_option linter.unusedSimpArgs false
namespace Go.Proofs.Ytpfgciidpjmenaa.Pure
open Go.RowKit Go.Proofs.Ytpfgciidpjmenaa.M Go.Proofs.YtpfgciidpjmenaaW.PrintWords Go.Proofs.YtpfgciidpjmenaaW.PrintLast

theorem reckons_j4 (B P W K s : Int) (hs : -9223372036854775808 ≤ s ∧ s ≤ 9223372036854775807) : Ev (fun k => blackboardlaw7_GeoReckons.j4 k s (decide (May B P W K)) (if May B P W K then B * P else 0) false B P W K) true := by
  refine Ev.one ?_
  simp only [blackboardlaw7_GeoReckons.j4, Bool.false_eq_true, if_false, may_is, Option.bind_some, beq_self_eq_true, if_true, refcells_is]
  by_cases h : May B P W K
  · simp only [cells_yes h, size_yes h, refsize_yes h, count_yes h, lpns_yes h s hs, reflpns_yes h s hs, if_pos h, Option.bind_some, if_true, beq_self_eq_true]
    exact Ev.now _
  · simp only [cells_no h, size_no h, refsize_no h, count_no h, lpns_no h s, reflpns_no h s, if_neg h, Option.bind_some, if_true, beq_self_eq_true]
    exact Ev.now _
theorem reckons_j2 (B P W K n s : Int) (hn : -9223372036854775808 ≤ n ∧ n ≤ 9223372036854775807) (hs : -9223372036854775808 ≤ s ∧ s ≤ 9223372036854775807) : Ev (fun k => blackboardlaw7_GeoReckons.j2 k n s (decide (May B P W K)) (if May B P W K then B * P else 0) false B P W K) true := by
  refine Ev.one ?_
  have hj := reckons_j4 B P W K s hs
  simp only [blackboardlaw7_GeoReckons.j2, Bool.false_eq_true, if_false]
  by_cases hin : May B P W K ∧ 0 ≤ n ∧ n < B ∧ 0 ≤ s ∧ s < P
  · obtain ⟨h, h0, h1, h2, h3⟩ := hin
    have h0' : n ≥ 0 := h0
    have h2' : s ≥ 0 := h2
    have hb := prod_bd (a := n) (b := P) (m := 64) (n := 32) h0 (by have := h.2.1; omega) (by omega) h.2.2.2.1
    have := h.2.2.2.1
    simp only [number_in h h0 h1 h2 h3, Option.bind_some, decide_eq_true h, if_true, if_pos h0', if_pos h1, if_pos h2', decide_eq_true h3]
    refine Ev.one ?_
    simp only [blackboardlaw7_GeoReckons.j3, bne_self_eq_false, Bool.false_eq_true, if_false, if_true]
    rw [w64 (x := n * P) (by omega) (by omega), w64 (x := n * P + s) (by omega) (by omega)]
    rw [decide_eq_true h] at hj
    simpa using hj
  · rw [number_out hin]
    simp only [Option.bind_some]
    have fin : Ev (fun k => blackboardlaw7_GeoReckons.j3 k n s (decide (May B P W K)) (if May B P W K then B * P else 0) 0 false false B P W K) true := by
      refine Ev.one ?_
      simp only [blackboardlaw7_GeoReckons.j3, bne_self_eq_false, Bool.false_eq_true, if_false]
      exact hj
    by_cases c0 : May B P W K
    · rw [decide_eq_true c0] at fin ⊢
      simp only [if_true]
      by_cases c1 : n ≥ 0
      · simp only [if_pos c1]
        by_cases c2 : n < B
        · simp only [if_pos c2]
          by_cases c3 : s ≥ 0
          · simp only [if_pos c3]
            rw [decide_eq_false (show ¬ s < P from fun c4 => hin ⟨c0, c1, c2, c3, c4⟩)]
            exact fin
          · simp only [if_neg c3]; exact fin
        · simp only [if_neg c2]; exact fin
      · simp only [if_neg c1]; exact fin
    · rw [decide_eq_false c0] at fin ⊢
      simp only [Bool.false_eq_true, if_false]; exact fin
theorem reckons_j1 (B P W K n s : Int) (hn : -9223372036854775808 ≤ n ∧ n ≤ 9223372036854775807) (hs : -9223372036854775808 ≤ s ∧ s ≤ 9223372036854775807) : Ev (fun k => blackboardlaw7_GeoReckons.j0 k n s (decide (May B P W K)) (if May B P W K then B * P else 0) B P W K) true := by
  refine Ev.one ?_
  have hj := reckons_j2 B P W K n s hn hs
  simp only [blackboardlaw7_GeoReckons.j0]
  have out : Ev (fun k => blackboardlaw7_GeoReckons.j1 k n s (decide (May B P W K)) (if May B P W K then B * P else 0) 0 0 false false B P W K) true := by
    refine Ev.one ?_
    simp only [blackboardlaw7_GeoReckons.j1, bne_self_eq_false, Bool.false_eq_true, if_false, if_true]
    exact hj
  by_cases h : May B P W K
  · by_cases hin : 0 ≤ n ∧ n < B * P
    · have h0 : n ≥ 0 := hin.1
      have hp := h.2.2.1
      have hP : ¬ P = 0 := by omega
      simp only [place_in h hin.1 hin.2, Option.bind_some, if_pos h0, if_pos h, decide_eq_true hin.2, decide_eq_true h]
      refine Ev.one ?_
      have hq : 0 ≤ n / P ∧ n / P ≤ n := ⟨Int.ediv_nonneg h0 (by omega), Int.ediv_le_self _ h0⟩
      have e1 : wrap64 (Int.tdiv n P) = n / P := by rw [Int.tdiv_eq_ediv_of_nonneg h0, w64 (by omega) (by omega)]
      have e2 : Int.tmod n P = n % P := Int.tmod_eq_emod_of_nonneg h0
      simp only [blackboardlaw7_GeoReckons.j1, bne_self_eq_false, Bool.false_eq_true, if_false, if_true, if_neg hP, e1, e2]
      simpa only [if_pos h, decide_eq_true h] using hj
    · rw [place_out h (by omega)]
      simp only [Option.bind_some]
      by_cases c1 : n ≥ 0
      · simp only [if_pos c1]
        rw [decide_eq_false (show ¬ n < (if May B P W K then B * P else 0) from by rw [if_pos h]; omega)]
        exact out
      · simp only [if_neg c1]; exact out
  · rw [place_no h]
    simp only [Option.bind_some]
    by_cases c1 : n ≥ 0
    · simp only [if_pos c1]
      rw [decide_eq_false (show ¬ n < (if May B P W K then B * P else 0) from by rw [if_neg h]; omega)]
      exact out
    · simp only [if_neg c1]; exact out
theorem i64_of {a : Int} (h : (Lit.int .i64 a).wf = true) : -9223372036854775808 ≤ a ∧ a ≤ 9223372036854775807 := bounds_i64 h
theorem GeoReckons (B P W K n s : Int) (hn : (Lit.int .i64 n).wf = true) (hs : (Lit.int .i64 s).wf = true) : ∃ k, blackboardlaw7_GeoReckons.f k B P W K n s = some true := by
  refine Ev.rounds ?_
  unfold blackboardlaw7_GeoReckons.f
  rw [awake7]
  simp only [Option.bind_some, if_true, refmay_is]
  have h1 := reckons_j1 B P W K n s (i64_of hn) (i64_of hs)
  by_cases h : May B P W K
  · simp only [decide_eq_true h, if_true, (bp h).1]
    simpa only [if_pos h, decide_eq_true h] using h1
  · simp only [decide_eq_false h, Bool.false_eq_true, if_false]
    simpa only [if_neg h, decide_eq_false h] using h1
theorem GeoReckons.walk (a0_0 : Int) (a0_1 : Int) (a0_2 : Int) (a0_3 : Int) (a1 : Int) (a2 : Int) (w : World) (wa0_0 : (Lit.int .i64 a0_0).wf = true) (wa0_1 : (Lit.int .i64 a0_1).wf = true) (wa0_2 : (Lit.int .i64 a0_2).wf = true) (wa0_3 : (Lit.int .i64 a0_3).wf = true) (w1 : (Lit.int .i64 a1).wf = true) (w2 : (Lit.int .i64 a2).wf = true) :
    Calls Try.prog 3 #[.agg #[.int .i64 a0_0, .int .i64 a0_1, .int .i64 a0_2, .int .i64 a0_3], .int .i64 a1, .int .i64 a2] w fun e w' => e = .returned (.bool true) ∧ Below w.heap.size w w' := by
  obtain ⟨k, h⟩ := GeoReckons a0_0 a0_1 a0_2 a0_3 a1 a2 w1 w2
  exact blackboardlaw7_GeoReckons.calls k _ _ _ _ _ _ true w h
end Go.Proofs.Ytpfgciidpjmenaa.Pure
