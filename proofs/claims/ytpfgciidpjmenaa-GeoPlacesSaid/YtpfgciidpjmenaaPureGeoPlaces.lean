/- The law GeoPlaces of the seat, over its printed functions. -/
import Derived.Test.YtpfgciidpjmenaaB
import Derived.Test.YtpfgciidpjmenaaMx4
set_option linter.unusedVariables false
set_option linter.unusedSimpArgs false
namespace Go.Proofs.Ytpfgciidpjmenaa.Pure
open Go.RowKit Go.Proofs.Ytpfgciidpjmenaa.M Go.Proofs.YtpfgciidpjmenaaW.PrintWords Go.Proofs.YtpfgciidpjmenaaW.PrintLast

theorem div_of {b p P : Int} (hP : 0 < P) (h0 : 0 ≤ p) (h1 : p < P) : (b * P + p) / P = b ∧ (b * P + p) % P = p := by
  refine ⟨?_, ?_⟩
  · rw [Int.add_comm, Int.add_mul_ediv_right _ _ (by omega), Int.ediv_eq_zero_of_lt h0 h1, Int.zero_add]
  · rw [Int.add_comm, Int.add_mul_emod_self_right, Int.emod_eq_of_lt h0 h1]
theorem places_l {B P W K : Int} (h : May B P W K) : ∀ (d b : Nat), (b : Int) + d = B →
    Ev (fun k => blackboardlaw7_GeoPlaces.l0 k ((b : Int) * P) (b : Int) B P W K) true := by
  have hp := h.2.2.1
  have hp2 := h.2.2.2.1
  have hB := h.2.1
  intro d
  induction d with
  | zero =>
    intro b hb
    have e : (b : Int) = B := by omega
    refine Ev.one ?_
    rw [e]
    have h1 : ¬ B < B := by omega
    simp only [blackboardlaw7_GeoPlaces.l0, if_neg h1, count_yes h, Option.bind_some, beq_self_eq_true]
    exact Ev.now _
  | succ d ih =>
    intro b hb
    have ih' := ih (b + 1) (by omega)
    have hbp := prod_bd (a := (b : Int)) (b := P) (m := 64) (n := 32) (by omega) (by omega) (by omega) hp2
    have h1 : (b : Int) < B := by omega
    have inner : ∀ (q p : Nat), (p : Int) + q = P → Ev (fun k => blackboardlaw7_GeoPlaces.l1 k ((b : Int) * P + p) (b : Int) (p : Int) B P W K) true := by
      intro q
      induction q with
      | zero =>
        intro p hpq
        have e : (p : Int) = P := by omega
        refine Ev.one ?_
        rw [e]
        have h2 : ¬ P < P := by omega
        have e2 : (b : Int) * P + P = ((b + 1 : Nat) : Int) * P := by
          rw [show ((b + 1 : Nat) : Int) = (b : Int) + 1 from by omega, Int.add_mul, Int.one_mul]
        simp only [blackboardlaw7_GeoPlaces.l1, if_neg h2]
        rw [w64 (x := (b : Int) + 1) (by omega) (by omega), e2]
        exact ih'
      | succ q ihq =>
        intro p hpq
        have ihq' := ihq (p + 1) (by omega)
        have h2 : (p : Int) < P := by omega
        have hd := div_of (b := (b : Int)) (p := (p : Int)) (P := P) (by omega) (by omega) h2
        have hlt : (b : Int) * P + p < B * P := by
          have : ((b : Int) + 1) * P ≤ B * P := Int.mul_le_mul_of_nonneg_right (by omega) (by omega)
          rw [Int.add_mul, Int.one_mul] at this
          omega
        refine Ev.one ?_
        simp only [blackboardlaw7_GeoPlaces.l1, if_pos h2, number_in h (show 0 ≤ (b : Int) by omega) h1 (show 0 ≤ (p : Int) by omega) h2, Option.bind_some, place_in h (show 0 ≤ (b : Int) * P + p by omega) hlt, hd.1, hd.2, if_true]
        rw [w64 (x := (b : Int) * P + p + 1) (by omega) (by omega), w64 (x := (p : Int) + 1) (by omega) (by omega)]
        rw [show (b : Int) * P + p + 1 = (b : Int) * P + ((p + 1 : Nat) : Int) from by omega, show (p : Int) + 1 = ((p + 1 : Nat) : Int) from by omega]
        exact ihq'
    refine Ev.one ?_
    have := inner P.toNat 0 (by omega)
    simp only [blackboardlaw7_GeoPlaces.l0, if_pos h1]
    simpa using this
theorem GeoPlaces (B P W K : Int) : ∃ k, blackboardlaw7_GeoPlaces.f k B P W K = some true := by
  refine Ev.rounds ?_
  unfold blackboardlaw7_GeoPlaces.f
  rw [awake7]
  simp only [Option.bind_some, if_true, refmay_is]
  by_cases h : May B P W K
  · simp only [decide_eq_true h, if_true]
    have h1 := h.1
    have := places_l h B.toNat 0 (by omega)
    simpa using this
  · simp only [decide_eq_false h, Bool.false_eq_true, if_false, count_no h, Option.bind_some, beq_self_eq_true]
    exact Ev.now _
theorem GeoPlaces.walk (a0_0 : Int) (a0_1 : Int) (a0_2 : Int) (a0_3 : Int) (w : World) (wa0_0 : (Lit.int .i64 a0_0).wf = true) (wa0_1 : (Lit.int .i64 a0_1).wf = true) (wa0_2 : (Lit.int .i64 a0_2).wf = true) (wa0_3 : (Lit.int .i64 a0_3).wf = true) :
    Calls Try.prog 5 #[.agg #[.int .i64 a0_0, .int .i64 a0_1, .int .i64 a0_2, .int .i64 a0_3]] w fun e w' => e = .returned (.bool true) ∧ Below w.heap.size w w' := by
  obtain ⟨k, h⟩ := GeoPlaces a0_0 a0_1 a0_2 a0_3
  exact blackboardlaw7_GeoPlaces.calls k _ _ _ _ true w h
end Go.Proofs.Ytpfgciidpjmenaa.Pure
