/- The law FrontShuts of the seat, over its printed functions. -/
import Derived.Test.YtobdkncdjofihaaB
import Derived.Test.YtobdkncdjofihaaMx7
set_option linter.unusedVariables false
set_option linter.unusedSimpArgs false
namespace Go.Proofs.Ytobdkncdjofihaa.Pure
open Go.RowKit Go.Proofs.Ytobdkncdjofihaa.M Go.Proofs.YtobdkncdjofihaaW.PrintWords Go.Proofs.YtobdkncdjofihaaW.PrintLast

theorem shuts_end (a b c d x p : Int) (l : List Bool) : Ev (fun k => blackboardlaw17_FrontShuts.l0 k l x b a b c d a b c d (-1) p) true := by
  refine Ev.one ?_
  have c1 : ¬ (b < b) := by omega
  simp only [blackboardlaw17_FrontShuts.l0, if_neg c1, left_shut, Option.bind_some]
  exact Ev.now _
theorem shuts_loop (a b c d x : Int) (l : List Bool) (hg : gm a b c d = true) (hx : 0 ≤ x) (hx2 : x < a) : ∀ (n i : Nat), (i : Int) + (n : Int) = b → 1 ≤ n →
    Ev (fun k => blackboardlaw17_FrontShuts.l0 k l x (i : Int) a b c d a b c d x (i : Int)) true := by
  have hb := gm_true hg
  intro n
  induction n with
  | zero => intro i hi h; omega
  | succ n ih =>
    intro i hi _
    have c1 : (i : Int) < b := by omega
    have c0 : 0 ≤ (i : Int) := by omega
    have hs : ¬ x = -1 := by omega
    have e1 := wn1 (i := i) (by omega)
    have hin : inB a b x (i : Int) = true := by
      unfold inB
      rw [decide_eq_true hx, decide_eq_true hx2, decide_eq_true c0, decide_eq_true c1]; rfl
    have j3 : Ev (fun k => blackboardlaw17_FrontShuts.j3 k l x (i : Int) false a b c d a b c d x (i : Int)) true := by
      refine Ev.one ?_
      by_cases c2 : ((i + 1 : Nat) : Int) = b
      · have hc2 : wrap64 ((i : Int) + 1) = b := by rw [e1]; exact c2
        simp only [blackboardlaw17_FrontShuts.j3, Bool.false_eq_true, if_false, take_last a b c d x (i : Int) hs hc2, Option.bind_some, if_true, hc2]
        exact shuts_end a b c d x 0 l
      · have hc2 : ¬ wrap64 ((i : Int) + 1) = b := by rw [e1]; exact c2
        simp only [blackboardlaw17_FrontShuts.j3, Bool.false_eq_true, if_false, take_more a b c d x (i : Int) hs hc2, Option.bind_some, if_true, e1]
        exact ih (i + 1) (by omega) (by omega)
    have j2 : ∀ s : Bool, Ev (fun k => blackboardlaw17_FrontShuts.j2 k l x (i : Int) s a b c d a b c d x (i : Int)) true := by
      intro s
      refine Ev.one ?_
      cases s with
      | false =>
        by_cases c2 : ((i + 1 : Nat) : Int) = b
        · have hc2 : wrap64 ((i : Int) + 1) = b := by rw [e1]; exact c2
          simp only [blackboardlaw17_FrontShuts.j2, Bool.false_eq_true, if_false, take_last a b c d x (i : Int) hs hc2, Option.bind_some, if_true, hc2]
          exact shuts_end a b c d x 0 l
        · have hc2 : ¬ wrap64 ((i : Int) + 1) = b := by rw [e1]; exact c2
          simp only [blackboardlaw17_FrontShuts.j2, Bool.false_eq_true, if_false, take_more a b c d x (i : Int) hs hc2, Option.bind_some, if_true, e1]
          exact ih (i + 1) (by omega) (by omega)
      | true =>
        simp only [blackboardlaw17_FrontShuts.j2, if_true, next_open a b c d x (i : Int) hs, Option.bind_some, front_Front_Shut.f, open_shut a b c d 0 x (i : Int) hg hin, Bool.not_true]
        exact j3
    refine Ev.one ?_
    by_cases c3 : (i : Int) < (l.length : Int)
    · simp only [blackboardlaw17_FrontShuts.l0, if_pos c1, if_pos c3, if_pos c0]
      exact j2 _
    · simp only [blackboardlaw17_FrontShuts.l0, if_pos c1, if_neg c3]
      exact j2 _
theorem FrontShuts (a b c d e : Int) (l : List Bool) (he : (Lit.int .u8 e).wf = true) : ∃ k, blackboardlaw17_FrontShuts.f k a b c d e l = some true := by
  have he := bounds_u8 he
  refine Ev.rounds ?_
  unfold blackboardlaw17_FrontShuts.f
  simp only [awake17, refmay_is, Option.bind_some, if_true]
  have far : Ev (fun k => blackboardlaw17_FrontShuts.j0 k e l true a b c d) true := by
    refine Ev.one ?_
    simp only [blackboardlaw17_FrontShuts.j0, if_true]; exact Ev.now _
  by_cases hg : gm a b c d = true
  · simp only [hg, if_true]
    by_cases cl : (l.length : Int) > 100
    · rw [decide_eq_true cl]; exact far
    · rw [decide_eq_false cl]
      have hb := gm_true hg
      have ca : ¬ a = 0 := by omega
      have e1 : Int.tmod (wrap64 e) a = e % a := by rw [w64 (by omega) (by omega), Int.tmod_eq_emod_of_nonneg (by omega)]
      have x0 := Int.emod_nonneg e ca
      have x1 := Int.emod_lt_of_pos e (show 0 < a by omega)
      refine Ev.one ?_
      have hin : inB a b (e % a) 0 = true := by
        unfold inB
        rw [decide_eq_true x0, decide_eq_true x1, decide_eq_true (show (0:Int) ≤ 0 by omega), decide_eq_true (show (0:Int) < b by omega)]; rfl
      simp only [blackboardlaw17_FrontShuts.j0, Bool.false_eq_true, if_false, front_New.f, Option.bind_some, if_neg ca, e1, open_shut a b c d 0 (e % a) 0 hg hin, if_true]
      exact shuts_loop a b c d (e % a) l hg x0 x1 b.toNat 0 (by omega) (by omega)
  · simp only [hg, if_false]
    exact far
theorem FrontShuts.walk (a0_0 : Int) (a0_1 : Int) (a0_2 : Int) (a0_3 : Int) (a1 : Int) (A2 : Option Addr) (c2 : Nat) (l2 : List (Bool)) (w : World) (wa0_0 : (Lit.int .i64 a0_0).wf = true) (wa0_1 : (Lit.int .i64 a0_1).wf = true) (wa0_2 : (Lit.int .i64 a0_2).wf = true) (wa0_3 : (Lit.int .i64 a0_3).wf = true) (w1 : (Lit.int .u8 a1).wf = true) (r2 : Kd.C Kd.bool w A2 l2.length l2) (k2 : l2.length ≤ c2) (m2 : l2.length ≤ maxLen) (y2 : l2.length * 1 ≤ 140737488351232) (g2 : ∀ y ∈ l2, True) :
    Calls Try.prog 6 #[.agg #[.int .i64 a0_0, .int .i64 a0_1, .int .i64 a0_2, .int .i64 a0_3], .int .u8 a1, .slice A2 l2.length c2] w fun e w' => e = .returned (.bool true) ∧ Below w.heap.size w w' := by
  obtain ⟨k, h⟩ := FrontShuts a0_0 a0_1 a0_2 a0_3 a1 l2 w1
  exact blackboardlaw17_FrontShuts.calls k _ _ _ _ _ A2 c2 l2 true w r2 k2 h
end Go.Proofs.Ytobdkncdjofihaa.Pure
