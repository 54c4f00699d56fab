/- The law FrontTakes of the seat, over its printed functions. -/
import Derived.Test.YtobdkncdjofihaaB
import Derived.Test.YtobdkncdjofihaaMx5
set_option linter.unusedVariables false
set_option linter.unusedSimpArgs false
namespace Go.Proofs.Ytobdkncdjofihaa.Pure
open Go.RowKit Go.Proofs.Ytobdkncdjofihaa.M Go.Proofs.YtobdkncdjofihaaW.PrintWords Go.Proofs.YtobdkncdjofihaaW.PrintLast

theorem takes_end (a b c d x p : Int) (hg : gm a b c d = true) (hx : 0 ≤ x) (hx2 : x < a) : Ev (fun k => blackboardlaw17_FrontTakes.l0 k x b a b c d a b c d (-1) p) true := by
  have hb := gm_true hg
  refine Ev.one ?_
  have c1 : ¬ (b < b) := by omega
  have hin : inB a b x 0 = true := by
    unfold inB
    rw [decide_eq_true hx, decide_eq_true hx2, decide_eq_true (show (0:Int) ≤ 0 by omega), decide_eq_true (show (0:Int) < b by omega)]; rfl
  simp only [blackboardlaw17_FrontTakes.l0, if_neg c1, take_shut, Option.bind_some, Bool.false_eq_true, if_false, front_Front_Block.f, if_true, front_Front_Shut.f, open_shut a b c d 0 x 0 hg hin]
  exact Ev.now _
theorem takes_loop (a b c d x : Int) (hg : gm a b c d = true) (hx : 0 ≤ x) (hx2 : x < a) : ∀ (n i : Nat), (i : Int) + (n : Int) = b → 1 ≤ n →
    Ev (fun k => blackboardlaw17_FrontTakes.l0 k x (i : Int) a b c d a b c d x (i : Int)) true := by
  have hb := gm_true hg
  intro n
  induction n with
  | zero => intro i hi h; omega
  | succ n ih =>
    intro i hi _
    have c1 : (i : Int) < b := by omega
    have hs : ¬ x = -1 := by omega
    have e1 := wn1 (i := i) (by omega)
    have e2 : wrap64 (b - (i : Int)) = b - (i : Int) := w64 (by omega) (by omega)
    have e3 : wrap64 (b - (i : Int) - 1) = b - (i : Int) - 1 := w64 (by omega) (by omega)
    refine Ev.one ?_
    by_cases c2 : ((i + 1 : Nat) : Int) = b
    · have hc2 : wrap64 ((i : Int) + 1) = b := by rw [e1]; exact c2
      have hl : (0 : Int) = b - (i : Int) - 1 := by omega
      simp only [blackboardlaw17_FrontTakes.l0, if_pos c1, take_last a b c d x (i : Int) hs hc2, Option.bind_some, if_true, left_shut, e2, e3, if_pos hl, hc2]
      exact takes_end a b c d x 0 hg hx hx2
    · have hc2 : ¬ wrap64 ((i : Int) + 1) = b := by rw [e1]; exact c2
      have e4 : wrap64 (b - ((i + 1 : Nat) : Int)) = b - (i : Int) - 1 := by rw [w64 (by omega) (by omega)]; omega
      simp only [blackboardlaw17_FrontTakes.l0, if_pos c1, take_more a b c d x (i : Int) hs hc2, Option.bind_some, if_true, left_open _ _ _ _ x _ hs, e2, e3, e1, e4]
      exact ih (i + 1) (by omega) (by omega)
theorem FrontTakes (a b c d e f : Int) (he : (Lit.int .u8 e).wf = true) (hf : (Lit.int .u8 f).wf = true) : ∃ k, blackboardlaw17_FrontTakes.f k a b c d e f = some true := by
  have he := bounds_u8 he
  have hf := bounds_u8 hf
  refine Ev.rounds ?_
  unfold blackboardlaw17_FrontTakes.f
  simp only [awake17, refmay_is, Option.bind_some, if_true]
  by_cases hg : gm a b c d = true
  · have hb := gm_true hg
    have ca : ¬ a = 0 := by omega
    have cb : ¬ b = 0 := by omega
    have e1 : Int.tmod (wrap64 e) a = e % a := by rw [w64 (by omega) (by omega), Int.tmod_eq_emod_of_nonneg (by omega)]
    have e2 : Int.tmod (wrap64 f) b = f % b := by rw [w64 (by omega) (by omega), Int.tmod_eq_emod_of_nonneg (by omega)]
    have x0 := Int.emod_nonneg e ca
    have x1 := Int.emod_lt_of_pos e (show 0 < a by omega)
    have y0 := Int.emod_nonneg f cb
    have y1 := Int.emod_lt_of_pos f (show 0 < b by omega)
    rw [e1, e2]
    generalize e % a = x at *
    generalize f % b = y at *
    have hin : inB a b x y = true := by
      unfold inB
      rw [decide_eq_true x0, decide_eq_true x1, decide_eq_true y0, decide_eq_true y1]; rfl
    have hs : ¬ x = -1 := by omega
    simp only [hg, if_true, front_New.f, Option.bind_some, if_neg ca, if_neg cb, open_shut a b c d 0 x y hg hin, open_open a b c d x y x y hs]
    refine Ev.one ?_
    simp only [blackboardlaw17_FrontTakes.j0, Bool.false_eq_true, if_false]
    have hy : y = (y.toNat : Int) := by omega
    rw [hy]
    exact takes_loop a b c d x hg x0 x1 (b - y).toNat y.toNat (by omega) (by omega)
  · simp only [hg, if_false]
    exact Ev.now _
theorem FrontTakes.walk (a0_0 : Int) (a0_1 : Int) (a0_2 : Int) (a0_3 : Int) (a1 : Int) (a2 : Int) (w : World) (wa0_0 : (Lit.int .i64 a0_0).wf = true) (wa0_1 : (Lit.int .i64 a0_1).wf = true) (wa0_2 : (Lit.int .i64 a0_2).wf = true) (wa0_3 : (Lit.int .i64 a0_3).wf = true) (w1 : (Lit.int .u8 a1).wf = true) (w2 : (Lit.int .u8 a2).wf = true) :
    Calls Try.prog 4 #[.agg #[.int .i64 a0_0, .int .i64 a0_1, .int .i64 a0_2, .int .i64 a0_3], .int .u8 a1, .int .u8 a2] w fun e w' => e = .returned (.bool true) ∧ Below w.heap.size w w' := by
  obtain ⟨k, h⟩ := FrontTakes a0_0 a0_1 a0_2 a0_3 a1 a2 w1 w2
  exact blackboardlaw17_FrontTakes.calls k _ _ _ _ _ _ true w h
end Go.Proofs.Ytobdkncdjofihaa.Pure
