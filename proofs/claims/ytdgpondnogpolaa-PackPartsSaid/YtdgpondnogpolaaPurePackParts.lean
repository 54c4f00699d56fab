/- The law PackParts of the seat, over its printed functions. -/
import Derived.Test.YtdgpondnogpolaaD
import Derived.Test.YtdgpondnogpolaaMx9
set_option linter.unusedVariables false
set_option linter.unusedSimpArgs false
namespace Go.Proofs.Ytdgpondnogpolaa.Pure
open Go.RowKit Go.Proofs.Ytdgpondnogpolaa.M Go.Proofs.YtdgpondnogpolaaW.PrintWords Go.Proofs.YtdgpondnogpolaaW.PrintLast Go.Proofs.YtdgpondnogpolaaW.PrintMore

theorem getD_left (a b : List Int) (i : Nat) (h : i < a.length) : (a ++ b).getD i 0 = a.getD i 0 := by
  rw [List.getD_eq_getElem?_getD, List.getElem?_append_left h, ← List.getD_eq_getElem?_getD]
theorem getD_right (a b : List Int) (i : Nat) : (a ++ b).getD (a.length + i) 0 = b.getD i 0 := by
  rw [List.getD_eq_getElem?_getD, List.getElem?_append_right (Nat.le_add_right _ _), Nat.add_sub_cancel_left, ← List.getD_eq_getElem?_getD]
theorem bt_left (a b : List Int) (p : Nat) (h : p < 8 * a.length) : bt 8 (a ++ b) p = bt 8 a p := by
  unfold bt; rw [getD_left a b _ (by omega)]
theorem bt_right (a b : List Int) (p : Nat) : bt 8 (a ++ b) (8 * a.length + p) = bt 8 b p := by
  unfold bt
  rw [show (8 * a.length + p) / 8 = a.length + p / 8 by omega, getD_right, show (8 * a.length + p) % 8 = p % 8 by omega]
theorem packOf_get (b : List Int) (n : Nat) (h : n < (packOf b).length) : (packOf b)[n] = ((W (bt 8 b) (10 * n) 10 : Nat) : Int) := by
  have h2 := h
  simp only [packOf, ws, List.getElem_map, List.getElem_range]
theorem parts (a b : List Int) (q : Nat) (ha : a.length = q * 5) : packOf (a ++ b) = packOf a ++ packOf b := by
  apply List.ext_getElem
  · rw [List.length_append, packOf_length, packOf_length, packOf_length, List.length_append]; omega
  · intro n h1 h2
    have hla := packOf_length a
    rw [List.getElem_append]
    by_cases c : n < (packOf a).length
    · rw [dif_pos c]
      rw [packOf_get, packOf_get, W_congr (bt 8 (a ++ b)) (bt 8 a) (10 * n) 10 (fun j hj => bt_left a b _ (by omega))]
    · rw [dif_neg c]
      rw [packOf_get, packOf_get, W_shift (bt 8 (a ++ b)) (bt 8 b) (10 * n) (10 * (n - (packOf a).length)) 10 (fun j hj => by
        rw [show 10 * n + j = 8 * a.length + (10 * (n - (packOf a).length) + j) by omega]
        exact bt_right a b _)]
theorem psyms_is (n : Nat) (h : n ≤ 1000000) : pack_Symbols.f (n : Int) = some (((8 * n + 9) / 10 : Nat) : Int) := by
  unfold pack_Symbols.f pack_within.f
  rw [Option.bind_some, within_is _ (by omega) (by omega), w64 (x := (n : Int) * 8) (by omega) (by omega), w64 (x := (n : Int) * 8 + 10) (by omega) (by omega), w64 (x := (n : Int) * 8 + 10 - 1) (by omega) (by omega), Int.tdiv_eq_ediv_of_nonneg (by omega), w64 (by omega) (by omega)]
  congr 1; omega
theorem parts_loop (a b : List Int) (q : Nat) (ha : a.length = q * 5) (h1 : a.length ≤ 500) (h2 : b.length ≤ 500) : ∀ (d i : Nat), i + d = (packOf (a ++ b)).length →
    Ev (fun k => blackboardlaw5_PackParts.l0 k a b (packOf a ++ packOf b) (packOf (a ++ b)) (i : Int)) true := by
  have hs := packOf_syms (a ++ b)
  have hlen := packOf_length (a ++ b)
  rw [List.length_append] at hlen
  intro d
  induction d with
  | zero =>
    intro i hi
    have c1 : ¬ ((i : Int) < ((packOf (a ++ b)).length : Int)) := by omega
    have e1 : wrap64 ((a.length : Int) + (b.length : Int)) = ((a.length + b.length : Nat) : Int) := by rw [w64 (by omega) (by omega)]; omega
    have hb := bytes_is (packOf (a ++ b)).length (by omega)
    have c2 : ((packOf (a ++ b)).length : Int) = (((8 * (a.length + b.length) + 9) / 10 : Nat) : Int) := by omega
    have c3 : ((10 * (packOf (a ++ b)).length / 8 : Nat) : Int) ≥ ((a.length + b.length : Nat) : Int) := by omega
    have hy := psyms_is (a.length + b.length) (by omega)
    have hsame := same_is (packOf (a ++ b)) (packOf a ++ packOf b) (by omega)
    rw [decide_eq_true (parts a b q ha)] at hsame
    refine Ev.one ?_
    simp only [blackboardlaw5_PackParts.l0, if_neg c1]
    refine Ev.bind hsame ?_
    simp only [if_true, e1, hy, Option.bind_some, if_pos c2, hb, decide_eq_true c3]
    exact Ev.now _
  | succ d ih =>
    intro i hi
    have c1 : ((i : Int) < ((packOf (a ++ b)).length : Int)) := by omega
    have c2 : 0 ≤ (i : Int) := by omega
    have hx := hs _ (getD_in _ i (by omega))
    have c3 : ¬ (rd (packOf (a ++ b)) (i : Int) ≥ 1024) := by rw [rdn]; omega
    have hnext := ih (i + 1) (by omega)
    have ei := wn1 (i := i) (by omega)
    refine Ev.one ?_
    simp only [blackboardlaw5_PackParts.l0, if_pos c1, if_pos c2, if_neg c3, ei]
    exact hnext
theorem parts_j0 (a b : List Int) (ha : Bytes8 a) (hb : Bytes8 b) (h1 : a.length ≤ 500) (h2 : b.length ≤ 500) : Ev (fun k => blackboardlaw5_PackParts.j0 k a b false) true := by
  have e1 : wrap64 (wrap64 ((a.length : Int) / 5) * 5) = ((a.length / 5 * 5 : Nat) : Int) := by
    rw [w64 (x := (a.length : Int) / 5) (by omega) (by omega), w64 (by omega) (by omega)]; omega
  have c2 : 0 ≤ ((a.length / 5 * 5 : Nat) : Int) := Int.natCast_nonneg _
  have c3 : ((a.length / 5 * 5 : Nat) : Int) ≤ (a.length : Int) := by omega
  have hl : (a.take (a.length / 5 * 5)).length = a.length / 5 * 5 := by rw [List.length_take]; omega
  have hm : Bytes8 (a.take (a.length / 5 * 5)) := fun x hx => ha x (List.mem_of_mem_take hx)
  generalize a.length / 5 = q at *
  have hl5 : (a.take (q * 5)).length ≤ 500 := by omega
  refine Ev.one ?_
  simp only [blackboardlaw5_PackParts.j0, Bool.false_eq_true, if_false, e1, if_pos c2, if_pos c3, Int.toNat_natCast]
  generalize a.take (q * 5) = t at *
  have hla := packOf_length t
  have hlb := packOf_length b
  have g1 : (packOf t).length + (packOf b).length < 70368744177664 := by omega
  have g2 : ([] : List Int).length + t.length < 140737488355328 := by simp only [List.length_nil]; omega
  have g3 : t.length + b.length < 140737488355328 := by omega
  refine Ev.bind (pack_is t hm (by omega)) ?_
  refine Ev.bind (pack_is b hb (by omega)) ?_
  simp only [if_pos g1, Option.bind_some, if_pos g2, List.nil_append, if_pos g3]
  have hp := pack_is (t ++ b) (fun x hx => by rcases List.mem_append.mp hx with h | h; exact hm x h; exact hb x h) (by rw [List.length_append]; omega)
  refine Ev.bind hp ?_
  exact parts_loop t b q hl hl5 h2 _ 0 (by rw [Nat.zero_add])
theorem PackParts : blackboardlaw5_PackParts.Pure := by
  intro a b _ _ ha _ _ hb
  have ha' : Bytes8 a := fun x hx => by have := bounds_u8 (ha x hx); omega
  have hb' : Bytes8 b := fun x hx => by have := bounds_u8 (hb x hx); omega
  refine Ev.rounds ?_
  unfold blackboardlaw5_PackParts.f
  refine Ev.bind awake5 ?_
  have far : Ev (fun k => blackboardlaw5_PackParts.j0 k a b true) true := by
    refine Ev.one ?_
    simp only [blackboardlaw5_PackParts.j0, if_true]; exact Ev.now _
  simp only [if_true]
  by_cases c1 : (a.length : Int) > 500
  · simp only [if_pos c1]; exact far
  · simp only [if_neg c1]
    by_cases c2 : (b.length : Int) > 500
    · rw [decide_eq_true c2]; exact far
    · rw [decide_eq_false c2]
      exact parts_j0 a b ha' hb' (by omega) (by omega)
end Go.Proofs.Ytdgpondnogpolaa.Pure
