/- The law WearVictims of the seat: nobody that may has less valid than the victim, and of as many nobody is less worn; who may not changes nothing. -/
import Derived.Test.YtkmdefelepmfiaaBV
import Derived.Test.YtkmdefelepmfiaaVx4
set_option linter.unusedVariables false
set_option linter.unusedSimpArgs false
namespace Go.Proofs.Ytkmdefelepmfiaa.Pure
open Go.RowKit Go.Proofs.Ytkmdefelepmfiaa.V Go.Proofs.YtkmdefelepmfiaaW.PrintWords Go.Proofs.YtkmdefelepmfiaaW.PrintLast
theorem wn1V {i : Nat} (h : i ≤ 1000000000000000) : wrap64 ((i : Int) + 1) = ((i + 1 : Nat) : Int) := by rw [w64 (by omega) (by omega)]; rfl
/-- the lists that the law makes of its triples -/
def bitOf (x : S35) : Int := Go.bits .and .u8 x.f2 1
def vs (l : List S35) : List Int := l.map fun x => x.f0
def es (l : List S35) : List Int := l.map fun x => x.f1
def ms (l : List S35) : List Bool := l.map fun x => bitOf x == 1
def ws (l : List S35) : List Int := l.map fun x => if bitOf x = 0 then 0 else x.f0
theorem rd_at (l : List S35) (i : Nat) (h : i < l.length) : rd_T35 l (i : Int) = l[i] := by
  unfold rd_T35
  rw [Int.toNat_natCast, List.getD_eq_getElem?_getD, List.getElem?_eq_getElem h]; rfl
theorem vs_length (l : List S35) : (vs l).length = l.length := by simp [vs]
theorem es_length (l : List S35) : (es l).length = l.length := by simp [es]
theorem ms_length (l : List S35) : (ms l).length = l.length := by simp [ms]
theorem ws_length (l : List S35) : (ws l).length = l.length := by simp [ws]
theorem take_map {α : Type} (f : S35 → α) (l : List S35) (i : Nat) (h : i < l.length) : (l.take i).map f ++ [f l[i]] = (l.take (i + 1)).map f := by
  rw [List.take_add_one, List.getElem?_eq_getElem h, List.map_append]; rfl
theorem ws_get (l : List S35) (i : Nat) (h : (ms l).getD i false = true) : (ws l).getD i 0 = (vs l).getD i 0 := by
  by_cases c : i < l.length
  · have e : (ms l).getD i false = (bitOf l[i] == 1) := by
      unfold ms
      rw [List.getD_eq_getElem?_getD, List.getElem?_map, List.getElem?_eq_getElem c]; rfl
    rw [e] at h
    have hb : bitOf l[i] = 1 := eq_of_beq h
    unfold ws vs
    rw [List.getD_eq_getElem?_getD, List.getElem?_map, List.getElem?_eq_getElem c, List.getD_eq_getElem?_getD, List.getElem?_map, List.getElem?_eq_getElem c]
    show (if bitOf l[i] = 0 then 0 else l[i].f0) = l[i].f0
    rw [hb]; rfl
  · have e : (ms l).getD i false = false := by
      rw [List.getD_eq_getElem?_getD, List.getElem?_eq_none (by rw [ms_length]; omega)]; rfl
    rw [e] at h; exact absurd h (by simp)
theorem sel_ws (l : List S35) : sel (okV (ws l) (es l) (ms l)) (ltV (ws l) (es l)) (ms l).length = sel (okV (vs l) (es l) (ms l)) (ltV (vs l) (es l)) (ms l).length := by
  have hok : ∀ j, okV (ws l) (es l) (ms l) j = okV (vs l) (es l) (ms l) j := fun j => by
    unfold okV; rw [ws_length, vs_length]
  refine sel_congr (fun j _ => hok j) (fun a b ha hb => ?_)
  simp only [okV, Bool.and_eq_true, decide_eq_true_eq] at ha hb
  unfold ltV
  rw [ws_get l a ha.2.2.2, ws_get l b hb.2.2.2]
theorem vic_j5 : Ev (fun k => blackboardlaw13_WearVictims.j5 k true) true := by
  refine Ev.one ?_
  simp only [blackboardlaw13_WearVictims.j5]
  exact Ev.now _
theorem vic_j4 {l : List S35} {v e : List Int} {m : List Bool} {b : Int} {ok : Bool} {i : Nat} (i6 : i ≤ 1000000000000000)
    (h : Ev (fun k => blackboardlaw13_WearVictims.l1 k l v e m b ok ((i + 1 : Nat) : Int)) true) : Ev (fun k => blackboardlaw13_WearVictims.j4 k l v e m b ok (i : Int) false) true := by
  have hw := wn1V i6
  refine Ev.one ?_
  simp only [blackboardlaw13_WearVictims.j4, Bool.false_eq_true, if_false, hw]
  exact h
theorem vic_l1 (l : List S35) (hn : l.length ≤ 200) (o : Option Nat) (ho : sel (okV (vs l) (es l) (ms l)) (ltV (vs l) (es l)) (ms l).length = o) :
    ∀ d i, i + d = l.length → Ev (fun k => blackboardlaw13_WearVictims.l1 k l (vs l) (es l) (ms l) (pr o).1 (pr o).2 (i : Int)) true := by
  have lv := vs_length l
  have le := es_length l
  have lm := ms_length l
  have hokm : ∀ j, j < l.length → okV (vs l) (es l) (ms l) j = (ms l).getD j false := fun j hj => by
    unfold okV; rw [lv, le, lm, decide_eq_true hj]; rfl
  generalize vs l = v at *
  generalize es l = e at *
  generalize ms l = m at *
  intro d
  induction d with
  | zero =>
    intro i hi
    have c1 : ¬ ((i : Int) < (l.length : Int)) := by omega
    refine Ev.one ?_
    simp only [blackboardlaw13_WearVictims.l1, if_neg c1]
    cases o with
    | none => simp only [pr, Bool.false_eq_true, if_false]; exact vic_j5
    | some b =>
      have hb := sel_lt ho
      have hbl : b < l.length := by omega
      have hmb := hokm b hbl
      rw [hb.2] at hmb
      have c2 : 0 ≤ (b : Int) := Int.natCast_nonneg _
      have c3 : (b : Int) < (m.length : Int) := Int.ofNat_lt.mpr hb.1
      have r1 : rdOf false m (b : Int) = true := hmb.symm
      rw [show pr (some b) = ((b : Int), true) from rfl]
      simp only [if_true, if_pos c2, if_pos c3, r1]
      exact vic_j5
  | succ d ih =>
    intro i hi
    have hil : i < l.length := by omega
    have i6 : i ≤ 1000000000000000 := by omega
    have ih' := ih (i + 1) (by omega)
    have him : i < m.length := by omega
    have hiv : i < v.length := by omega
    have hie : i < e.length := by omega
    have c1 : ((i : Int) < (l.length : Int)) := Int.ofNat_lt.mpr hil
    have c2 : 0 ≤ (i : Int) := Int.natCast_nonneg _
    have c3 : (i : Int) < (m.length : Int) := Int.ofNat_lt.mpr him
    have c4 : (i : Int) < (v.length : Int) := Int.ofNat_lt.mpr hiv
    have c5 : (i : Int) < (e.length : Int) := Int.ofNat_lt.mpr hie
    have hm := hokm i hil
    have r1 : rdOf false m (i : Int) = m.getD i false := rfl
    refine Ev.one ?_
    cases hmi : m.getD i false with
    | false =>
      rw [hmi] at r1
      simp only [blackboardlaw13_WearVictims.l1, if_pos c1, if_pos c2, if_pos c3, r1, Bool.false_eq_true, if_false]
      exact vic_j4 i6 ih'
    | true =>
      rw [hmi] at r1 hm
      cases o with
      | none =>
        have := sel_none ho i him
        rw [hm] at this
        exact absurd this (by simp)
      | some b =>
        have hb := sel_lt ho
        have hls := sel_least (weakV v e) ho i him hm
        have hbl : b < l.length := by omega
        have hbv : b < v.length := by omega
        have hbe : b < e.length := by omega
        have d2 : 0 ≤ (b : Int) := Int.natCast_nonneg _
        have d4 : (b : Int) < (v.length : Int) := Int.ofNat_lt.mpr hbv
        have d5 : (b : Int) < (e.length : Int) := Int.ofNat_lt.mpr hbe
        have f1 := hls.1
        have f2 := hls.2
        unfold ltV at f1 f2
        simp only [decide_eq_false_iff_not, decide_eq_true_eq] at f1 f2
        have s1 : rd v (i : Int) = v.getD i 0 := rfl
        have s2 : rd v (b : Int) = v.getD b 0 := rfl
        have s3 : rd e (i : Int) = e.getD i 0 := rfl
        have s4 : rd e (b : Int) = e.getD b 0 := rfl
        rw [show pr (some b) = ((b : Int), true) from rfl] at ih' ⊢
        simp only [blackboardlaw13_WearVictims.l1, if_pos c1, if_pos c2, if_pos c3, r1, if_true, if_pos c4, if_pos d2, if_pos d4, if_pos c5, if_pos d5, s1, s2, s3, s4]
        generalize v.getD i 0 = vi at *
        generalize v.getD b 0 = vb at *
        generalize e.getD i 0 = ei at *
        generalize e.getD b 0 = eb at *
        have g1 : ¬ vi < vb := fun h => f1 (.inl h)
        simp only [if_neg g1]
        by_cases q1 : vi = vb
        · have g2 : ¬ ei < eb := fun h => f1 (.inr ⟨q1, h⟩)
          simp only [if_pos q1, if_neg g2]
          by_cases q2 : ei = eb
          · have g3 : ¬ ((i : Int) < (b : Int)) := fun h => by
              rcases f2 (Int.ofNat_lt.mp h) with x | ⟨_, x⟩
              · exact absurd x (by rw [q1]; exact Int.lt_irrefl _)
              · exact absurd x (by rw [q2]; exact Int.lt_irrefl _)
            simp only [if_pos q2, decide_eq_false g3]
            exact vic_j4 i6 ih'
          · simp only [if_neg q2]
            exact vic_j4 i6 ih'
        · simp only [if_neg q1]
          exact vic_j4 i6 ih'
theorem vic_loop (l : List S35) (hn : l.length ≤ 200) (hg : ∀ y ∈ l, 0 ≤ y.f0 ∧ y.f0 ≤ 255 ∧ 0 ≤ y.f1 ∧ y.f1 ≤ 255) :
    ∀ d i, i + d = l.length → Ev (fun k => blackboardlaw13_WearVictims.l0 k l (vs (l.take i)) (es (l.take i)) (ws (l.take i)) (ms (l.take i)) (i : Int)) true := by
  intro d
  induction d with
  | zero =>
    intro i hi
    obtain rfl : i = l.length := by omega
    have c1 : ¬ ((l.length : Int) < (l.length : Int)) := Int.lt_irrefl _
    have v1 := victim_is (vs l) (es l) (ms l) (by rw [ms_length]; omega)
    have v2 := victim_is (ws l) (es l) (ms l) (by rw [ms_length]; omega)
    rw [sel_ws] at v2
    rw [List.take_length]
    have h := vic_l1 l hn _ rfl l.length 0 (Nat.zero_add _)
    generalize pr (sel (okV (vs l) (es l) (ms l)) (ltV (vs l) (es l)) (ms l).length) = p at *
    have hne : (p.2 != p.2) = false := by cases p.2 <;> rfl
    refine Ev.one ?_
    simp only [blackboardlaw13_WearVictims.l0, if_neg c1]
    refine Ev.bind v1 ?_
    refine Ev.bind v2 ?_
    simp only [if_true, hne]
    refine Ev.one ?_
    simp only [blackboardlaw13_WearVictims.j2, Bool.false_eq_true, if_false]
    exact h
  | succ d ih =>
    intro i hi
    have hil : i < l.length := by omega
    have i6 : i ≤ 1000000000000000 := by omega
    have ih' := ih (i + 1) (by omega)
    have hgi := hg _ (List.getElem_mem hil)
    have c1 : ((i : Int) < (l.length : Int)) := Int.ofNat_lt.mpr hil
    have c2 : 0 ≤ (i : Int) := Int.natCast_nonneg _
    have e0 : wrap64 (l[i].f0) = l[i].f0 := w64 (by omega) (by omega)
    have e1 : wrap64 (l[i].f1) = l[i].f1 := w64 (by omega) (by omega)
    have hlt : (l.take i).length = i := by rw [List.length_take]; omega
    have k1 : (vs (l.take i)).length + [l[i].f0].length < 17592186044416 := by rw [vs_length, hlt]; simp; omega
    have k2 : (es (l.take i)).length + [l[i].f1].length < 17592186044416 := by rw [es_length, hlt]; simp; omega
    have k3 : (ms (l.take i)).length + [bitOf l[i] == 1].length < 140737488355328 := by rw [ms_length, hlt]; simp; omega
    have k4 : (ws (l.take i)).length + [(0 : Int)].length < 17592186044416 := by rw [ws_length, hlt]; simp; omega
    have k5 : (ws (l.take i)).length + [l[i].f0].length < 17592186044416 := by rw [ws_length, hlt]; simp; omega
    have hw := wn1V i6
    have t1 : vs (l.take i) ++ [l[i].f0] = vs (l.take (i + 1)) := take_map _ l i hil
    have t2 : es (l.take i) ++ [l[i].f1] = es (l.take (i + 1)) := take_map _ l i hil
    have t3 : ms (l.take i) ++ [bitOf l[i] == 1] = ms (l.take (i + 1)) := take_map _ l i hil
    have t4 : ws (l.take i) ++ [if bitOf l[i] = 0 then 0 else l[i].f0] = ws (l.take (i + 1)) := take_map _ l i hil
    unfold bitOf at k3 t3 t4
    refine Ev.one ?_
    simp only [blackboardlaw13_WearVictims.l0, if_pos c1, if_pos c2, rd_at l i hil, e0, e1, Option.bind_some, if_pos k1, if_pos k2, if_pos k3]
    by_cases cb : Go.bits .and .u8 l[i].f2 1 = 0
    · rw [if_pos cb] at t4
      simp only [if_pos cb, t1, t2, t3]
      refine Ev.one ?_
      simp only [blackboardlaw13_WearVictims.j1, Option.bind_some, if_pos k4, t4, hw]
      exact ih'
    · rw [if_neg cb] at t4
      simp only [if_neg cb, t1, t2, t3]
      refine Ev.one ?_
      simp only [blackboardlaw13_WearVictims.j1, Option.bind_some, if_pos k5, t4, hw]
      exact ih'
theorem WearVictims (l : List S35) (hg : ∀ y ∈ l, ((Lit.int .u8 y.f0).wf = true ∧ (Lit.int .u8 y.f1).wf = true ∧ (Lit.int .u8 y.f2).wf = true)) : ∃ k, blackboardlaw13_WearVictims.f k l = some true := by
  refine Ev.rounds ?_
  unfold blackboardlaw13_WearVictims.f
  refine Ev.bind awake13 ?_
  simp only [if_true]
  by_cases c : (l.length : Int) > 200
  · simp only [if_pos c]; exact Ev.now _
  · simp only [if_neg c]
    exact vic_loop l (by omega) (fun y hy => by
      have h0 := bounds_u8 (hg y hy).1
      have h1 := bounds_u8 (hg y hy).2.1
      omega) l.length 0 (Nat.zero_add _)
theorem WearVictims.walk (A0 : Option Addr) (c0 : Nat) (l0 : List (V.S35)) (w : World) (r0 : Kd.C V.k35 w A0 l0.length l0) (k0 : l0.length ≤ c0) (m0 : l0.length ≤ maxLen) (y0 : l0.length * 3 ≤ 140737488351232) (g0 : ∀ y ∈ l0, ((Lit.int .u8 y.f0).wf = true ∧ (Lit.int .u8 y.f1).wf = true ∧ (Lit.int .u8 y.f2).wf = true)) :
    Calls Try.prog 7 #[.slice A0 l0.length c0] w fun e w' => e = .returned (.bool true) ∧ Below w.heap.size w w' := by
  obtain ⟨k, h⟩ := WearVictims l0 g0
  exact blackboardlaw13_WearVictims.calls k A0 c0 l0 true w r0 k0 h
end Go.Proofs.Ytkmdefelepmfiaa.Pure
