/- The law WearGaps of the seat: wiped once more, the gap grows by one at most; one who may not changes it not at all. -/
import Derived.Test.YtkmdefelepmfiaaB
import Derived.Test.YtkmdefelepmfiaaMx4
set_option linter.unusedVariables false
set_option linter.unusedSimpArgs false
namespace Go.Proofs.Ytkmdefelepmfiaa.Pure
open Go.RowKit Go.Proofs.Ytkmdefelepmfiaa.M Go.Proofs.YtkmdefelepmfiaaW.PrintWords Go.Proofs.YtkmdefelepmfiaaW.PrintLast Go.Proofs.YtkmdefelepmfiaaW.PrintMore

/-- what the gap is, over lists of one length: nought where none may; else the greatest less the least of those that may -/
theorem gap_none {e : List Int} {may : List Bool} (hl : e.length = may.length) (h : ∀ j, j < may.length → may.getD j false = false) : gapOf e may = 0 := by
  unfold gapOf
  cases hs : sel (okP e may) (ltP e) may.length with
  | none => rfl
  | some b =>
    have hb := sel_lt hs
    have := hb.2
    simp only [okP, Bool.and_eq_true, decide_eq_true_eq] at this
    rw [h b hb.1] at this
    exact absurd this.2.2 (by simp)
theorem gap_some {e : List Int} {may : List Bool} (hl : e.length = may.length) (hr : ∀ j, j < e.length → 0 ≤ e.getD j 0 ∧ e.getD j 0 ≤ 300) (i : Nat) (hi : i < may.length) (hm : may.getD i false = true) :
    ∃ a b, a < may.length ∧ b < may.length ∧ may.getD a false = true ∧ may.getD b false = true ∧ gapOf e may = e.getD b 0 - e.getD a 0 ∧
      ∀ j, j < may.length → may.getD j false = true → e.getD a 0 ≤ e.getD j 0 ∧ e.getD j 0 ≤ e.getD b 0 := by
  unfold gapOf
  have hok : ∀ j, j < may.length → may.getD j false = true → okP e may j = true := fun j hj h => by
    unfold okP; rw [decide_eq_true hj, decide_eq_true (by omega), h]; rfl
  cases hs : sel (okP e may) (ltP e) may.length with
  | none => have := sel_none hs i hi; rw [hok i hi hm] at this; exact absurd this (by simp)
  | some a =>
    have ha := sel_lt hs
    have hao := ha.2
    simp only [okP, Bool.and_eq_true, decide_eq_true_eq] at hao
    have hmin : ∀ j, j < may.length → may.getD j false = true → e.getD a 0 ≤ e.getD j 0 := fun j hj h => by
      have := (sel_least (weakP e) hs j hj (hok j hj h)).1
      simp only [ltP, decide_eq_false_iff_not] at this
      omega
    have hge := top_ge e may (e.getD a 0) e.length
    have hmax : ∀ j, j < may.length → may.getD j false = true → e.getD j 0 ≤ top e may (e.getD a 0) e.length := fun j hj h => hge.2 j (by omega) hj h
    have hra := hr a (by omega)
    simp only
    rcases top_is e may (e.getD a 0) e.length with h1 | ⟨j, h1, h2, h3, h4⟩
    · refine ⟨a, a, ha.1, ha.1, hao.2.2, hao.2.2, ?_, fun j hj h => ⟨hmin j hj h, ?_⟩⟩
      · rw [h1, w64 (by omega) (by omega)]
      · have := hmax j hj h; rw [h1] at this; exact this
    · have hrj := hr j h1
      refine ⟨a, j, ha.1, h2, hao.2.2, h3, ?_, fun q hq h => ⟨hmin q hq h, ?_⟩⟩
      · rw [h4, w64 (by omega) (by omega)]
      · have := hmax q hq h; rw [h4] at this; exact this
theorem set_get (e : List Int) (k j : Nat) (v : Int) (hk : k < e.length) : (e.set k v).getD j 0 = if k = j then v else e.getD j 0 := by
  rw [List.getD_eq_getElem?_getD, List.getElem?_set]
  by_cases c : k = j
  · rw [if_pos c, if_pos c, if_pos hk]; rfl
  · rw [if_neg c, if_neg c, List.getD_eq_getElem?_getD]
theorem gap_step {e : List Int} {may : List Bool} (hl : e.length = may.length) (hr : ∀ j, j < e.length → 0 ≤ e.getD j 0 ∧ e.getD j 0 ≤ 255) (k : Nat) (hk : k < e.length) :
    0 ≤ gapOf e may ∧ gapOf e may ≤ 1000 ∧ gapOf (e.set k (e.getD k 0 + 1)) may ≤ gapOf e may + 1 ∧ gapOf e may - 1 ≤ gapOf (e.set k (e.getD k 0 + 1)) may ∧
      (may.getD k false = false → gapOf (e.set k (e.getD k 0 + 1)) may = gapOf e may) := by
  have hl' : (e.set k (e.getD k 0 + 1)).length = may.length := by rw [List.length_set]; exact hl
  have hg := set_get e k
  have hrk := hr k hk
  have hr' : ∀ j, j < (e.set k (e.getD k 0 + 1)).length → 0 ≤ (e.set k (e.getD k 0 + 1)).getD j 0 ∧ (e.set k (e.getD k 0 + 1)).getD j 0 ≤ 300 := fun j hj => by
    rw [List.length_set] at hj
    have := hr j hj
    rw [hg j _ hk]; split <;> omega
  by_cases hex : ∃ i, i < may.length ∧ may.getD i false = true
  · obtain ⟨i, hi, hm⟩ := hex
    obtain ⟨a, b, ha, hb, hma, hmb, he, hall⟩ := gap_some hl (fun j hj => ⟨(hr j hj).1, Int.le_trans (hr j hj).2 (by decide)⟩) i hi hm
    obtain ⟨a', b', ha', hb', hma', hmb', he', hall'⟩ := gap_some hl' hr' i hi hm
    have x1 := hall a' ha' hma'
    have x2 := hall b' hb' hmb'
    have y1 := hall' a ha hma
    have y2 := hall' b hb hmb
    have hf : ∀ j, j < may.length → e.getD j 0 ≤ (e.set k (e.getD k 0 + 1)).getD j 0 ∧ (e.set k (e.getD k 0 + 1)).getD j 0 ≤ e.getD j 0 + 1 ∧ (may.getD k false = false → may.getD j false = true → (e.set k (e.getD k 0 + 1)).getD j 0 = e.getD j 0) := fun j hj => by
      rw [hg j _ hk]
      by_cases c : k = j
      · subst c; rw [if_pos rfl]; exact ⟨by omega, by omega, fun h1 h2 => absurd (h1.symm.trans h2) (by simp)⟩
      · rw [if_neg c]; exact ⟨by omega, by omega, fun _ _ => rfl⟩
    have fa := hf a ha
    have fb := hf b hb
    have fa' := hf a' ha'
    have fb' := hf b' hb'
    have ra := hr a (by omega)
    have rb := hr b (by omega)
    have xab := hall a ha hma
    rw [he, he']
    generalize (e.set k (e.getD k 0 + 1)).getD a 0 = wa at *
    generalize (e.set k (e.getD k 0 + 1)).getD b 0 = wb at *
    generalize (e.set k (e.getD k 0 + 1)).getD a' 0 = wa' at *
    generalize (e.set k (e.getD k 0 + 1)).getD b' 0 = wb' at *
    generalize e.getD a 0 = va at *
    generalize e.getD b 0 = vb at *
    generalize e.getD a' 0 = va' at *
    generalize e.getD b' 0 = vb' at *
    refine ⟨by omega, by omega, by omega, by omega, fun h => ?_⟩
    have za := fa.2.2 h hma
    have zb := fb.2.2 h hmb
    have za' := fa'.2.2 h hma'
    have zb' := fb'.2.2 h hmb'
    omega
  · have hno : ∀ j, j < may.length → may.getD j false = false := fun j hj => by
      cases h : may.getD j false with
      | false => rfl
      | true => exact absurd ⟨j, hj, h⟩ hex
    rw [gap_none hl hno, gap_none hl' hno]
    refine ⟨by omega, by omega, by omega, by omega, fun _ => rfl⟩

/-- the two lists that the law makes of its pairs -/
def vs (l : List S30) : List Int := l.map fun x => x.f0
def ms (l : List S30) : List Bool := l.map fun x => Go.bits .and .u8 x.f1 1 == 1
theorem rd_at (l : List S30) (i : Nat) (h : i < l.length) : rd_T30 l (i : Int) = l[i] := by
  unfold rd_T30
  rw [Int.toNat_natCast, List.getD_eq_getElem?_getD, List.getElem?_eq_getElem h]; rfl
theorem vs_get (l : List S30) (i : Nat) (h : i < l.length) : (vs l).getD i 0 = l[i].f0 := by
  rw [List.getD_eq_getElem?_getD, List.getElem?_eq_getElem (by simpa [vs] using h)]
  simp [vs]
theorem gaps_end (l : List S30) (at_ : Int) (h0 : 0 ≤ at_) (h1 : at_ ≤ 255) (hn : l.length ≤ 200) (hp : 0 < l.length) (hg : ∀ y ∈ l, 0 ≤ y.f0 ∧ y.f0 ≤ 255) :
    Ev (fun k => blackboardlaw13_WearGaps.l0 k l at_ (vs l) (ms l) (l.length : Int)) true := by
  have hv : (vs l).length = l.length := by simp [vs]
  have hm : (ms l).length = l.length := by simp [ms]
  have e1 : Int.tmod (wrap64 at_) (l.length : Int) = ((at_.toNat % l.length : Nat) : Int) := by
    rw [w64 (by omega) (by omega), Int.tmod_eq_emod_of_nonneg h0, Int.natCast_emod, Int.toNat_of_nonneg h0]
  have hk : at_.toNat % l.length < l.length := Nat.mod_lt _ hp
  generalize at_.toNat % l.length = q at *
  have c1 : ¬ ((l.length : Int) < (l.length : Int)) := by omega
  have c2 : ¬ ((l.length : Int) = 0) := by omega
  have c3 : 0 ≤ (q : Int) := by omega
  have c4 : (q : Int) < ((vs l).length : Int) := by omega
  have c5 : (q : Int) < ((ms l).length : Int) := by omega
  have hr : ∀ j, j < (vs l).length → 0 ≤ (vs l).getD j 0 ∧ (vs l).getD j 0 ≤ 255 := fun j hj => by
    rw [vs_get l j (by omega)]; exact hg _ (List.getElem_mem _)
  have hs := gap_step (e := vs l) (may := ms l) (by omega) hr q (by omega)
  have hq := hr q (by omega)
  have e2 : wrap64 ((vs l).getD q 0 + 1) = (vs l).getD q 0 + 1 := w64 (by omega) (by omega)
  have r1 : rd (vs l) (q : Int) = (vs l).getD q 0 := rfl
  have r2 : rdOf false (ms l) (q : Int) = (ms l).getD q false := rfl
  have e3 : wrap64 (gapOf (vs l) (ms l) + 1) = gapOf (vs l) (ms l) + 1 := w64 (by omega) (by omega)
  have e4 : wrap64 (gapOf (vs l) (ms l) - 1) = gapOf (vs l) (ms l) - 1 := w64 (by omega) (by omega)
  have g1 := gap_is (vs l) (ms l) (by omega) (by omega)
  have g2 := gap_is ((vs l).set q ((vs l).getD q 0 + 1)) (ms l) (by rw [List.length_set]; omega) (by omega)
  generalize gapOf (vs l) (ms l) = x at *
  generalize gapOf ((vs l).set q ((vs l).getD q 0 + 1)) (ms l) = y at *
  have d1 : x ≥ 0 := hs.1
  have d2 : y ≤ x + 1 := hs.2.2.1
  have d3 : y ≥ x - 1 := hs.2.2.2.1
  have d4 := hs.2.2.2.2
  refine Ev.one ?_
  simp only [blackboardlaw13_WearGaps.l0, if_neg c1, if_neg c2, e1, if_pos c3, if_pos c4, if_pos c5, r1, r2, e2, Int.toNat_natCast]
  refine Ev.bind g1 ?_
  refine Ev.bind g2 ?_
  simp only [if_pos d1, e3, e4, if_pos d2, if_pos d3]
  cases hmq : (ms l).getD q false with
  | true => simp only [if_true]; exact Ev.now _
  | false => rw [d4 hmq]; simp only [Bool.false_eq_true, if_false, beq_self_eq_true]; exact Ev.now _
theorem vs_take (l : List S30) (i : Nat) (h : i < l.length) : vs (l.take i) ++ [l[i].f0] = vs (l.take (i + 1)) := by
  unfold vs
  rw [List.take_add_one, List.getElem?_eq_getElem h, List.map_append]; rfl
theorem ms_take (l : List S30) (i : Nat) (h : i < l.length) : ms (l.take i) ++ [Go.bits .and .u8 l[i].f1 1 == 1] = ms (l.take (i + 1)) := by
  unfold ms
  rw [List.take_add_one, List.getElem?_eq_getElem h, List.map_append]; rfl
theorem gaps_loop (l : List S30) (at_ : Int) (h0 : 0 ≤ at_) (h1 : at_ ≤ 255) (hn : l.length ≤ 200) (hp : 0 < l.length) (hg : ∀ y ∈ l, 0 ≤ y.f0 ∧ y.f0 ≤ 255) :
    ∀ d i, i + d = l.length → Ev (fun k => blackboardlaw13_WearGaps.l0 k l at_ (vs (l.take i)) (ms (l.take i)) (i : Int)) true := by
  intro d
  induction d with
  | zero =>
    intro i hi
    obtain rfl : i = l.length := by omega
    rw [List.take_length]
    exact gaps_end l at_ h0 h1 hn hp hg
  | succ d ih =>
    intro i hi
    have hil : i < l.length := by omega
    have ih' := ih (i + 1) (by omega)
    have hw : wrap64 ((i : Int) + 1) = ((i + 1 : Nat) : Int) := by rw [w64 (by omega) (by omega)]; rfl
    have c1 : ((i : Int) < (l.length : Int)) := by omega
    have c2 : 0 ≤ (i : Int) := by omega
    have hgi := hg _ (List.getElem_mem hil)
    have e1 : wrap64 (l[i].f0) = l[i].f0 := w64 (by omega) (by omega)
    have lv : (vs (l.take i)).length = i := by simp [vs]; omega
    have lm : (ms (l.take i)).length = i := by simp [ms]; omega
    rw [← vs_take l i hil, ← ms_take l i hil] at ih'
    refine Ev.one ?_
    simp only [blackboardlaw13_WearGaps.l0, if_pos c1, if_pos c2, rd_at l i hil, e1, Option.bind_some]
    have c3 : (vs (l.take i)).length + [l[i].f0].length < 17592186044416 := by rw [lv]; simp; omega
    have c4 : (ms (l.take i)).length + [Go.bits .and .u8 l[i].f1 1 == 1].length < 140737488355328 := by rw [lm]; simp; omega
    simp only [if_pos c3, if_pos c4, hw]
    exact ih'
theorem WearGaps (l : List S30) (at_ : Int) (hg : ∀ y ∈ l, ((Lit.int .u8 y.f0).wf = true ∧ (Lit.int .u8 y.f1).wf = true)) (ha : (Lit.int .u8 at_).wf = true) : ∃ k, blackboardlaw13_WearGaps.f k l at_ = some true := by
  have ha := bounds_u8 ha
  refine Ev.rounds ?_
  unfold blackboardlaw13_WearGaps.f
  refine Ev.bind awake13 ?_
  simp only [if_true]
  have out : Ev (fun k => blackboardlaw13_WearGaps.j0 k l at_ true) true := by
    refine Ev.one ?_
    simp only [blackboardlaw13_WearGaps.j0, if_true]
    exact Ev.now _
  by_cases c0 : l.length = 0
  · have c : (l.length : Int) = 0 := by omega
    simp only [if_pos c]
    exact out
  · have c : ¬ (l.length : Int) = 0 := by omega
    simp only [if_neg c]
    by_cases c2 : l.length > 200
    · have d : decide ((l.length : Int) > 200) = true := decide_eq_true (by omega)
      rw [d]; exact out
    · have d : decide ((l.length : Int) > 200) = false := decide_eq_false (by omega)
      rw [d]
      refine Ev.one ?_
      simp only [blackboardlaw13_WearGaps.j0, Bool.false_eq_true, if_false]
      exact gaps_loop l at_ (by omega) (by omega) (by omega) (by omega) (fun y hy => by have := bounds_u8 (hg y hy).1; omega) l.length 0 (by omega)
theorem WearGaps.walk (A0 : Option Addr) (c0 : Nat) (l0 : List (M.S30)) (a1 : Int) (w : World) (r0 : Kd.C M.k30 w A0 l0.length l0) (k0 : l0.length ≤ c0) (m0 : l0.length ≤ maxLen) (y0 : l0.length * 2 ≤ 140737488351232) (g0 : ∀ y ∈ l0, ((Lit.int .u8 y.f0).wf = true ∧ (Lit.int .u8 y.f1).wf = true)) (w1 : (Lit.int .u8 a1).wf = true) :
    Calls Try.prog 4 #[.slice A0 l0.length c0, .int .u8 a1] w fun e w' => e = .returned (.bool true) ∧ Below w.heap.size w w' := by
  obtain ⟨k, h⟩ := WearGaps l0 a1 g0 w1
  exact blackboardlaw13_WearGaps.calls k A0 c0 l0 a1 true w r0 k0 h
end Go.Proofs.Ytkmdefelepmfiaa.Pure
