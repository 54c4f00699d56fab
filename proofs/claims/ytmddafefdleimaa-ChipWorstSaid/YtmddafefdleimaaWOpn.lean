/- Arguments of whatever plain type, opened once for all: what reads as data at a type stands in memory as the print's words (Kd) say. By hand, of this session. -/
import Derived.Test.YtmddafefdleimaaWWords
import Derived.Deep.Slices
import Derived.OpenShut
import Derived.SizedLaws
set_option linter.unusedVariables false
set_option linter.unusedSimpArgs false
namespace Go.Proofs.YtmddafefdleimaaW.Opn
open Go.RowKit Go.Proofs.YtmddafefdleimaaW.PrintWords Go.ChangeShapes Go.WideShapes
variable {H : Type} {enc : TypeId × Value → H} {P : Program} {w : World} {base : Nat} {sp : Nat → Bool} {held : Bool} {α : Type}

/-- Whatever reads as data at type t is such a value in memory. -/
def Opens (enc : TypeId × Value → H) (P : Program) (w : World) (base : Nat) (sp : Nat → Bool) (held : Bool) (t : TypeId) (K : α → List Value → Prop) (good : α → Prop) : Prop :=
  ∀ (fuel : Nat) (cs : List Value) (x : DataW H × List MemPlace), DataW.trod enc P w base sp held fuel t cs = some x → ∃ a, K a cs ∧ good a
theorem opens_int {t : TypeId} {k : IntKind} (ht : P.underlying t = some (.int k)) : Opens enc P w base sp held t ((Kd.int k).K w) (fun n => (Lit.int k n).wf = true) := by
  intro fuel cs x h
  obtain ⟨n, rfl, _, hw⟩ := DataW.trod_int ht h
  exact ⟨n, rfl, hw⟩
theorem opens_bool {t : TypeId} (ht : P.underlying t = some .bool) : Opens enc P w base sp held t (Kd.bool.K w) (fun _ => True) := by
  intro fuel cs x h
  obtain ⟨n, rfl, _⟩ := DataW.trod_bool ht h
  exact ⟨n, rfl, trivial⟩
theorem opens_string {t : TypeId} (ht : P.underlying t = some .string) : Opens enc P w base sp held t (Kd.string.K w) (fun s => s.size ≤ maxLen) := by
  intro fuel cs x h
  obtain ⟨n, rfl, _, hs⟩ := DataW.trod_string ht h
  exact ⟨n, rfl, hs⟩
/-- A list of values, one for each place. -/
theorem rowOf {n : Nat} {p : Nat → α → Prop} (h : ∀ i, i < n → ∃ x, p i x) : ∃ l : List α, l.length = n ∧ ∀ i y, l[i]? = some y → p i y := by
  induction n with
  | zero => exact ⟨[], rfl, fun i y hy => by simp at hy⟩
  | succ n ih =>
    obtain ⟨l, hl, hp⟩ := ih (fun i hi => h i (by omega))
    obtain ⟨x, hx⟩ := h n (by omega)
    refine ⟨l ++ [x], by simp [hl], fun i y hy => ?_⟩
    by_cases c : i < l.length
    · rw [List.getElem?_append_left c] at hy; exact hp i y hy
    · rw [List.getElem?_append_right (by omega)] at hy
      have hi : i - l.length = 0 := by
        by_cases e : i - l.length = 0
        · exact e
        · rw [List.getElem?_eq_none (by simp; omega)] at hy; simp at hy
      rw [hi] at hy
      simp at hy
      have : i = n := by omega
      subst this; subst hy; exact hx
/-- A slice of such. -/
theorem opens_row {d : Kd α} {t e : TypeId} {good : α → Prop} (ht : P.underlying t = some (.slice e)) (hc : P.cellsOf e = d.sz) (he : Opens enc P w base sp held e (d.K w) good)
    {fuel : Nat} {cs : List Value} {x : DataW H × List MemPlace} (h : DataW.trod enc P w base sp held fuel t cs = some x) :
    ∃ (A : Option Addr) (c : Nat) (l : List α), cs = [.slice A l.length c] ∧ l.length ≤ c ∧ d.C w A l.length l ∧ l.length ≤ maxLen ∧ ∀ y ∈ l, good y := by
  rcases Go.Deep.open_slice ht h with ⟨rfl, _⟩ | ⟨a, len, cap, m, n, D, Pl, rfl, hb, hl, hm, hmm, _, hx⟩
  · exact ⟨none, 0, [], rfl, Nat.le_refl _, ⟨rfl, by simp, fun h => absurd h (by simp)⟩, by simp, fun y hy => by simp at hy⟩
  · have hlm : len ≤ m := by rw [hmm]; split <;> omega
    obtain ⟨l, hll, hlp⟩ := rowOf (n := len) (p := fun i y => (∃ cs', w.cells? base (a.add (i * P.cellsOf e)) (P.cellsOf e) = some cs' ∧ d.K w y cs') ∧ good y) (fun i hi => by
      obtain ⟨cs', h1, h2⟩ := hx i (by omega)
      obtain ⟨y, h3, h4⟩ := he _ _ _ h2
      exact ⟨y, ⟨cs', h1, h3⟩, h4⟩)
    subst hll
    have hmax : l.length ≤ 9223372036854775807 := by unfold maxLen at hm; omega
    refine ⟨some a, cap, l, rfl, hl, ⟨rfl, hmax, fun _ => ⟨a, rfl, fun j y hy => ?_⟩⟩, by omega, fun y hy => ?_⟩
    · obtain ⟨⟨cs', h1, h3⟩, _⟩ := hlp j y hy
      obtain ⟨_, hlen, hcell⟩ := World.cells?_some h1
      refine ⟨cs', d.K_len h3, h3, fun i u hu => ?_⟩
      have hi : i < cs'.length := (List.getElem?_eq_some_iff.1 hu).1
      have := hcell i (by omega)
      rw [hu, hc, Go.Deep.add_add] at this
      exact this
    · obtain ⟨i, hi, rfl⟩ := List.mem_iff_getElem.1 hy
      exact (hlp i _ (List.getElem?_eq_getElem hi)).2
theorem opens_slice {d : Kd α} {t e : TypeId} {good : α → Prop} (ht : P.underlying t = some (.slice e)) (hc : P.cellsOf e = d.sz) (he : Opens enc P w base sp held e (d.K w) good) :
    Opens enc P w base sp held t ((Kd.slice e d).K w) (fun l => l.length ≤ maxLen ∧ ∀ y ∈ l, good y) := by
  intro fuel cs x h
  obtain ⟨A, c, l, h1, h2, h3, h4⟩ := opens_row ht hc he h
  exact ⟨l, ⟨A, c, h1, h2, h3⟩, h4⟩
/-- A parameter that is a slice. -/
theorem open_row {d : Kd α} {t e : TypeId} {good : α → Prop} {a : Option Addr} {len cap : Nat} {dd : DataW H} {ps : List MemPlace} (ht : P.underlying t = some (.slice e)) (hc : P.cellsOf e = d.sz) (he : Opens enc P w base sp held e (d.K w) good)
    (h : DataW.Trod enc P w base sp held t (.slice a len cap) dd ps) : ∃ l : List α, len = l.length ∧ l.length ≤ cap ∧ d.C w a l.length l ∧ l.length ≤ maxLen ∧ ∀ y ∈ l, good y := by
  obtain ⟨fuel, hf⟩ := h
  obtain ⟨A, c, l, h1, h2, h3, h4⟩ := opens_row ht hc he hf
  simp [Value.cells] at h1
  obtain ⟨rfl, rfl, rfl⟩ := h1
  exact ⟨l, rfl, h2, h3, h4⟩
/-- What a slice that came in weighs: so many elements of so many bytes. -/
theorem sized_row {W : World} {t e : TypeId} {a : Option Addr} {len cap : Nat} {d : DataW H} {ps : List MemPlace} {ts : List TypeId} {ds : List (DataW H)} {j : Nat}
    (hsz : (DataW.weightsEach P ts ds).all (· ≤ reachBytes) = true) (ht : ts[j]? = some t) (hd : ds[j]? = some d) (hu : P.underlying t = some (.slice e)) {B : Nat} (hB : P.bytesOf e = B)
    (h : DataW.Trod enc P W base sp held t (.slice a len cap) d ps) : len * B ≤ 140737488351232 := by
  obtain ⟨fuel, hf⟩ := h
  rcases Go.Deep.open_slice hu hf with ⟨hcs, _⟩ | ⟨x, l, c, m, n, D, Pl, hcs, _, hl, _, hm, hx, _⟩
  · simp [Value.cells] at hcs
    obtain ⟨rfl, rfl, rfl⟩ := hcs
    simp
  · simp [Value.cells] at hcs
    obtain ⟨rfl, rfl, rfl⟩ := hcs
    obtain ⟨hx, _⟩ := Prod.mk.inj hx
    subst hx
    have z := sized_slice hsz ht hd hu
    rw [hB] at z
    simp [reachBytes] at z
    have : len * B ≤ (len + (m - len)) * B := Nat.mul_le_mul_right _ (by omega)
    omega
/-! ### Structs and arrays -/
variable {β : Type}
/-- The fields from one on, in a struct's cells. -/
def OpensF (enc : TypeId × Value → H) (P : Program) (w : World) (base : Nat) (sp : Nat → Bool) (held : Bool) (fs : List Field) (off total : Nat) (K : α → List Value → Prop) (good : α → Prop) : Prop :=
  ∀ (n : Nat) (cs : List Value), cs.length = total → (∀ f ∈ fs, ∃ x, DataW.trod enc P w base sp held n f.type ((cs.drop f.offset).take (P.cellsOf f.type)) = some x) → ∃ a, K a (cs.drop off) ∧ good a
theorem opensF_one {f : Field} {off total : Nat} {K : α → List Value → Prop} {good : α → Prop} (ho : f.offset = off) (hc : off + P.cellsOf f.type = total) (h : Opens enc P w base sp held f.type K good) : OpensF enc P w base sp held [f] off total K good := by
  intro n cs hl hf
  obtain ⟨x, hx⟩ := hf f (by simp)
  obtain ⟨a, ha, hg⟩ := h n _ x hx
  rw [ho, List.take_of_length_le (by simp; omega)] at ha
  exact ⟨a, ha, hg⟩
theorem opensF_cons {f : Field} {fs : List Field} {off off' total : Nat} {d : Kd α} {d' : Kd β} {good : α → Prop} {good' : β → Prop} (ho : f.offset = off) (hc : off + P.cellsOf f.type = off') (h : Opens enc P w base sp held f.type (d.K w) good)
    (h' : OpensF enc P w base sp held fs off' total (d'.K w) good') : OpensF enc P w base sp held (f :: fs) off total ((Kd.pair d d').K w) (fun x => good x.1 ∧ good' x.2) := by
  intro n cs hl hf
  obtain ⟨x, hx⟩ := hf f (by simp)
  obtain ⟨a, ha, hg⟩ := h n _ x hx
  obtain ⟨b, hb, hg'⟩ := h' n cs hl (fun g hg => hf g (by simp [hg]))
  refine ⟨(a, b), ⟨_, _, ?_, ha, hb⟩, hg, hg'⟩
  rw [ho, ← hc, ← List.drop_drop]
  exact (List.take_append_drop _ _).symm
theorem opens_struct {t : TypeId} {fs : Array Field} {total : Nat} {K : α → List Value → Prop} {good : α → Prop} (ht : P.underlying t = some (.struct fs)) (hc : P.cellsOf t = total) (h : OpensF enc P w base sp held fs.toList 0 total K good) : Opens enc P w base sp held t K good := by
  intro fuel cs x hx
  obtain ⟨xs, n, rfl, _, hl, hxs, hf⟩ := DataW.trod_struct ht hx
  obtain ⟨a, ha, hg⟩ := h n cs (hl.trans hc) (fun f hf' => by
    obtain ⟨i, hi, rfl⟩ := List.mem_iff_getElem.1 hf'
    have hi' : i < fs.size := by simpa using hi
    have := hf i fs.toList[i] (by simp [Array.getElem?_eq_getElem hi'])
    rw [List.getElem?_eq_getElem (by omega)] at this
    exact ⟨_, this⟩)
  exact ⟨a, by simpa using ha, hg⟩
theorem opens_iso {t : TypeId} {d : Kd α} {good : α → Prop} (f : β → α) (g : α → β) (hfg : ∀ a, f (g a) = a) (h : Opens enc P w base sp held t (d.K w) good) : Opens enc P w base sp held t ((Kd.iso d f).K w) (fun b => good (f b)) := by
  intro fuel cs x hx
  obtain ⟨a, ha, hg⟩ := h fuel cs x hx
  exact ⟨g a, by show d.K w (f (g a)) cs; rwa [hfg], by show good (f (g a)); rwa [hfg]⟩
theorem opens_arr2 {t e : TypeId} {d : Kd α} {good : α → Prop} (ht : P.underlying t = some (.array 2 e)) (hc : P.cellsOf e = 1) (hc2 : P.cellsOf t = 2) (h : Opens enc P w base sp held e (d.K w) good) :
    Opens enc P w base sp held t ((Kd.pair d d).K w) (fun x => good x.1 ∧ good x.2) := by
  intro fuel cs x hx
  obtain ⟨xs, m, rfl, _, hl, hxs, hf⟩ := DataW.trod_array ht hx
  obtain ⟨c0, c1, rfl⟩ : ∃ c0 c1, cs = [c0, c1] := by
    match cs, hl.trans hc2 with
    | [c0, c1], _ => exact ⟨c0, c1, rfl⟩
  have h0 := hf 0 (by omega)
  have h1 := hf 1 (by omega)
  rw [hc, List.getElem?_eq_getElem (by omega)] at h0 h1
  obtain ⟨a, ha, hga⟩ := h _ _ _ h0
  obtain ⟨b, hb, hgb⟩ := h _ _ _ h1
  exact ⟨(a, b), ⟨[c0], [c1], rfl, ha, hb⟩, hga, hgb⟩
theorem opens_arr3 {t e : TypeId} {d : Kd α} {good : α → Prop} (ht : P.underlying t = some (.array 3 e)) (hc : P.cellsOf e = 1) (hc2 : P.cellsOf t = 3) (h : Opens enc P w base sp held e (d.K w) good) :
    Opens enc P w base sp held t ((Kd.pair d (Kd.pair d d)).K w) (fun x => good x.1 ∧ good x.2.1 ∧ good x.2.2) := by
  intro fuel cs x hx
  obtain ⟨xs, m, rfl, _, hl, hxs, hf⟩ := DataW.trod_array ht hx
  obtain ⟨c0, c1, c2, rfl⟩ : ∃ c0 c1 c2, cs = [c0, c1, c2] := by
    match cs, hl.trans hc2 with
    | [c0, c1, c2], _ => exact ⟨c0, c1, c2, rfl⟩
  have h0 := hf 0 (by omega)
  have h1 := hf 1 (by omega)
  have h2 := hf 2 (by omega)
  rw [hc, List.getElem?_eq_getElem (by omega)] at h0 h1 h2
  obtain ⟨a, ha, hga⟩ := h _ _ _ h0
  obtain ⟨b, hb, hgb⟩ := h _ _ _ h1
  obtain ⟨c, hcc, hgc⟩ := h _ _ _ h2
  exact ⟨(a, b, c), ⟨[c0], [c1, c2], rfl, ha, [c1], [c2], rfl, hb, hcc⟩, hga, hgb, hgc⟩
/-- A parameter that is a struct, by value. -/
theorem open_agg {t : TypeId} {fs : Array Field} {K : α → List Value → Prop} {good : α → Prop} {r : Reach} {b0 : Nat} {v : Value} {d : DataW H} {ps : List MemPlace} (ht : P.underlying t = some (.struct fs)) (hv : Value.okWide P w r b0 t v)
    (h : DataW.Trod enc P w base sp held t v d ps) (hO : Opens enc P w base sp held t K good) : ∃ (cs : List Value) (a : α), v = .agg cs.toArray ∧ K a cs ∧ good a := by
  obtain ⟨cs, rfl, _⟩ := okWide_struct ht hv
  obtain ⟨fuel, hf⟩ := h
  obtain ⟨a, ha, hg⟩ := hO _ _ _ hf
  exact ⟨cs.toList, a, by simp, by simpa [Value.cells] using ha, hg⟩
theorem open_arr {t e : TypeId} {n : Nat} {K : α → List Value → Prop} {good : α → Prop} {r : Reach} {b0 : Nat} {v : Value} {d : DataW H} {ps : List MemPlace} (ht : P.underlying t = some (.array n e)) (hv : Value.okWide P w r b0 t v)
    (h : DataW.Trod enc P w base sp held t v d ps) (hO : Opens enc P w base sp held t K good) : ∃ (cs : List Value) (a : α), v = .agg cs.toArray ∧ K a cs ∧ good a := by
  simp only [Value.okWide, ht] at hv
  obtain ⟨cs, rfl, _⟩ := hv
  obtain ⟨fuel, hf⟩ := h
  obtain ⟨a, ha, hg⟩ := hO _ _ _ hf
  exact ⟨cs.toList, a, by simp, by simpa [Value.cells] using ha, hg⟩
end Go.Proofs.YtmddafefdleimaaW.Opn
