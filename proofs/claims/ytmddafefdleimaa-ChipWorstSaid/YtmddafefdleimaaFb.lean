/- Fates as a list of number triples, and the map that holds them: plain. -/
import Derived.Test.YtmddafefdleimaaRw
import Derived.Maps.OwnSet
import Derived.Maps.RangeWalk
namespace Go.Proofs.Ytmddafefdleimaa.M
open Go.RowKit Go.Proofs.YtmddafefdleimaaW.PrintWords Go.Proofs.YtmddafefdleimaaW.PrintLast Go.Proofs.YtmddafefdleimaaW.PrintMore Go.Proofs.Ytmddafefdleimaa.Rw Go.Maps
set_option linter.unusedVariables false
set_option linter.unusedSimpArgs false
abbrev F := Int × Int × Int
abbrev Dm := DataW Unit
def encF (x : F) : Value := .agg #[.int .i64 x.1, .int .i64 x.2.1, .int .i64 x.2.2]
def datum (x : F) : Dm := .agg [.lit (.int .i64 x.1), .lit (.int .i64 x.2.1), .lit (.int .i64 x.2.2)]
theorem datum_inj {x y : F} (h : datum x = datum y) : x = y := by
  obtain ⟨a, b, c⟩ := x; obtain ⟨a', b', c'⟩ := y
  simp [datum] at h
  obtain ⟨rfl, rfl, rfl⟩ := h; rfl
def fateElem : Value → Option (Dm × List MemPlace)
  | .agg cs => match cs.toList with
    | [.int .i64 a, .int .i64 b, .int .i64 c] => some (datum (a, b, c), [])
    | _ => none
  | _ => none
theorem fateElem_mk (x : F) : fateElem (encF x) = some (datum x, []) := rfl
theorem fateElem_inv {v : Value} {z : Dm × List MemPlace} (h : fateElem v = some z) : ∃ x, v = encF x ∧ z = (datum x, []) := by
  unfold fateElem at h
  split at h
  · rename_i cs
    split at h
    · rename_i a b c hcs
      cases h
      exact ⟨(a, b, c), congrArg Value.agg (Array.toList_inj.1 hcs), rfl⟩
    · cases h
  · cases h
def kF (n : Int) : Lit := .int .i64 n
theorem kF_is (n : Int) : WideAt.IsKeyLit (kF n) := trivial
theorem kF_ne {m n : Int} (h : m ≠ n) : kF m ≠ kF n := fun e => h (by simpa [kF] using e)
def DFrom (D : Dm) (l : List F) : Dm := l.foldl (fun D x => D.put (kF x.1) (datum x)) D
def DF (l : List F) : Dm := DFrom (.map []) l
theorem DFrom_tidy : ∀ (l : List F) (D : Dm), Tidy D → Tidy (DFrom D l)
  | [], D, h => h
  | x :: l, D, h => DFrom_tidy l _ (h.put (kF_is _) _)
theorem has_from (n : Int) : ∀ (l : List F) (D : Dm), IsMap D → has (DFrom D l) (kF n) = (has D (kF n) || l.any (fun x => x.1 == n))
  | [], D, h => by simp [DFrom]
  | x :: l, D, h => by
    show has (DFrom (D.put (kF x.1) (datum x)) l) (kF n) = _
    rw [has_from n l _ (h.put _ _)]
    by_cases e : x.1 = n
    · subst e; rw [has_put_same h (kF_is _)]; simp
    · rw [has_put_other (kF_ne (Ne.symm e))]
      have : (x.1 == n) = false := beq_eq_false_iff_ne.2 e
      simp [this]
theorem at_skip (n : Int) (z : Dm) : ∀ (l : List F) (D : Dm), (∀ x ∈ l, x.1 ≠ n) → (DFrom D l).atKey (kF n) z = D.atKey (kF n) z
  | [], D, h => rfl
  | x :: l, D, h => by
    show (DFrom (D.put (kF x.1) (datum x)) l).atKey (kF n) z = _
    rw [at_skip n z l _ (fun y hy => h y (List.mem_cons_of_mem _ hy)), atKey_put_other (kF_ne (Ne.symm (h x List.mem_cons_self)))]
def Apart (l : List F) : Prop := l.Pairwise (fun x y => x.1 ≠ y.1)
theorem at_from (z : Dm) : ∀ (l : List F) (D : Dm), IsMap D → Apart l → ∀ x ∈ l, (DFrom D l).atKey (kF x.1) z = datum x
  | [], D, h, ha, x, hx => by simp at hx
  | y :: l, D, h, ha, x, hx => by
    show (DFrom (D.put (kF y.1) (datum y)) l).atKey (kF x.1) z = _
    obtain ⟨ha1, ha2⟩ := List.pairwise_cons.1 ha
    rcases List.mem_cons.1 hx with rfl | hx
    · rw [at_skip x.1 z l _ (fun q hq => Ne.symm (ha1 q hq)), atKey_put_same h (kF_is _)]
    · exact at_from z l _ (h.put _ _) ha2 x hx
theorem size_from : ∀ (l : List F) (D : Dm), Tidy D → size (DFrom D l) ≤ size D + l.length ∧ (size (DFrom D l) = size D + l.length ↔ Apart l ∧ ∀ x ∈ l, has D (kF x.1) = false)
  | [], D, h => by simp [DFrom, Apart]
  | x :: l, D, h => by
    have ht := h.put (kF_is x.1) (datum x)
    obtain ⟨h1, h2⟩ := size_from l _ ht
    have hs := size_put (k := kF x.1) h (datum x)
    have e : DFrom D (x :: l) = DFrom (D.put (kF x.1) (datum x)) l := rfl
    rw [e, List.length_cons]
    cases hd : has D (kF x.1) with
    | true =>
      rw [hd, if_pos rfl] at hs
      refine ⟨by omega, fun hh => by omega, fun hh => ?_⟩
      have := hh.2 x List.mem_cons_self
      rw [hd] at this; cases this
    | false =>
      rw [hd] at hs
      simp only [Bool.false_eq_true, if_false] at hs
      refine ⟨by omega, fun hh => ?_, fun hh => ?_⟩
      · obtain ⟨q1, q2⟩ := h2.1 (by omega)
        refine ⟨List.pairwise_cons.2 ⟨fun y hy e => ?_, q1⟩, fun y hy => ?_⟩
        · have := q2 y hy
          rw [← e, has_put_same h.isMap (kF_is _)] at this; cases this
        · rcases List.mem_cons.1 hy with rfl | hy
          · exact hd
          · by_cases e : y.1 = x.1
            · rw [e]; exact hd
            · have := q2 y hy
              rwa [has_put_other (kF_ne e)] at this
      · obtain ⟨q1, q2⟩ := hh
        obtain ⟨q3, q4⟩ := List.pairwise_cons.1 q1
        have := h2.2 ⟨q4, fun y hy => by rw [has_put_other (kF_ne (Ne.symm (q3 y hy)))]; exact q2 y (List.mem_cons_of_mem _ hy)⟩
        omega
theorem size_DF (l : List F) : size (DF l) ≤ l.length ∧ (size (DF l) = l.length ↔ Apart l) := by
  have h := size_from l (.map []) tidy_empty
  have e0 : size (DataW.map [] : Dm) = 0 := rfl
  have e1 : ∀ k, has (DataW.map [] : Dm) k = false := fun k => rfl
  rw [e0, Nat.zero_add] at h
  exact ⟨h.1, h.2.trans ⟨fun q => q.1, fun q => ⟨q, fun x _ => e1 _⟩⟩⟩
theorem has_DF (l : List F) (n : Int) : has (DF l) (kF n) = l.any (fun x => x.1 == n) := by
  have := has_from n l (.map []) isMap_empty
  rw [show has (DataW.map [] : Dm) (kF n) = false from rfl, Bool.false_or] at this
  exact this
theorem at_DF {l : List F} (h : Apart l) (z : Dm) {x : F} (hx : x ∈ l) : (DF l).atKey (kF x.1) z = datum x := at_from z l _ isMap_empty h x hx
theorem at_DF_none {l : List F} {n : Int} (z : Dm) (h : ∀ x ∈ l, x.1 ≠ n) : (DF l).atKey (kF n) z = z := at_skip n z l _ h
theorem DF_snoc (l : List F) (x : F) : DF (l ++ [x]) = (DF l).put (kF x.1) (datum x) := by simp [DF, DFrom, List.foldl_append]
theorem has_lit {l : List F} {k : Lit} (h : has (DF l) k = true) : ∃ n, k = kF n ∧ l.any (fun x => x.1 == n) = true := by
  by_cases e : ∃ n, k = kF n
  · obtain ⟨n, rfl⟩ := e; exact ⟨n, rfl, by rw [← has_DF]; exact h⟩
  · exfalso
    have : ∀ (l : List F) (D : Dm), has D k = false → has (DFrom D l) k = false := by
      intro l
      induction l with
      | nil => intro D h; exact h
      | cons x l ih => intro D h; exact ih _ (by rw [has_put_other (fun q => e ⟨_, q⟩)]; exact h)
    have h2 : has (DF l) k = false := this l _ rfl
    rw [h2] at h; cases h
end Go.Proofs.Ytmddafefdleimaa.M
