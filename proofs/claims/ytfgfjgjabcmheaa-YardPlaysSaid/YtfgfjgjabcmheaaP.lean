/- What the functions of package wear, and the document's own, come to, as plain numbers and lists: by hand. -/
import Derived.Test.YtfgfjgjabcmheaaQx2
import Derived.OpenShut
set_option linter.unusedVariables false
set_option linter.unusedSimpArgs false
namespace Go.Proofs.Ytfgfjgjabcmheaa.Pure
open Go.RowKit Go.Proofs.Ytfgfjgjabcmheaa.Q Go.Proofs.YtfgfjgjabcmheaaW.PrintWords Go.Proofs.YtfgfjgjabcmheaaW.PrintLast

theorem w64 {x : Int} (h0 : -9223372036854775808 ≤ x) (h1 : x ≤ 9223372036854775807) : wrap64 x = x := by unfold wrap64; omega

/-- the first of the least, of those that may, below n -/
def sel (ok : Nat → Bool) (lt : Nat → Nat → Bool) : Nat → Option Nat
  | 0 => none
  | n + 1 => match sel ok lt n with
    | none => if ok n = true then some n else none
    | some b => if ok n = true then (if lt n b = true then some n else some b) else some b
def pr : Option Nat → Int × Bool
  | none => (0, false)
  | some b => ((b : Int), true)
theorem sel_lt {ok : Nat → Bool} {lt : Nat → Nat → Bool} : ∀ {n b : Nat}, sel ok lt n = some b → b < n ∧ ok b = true
  | 0, b, h => by simp [sel] at h
  | n + 1, b, h => by
    unfold sel at h
    cases hs : sel ok lt n with
    | none =>
      rw [hs] at h
      by_cases c : ok n = true
      · simp only [c, if_true, Option.some.injEq] at h; subst h; exact ⟨by omega, c⟩
      · simp [c] at h
    | some b' =>
      rw [hs] at h
      have ih := sel_lt hs
      by_cases c : ok n = true
      · by_cases d : lt n b' = true
        · simp only [c, d, if_true, Option.some.injEq] at h; subst h; exact ⟨by omega, c⟩
        · simp only [c, d, if_true, if_false, Option.some.injEq, Bool.false_eq_true] at h; subst h; exact ⟨by omega, ih.2⟩
      · simp only [c, if_false, Option.some.injEq, Bool.false_eq_true] at h; subst h; exact ⟨by omega, ih.2⟩
theorem sel_none {ok : Nat → Bool} {lt : Nat → Nat → Bool} : ∀ {n : Nat}, sel ok lt n = none → ∀ j, j < n → ok j = false
  | 0, _, j, hj => absurd hj (Nat.not_lt_zero _)
  | n + 1, h, j, hj => by
    unfold sel at h
    cases hs : sel ok lt n with
    | none =>
      rw [hs] at h
      by_cases c : ok n = true
      · simp [c] at h
      · by_cases e : j = n
        · subst e; simpa using c
        · exact sel_none hs j (by omega)
    | some b' =>
      rw [hs] at h
      by_cases c : ok n = true
      · by_cases d : lt n b' = true
        · simp [c, d] at h
        · simp [c, d] at h
      · simp [c] at h
theorem sel_stay {ok : Nat → Bool} {lt : Nat → Nat → Bool} (m : Nat) : ∀ d, (∀ j, m ≤ j → ok j = false) → sel ok lt (m + d) = sel ok lt m
  | 0, _ => rfl
  | d + 1, h => by
    have ih := sel_stay (lt := lt) m d h
    have e : sel ok lt (m + (d + 1)) = match sel ok lt (m + d) with
      | none => if ok (m + d) = true then some (m + d) else none
      | some b => if ok (m + d) = true then (if lt (m + d) b = true then some (m + d) else some b) else some b := rfl
    rw [e, ih]
    have := h (m + d) (by omega)
    cases sel ok lt m <;> simp [this]
theorem sel_congr {ok ok' : Nat → Bool} {lt lt' : Nat → Nat → Bool} : ∀ {n : Nat}, (∀ j, j < n → ok j = ok' j) → (∀ a b, ok a = true → ok b = true → lt a b = lt' a b) → sel ok lt n = sel ok' lt' n
  | 0, _, _ => rfl
  | n + 1, h, g => by
    have ih := sel_congr (n := n) (fun j hj => h j (by omega)) g
    unfold sel
    rw [← ih, ← h n (by omega)]
    cases hs : sel ok lt n with
    | none => rfl
    | some b =>
      have hb := sel_lt hs
      by_cases c : ok n = true
      · simp only [c, if_true, g n b c hb.2]
      · simp [c]

/-- what an order must be like: transitive, and so is its negation -/
structure Weak (lt : Nat → Nat → Bool) : Prop where
  irr : ∀ a, lt a a = false
  tr : ∀ a b c, lt a b = true → lt b c = true → lt a c = true
  neg : ∀ a b c, lt a b = true → lt c b = false → lt a c = true
theorem sel_least {ok : Nat → Bool} {lt : Nat → Nat → Bool} (W : Weak lt) : ∀ {n b : Nat}, sel ok lt n = some b → ∀ j, j < n → ok j = true → lt j b = false ∧ (j < b → lt b j = true)
  | 0, b, h => by simp [sel] at h
  | n + 1, b, h => by
    intro j hj hok
    unfold sel at h
    cases hs : sel ok lt n with
    | none =>
      rw [hs] at h
      have hn := sel_none hs
      by_cases c : ok n = true
      · simp only [c, if_true, Option.some.injEq] at h
        subst h
        have e : j = n := by
          by_cases e : j = n
          · exact e
          · have := hn j (by omega); rw [this] at hok; exact absurd hok (by simp)
        subst e
        exact ⟨W.irr _, fun h => absurd h (Nat.lt_irrefl _)⟩
      · simp [c] at h
    | some b' =>
      rw [hs] at h
      have ih := sel_least W hs
      have hb := sel_lt hs
      by_cases c : ok n = true
      · by_cases d : lt n b' = true
        · simp only [c, d, if_true, Option.some.injEq] at h
          subst h
          by_cases e : j = n
          · subst e; exact ⟨W.irr _, fun h => absurd h (Nat.lt_irrefl _)⟩
          · have h2 := ih j (by omega) hok
            have h3 := W.neg n b' j d h2.1
            refine ⟨?_, fun _ => h3⟩
            cases h4 : lt j n with
            | false => rfl
            | true => exact absurd (W.tr j n b' h4 d) (by rw [h2.1]; simp)
        · simp only [c, d, if_true, if_false, Option.some.injEq, Bool.false_eq_true] at h
          subst h
          by_cases e : j = n
          · subst e; exact ⟨by simpa using d, fun h => absurd h (by omega)⟩
          · exact ih j (by omega) hok
      · simp only [c, if_false, Option.some.injEq, Bool.false_eq_true] at h
        subst h
        by_cases e : j = n
        · subst e; exact absurd hok c
        · exact ih j (by omega) hok
theorem sel_is {ok : Nat → Bool} {lt : Nat → Nat → Bool} (W : Weak lt) {n b : Nat} (hb : b < n) (hok : ok b = true) (h : ∀ j, j < n → ok j = true → (j < b → lt b j = true) ∧ (b < j → lt j b = false)) : sel ok lt n = some b := by
  cases hs : sel ok lt n with
  | none => have := sel_none hs b hb; rw [hok] at this; exact absurd this (by simp)
  | some c =>
    have hc := sel_lt hs
    have hl := sel_least W hs b hb hok
    have hm := h c hc.1 hc.2
    rcases Nat.lt_trichotomy c b with e | e | e
    · rw [hm.1 e] at hl; exact absurd hl.1 (by simp)
    · rw [e]
    · have := hl.2 e; rw [hm.2 e] at this; exact absurd this (by simp)

/-! the program's functions -/
def okP (e : List Int) (may : List Bool) (i : Nat) : Bool := decide (i < may.length) && (decide (i < e.length) && may.getD i false)
def ltP (e : List Int) (a b : Nat) : Bool := decide (e.getD a 0 < e.getD b 0)
def okV (v e : List Int) (may : List Bool) (i : Nat) : Bool := decide (i < may.length) && (decide (i < v.length) && (decide (i < e.length) && may.getD i false))
def ltV (v e : List Int) (a b : Nat) : Bool := decide (v.getD a 0 < v.getD b 0 ∨ v.getD a 0 = v.getD b 0 ∧ e.getD a 0 < e.getD b 0)
theorem weakP (e : List Int) : Weak (ltP e) := by
  constructor
  · intro a; simp [ltP]
  · intro a b c; simp only [ltP, decide_eq_true_eq]; omega
  · intro a b c; simp only [ltP, decide_eq_true_eq, decide_eq_false_iff_not]; omega
theorem weakV (v e : List Int) : Weak (ltV v e) := by
  constructor
  · intro a; simp [ltV]
  · intro a b c; simp only [ltV, decide_eq_true_eq]; omega
  · intro a b c; simp only [ltV, decide_eq_true_eq, decide_eq_false_iff_not]; omega

theorem w01 : wrap64 (0 + 1) = 1 := by decide +kernel
theorem w12 : wrap64 (1 + 1) = 2 := by decide +kernel
theorem Ev.one {α : Type} {g : Nat → Option α} {r : α} (h : Ev (fun k => g (k + 1)) r) : Ev g r := Ev.step (fun _ => rfl) h
theorem there1 (e : List Int) (may : List Bool) (i : Nat) (h : i < may.length) : Ev (fun k => wear_there.f k (i : Int) may [e]) (okP e may i) := by
  unfold wear_there.f
  by_cases c : i < e.length
  · refine Ev.step (f := fun k => wear_there.l0 k (i : Int) may [e] 1 1) (fun k => ?_) (Ev.step (f := fun _ => some (okP e may i)) (fun k => ?_) (Ev.now _))
    · simp only [wear_there.l0]
      rw [if_pos (by simp), if_pos (by omega), if_pos (by simp), if_neg (by show ¬ ((i : Int) ≥ (e.length : Int)); omega), w01]
      rfl
    · simp only [wear_there.l0]
      rw [if_neg (by omega), if_pos (by omega), if_pos (by omega)]
      simp [okP, h, c, rdOf]
  · refine Ev.step (f := fun _ => some (okP e may i)) (fun k => ?_) (Ev.now _)
    simp only [wear_there.l0]
    rw [if_pos (by simp), if_pos (by omega), if_pos (by simp), if_pos (by show ((i : Int) ≥ (e.length : Int)); omega)]
    simp [okP, c]
theorem there2 (v e : List Int) (may : List Bool) (i : Nat) (h : i < may.length) : Ev (fun k => wear_there.f k (i : Int) may [v, e]) (okV v e may i) := by
  unfold wear_there.f
  by_cases c : i < v.length
  · refine Ev.step (f := fun k => wear_there.l0 k (i : Int) may [v, e] 2 1) (fun k => ?_) ?_
    · simp only [wear_there.l0]
      rw [if_pos (by simp), if_pos (by omega), if_pos (by simp), if_neg (by show ¬ ((i : Int) ≥ (v.length : Int)); omega), w01]
      rfl
    · by_cases c2 : i < e.length
      · refine Ev.step (f := fun k => wear_there.l0 k (i : Int) may [v, e] 2 2) (fun k => ?_) (Ev.step (f := fun _ => some (okV v e may i)) (fun k => ?_) (Ev.now _))
        · simp only [wear_there.l0]
          rw [if_pos (by omega), if_pos (by omega), if_pos (by simp), if_neg (by show ¬ ((i : Int) ≥ (e.length : Int)); omega), w12]
        · simp only [wear_there.l0]
          rw [if_neg (by omega), if_pos (by omega), if_pos (by omega)]
          simp [okV, h, c, c2, rdOf]
      · refine Ev.step (f := fun _ => some (okV v e may i)) (fun k => ?_) (Ev.now _)
        simp only [wear_there.l0]
        rw [if_pos (by omega), if_pos (by omega), if_pos (by simp), if_pos (by show ((i : Int) ≥ (e.length : Int)); omega)]
        simp [okV, c2]
  · refine Ev.step (f := fun _ => some (okV v e may i)) (fun k => ?_) (Ev.now _)
    simp only [wear_there.l0]
    rw [if_pos (by simp), if_pos (by omega), if_pos (by simp), if_pos (by show ((i : Int) ≥ (v.length : Int)); omega)]
    simp [okV, c]
theorem less1 (e : List Int) (a b : Nat) (ha : a < e.length) (hb : b < e.length) : Ev (fun k => wear_less.f k (a : Int) (b : Int) [e]) (ltP e a b) := by
  unfold wear_less.f
  by_cases c : e.getD a 0 = e.getD b 0
  · refine Ev.step (f := fun k => wear_less.l0 k (a : Int) (b : Int) [e] 1 1) (fun k => ?_) (Ev.step (f := fun _ => some (ltP e a b)) (fun k => ?_) (Ev.now _))
    · simp only [wear_less.l0]
      rw [if_pos (by simp), if_pos (by omega), if_pos (by simp), if_pos (by omega), if_pos (by show (a : Int) < (e.length : Int); omega), if_pos (by omega), if_pos (by show (b : Int) < (e.length : Int); omega), if_pos (by show e.getD (a : Int).toNat 0 = e.getD (b : Int).toNat 0; simpa using c), w01]
      rfl
    · simp only [wear_less.l0]
      rw [if_neg (by omega)]
      simp only [ltP, c, Int.lt_irrefl, decide_false]
  · refine Ev.step (f := fun _ => some (ltP e a b)) (fun k => ?_) (Ev.now _)
    simp only [wear_less.l0]
    rw [if_pos (by simp), if_pos (by omega), if_pos (by simp), if_pos (by omega), if_pos (by show (a : Int) < (e.length : Int); omega), if_pos (by omega), if_pos (by show (b : Int) < (e.length : Int); omega), if_neg (by show ¬ e.getD (a : Int).toNat 0 = e.getD (b : Int).toNat 0; simpa using c)]
    rfl
theorem less2 (v e : List Int) (a b : Nat) (hav : a < v.length) (hbv : b < v.length) (ha : a < e.length) (hb : b < e.length) : Ev (fun k => wear_less.f k (a : Int) (b : Int) [v, e]) (ltV v e a b) := by
  unfold wear_less.f
  by_cases c : v.getD a 0 = v.getD b 0
  · refine Ev.step (f := fun k => wear_less.l0 k (a : Int) (b : Int) [v, e] 2 1) (fun k => ?_) ?_
    · simp only [wear_less.l0]
      rw [if_pos (by simp), if_pos (by omega), if_pos (by simp), if_pos (by omega), if_pos (by show (a : Int) < (v.length : Int); omega), if_pos (by omega), if_pos (by show (b : Int) < (v.length : Int); omega), if_pos (by show v.getD (a : Int).toNat 0 = v.getD (b : Int).toNat 0; simpa using c), w01]
      rfl
    · by_cases c2 : e.getD a 0 = e.getD b 0
      · refine Ev.step (f := fun k => wear_less.l0 k (a : Int) (b : Int) [v, e] 2 2) (fun k => ?_) (Ev.step (f := fun _ => some (ltV v e a b)) (fun k => ?_) (Ev.now _))
        · simp only [wear_less.l0]
          rw [if_pos (by omega), if_pos (by omega), if_pos (by simp), if_pos (by omega), if_pos (by show (a : Int) < (e.length : Int); omega), if_pos (by omega), if_pos (by show (b : Int) < (e.length : Int); omega), if_pos (by show e.getD (a : Int).toNat 0 = e.getD (b : Int).toNat 0; simpa using c2), w12]
        · simp only [wear_less.l0]
          rw [if_neg (by omega)]
          simp only [ltV, c, c2, Int.lt_irrefl, and_false, or_false, decide_false]
      · refine Ev.step (f := fun _ => some (ltV v e a b)) (fun k => ?_) (Ev.now _)
        simp only [wear_less.l0]
        rw [if_pos (by omega), if_pos (by omega), if_pos (by simp), if_pos (by omega), if_pos (by show (a : Int) < (e.length : Int); omega), if_pos (by omega), if_pos (by show (b : Int) < (e.length : Int); omega), if_neg (by show ¬ e.getD (a : Int).toNat 0 = e.getD (b : Int).toNat 0; simpa using c2)]
        simp only [ltV, c, Int.lt_irrefl, true_and, false_or]
        rfl
  · refine Ev.step (f := fun _ => some (ltV v e a b)) (fun k => ?_) (Ev.now _)
    simp only [wear_less.l0]
    rw [if_pos (by simp), if_pos (by omega), if_pos (by simp), if_pos (by omega), if_pos (by show (a : Int) < (v.length : Int); omega), if_pos (by omega), if_pos (by show (b : Int) < (v.length : Int); omega), if_neg (by show ¬ v.getD (a : Int).toNat 0 = v.getD (b : Int).toNat 0; simpa using c)]
    simp only [ltV, c, false_and, or_false]
    rfl

theorem least_loop (may : List Bool) (rows : List (List Int)) (ok : Nat → Bool) (lt : Nat → Nat → Bool) (hL : may.length ≤ 140737488351232)
    (ht : ∀ i, i < may.length → Ev (fun k => wear_there.f k (i : Int) may rows) (ok i)) (hl : ∀ a b, ok a = true → ok b = true → Ev (fun k => wear_less.f k (a : Int) (b : Int) rows) (lt a b)) :
    ∀ d i, i + d = may.length → Ev (fun k => wear_least.l0 k may rows (pr (sel ok lt i)).1 (pr (sel ok lt i)).2 (may.length : Int) (i : Int)) (pr (sel ok lt may.length)) := by
  intro d
  induction d with
  | zero =>
    intro i hi
    obtain rfl : i = may.length := by omega
    refine Ev.step (f := fun _ => some (pr (sel ok lt may.length))) (fun k => ?_) (Ev.now _)
    simp only [wear_least.l0]
    rw [if_neg (by omega)]
  | succ d ih =>
    intro i hi
    have ih' := ih (i + 1) (by omega)
    have hw : wrap64 ((i : Int) + 1) = ((i + 1 : Nat) : Int) := by rw [w64 (by omega) (by omega)]; rfl
    have hlt : ((i : Int) < (may.length : Int)) := by omega
    refine Ev.one ?_
    simp only [wear_least.l0, if_pos hlt, hw]
    refine Ev.bind (ht i (by omega)) ?_
    cases hok : ok i with
    | false =>
      have hs : sel ok lt (i + 1) = sel ok lt i := by
        rw [sel]; cases sel ok lt i <;> simp [hok]
      rw [hs] at ih'
      simpa using ih'
    | true =>
      simp only [if_true]
      cases hs : sel ok lt i with
      | none =>
        have hs2 : sel ok lt (i + 1) = some i := by rw [sel, hs]; simp [hok]
        rw [hs2] at ih'
        simpa [pr] using ih'
      | some b =>
        have hb := sel_lt hs
        simp only [pr, if_true]
        refine Ev.bind (hl i b hok hb.2) ?_
        cases hc : lt i b with
        | true =>
          have hs2 : sel ok lt (i + 1) = some i := by rw [sel, hs]; simp [hok, hc]
          rw [hs2] at ih'
          simpa [pr] using ih'
        | false =>
          have hs2 : sel ok lt (i + 1) = some b := by rw [sel, hs]; simp [hok, hc]
          rw [hs2] at ih'
          simpa [pr] using ih'
theorem pick_is (e : List Int) (may : List Bool) (hL : may.length ≤ 140737488351232) : Ev (fun k => wear_Pick.f k e may) (pr (sel (okP e may) (ltP e) may.length)) := by
  unfold wear_Pick.f wear_least.f
  refine Ev.bind (least_loop may [e] (okP e may) (ltP e) hL (fun i hi => there1 e may i hi) (fun a b ha hb => less1 e a b ?_ ?_) may.length 0 (by omega)) (Ev.now _)
  · simp [okP] at ha; exact ha.2.1
  · simp [okP] at hb; exact hb.2.1
/-! the gap -/
end Go.Proofs.Ytfgfjgjabcmheaa.Pure
