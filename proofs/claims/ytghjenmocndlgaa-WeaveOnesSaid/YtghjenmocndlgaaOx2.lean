/- Printed for this seat by a program of this session (over the kit's print), with contracts of its own laid in. -/
import Derived.Test.YtghjenmocndlgaaOx0
import Derived.Test.YtghjenmocndlgaaOx1
namespace Go.Proofs.Ytghjenmocndlgaa.O
open Go.RowKit Go.Proofs.YtghjenmocndlgaaW.PrintWords Go.Proofs.YtghjenmocndlgaaW.PrintLast Go.Proofs.YtghjenmocndlgaaW.PrintMore
attribute [local go_sem] max2_int min2_int max_two min_two max_three min_three max_four min_four   -- for this text's walks alone
set_option linter.unusedVariables false
set_option linter.unusedSimpArgs false

/-! ### weave_Out: function 10 -/
mutual
def weave_Out.j0 : Nat → Int → List (List Int) → Bool → Option (List Int × Int)
  | 0, _, _, _ => none
  | k + 1, x0, x1, x22 => if x22 = true then (some (([] : List Int), 1)) else (if 0 < (x1.length : Int) then (weave_Out.l0 k x0 x1 ((rd_L1 x1 0).length : Int) 0) else (none))
def weave_Out.l0 : Nat → Int → List (List Int) → Int → Int → Option (List Int × Int)
  | 0, _, _, _, _ => none
  | k + 1, x0, x1, x6, x7 => if x7 < x0 then (if 0 ≤ x7 then (if x7 < (x1.length : Int) then (if ((rd_L1 x1 x7).length : Int) = x6 then (if x6 = 0 then (some (([] : List Int), 3)) else (weave_Out.l0 k x0 x1 x6 (wrap64 (x7 + 1)))) else (some (([] : List Int), 3))) else (none)) else (none)) else (weave_Out.l1 k x0 x1 x6 ([] : List Int) 0)
def weave_Out.l1 : Nat → Int → List (List Int) → Int → List Int → Int → Option (List Int × Int)
  | 0, _, _, _, _, _ => none
  | k + 1, x0, x1, x6, x8, x9 => if x9 < x6 then (weave_Out.l2 k x0 x1 x6 x8 x9 0) else (some (x8, 0))
def weave_Out.l2 : Nat → Int → List (List Int) → Int → List Int → Int → Int → Option (List Int × Int)
  | 0, _, _, _, _, _, _ => none
  | k + 1, x0, x1, x6, x8, x9, x10 => if x10 < x0 then (if 0 ≤ x10 then (if x10 < (x1.length : Int) then (if 0 ≤ x9 then (if x9 < ((rd_L1 x1 x10).length : Int) then (if x8.length < 70368744177664 then (weave_Out.l2 k x0 x1 x6 (x8 ++ [rd (rd_L1 x1 x10) x9]) x9 (wrap64 (x10 + 1))) else (none)) else (none)) else (none)) else (none)) else (none)) else (weave_Out.l1 k x0 x1 x6 x8 (wrap64 (x9 + 1)))
end
def weave_Out.f (k : Nat) (a0 : Int) (l1 : List (List Int)) : Option (List Int × Int) := if a0 < 1 then (weave_Out.j0 k a0 l1 true) else (if a0 > 4 then (weave_Out.j0 k a0 l1 true) else (weave_Out.j0 k a0 l1 ((l1.length : Int) != a0)))
theorem weave_Out.mono_l : ∀ k, (∀ y0 y1 y2, LeO (weave_Out.j0 k y0 y1 y2) (weave_Out.j0 (k + 1) y0 y1 y2)) ∧ (∀ y0 y1 y2 y3, LeO (weave_Out.l0 k y0 y1 y2 y3) (weave_Out.l0 (k + 1) y0 y1 y2 y3)) ∧ (∀ y0 y1 y2 y3 y4, LeO (weave_Out.l1 k y0 y1 y2 y3 y4) (weave_Out.l1 (k + 1) y0 y1 y2 y3 y4)) ∧ (∀ y0 y1 y2 y3 y4 y5, LeO (weave_Out.l2 k y0 y1 y2 y3 y4 y5) (weave_Out.l2 (k + 1) y0 y1 y2 y3 y4 y5))
  | 0 => ⟨fun _ _ _ r h => by simp [weave_Out.j0] at h, fun _ _ _ _ r h => by simp [weave_Out.l0] at h, fun _ _ _ _ _ r h => by simp [weave_Out.l1] at h, fun _ _ _ _ _ _ r h => by simp [weave_Out.l2] at h⟩
  | k + 1 => by
    obtain ⟨ih0, ih1, ih2, ih3⟩ := weave_Out.mono_l k
    refine ⟨?_, ?_, ?_, ?_⟩
    · intro y0 y1 y2
      unfold weave_Out.j0
      repeat' first
      | (with_reducible exact ih0 _ _ _)
      | (with_reducible exact ih1 _ _ _ _)
      | (with_reducible exact ih2 _ _ _ _ _)
      | (with_reducible exact ih3 _ _ _ _ _ _)
      | (with_reducible exact LeO.refl _)
      | (with_reducible exact LeO.none _)
      | (with_reducible refine LeO.ite ?_ ?_)
      | (with_reducible refine LeO.bind ?_ (fun _ => ?_))
      | exact ih0 _ _ _
      | exact ih1 _ _ _ _
      | exact ih2 _ _ _ _ _
      | exact ih3 _ _ _ _ _ _
      | exact LeO.none _
      | refine LeO.ite ?_ ?_
      | refine LeO.bind ?_ (fun _ => ?_)
    · intro y0 y1 y2 y3
      unfold weave_Out.l0
      repeat' first
      | (with_reducible exact ih0 _ _ _)
      | (with_reducible exact ih1 _ _ _ _)
      | (with_reducible exact ih2 _ _ _ _ _)
      | (with_reducible exact ih3 _ _ _ _ _ _)
      | (with_reducible exact LeO.refl _)
      | (with_reducible exact LeO.none _)
      | (with_reducible refine LeO.ite ?_ ?_)
      | (with_reducible refine LeO.bind ?_ (fun _ => ?_))
      | exact ih0 _ _ _
      | exact ih1 _ _ _ _
      | exact ih2 _ _ _ _ _
      | exact ih3 _ _ _ _ _ _
      | exact LeO.none _
      | refine LeO.ite ?_ ?_
      | refine LeO.bind ?_ (fun _ => ?_)
    · intro y0 y1 y2 y3 y4
      unfold weave_Out.l1
      repeat' first
      | (with_reducible exact ih0 _ _ _)
      | (with_reducible exact ih1 _ _ _ _)
      | (with_reducible exact ih2 _ _ _ _ _)
      | (with_reducible exact ih3 _ _ _ _ _ _)
      | (with_reducible exact LeO.refl _)
      | (with_reducible exact LeO.none _)
      | (with_reducible refine LeO.ite ?_ ?_)
      | (with_reducible refine LeO.bind ?_ (fun _ => ?_))
      | exact ih0 _ _ _
      | exact ih1 _ _ _ _
      | exact ih2 _ _ _ _ _
      | exact ih3 _ _ _ _ _ _
      | exact LeO.none _
      | refine LeO.ite ?_ ?_
      | refine LeO.bind ?_ (fun _ => ?_)
    · intro y0 y1 y2 y3 y4 y5
      unfold weave_Out.l2
      repeat' first
      | (with_reducible exact ih0 _ _ _)
      | (with_reducible exact ih1 _ _ _ _)
      | (with_reducible exact ih2 _ _ _ _ _)
      | (with_reducible exact ih3 _ _ _ _ _ _)
      | (with_reducible exact LeO.refl _)
      | (with_reducible exact LeO.none _)
      | (with_reducible refine LeO.ite ?_ ?_)
      | (with_reducible refine LeO.bind ?_ (fun _ => ?_))
      | exact ih0 _ _ _
      | exact ih1 _ _ _ _
      | exact ih2 _ _ _ _ _
      | exact ih3 _ _ _ _ _ _
      | exact LeO.none _
      | refine LeO.ite ?_ ?_
      | refine LeO.bind ?_ (fun _ => ?_)
theorem weave_Out.mono : ∀ a0 a1 k, LeO (weave_Out.f k a0 a1) (weave_Out.f (k + 1) a0 a1) := by
  intro a0 a1 k
  obtain ⟨ih0, ih1, ih2, ih3⟩ := weave_Out.mono_l k
  unfold weave_Out.f
  repeat' first
      | (with_reducible exact ih0 _ _ _)
      | (with_reducible exact ih1 _ _ _ _)
      | (with_reducible exact ih2 _ _ _ _ _)
      | (with_reducible exact ih3 _ _ _ _ _ _)
      | (with_reducible exact LeO.refl _)
      | (with_reducible exact LeO.none _)
      | (with_reducible refine LeO.ite ?_ ?_)
      | (with_reducible refine LeO.bind ?_ (fun _ => ?_))
      | exact ih0 _ _ _
      | exact ih1 _ _ _ _
      | exact ih2 _ _ _ _ _
      | exact ih3 _ _ _ _ _ _
      | exact LeO.none _
      | refine LeO.ite ?_ ?_
      | refine LeO.bind ?_ (fun _ => ?_)
/-! the closure of weave.Out, and slices.IndexFunc / ContainsFunc at it: by hand -/
set_option maxHeartbeats 1000000 in
theorem weaveClos (A : Option Addr) (n c gb : Nat) (m : Int) (w : World) (hc : w.cell? ⟨gb, 0, none⟩ = some (.int .i64 m)) :
    Calls Try.prog 19 #[.slice A n c, .pointer (some ⟨gb, 0, none⟩)] w fun e w' => e = .returned (.bool ((n : Int) != m)) ∧ w = w' := by
  go_enter Try.func19, Try.ntmps19
  go_wp2
  go_ret
  exact ⟨rfl, rfl⟩

/-- does a row hold a word of another length? -/
def oddOne (l : List (List Int)) (m : Int) : Bool := l.any fun x => (x.length : Int) != m
theorem oddOne_none {l : List (List Int)} {m : Int} (h : ∀ i : Nat, i < l.length → ((l.getD i []).length : Int) = m) : oddOne l m = false := by
  unfold oddOne
  rw [List.any_eq_false]
  intro x hx
  obtain ⟨i, hi, rfl⟩ := List.mem_iff_getElem.1 hx
  have := h i hi
  rw [List.getD_eq_getElem?_getD, List.getElem?_eq_getElem hi, Option.getD_some] at this
  simp [this]
theorem oddOne_some {l : List (List Int)} {m : Int} (i : Nat) (hi : i < l.length) (h : ((l.getD i []).length : Int) ≠ m) : oddOne l m = true := by
  unfold oddOne
  rw [List.any_eq_true]
  refine ⟨l[i], List.getElem_mem hi, ?_⟩
  rw [List.getD_eq_getElem?_getD, List.getElem?_eq_getElem hi, Option.getD_some] at h
  simpa using h

set_option maxHeartbeats 2000000 in
theorem weaveIndex (A1 : Option Addr) (c1 : Nat) (l1 : List (List Int)) (gb : Nat) (m : Int) (w : World) (hr1 : Kd.C (Kd.slice 22 (Kd.int .u16)) w A1 l1.length l1) (hlen : l1.length ≤ 1000000)
    (hc : w.cell? ⟨gb, 0, none⟩ = some (.int .i64 m)) :
    Calls Try.prog 21 #[.slice A1 l1.length c1, .func (.func 19) #[] #[.pointer (some ⟨gb, 0, none⟩)]] w
      fun e w' => (∃ r : Int, e = .returned (.int .i64 r) ∧ Aside0 (decide (0 ≤ r) = oddOne l1 m)) ∧ Drawn0 w w' := by
  have HR1 := Aside0.mk hr1
  have HM := Aside0.mk hc
  have HL := Aside0.mk hlen
  clear hr1 hc hlen
  go_enter Try.func21, Try.ntmps21
  go_wp2
  go_loopg [5, 8] l1.length (fun gg _ s8 wr => ∃ kk : Nat, kk ≤ l1.length ∧ l1.length - kk ≤ gg ∧ s8 = .int .i64 kk ∧ wr = w ∧ Aside0 (∀ j, j < kk → ((l1.getD j []).length : Int) = m))
  case atStart => exact ⟨0, Nat.zero_le _, by omega, rfl, rfl, ⟨fun j hj => absurd hj (Nat.not_lt_zero _)⟩⟩
  case round =>
    obtain ⟨kk, hkk, hg, rfl, rfl, HA⟩ := hrel
    by_cases hlt : kk < l1.length
    · have hltz : (kk : Int) < (l1.length : Int) := by omega
      have p0 : 0 ≤ (kk : Int) := by omega
      obtain ⟨ad, A0, c0, e0, hx0, hl0, hi0⟩ := at_L1 HR1.out kk p0 hltz
      cases e0
      rw [Int.toNat_natCast] at hx0
      have hlen := HL.out
      have hcall := weaveClos A0 (rd_L1 l1 kk).length c0 gb m wr HM.out
      have Hcall := Aside0.mk hcall
      clear hcall hl0 hi0
      have pp := eq_true p0
      have qq := eq_true hltz
      by_cases hq : ((rd_L1 l1 kk).length : Int) = m
      · have hqb : (((rd_L1 l1 kk).length : Int) != m) = false := by simp [hq]
        have Hq := Aside0.mk hq
        clear hq
        go_wp2_with (go_at_call 19; refine Hcall.out.mono ?_; rintro e w' ⟨rfl, rfl⟩)
        go_roundg (l1.length - (kk + 1))
        case measure => omega
        case rel =>
          refine ⟨kk + 1, by omega, by omega, ?_, rfl, ⟨fun j hj => ?_⟩⟩
          · go_num
          · by_cases e : j = kk
            · subst e; exact Hq.out
            · exact HA.out j (by omega)
      · have hqb : (((rd_L1 l1 kk).length : Int) != m) = true := by simpa using hq
        have Hq := Aside0.mk hq
        clear hq
        go_wp2_with (go_at_call 19; refine Hcall.out.mono ?_; rintro e w' ⟨rfl, rfl⟩)
        go_ret
        refine ⟨⟨_, rfl, ⟨?_⟩⟩, Drawn0.refl _⟩
        rw [oddOne_some kk hlt Hq.out]
        simp
    · have hltz : ¬ (kk : Int) < (l1.length : Int) := by omega
      obtain rfl : kk = l1.length := by omega
      go_wp2
      go_ret
      refine ⟨⟨_, rfl, ⟨?_⟩⟩, Drawn0.refl _⟩
      rw [oddOne_none HA.out]
      simp
set_option maxHeartbeats 1000000 in
theorem weaveContains (A1 : Option Addr) (c1 : Nat) (l1 : List (List Int)) (gb : Nat) (m : Int) (w : World) (hr1 : Kd.C (Kd.slice 22 (Kd.int .u16)) w A1 l1.length l1) (hlen : l1.length ≤ 1000000)
    (hc : w.cell? ⟨gb, 0, none⟩ = some (.int .i64 m)) :
    Calls Try.prog 18 #[.slice A1 l1.length c1, .func (.func 19) #[] #[.pointer (some ⟨gb, 0, none⟩)]] w
      fun e w' => e = .returned (.bool (oddOne l1 m)) ∧ Drawn0 w w' := by
  have Hcall := Aside0.mk (weaveIndex A1 c1 l1 gb m w hr1 hlen hc)
  clear hr1 hlen hc
  go_enter Try.func18, Try.ntmps18
  go_wp2_with (go_at_call 21; refine Hcall.out.mono ?_; rintro e w' ⟨⟨r, rfl, hr⟩, hd⟩; have HD := Aside0.mk hd; clear hd)
  go_ret
  exact ⟨by rw [hr.out]; rfl, HD.out⟩

theorem weave_all {l : List (List Int)} {m : Int} (h : oddOne l m = false) (i : Int) (h0 : 0 ≤ i) (h1 : i < l.length) : ((rd_L1 l i).length : Int) = m := by
  unfold oddOne at h
  rw [List.any_eq_false] at h
  have hi : i.toNat < l.length := by omega
  have := h l[i.toNat] (List.getElem_mem hi)
  unfold rd_L1
  rw [List.getD_eq_getElem?_getD, List.getElem?_eq_getElem hi, Option.getD_some]
  simpa using this

theorem weave_l0 (a0 : Int) (l1 : List (List Int)) (n : Int) (r : List Int × Int) (ha : a0 = l1.length) (hs : l1.length ≤ 4) : ∀ (d k : Nat) (i : Int), 0 ≤ i → i ≤ a0 → a0 - i = d → (∀ j : Nat, (j : Int) < i → ((l1.getD j []).length : Int) = n) → (0 < i → n ≠ 0) →
    weave_Out.l0 k a0 l1 n i = some r → (r = ([], 3) ∧ (n = 0 ∨ oddOne l1 n = true)) ∨ ((0 < a0 → n ≠ 0) ∧ oddOne l1 n = false ∧ ∃ k', weave_Out.l1 k' a0 l1 n [] 0 = some r) := by
  intro d
  induction d with
  | zero =>
    intro k i h0 h1 hd hj hn H
    cases k with
    | zero => exact absurd H (by simp [weave_Out.l0])
    | succ k =>
      simp only [weave_Out.l0] at H
      rw [if_neg (by omega)] at H
      exact .inr ⟨fun h => hn (by omega), oddOne_none fun j hjl => hj j (by omega), k, H⟩
  | succ d ih =>
    intro k i h0 h1 hd hj hn H
    cases k with
    | zero => exact absurd H (by simp [weave_Out.l0])
    | succ k =>
      simp only [weave_Out.l0] at H
      rw [if_pos (by omega), if_pos h0, if_pos (by omega)] at H
      by_cases c : ((rd_L1 l1 i).length : Int) = n
      · rw [if_pos c] at H
        by_cases z : n = 0
        · rw [if_pos z] at H
          exact .inl ⟨(Option.some.inj H).symm, .inl z⟩
        · rw [if_neg z, show wrap64 (i + 1) = i + 1 from by unfold wrap64; omega] at H
          refine ih k (i + 1) (by omega) (by omega) (by omega) (fun j hj' => ?_) (fun _ => z) H
          by_cases e : (j : Int) = i
          · subst e
            unfold rd_L1 at c
            rwa [Int.toNat_natCast] at c
          · exact hj j (by omega)
      · rw [if_neg c] at H
        refine .inl ⟨(Option.some.inj H).symm, .inr (oddOne_some i.toNat (by omega) c)⟩

theorem weave_cases (k : Nat) (a0 : Int) (l1 : List (List Int)) (r : List Int × Int) (H : weave_Out.f k a0 l1 = some r) :
    ((a0 < 1 ∨ 4 < a0 ∨ (l1.length : Int) ≠ a0) ∧ r = ([], 1)) ∨
    (1 ≤ a0 ∧ a0 ≤ 4 ∧ (l1.length : Int) = a0 ∧ ((r = ([], 3) ∧ (((rd_L1 l1 0).length : Int) = 0 ∨ oddOne l1 ((rd_L1 l1 0).length : Int) = true)) ∨
      (((rd_L1 l1 0).length : Int) ≠ 0 ∧ oddOne l1 ((rd_L1 l1 0).length : Int) = false ∧ ∃ k', weave_Out.l1 k' a0 l1 ((rd_L1 l1 0).length : Int) [] 0 = some r))) := by
  unfold weave_Out.f at H
  by_cases c1 : a0 < 1
  · rw [if_pos c1] at H
    cases k with
    | zero => exact absurd H (by simp [weave_Out.j0])
    | succ k => simp only [weave_Out.j0] at H; rw [if_pos trivial] at H; exact .inl ⟨.inl c1, (Option.some.inj H).symm⟩
  · rw [if_neg c1] at H
    by_cases c2 : a0 > 4
    · rw [if_pos c2] at H
      cases k with
      | zero => exact absurd H (by simp [weave_Out.j0])
      | succ k => simp only [weave_Out.j0] at H; rw [if_pos trivial] at H; exact .inl ⟨.inr (.inl c2), (Option.some.inj H).symm⟩
    · rw [if_neg c2] at H
      cases k with
      | zero => exact absurd H (by simp [weave_Out.j0])
      | succ k =>
        simp only [weave_Out.j0] at H
        by_cases c3 : ((l1.length : Int) != a0) = true
        · rw [if_pos c3] at H
          exact .inl ⟨.inr (.inr (by simpa using c3)), (Option.some.inj H).symm⟩
        · have e : (l1.length : Int) = a0 := by simpa using c3
          rw [if_neg c3, if_pos (by omega)] at H
          refine .inr ⟨by omega, by omega, e, ?_⟩
          rcases weave_l0 a0 l1 ((rd_L1 l1 0).length : Int) r e.symm (by omega) a0.toNat k 0 (by omega) (by omega) (by omega) (fun j hj => absurd hj (by omega)) (fun h => absurd h (by omega)) H with h | ⟨h1, h2, h3⟩
          · exact .inl h
          · exact .inr ⟨h1 (by omega), h2, h3⟩
set_option maxHeartbeats 8000000 in
set_option maxRecDepth 100000 in
theorem weave_Out.calls (k : Nat) (a0 : Int) (A1 : Option Addr) (c1 : Nat) (l1 : List (List Int)) (r1 : List Int) (r2 : Int) (w : World) (hr1 : Kd.C (Kd.slice 22 (Kd.int .u16)) w A1 l1.length l1) (hc1 : l1.length ≤ c1) (h : weave_Out.f k a0 l1 = some (r1, r2)) :
    Calls Try.prog 10 #[.int .i64 a0, .slice A1 l1.length c1] w fun e w' => ∃ v0_ : Value, e = .returned (.tuple #[v0_, .int .i64 r2]) ∧ Kd.R (Kd.int .u16) 22 w' w.heap.size (fun _ => True) v0_ r1 ∧ Below w.heap.size w w' := by
  have HR1 := Aside0.mk hr1
  have HC1 := Aside0.mk hc1
  clear hr1 hc1
  have HB := Aside0.mk (Below.refl w.heap.size w)
  rcases weave_cases k a0 l1 (r1, r2) h with ⟨hbad, hr⟩ | ⟨ha1, ha2, hal, hrest⟩
  · simp only [Prod.mk.injEq] at hr
    obtain ⟨rfl, rfl⟩ := hr
    clear h
    have HF : ∃ b, weave_may.f a0 = some b ∧ (b = true → 1 ≤ a0 ∧ a0 ≤ 4) := by
      unfold weave_may.f
      by_cases c : a0 ≥ 1
      · exact ⟨_, if_pos c, fun h => ⟨c, by simpa using h⟩⟩
      · exact ⟨_, if_neg c, fun h => by simp at h⟩
    obtain ⟨b, hb, hb2⟩ := HF
    have HM := Aside0.mk hb
    clear hb
    cases b with
    | true =>
      have hne : ((l1.length : Int) != a0) = true := by
        have := hb2 rfl
        simp only [bne_iff_ne]; omega
      clear hbad hb2
      go_enter Try.func10, Try.ntmps10
      go_wp2_with (go_at_call 17; refine (weave_may.calls _ _ _ HM.out).mono ?_; rintro e w' ⟨rfl, hd⟩; have HD := Aside0.mk hd; clear hd)
      go_ret2
      exact ⟨_, rfl, Kd.R_nil _ _ _ _ _, HD.out.below⟩
    | false =>
      clear hbad hb2
      go_enter Try.func10, Try.ntmps10
      go_wp2_with (go_at_call 17; refine (weave_may.calls _ _ _ HM.out).mono ?_; rintro e w' ⟨rfl, hd⟩; have HD := Aside0.mk hd; clear hd)
      go_ret2
      exact ⟨_, rfl, Kd.R_nil _ _ _ _ _, HD.out.below⟩
  · clear h
    have HM : Aside0 (weave_may.f a0 = some true) := ⟨by unfold weave_may.f; rw [if_pos ha1]; simp [ha2]⟩
    have hne : ((l1.length : Int) != a0) = false := by simp [hal]
    have p0 : 0 ≤ (0 : Int) := by omega
    have q0 : (0 : Int) < l1.length := by omega
    obtain ⟨ad0, A0, c0, e0, hx0, hl0, hi0⟩ := at_L1 HR1.out 0 p0 q0
    cases e0
    have qn0 : (0 < l1.length) = True := eq_true (by omega)
    rw [show ((0 : Int)).toNat = 0 from rfl, Addr.add_zero'] at hx0
    have Hi0 := Aside0.mk hi0
    clear hi0 hl0
    have HAL := Aside0.mk hal
    have HL4 : Aside0 (l1.length ≤ 4) := ⟨by omega⟩
    clear hal q0 p0
    go_enter Try.func10, Try.ntmps10
    go_upto_region 4 with (go_at_call 17; refine (weave_may.calls _ _ _ HM.out).mono ?_; rintro e w' ⟨rfl, hd⟩; have HD := Aside0.mk hd; clear hd; have hx0' := (HD.out.below.cell (World.block_lt_of_cell? w _ hx0)).trans hx0; clear hx0)
    have HDB := Aside0.mk HD.out.below
    have hB' := Aside0.mk (below_alloc HDB.out (Obj.cells #[Value.int IntKind.i64 ↑(rd_L1 l1 0).length] 3))
    have hcell : Aside0 ((w'.alloc (Obj.cells #[Value.int IntKind.i64 ↑(rd_L1 l1 0).length] 3)).cell? ⟨w'.heap.size, 0, none⟩ = some (Value.int IntKind.i64 ↑(rd_L1 l1 0).length)) := ⟨by simp⟩
    have hK : Aside0 (Kd.C (Kd.slice 22 (Kd.int .u16)) (w'.alloc (Obj.cells #[Value.int IntKind.i64 ↑(rd_L1 l1 0).length] 3)) (some ad0) l1.length l1) := ⟨Kd.C_below HR1.out hB'.out⟩
    have hCont := Aside0.mk (weaveContains (some ad0) c1 l1 w'.heap.size ((rd_L1 l1 0).length : Int) _ hK.out (by have := HL4.out; omega) hcell.out)
    have HB0 := HB
    clear HB
    have HB := hB'
    clear hB' HD HDB hx0'
    obtain ⟨n, hn⟩ : ∃ n : Nat, n = (rd_L1 l1 0).length := ⟨_, rfl⟩
    rw [← hn] at hrest hcell hK hCont HB ⊢
    have HN := Aside0.mk hn
    clear hn Hi0
    generalize hwc : (w'.alloc (Obj.cells #[Value.int IntKind.i64 ↑n] 3)) = wc at HB hcell hK hCont ⊢
    clear hwc
    generalize hgb : w'.heap.size = gb at hcell hCont ⊢
    clear hgb
    have hcell' := hcell.out
    rcases hrest with ⟨hr, hz⟩ | ⟨hz, hodd, k', hl1⟩
    · simp only [Prod.mk.injEq] at hr
      obtain ⟨rfl, rfl⟩ := hr
      by_cases z : n = 0
      · subst z
        go_wp2
        go_ret2
        exact ⟨_, rfl, Kd.R_nil _ _ _ _ _, HB.out⟩
      · have zb : ((n : Int) == 0) = false := by simp; omega
        have ho : oddOne l1 (n : Int) = true := by rcases hz with hz | hz; exact absurd hz (by omega); exact hz
        rw [ho] at hCont
        clear ho hz z
        go_wp2_with (go_at_call 18; refine hCont.out.mono ?_; rintro e w1 ⟨rfl, hd⟩; have HD := Aside0.mk hd; clear hd)
        go_ret2
        exact ⟨_, rfl, Kd.R_nil _ _ _ _ _, HB.out.trans (HD.out.below.mono HB.out.size)⟩
    · have zb : ((n : Int) == 0) = false := by simp; omega
      rw [hodd] at hCont
      have HO := Aside0.mk hodd
      clear hodd hz
      have HL1 := Aside0.mk hl1
      clear hl1
      go_wp2_with (go_at_call 18; refine hCont.out.mono ?_; rintro e w1 ⟨rfl, hd⟩; have HD := Aside0.mk hd; clear hd; have hcell1 := (HD.out.below.cell (World.block_lt_of_cell? wc _ hcell')).trans hcell'; clear hcell')
      have HB1 := Aside0.mk (HB.out.trans (HD.out.below.mono HB.out.size))
      clear HB HD hcell1 hCont hcell hK
      have HB := HB1
      clear HB1 zb qn0
      go_loopg [7, 32] k' (fun kq v7 v32 w' => ∃ (x8_3 : List Int) (x9_3 : Int), v32 = .int .i64 x9_3 ∧ Aside0 (weave_Out.l1 kq a0 l1 (n : Int) x8_3 x9_3 = some (r1, r2)) ∧ Aside0 (kq ≤ k') ∧ Aside0 (Kd.R (Kd.int .u16) 22 w' w.heap.size (fun _ => True) v7 x8_3) ∧ Aside0 (Below w.heap.size w w'))
      case atStart => exact ⟨[], 0, rfl, HL1, ⟨Nat.le_refl _⟩, ⟨Kd.R_nil _ _ _ _ _⟩, HB⟩
      case round =>
        clear HL1
        obtain ⟨x8_3, x9_3, rfl, HA, HK3, HO_8, HB⟩ := hrel
        cases gk with
        | zero => exact absurd HA.out (by simp [weave_Out.l1])
        | succ k3 =>
          have H := HA.out
          clear HA
          simp only [weave_Out.l1] at H
          by_cases c13 : x9_3 < (n : Int)
          · rw [if_pos c13] at H
            have c13b0 : decide (x9_3 < (n : Int)) = true := decide_eq_true c13
            have C13 := Aside0.mk c13
            clear c13
            have H' := Aside0.mk H
            clear H
            go_wp2
            go_loopg [7, 37] k3 (fun kq v7 v37 w' => ∃ (x8_4 : List Int) (x10_4 : Int), v37 = .int .i64 x10_4 ∧ Aside0 (weave_Out.l2 kq a0 l1 (n : Int) x8_4 x9_3 x10_4 = some (r1, r2)) ∧ Aside0 (kq ≤ k3) ∧ Aside0 (Kd.R (Kd.int .u16) 22 w' w.heap.size (fun _ => True) v7 x8_4) ∧ Aside0 (Below w.heap.size w w'))
            case atStart => exact ⟨(x8_3), (0), rfl, H', ⟨Nat.le_refl _⟩, ⟨by (with_reducible repeat (first | apply Kd.R_alloc | apply Kd.R_drewN | apply Kd.R_drew)); exact HO_8.out⟩, ⟨by repeat (first | (with_reducible first | exact HB.out | apply below_alloc | apply pw_below_drewN | apply below_drew1) | exact HB.out)⟩⟩
            case round =>
              clear H' c13b0 HO_8
              obtain ⟨x8_4, x10_4, rfl, HA, HK4, HO_8, HB⟩ := hrel
              cases gk with
              | zero => exact absurd HA.out (by simp [weave_Out.l2])
              | succ k4 =>
                have H := HA.out
                clear HA
                simp only [weave_Out.l2] at H
                by_cases c14 : x10_4 < a0
                · rw [if_pos c14] at H
                  have c14b0 : decide (x10_4 < (l1.length : Int)) = true := decide_eq_true (by rw [HAL.out]; exact c14)
                  clear c14
                  by_cases c15 : 0 ≤ x10_4
                  · rw [if_pos c15] at H
                    have c15b0 : decide (0 ≤ x10_4) = true := decide_eq_true c15
                    clear c15
                    by_cases c16 : x10_4 < (l1.length : Int)
                    · rw [if_pos c16] at H
                      clear c16
                      by_cases c17 : 0 ≤ x9_3
                      · rw [if_pos c17] at H
                        have c17b0 : decide (0 ≤ x9_3) = true := decide_eq_true c17
                        clear c17
                        by_cases c18 : x9_3 < ((rd_L1 l1 x10_4).length : Int)
                        · rw [if_pos c18] at H
                          have c18b0 : decide (x9_3 < ((rd_L1 l1 x10_4).length : Int)) = true := decide_eq_true c18
                          clear c18
                          by_cases c19 : x8_4.length < 70368744177664
                          · rw [if_pos c19] at H
                            have LMc19 := Aside0.mk c19
                            clear c19
                            obtain ⟨y120, hy120⟩ : ∃ y_ : List Int, y_ = (x8_4 ++ [rd (rd_L1 l1 x10_4) x9_3]) := ⟨_, rfl⟩
                            rw [← hy120] at H
                            have Ny120 := Aside0.mk hy120
                            clear hy120
                            have H' := Aside0.mk H
                            clear H
                            have p118 : 0 ≤ (x10_4 : Int) := of_decide_eq_true (by first | (with_reducible assumption) | assumption)
                            have q118 : x10_4 < (l1.length : Int) := of_decide_eq_true (by first | (with_reducible assumption) | assumption)
                            obtain ⟨ad118, A118_0, c118_0, e118, hx118_0, hl118_0, hi118_0⟩ := at_L1 HR1.out x10_4 p118 q118
                            obtain rfl : ad0 = ad118 := (by injection e118)
                            replace hx118_0 := (HB.out.cell (World.block_lt_of_cell? w _ hx118_0)).trans hx118_0
                            have HR118_0 := Aside0.mk hi118_0
                            clear hi118_0 hl118_0
                            replace p118 := eq_true p118
                            replace q118 := eq_true q118
                            have p119 : 0 ≤ (x9_3 : Int) := of_decide_eq_true (by first | (with_reducible assumption) | assumption)
                            have q119 : x9_3 < ((rd_L1 l1 x10_4).length : Int) := of_decide_eq_true (by first | (with_reducible assumption) | assumption)
                            obtain ⟨ad119, e119, hx119_0⟩ := Kd.at_int HR118_0.out x9_3 p119 q119
                            cases e119
                            replace hx119_0 := (HB.out.cell (World.block_lt_of_cell? w _ hx119_0)).trans hx119_0
                            replace p119 := eq_true p119
                            replace q119 := eq_true q119
                            go_wp2_with (first | ((with_reducible refine gate_builtin (b := .append) (xs := #[.tmp 41, .tmp 46]) rfl ?_); (try (refine gate_guard (by rfl) ?_; dsimp only)); at_builtin; refine Kd.R_append (Kd.int .u16) (w0 := w) w.heap.size rfl (.tmp 41) (.tmp 46) 27 22 (.int .u16 0) 2 rfl Try.underlying27 info22 rfl (by decide) (by omega) u7 x8_4 (rd (rd_L1 l1 x10_4) x9_3) [.int .u16 (rd (rd_L1 l1 x10_4) x9_3)] (fun _ => True) (fun _ => False) rfl rfl ?aP (fun _ hk => hk.elim) ?aF ?aO ?aB ?aS ?aL ?_; (case aP => exact rfl); (case aB => exact (by repeat (first | (with_reducible first | exact HB.out | apply below_alloc | apply pw_below_drewN | apply below_drew1) | exact HB.out))); (case aF => exact (fun _ _ => trivial)); (case aO => exact (by (with_reducible repeat (first | apply Kd.R_alloc | apply Kd.R_drewN | apply Kd.R_drew)); exact HO_8.out)); (case aS => exact (below_size (by repeat (first | (with_reducible first | exact HB.out | apply below_alloc | apply pw_below_drewN | apply below_drew1) | exact HB.out)))); (case aL => have := LMc19.out; omega); intro v121 w20 ho hb hg hat; rw [← Ny120.out] at ho; have n0_ := Aside0.mk (hb); have n1_ := Aside0.mk (ho); clear HB; clear HO_8; have HB := n0_; have HO122 := n1_; clear n0_ n1_; clear ho hb hg hat))
                            go_roundg k4
                            case measure => have := HK3.out; have := HK4.out; omega
                            case rel => exact ⟨(y120), (wrap64 (x10_4 + 1)), (by first | rfl | (simp; done) | (simp [*]; done)), H', ⟨by have := HK3.out; have := HK4.out; omega⟩, ⟨by (with_reducible repeat (first | apply Kd.R_alloc | apply Kd.R_drewN | apply Kd.R_drew)); exact HO122.out⟩, ⟨by repeat (first | (with_reducible first | exact HB.out | apply below_alloc | apply pw_below_drewN | apply below_drew1) | exact HB.out)⟩⟩
                          · rw [if_neg c19] at H
                            exact absurd H (by simp)
                        · rw [if_neg c18] at H
                          exact absurd H (by simp)
                      · rw [if_neg c17] at H
                        exact absurd H (by simp)
                    · rw [if_neg c16] at H
                      exact absurd H (by simp)
                  · rw [if_neg c15] at H
                    exact absurd H (by simp)
                · rw [if_neg c14] at H
                  have c14b0 : decide (x10_4 < (l1.length : Int)) = false := decide_eq_false (by rw [HAL.out]; exact c14)
                  clear c14
                  have H' := Aside0.mk H
                  clear H
                  go_wp2
                  go_roundg k4
                  case measure => have := HK3.out; have := HK4.out; omega
                  case rel => exact ⟨(x8_4), (wrap64 (x9_3 + 1)), (by first | rfl | (simp; done) | (simp [*]; done)), H', ⟨by have := HK3.out; have := HK4.out; omega⟩, ⟨by (with_reducible repeat (first | apply Kd.R_alloc | apply Kd.R_drewN | apply Kd.R_drew)); exact HO_8.out⟩, ⟨by repeat (first | (with_reducible first | exact HB.out | apply below_alloc | apply pw_below_drewN | apply below_drew1) | exact HB.out)⟩⟩
          · rw [if_neg c13] at H
            have c13b0 : decide (x9_3 < (n : Int)) = false := decide_eq_false c13
            clear c13
            simp only [Option.some.injEq, Prod.mk.injEq] at H
            obtain ⟨rfl, rfl⟩ := H
            go_wp2
            go_ret2
            exact ⟨_, rfl, HO_8.out, HB.out⟩

end Go.Proofs.Ytghjenmocndlgaa.O
