/- A chip: block, page, ordered, fits; by hand. -/
import Derived.Test.YtmddafefdleimaaP
namespace Go.Proofs.Ytmddafefdleimaa.M
open Go.RowKit Go.Proofs.YtmddafefdleimaaW.PrintWords Go.Proofs.YtmddafefdleimaaW.PrintLast Go.Proofs.YtmddafefdleimaaW.PrintMore Go.Proofs.Ytmddafefdleimaa.Rw Go.Proofs.Ytmddafefdleimaa.Fl Go.Maps
set_option linter.unusedVariables false
set_option linter.unusedSimpArgs false
section
variable {base : Nat} {w W1 : World} {s : Ch}
theorem blockC (h : IsCh base w s) (i : Nat) (hi : i < s.Bn) : Calls Try.prog 30 #[ptr s.c, .int .i64 (i : Int)] w fun e w' => e = .returned (ptr (s.bl i).q) ∧ w' = w := by
  obtain ⟨-, -, -, -, d4, -⟩ := h.ccells
  have hc := h.hl.cell hi
  have hb := h.bn
  have hlc := h.lc
  have hii : (i : Int) < (s.Bn : Int) := by omega
  generalize s.Bn = B at *
  generalize s.c = c at *
  generalize s.la = la at *
  generalize s.cap = cap at *
  generalize (s.bl i).q = q at *
  clear h
  go_enter Try.func30, Try.ntmps30
  go_wp2
  go_ret
  exact ⟨rfl, rfl⟩
theorem blockOut (h : IsCh base w s) (i : Int) (hi : i < 0 ∨ (s.Bn : Int) ≤ i) : Calls Try.prog 30 #[ptr s.c, .int .i64 i] w fun e w' => e = .returned (.pointer none) ∧ w' = w := by
  obtain ⟨-, -, -, -, d4, -⟩ := h.ccells
  have hb := h.bn
  generalize s.Bn = B at *
  generalize s.c = c at *
  generalize s.la = la at *
  generalize s.cap = cap at *
  clear h
  by_cases h1 : i < 0
  · go_enter Try.func30, Try.ntmps30
    go_wp2
    go_ret
    exact ⟨rfl, rfl⟩
  · have h2 : (B : Int) ≤ i := by omega
    go_enter Try.func30, Try.ntmps30
    go_wp2
    go_ret
    exact ⟨rfl, rfl⟩
theorem pageC (h : IsCh base w s) (i j : Nat) (hi : i < s.Bn) (hj : j < s.Pn) : Calls Try.prog 38 #[ptr s.c, .int .i64 (i : Int), .int .i64 (j : Int)] w fun e w' => e = .returned (ptr ((s.bl i).pg j).g) ∧ w' = w := by
  have HB := Aside0.mk (blockC h i hi)
  obtain ⟨d0, -⟩ := h.bcells i hi
  have hc := (h.hp i hi).cell hj
  have hb := h.bn
  have hlc := h.pc i hi
  have hjj : (j : Int) < (s.Pn : Int) := by omega
  generalize s.Pn = B at *
  generalize s.c = c at *
  generalize (s.bl i).q = q at *
  generalize (s.bl i).pa = pa at *
  generalize (s.bl i).cap = cap at *
  generalize ((s.bl i).pg j).g = g at *
  clear h
  go_enter Try.func38, Try.ntmps38
  go_wp2_with (first | (go_at_call 30; (refine HB.out.mono ?_); rintro e w2 ⟨rfl, hw⟩; obtain rfl := hw.symm))
  go_ret
  exact ⟨rfl, rfl⟩
theorem pageOut (h : IsCh base w s) (i j : Int) (hi : i < 0 ∨ (s.Bn : Int) ≤ i) : Calls Try.prog 38 #[ptr s.c, .int .i64 i, .int .i64 j] w fun e w' => e = .returned (.pointer none) ∧ w' = w := by
  have HB := Aside0.mk (blockOut h i hi)
  generalize s.c = c at *
  clear h
  go_enter Try.func38, Try.ntmps38
  go_wp2_with (first | (go_at_call 30; (refine HB.out.mono ?_); rintro e w2 ⟨rfl, hw⟩; obtain rfl := hw.symm))
  go_ret
  exact ⟨rfl, rfl⟩
theorem stC (h : IsCh base w s) (i j : Nat) (hi : i < s.Bn) (hj : j < s.Pn) : Calls Try.prog 59 #[ptr ((s.bl i).pg j).g] w fun e w' => e = .returned (.int .i64 ((s.bl i).pg j).st) ∧ w' = w :=
  let ⟨⟨_, h1, _⟩, _, _, _⟩ := h.pg i j hi hj; stateC h1
def Ord (s : Ch) (i j : Nat) : Prop := (∀ y, j ≤ y → y < s.Pn → ((s.bl i).pg y).st = 0) ∧ (j = 0 ∨ ((s.bl i).pg (j - 1)).st ≠ 0)
set_option maxHeartbeats 1600000 in
theorem orderedC (h : IsCh base w s) (i j : Nat) (hi : i < s.Bn) (hj : j < s.Pn) (r : Bool) (hr : Ord s i j ↔ r = true) : Calls Try.prog 50 #[ptr (s.bl i).q, .int .i64 (j : Int)] w fun e w' => e = .returned (.bool r) ∧ w' = w := by
  obtain ⟨d0, -⟩ := h.bcells i hi
  have hb := h.bn
  have hlc := h.pc i hi
  have HC := Aside0.mk (fun (y : Nat) (hy : y < s.Pn) => (h.hp i hi).cell hy)
  have HS := Aside0.mk (fun (y : Nat) (hy : y < s.Pn) => stC h i y hi hy)
  have HR := Aside0.mk hr
  unfold Ord at HR
  generalize s.Pn = B at *
  generalize (s.bl i).q = q at *
  generalize (s.bl i).pa = pa at *
  generalize (s.bl i).cap = cap at *
  generalize (s.bl i).pg = pg at *
  clear h hi hr
  obtain ⟨m, hm⟩ : ∃ m, j + m = B := ⟨B - j, by omega⟩
  have hjB : (j : Int) ≤ (B : Int) := by omega
  have hmm : (B : Int) - (j : Int) = (m : Int) := by omega
  go_enter Try.func50, Try.ntmps50
  go_wp2
  go_loopw [14] (fun v14 wr => ∃ k : Nat, k ≤ m ∧ v14 = .int .i64 (k : Int) ∧ wr = w ∧ Aside0 (∀ y, j ≤ y → y < j + k → (pg y).st = 0)) (fun v14 _ => m - (intOf v14).toNat)
  case atStart => exact ⟨0, Nat.zero_le _, rfl, rfl, ⟨fun y h1 h2 => by omega⟩⟩
  case round =>
    obtain ⟨k, hk, rfl, rfl, HZ⟩ := hrel
    by_cases ck : k < m
    · have ckk : (k : Int) < (m : Int) := by omega
      have hc := HC.out (j + k) (by omega)
      have HSk := Aside0.mk (HS.out (j + k) (by omega))
      by_cases c0 : (pg (j + k)).st = 0
      · have HZ2 : Aside0 (∀ y, j ≤ y → y < j + (k + 1) → (pg y).st = 0) := ⟨fun y h1 h2 => by
          by_cases e : y = j + k
          · rw [e]; exact c0
          · exact HZ.out y h1 (by omega)⟩
        rw [c0] at HSk
        clear c0
        go_wp2_with (first | (go_at_call 59; (refine HSk.out.mono ?_); rintro e w2 ⟨rfl, hw⟩; obtain rfl := hw.symm))
        go_roundw
        case rel => exact ⟨k + 1, ck, rfl, by first | rfl | trivial, HZ2⟩
        case measure => simp [intOf]; omega
      · have hrf : r = false := by
          cases hh : r with
          | false => rfl
          | true => exact absurd ((HR.out.2 hh).1 (j + k) (by omega) (by omega)) c0
        have hne : ((pg (j + k)).st != 0) = true := bne_iff_ne.2 c0
        subst hrf
        clear c0
        go_wp2_with (first | (go_at_call 59; (refine HSk.out.mono ?_); rintro e w2 ⟨rfl, hw⟩; obtain rfl := hw.symm))
        go_ret
        exact ⟨rfl, rfl⟩
    · obtain rfl : k = m := by omega
      by_cases j0 : j = 0
      · subst j0
        have hrt : r = true := HR.out.1 ⟨fun y h1 h2 => HZ.out y h1 (by omega), .inl rfl⟩
        subst hrt
        go_wp2
        go_ret
        exact ⟨rfl, rfl⟩
      · obtain ⟨p, rfl⟩ : ∃ p, j = p + 1 := ⟨j - 1, by omega⟩
        have hc := HC.out p (by omega)
        have HSk := Aside0.mk (HS.out p (by omega))
        have hpn : (((p : Int) + 1) == 0) = false := beq_eq_false_iff_ne.2 (by omega)
        have hpp : (p : Int) < (B : Int) := by omega
        rcases (by cases r <;> simp : r = true ∨ r = false) with rfl | rfl
        · have c0 : (pg p).st ≠ 0 := (HR.out.2 rfl).2.resolve_left (by omega)
          have hne : ((pg p).st != 0) = true := bne_iff_ne.2 c0
          clear c0
          go_wp2_with (first | (go_at_call 59; (refine HSk.out.mono ?_); rintro e w2 ⟨rfl, hw⟩; obtain rfl := hw.symm))
          go_ret
          exact ⟨rfl, rfl⟩
        · have c0 : (pg p).st = 0 := Classical.byContradiction fun e => by
            have := HR.out.1 ⟨fun y h1 h2 => HZ.out y h1 (by omega), .inr (by rw [Nat.add_sub_cancel]; exact e)⟩
            cases this
          rw [c0] at HSk
          clear c0
          go_wp2_with (first | (go_at_call 59; (refine HSk.out.mono ?_); rintro e w2 ⟨rfl, hw⟩; obtain rfl := hw.symm))
          go_ret
          exact ⟨rfl, rfl⟩
set_option maxHeartbeats 1600000 in
theorem fitsC (h : IsCh base w s) (i j : Nat) (hi : i < s.Bn) (hj : j < s.Pn) (A : Option Addr) (c : Nat) (xs : List Int) (hC : Kd.C (Kd.int .u16) w A xs.length xs) (hcl : xs.length ≤ c) (hx : ∀ y, y < xs.length → xs.getD y 0 < 1024) (hn : xs.length = s.n)
    (m : Int) (r : Bool) (hr : Ord s i j ↔ r = true) (hm : (if (s.bl i).marked then 9 else if r then (if (s.bl i).broken then 6 else 0) else 5) = m) :
    Calls Try.prog 36 #[ptr s.c, .int .i64 (i : Int), .int .i64 (j : Int), .slice A xs.length c] w fun e w' => e = .returned (.int .i64 m) ∧ Aside0 (Below w.heap.size w w') := by
  obtain ⟨g0, g1, g2, g3, -⟩ := h.ccells
  have hbn := h.bn
  have HB := Aside0.mk (blockC h i hi)
  have HP := Aside0.mk (pageC h i j hi hj)
  have HG := Aside0.mk (cellsC w h.may s.n (by exact_mod_cast congrArg (fun x : Nat => (x : Int)) h.n))
  have HO := Aside0.mk (fun W (hW : Below w.heap.size w W) => orderedC (h.below hW) i j hi hj r hr)
  have HBc := Aside0.mk (fun W (hW : Below w.heap.size w W) => (h.below hW).bcells i hi)
  have HC := Aside0.mk hC
  have HX := Aside0.mk hx
  obtain ⟨n, hnn⟩ : ∃ n, s.n = n := ⟨_, rfl⟩
  have HL := Aside0.mk (hn.trans hnn)
  rw [hnn] at HG hbn hn
  rw [hn] at hcl ⊢
  generalize s.c = cc at *
  generalize (s.bl i).q = q at *
  generalize ((s.bl i).pg j).g = pg at *
  generalize s.Bn = B at *
  generalize s.Pn = Pn at *
  generalize s.Wn = Wn at *
  generalize s.Kn = Kn at *
  generalize (s.bl i).marked = mk at *
  generalize (s.bl i).broken = bk at *
  unfold geoV at HG
  clear h hC hx hn hnn hr
  go_enter Try.func36, Try.ntmps36
  go_upto_region 6 with (first
    | (go_at_call 30; (refine HB.out.mono ?_); rintro e w2 ⟨rfl, hw⟩; obtain rfl := hw.symm)
    | (go_at_call 38; (refine HP.out.mono ?_); rintro e w2 ⟨rfl, hw⟩; obtain rfl := hw.symm)
    | (go_at_call 28; (refine HG.out.mono ?_); rintro e w2 ⟨rfl, HB2⟩))
  clear HB HP HG g0 g1 g2 g3
  go_wp2
  go_loopw [30] (fun v30 wr => ∃ k : Nat, k ≤ n ∧ v30 = .int .i64 (k : Int) ∧ wr = w2) (fun v30 _ => n - (intOf v30).toNat)
  case atStart => exact ⟨0, Nat.zero_le _, rfl, rfl⟩
  case round =>
    obtain ⟨k, hk, rfl, rfl⟩ := hrel
    by_cases ck : k < n
    · have ckk : (k : Int) < (n : Int) := by omega
      have hxk := HX.out k (by rw [HL.out]; exact ck)
      obtain ⟨ad, e1, hx0⟩ := at_num HC.out k (by rw [HL.out]; exact ck)
      cases e1
      have hx1 := (HB2.out.cell (World.block_lt_of_cell? w _ hx0)).trans hx0
      generalize xs.getD k 0 = x at *
      clear hx0
      go_wp2
      go_roundw
      case rel => exact ⟨k + 1, ck, rfl, by first | rfl | trivial⟩
      case measure => simp [intOf]; omega
    · obtain rfl : k = n := by omega
      obtain ⟨b0, b1, b2, -⟩ := HBc.out _ HB2.out
      have HOw := Aside0.mk (HO.out _ HB2.out)
      clear HO HBc b0
      cases mk <;> cases r <;> cases bk
      all_goals (
        simp at hm
        subst hm
        go_wp2_with (first | (go_at_call 50; (refine HOw.out.mono ?_); rintro e w3 ⟨rfl, hw⟩; obtain rfl := hw.symm))
        go_ret
        exact ⟨rfl, HB2⟩)
end
end Go.Proofs.Ytmddafefdleimaa.M
