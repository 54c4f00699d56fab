/- A chip: the worst codeword; moves; by hand. -/
import Derived.Test.YtmddafefdleimaaY
namespace Go.Proofs.Ytmddafefdleimaa.M
open Go.RowKit Go.Proofs.YtmddafefdleimaaW.PrintWords Go.Proofs.YtmddafefdleimaaW.PrintLast Go.Proofs.YtmddafefdleimaaW.PrintMore Go.Proofs.Ytmddafefdleimaa.Rw Go.Proofs.Ytmddafefdleimaa.Fl Go.Maps
set_option linter.unusedVariables false
set_option linter.unusedSimpArgs false
attribute [local go_sem] max2_int min2_int max_two min_two
theorem R_len {W : World} {v : Value} {base : Nat} {ok : Nat → Prop} {L : List Int} (h : Kd.R (Kd.int .i64) 3 W base ok v L) : ∃ A c, v = .slice A L.length c ∧ Kd.C (Kd.int .i64) W A L.length L := by
  obtain ⟨A, c, e⟩ := Kd.R_slice h
  subst e
  exact ⟨A, c, rfl, (Kd.R_reads' h).2.2⟩
/-- a wrong place more: the counts by codeword, the greatest so far -/
def wstep (W : Nat) (st : List Int × Int) (i : Int) : List Int × Int :=
  (st.1.set (i % (W : Int)).toNat (st.1.getD (i % (W : Int)).toNat 0 + 1), if st.2 < st.1.getD (i % (W : Int)).toNat 0 + 1 then st.1.getD (i % (W : Int)).toNat 0 + 1 else st.2)
def wfold (W : Nat) (l : List Int) (st : List Int × Int) : List Int × Int := l.foldl (wstep W) st
theorem wfold_snoc {W : Nat} {l : List Int} {st : List Int × Int} {k : Nat} (h : k < l.length) {x : Int} (hx : l.getD k 0 = x) : wfold W (l.take (k + 1)) st = wstep W (wfold W (l.take k) st) x := by
  unfold wfold
  rw [List.take_succ_eq_append_getElem h, List.foldl_append]
  have : l[k] = x := by rw [← hx, List.getD_eq_getElem?_getD, List.getElem?_eq_getElem h]; rfl
  rw [this]; rfl
/-- what the counts are bound by -/
structure Wok (st : List Int × Int) (m k : Nat) : Prop where
  len : st.1.length = m
  c : ∀ v, 0 ≤ st.1.getD v 0 ∧ st.1.getD v 0 ≤ (k : Int)
  n : 0 ≤ st.2 ∧ st.2 ≤ (k : Int)
theorem getD_set_any {l : List Int} {i v : Nat} {x : Int} : (l.set i x).getD v 0 = x ∨ (l.set i x).getD v 0 = l.getD v 0 := by
  rw [List.getD_eq_getElem?_getD, List.getD_eq_getElem?_getD]
  by_cases e : i = v
  · subst e
    by_cases h : i < l.length
    · left; rw [List.getElem?_set_self h]; rfl
    · right; rw [List.getElem?_eq_none (by simpa using h), List.getElem?_eq_none (by simpa using h)]
  · right; rw [List.getElem?_set_ne e]
theorem Wok.step {st : List Int × Int} {m k : Nat} (h : Wok st m k) (W : Nat) (x : Int) : Wok (wstep W st x) m (k + 1) := by
  obtain ⟨h1, h2, h3⟩ := h
  unfold wstep
  generalize (x % (W : Int)).toNat = u
  have hu := h2 u
  refine ⟨by dsimp only; rw [List.length_set]; exact h1, fun v => ?_, ?_⟩
  · dsimp only
    have hv := h2 v
    rcases getD_set_any (l := st.1) (i := u) (v := v) (x := st.1.getD u 0 + 1) with e | e
    · rw [e]; push_cast; omega
    · rw [e]; push_cast; omega
  · dsimp only
    split <;> push_cast <;> omega
section
variable {base : Nat} {w W W1 : World} {s : Ch}
set_option maxHeartbeats 3200000 in
theorem worstC1 {c g Wn : Nat} (hW : 1 ≤ Wn ∧ Wn ≤ 4) (hc : w.cell? ⟨c, 2, none⟩ = some (.int .i64 (Wn : Int))) (l : List Int) (hl : l.length ≤ 1000) (hx : ∀ k, k < l.length → 0 ≤ l.getD k 0 ∧ l.getD k 0 < 1000)
    (HWr : ∀ W, Below w.heap.size w W → Calls Try.prog 58 #[ptr g] W fun e w' => ∃ v, e = .returned v ∧ Aside0 (Kd.R (Kd.int .i64) 3 w' W.heap.size (fun _ => True) v l) ∧ Aside0 (Below W.heap.size W w')) :
    Calls Try.prog 46 #[ptr c, ptr g] w fun e w' => e = .returned (.int .i64 (wfold Wn l ([0, 0, 0, 0], 0)).2) ∧ Aside0 (Below w.heap.size w w') := by
  have hal := below_alloc (Below.refl w.heap.size w) (.cells #[.int .i64 0, .int .i64 0, .int .i64 0, .int .i64 0] 103 (0, 0))
  have HW0 := Aside0.mk (HWr _ hal)
  have HB0 := Aside0.mk hal
  have HM0 : Aside0 (Row (Value.int .i64) 103 (w.alloc (.cells #[.int .i64 0, .int .i64 0, .int .i64 0, .int .i64 0] 103 (0, 0))) w.heap.size [0, 0, 0, 0]) := ⟨blk_new w _⟩
  have HX := Aside0.mk hx
  have hcl := World.block_lt_of_cell? w _ hc
  clear HWr hal hx
  go_enter Try.func46, Try.ntmps46
  go_upto_region 4 with (first
    | (go_at_call 58; (refine HW0.out.mono ?_); rintro e w2 ⟨v, rfl, HR, HB2⟩; obtain ⟨A, cc, e5, hC5⟩ := R_len HR.out; subst e5))
  have HB3 := Aside0.mk (below_step HB0.out HB2.out)
  have HM3 := Aside0.mk (HM0.out.below HB2.out)
  have hsz : (w.alloc (.cells #[.int .i64 0, .int .i64 0, .int .i64 0, .int .i64 0] 103 (0, 0))).heap.size = w.heap.size + 1 := World.size_alloc _ _
  rw [hsz] at HR
  clear HW0 HB0 HM0 HB2 hC5 hsz
  have hne : c ≠ w.heap.size := Nat.ne_of_lt hcl
  have hne2 : ¬ w.heap.size = c := fun e => hne e.symm
  go_loopw [6, 8, 12] (fun v6 v8 v12 wr => ∃ k : Nat, k ≤ l.length ∧ v12 = .int .i64 (k : Int) ∧ v6 = .int .i64 (wfold Wn (l.take k) ([0, 0, 0, 0], 0)).2 ∧ Aside0 (Row (Value.int .i64) 103 wr w.heap.size (wfold Wn (l.take k) ([0, 0, 0, 0], 0)).1) ∧ Aside0 (Kd.R (Kd.int .i64) 3 wr (w.heap.size + 1) (fun _ => True) (.slice A l.length cc) l) ∧ Aside0 (Below w.heap.size w wr) ∧ Aside0 (Wok (wfold Wn (l.take k) ([0, 0, 0, 0], 0)) 4 k)) (fun _ _ v12 _ => l.length - (intOf v12).toNat)
  case atStart => exact ⟨0, Nat.zero_le _, rfl, rfl, HM3, HR, HB3, ⟨⟨rfl, fun v => by
    show 0 ≤ [0, 0, 0, 0].getD v (0 : Int) ∧ [0, 0, 0, 0].getD v (0 : Int) ≤ ((0 : Nat) : Int)
    rcases (by omega : v = 0 ∨ v = 1 ∨ v = 2 ∨ v = 3 ∨ 4 ≤ v) with rfl | rfl | rfl | rfl | h4
    · decide
    · decide
    · decide
    · decide
    · rw [List.getD_eq_getElem?_getD, List.getElem?_eq_none (by simpa using h4)]; decide, ⟨Int.le_refl _, Int.le_refl _⟩⟩⟩⟩
  case round =>
    clear HM3 HR HB3
    obtain ⟨k, hk, rfl, rfl, HM, HR, HB, HO⟩ := hrel
    by_cases ck : k < l.length
    · have ckk : (k : Int) < (l.length : Int) := by omega
      obtain ⟨A', cc', e5, hC5⟩ := R_len HR.out
      cases e5
      obtain ⟨ad, e1, hx0⟩ := at_num hC5 k ck
      cases e1
      obtain ⟨x0, x1⟩ := HX.out k ck
      obtain ⟨x, hx⟩ : ∃ x, l.getD k 0 = x := ⟨_, rfl⟩
      have HS := Aside0.mk (wfold_snoc (W := Wn) (st := ([0, 0, 0, 0], 0)) ck hx)
      rw [hx] at hx0 x0 x1
      have HO1 := Aside0.mk (HO.out.step Wn x)
      rw [← HS.out] at HO1
      obtain ⟨hml, hmc, hmn⟩ := HO.out
      generalize wfold Wn (l.take k) ([0, 0, 0, 0], 0) = st at *
      obtain ⟨m, nn⟩ := st
      dsimp only at hml hmc hmn HM
      have hemod := Int.emod_nonneg x (show (Wn : Int) ≠ 0 by omega)
      have hemod2 := Int.emod_lt_of_pos x (show (0 : Int) < (Wn : Int) by omega)
      obtain ⟨u, hu⟩ : ∃ u : Nat, (x % (Wn : Int)).toNat = u := ⟨_, rfl⟩
      have huw : u < Wn := by omega
      have htm : x.tmod (Wn : Int) = (u : Int) := by rw [Int.tmod_eq_emod_of_nonneg x0]; omega
      have hz1 : ((Wn : Int) == 0) = false := beq_eq_false_iff_ne.2 (by omega)
      unfold wstep at HS
      dsimp only at HS
      rw [hu] at HS
      have hcm := HM.out.cellD 0 u (by omega)
      have hfm := HM.out.frozen u
      obtain ⟨q1, q2⟩ := hmc u
      obtain ⟨n0, n1⟩ := hmn
      generalize hcu : m.getD u 0 = cu at *
      have hu4 : (u : Int) < 4 := by omega
      have hc2 := (HB.out.cell (p := ⟨c, 2, none⟩) hcl).trans hc
      have HM1 := Aside0.mk (HM.out.set u (cu + 1))
      have HR1 : Aside0 (Kd.R (Kd.int .i64) 3 (wr.setCell ⟨w.heap.size, u, none⟩ (.int .i64 (cu + 1))) (w.heap.size + 1) (fun _ => True) (.slice (some ad) l.length cc) l) := ⟨row_move HR.out fun q hq => Below.heap_setCell wr ⟨w.heap.size, u, none⟩ (.int .i64 (cu + 1)) q (fun e => by have := Kd.R_base HR.out q hq; dsimp only at e; omega)⟩
      have HB1 := Aside0.mk (HB.out.setCell (p := ⟨w.heap.size, u, none⟩) (Nat.le_refl _) (.int .i64 (cu + 1)))
      clear HM HR HB hmc hC5 hx hu hcu hemod hemod2 HO hml HX
      go_wp2
      go_roundw
      case rel => exact ⟨k + 1, ck, rfl, by rw [HS.out], by rw [HS.out]; exact HM1, HR1, HB1, HO1⟩
      case measure => simp [intOf]; omega
    · obtain rfl : k = l.length := by omega
      rw [List.take_length]
      go_wp2
      go_ret
      exact ⟨rfl, HB⟩
theorem wrongC0 {g b : Nat} {P : Pts} {S : List Int} {st : Int} {sv : Value} (h : IsC w base g b P S st sv) (hst : st ≠ 1) : Calls Try.prog 58 #[ptr g] w fun e w' => ∃ v, e = .returned v ∧ Aside0 (Kd.R (Kd.int .i64) 3 w' w.heap.size (fun _ => True) v []) ∧ Aside0 (Below w.heap.size w w') := by
  obtain ⟨c0, c1, c2⟩ := h.cells
  have hne : (st != 1) = true := bne_iff_ne.2 hst
  clear h hst c0 c1
  go_enter Try.func58, Try.ntmps58
  go_wp2
  go_ret
  exact ⟨_, rfl, ⟨Kd.R_nil _ _ _ _ _⟩, ⟨Below.refl _ _⟩⟩
/-- the wrong places of a page -/
def wrongsOf (st : Int) (P : Pts) (S : List Int) : List Int := if st = 1 then wrongL P S P.length else []
theorem wrongL_lt (P : Pts) (S : List Int) (n k : Nat) (h : k < (wrongL P S n).length) : 0 ≤ (wrongL P S n).getD k 0 ∧ (wrongL P S n).getD k 0 < (n : Int) := by
  have hm : (wrongL P S n).getD k 0 ∈ wrongL P S n := mem_getD 0 h
  generalize (wrongL P S n).getD k 0 = x at hm
  unfold wrongL at hm
  obtain ⟨j, hj, rfl⟩ := List.mem_map.1 hm
  have := List.mem_range.1 (List.mem_filter.1 hj).1
  omega
theorem wrongL_le (P : Pts) (S : List Int) (n : Nat) : (wrongL P S n).length ≤ n := by
  unfold wrongL
  rw [List.length_map]
  exact Nat.le_trans (List.length_filter_le _ _) (by simp)
def pageW (W : Nat) (st : Int) (P : Pts) (S : List Int) : Int := (wfold W (wrongsOf st P S) ([0, 0, 0, 0], 0)).2
theorem worstPageC (h : IsCh base w s) (i j : Nat) (hi : i < s.Bn) (hj : j < s.Pn) (hP : ((s.bl i).pg j).st = 1 → ∀ k, k < ((s.bl i).pg j).P.length → (((s.bl i).pg j).P.getD k (0, 0)).1.natAbs ≤ 2000 ∧ (((s.bl i).pg j).P.getD k (0, 0)).2.natAbs ≤ 2000) :
    Calls Try.prog 46 #[ptr s.c, ptr ((s.bl i).pg j).g] w fun e w' => e = .returned (.int .i64 (pageW s.Wn ((s.bl i).pg j).st ((s.bl i).pg j).P ((s.bl i).pg j).S)) ∧ Aside0 (Below w.heap.size w w') := by
  have hb := h.bn
  have hlen := (h.pg i j hi hj).len
  have hl : (wrongsOf ((s.bl i).pg j).st ((s.bl i).pg j).P ((s.bl i).pg j).S).length ≤ 1000 ∧ ∀ k, k < (wrongsOf ((s.bl i).pg j).st ((s.bl i).pg j).P ((s.bl i).pg j).S).length → 0 ≤ (wrongsOf ((s.bl i).pg j).st ((s.bl i).pg j).P ((s.bl i).pg j).S).getD k 0 ∧ (wrongsOf ((s.bl i).pg j).st ((s.bl i).pg j).P ((s.bl i).pg j).S).getD k 0 < 1000 := by
    unfold wrongsOf
    by_cases h1 : ((s.bl i).pg j).st = 1
    · rw [if_pos h1]
      have h2 := wrongL_le ((s.bl i).pg j).P ((s.bl i).pg j).S ((s.bl i).pg j).P.length
      refine ⟨by omega, fun k hk => ?_⟩
      have h3 := wrongL_lt _ _ _ k hk
      omega
    · rw [if_neg h1]; exact ⟨by decide, fun k hk => absurd hk (Nat.not_lt_zero _)⟩
  refine worstC1 (by omega) h.ccells.2.2.1 _ hl.1 hl.2 (fun W hW => ?_)
  obtain ⟨⟨sv, hI, _⟩, _, _, _⟩ := (h.below hW).pg i j hi hj
  unfold wrongsOf
  by_cases h1 : ((s.bl i).pg j).st = 1
  · rw [if_pos h1]
    have hI2 := hI
    rw [h1] at hI2
    exact wrongC hI2 (hP h1)
  · rw [if_neg h1]
    exact wrongC0 hI h1
def mxF (a : Int) (f : Nat → Int) : Nat → Int
  | 0 => a
  | k + 1 => if mxF a f k < f k then f k else mxF a f k
def mxO (f : Nat → Nat → Int) (P : Nat) : Nat → Int
  | 0 => 0
  | i + 1 => mxF (mxO f P i) (f i) P
set_option maxHeartbeats 3200000 in
theorem worstAllC (h : IsCh base w s) (pw : Nat → Nat → Int) (HP : ∀ i j, i < s.Bn → j < s.Pn → ∀ W, Below w.heap.size w W → Calls Try.prog 46 #[ptr s.c, ptr ((s.bl i).pg j).g] W fun e w' => e = .returned (.int .i64 (pw i j)) ∧ Aside0 (Below W.heap.size W w')) :
    Calls Try.prog 25 #[ptr s.c] w fun e w' => e = .returned (.int .i64 (mxO pw s.Pn s.Bn)) ∧ Aside0 (Below w.heap.size w w') := by
  obtain ⟨-, -, -, -, d4, -⟩ := h.ccells
  have hb := h.bn
  have hlc := h.lc
  have H := Aside0.mk h
  have HPp := Aside0.mk HP
  have hcl := blk_lt h.hc
  have HC := Aside0.mk (fun (x : Nat) (hx : x < s.Bn) => h.hl.cell hx)
  obtain ⟨B, hB⟩ : ∃ B, s.Bn = B := ⟨_, rfl⟩
  obtain ⟨Pn, hPn⟩ : ∃ B, s.Pn = B := ⟨_, rfl⟩
  obtain ⟨c, hc⟩ : ∃ B, s.c = B := ⟨_, rfl⟩
  have HEB := Aside0.mk hB
  have HEP := Aside0.mk hPn
  rw [hB] at d4 hb hlc HC HPp
  rw [hPn] at hb HPp
  rw [hc] at d4 HPp hcl
  rw [hB, hPn, hc]
  clear h HP hB hPn hc
  generalize s.la = la at *
  generalize s.cap = cap at *
  go_enter Try.func25, Try.ntmps25
  go_wp2
  go_loopw [3, 5, 7, 15] (fun v3 v5 v7 v15 wr => ∃ i : Nat, i ≤ B ∧ v15 = .int .i64 (i : Int) ∧ v3 = .int .i64 (mxO pw Pn i) ∧ Aside0 (Below w.heap.size w wr)) (fun _ _ _ v15 _ => B - (intOf v15).toNat)
  case atStart => exact ⟨0, Nat.zero_le _, rfl, rfl, ⟨Below.refl _ _⟩⟩
  case round =>
    obtain ⟨i, hi, rfl, rfl, HB⟩ := hrel
    by_cases ci : i < B
    · have cii : (i : Int) < (B : Int) := by omega
      have hcx := (HB.out.cell (World.block_lt_of_cell? w _ (HC.out i ci))).trans (HC.out i ci)
      have hbc := ((H.out.below HB.out).bcells i (by rw [HEB.out]; exact ci)).1
      have HCj := Aside0.mk (fun (y : Nat) (hy : y < s.Pn) => (H.out.hp i (by rw [HEB.out]; exact ci)).cell hy)
      have hpc := H.out.pc i (by rw [HEB.out]; exact ci)
      rw [HEP.out] at hbc HCj hpc
      generalize (s.bl i).q = q at *
      generalize (s.bl i).pa = pa at *
      generalize (s.bl i).cap = pcap at *
      go_wp2
      go_loopw [3, 7, 24] (fun v3 v7 v24 wq => ∃ j : Nat, j ≤ Pn ∧ v24 = .int .i64 (j : Int) ∧ v3 = .int .i64 (mxF (mxO pw Pn i) (pw i) j) ∧ Aside0 (Below w.heap.size w wq)) (fun _ _ v24 _ => Pn - (intOf v24).toNat)
      case atStart => exact ⟨0, Nat.zero_le _, rfl, rfl, HB⟩
      case round =>
        clear hcx hbc HB
        obtain ⟨j, hj, rfl, rfl, HB⟩ := hrel
        by_cases cj : j < Pn
        · have cjj : (j : Int) < (Pn : Int) := by omega
          have hcy := (HB.out.cell (World.block_lt_of_cell? w _ (HCj.out j cj))).trans (HCj.out j cj)
          have HPj := Aside0.mk (HPp.out i j ci cj wr HB.out)
          generalize ((s.bl i).pg j).g = g at *
          have HMx : Aside0 (mxF (mxO pw Pn i) (pw i) (j + 1) = if mxF (mxO pw Pn i) (pw i) j < pw i j then pw i j else mxF (mxO pw Pn i) (pw i) j) := ⟨rfl⟩
          generalize mxF (mxO pw Pn i) (pw i) j = a at *
          generalize pw i j = pp at *
          go_wp2_with (first | (go_at_call 46; (refine HPj.out.mono ?_); rintro e w3 ⟨rfl, HB3⟩))
          go_roundw
          case rel => exact ⟨j + 1, cj, rfl, by rw [HMx.out], ⟨below_step HB.out HB3.out⟩⟩
          case measure => simp [intOf]; omega
        · obtain rfl : j = Pn := by omega
          go_wp2
          go_roundw
          case rel => exact ⟨i + 1, ci, rfl, rfl, HB⟩
          case measure => simp [intOf]; omega
    · obtain rfl : i = B := by omega
      go_wp2
      go_ret
      exact ⟨rfl, HB⟩
end
end Go.Proofs.Ytmddafefdleimaa.M
