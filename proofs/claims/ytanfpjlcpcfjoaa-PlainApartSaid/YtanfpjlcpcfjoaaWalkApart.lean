/- The walk of PlainApart: what is written to one page changes no other one. -/
import Derived.Test.YtanfpjlcpcfjoaaWalkSame
namespace Go.Proofs.Ytanfpjlcpcfjoaa.M
open Go.RowKit Go.Proofs.YtanfpjlcpcfjoaaW.PrintWords Go.Proofs.YtanfpjlcpcfjoaaW.PrintLast Go.Proofs.YtanfpjlcpcfjoaaW.PrintMore Go.Proofs.Ytanfpjlcpcfjoaa.Rw
set_option linter.unusedVariables false
set_option linter.unusedSimpArgs false
theorem info3 : (Try.prog.info? 3).map (fun i => (i.zero, i.size, i.bytes)) = some (some (.int .i64 0), 1, 8) := by kernel_rfl
/-- pages of two bytes against what was written last -/
def Rel (N : Nat) (P : Ln) (xs : List Int) : Prop := P.length = N ∧ xs.length = N ∧ ∀ j, j < N → 0 ≤ xs.getD j 0 ∧ xs.getD j 0 ≤ 255 ∧ ∃ b : Int, P.getD j [] = [xs.getD j 0, b] ∧ (xs.getD j 0 ≠ 0 → b = (j : Int))
theorem getD_set {α : Type} (l : List α) (k j : Nat) (x d : α) (hk : k < l.length) : (l.set k x).getD j d = if k = j then x else l.getD j d := by
  rw [List.getD_eq_getElem?_getD, List.getD_eq_getElem?_getD, List.getElem?_set]
  by_cases e : k = j
  · subst e; simp [hk]
  · simp [e]
theorem Rel.set {N : Nat} {P : Ln} {xs : List Int} (h : Rel N P xs) {k : Nat} (hk : k < N) (v b : Int) (h0 : 0 ≤ v) (h1 : v ≤ 255) (hb : v ≠ 0 → b = (k : Int)) : Rel N (P.set k [v, b]) (xs.set k v) := by
  refine ⟨by simpa using h.1, by simpa using h.2.1, fun j hj => ?_⟩
  rw [getD_set P k j _ _ (by rw [h.1]; exact hk), getD_set xs k j _ _ (by rw [h.2.1]; exact hk)]
  by_cases e : k = j
  · subst e
    rw [if_pos rfl, if_pos rfl]
    exact ⟨h0, h1, b, rfl, hb⟩
  · rw [if_neg e, if_neg e]
    exact h.2.2 j hj
theorem Rel.zero (N : Nat) : Rel N (List.replicate N (List.replicate 2 0)) (List.replicate N 0) := by
  refine ⟨by simp, by simp, fun j hj => ?_⟩
  rw [List.getD_eq_getElem?_getD, List.getD_eq_getElem?_getD]
  simp [hj, List.replicate]
structure Ap (w W : World) (lo hi N q : Nat) (P : Ln) (xs : List Int) : Prop where
  bel : Below w.heap.size w W
  bl : w.heap.size ≤ lo
  hp : IsP W lo hi lo P 2
  hr : Row (Value.int .i64) 3 W q xs
  hq : hi ≤ q
  rel : Rel N P xs
section
variable {w W W1 : World} {lo hi N q : Nat} {P P' : Ln} {xs : List Int}
theorem Ap.step (h : Ap w W lo hi N q P xs) (hb : Below W.heap.size W W1) : Ap w W1 lo hi N q P xs :=
  ⟨below_step h.bel hb, h.bl, h.hp.below hb, h.hr.below hb, h.hq, h.rel⟩
/-- a page and its last are written -/
theorem Ap.put (h : Ap w W lo hi N q P xs) (hP : IsP W1 lo hi lo P' 2) (ho : Out W W1 lo hi) {k : Nat} (hk : k < N) (v b : Int) (h0 : 0 ≤ v) (h1 : v ≤ 255) (hb : v ≠ 0 → b = (k : Int)) (e : P.set k [v, b] = P') :
    Row (Value.int .i64) 3 W1 q xs ∧ Ap w (W1.setCell ⟨q, k, none⟩ (.int .i64 v)) lo hi N q P' (xs.set k v) := by
  have hr1 : Row (Value.int .i64) 3 W1 q xs := (ho.2.2 q h.hq h.hr.lt).trans h.hr
  have hlh := h.hp.lo_le
  refine ⟨hr1, (Below.trans h.bel (ho.1.mono h.bl)).setCell (Nat.le_trans h.bl (Nat.le_trans hlh h.hq)) _, h.bl, ?_, hr1.set k v, h.hq, by rw [← e]; exact h.rel.set hk v b h0 h1 hb⟩
  exact hP.move (fun j _ hj => Below.heap_setCell W1 ⟨q, k, none⟩ _ j (by have := h.hq; simp; omega)) (by have := hP.top; simpa [World.setCell] using this)
end
theorem row_two {w : World} {base : Nat} {u : Value} {a b : Int} (h : Kd.R (Kd.int .u8) 5 w base (fun _ => True) u [a, b]) : ∃ q c, u = .slice (some ⟨q, 0, none⟩) 2 c ∧ w.cell? ⟨q, 0, none⟩ = some (.int .u8 a) ∧ w.cell? ⟨q, 1, none⟩ = some (.int .u8 b) := by
  rcases (Kd.own_of_R h).2 with ⟨_, h0⟩ | ⟨q, cap, cur, hv, hb, hh, hnc, hcm, hcs, ht⟩
  · cases h0
  · refine ⟨q, cap, hv, ?_, ?_⟩
    · rw [blk_cell hh 0]
      have h1 : (cur.toList.take (([a, b] : List Int).length * 1))[0]? = some (.int .u8 a) := by rw [ht]; rfl
      rw [List.getElem?_take_of_lt (by simp)] at h1
      simpa using h1
    · rw [blk_cell hh 1]
      have h1 : (cur.toList.take (([a, b] : List Int).length * 1))[1]? = some (.int .u8 b) := by rw [ht]; rfl
      rw [List.getElem?_take_of_lt (by simp)] at h1
      simpa using h1
set_option maxHeartbeats 6400000 in
set_option maxRecDepth 100000 in
theorem apart_walk (a0 : Int) (A1 : Option Addr) (c1 : Nat) (l1 : List ((Int) × (Int))) (w : World) (w0 : (Lit.int .u8 a0).wf = true) (r1 : Kd.C (Kd.pair (Kd.int .u8) (Kd.int .u8)) w A1 l1.length l1) (k1 : l1.length ≤ c1) (m1 : l1.length ≤ maxLen) (y1 : l1.length * 2 ≤ 140737488351232) (g1 : ∀ y ∈ l1, ((Lit.int .u8 y.1).wf = true ∧ (Lit.int .u8 y.2).wf = true)) :
    Calls Try.prog 3 #[.int .u8 a0, .slice A1 l1.length c1] w fun e w' => e = .returned (.bool true) ∧ Below w.heap.size w w' := by
  obtain ⟨b00, b01⟩ := bounds_u8 w0
  have HR := Aside0.mk r1
  have HG := Aside0.mk g1
  have hl63 : l1.length ≤ 9223372036854775807 := by omega
  clear w0 r1 g1 m1
  obtain ⟨N, hN⟩ : ∃ N : Nat, 1 + a0 % 20 = (N : Int) := ⟨(1 + a0 % 20).toNat, by omega⟩
  have hN1 : 1 ≤ N := by omega
  have hN2 : N ≤ 20 := by omega
  by_cases hl : (200 : Int) < (l1.length : Int)
  · have hlb : decide ((200 : Int) < (l1.length : Int)) = true := decide_eq_true hl
    go_enter Try.func3, Try.ntmps3
    go_wp2_with (first | (go_at_call 7; (refine (awakeC _).mono ?_); rintro e w2 ⟨rfl, hb⟩; have HB := Aside0.mk hb; clear hb))
    go_ret
    exact ⟨rfl, HB.out⟩
  · have hlb : decide ((200 : Int) < (l1.length : Int)) = false := decide_eq_false hl
    have HN : Aside0 ((if (N : Int) < 0 then 0 else (N : Int)) = (N : Int)) := ⟨if_neg (by omega)⟩
    have HN200 : Aside0 (N ≤ 200) := ⟨by omega⟩
    have hmk := fun (W : World) => mk_row (P := Try.prog) (t := 26) (e := 3) (z := .int .i64 0) (by kernel_rfl) info3 rfl N (by omega) (by omega) W
    go_enter Try.func3, Try.ntmps3
    go_wp2_with (first
      | (go_at_call 7; (refine (awakeC _).mono ?_); rintro e w0 ⟨rfl, hb⟩; have HB0 := Aside0.mk hb; clear hb)
      | (go_at_call 8; (refine (newC _ _ N 2 HN.out (by decide) HN200.out (by decide) _).mono ?_); rintro e w1 ⟨rfl, HP1, hb⟩; have hal := below_alloc (Below.refl _ w1) (.cells (Array.replicate N (.int .i64 0)) 3 (0, 0)); have HA1 : Aside0 (Ap w (w1.alloc (.cells (Array.replicate N (.int .i64 0)) 3 (0, 0))) w0.heap.size w1.heap.size N w1.heap.size (List.replicate N (List.replicate 2 0)) (List.replicate N 0)) := ⟨⟨below_step (below_step HB0.out hb.out) hal, HB0.out.size, HP1.out.below hal, made_row w1 N 0, Nat.le_refl _, Rel.zero N⟩⟩; clear HB0 HP1 hb hal))
    clear hmk
    go_loopw [8, 9, 10, 11, 12] (fun v8 _ _ _ _ wr => ∃ i : Nat, i ≤ l1.length ∧ v8 = .int .i64 (i : Int) ∧ ∃ P xs, Aside0 (Ap w wr w0.heap.size w1.heap.size N w1.heap.size P xs)) (fun v8 _ _ _ _ _ => l1.length - (intOf v8).toNat)
    case atStart => exact ⟨0, Nat.zero_le _, rfl, _, _, HA1⟩
    case round =>
      clear HA1
      obtain ⟨i, hi, rfl, P, xs, HA⟩ := hrel
      by_cases ci : i < l1.length
      · obtain ⟨ad, e1, hx, hy⟩ := at_pair HR.out i ci
        cases e1
        obtain ⟨⟨bx0, bx1⟩, ⟨by0, by1⟩⟩ := And.intro (bounds_u8 (HG.out _ (mem_getD (0, 0) ci)).1) (bounds_u8 (HG.out _ (mem_getD (0, 0) ci)).2)
        generalize (l1.getD i (0, 0)).1 = a at *
        generalize (l1.getD i (0, 0)).2 = v at *
        have HX := Aside0.mk hx
        have HY := Aside0.mk hy
        replace hx := (HA.out.bel.cell (World.block_lt_of_cell? w _ hx)).trans hx
        replace hy := (HA.out.bel.cell (World.block_lt_of_cell? w _ hy)).trans hy
        obtain ⟨k, hk⟩ : ∃ k : Nat, a % (N : Int) = (k : Int) := ⟨(a % (N : Int)).toNat, by have := Int.emod_nonneg a (b := (N : Int)) (by omega); omega⟩
        have hkN : k < N := by have := Int.emod_lt_of_pos a (b := (N : Int)) (by omega); omega
        have hk20 : k < 20 := by omega
        have hku : IntKind.u8.wrap (k : Int) = (k : Int) := by rw [IntKind.wrap_u8]; omega
        have hkt : a.tmod (N : Int) = (k : Int) := by rw [Int.tmod_eq_emod_of_nonneg bx0]; exact hk
        go_upto_if 47 with (fail)
        have hkP : k < P.length := by rw [HA.out.rel.1]; exact hkN
        have HKP := Aside0.mk hkP
        have hkx : k < xs.length := by rw [HA.out.rel.2.1]; exact hkN
        have HKX := Aside0.mk hkx
        have hkNi : (k : Int) < (N : Int) := by omega
        have hk256 : (k : Int) % 256 = (k : Int) := by omega
        clear hkP hkx
        go_cut [47] from 48 to 75 (fun _ wx => ∃ P xs, Aside0 (Ap w wx w0.heap.size w1.heap.size N w1.heap.size P xs))
        case first =>
          by_cases hv : v = 0
          · subst hv
            go_wp2_with (first | (go_at_call 9; (refine (trimC HA.out.hp k HKP.out).mono ?_); rintro e w3 ⟨rfl, HP, HO⟩; have hput := HA.out.put HP.out HO.out hkN 0 0 (by decide) (by decide) (fun h => absurd rfl h) rfl; have hc3 := hput.1.cellD 0 k HKX.out; have hf3 := hput.1.frozen k; have HA2 := Aside0.mk hput.2; clear HA HP HO hput))
            go_meet
            case rel => exact ⟨_, _, HA2⟩
          · have hvb : (v == 0) = false := beq_eq_false_iff_ne.2 hv
            have hal := below_alloc (Below.refl _ wr) (.cells #[.int .u8 v, .int .u8 (k : Int)] 5 (0, 0))
            have HAa := Aside0.mk (HA.out.step hal)
            have HC := Aside0.mk (blk_C (xs := [v, (k : Int)]) (blk_new wr (.cells #[.int .u8 v, .int .u8 (k : Int)] 5 (0, 0))) (by simp))
            clear hal
            go_wp2_with (first | (go_at_call 10; (refine (writeC HAa.out.hp k HKP.out _ 2 [v, (k : Int)] HC.out (by simp) rfl).mono ?_); rintro e w3 ⟨rfl, HP, HO⟩; have hput := HAa.out.put HP.out HO.out hkN v (k : Int) by0 by1 (fun _ => rfl) rfl; have hc3 := hput.1.cellD 0 k HKX.out; have hf3 := hput.1.frozen k; have HA2 := Aside0.mk hput.2; have hbel3 := Below.trans HAa.out.bel (HO.out.1.mono HAa.out.bl); have hy3 := (hbel3.cell (World.block_lt_of_cell? w _ HY.out)).trans HY.out; clear HA HAa HP HO hput hbel3))
            go_meet
            case rel => exact ⟨_, _, HA2⟩
        case rest =>
          obtain ⟨P', xs', HA2⟩ := hcut
          clear HA hx hy
          go_wp2
          go_loopw [10, 11, 12] (fun v10 _ _ wi => ∃ j : Nat, j ≤ N ∧ v10 = .int .i64 (j : Int) ∧ Aside0 (Ap w wi w0.heap.size w1.heap.size N w1.heap.size P' xs')) (fun v10 _ _ _ => N - (intOf v10).toNat)
          case atStart => exact ⟨0, Nat.zero_le _, rfl, HA2⟩
          case round =>
            clear HA2
            obtain ⟨j, hj, rfl, HA⟩ := hrel
            by_cases cj : j < N
            · have cji : (j : Int) < (N : Int) := by omega
              obtain ⟨hx0, hx1, b, hb, hbj⟩ := HA.out.rel.2.2 j cj
              have HJP : Aside0 (j < P'.length) := ⟨by rw [HA.out.rel.1]; exact cj⟩
              have HJX : Aside0 (j < xs'.length) := ⟨by rw [HA.out.rel.2.1]; exact cj⟩
              obtain ⟨x, hxx⟩ : ∃ x, xs'.getD j 0 = x := ⟨_, rfl⟩
              rw [hxx] at hx0 hx1 hb hbj
              have HXX := Aside0.mk hxx
              have HBB := Aside0.mk hb
              clear hxx hb
              go_upto_region 25 with ((go_at_call 11; (refine (readC HA.out.hp j HJP.out).mono ?_); rintro e w3 ⟨v3, rfl, HV, hb3⟩; rw [HBB.out] at HV; obtain ⟨q3, c3, e3, hp0, hp1⟩ := row_two HV.out; subst e3; have HA3 := Aside0.mk (HA.out.step hb3.out); have hc3 := HA3.out.hr.cellD 0 j HJX.out; rw [HXX.out] at hc3; clear HA HV hb3))
              by_cases hx : x = 0
              · subst hx
                go_quiet (fail)
                have HA4 := Aside0.mk (HA3.out.step (W1 := w3.drewN nq) ⟨rfl, rfl, rfl, Nat.le_refl _, fun _ _ => rfl⟩)
                generalize w3.drewN nq = w4 at *
                go_wp2
                go_roundw
                case rel => exact ⟨j + 1, cj, rfl, HA4⟩
                case measure => simp [intOf]; omega
              · have hxb : (x == 0) = false := beq_eq_false_iff_ne.2 hx
                have hxb2 : (x != 0) = true := bne_iff_ne.2 hx
                obtain rfl := hbj hx
                go_quiet (fail)
                have HA4 := Aside0.mk (HA3.out.step (W1 := w3.drewN nq) ⟨rfl, rfl, rfl, Nat.le_refl _, fun _ _ => rfl⟩)
                generalize w3.drewN nq = w4 at *
                go_wp2
                go_roundw
                case rel => exact ⟨j + 1, cj, rfl, HA4⟩
                case measure => simp [intOf]; omega
            · go_wp2
              go_roundw
              case rel => exact ⟨i + 1, ci, rfl, P', xs', HA⟩
              case measure => simp [intOf]; omega
      · go_wp2
        go_ret
        exact ⟨rfl, HA.out.bel⟩
end Go.Proofs.Ytanfpjlcpcfjoaa.M
