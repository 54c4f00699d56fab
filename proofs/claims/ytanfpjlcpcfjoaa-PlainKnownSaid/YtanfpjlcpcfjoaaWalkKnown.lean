/- The walk of PlainKnown: arrays by hand. -/
import Derived.Test.YtanfpjlcpcfjoaaWalkSame
namespace Go.Proofs.Ytanfpjlcpcfjoaa.M
open Go.RowKit Go.Proofs.YtanfpjlcpcfjoaaW.PrintWords Go.Proofs.YtanfpjlcpcfjoaaW.PrintLast Go.Proofs.YtanfpjlcpcfjoaaW.PrintMore Go.Proofs.Ytanfpjlcpcfjoaa.Rw
set_option linter.unusedVariables false
set_option linter.unusedSimpArgs false
section
attribute [local go_sem] max2_int min2_int max_two min_two
attribute [local go_sem ↓] Go.wp_at_zero Go.wp_at_succ
set_option maxHeartbeats 1600000 in
theorem newNo1 (w : World) : Calls Try.prog 8 #[.int .i64 16777217, .int .i64 0] w fun e w' => e = .returned (.pointer (some ⟨w.heap.size, 0, none⟩)) ∧ Aside0 (IsP w' w.heap.size w'.heap.size w.heap.size [] 0) ∧ Aside0 (Below w.heap.size w w') := by
  have HE := Aside0.mk (empty_P (Below.refl w.heap.size w) 0 (by omega) rfl)
  have HB := Aside0.mk (below_alloc (Below.refl w.heap.size w) (.cells #[.slice none 0 0, .int .i64 ((0 : Nat) : Int)] 51 (0, 0)))
  go_enter Try.func8, Try.ntmps8
  go_wp2
  go_ret
  exact ⟨rfl, HE, HB⟩
set_option maxHeartbeats 1600000 in
theorem newNo2 (w : World) : Calls Try.prog 8 #[.int .i64 5000, .int .i64 5000] w fun e w' => e = .returned (.pointer (some ⟨w.heap.size, 0, none⟩)) ∧ Aside0 (IsP w' w.heap.size w'.heap.size w.heap.size [] 5000) ∧ Aside0 (Below w.heap.size w w') := by
  have HE := Aside0.mk (empty_P (Below.refl w.heap.size w) 5000 (by omega) rfl)
  have HB := Aside0.mk (below_alloc (Below.refl w.heap.size w) (.cells #[.slice none 0 0, .int .i64 ((5000 : Nat) : Int)] 51 (0, 0)))
  go_enter Try.func8, Try.ntmps8
  go_wp2
  go_ret
  exact ⟨rfl, HE, HB⟩
end
theorem IsP.far {W : World} {lo hi g n : Nat} {L : Ln} (h : IsP W lo hi g L n) {p : Addr} (hp : hi ≤ p.block) (u : Value) : IsP (W.setCell p u) lo hi g L n :=
  h.move (fun k _ hk => Below.heap_setCell W p u k (by omega)) (by have := h.top; simpa [World.setCell] using this)
theorem IsP.drewN {W : World} {lo hi g n : Nat} {L : Ln} (h : IsP W lo hi g L n) (k : Nat) : IsP (W.drewN k) lo hi g L n := h.move (fun _ _ _ => rfl) h.top
/-- an array and a row above it -/
structure Kn (w W : World) (lo hi n : Nat) (P : Ln) (u : Value) (r : List Int) : Prop where
  bel : Below w.heap.size w W
  bl : w.heap.size ≤ lo
  hp : IsP W lo hi lo P n
  hz : Kd.R (Kd.int .u8) 5 W hi (fun _ => True) u r
theorem Kn.step {w W W1 : World} {lo hi n : Nat} {P : Ln} {u : Value} {r : List Int} (h : Kn w W lo hi n P u r) (hb : Below W.heap.size W W1) : Kn w W1 lo hi n P u r :=
  ⟨below_step h.bel hb, h.bl, h.hp.below hb, row_below h.hz hb⟩
theorem row_pair {w : World} {base : Nat} {u : Value} {a b : Int} (h : Kd.R (Kd.int .u8) 5 w base (fun _ => True) u [a, b]) : ∃ q c, u = .slice (some ⟨q, 0, none⟩) 2 c ∧ base ≤ q ∧ q < w.heap.size ∧ w.cell? ⟨q, 1, none⟩ = some (.int .u8 b) ∧ w.frozen? ⟨q, 1, none⟩ = false := by
  rcases (Kd.own_of_R h).2 with ⟨_, h0⟩ | ⟨q, cap, cur, hv, hb, hh, hnc, hcm, hcs, ht⟩
  · cases h0
  · refine ⟨q, cap, hv, hb, blk_lt hh, ?_, blk_frozen hh _⟩
    rw [blk_cell hh 1]
    have h1 : (cur.toList.take (([a, b] : List Int).length * 1))[1]? = some (.int .u8 b) := by rw [ht]; rfl
    rw [List.getElem?_take_of_lt (by simp)] at h1
    simpa using h1
set_option maxHeartbeats 6400000 in
set_option maxRecDepth 100000 in
theorem known_walk (w : World) : Calls Try.prog 5 #[] w fun e w' => e = .returned (.bool true) ∧ Below w.heap.size w w' := by
  go_enter Try.func5, Try.ntmps5
  go_upto_region 12 with (first
    | (go_at_call 7; (refine (awakeC _).mono ?_); rintro e w0 ⟨rfl, hb⟩; have HB0 := Aside0.mk hb; clear hb)
    | (go_at_call 8; (refine (newC 2 2 2 2 (by decide) (by decide) (by decide) (by decide) _).mono ?_); rintro e w1 ⟨rfl, HP1, hb⟩; have hal := below_alloc (Below.refl _ w1) (.cells #[.int .u8 1, .int .u8 2] 5 (0, 0)); have HP2 := Aside0.mk (HP1.out.below hal); have HB2 := Aside0.mk (below_step (below_step HB0.out hb.out) hal); have HA := Aside0.mk HB0.out.size; have HA1 := Aside0.mk (Nat.le_trans HB0.out.size hb.out.size); have hblk := blk_new w1 (.cells #[.int .u8 1, .int .u8 2] 5 (0, 0)); have HBK := Aside0.mk hblk; have HC := Aside0.mk (blk_C (xs := [1, 2]) hblk (by decide)); clear HB0 HP1 hb hal hblk)
    | (go_at_call 10; (refine (writeC HP2.out 0 (by decide) _ 2 [1, 2] HC.out (by decide) rfl).mono ?_); rintro e w3 ⟨rfl, HP3, HO⟩; have hbk := (HO.out.2.2 w1.heap.size (Nat.le_refl _) (blk_lt HBK.out)).trans HBK.out; have hcell := blk_cell hbk 0; have hfz := blk_frozen hbk 0; have hwlt := blk_lt hbk; have HP4 := Aside0.mk (HP3.out.far (p := ⟨w1.heap.size, 0, none⟩) (Nat.le_refl _) (.int .u8 9)); have HB3 := Aside0.mk (Below.trans HB2.out (HO.out.1.mono HA.out)); clear HP2 HB2 HC HO HBK hbk)
    | (go_at_call 11; (first
      | ((refine (readC HP4.out 0 (by decide)).mono ?_); rintro e w5 ⟨v5, rfl, HV5, HB5⟩; obtain ⟨q5, c5, e5, hq5, hq5l, hc5, hf5⟩ := row_pair (a := 1) (b := 2) HV5.out; subst e5; have hqhi : w1.heap.size ≤ q5 := Nat.le_trans HP4.out.top hq5; have HP6 := Aside0.mk ((HP4.out.below HB5.out).far (p := ⟨q5, 1, none⟩) hqhi (.int .u8 9)); have HB6 := Aside0.mk ((below_step (HB3.out.setCell (p := ⟨w1.heap.size, 0, none⟩) HA1.out (.int .u8 9)) HB5.out).setCell (p := ⟨q5, 1, none⟩) (Nat.le_trans HA1.out hqhi) (.int .u8 9)); clear HP4 HB3 HV5 HB5 hq5 hqhi)
      | ((refine (readC HP6.out 0 (by decide)).mono ?_); rintro e w7 ⟨v7, rfl, HV7, HB7⟩; have HK7 : Aside0 (Kn w w7 w0.heap.size w1.heap.size 2 [[1, 2], [0, 0]] v7 [1, 2]) := ⟨⟨below_step HB6.out HB7.out, HA.out, HP6.out.below HB7.out, Kd.R_of_own (own_less (Kd.own_of_R HV7.out) HP6.out.top) (fun _ _ => trivial)⟩⟩; clear HP6 HB6 HV7 HB7 hcell hfz hwlt hq5l hc5 hf5))))
  have HW1 : Aside0 (∀ k, Calls Try.prog 10 #[.pointer (some ⟨w0.heap.size, 0, none⟩), .int .i64 2, .slice (some ⟨w1.heap.size, 0, none⟩) 2 2] (w7.drewN k) (fun e w' => e = .returned (.int .i64 2) ∧ w' = w7.drewN k)) :=
    ⟨fun k => (writeNo (HK7.out.hp.drewN k) 2 _ 2 2 (.inl (by decide)) (by decide)).mono fun e w' h => ⟨h.1, h.2.symm⟩⟩
  have HW2 : Aside0 (∀ k, Calls Try.prog 10 #[.pointer (some ⟨w0.heap.size, 0, none⟩), .int .i64 1, .slice (some ⟨w1.heap.size, 1, none⟩) 1 1] (w7.drewN k) (fun e w' => e = .returned (.int .i64 3) ∧ w' = w7.drewN k)) :=
    ⟨fun k => (writeNo (HK7.out.hp.drewN k) 1 _ 1 1 (.inr (by decide)) (by decide)).mono fun e w' h => ⟨h.1, h.2.symm⟩⟩
  have HW3 : Aside0 (∀ k, Calls Try.prog 9 #[.pointer (some ⟨w0.heap.size, 0, none⟩), .int .i64 (-1)] (w7.drewN k) (fun e w' => e = .returned (.int .i64 2) ∧ w' = w7.drewN k)) :=
    ⟨fun k => (trimNo (HK7.out.hp.drewN k) (-1) (by decide)).mono fun e w' h => ⟨h.1, h.2.symm⟩⟩
  go_quiet ((first
    | (go_at_call 10; (first | with_reducible exact Calls.quiet_of_same (HW1.out _) | with_reducible exact Calls.quiet_of_same (HW2.out _)))
    | (go_at_call 9; with_reducible exact Calls.quiet_of_same (HW3.out _))))
  have HK8 : Aside0 (Kn w (w7.drewN nq) w0.heap.size w1.heap.size 2 [[1, 2], [0, 0]] v7 [1, 2]) := ⟨HK7.out.step ⟨rfl, rfl, rfl, Nat.le_refl _, fun _ _ => rfl⟩⟩
  clear HW1 HW2 HW3 HK7
  generalize w7.drewN nq = w8 at *
  obtain ⟨q7, c7, e7, hq7, hq7l, hc7, hf7⟩ := row_pair (a := 1) (b := 2) HK8.out.hz
  subst e7
  clear hq7 hq7l hc7 hf7
  have HS1 : Aside0 (sameL [[1, 2], [0, 0]] (List.replicate 2 (List.replicate 2 0)) = false) := ⟨sameL_no (j := 0) (by decide) (by decide) (by decide)⟩
  have HS2 : Aside0 (sameL [[1, 2], [0, 0]] [[1, 2], [0, 0]] = true) := ⟨sameL_refl _⟩
  have HS3 : Aside0 (sameL [[1, 2], [0, 0]] (List.replicate 3 (List.replicate 2 0)) = false) := ⟨sameL_len (by decide)⟩
  go_wp2_with (first
    | (go_at_call 11; (first
      | (have hst := HK8; (refine (readNo HK8.out.hp 2 (by decide)).mono ?_); rintro e w9 ⟨rfl, rfl⟩; have HK9 := HK8; clear hst HK8)
      | (have hst := HG11; (refine (readNo HG11.out 0 (by decide)).mono ?_); rintro e w12 ⟨rfl, rfl⟩; have HK12 := HK11; have HH12 := HH11; clear hst HK11 HH11 HG11)
      | (have hst := HH12; (refine (readNo HH12.out 0 (by decide)).mono ?_); rintro e w13 ⟨rfl, rfl⟩; have HK13 := HK12; clear hst HK12 HH12)
      | (have hst := HJ14; (refine (readNo HJ14.out 0 (by decide)).mono ?_); rintro e w15 ⟨rfl, rfl⟩; have HK15 := HK14; clear hst HK14 HJ14)
      | (have hst := HZ16; (refine (readC HZ16.out 0 (by decide)).mono ?_); rintro e w17 ⟨v17, rfl, HV, hb⟩; obtain ⟨A17, c17, e17⟩ := Kd.R_slice HV.out; subst e17; have HK17 := Aside0.mk (HK16.out.step hb.out); have hs17 : (convert 31 9 (.slice (some ⟨q7, 0, none⟩) 2 c7)).run Try.prog w17 = .ok (.string { data := #[1, 2] }) w17 := (strC (C_of_R2 HK17.out.hz rfl)); clear hst HK16 HZ16 HV hb)))
    | (go_at_call 8; (first
      | (have hst := HK9; (refine (newNo1 _).mono ?_); rintro e w10 ⟨rfl, HG10, hb⟩; have HK10 := Aside0.mk (HK9.out.step hb.out); clear hst HK9 hb)
      | (have hst := HK10; (refine (newNo2 _).mono ?_); rintro e w11 ⟨rfl, HH11, hb⟩; have HK11 := Aside0.mk (HK10.out.step hb.out); have HG11 := Aside0.mk (HG10.out.below hb.out); clear hst HK10 HG10 hb)
      | (have hst := HK13; (refine (newC (-1) 5 0 5 (by decide) (by decide) (by decide) (by decide) _).mono ?_); rintro e w14 ⟨rfl, HJ14, hb⟩; have HK14 := Aside0.mk (HK13.out.step hb.out); clear hst HK13 hb)
      | (have hst := HK15; (refine (newC 1 (-3) 1 0 (by decide) (by decide) (by decide) (by decide) _).mono ?_); rintro e w16 ⟨rfl, HZ16, hb⟩; have HK16 := Aside0.mk (HK15.out.step hb.out); clear hst HK15 hb)
      | (have hst := HK17; (refine (newC 2 2 2 2 (by decide) (by decide) (by decide) (by decide) _).mono ?_); rintro e w18 ⟨rfl, HM18, hb⟩; have HK18 := Aside0.mk (HK17.out.step hb.out); clear hst HK17 hb)
      | (have hst := HK21; (refine (newC 3 2 3 2 (by decide) (by decide) (by decide) (by decide) _).mono ?_); rintro e w22 ⟨rfl, HM22, hb⟩; have HK22 := Aside0.mk (HK21.out.step hb.out); clear hst HK21 hb)))
    | (go_at_call 14; (refine (copyC HK19.out.hp).mono ?_); rintro e w20 ⟨rfl, HM20, hb⟩; have HK20 := Aside0.mk (HK19.out.step hb.out); clear HK19 hb)
    | (go_at_call 15; (first
      | (have hst := HM18; (refine (sameNC HK18.out.hp HM18.out false HS1.out).mono ?_); rintro e w19 ⟨rfl, hb⟩; have HK19 := Aside0.mk (HK18.out.step hb.out); clear hst HK18 HM18 hb)
      | (have hst := HM20; (refine (sameNC HK20.out.hp HM20.out true HS2.out).mono ?_); rintro e w21 ⟨rfl, hb⟩; have HK21 := Aside0.mk (HK20.out.step hb.out); clear hst HK20 HM20 hb)
      | (have hst := HM22; (refine (sameNC HK22.out.hp HM22.out false HS3.out).mono ?_); rintro e w23 ⟨rfl, hb⟩; have HK23 := Aside0.mk (HK22.out.step hb.out); clear hst HK22 HM22 hb))))
  go_ret
  exact ⟨rfl, HK23.out.bel⟩
end Go.Proofs.Ytanfpjlcpcfjoaa.M
