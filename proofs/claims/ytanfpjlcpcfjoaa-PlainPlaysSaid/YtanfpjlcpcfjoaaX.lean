/- One deed on both: Trim; by hand. -/
import Derived.Test.YtanfpjlcpcfjoaaV
namespace Go.Proofs.Ytanfpjlcpcfjoaa.M
open Go.RowKit Go.Proofs.YtanfpjlcpcfjoaaW.PrintWords Go.Proofs.YtanfpjlcpcfjoaaW.PrintLast Go.Proofs.YtanfpjlcpcfjoaaW.PrintMore Go.Proofs.Ytanfpjlcpcfjoaa.Rw
set_option linter.unusedVariables false
set_option linter.unusedSimpArgs false
section
variable {w : World} {lo hi g q n : Nat} {ok : Nat → Prop} {L : Ln}
set_option maxHeartbeats 3200000 in
set_option maxRecDepth 100000 in
theorem doTrimC (h : Pr w lo hi g q n ok L) (d l : Int) (A : Option Addr) (m c : Nat) (hd0 : (d == 0) = false) (hd1 : (d == 1) = false) (hd2 : (d == 2) = false) (hd3 : (d == 3) = false) :
    Calls Try.prog 13 #[.pointer (some ⟨lo, 0, none⟩), .pointer (some ⟨g, 0, none⟩), .agg #[.int .i64 d, .int .i64 l, .slice A m c]] w fun e w' => e = .returned (.bool true) ∧ ∃ L', L'.length = L.length ∧ Aside0 (Pr w' lo hi g q n ok L') ∧ Aside0 (Out2 w w' lo hi q) := by
  have hal := below_alloc (Below.refl _ w) (.cells #[.int .i64 d, .int .i64 l, .slice A m c] 41 (0, 0))
  have hbx := blk_drew (blk_new w (.cells #[.int .i64 d, .int .i64 l, .slice A m c] 41 (0, 0)))
  have hlo : lo ≤ w.heap.size := Nat.le_trans h.hp.lo_le h.hp.top
  have hhi : hi ≤ w.heap.size := h.hp.top
  have HD := Aside0.mk (h.below (below_drew hal))
  have HO1 := Aside0.mk (Out2.of_below (q := q) (hi := hi) (below_drew hal) hlo)
  have HBX := Aside0.mk hbx
  have HHI := Aside0.mk hhi
  clear hal hbx hlo hhi h
  by_cases hl : 0 ≤ l ∧ l < (L.length : Int)
  · obtain ⟨i, rfl⟩ : ∃ i : Nat, l = (i : Int) := ⟨l.toNat, by omega⟩
    have hi' : i < L.length := by omega
    clear hl
    go_enter Try.func13, Try.ntmps13
    go_upto_region 10 with (fail)
    go_region_law (first
      | (go_simp; go_at_call 9; (refine (trimC HD.out.hp i hi').mono ?_); rintro e w3 ⟨rfl, HP, HO⟩; have HK := Aside0.mk (HD.out.keepR HO.out); have hb3 := (HO.out.2.2 w.heap.size HHI.out (blk_lt HBX.out)).trans HBX.out; have hc3 := blk_cell hb3 1)
      | (go_simp; go_at_call 21; (refine (refTrimC HK.out.1 i hi').mono ?_); rintro e w4 ⟨rfl, HM, HOR⟩; have HF := Aside0.mk (HD.out.both HP.out HO.out HM.out HOR.out)))
    all_goals (
      clear HD HK HP HO HM HOR HBX
      go_wp2
      go_ret
      exact ⟨rfl, _, by rw [List.length_set], ⟨HF.out.1⟩, ⟨HO1.out.trans HF.out.2⟩⟩)
  · go_enter Try.func13, Try.ntmps13
    go_upto_region 10 with (fail)
    go_region_law (first
      | (go_simp; go_at_call 9; (refine (trimNo HD.out.hp l hl).mono ?_); rintro e w3 ⟨rfl, rfl⟩)
      | (go_simp; go_at_call 21; (refine (refTrimNo HD.out.hm l hl).mono ?_); rintro e w4 ⟨rfl, rfl⟩))
    all_goals (
      go_wp2
      go_ret
      exact ⟨rfl, _, rfl, HD, HO1⟩)
set_option maxHeartbeats 3200000 in
set_option maxRecDepth 100000 in
theorem doReadC (h : Pr w lo hi g q n ok L) (l : Int) (A : Option Addr) (m c : Nat) :
    Calls Try.prog 13 #[.pointer (some ⟨lo, 0, none⟩), .pointer (some ⟨g, 0, none⟩), .agg #[.int .i64 3, .int .i64 l, .slice A m c]] w fun e w' => e = .returned (.bool true) ∧ ∃ L', L'.length = L.length ∧ Aside0 (Pr w' lo hi g q n ok L') ∧ Aside0 (Out2 w w' lo hi q) := by
  have hal := below_alloc (Below.refl _ w) (.cells #[.int .i64 3, .int .i64 l, .slice A m c] 41 (0, 0))
  have hbx := blk_new w (.cells #[.int .i64 3, .int .i64 l, .slice A m c] 41 (0, 0))
  have hlo : lo ≤ w.heap.size := Nat.le_trans h.hp.lo_le h.hp.top
  have HD := Aside0.mk (h.below hal)
  have HO1 := Aside0.mk (Out2.of_below (q := q) (hi := hi) hal hlo)
  have HBX := Aside0.mk hbx
  have HLO := Aside0.mk hlo
  clear hal hbx hlo h
  by_cases hl : 0 ≤ l ∧ l < (L.length : Int)
  · obtain ⟨i, rfl⟩ : ∃ i : Nat, l = (i : Int) := ⟨l.toNat, by omega⟩
    have hi' : i < L.length := by omega
    obtain ⟨s, hs⟩ : ∃ s, strOfNums (L.getD i []) = s := ⟨_, rfl⟩
    have HS := Aside0.mk hs
    clear hl hs
    go_enter Try.func13, Try.ntmps13
    go_wp2_with (first
      | (go_at_call 11; (refine (readC HD.out.hp i hi').mono ?_); rintro e w3 ⟨v3, rfl, HV, hb3⟩; have HP3 := Aside0.mk (HD.out.below hb3.out); have HB3 := hb3; have hbk3 := (hb3.out.block w.heap.size (blk_lt HBX.out)).trans HBX.out; have hc3 := blk_cell hbk3 1)
      | (go_at_call 20; (refine (refReadC HP3.out.hm i hi').mono ?_); rintro e w4 ⟨A4, c4, rfl, HC4, hb4⟩; have HP4 := Aside0.mk (HP3.out.below hb4.out); have HV4 := row_below HV.out hb4.out; obtain ⟨A5, c5, e5⟩ := Kd.R_slice HV4; subst e5; have hs1 := (strC (c := c5) (Kd.R_reads' HV4).2.2); have hs2 := (strC (c := c4) HC4.out); rw [HS.out] at hs1 hs2; generalize (L.getD i []).length = n5 at *; have HB4 := Aside0.mk (below_step HB3.out hb4.out); clear HV4 HV HC4))
    go_ret
    exact ⟨rfl, _, rfl, HP4, ⟨HO1.out.trans (Out2.of_below HB4.out (Nat.le_trans HLO.out HO1.out.2.1))⟩⟩
  · have hs0 : ∀ W, (convert 31 9 (.slice none 0 0)).run Try.prog W = .ok (.string (strOfNums [])) W := fun W => strC (xs := []) ⟨rfl, by omega, fun h => absurd h (by omega)⟩
    generalize strOfNums [] = s0 at *
    go_enter Try.func13, Try.ntmps13
    go_wp2_with (first
      | (go_at_call 11; (refine (readNo HD.out.hp l hl).mono ?_); rintro e w3 ⟨rfl, rfl⟩)
      | (go_at_call 20; (refine (refReadNo HD.out.hm l hl).mono ?_); rintro e w4 ⟨rfl, rfl⟩))
    go_ret
    exact ⟨rfl, _, rfl, HD, HO1⟩
end
end Go.Proofs.Ytanfpjlcpcfjoaa.M
