/- Plain: the law's example; Copy, Same. By hand. -/
import Derived.Test.YtanfpjlcpcfjoaaF
import Derived.Lib.SlBytesConst
namespace Go.Proofs.Ytanfpjlcpcfjoaa.M
open Go.RowKit Go.Proofs.YtanfpjlcpcfjoaaW.PrintWords Go.Proofs.YtanfpjlcpcfjoaaW.PrintLast Go.Proofs.YtanfpjlcpcfjoaaW.PrintMore Go.Proofs.Ytanfpjlcpcfjoaa.Rw
set_option linter.unusedVariables false
set_option linter.unusedSimpArgs false
theorem blk_C {W : World} {q : Nat} {fr : Nat × Nat} {xs : List Int} (hb : W.heap[q]? = some (.cells (xs.map (Value.int .u8)).toArray 5 fr)) (h : xs.length ≤ 1000) : Kd.C (Kd.int .u8) W (some ⟨q, 0, none⟩) xs.length xs := by
  refine ⟨rfl, by omega, fun _ => ⟨⟨q, 0, none⟩, rfl, fun j p hj => ⟨[.int .u8 p], rfl, rfl, fun i u hu => ?_⟩⟩⟩
  obtain rfl : i = 0 := by have := (List.getElem?_eq_some_iff.1 hu).1; simpa using this
  have hu' : Value.int .u8 p = u := by simpa using hu
  subst hu'
  refine World.news_of_block hb _ _ ?_
  show ((xs.map (Value.int .u8)).toArray.toList)[j * 1 + 0]? = _
  simp [hj]
theorem row_bytes (W : World) (xs : List Int) (fr : Nat × Nat) (h : xs.length ≤ 1000) : Kd.C (Kd.int .u8) (W.alloc (.cells (xs.map (Value.int .u8)).toArray 5 fr)) (some ⟨W.heap.size, 0, none⟩) xs.length xs :=
  blk_C (blk_new W _) h
theorem strC {w : World} {A : Option Addr} {n c : Nat} {xs : List Int} (h : (Kd.int .u8).C w A n xs) : (convert 31 9 (.slice A n c)).run Try.prog w = .ok (.string (strOfNums xs)) w :=
  Kd.C_string Try.underlying31 (by kernel_rfl) (by kernel_rfl) h
theorem IsP.top {W : World} {lo hi g n : Nat} {L : Ln} (h : IsP W lo hi g L n) : hi ≤ W.heap.size := let ⟨_, _, h⟩ := h; h.hs
theorem row_out {w w' : World} {lo hi base : Nat} {ok : Nat → Prop} {u : Value} {r : List Int} (h : Kd.R (Kd.int .u8) 5 w base ok u r) (ho : Out w w' lo hi) (hb : hi ≤ base) : Kd.R (Kd.int .u8) 5 w' base ok u r :=
  row_move h (fun q hq => ho.2.2 q (Nat.le_trans hb (Kd.R_base h q hq)) (Kd.R_lt h q hq))
theorem row_below {w w' : World} {base : Nat} {ok : Nat → Prop} {u : Value} {r : List Int} (h : Kd.R (Kd.int .u8) 5 w base ok u r) (hb : Below w.heap.size w w') : Kd.R (Kd.int .u8) 5 w' base ok u r :=
  row_move h (fun q hq => hb.block q (Kd.R_lt h q hq))
set_option maxHeartbeats 3200000 in
set_option maxRecDepth 100000 in
theorem awakeC (w : World) : Calls Try.prog 7 #[] w fun e w' => e = .returned (.bool true) ∧ Below w.heap.size w w' := by
  have kc := fun (w : World) (C : Array Value) (n c : Nat) => Lib.run_convert_bytes_const (P := Try.prog) w 31 5 C n c Try.underlying31 (by kernel_rfl)
  go_enter Try.func7, Try.ntmps7
  go_wp2_with (first
    | (go_at_call 8; (refine (newC 2 3 2 3 (by decide) (by decide) (by decide) (by decide) _).mono ?_); rintro e w1 ⟨rfl, HI, HB⟩; have HI2 := Aside0.mk (HI.out.below (below_alloc (Below.refl _ _) (.cells #[.int .u8 97, .int .u8 98, .int .u8 99] 5 (3, 4)))); have HC := Aside0.mk (row_bytes w1 [97, 98, 99] (3, 4) (by decide)); have HB1 := Aside0.mk (below_alloc HB.out (.cells #[.int .u8 97, .int .u8 98, .int .u8 99] 5 (3, 4))); clear HI HB)
    | (go_at_call 10; (refine (writeC HI2.out 0 (by decide) _ 3 [97, 98, 99] HC.out (by decide) rfl).mono ?_); rintro e w2 ⟨rfl, HI, HO⟩; have HB := Aside0.mk (Below.trans HB1.out HO.out.1); clear HB1 HO HI2 HC)
    | (go_at_call 11; (first
      | ((refine (readC HI.out 0 (by decide)).mono ?_); rintro e w3 ⟨v3, rfl, HV, HB3⟩; have HIr := Aside0.mk (HI.out.below HB3.out); have HB2 := Aside0.mk (below_step HB.out HB3.out); have HT := Aside0.mk HI.out.top; clear HI HB HB3)
      | ((refine (readC HI5.out 0 (by decide)).mono ?_); rintro e w5 ⟨v5, rfl, HV5, HB5⟩; have HV1 := Aside0.mk (row_below HV4.out HB5.out); have HB6 := Aside0.mk (below_step HB4.out HB5.out); clear HI5 HV4 HB4 HB5; obtain ⟨A1, c1, e1⟩ := Kd.R_slice HV1.out; obtain ⟨A2, c2, e2⟩ := Kd.R_slice HV5.out; subst e1 e2; have hs1 : (convert 31 9 (.slice A1 3 c1)).run Try.prog _ = .ok (.string { data := #[97, 98, 99] }) _ := strC (Kd.R_reads' HV1.out).2.2; have hs2 : (convert 31 9 (.slice A2 3 c2)).run Try.prog _ = .ok (.string { data := #[0, 0, 0] }) _ := strC (Kd.R_reads' HV5.out).2.2)))
    | (go_at_call 9; (refine (trimC HIr.out 0 (by decide)).mono ?_); rintro e w4 ⟨rfl, HI5, HO⟩; have HV4 := Aside0.mk (row_out HV.out HO.out HT.out); have HB4 := Aside0.mk (Below.trans HB2.out HO.out.1); clear HIr HV HB2 HO))
  go_ret
  exact ⟨rfl, HB6.out⟩
theorem take_snocP (L : Ln) {i : Nat} (h : i < L.length) : L.take i ++ [L.getD i []] = L.take (i + 1) := by
  rw [List.getD_eq_getElem?_getD, List.getElem?_eq_getElem h, Option.getD_some, List.take_append_getElem]
set_option maxHeartbeats 3200000 in
set_option maxRecDepth 100000 in
theorem copyC {w : World} {lo hi g n : Nat} {L : Ln} (hI : IsP w lo hi g L n) : Calls Try.prog 14 #[.pointer (some ⟨g, 0, none⟩)] w fun e w' =>
    e = .returned (.pointer (some ⟨w.heap.size, 0, none⟩)) ∧ Aside0 (IsP w' w.heap.size w'.heap.size w.heap.size L n) ∧ Aside0 (Below w.heap.size w w') := by
  obtain ⟨v, vs, hP⟩ := hI
  obtain ⟨A0, c0, hv, hc0, hc1⟩ := hP.head
  have hgs : g < w.heap.size := Nat.lt_of_lt_of_le hP.gh hP.hs
  have hgn : ¬ g = w.heap.size := by omega
  have hll := hP.ll
  have hll2 : L.length ≤ 9223372036854775807 := by omega
  have HE := Aside0.mk (empty_P (Below.refl w.heap.size w) n hP.nl rfl)
  have HB0 := Aside0.mk (below_alloc (Below.refl w.heap.size w) (.cells #[.slice none 0 0, .int .i64 (n : Int)] 51 (0, 0)))
  have HP := Aside0.mk hP
  clear hP hv
  go_enter Try.func14, Try.ntmps14
  go_wp2
  go_loopw [5, 19] (fun v5 v19 wr => ∃ i : Nat, i ≤ L.length ∧ v19 = .int .i64 (i : Int) ∧ Aside0 (IsP wr w.heap.size wr.heap.size w.heap.size (L.take i) n) ∧ Aside0 (Below w.heap.size w wr)) (fun _ v19 _ => L.length - (intOf v19).toNat)
  case atStart => exact ⟨0, Nat.zero_le _, rfl, HE, HB0⟩
  case round =>
    clear HE HB0
    obtain ⟨i, hi, rfl, HQ0, HB⟩ := hrel
    by_cases ci : i < L.length
    · obtain ⟨v', vs', hQ⟩ := HQ0.out
      clear HQ0
      obtain ⟨A1, c1, hv1, hd0, hd1⟩ := hQ.head
      have hf0 := blk_frozen hQ.blk 0
      have hg := blk_lt hQ.blk
      have hli : (L.take i).length = i := by rw [List.length_take]; omega
      rw [hli] at hv1 hd0
      subst hv1
      have HQ := Aside0.mk hQ
      have HL := Aside0.mk hli
      have hi200 : i + 1 ≤ 200 := by omega
      have HL2 := Aside0.mk (take_snocP L ci)
      obtain ⟨qo, co, u, hv, hcl, hcc0, hu, hcu, hR⟩ := HP.out.elem ci
      obtain ⟨Au, cu, eu⟩ := Kd.R_slice hR
      subst eu
      have hA0 : A0 = some ⟨qo, 0, none⟩ := by
        have := hc0.symm.trans hcc0
        simp at this; exact this.1
      subst hA0
      have hrl : (L.getD i []).length = n := HP.out.rl _ (mem_getD _ ci)
      have hnl := HP.out.nl
      generalize L.getD i [] = r at *
      replace hcu := (HB.out.cell (World.block_lt_of_cell? w _ hcu)).trans hcu
      have hcu2 := (Kd.R_reads' hR).2.1
      have HC := Aside0.mk (Kd.C_below (Kd.R_reads' (row_below hR HB.out)).2.2 (below_drew (Below.refl _ wr)))
      have HRl := Aside0.mk hrl
      have hrl2 : r.length ≤ 16777216 := by omega
      clear hQ hli hu hR hcc0 hv hrl
      go_upto_region 7 with (fail)
      go_region_law (first
        | (apply push_step (s := .tmp 27) (x := .tmp 30) (r := r); (case h => exact HQ.out); (case hgd => rfl); (case ho => rfl); (case hs => rfl); (case hx => rfl); (case hL => exact HL.out); (case hl => exact hi200); (case hr => exact HRl.out); (case hb => exact HBB.out); (case hq => exact HQQ.out); (case hR => exact HRR.out); (intro gg cap w3 hcc hcf HP3 HB3; rw [HL2.out] at HP3))
        | (go_simp; go_at_call 18; (refine (cloneC Au cu r _ HC.out hcu2 hrl2).mono ?_); rintro e w3 ⟨v3, rfl, HV, HB3⟩; obtain ⟨A3, c3, e3⟩ := Kd.R_slice HV.out; subst e3; have HBB := Aside0.mk (below_alloc (below_step (below_drew (Below.refl _ wr)) HB3.out) (.cells #[.slice A3 r.length c3] 31 (0, 0))); have HQQ := Aside0.mk (blk_new w3 (.cells #[.slice A3 r.length c3] 31 (0, 0))); have HRR := Aside0.mk (row_below HV.out (below_alloc (Below.refl _ w3) (.cells #[.slice A3 r.length c3] 31 (0, 0)))); have hd3 : w3.cell? ⟨w.heap.size, 0, none⟩ = some (.slice A1 i c1) := (HB3.out.cell hg).trans hd0; have hg3 : w.heap.size < w3.heap.size := Nat.lt_of_lt_of_le hg HB3.out.size; have hg4 : ¬ w.heap.size = w3.heap.size := Nat.ne_of_lt hg3; clear HV HB3))
      all_goals (
        have HB2 := Aside0.mk (Below.trans HB.out HB3.out)
        clear HB HB3 HQ HBB HQQ HRR HC hd0 hd1 hf0 hcc hcf hcu
        go_wp2
        go_roundw
        case rel => exact ⟨i + 1, ci, rfl, HP3, HB2⟩
        case measure => simp [intOf]; omega)
    · obtain rfl : i = L.length := by omega
      rw [List.take_length] at HQ0
      go_wp2
      go_ret
      exact ⟨rfl, HQ0, HB⟩
end Go.Proofs.Ytanfpjlcpcfjoaa.M
