/- The walk of FateTells: any fates: whether they may be; what befalls any operation; how many are left. -/
import Derived.Test.YtopajgpepmocfaaE
namespace Go.Proofs.Ytopajgpepmocfaa.M
open Go.RowKit Go.Proofs.YtopajgpepmocfaaW.PrintWords Go.Proofs.YtopajgpepmocfaaW.PrintLast Go.Proofs.YtopajgpepmocfaaW.PrintMore Go.Proofs.Ytopajgpepmocfaa.Rw Go.Maps
set_option linter.unusedVariables false
set_option linter.unusedSimpArgs false
theorem look_snoc {l : List F} {x : F} (ha : Apart (l ++ [x])) (n : Int) : lookF (l ++ [x]) n = if x.1 = n then (x, true) else lookF l n := by
  unfold lookF
  rw [List.find?_append]
  cases h : l.find? (fun x => x.1 == n) with
  | some y =>
    have hy : y.1 = n := eq_of_beq (List.find?_some (p := fun x : F => x.1 == n) h)
    have hne : y.1 ≠ x.1 := (List.pairwise_append.1 ha).2.2 y (List.mem_of_find?_eq_some h) x (List.mem_singleton.2 rfl)
    rw [if_neg (fun e => hne (by rw [hy, e]))]
    rfl
  | none =>
    by_cases e : x.1 = n
    · simp [List.find?_cons, e]
    · have : (x.1 == n) = false := beq_eq_false_iff_ne.2 e
      simp [List.find?_cons, this, e]
theorem left_snoc (l : List F) (x : F) (n : Int) : leftF (l ++ [x]) n = leftF l n + if n ≤ x.1 then 1 else 0 := by
  unfold leftF
  rw [List.filter_append, List.length_append]
  by_cases e : n ≤ x.1 <;> simp [e]
theorem left_le (l : List F) (n : Int) : leftF l n ≤ l.length := List.length_filter_le _ _
theorem FS.far {w W : World} {g : Nat} {l : List F} (h : FS w W g l) {p : Addr} (hp : g < p.block) (hw : w.heap.size ≤ p.block) (u : Value) : FS w (W.setCell p u) g l := by
  obtain ⟨⟨w0, h1, h2, b, h3, h4, h5, h6⟩, hB⟩ := h
  exact ⟨⟨w0, h1, h2, b, blk_far h3 (Nat.ne_of_lt hp) u, h4.setCell (by omega) u, h5, h6⟩, hB.setCell hw u⟩
theorem FS.lt {w W : World} {g : Nat} {l : List F} (h : FS w W g l) : g < W.heap.size := let ⟨_, h0⟩ := h.is; h0.lt
set_option maxHeartbeats 3200000 in
theorem tells_walk (A0 : Option Addr) (c0 : Nat) (l0 : List ((Int) × (Int) × (Int))) (a1 : Int) (w : World) (r0 : Kd.C (Kd.pair (Kd.int .i64) (Kd.pair (Kd.int .i64) (Kd.int .i64))) w A0 l0.length l0) (k0 : l0.length ≤ c0) (m0 : l0.length ≤ maxLen) (y0 : l0.length * 24 ≤ 140737488351232) (g0 : ∀ y ∈ l0, ((Lit.int .i64 y.1).wf = true ∧ (Lit.int .i64 y.2.1).wf = true ∧ (Lit.int .i64 y.2.2).wf = true)) (w1 : (Lit.int .i64 a1).wf = true) :
    Calls Try.prog 3 #[.slice A0 l0.length c0, .int .i64 a1] w fun e w' => e = .returned (.bool true) ∧ Below w.heap.size w w' := by
  have HR := Aside0.mk r0
  have hm9 : l0.length ≤ 9223372036854775807 := by omega
  clear r0 g0 m0
  by_cases hl : 600 < (l0.length : Int)
  · go_enter Try.func3, Try.ntmps3
    go_wp2_with (go_at_call 6; (refine (awakeC _).mono ?_); rintro e w2 ⟨rfl, hb⟩; have HB := Aside0.mk hb; clear hb)
    go_ret
    exact ⟨rfl, HB.out⟩
  · have hlb : decide ((600 : Int) < (l0.length : Int)) = false := decide_eq_false hl
    by_cases hok : OkF l0
    · have HOk := Aside0.mk hok
      clear hok
      go_enter Try.func3, Try.ntmps3
      go_wp2_with (first
        | (go_at_call 6; (refine (awakeC _).mono ?_); rintro e w2 ⟨rfl, hb⟩; have HB := Aside0.mk hb; clear hb)
        | (go_at_call 7; (refine (newS (w := w) A0 c0 l0 _ HB.out (Kd.C_below HR.out HB.out) k0 HOk.out).mono ?_); rintro e w3 ⟨g, rfl, HS, HB3⟩; have HB2 := Aside0.mk (below_step HB.out HB3.out); clear HB HB3; have HB := HB2; clear HB2)
        | (go_at_call 8; (refine (refMayC A0 c0 l0 _ (Kd.C_below HR.out HB.out) k0 hm9 true ⟨fun _ => rfl, fun _ => HOk.out⟩).mono ?_); rintro e w4 ⟨rfl, hb4⟩; have HS2 := Aside0.mk (HS.out.below hb4); clear HS HB hb4; have HS := HS2; clear HS2))
      have hgp : g < w4.heap.size := HS.out.lt
      have hwp : w.heap.size ≤ w4.heap.size := HS.out.bel.size
      have HS5 := Aside0.mk (HS.out.alloc (.cells #[Value.int IntKind.i64 0, Value.int IntKind.i64 0, Value.int IntKind.i64 0] 30 (0, 0)))
      have HP5 := Aside0.mk (blk_new w4 (.cells #[Value.int IntKind.i64 0, Value.int IntKind.i64 0, Value.int IntKind.i64 0] 30 (0, 0)))
      clear HS
      generalize (w4.alloc (.cells #[Value.int IntKind.i64 0, Value.int IntKind.i64 0, Value.int IntKind.i64 0] 30 (0, 0))) = W5 at *
      generalize w4.heap.size = p at *
      go_loopw [8, 9, 10] (fun v8 v9 v10 wr => ∃ (i m : Nat) (x : F) (ok : Bool), (i : Int) ≤ (l0.length : Int) ∧ v10 = .int .i64 (i : Int) ∧ v8 = .bool ok ∧ v9 = .int .i64 (m : Int) ∧ Aside0 (lookF (l0.take i) a1 = (x, ok)) ∧ Aside0 (leftF (l0.take i) a1 = m) ∧ Aside0 (FS w wr g l0) ∧ Aside0 (wr.heap[p]? = some (.cells #[.int .i64 x.1, .int .i64 x.2.1, .int .i64 x.2.2] 30 (0, 0)))) (fun _ _ v10 _ => l0.length - (intOf v10).toNat)
      case atStart => exact ⟨0, 0, (0, 0, 0), false, by omega, rfl, rfl, rfl, ⟨rfl⟩, ⟨rfl⟩, HS5, HP5⟩
      case round =>
        clear HS5 HP5
        obtain ⟨i, m, x, ok, hi, rfl, rfl, rfl, HLk, HLf, HS, HP⟩ := hrel
        by_cases c : (i : Int) < (l0.length : Int)
        · have cN : i < l0.length := by omega
          obtain ⟨ad, e1, hx, hy, hz⟩ := at_tri HR.out i cN
          cases e1
          obtain ⟨y, hyy⟩ : ∃ y, l0.getD i (0, 0, 0) = y := ⟨_, rfl⟩
          rw [hyy] at hx hy hz
          have hxw := hx
          replace hx := (HS.out.bel.cell (World.block_lt_of_cell? w _ hx)).trans hx
          replace hy := (HS.out.bel.cell (World.block_lt_of_cell? w _ hy)).trans hy
          replace hz := (HS.out.bel.cell (World.block_lt_of_cell? w _ hz)).trans hz
          have hT := take_snocD l0 i cN y hyy
          have hA : Apart (l0.take i ++ [y]) := by rw [← hT]; exact List.Pairwise.sublist (List.take_sublist _ _) HOk.out.2.2
          have hlk := look_snoc hA a1
          have hlf := left_snoc (l0.take i) y a1
          have hle := left_le (l0.take i) a1
          rw [← hT, HLk.out] at hlk
          rw [← hT, HLf.out] at hlf
          rw [HLf.out] at hle
          have hm6 : m ≤ 600 := by have := List.length_take_le i l0; omega
          have hp0 : wr.cell? ⟨p, 0, none⟩ = some (.int .i64 x.1) := (blk_cell HP.out 0).trans rfl
          have hp1 : wr.cell? ⟨p, 1, none⟩ = some (.int .i64 x.2.1) := (blk_cell HP.out 1).trans rfl
          have hp2 : wr.cell? ⟨p, 2, none⟩ = some (.int .i64 x.2.2) := (blk_cell HP.out 2).trans rfl
          have hf0 : wr.frozen? ⟨p, 0, none⟩ = false := blk_frozen HP.out 0
          have hf1 : wr.frozen? ⟨p, 1, none⟩ = false := blk_frozen HP.out 1
          have hf2 : wr.frozen? ⟨p, 2, none⟩ = false := blk_frozen HP.out 2
          clear hyy hT hA hle
          obtain ⟨y1, y2, y3⟩ := y
          simp only at hx hy hz hlk hlf
          cases he : (y1 == a1) with
          | true =>
            have hge : a1 ≤ y1 := by have := eq_of_beq he; omega
            rw [if_pos (eq_of_beq he)] at hlk
            rw [if_pos hge] at hlf
            have HLk2 := Aside0.mk hlk
            have HLf2 := Aside0.mk hlf
            clear hlk hlf
            have hne : (ad.add (i * 3)).block ≠ p := Nat.ne_of_lt (Nat.lt_of_lt_of_le (World.block_lt_of_cell? w _ hxw) hwp)
            go_upto_region 16 with (fail)
            have HS6 := Aside0.mk (((HS.out.far (p := ⟨p, 0, none⟩) hgp hwp (.int .i64 y1)).far (p := ⟨p, 1, none⟩) hgp hwp (.int .i64 y2)).far (p := ⟨p, 2, none⟩) hgp hwp (.int .i64 y3))
            have HP6 : Aside0 ((((wr.setCell ⟨p, 0, none⟩ (.int .i64 y1)).setCell ⟨p, 1, none⟩ (.int .i64 y2)).setCell ⟨p, 2, none⟩ (.int .i64 y3)).heap[p]? = some (.cells #[.int .i64 y1, .int .i64 y2, .int .i64 y3] 30 (0, 0))) := ⟨blk_put (blk_put (blk_put HP.out 0 (.int .i64 y1) rfl) 1 (.int .i64 y2) rfl) 2 (.int .i64 y3) rfl⟩
            have hx6 : (((wr.setCell ⟨p, 0, none⟩ (.int .i64 y1)).setCell ⟨p, 1, none⟩ (.int .i64 y2)).setCell ⟨p, 2, none⟩ (.int .i64 y3)).cell? (ad.add (i * 3)) = some (.int .i64 y1) := by
              rw [cell_far hne, cell_far hne, cell_far hne]; exact hx
            generalize (((wr.setCell ⟨p, 0, none⟩ (.int .i64 y1)).setCell ⟨p, 1, none⟩ (.int .i64 y2)).setCell ⟨p, 2, none⟩ (.int .i64 y3)) = W6 at *
            clear HS HP hp0 hp1 hp2 hf0 hf1 hf2 hx hy hz
            go_wp2
            go_roundw
            case rel => exact ⟨i + 1, m + 1, (y1, y2, y3), true, by omega, by go_num, rfl, by go_num, HLk2, HLf2, HS6, HP6⟩
            case measure => simp [intOf]; omega
          | false =>
            rw [if_neg (beq_eq_false_iff_ne.1 he)] at hlk
            have HLk2 := Aside0.mk hlk
            clear hlk
            by_cases hge : a1 ≤ y1
            · rw [if_pos hge] at hlf
              have HLf2 := Aside0.mk hlf
              clear hlf
              go_wp2
              go_roundw
              case rel => exact ⟨i + 1, m + 1, x, ok, by omega, by go_num, rfl, by go_num, HLk2, HLf2, HS, HP⟩
              case measure => simp [intOf]; omega
            · rw [if_neg hge] at hlf
              have HLf2 := Aside0.mk hlf
              clear hlf
              go_wp2
              go_roundw
              case rel => exact ⟨i + 1, m, x, ok, by omega, by go_num, rfl, rfl, HLk2, HLf2, HS, HP⟩
              case measure => simp [intOf]; omega
        · rw [List.take_of_length_le (by omega)] at HLk HLf
          have HLf2 : Aside0 ((leftF l0 a1 : Int) = (m : Int)) := ⟨by rw [HLf.out]⟩
          obtain ⟨x1, x2, x3⟩ := x
          have hp0 : wr.cell? ⟨p, 0, none⟩ = some (.int .i64 x1) := (blk_cell HP.out 0).trans rfl
          have hp1 : wr.cell? ⟨p, 1, none⟩ = some (.int .i64 x2) := (blk_cell HP.out 1).trans rfl
          have hp2 : wr.cell? ⟨p, 2, none⟩ = some (.int .i64 x3) := (blk_cell HP.out 2).trans rfl
          go_wp2_with (first
            | (go_at_call 9; (refine (atS HS a1 w1 _ _ HLk.out).mono ?_); rintro e w6 ⟨rfl, HB6⟩; have hq0 := pw_cell_below HB6.out hp0; have hq1 := pw_cell_below HB6.out hp1; have hq2 := pw_cell_below HB6.out hp2; have hpn : ¬ p = w6.heap.size := Nat.ne_of_lt (World.block_lt_of_cell? w6 _ hq0); have hpl : p < w6.heap.size := (World.block_lt_of_cell? w6 _ hq0); have HS2 : Aside0 (FS w w6 g l0) := ⟨HS.out.below HB6.out⟩; clear HS HB6; have HS := HS2; clear HS2)
            | (go_at_call 10; (refine (leftS ⟨HS.out.alloc _⟩ a1 w1 _ HLf2.out).mono ?_); rintro e w7 ⟨rfl, HB7⟩; have HS2 : Aside0 (FS w w7 g l0) := ⟨(HS.out.alloc _).below HB7.out⟩; clear HS; have HS := HS2; clear HS2))
          go_ret
          exact ⟨by first | rfl | (simp; done), HS.out.bel⟩
    · have HNo := Aside0.mk hok
      clear hok
      go_enter Try.func3, Try.ntmps3
      go_wp2_with (first
        | (go_at_call 6; (refine (awakeC _).mono ?_); rintro e w2 ⟨rfl, hb⟩; have HB := Aside0.mk hb; clear hb)
        | (go_at_call 7; (refine (newNo A0 c0 l0 _ (Kd.C_below HR.out HB.out) k0 hm9 HNo.out).mono ?_); rintro e w3 ⟨rfl, HB3⟩; have HB2 := Aside0.mk (below_step HB.out HB3.out); clear HB HB3; have HB := HB2; clear HB2)
        | (go_at_call 8; (refine (refMayC A0 c0 l0 _ (Kd.C_below HR.out HB.out) k0 hm9 false ⟨fun h => absurd h HNo.out, fun h => by cases h⟩).mono ?_); rintro e w4 ⟨rfl, hb4⟩; have HB2 := Aside0.mk (below_step HB.out hb4); clear HB hb4; have HB := HB2; clear HB2))
      go_ret
      exact ⟨by first | rfl | (simp; done), HB.out⟩
end Go.Proofs.Ytopajgpepmocfaa.M
