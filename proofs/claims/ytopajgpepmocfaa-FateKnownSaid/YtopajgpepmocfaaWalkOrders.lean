/- The walk of FateOrders: the same fates in another order are the same. -/
import Derived.Test.YtopajgpepmocfaaE
import Derived.Deep.CutRange
namespace Go.Proofs.Ytopajgpepmocfaa.M
open Go.RowKit Go.Proofs.YtopajgpepmocfaaW.PrintWords Go.Proofs.YtopajgpepmocfaaW.PrintLast Go.Proofs.YtopajgpepmocfaaW.PrintMore Go.Proofs.Ytopajgpepmocfaa.Rw Go.Maps
set_option linter.unusedVariables false
set_option linter.unusedSimpArgs false
theorem info30 : (Try.prog.info? 30).map (fun i => (i.zero, i.size, i.bytes)) = some (some (.agg #[.int .i64 0, .int .i64 0, .int .i64 0]), 3, 24) := by kernel_rfl
theorem apart_rev {l : List F} (h : Apart l) : Apart l.reverse := by
  unfold Apart
  rw [List.pairwise_reverse]
  exact h.imp (fun hne => Ne.symm hne)
theorem ok_rev {l : List F} (h : OkF l) : OkF l.reverse := ⟨by simpa using h.1, fun x hx => h.2.1 x (List.mem_reverse.1 hx), apart_rev h.2.2⟩
theorem look_rev {l : List F} (h : Apart l) (n : Int) : lookF l.reverse n = lookF l n := by
  have h1 := datum_inj ((look_at (apart_rev h) n).symm.trans ?_ |>.trans (look_at h n))
  · have h2 : (lookF l.reverse n).2 = (lookF l n).2 := by
      rw [← look_has, ← look_has, has_DF, has_DF, List.any_reverse]
    exact Prod.ext h1 h2
  · by_cases e : ∃ x ∈ l, x.1 = n
    · obtain ⟨x, hx, rfl⟩ := e
      rw [at_DF h _ hx, at_DF (apart_rev h) _ (List.mem_reverse.2 hx)]
    · rw [at_DF_none _ (fun x hx q => e ⟨x, hx, q⟩), at_DF_none _ (fun x hx q => e ⟨x, List.mem_reverse.1 hx, q⟩)]
theorem left_rev (l : List F) (n : Int) : leftF l.reverse n = leftF l n := by simp [leftF, List.filter_reverse]
theorem triM {w : World} {base : Nat} (x : F) : Tri.M w base (fun _ => False) x [.int .i64 x.1, .int .i64 x.2.1, .int .i64 x.2.2] := ⟨[.int .i64 x.1], [.int .i64 x.2.1, .int .i64 x.2.2], rfl, rfl, [.int .i64 x.2.1], [.int .i64 x.2.2], rfl, rfl, rfl⟩
theorem newSn {w : World} (A0 : Option Addr) (c0 : Nat) (l : List F) (W : World) (hW : Below w.heap.size w W) (hR : Kd.C Tri W A0 l.length l) (hc : l.length ≤ c0) (hok : OkF l) (n : Nat) (hn : l.length = n) :
    Calls Try.prog 7 #[.slice A0 n c0] W fun e w' => ∃ g, e = .returned (.tuple #[.pointer (some ⟨g, 0, none⟩), .int .i64 0]) ∧ Aside0 (FS w w' g l) ∧ Aside0 (Below W.heap.size W w') := by
  subst hn; exact newS A0 c0 l W hW hR hc hok
set_option maxHeartbeats 3200000 in
set_option maxRecDepth 100000 in
theorem orders_walk (A0 : Option Addr) (c0 : Nat) (l0 : List ((Int) × (Int) × (Int))) (A1 : Option Addr) (c1 : Nat) (l1 : List (Int)) (w : World) (r0 : Kd.C (Kd.pair (Kd.int .i64) (Kd.pair (Kd.int .i64) (Kd.int .i64))) w A0 l0.length l0) (k0 : l0.length ≤ c0) (m0 : l0.length ≤ maxLen) (y0 : l0.length * 24 ≤ 140737488351232) (g0 : ∀ y ∈ l0, ((Lit.int .i64 y.1).wf = true ∧ (Lit.int .i64 y.2.1).wf = true ∧ (Lit.int .i64 y.2.2).wf = true)) (r1 : Kd.C (Kd.int .i64) w A1 l1.length l1) (k1 : l1.length ≤ c1) (m1 : l1.length ≤ maxLen) (y1 : l1.length * 8 ≤ 140737488351232) (g1 : ∀ y ∈ l1, (Lit.int .i64 y).wf = true) :
    Calls Try.prog 5 #[.slice A0 l0.length c0, .slice A1 l1.length c1] w fun e w' => e = .returned (.bool true) ∧ Below w.heap.size w w' := by
  have HR := Aside0.mk r0
  have HR1 := Aside0.mk r1
  have HG0 := Aside0.mk g0
  have HG1 := Aside0.mk g1
  have hm9 : l0.length ≤ 9223372036854775807 := by omega
  clear r0 g0 m0 r1 g1 m1
  by_cases hok : OkF l0
  · have HOk := Aside0.mk hok
    have hl256 : l0.length ≤ 256 := hok.1
    clear hok
    by_cases hl : 50 < (l1.length : Int)
    · have hlb : decide ((50 : Int) < (l1.length : Int)) = true := decide_eq_true hl
      go_enter Try.func5, Try.ntmps5
      go_wp2_with (first
        | (go_at_call 6; (refine (awakeC _).mono ?_); rintro e w2 ⟨rfl, hb⟩; have HB := Aside0.mk hb; clear hb)
        | (go_at_call 8; (refine (refMayC A0 c0 l0 _ (Kd.C_below HR.out HB.out) k0 hm9 true ⟨fun _ => rfl, fun _ => HOk.out⟩).mono ?_); rintro e w4 ⟨rfl, hb4⟩; have HB2 := Aside0.mk (below_step HB.out hb4); clear HB hb4; have HB := HB2; clear HB2))
      go_ret
      exact ⟨by first | rfl | (simp; done), HB.out⟩
    · have hlb : decide ((50 : Int) < (l1.length : Int)) = false := decide_eq_false hl
      go_enter Try.func5, Try.ntmps5
      go_wp2_with (first
        | (go_at_call 6; (refine (awakeC _).mono ?_); rintro e w2 ⟨rfl, hb⟩; have HB := Aside0.mk hb; clear hb)
        | (go_at_call 8; (refine (refMayC A0 c0 l0 _ (Kd.C_below HR.out HB.out) k0 hm9 true ⟨fun _ => rfl, fun _ => HOk.out⟩).mono ?_); rintro e w4 ⟨rfl, hb4⟩; have HB2 := Aside0.mk (below_step HB.out hb4); clear HB hb4; have HB := HB2; clear HB2))
      go_loopw [5, 6] (fun v5 v6 wr => ∃ k : Nat, k ≤ l0.length ∧ v6 = .int .i64 ((l0.length : Int) - 1 - (k : Int)) ∧ Aside0 (Kd.R Tri 30 wr w.heap.size (fun _ => True) v5 (l0.reverse.take k)) ∧ Aside0 (Below w.heap.size w wr)) (fun _ v6 _ => (1 + intOf v6).toNat)
      case atStart => exact ⟨0, by omega, by simp, ⟨Kd.R_nil _ _ _ _ _⟩, HB⟩
      case round =>
        clear HB
        obtain ⟨k, hk, rfl, HV, HB⟩ := hrel
        by_cases ck : k < l0.length
        · obtain ⟨i, hi⟩ : ∃ i : Nat, (l0.length : Int) - 1 - (k : Int) = (i : Int) := ⟨l0.length - 1 - k, by omega⟩
          have cN : i < l0.length := by omega
          have hik : i + k + 1 = l0.length := by omega
          have hi1 : (i : Int) - 1 = (l0.length : Int) - 1 - ((k + 1 : Nat) : Int) := by omega
          have HI1 := Aside0.mk hi1
          clear hi1
          rw [hi]
          clear hi
          obtain ⟨ad, e1, hx, hy, hz⟩ := at_tri HR.out i cN
          cases e1
          obtain ⟨x, hxx⟩ : ∃ x, l0.getD i (0, 0, 0) = x := ⟨_, rfl⟩
          rw [hxx] at hx hy hz
          replace hx := (HB.out.cell (World.block_lt_of_cell? w _ hx)).trans hx
          replace hy := (HB.out.cell (World.block_lt_of_cell? w _ hy)).trans hy
          replace hz := (HB.out.cell (World.block_lt_of_cell? w _ hz)).trans hz
          have HT : Aside0 (l0.reverse.take (k + 1) = l0.reverse.take k ++ [x]) := ⟨by
            refine take_snocD l0.reverse k (by simpa using ck) x ?_
            rw [← hxx, List.getD_eq_getElem?_getD, List.getD_eq_getElem?_getD, List.getElem?_reverse (by simpa using ck)]
            congr 2; omega⟩
          have hlk : (l0.reverse.take k).length ≤ 256 := by rw [List.length_take, List.length_reverse]; omega
          clear hxx
          go_wp2_with (first | ((with_reducible refine gate_builtin (b := .append) (xs := #[.tmp 34, .tmp 39]) rfl ?_); at_builtin; refine Kd.R_append Tri (w0 := w) w.heap.size rfl (.tmp 34) (.tmp 39) 22 30 (.agg #[.int .i64 0, .int .i64 0, .int .i64 0]) 24 rfl Try.underlying22 info30 rfl (by decide) (by omega) u5 (l0.reverse.take k) x [.int .i64 x.1, .int .i64 x.2.1, .int .i64 x.2.2] (fun _ => True) (fun _ => False) rfl rfl (triM x) (fun _ hk => hk.elim) (fun _ _ => trivial) HV.out HB.out HB.out.size (by omega) ?_; intro v7 w7 ho hb hg hat; rw [← HT.out] at ho; have HV2 := Aside0.mk ho; have HB2 := Aside0.mk hb; clear HV HB ho hb hg hat; have HV := HV2; have HB := HB2; clear HV2 HB2))
          go_roundw
          case rel => exact ⟨k + 1, by omega, by rw [← HI1.out], HV, HB⟩
          case measure => simp [intOf]; omega
        · obtain rfl : k = l0.length := by omega
          rw [List.take_of_length_le (by simp)] at HV
          have hm1 : (l0.length : Int) - 1 - (l0.length : Int) = -1 := by omega
          obtain ⟨Av, cv, ev⟩ := Kd.R_slice HV.out
          subst ev
          have hcv : l0.reverse.length ≤ cv := (Kd.R_reads' HV.out).2.1
          have HC := Aside0.mk (Kd.R_reads' HV.out).2.2
          rw [hm1]
          clear hm1 HV
          go_wp2_with (first
            | (go_at_call 7; (first
              | ((with_reducible refine (newS (w := w) A0 c0 l0 _ HB.out (Kd.C_below HR.out HB.out) k0 HOk.out).mono ?_); rintro e w3 ⟨g, rfl, HS, HB3⟩; have HC2 := Aside0.mk (Kd.C_below HC.out HB3.out); clear HB HB3 HC)
              | ((with_reducible refine (newSn (w := w) Av cv l0.reverse _ HS.out.bel HC2.out hcv (ok_rev HOk.out) l0.length (by simp)).mono ?_); rintro e w5 ⟨g2, rfl, HS2, HB3⟩; have HS1 := Aside0.mk (HS.out.below HB3.out); clear HS HB3 HC2))))
          clear hcv
          have HLr := Aside0.mk (fun n => look_rev HOk.out.2.2 n)
          have HLf := Aside0.mk (fun n => left_rev l0 n)
          go_loopw [11] (fun v11 wi => ∃ i : Nat, (i : Int) ≤ (l1.length : Int) + (l0.length : Int) ∧ v11 = .int .i64 (i : Int) ∧ Aside0 (FS w wi g l0) ∧ Aside0 (FS w wi g2 l0.reverse)) (fun v11 _ => l1.length + l0.length - (intOf v11).toNat)
          case atStart => exact ⟨0, by omega, rfl, HS1, HS2⟩
          case round =>
            clear HS1 HS2
            obtain ⟨i, hi, rfl, HSa, HSb⟩ := hrel
            by_cases ci : (i : Int) < (l1.length : Int) + (l0.length : Int)
            · have ciN : i < l1.length + l0.length := by omega
              have hsum : (l1.length : Int) + (l0.length : Int) ≤ 306 := by omega
              go_upto_if 77 with (fail)
              go_cut [12] from 65 to 118 (fun v12 wx => ∃ n : Int, (Lit.int .i64 n).wf = true ∧ v12 = .int .i64 n ∧ wx = wr)
              case first =>
                by_cases cj : i < l1.length
                · obtain ⟨ad, e1, hx⟩ := at_num HR1.out i cj
                  cases e1
                  replace hx := (HSa.out.bel.cell (World.block_lt_of_cell? w _ hx)).trans hx
                  have hwf := HG1.out _ (mem_getD 0 cj)
                  obtain ⟨n, hn⟩ : ∃ n, l1.getD i 0 = n := ⟨_, rfl⟩
                  rw [hn] at hx hwf
                  clear hn
                  go_wp2
                  go_meet
                  case rel => exact ⟨n, hwf, rfl, rfl⟩
                · obtain ⟨j, hj⟩ : ∃ j : Nat, (i : Int) - (l1.length : Int) = (j : Int) := ⟨i - l1.length, by omega⟩
                  have jN : j < l0.length := by omega
                  obtain ⟨ad, e1, hx, hy, hz⟩ := at_tri HR.out j jN
                  cases e1
                  replace hx := (HSa.out.bel.cell (World.block_lt_of_cell? w _ hx)).trans hx
                  have hwf := (HG0.out _ (mem_getD (0, 0, 0) jN)).1
                  obtain ⟨n, hn⟩ : ∃ n, (l0.getD j (0, 0, 0)).1 = n := ⟨_, rfl⟩
                  rw [hn] at hx hwf
                  clear hn hy hz
                  go_wp2
                  go_meet
                  case rel => exact ⟨n, hwf, rfl, rfl⟩
              case rest =>
                obtain ⟨n, hwf, rfl, rfl⟩ := hcut
                obtain ⟨x, ok, hxo⟩ : ∃ x ok, lookF l0 n = (x, ok) := ⟨_, _, rfl⟩
                obtain ⟨m, hmm⟩ : ∃ m : Nat, leftF l0 n = m := ⟨_, rfl⟩
                have H1 := Aside0.mk hxo
                have H2 : Aside0 (lookF l0.reverse n = (x, ok)) := ⟨by rw [HLr.out, hxo]⟩
                have H3 : Aside0 ((leftF l0 n : Int) = (m : Int)) := ⟨by rw [hmm]⟩
                have H4 : Aside0 ((leftF l0.reverse n : Int) = (m : Int)) := ⟨by rw [HLf.out, hmm]⟩
                clear hxo hmm
                obtain ⟨x1, x2, x3⟩ := x
                go_wp2_with (first
                  | (go_at_call 9; (with_reducible refine (atS HSa n hwf _ _ H1.out).mono ?_); rintro e w6 ⟨rfl, HB6⟩; have HSa2 : Aside0 (FS w w6 g l0) := ⟨HSa.out.below HB6.out⟩; have HSb2 : Aside0 (FS w w6 g2 l0.reverse) := ⟨HSb.out.below HB6.out⟩; clear HSa HSb HB6)
                  | (go_at_call 9; (with_reducible refine (atS ⟨HSb2.out.alloc _⟩ n hwf _ _ H2.out).mono ?_); rintro e w7 ⟨rfl, HB7⟩; have HSa3 : Aside0 (FS w w7 g l0) := ⟨(HSa2.out.alloc _).below HB7.out⟩; have HSb3 : Aside0 (FS w w7 g2 l0.reverse) := ⟨(HSb2.out.alloc _).below HB7.out⟩; have hc0 : w7.cell? ⟨w6.heap.size, 0, none⟩ = some (.int .i64 x1) := (blk_cell (blk_below (blk_new _ _) HB7.out) 0).trans rfl; have hc1 : w7.cell? ⟨w6.heap.size, 1, none⟩ = some (.int .i64 x2) := (blk_cell (blk_below (blk_new _ _) HB7.out) 1).trans rfl; have hc2 : w7.cell? ⟨w6.heap.size, 2, none⟩ = some (.int .i64 x3) := (blk_cell (blk_below (blk_new _ _) HB7.out) 2).trans rfl; have hn3 : ¬ w6.heap.size = w7.heap.size := Nat.ne_of_lt (World.block_lt_of_cell? w7 _ hc0); have hn4 : w6.heap.size < w7.heap.size := World.block_lt_of_cell? w7 _ hc0; clear HSa2 HSb2 HB7)
                  | (go_at_call 10; (with_reducible refine (leftS ⟨HSa3.out.alloc _⟩ n hwf _ H3.out).mono ?_); rintro e w8 ⟨rfl, HB8⟩; have HSa4 : Aside0 (FS w w8 g l0) := ⟨(HSa3.out.alloc _).below HB8.out⟩; have HSb4 : Aside0 (FS w w8 g2 l0.reverse) := ⟨(HSb3.out.alloc _).below HB8.out⟩; clear HSa3 HSb3 HB8)
                  | (go_at_call 10; (with_reducible refine (leftS HSb4 n hwf _ H4.out).mono ?_); rintro e w9 ⟨rfl, HB9⟩; have HSa5 : Aside0 (FS w w9 g l0) := ⟨HSa4.out.below HB9.out⟩; have HSb5 : Aside0 (FS w w9 g2 l0.reverse) := ⟨HSb4.out.below HB9.out⟩; clear HSa4 HSb4 HB9))
                go_roundw
                case rel => exact ⟨i + 1, by omega, by go_num, HSa5, HSb5⟩
                case measure => simp [intOf]; omega
            · go_wp2
              go_ret
              exact ⟨rfl, HSa.out.bel⟩
  · have HNo := Aside0.mk hok
    clear hok
    go_enter Try.func5, Try.ntmps5
    go_wp2_with (first
      | (go_at_call 6; (refine (awakeC _).mono ?_); rintro e w2 ⟨rfl, hb⟩; have HB := Aside0.mk hb; clear hb)
      | (go_at_call 8; (refine (refMayC A0 c0 l0 _ (Kd.C_below HR.out HB.out) k0 hm9 false ⟨fun h => absurd h HNo.out, fun h => by cases h⟩).mono ?_); rintro e w4 ⟨rfl, hb4⟩; have HB2 := Aside0.mk (below_step HB.out hb4); clear HB hb4; have HB := HB2; clear HB2))
    go_ret
    exact ⟨by first | rfl | (simp; done), HB.out⟩
end Go.Proofs.Ytopajgpepmocfaa.M
