/- The walk of ChipPower: without power nothing is done. -/
import Derived.Test.YtmddafefdleimaaY
import Derived.Deep.CutRange
import Derived.Deep.CutBlock
namespace Go.Proofs.Ytmddafefdleimaa.M
open Go.RowKit Go.Proofs.YtmddafefdleimaaW.PrintWords Go.Proofs.YtmddafefdleimaaW.PrintLast Go.Proofs.YtmddafefdleimaaW.PrintMore Go.Proofs.Ytmddafefdleimaa.Rw Go.Proofs.Ytmddafefdleimaa.Fl Go.Maps
set_option linter.unusedVariables false
set_option linter.unusedSimpArgs false
attribute [local go_sem] max2_int min2_int max_two min_two
theorem bounds8 {a : Int} (h : (Lit.int .u8 a).wf = true) : 0 ≤ a ∧ a ≤ 255 := by
  simp only [Lit.wf, Bool.and_eq_true, decide_eq_true_eq] at h
  exact h
theorem c0 : ((0 : Nat) : Int) = 0 := rfl
theorem c1 : ((1 : Nat) : Int) = 1 := rfl
theorem c2 : ((2 : Nat) : Int) = 2 := rfl
theorem c3 : ((3 : Nat) : Int) = 3 := rfl
theorem progL_rep {n km i : Nat} {s : Int} (hk : km ≤ n) (hi : i < n) : (progL (List.replicate n (0, 0)) (List.replicate n s) km).getD i (0, 0) = if i < km then ofPt s else (0, 0) := by
  unfold progL
  rw [List.take_replicate, List.map_replicate, List.drop_replicate, Nat.min_eq_left hk, List.getD_eq_getElem?_getD]
  by_cases h : i < km
  · rw [if_pos h, List.getElem?_append_left (by simpa using h), List.getElem?_replicate, if_pos h]; rfl
  · rw [if_neg h, List.getElem?_append_right (by simpa using h), List.length_replicate, List.getElem?_replicate, if_pos (by omega)]; rfl
/-- pages in order: p of them are used -/
abbrev ordN (n : Nat) (i p : Nat) : Nums := ⟨fun x => decide ((x : Int) ∈ ([] : List Int)), fun _ => false, fun _ => 0, fun x y => if x = i ∧ y < p then 1 else 0, fun x y => if x = i ∧ y < p then progL (List.replicate n (0, 0)) (List.replicate n 0) n else List.replicate n (0, 0), fun x y => if x = i ∧ y < p then List.replicate n 0 else []⟩
theorem ordN_zero (n i : Nat) : ordN n i 0 = newN n fun x => decide ((x : Int) ∈ ([] : List Int)) := by
  unfold ordN newN; simp
theorem ordN_next (n i p Pn : Nat) : Next ((ordN n i p).st i) Pn p := by
  refine ⟨fun y h1 h2 => ?_, ?_⟩
  · show (if i = i ∧ y < p then (1 : Int) else 0) = 0
    rw [if_neg (by omega)]
  · by_cases h0 : p = 0
    · exact .inl h0
    · refine .inr ?_
      show (if i = i ∧ p - 1 < p then (1 : Int) else 0) ≠ 0
      rw [if_pos ⟨rfl, by omega⟩]; decide
theorem ordN_succ (n i p : Nat) : ({ ordN n i p with st := up2 (ordN n i p).st i p 1, P := up2 (ordN n i p).P i p (progL ((ordN n i p).P i p) (List.replicate n 0) n), S := up2 (ordN n i p).S i p (List.replicate n 0) } : Nums) = ordN n i (p + 1) := by
  have key : ∀ {α : Type} (u v : α) (x y : Nat), (if x = i ∧ y = p then u else if x = i ∧ y < p then u else v) = if x = i ∧ y < p + 1 then u else v := by
    intro α u v x y
    by_cases h : x = i
    · subst h
      by_cases h2 : y = p
      · subst h2; rw [if_pos ⟨rfl, rfl⟩, if_pos ⟨rfl, Nat.lt_succ_self _⟩]
      · by_cases h3 : y < p
        · rw [if_neg (fun e => h2 e.2), if_pos ⟨rfl, h3⟩, if_pos ⟨rfl, by omega⟩]
        · rw [if_neg (fun e => h2 e.2), if_neg (fun e => h3 e.2), if_neg (fun e => by omega)]
    · rw [if_neg (fun e => h e.1), if_neg (fun e => h e.1), if_neg (fun e => h e.1)]
  have e1 : (ordN n i p).P i p = List.replicate n (0, 0) := by
    show (if i = i ∧ p < p then _ else _) = _
    rw [if_neg (by omega)]
  rw [e1]
  simp only [ordN, Nums.mk.injEq, true_and]
  exact ⟨by funext x y; exact key 1 0 x y, by funext x y; exact key _ _ x y, by funext x y; exact key _ _ x y⟩
theorem look_one (m d k o : Int) (h : o ≠ m) : lookF [(m, d, k)] o = ((0, 0, 0), false) := by
  unfold lookF
  have : ((m : Int) == o) = false := beq_eq_false_iff_ne.2 (fun e => h e.symm)
  simp [List.find?, this]
theorem look_it (m d k : Int) : lookF [(m, d, k)] m = ((m, d, k), true) := by
  unfold lookF; simp [List.find?]
set_option maxHeartbeats 6400000 in
set_option maxRecDepth 100000 in
theorem power_walk (a0_0 : Int) (a0_1 : Int) (a0_2 : Int) (a0_3 : Int) (a1 : Int) (a2 : Int) (w : World) (wa0_0 : (Lit.int .i64 a0_0).wf = true) (wa0_1 : (Lit.int .i64 a0_1).wf = true) (wa0_2 : (Lit.int .i64 a0_2).wf = true) (wa0_3 : (Lit.int .i64 a0_3).wf = true) (w1 : (Lit.int .u8 a1).wf = true) (w2 : (Lit.int .u8 a2).wf = true) :
    Calls Try.prog 5 #[.agg #[.int .i64 a0_0, .int .i64 a0_1, .int .i64 a0_2, .int .i64 a0_3], .int .u8 a1, .int .u8 a2] w fun e w' => e = .returned (.bool true) ∧ Below w.heap.size w w' := by
  have b1 := bounds8 w1
  have b2 := bounds8 w2
  clear wa0_0 wa0_1 wa0_2 wa0_3 w1 w2
  have HB0 := Aside0.mk (below_alloc (Below.refl w.heap.size w) (.cells #[.int .i64 a0_0, .int .i64 a0_1, .int .i64 a0_2, .int .i64 a0_3] 23 (0, 0)))
  have HN0 := Aside0.mk (blk_new w (.cells #[.int .i64 a0_0, .int .i64 a0_1, .int .i64 a0_2, .int .i64 a0_3] 23 (0, 0)))
  by_cases hM : MayG a0_0 a0_1 a0_2 a0_3
  · by_cases hS : a0_0 * a0_1 * (a0_2 * (a0_3 + 16)) ≤ 20000
    · have HMay := Aside0.mk (fun W => refMayC (a := a0_0) (b := a0_1) (c := a0_2) (d := a0_3) W true ⟨fun _ => rfl, fun _ => hM⟩)
      have HSm := Aside0.mk (fun W => smallC W hM true (decide_eq_true hS))
      obtain ⟨Bn, rfl⟩ : ∃ Bn : Nat, a0_0 = (Bn : Int) := ⟨a0_0.toNat, by have := hM.a0; omega⟩
      obtain ⟨Pn, rfl⟩ : ∃ Bn : Nat, a0_1 = (Bn : Int) := ⟨a0_1.toNat, by have := hM.b0; omega⟩
      obtain ⟨Wn, rfl⟩ : ∃ Bn : Nat, a0_2 = (Bn : Int) := ⟨a0_2.toNat, by have := hM.c0; omega⟩
      obtain ⟨Kn, rfl⟩ : ∃ Bn : Nat, a0_3 = (Bn : Int) := ⟨a0_3.toNat, by have := hM.d0; omega⟩
      obtain ⟨n, hn⟩ : ∃ n, Wn * (Kn + 16) = n := ⟨_, rfl⟩
      have hni : (Wn : Int) * ((Kn : Int) + 16) = (n : Int) := by rw [← hn]; push_cast; rfl
      have hnb : n ≤ 320 ∧ 17 ≤ n := by have := room hM; rw [hni] at this; omega
      have hBn : 4 ≤ Bn ∧ Bn ≤ 64 := by have := hM.a0; have := hM.a1; omega
      have hPn : 2 ≤ Pn ∧ Pn ≤ 32 := by have := hM.b0; have := hM.b1; omega
      have HCells := Aside0.mk (fun W => refCellsC (a := Bn) (b := Pn) (c := Wn) (d := Kn) W hM n hni)
      have hmk32 := mk32 n (by omega)
      obtain ⟨m, hm⟩ : ∃ m : Nat, a1 % (Pn : Int) = (m : Int) := ⟨(a1 % (Pn : Int)).toNat, by have := Int.emod_nonneg a1 (show (Pn : Int) ≠ 0 by omega); omega⟩
      have hmP : m < Pn := by have := Int.emod_lt_of_pos a1 (show (0 : Int) < (Pn : Int) by omega); omega
      have htx : a1.tmod (Pn : Int) = (m : Int) := by rw [Int.tmod_eq_emod_of_nonneg b1.1]; exact hm
      have hz1 : ((Pn : Int) == 0) = false := beq_eq_false_iff_ne.2 (by omega)
      obtain ⟨k, rfl⟩ : ∃ k : Nat, a2 = (k : Int) := ⟨a2.toNat, by omega⟩
      have HNew := Aside0.mk (fun W q (hq : W.heap[q]? = some (.cells #[.int .i64 (m : Int), .int .i64 2, .int .i64 (k : Int)] 42 (0, 0))) => newCh Bn Pn Wn Kn n hM hn W none 0 [] (Kd.C_nil _ _) (by decide) (by decide) (fun y hy => absurd hy (Nat.not_lt_zero _)) (some ⟨q, 0, none⟩) 1 [((m : Int), (2 : Int), (k : Int))] (C_of_blockF (l := [((m : Int), (2 : Int), (k : Int))]) hq (by simp)) (by simp) ⟨by simp, (fun x hx => by
          have : x = ((m : Int), (2 : Int), (k : Int)) := by simpa using hx
          subst this
          exact ⟨by show (0 : Int) ≤ (m : Int); omega, by show (m : Int) ≤ 1099511627776; omega, .inr rfl, by show (0 : Int) ≤ (k : Int); omega⟩), (by simp [Apart])⟩)
      clear hM hS hn hni
      unfold geoV at HMay HSm HNew HCells
      have hw1 : IntKind.i64.wrap a1 = a1 := wrap_i64_small _ (by omega) (by omega)
      go_enter Try.func5, Try.ntmps5
      go_upto_region 10 with (first
          | (go_at_call 8; (refine (awakeC _).mono ?_); rintro e w1 ⟨rfl, HB1⟩; have HB2 := Aside0.mk (below_step HB0.out HB1.out); have hb1 := (HB1.out.block _ (blk_lt HN0.out)).trans HN0.out; have HN1 := Aside0.mk hb1; have d0 : w1.cell? ⟨w.heap.size, 0, none⟩ = some (.int .i64 (Bn : Int)) := (blk_cell hb1 0).trans rfl; have d1 : w1.cell? ⟨w.heap.size, 1, none⟩ = some (.int .i64 (Pn : Int)) := (blk_cell hb1 1).trans rfl; have d2 : w1.cell? ⟨w.heap.size, 2, none⟩ = some (.int .i64 (Wn : Int)) := (blk_cell hb1 2).trans rfl; have d3 : w1.cell? ⟨w.heap.size, 3, none⟩ = some (.int .i64 (Kn : Int)) := (blk_cell hb1 3).trans rfl; clear hb1)
          | (go_at_call 9; (refine (HMay.out _).mono ?_); rintro e w3 ⟨rfl, HB3⟩; have HB4 := Aside0.mk (below_step HB2.out HB3.out); have hb3 := (HB3.out.block _ (blk_lt HN1.out)).trans HN1.out; have HN3 := Aside0.mk hb3; have e0 : w3.cell? ⟨w.heap.size, 0, none⟩ = some (.int .i64 (Bn : Int)) := (blk_cell hb3 0).trans rfl; have e1 : w3.cell? ⟨w.heap.size, 1, none⟩ = some (.int .i64 (Pn : Int)) := (blk_cell hb3 1).trans rfl; have e2 : w3.cell? ⟨w.heap.size, 2, none⟩ = some (.int .i64 (Wn : Int)) := (blk_cell hb3 2).trans rfl; have e3 : w3.cell? ⟨w.heap.size, 3, none⟩ = some (.int .i64 (Kn : Int)) := (blk_cell hb3 3).trans rfl; clear hb3)
          | (go_at_call 10; (refine (HSm.out _).mono ?_); rintro e w5 ⟨rfl, HB5⟩; have HB6 := Aside0.mk (below_step HB4.out HB5.out); have hb5 := (HB5.out.block _ (blk_lt HN3.out)).trans HN3.out; have HN5 := Aside0.mk hb5; have f0 : w5.cell? ⟨w.heap.size, 0, none⟩ = some (.int .i64 (Bn : Int)) := (blk_cell hb5 0).trans rfl; have f1 : w5.cell? ⟨w.heap.size, 1, none⟩ = some (.int .i64 (Pn : Int)) := (blk_cell hb5 1).trans rfl; have f2 : w5.cell? ⟨w.heap.size, 2, none⟩ = some (.int .i64 (Wn : Int)) := (blk_cell hb5 2).trans rfl; have f3 : w5.cell? ⟨w.heap.size, 3, none⟩ = some (.int .i64 (Kn : Int)) := (blk_cell hb5 3).trans rfl; clear hb5)
          | (go_at_call 11; have hb6 := blk_alloc HN5.out (.cells #[.int .i64 (m : Int), .int .i64 2, .int .i64 (k : Int)] 42 (0, 0)); have HBa := Aside0.mk (below_alloc HB6.out (.cells #[.int .i64 (m : Int), .int .i64 2, .int .i64 (k : Int)] 42 (0, 0))); (refine (HNew.out _ w5.heap.size (blk_new w5 _)).mono ?_); rintro e w7 ⟨s0, rfl, HI7, HB7, HFr⟩; have HL7 := Aside0.mk (Lq.of (qs := [w.heap.size]) HBa.out HI7.out HB7.out HFr.out (fun q hq => by rw [List.mem_singleton.1 hq]; exact blk_lt hb6)); have hb7 := (HB7.out.block _ (blk_lt hb6)).trans hb6; have HN7 := Aside0.mk hb7; have g0 : w7.cell? ⟨w.heap.size, 0, none⟩ = some (.int .i64 (Bn : Int)) := (blk_cell hb7 0).trans rfl; have g1 : w7.cell? ⟨w.heap.size, 1, none⟩ = some (.int .i64 (Pn : Int)) := (blk_cell hb7 1).trans rfl; have g2 : w7.cell? ⟨w.heap.size, 2, none⟩ = some (.int .i64 (Wn : Int)) := (blk_cell hb7 2).trans rfl; have g3 : w7.cell? ⟨w.heap.size, 3, none⟩ = some (.int .i64 (Kn : Int)) := (blk_cell hb7 3).trans rfl; clear hb7 hb6)
          | (go_at_call 12; (refine (HCells.out _).mono ?_); rintro e w9 ⟨rfl, HB9⟩; have HL9 := Aside0.mk (HL7.out.below HB9.out)))
      have HA9 := Aside0.mk (HL9.out.alloc (.cells (Array.replicate n (.int .u16 0)) 40 (0, 0)))
      have HR9 := Aside0.mk (made_row (enc := Value.int .u16) (t := 40) w9 n 0)
      have hgb : w.heap.size < w9.heap.size := Nat.lt_of_lt_of_le (blk_lt HN7.out) HB9.out.size
      obtain ⟨c, hc⟩ : ∃ c, s0.c = c := ⟨_, rfl⟩
      obtain ⟨base, hba⟩ : ∃ c, (w5.alloc (.cells #[.int .i64 (m : Int), .int .i64 2, .int .i64 (k : Int)] 42 (0, 0))).heap.size = c := ⟨_, rfl⟩
      obtain ⟨sb, hsb⟩ : ∃ c, w9.heap.size = c := ⟨_, rfl⟩
      rw [hc, hba, hsb] at HA9
      rw [hsb] at HR9 hgb
      rw [hc, hsb]
      obtain ⟨W0, hW0⟩ : ∃ W0, (w9.alloc (.cells (Array.replicate n (.int .u16 0)) 40 (0, 0))) = W0 := ⟨_, rfl⟩
      rw [hW0] at HA9 HR9 ⊢
      have hA0 := HA9.out.sub (qs1 := [sb]) (fun q hq => by rw [List.mem_singleton.1 hq]; exact List.mem_cons_self)
      rw [← ordN_zero n 1] at hA0
      have HA0 := Aside0.mk hA0
      clear hA0 HA9 hc hba hsb hW0 hw1 htx hz1 hm b1 hmk32 HMay HSm HNew HCells HB0 HN0 HB1 HB2 HN1 HB3 HB4 HN3 HB5 HB6 HN5 HI7 HB7 HFr HL7 HN7 HB9 HL9 HBa d0 d1 d2 d3 e0 e1 e2 e3 f0 f1 f2 f3 g0 g1 g2 g3
      go_wp2
      go_loopw [11] (fun v11 wr => ∃ p : Nat, p ≤ m ∧ v11 = .int .i64 (p : Int) ∧ Aside0 (Lq w wr base c [sb] Bn Pn Wn Kn n [((m : Int), 2, (k : Int))] (p : Int) 0 false (ordN n 1 p)) ∧ Aside0 (Row (Value.int .u16) 40 wr sb (List.replicate n 0))) (fun v11 _ => m - (intOf v11).toNat)
      case atStart => exact ⟨0, Nat.zero_le _, rfl, HA0, HR9⟩
      case round =>
        clear HA0 HR9
        obtain ⟨p, hp, rfl, HL, HR⟩ := hrel
        by_cases cp : p < m
        · have cpp : (p : Int) < (m : Int) := by omega
          have HP := Aside0.mk (HL.out.progYes 1 p sb (by omega) (by omega) HR.out List.mem_cons_self (List.length_replicate ..) (row_reps_lt (by decide) (by decide)) rfl rfl (by omega) (ordN_next n 1 p Pn) 0 0 false (look_one _ _ _ _ (by omega)))
          rw [ordN_succ] at HP
          go_wp2_with (first | (go_at_call 14; (refine HP.out.mono ?_); rintro e w3 ⟨rfl, HL3, HK3⟩))
          go_roundw
          case rel => exact ⟨p + 1, cp, rfl, HL3, ⟨HK3.out.row HR.out List.mem_cons_self⟩⟩
          case measure => simp [intOf]; omega
        · obtain rfl : p = m := by omega
          obtain ⟨km, hkm, hkn⟩ : ∃ km : Nat, (if (if (k : Int) < 0 then 0 else (k : Int)) ≤ (n : Int) then (if (k : Int) < 0 then 0 else (k : Int)) else (n : Int)) = (km : Int) ∧ km ≤ n := by
            by_cases h : k ≤ n
            · exact ⟨k, by rw [if_neg (show ¬ (k : Int) < 0 by omega), if_pos (by omega)], h⟩
            · exact ⟨n, by rw [if_neg (show ¬ (k : Int) < 0 by omega), if_neg (by omega)], Nat.le_refl _⟩
          have HKm := Aside0.mk hkm
          have HP := Aside0.mk (HL.out.progCut 1 p sb (by omega) (by omega) HR.out List.mem_cons_self (List.length_replicate ..) (row_reps_lt (by decide) (by decide)) rfl rfl (by omega) (ordN_next n 1 p Pn) (p : Int) (k : Int) true (look_it _ _ _) km _ hkm rfl)
          generalize (if (k : Int) ≤ 0 then (0 : Int) else if (n : Int) ≤ (k : Int) then 1 else 2) = st1 at HP
          clear hkm
          have e1 : (ordN n 1 p).P 1 p = List.replicate n (0, 0) := by
            show (if (1 : Nat) = 1 ∧ p < p then _ else _) = _
            rw [if_neg (by omega)]
          rw [e1] at HP
          simp only [c0, c1, c2, c3] at HP
          have HE1 := Aside0.mk e1
          clear e1
          go_upto_region 16 with (first
            | (go_at_call 14; (with_reducible refine HP.out.mono ?_); rintro e w3 ⟨rfl, HL3, HK3⟩; have HD1 := Aside0.mk (HL3.out.progDark 0 0 (some ⟨sb, 0, none⟩) n n); simp only [c0, c1, c2, c3] at HD1; clear HP)
            | (go_at_call 14; (with_reducible refine HD1.out.mono ?_); rintro e w4 ⟨rfl, HB4⟩; have HL4 := Aside0.mk (HL3.out.below HB4.out); have HD2 := Aside0.mk (HL4.out.eraseDark 1 (by omega)); simp only [c0, c1, c2, c3] at HD2)
            | (go_at_call 13; (with_reducible refine HD2.out.mono ?_); rintro e w5 ⟨rfl, HB5⟩; have HL5 := Aside0.mk (HL4.out.below HB5.out); have HD3 := Aside0.mk (HL5.out.markDark 2 (by omega)); simp only [c0, c1, c2, c3] at HD3; clear HD2)
            | (go_at_call 20; (with_reducible refine HD3.out.mono ?_); rintro e w6 ⟨rfl, HB6⟩; have HL6 := Aside0.mk (HL5.out.below HB6.out); have HD4 := Aside0.mk (HL6.out.eraseDarkOut 99 (.inr (by omega))))
            | (go_at_call 13; (with_reducible refine HD4.out.mono ?_); rintro e w7 ⟨rfl, HB7⟩; have HL7 := Aside0.mk (HL6.out.below HB7.out)))
          have HL8 := Aside0.mk (HL7.out.alloc (.cells #[.int .i64 8, .int .i64 8, .int .i64 8, .int .i64 8, .int .i64 8] 29 (0, 0)))
          have HG8 : Aside0 (Row (Value.int .i64) 29 (w7.alloc (.cells #[.int .i64 8, .int .i64 8, .int .i64 8, .int .i64 8, .int .i64 8] 29 (0, 0))) w7.heap.size (List.replicate 5 8)) := ⟨blk_new w7 _⟩
          clear HL HR HL3 HK3 HD1 HB4 HL4 HB5 HL5 HD3 HB6 HL6 HD4 HB7 HL7
          obtain ⟨gq, hgq⟩ : ∃ q, w7.heap.size = q := ⟨_, rfl⟩
          obtain ⟨W8, hW8⟩ : ∃ W8, (w7.alloc (.cells #[.int .i64 8, .int .i64 8, .int .i64 8, .int .i64 8, .int .i64 8] 29 (0, 0))) = W8 := ⟨_, rfl⟩
          rw [hgq, hW8] at HL8 HG8
          rw [hgq, hW8]
          clear hgq hW8
          have HD5 := Aside0.mk (HL8.out.senseDark 1 0 (by omega) (by omega))
          simp only [c0, c1, c2, c3] at HD5
          go_upto_region 18 with (first
            | (go_at_call 17; (with_reducible refine HD5.out.mono ?_); rintro e w9 ⟨rfl, HB9⟩; have HL9 := Aside0.mk (HL8.out.below HB9.out); have HG9 := Aside0.mk (HG8.out.below HB9.out); have HD6 := Aside0.mk (HL9.out.markedDark 1 (by omega)); simp only [c0, c1, c2, c3] at HD6)
            | (go_at_call 21; (with_reducible refine HD6.out.mono ?_); rintro e w10 ⟨rfl, HB10⟩; have HL10 := Aside0.mk (HL9.out.below HB10.out); have HG10 := Aside0.mk (HG9.out.below HB10.out)))
          clear HL8 HG8 HD5 HB9 HL9 HG9 HD6 HB10
          go_wp2
          go_loopw [17] (fun v17 wr => ∃ j : Nat, j ≤ 5 ∧ v17 = .int .i64 (j : Int) ∧ wr = w10) (fun v17 _ => 5 - (intOf v17).toNat)
          case atStart => exact ⟨0, Nat.zero_le _, rfl, rfl⟩
          case round =>
            obtain ⟨j, hj, rfl, rfl⟩ := hrel
            by_cases cj : j < 5
            · have cjj : (j : Int) < 5 := by omega
              have hx := HG10.out.cellD 0 j (by rw [List.length_replicate]; exact cj)
              have hx8 : (List.replicate 5 (8 : Int)).getD j 0 = 8 := by rw [List.getD_eq_getElem?_getD, List.getElem?_replicate, if_pos cj]; rfl
              rw [hx8] at hx
              clear hx8
              go_wp2
              go_roundw
              case rel => exact ⟨j + 1, cj, rfl, by first | rfl | trivial⟩
              case measure => simp [intOf]; omega
            · obtain rfl : j = 5 := by omega
              have HO1 := Aside0.mk HL10.out.opsR
              have HO2 := Aside0.mk HL10.out.refusedR
              have HPw := Aside0.mk HL10.out.power
              have hw11 : IntKind.i64.wrap ((p : Int) + 1) = (p : Int) + 1 := wrap_i64_small _ (by omega) (by omega)
              go_upto_region 26 with (first
                | (go_at_call 16; (with_reducible refine HO1.out.mono ?_); rintro e w11 ⟨rfl, hw⟩; obtain rfl := hw.symm)
                | (go_at_call 15; (with_reducible refine HO2.out.mono ?_); rintro e w12 ⟨rfl, hw⟩; obtain rfl := hw.symm)
                | (go_at_call 22; (with_reducible refine HPw.out.mono ?_); rintro e w13 ⟨rfl, HL13, HK13⟩))
              clear HL10 HG10 HO1 HO2 HPw HK13
              have HS1 := Aside0.mk (HL13.out.senseYes 1 p (by omega) (by omega) (by omega) (0, 0, 0) false (look_one _ _ _ _ (by omega)) (by decide))
              simp only [c0, c1, c2, c3] at HS1
              go_upto_region 28 with (first
                | (go_at_call 17; (with_reducible refine HS1.out.mono ?_); rintro e w14 ⟨q, cc, rfl, hcc, HV, HVl, HQ, HL14, HK14⟩; have HS2 := Aside0.mk (HL14.out.markedYes 2 (by omega) (by omega) (0, 0, 0) false (look_one _ _ _ _ (by omega)) (by decide) false rfl); simp only [c0, c1, c2, c3] at HS2)
                | (go_at_call 21; (with_reducible refine HS2.out.mono ?_); rintro e w15 ⟨rfl, HL15, HK15⟩))
              have HV2 := Aside0.mk (HV.out.move (HK15.out q List.mem_cons_self))
              clear HL13 HS1 HV HQ HL14 HK14 HS2 HK15
              have HVP : Aside0 (Vec w15 q (progL (List.replicate n (0, 0)) (List.replicate n 0) km)) := ⟨by
                have h1 := HV2.out
                unfold up2 at h1
                rw [if_pos ⟨rfl, rfl⟩] at h1
                exact h1⟩
              have hVn : (progL (List.replicate n (0, 0)) (List.replicate n 0) km).length = n := by
                have h1 := HVl.out
                unfold up2 at h1
                rw [if_pos ⟨rfl, rfl⟩] at h1
                exact h1
              have HVn := Aside0.mk hVn
              clear HV2 HVl hVn
              go_wp2
              go_loopw [22, 23] (fun v22 v23 wr => ∃ i : Nat, i ≤ n ∧ v22 = .int .i64 ((if i ≤ km then i else km : Nat) : Int) ∧ v23 = .int .i64 (i : Int) ∧ wr = w15) (fun _ v23 _ => n - (intOf v23).toNat)
              case atStart => exact ⟨0, Nat.zero_le _, by rw [if_pos (Nat.zero_le _)]; rfl, rfl, rfl⟩
              case round =>
                obtain ⟨i, hi, rfl, rfl, rfl⟩ := hrel
                by_cases ci : i < n
                · have cii : (i : Int) < (n : Int) := by omega
                  have hx := HVP.out.cell (i := i) (by rw [HVn.out]; exact ci)
                  rw [progL_rep hkn ci] at hx
                  by_cases ck : i < km
                  · rw [if_pos ck, show ofPt 0 = (-31, -31) from rfl] at hx
                    unfold ptV at hx
                    dsimp only at hx
                    have e1 := ord_eqb (ord_int (a := -31) (b := 0) (by decide) (by decide))
                    rw [fd_zero, show decide ((-31 : Int) = 0) = false from rfl] at e1
                    generalize fd (-31) 0 = xx at hx e1
                    have h22 : ((if i ≤ km then i else km : Nat) : Int) = (i : Int) := by rw [if_pos (by omega)]
                    rw [h22]
                    have h23 : ((if i + 1 ≤ km then i + 1 else km : Nat) : Int) = (i : Int) + 1 := by rw [if_pos (by omega)]; omega
                    have H23 := Aside0.mk h23
                    clear h22 h23
                    go_wp2
                    go_roundw
                    case rel => exact ⟨i + 1, ci, by rw [H23.out], rfl, by first | rfl | trivial⟩
                    case measure => simp [intOf]; omega
                  · rw [if_neg ck, ptV_zero] at hx
                    have e1 := ord_eqb (ord_int (a := 0) (b := 0) (by decide) (by decide))
                    rw [fd_zero, show decide ((0 : Int) = 0) = true from rfl] at e1
                    have h22 : ((if i ≤ km then i else km : Nat) : Int) = (km : Int) := by
                      by_cases h : i ≤ km
                      · rw [if_pos h]; omega
                      · rw [if_neg h]
                    rw [h22]
                    have h23 : ((if i + 1 ≤ km then i + 1 else km : Nat) : Int) = (km : Int) := by rw [if_neg (by omega)]
                    have H23 := Aside0.mk h23
                    clear h22 h23
                    go_wp2
                    go_roundw
                    case rel => exact ⟨i + 1, ci, by rw [H23.out], rfl, by first | rfl | trivial⟩
                    case measure => simp [intOf]; omega
                · obtain rfl : i = n := by omega
                  have h22 : ((if i ≤ km then i else km : Nat) : Int) = (km : Int) := by
                    by_cases h : i ≤ km
                    · rw [if_pos h]; omega
                    · rw [if_neg h]
                  rw [h22]
                  have hmin : (if (i : Int) < (k : Int) then (i : Int) else (k : Int)) = (km : Int) := by
                    have h1 := HKm.out
                    rw [if_neg (show ¬ (k : Int) < 0 by omega)] at h1
                    rw [← h1]
                    by_cases h : (i : Int) < (k : Int)
                    · rw [if_pos h, if_neg (by omega)]
                    · rw [if_neg h, if_pos (by omega)]
                  have HEr := Aside0.mk (HL15.out.erasesR 1 (by omega) 0 rfl)
                  simp only [c0, c1, c2, c3] at HEr
                  have HBel := Aside0.mk HL15.out.bel
                  have hwk : IntKind.i64.wrap (k : Int) = (k : Int) := wrap_i64_small _ (by omega) (by omega)
                  clear h22 HL15 HKm
                  go_wp2_with (first | (go_at_call 23; (with_reducible refine HEr.out.mono ?_); rintro e w16 ⟨rfl, hw⟩; obtain rfl := hw.symm))
                  all_goals (
                    go_ret
                    exact ⟨rfl, HBel.out⟩)
    · have HMay := Aside0.mk (fun W => refMayC (a := a0_0) (b := a0_1) (c := a0_2) (d := a0_3) W true ⟨fun _ => rfl, fun _ => hM⟩)
      have HSm := Aside0.mk (fun W => smallC W hM false (decide_eq_false hS))
      clear hM hS
      unfold geoV at HMay HSm
      go_enter Try.func5, Try.ntmps5
      go_wp2_with (first
          | (go_at_call 8; (refine (awakeC _).mono ?_); rintro e w1 ⟨rfl, HB1⟩; have HB2 := Aside0.mk (below_step HB0.out HB1.out); have hb1 := (HB1.out.block _ (blk_lt HN0.out)).trans HN0.out; have HN1 := Aside0.mk hb1; have d0 : w1.cell? ⟨w.heap.size, 0, none⟩ = some (.int .i64 a0_0) := (blk_cell hb1 0).trans rfl; have d1 : w1.cell? ⟨w.heap.size, 1, none⟩ = some (.int .i64 a0_1) := (blk_cell hb1 1).trans rfl; have d2 : w1.cell? ⟨w.heap.size, 2, none⟩ = some (.int .i64 a0_2) := (blk_cell hb1 2).trans rfl; have d3 : w1.cell? ⟨w.heap.size, 3, none⟩ = some (.int .i64 a0_3) := (blk_cell hb1 3).trans rfl; clear hb1)
          | (go_at_call 9; (refine (HMay.out _).mono ?_); rintro e w3 ⟨rfl, HB3⟩; have HB4 := Aside0.mk (below_step HB2.out HB3.out); have hb3 := (HB3.out.block _ (blk_lt HN1.out)).trans HN1.out; have HN3 := Aside0.mk hb3; have e0 : w3.cell? ⟨w.heap.size, 0, none⟩ = some (.int .i64 a0_0) := (blk_cell hb3 0).trans rfl; have e1 : w3.cell? ⟨w.heap.size, 1, none⟩ = some (.int .i64 a0_1) := (blk_cell hb3 1).trans rfl; have e2 : w3.cell? ⟨w.heap.size, 2, none⟩ = some (.int .i64 a0_2) := (blk_cell hb3 2).trans rfl; have e3 : w3.cell? ⟨w.heap.size, 3, none⟩ = some (.int .i64 a0_3) := (blk_cell hb3 3).trans rfl; clear hb3)
          | (go_at_call 10; (refine (HSm.out _).mono ?_); rintro e w5 ⟨rfl, HB5⟩; have HB6 := Aside0.mk (below_step HB4.out HB5.out); have hb5 := (HB5.out.block _ (blk_lt HN3.out)).trans HN3.out; have HN5 := Aside0.mk hb5; have f0 : w5.cell? ⟨w.heap.size, 0, none⟩ = some (.int .i64 a0_0) := (blk_cell hb5 0).trans rfl; have f1 : w5.cell? ⟨w.heap.size, 1, none⟩ = some (.int .i64 a0_1) := (blk_cell hb5 1).trans rfl; have f2 : w5.cell? ⟨w.heap.size, 2, none⟩ = some (.int .i64 a0_2) := (blk_cell hb5 2).trans rfl; have f3 : w5.cell? ⟨w.heap.size, 3, none⟩ = some (.int .i64 a0_3) := (blk_cell hb5 3).trans rfl; clear hb5))
      go_ret
      exact ⟨rfl, HB6.out⟩
  · have HMay := Aside0.mk (fun W => refMayC (a := a0_0) (b := a0_1) (c := a0_2) (d := a0_3) W false ⟨fun h => absurd h hM, fun h => by cases h⟩)
    clear hM
    unfold geoV at HMay
    go_enter Try.func5, Try.ntmps5
    go_wp2_with (first
          | (go_at_call 8; (refine (awakeC _).mono ?_); rintro e w1 ⟨rfl, HB1⟩; have HB2 := Aside0.mk (below_step HB0.out HB1.out); have hb1 := (HB1.out.block _ (blk_lt HN0.out)).trans HN0.out; have HN1 := Aside0.mk hb1; have d0 : w1.cell? ⟨w.heap.size, 0, none⟩ = some (.int .i64 a0_0) := (blk_cell hb1 0).trans rfl; have d1 : w1.cell? ⟨w.heap.size, 1, none⟩ = some (.int .i64 a0_1) := (blk_cell hb1 1).trans rfl; have d2 : w1.cell? ⟨w.heap.size, 2, none⟩ = some (.int .i64 a0_2) := (blk_cell hb1 2).trans rfl; have d3 : w1.cell? ⟨w.heap.size, 3, none⟩ = some (.int .i64 a0_3) := (blk_cell hb1 3).trans rfl; clear hb1)
          | (go_at_call 9; (refine (HMay.out _).mono ?_); rintro e w3 ⟨rfl, HB3⟩; have HB4 := Aside0.mk (below_step HB2.out HB3.out); have hb3 := (HB3.out.block _ (blk_lt HN1.out)).trans HN1.out; have HN3 := Aside0.mk hb3; have e0 : w3.cell? ⟨w.heap.size, 0, none⟩ = some (.int .i64 a0_0) := (blk_cell hb3 0).trans rfl; have e1 : w3.cell? ⟨w.heap.size, 1, none⟩ = some (.int .i64 a0_1) := (blk_cell hb3 1).trans rfl; have e2 : w3.cell? ⟨w.heap.size, 2, none⟩ = some (.int .i64 a0_2) := (blk_cell hb3 2).trans rfl; have e3 : w3.cell? ⟨w.heap.size, 3, none⟩ = some (.int .i64 a0_3) := (blk_cell hb3 3).trans rfl; clear hb3))
    go_ret
    exact ⟨rfl, HB4.out⟩
end Go.Proofs.Ytmddafefdleimaa.M
