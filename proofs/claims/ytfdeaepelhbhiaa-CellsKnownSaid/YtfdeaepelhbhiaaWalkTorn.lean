/- The walk of CellsTorn: a page in part has just its first cells; it tells nothing wrong, moves nowhere, takes nothing more till it is wiped. -/
import Derived.Test.YtfdeaepelhbhiaaA
namespace Go.Proofs.Ytfdeaepelhbhiaa.M
open Go.RowKit Go.Proofs.YtfdeaepelhbhiaaW.PrintWords Go.Proofs.YtfdeaepelhbhiaaW.PrintLast Go.Proofs.YtfdeaepelhbhiaaW.PrintMore Go.Proofs.Ytfdeaepelhbhiaa.Rw Go.Proofs.Ytfdeaepelhbhiaa.Fl
set_option linter.unusedVariables false
set_option linter.unusedSimpArgs false
theorem progL_get {n k i : Nat} {S : List Int} (hS : S.length = n) (hi : i < n) (hk : k ≤ n) : (progL (List.replicate n (0, 0)) S k).getD i (0, 0) = if i < k then ofPt (S.getD i 0) else (0, 0) := by
  unfold progL
  rw [List.getD_eq_getElem?_getD]
  by_cases h : i < k
  · rw [if_pos h, List.getElem?_append_left (by simp; omega), List.getElem?_map, List.getElem?_take_of_lt h, List.getD_eq_getElem?_getD, List.getElem?_eq_getElem (by omega : i < S.length)]; rfl
  · rw [if_neg h, List.getElem?_append_right (by simp; omega)]
    simp
    rw [List.getElem?_replicate]
    split <;> rfl
theorem pt_small {s : Int} (h0 : 0 ≤ s) (h1 : s < 1024) : (ofPt s).1.natAbs ≤ 31 ∧ (ofPt s).2.natAbs ≤ 31 := by
  unfold ofPt; constructor <;> simp only <;> omega
/-- what a row of symbols that is handed in bears -/
structure Inp (w : World) (A : Option Addr) (c n : Nat) (l : List Int) : Prop where
  C : Kd.C (Kd.int .u16) w A l.length l
  len : l.length = n
  cap : n ≤ c
  pos : 0 < n
  top : n ≤ 300
  low : ∀ j, j < n → 0 ≤ l.getD j 0
theorem Inp.apart {w0 w W : World} {A : Option Addr} {c n g b : Nat} {l : List Int} (h : Inp w A c n l) (hb : w.heap.size ≤ w0.heap.size) {P : Pts} {S : List Int} {st : Int} (hc : Cw w0 W g b P S st) : ∀ ad, A = some ad → ad.block ≠ b ∧ ad.block ≠ g := by
  intro ad e
  obtain ⟨ad', e2, hx⟩ := at_num h.C 0 (by rw [h.len]; exact h.pos)
  rw [e] at e2
  cases e2
  have h1 := World.block_lt_of_cell? w _ hx
  rw [add_block] at h1
  have h2 := hc.lts
  exact ⟨by omega, by omega⟩
theorem eraseN {w0 W : World} {g b n : Nat} {P : Pts} {S : List Int} {st : Int} (h : Cw w0 W g b P S st) (hl : P.length = n) (hp : 0 < n) : Calls Try.prog 16 #[.pointer (some ⟨g, 0, none⟩)] W fun e w' => e = .returned (.tuple #[]) ∧ Aside0 (Cw w0 w' g b (List.replicate n (0, 0)) [] 0) := by
  subst hl; exact cwErase h hp
/-- a whole page anew -/
theorem freshC {w0 w W : World} {A : Option Addr} {c n g b : Nat} {l S : List Int} (h : Inp w A c n l) (hb0 : Below w.heap.size w w0) (hs : w.heap.size ≤ w0.heap.size) (hx : ∀ j, j < l.length → 0 ≤ l.getD j 0 ∧ l.getD j 0 < 1024) (hc : Cw w0 W g b (List.replicate n (0, 0)) S 0) :
    Calls Try.prog 9 #[.pointer (some ⟨g, 0, none⟩), .slice A n c, .int .i64 (n : Int)] W fun e w' => e = .returned (.int .i64 0) ∧ Aside0 (Cw w0 w' g b (l.map ofPt) l 1) ∧ Aside0 (∀ k, k < W.heap.size → k ≠ g → k ≠ b → w'.heap[k]? = W.heap[k]?) ∧ Aside0 (W.heap.size ≤ w'.heap.size) ∧ Aside0 (∀ q, q < W.heap.size → NoQ w' g q) := by
  have hp := h.pos
  have hl := h.len
  have hb3 := Below.trans hb0 (hc.bel.mono hs)
  have hpr := cwProg hc A c (Kd.C_below h.C hb3) (by rw [hl]; exact h.cap) (by rw [hl, List.length_replicate]) (by rw [List.length_replicate]; exact hp) hx (h.apart hs hc) (n : Int) n 1 (by rw [List.length_replicate, if_neg (show ¬ (n : Int) < 0 by omega), if_pos (Int.le_refl _)]) (by rw [List.length_replicate, if_neg (show ¬ (n : Int) ≤ 0 by omega), if_pos (Int.le_refl _)])
  have e := progL_all (P := List.replicate n (0, 0)) (S := l) (by rw [hl, List.length_replicate])
  rw [List.length_replicate] at e
  rw [e, hl] at hpr
  exact hpr
theorem noneWrong {w0 W : World} {g b : Nat} {l : List Int} (hx : ∀ j, j < l.length → 0 ≤ l.getD j 0 ∧ l.getD j 0 < 1024) (hc : Cw w0 W g b (l.map ofPt) l 1) :
    Calls Try.prog 10 #[.pointer (some ⟨g, 0, none⟩)] W fun e w' => ∃ A c, e = .returned (.slice A 0 c) ∧ Aside0 (Cw w0 w' g b (l.map ofPt) l 1) ∧ Aside0 (Below W.heap.size W w') := by
  refine (cwWrong hc (fun j hj => ?_)).mono ?_
  · have hj' : j < l.length := by simpa using hj
    rw [pt_getD hj']
    have := pt_small (hx j hj').1 (hx j hj').2
    exact ⟨by omega, by omega⟩
  · rintro e w' ⟨v, rfl, hR, hB⟩
    rw [wrong_none (fun j hj => by have hj' : j < l.length := by simpa using hj
                                   exact good_of hj' (hx j hj').1 (hx j hj').2)] at hR
    obtain ⟨A, c, e, _⟩ := R_len hR.out
    exact ⟨A, c, by rw [e]; rfl, ⟨hc.below hB.out⟩, hB⟩
set_option maxHeartbeats 12800000 in
set_option maxRecDepth 100000 in
theorem torn_walk (A0 : Option Addr) (c0 : Nat) (l0 : List (Int)) (a1 : Int) (a2_0 : Int) (a2_1 : Int) (w : World) (r0 : Kd.C (Kd.int .u16) w A0 l0.length l0) (k0 : l0.length ≤ c0) (m0 : l0.length ≤ maxLen) (y0 : l0.length * 2 ≤ 140737488351232) (g0 : ∀ y ∈ l0, (Lit.int .u16 y).wf = true) (w1 : (Lit.int .u16 a1).wf = true) (wa2_0 : (Lit.int .i8 a2_0).wf = true) (wa2_1 : (Lit.int .i8 a2_1).wf = true) :
    Calls Try.prog 6 #[.slice A0 l0.length c0, .int .u16 a1, .agg #[.int .i8 a2_0, .int .i8 a2_1]] w fun e w' => e = .returned (.bool true) ∧ Below w.heap.size w w' := by
  obtain ⟨b10, b11⟩ := bounds_u16 w1
  obtain ⟨b20, b21⟩ := bounds_i8 wa2_0
  obtain ⟨b30, b31⟩ := bounds_i8 wa2_1
  have hlow : ∀ j, j < l0.length → 0 ≤ l0.getD j 0 := fun j hj => (bounds_u16 (g0 _ (mem_getD 0 hj))).1
  have hm63 : l0.length ≤ 9223372036854775807 := by omega
  obtain ⟨n, hn⟩ : ∃ n, l0.length = n := ⟨_, rfl⟩
  have HR := Aside0.mk r0
  have HLow := Aside0.mk hlow
  have HN := Aside0.mk hn
  rw [hn] at k0 hm63 ⊢
  have HB0 := Aside0.mk (below_alloc (Below.refl w.heap.size w) (.cells #[.int .i8 a2_0, .int .i8 a2_1] 24 (0, 0)))
  have HX0 := Aside0.mk (blk_new w (.cells #[.int .i8 a2_0, .int .i8 a2_1] 24 (0, 0)))
  have HS0 : Aside0 (w.heap.size < (w.alloc (.cells #[.int .i8 a2_0, .int .i8 a2_1] 24 (0, 0))).heap.size) := ⟨by rw [World.size_alloc]; omega⟩
  clear r0 hlow hn m0 y0 g0 w1 wa2_0 wa2_1
  by_cases n0 : n = 0
  · subst n0
    go_enter Try.func6, Try.ntmps6
    go_wp2_with (first | (go_at_call 7; (refine (awakeC _).mono ?_); rintro e w2 ⟨rfl, hb⟩; have HB := Aside0.mk (below_step HB0.out hb); clear hb))
    go_ret
    exact ⟨rfl, HB.out⟩
  by_cases n300 : (300 : Int) < (n : Int)
  · have n0b : ((n : Int) == 0) = false := beq_eq_false_iff_ne.2 (by omega)
    have d300 : decide ((300 : Int) < (n : Int)) = true := decide_eq_true n300
    go_enter Try.func6, Try.ntmps6
    go_wp2_with (first | (go_at_call 7; (refine (awakeC _).mono ?_); rintro e w2 ⟨rfl, hb⟩; have HB := Aside0.mk (below_step HB0.out hb); clear hb))
    go_ret
    exact ⟨rfl, HB.out⟩
  have n0b : ((n : Int) == 0) = false := beq_eq_false_iff_ne.2 (by omega)
  have d300 : decide ((300 : Int) < (n : Int)) = false := decide_eq_false n300
  have hin : Inp w A0 c0 n l0 := ⟨HR.out, HN.out, k0, by omega, by omega, fun j hj => HLow.out j (by rw [HN.out]; exact hj)⟩
  have HIn := Aside0.mk hin
  have np : 0 < n := by omega
  have nt : n ≤ 300 := by omega
  clear hin n0 n300 HR HLow HN
  go_enter Try.func6, Try.ntmps6
  go_wp2_with (first | (go_at_call 7; (refine (awakeC _).mono ?_); rintro e w2 ⟨rfl, hb⟩; have HB := Aside0.mk hb; clear hb))
  generalize hw0 : (w.alloc (.cells #[.int .i8 a2_0, .int .i8 a2_1] 24 (0, 0))) = w0 at *
  clear hw0
  go_loopw [7] (fun v7 wr => ∃ i : Nat, i ≤ n ∧ v7 = .int .i64 (i : Int) ∧ Aside0 (Below w0.heap.size w0 wr) ∧ Aside0 (∀ j, j < i → l0.getD j 0 < 1024)) (fun v7 _ => n - (intOf v7).toNat)
  case atStart => exact ⟨0, Nat.zero_le _, rfl, HB, ⟨fun j hj => absurd hj (Nat.not_lt_zero _)⟩⟩
  case round =>
    clear HB
    obtain ⟨i, hi, rfl, HB, HPre⟩ := hrel
    by_cases ci : i < n
    · have cii : (i : Int) < (n : Int) := by omega
      obtain ⟨ad, e1, hx⟩ := at_num HIn.out.C i (by rw [HIn.out.len]; exact ci)
      cases e1
      have hbw := Below.trans HB0.out (HB.out.mono (Nat.le_of_lt HS0.out))
      replace hx := (hbw.cell (World.block_lt_of_cell? w _ hx)).trans hx
      obtain ⟨x, hx0⟩ : ∃ x, l0.getD i 0 = x := ⟨_, rfl⟩
      rw [hx0] at hx
      have HBw := Aside0.mk hbw
      clear hbw
      by_cases c : 1024 ≤ x
      · have cb : decide (1024 ≤ x) = true := decide_eq_true c
        clear c hx0
        go_wp2
        go_ret
        exact ⟨rfl, HBw.out⟩
      · have cb : decide (1024 ≤ x) = false := decide_eq_false c
        have HPre2 : Aside0 (∀ j, j < i + 1 → l0.getD j 0 < 1024) := ⟨fun j hj => by
          by_cases e : j = i
          · subst e; rw [hx0]; omega
          · exact HPre.out j (by omega)⟩
        clear c hx0
        go_wp2
        go_roundw
        case rel => exact ⟨i + 1, ci, rfl, HB, HPre2⟩
        case measure => simp [intOf]; omega
    · obtain rfl : i = n := by omega
      clear ci hi
      have HAll := HPre
      clear HPre
      have hxr : ∀ j, j < l0.length → 0 ≤ l0.getD j 0 ∧ l0.getD j 0 < 1024 := fun j hj => ⟨HIn.out.low j (by rw [← HIn.out.len]; exact hj), HAll.out j (by rw [← HIn.out.len]; exact hj)⟩
      have HXr := Aside0.mk hxr
      clear hxr HAll
      have hnn : (if (i : Int) < 0 then 0 else (i : Int)) = (i : Int) := if_neg (by omega)
      obtain ⟨k, hk⟩ : ∃ k : Nat, a1 % ((i : Int) + 1) = (k : Int) := ⟨(a1 % ((i : Int) + 1)).toNat, by have := Int.emod_nonneg a1 (b := (i : Int) + 1) (by omega); omega⟩
      have hkn : k ≤ i := by have := Int.emod_lt_of_pos a1 (b := (i : Int) + 1) (by omega); omega
      obtain ⟨st, hst⟩ : ∃ st : Int, (if (k : Int) ≤ 0 then 0 else if (i : Int) ≤ (k : Int) then 1 else 2) = st := ⟨_, rfl⟩
      have HSt := Aside0.mk hst
      have HNN := Aside0.mk hnn
      have HB' := HB
      clear hst hnn HB
      go_upto_region 15 with (first
        | (go_at_call 8; (refine (cwNew (w0 := w0) (i : Int) i HNN.out (by omega) HB'.out).mono ?_); rintro e w3 ⟨g, b, rfl, HC, _⟩; clear HB')
        | (go_at_call 9; (have hb3 := Below.trans HB0.out (HC.out.bel.mono (Nat.le_of_lt HS0.out))); (have hp := cwProg HC.out A0 c0 (Kd.C_below HIn.out.C hb3) (by rw [HIn.out.len]; exact HIn.out.cap) (by rw [HIn.out.len, List.length_replicate]) (by rw [List.length_replicate]; exact np) HXr.out (HIn.out.apart (Nat.le_of_lt HS0.out) HC.out) (k : Int) k st (by rw [List.length_replicate]; rw [if_neg (show ¬ (k : Int) < 0 by omega), if_pos (show (k : Int) ≤ (i : Int) by omega)]) (by rw [List.length_replicate]; exact HSt.out)); rw [HIn.out.len] at hp; (refine hp.mono ?_); rintro e w4 ⟨rfl, HC4, _, _⟩; clear HC hb3 hp)
        | (go_at_call 12; (have hl := progL_len (P := List.replicate i (0, 0)) (S := l0) (i := k) (by rw [HIn.out.len, List.length_replicate]) (by rw [List.length_replicate]; exact hkn)); rw [List.length_replicate] at hl; (have hse := cwSense HC4.out (by rw [hl]; exact np)); rw [hl] at hse; (refine hse.mono ?_); rintro e w5 ⟨q, c5, rfl, hc5, _, HV, HB5⟩; have HC5 := Aside0.mk (HC4.out.below HB5.out); have HLe := Aside0.mk hl; clear HC4 HB5 hl hse))
      clear hk
      go_wp2
      go_loopw [11, 12] (fun v11 _ wr => ∃ j : Nat, j ≤ i ∧ v11 = .int .i64 (j : Int) ∧ Aside0 (wr = w5)) (fun v11 _ _ => i - (intOf v11).toNat)
      case atStart => exact ⟨0, Nat.zero_le _, rfl, ⟨rfl⟩⟩
      case round =>
        obtain ⟨j, hj, rfl, HW5⟩ := hrel
        by_cases cj : j < i
        · have cjj : (j : Int) < (i : Int) := by omega
          obtain ⟨ad, e1, hx⟩ := at_num HIn.out.C j (by rw [HIn.out.len]; exact cj)
          cases e1
          have hbw := Below.trans HB0.out (HC5.out.bel.mono (Nat.le_of_lt HS0.out))
          replace hx := (hbw.cell (World.block_lt_of_cell? w _ hx)).trans hx
          have hp := HV.out.cell (i := j) (by rw [HLe.out]; exact cj)
          rw [progL_get HIn.out.len cj hkn] at hp
          obtain ⟨s, hs⟩ : ∃ s, l0.getD j 0 = s := ⟨_, rfl⟩
          have hr := HXr.out j (by rw [HIn.out.len]; exact cj)
          rw [hs] at hx hp hr
          have hof := refOfC s hr.1 hr.2
          have hsm := pt_small hr.1 hr.2
          unfold ptV at hof
          have ox := ord_eq (ord_int (a := (ofPt s).1) (b := (ofPt s).1) (by omega) (by omega)) rfl
          have oy := ord_eq (ord_int (a := (ofPt s).2) (b := (ofPt s).2) (by omega) (by omega)) rfl
          have HOf := Aside0.mk hof
          rw [← HW5.out] at hx hp
          by_cases ck : j < k
          · have ckb : decide ((k : Int) ≤ (j : Int)) = false := decide_eq_false (by omega)
            rw [if_pos ck] at hp
            unfold ptV at hp
            generalize fd (ofPt s).1 0 = X at *
            generalize fd (ofPt s).2 0 = Y at *
            clear hof hsm hr hs hbw
            go_wp2_with (first | (go_at_call 14; (refine (HOf.out _).mono ?_); rintro o w9 ⟨rfl, hw⟩; obtain rfl := hw.symm))
            go_roundw
            case rel => exact ⟨j + 1, cj, rfl, HW5⟩
            case measure => simp [intOf]; omega
          · have ckb : decide ((k : Int) ≤ (j : Int)) = true := decide_eq_true (by omega)
            rw [if_neg ck, ptV_zero] at hp
            have oz : FloatKind.f64.format.order 0 0 = some .eq := by decide +kernel
            generalize fd (ofPt s).1 0 = X at *
            generalize fd (ofPt s).2 0 = Y at *
            clear hof hsm hr hs hbw ox oy
            go_wp2_with (first | (go_at_call 14; (refine (HOf.out _).mono ?_); rintro o w9 ⟨rfl, hw⟩; obtain rfl := hw.symm))
            go_roundw
            case rel => exact ⟨j + 1, cj, rfl, HW5⟩
            case measure => simp [intOf]; omega
        · obtain rfl : j = i := by omega
          have hw5 := HW5.out
          subst hw5
          have hbk := (HC5.out.bel.block w.heap.size HS0.out).trans HX0.out
          have hc0 := blk_cell hbk 0
          have hc1 := blk_cell hbk 1
          obtain ⟨x, hx⟩ : ∃ x, a2_0.tmod 60 = x := ⟨_, rfl⟩
          obtain ⟨y, hy⟩ : ∃ y, a2_1.tmod 60 = y := ⟨_, rfl⟩
          have hxb : x.natAbs < 60 := by rw [← hx, Int.natAbs_tmod]; exact Nat.mod_lt _ (by decide)
          have hyb : y.natAbs < 60 := by rw [← hy, Int.natAbs_tmod]; exact Nat.mod_lt _ (by decide)
          have fx := fd_int x
          have fy := fd_int y
          clear hbk cj
          by_cases q1 : k = j
          · subst q1
            have hst1 : st = 1 := by rw [← HSt.out, if_neg (by omega), if_pos (Int.le_refl _)]
            subst hst1
            have hp0 := progL_get (k := k) HIn.out.len np (Nat.le_refl k)
            rw [if_pos np] at hp0
            have hr := HXr.out 0 (by rw [HIn.out.len]; exact np)
            have hsm := pt_small hr.1 hr.2
            have hlen : (progL (List.replicate k (0, 0)) l0 k).length = k := HLe.out
            have hd := cwDriftYes HC5.out 0 (by rw [hlen]; exact np) x y (by omega) (by omega) (by rw [hp0]; omega) (by rw [hp0]; omega) (by rw [hp0]; unfold mayMove; rw [decide_eq_true (by omega), decide_eq_true (by omega), decide_eq_true (by omega), decide_eq_true (by omega)]; rfl) (by rw [hp0]; unfold mayMove; rw [decide_eq_true (by omega), decide_eq_true (by omega), decide_eq_true (by omega), decide_eq_true (by omega)]; rfl)
            have HLen7 : Aside0 (((progL (List.replicate k (0, 0)) l0 k).set 0 (((progL (List.replicate k (0, 0)) l0 k).getD 0 (0, 0)).1 + x, ((progL (List.replicate k (0, 0)) l0 k).getD 0 (0, 0)).2 + y)).length = k) := ⟨by rw [List.length_set]; exact hlen⟩
            generalize ((progL (List.replicate k (0, 0)) l0 k).set 0 (((progL (List.replicate k (0, 0)) l0 k).getD 0 (0, 0)).1 + x, ((progL (List.replicate k (0, 0)) l0 k).getD 0 (0, 0)).2 + y)) = P2 at *
            have k0b : ((k : Int) == 0) = false := beq_eq_false_iff_ne.2 (by omega)
            have hd := Aside0.mk hd
            clear hp0 hr hsm hlen hxb hyb
            go_wp2_with (first
              | (go_at_call 11; (refine hd.out.mono ?_); rintro e w6 ⟨rfl, HC6, _, _⟩; clear hd)
              | (go_at_call 9; (first | (refine (cwOrder HC6.out (by decide) A0 k c0 1).mono ?_; rintro e w7 ⟨rfl, hw⟩; obtain rfl := hw.symm; have HC7 := HC6; clear HC6) | (refine (freshC HIn.out HB0.out (Nat.le_of_lt HS0.out) HXr.out HC8.out).mono ?_; rintro e w9 ⟨rfl, HC9, _, _⟩; clear HC8)))
              | (go_at_call 16; (refine (eraseN HC7.out HLen7.out np).mono ?_); rintro e w8 ⟨rfl, HC8⟩; clear HC7)
              | (go_at_call 10; (refine (noneWrong HXr.out HC9.out).mono ?_); rintro e w10 ⟨A, c, rfl, HC10, _⟩; clear HC9)
              | (go_at_call 15; (refine (cwState HC10.out).mono ?_); rintro e w11 ⟨rfl, hw⟩; obtain rfl := hw.symm))
            go_ret
            exact ⟨rfl, Below.trans HB0.out (HC10.out.bel.mono (Nat.le_of_lt HS0.out))⟩
          · have q1b : ((k : Int) == (j : Int)) = false := beq_eq_false_iff_ne.2 (by omega)
            by_cases q2 : k = 0
            · skip
              have q1c : ((0 : Int) == (j : Int)) = false := beq_eq_false_iff_ne.2 (by omega)
              subst q2
              have hst0 : st = 0 := by rw [← HSt.out]; rfl
              subst hst0
              have hd := Aside0.mk (cwDriftOut HC5.out 0 (.inl (by decide)) (fd x 0) (fd y 0))
              obtain ⟨st2, hst2⟩ : ∃ st2 : Int, (if (1 : Int) ≤ 0 then 0 else if ((List.replicate j ((0 : Int), (0 : Int))).length : Int) ≤ 1 then 1 else 2) = st2 := ⟨_, rfl⟩
              have hb3 := Below.trans HB0.out (HC5.out.bel.mono (Nat.le_of_lt HS0.out))
              have hpr := cwProg (P := List.replicate j (0, 0)) (S := l0) HC5.out A0 c0 (Kd.C_below HIn.out.C hb3) (by rw [HIn.out.len]; exact HIn.out.cap) (by rw [HIn.out.len, List.length_replicate]) (by rw [List.length_replicate]; exact np) HXr.out (HIn.out.apart (Nat.le_of_lt HS0.out) HC5.out) 1 1 st2 (by rw [List.length_replicate, if_neg (show ¬ (1 : Int) < 0 by decide), if_pos (show (1 : Int) ≤ (j : Int) by omega)]; rfl) hst2
              rw [HIn.out.len] at hpr
              have HPr := Aside0.mk hpr
              have HLen7 := Aside0.mk (progL_len (P := List.replicate j (0, 0)) (S := l0) (i := 1) (by rw [HIn.out.len, List.length_replicate]) (by rw [List.length_replicate]; omega))
              rw [List.length_replicate] at HLen7
              clear hxb hyb hst2 hb3 hpr
              go_wp2_with (first
                | (go_at_call 11; (refine hd.out.mono ?_); rintro e w6 ⟨rfl, hw⟩; obtain rfl := hw.symm; clear hd)
                | (go_at_call 9; (first | (refine HPr.out.mono ?_; rintro e w7 ⟨rfl, HC7, _, _⟩; clear HC5 HPr) | (refine (freshC HIn.out HB0.out (Nat.le_of_lt HS0.out) HXr.out HC8.out).mono ?_; rintro e w9 ⟨rfl, HC9, _, _⟩; clear HC8)))
                | (go_at_call 16; (refine (eraseN HC7.out HLen7.out np).mono ?_); rintro e w8 ⟨rfl, HC8⟩; clear HC7)
                | (go_at_call 10; (refine (noneWrong HXr.out HC9.out).mono ?_); rintro e w10 ⟨A, c, rfl, HC10, _⟩; clear HC9)
                | (go_at_call 15; (refine (cwState HC10.out).mono ?_); rintro e w11 ⟨rfl, hw⟩; obtain rfl := hw.symm))
              go_ret
              exact ⟨rfl, Below.trans HB0.out (HC10.out.bel.mono (Nat.le_of_lt HS0.out))⟩
            · skip
              have hst2 : st = 2 := by rw [← HSt.out, if_neg (by omega), if_neg (by omega)]
              subst hst2
              have hd := Aside0.mk (cwDriftOut HC5.out 0 (.inl (by decide)) (fd x 0) (fd y 0))
              have HLen7 := HLe
              have k0b : ((k : Int) == 0) = false := beq_eq_false_iff_ne.2 (by omega)
              clear hxb hyb
              go_wp2_with (first
                | (go_at_call 11; (refine hd.out.mono ?_); rintro e w6 ⟨rfl, hw⟩; obtain rfl := hw.symm; have HC6 := HC5; clear HC5 hd)
                | (go_at_call 9; (first | (refine (cwOrder HC6.out (by decide) A0 j c0 1).mono ?_; rintro e w7 ⟨rfl, hw⟩; obtain rfl := hw.symm; have HC7 := HC6; clear HC6) | (refine (freshC HIn.out HB0.out (Nat.le_of_lt HS0.out) HXr.out HC8.out).mono ?_; rintro e w9 ⟨rfl, HC9, _, _⟩; clear HC8)))
                | (go_at_call 16; (refine (eraseN HC7.out HLen7.out np).mono ?_); rintro e w8 ⟨rfl, HC8⟩; clear HC7)
                | (go_at_call 10; (refine (noneWrong HXr.out HC9.out).mono ?_); rintro e w10 ⟨A, c, rfl, HC10, _⟩; clear HC9)
                | (go_at_call 15; (refine (cwState HC10.out).mono ?_); rintro e w11 ⟨rfl, hw⟩; obtain rfl := hw.symm))
              go_ret
              exact ⟨rfl, Below.trans HB0.out (HC10.out.bel.mono (Nat.le_of_lt HS0.out))⟩
end Go.Proofs.Ytfdeaepelhbhiaa.M
