/- The walk of CellsMove: a cell that moves there and back is right again; where it moved less than to another symbol it was never wrong. -/
import Derived.Test.YtfdeaepelhbhiaaWalkTorn
namespace Go.Proofs.Ytfdeaepelhbhiaa.M
open Go.RowKit Go.Proofs.YtfdeaepelhbhiaaW.PrintWords Go.Proofs.YtfdeaepelhbhiaaW.PrintLast Go.Proofs.YtfdeaepelhbhiaaW.PrintMore Go.Proofs.Ytfdeaepelhbhiaa.Rw Go.Proofs.Ytfdeaepelhbhiaa.Fl
set_option linter.unusedVariables false
set_option linter.unusedSimpArgs false
theorem bounds_u8 {a : Int} (h : (Lit.int .u8 a).wf = true) : 0 ≤ a ∧ a ≤ 255 := by
  simp only [Lit.wf, Bool.and_eq_true, decide_eq_true_eq] at h
  exact h
theorem wrong_one {P : Pts} {S : List Int} {k : Nat} : ∀ n, (∀ j, j < n → j ≠ k → bad P S j = false) → wrongL P S n = if k < n ∧ bad P S k = true then [(k : Int)] else []
  | 0, _ => by rw [if_neg (by omega)]; rfl
  | n + 1, h => by
    rw [wrongL_succ, wrong_one n (fun j hj hk => h j (by omega) hk)]
    by_cases e : n = k
    · subst e
      rw [if_neg (show ¬ (n < n ∧ bad P S n = true) by omega)]
      by_cases hb : bad P S n = true
      · rw [if_pos hb, if_pos ⟨by omega, hb⟩]; rfl
      · rw [if_neg hb, if_neg (by simp [hb])]; rfl
    · simp only [h n (by omega) e, Bool.false_eq_true, if_false, List.append_nil]
      by_cases c : k < n ∧ bad P S k = true
      · rw [if_pos c, if_pos ⟨by omega, c.2⟩]
      · rw [if_neg c, if_neg (fun h9 => c ⟨by omega, h9.2⟩)]
theorem R_one {W : World} {v : Value} {base : Nat} {ok : Nat → Prop} {x : Int} (h : Kd.R (Kd.int .i64) 3 W base ok v [x]) : ∃ q c, v = .slice (some ⟨q, 0, none⟩) 1 c ∧ base ≤ q ∧ q < W.heap.size ∧ W.cell? ⟨q, 0, none⟩ = some (.int .i64 x) := by
  obtain ⟨A, c, e, hC⟩ := R_len h
  have ho := Kd.own_of_R h
  rcases ho.2 with ⟨_, hz⟩ | ⟨q, cap, cur, hv, hb, hh, hnc, _, hcs, ht⟩
  · exact absurd hz (by simp)
  · have hv1 := hv
    rw [e] at hv
    simp at hv
    obtain ⟨hv, _⟩ := hv
    subst hv
    obtain ⟨ad, e2, hx⟩ := at_num hC 0 (by simp)
    cases e2
    refine ⟨q, c, e, hb, blk_lt hh, ?_⟩
    exact hx
/-- there and back -/
theorem set_back {l : List Int} {k : Nat} {x y : Int} (hk : k < l.length) : (((l.map ofPt).set k ((ofPt (l.getD k 0)).1 + x, (ofPt (l.getD k 0)).2 + y)).set k ((ofPt (l.getD k 0)).1 + x + -x, (ofPt (l.getD k 0)).2 + y + -y)) = l.map ofPt := by
  rw [List.set_set]
  refine List.ext_getElem? fun j => ?_
  rw [List.getElem?_set]
  by_cases e : k = j
  · subst e
    rw [if_pos rfl, if_pos (by simpa using hk), List.getElem?_map, List.getElem?_eq_getElem hk]
    have : l.getD k 0 = l[k] := by rw [List.getD_eq_getElem?_getD, List.getElem?_eq_getElem hk]; rfl
    rw [this]
    simp only [Option.map_some]
    congr 1
    rw [Int.add_neg_cancel_right, Int.add_neg_cancel_right]
  · rw [if_neg e]
set_option maxHeartbeats 12800000 in
set_option maxRecDepth 100000 in
theorem move_walk (A0 : Option Addr) (c0 : Nat) (l0 : List (Int)) (a1 : Int) (a2_0 : Int) (a2_1 : Int) (w : World) (r0 : Kd.C (Kd.int .u16) w A0 l0.length l0) (k0 : l0.length ≤ c0) (m0 : l0.length ≤ maxLen) (y0 : l0.length * 2 ≤ 140737488351232) (g0 : ∀ y ∈ l0, (Lit.int .u16 y).wf = true) (w1 : (Lit.int .u8 a1).wf = true) (wa2_0 : (Lit.int .i8 a2_0).wf = true) (wa2_1 : (Lit.int .i8 a2_1).wf = true) :
    Calls Try.prog 3 #[.slice A0 l0.length c0, .int .u8 a1, .agg #[.int .i8 a2_0, .int .i8 a2_1]] w fun e w' => e = .returned (.bool true) ∧ Below w.heap.size w w' := by
  obtain ⟨b10, b11⟩ := bounds_u8 w1
  obtain ⟨b20, b21⟩ := bounds_i8 wa2_0
  obtain ⟨b30, b31⟩ := bounds_i8 wa2_1
  have hlow : ∀ j, j < l0.length → 0 ≤ l0.getD j 0 := fun j hj => (bounds_u16 (g0 _ (mem_getD 0 hj))).1
  have hm63 : l0.length ≤ 9223372036854775807 := by omega
  obtain ⟨n, hn⟩ : ∃ n, l0.length = n := ⟨_, rfl⟩
  have HR := Aside0.mk r0
  have HLow := Aside0.mk hlow
  have HN := Aside0.mk hn
  rw [hn] at k0 hm63 ⊢
  have HB0 := Aside0.mk (below_alloc (Below.refl w.heap.size w) (.cells #[.int .i8 a2_0, .int .i8 a2_1] 24 (0, 0)))
  have HX0 := Aside0.mk (blk_new w (.cells #[.int .i8 a2_0, .int .i8 a2_1] 24 (0, 0)))
  have HS0 : Aside0 (w.heap.size < (w.alloc (.cells #[.int .i8 a2_0, .int .i8 a2_1] 24 (0, 0))).heap.size) := ⟨by rw [World.size_alloc]; omega⟩
  clear r0 hlow hn m0 y0 g0 w1 wa2_0 wa2_1
  by_cases n0 : n = 0
  · subst n0
    go_enter Try.func3, Try.ntmps3
    go_wp2_with (first | (go_at_call 7; (refine (awakeC _).mono ?_); rintro e w2 ⟨rfl, hb⟩; have HB := Aside0.mk (below_step HB0.out hb); clear hb))
    go_ret
    exact ⟨rfl, HB.out⟩
  by_cases n300 : (300 : Int) < (n : Int)
  · have n0b : ((n : Int) == 0) = false := beq_eq_false_iff_ne.2 (by omega)
    have d300 : decide ((300 : Int) < (n : Int)) = true := decide_eq_true n300
    go_enter Try.func3, Try.ntmps3
    go_wp2_with (first | (go_at_call 7; (refine (awakeC _).mono ?_); rintro e w2 ⟨rfl, hb⟩; have HB := Aside0.mk (below_step HB0.out hb); clear hb))
    go_ret
    exact ⟨rfl, HB.out⟩
  have n0b : ((n : Int) == 0) = false := beq_eq_false_iff_ne.2 (by omega)
  have d300 : decide ((300 : Int) < (n : Int)) = false := decide_eq_false n300
  have hin : Inp w A0 c0 n l0 := ⟨HR.out, HN.out, k0, by omega, by omega, fun j hj => HLow.out j (by rw [HN.out]; exact hj)⟩
  have HIn := Aside0.mk hin
  have np : 0 < n := by omega
  have nt : n ≤ 300 := by omega
  clear hin n0 n300 HR HLow HN
  go_enter Try.func3, Try.ntmps3
  go_wp2_with (first | (go_at_call 7; (refine (awakeC _).mono ?_); rintro e w2 ⟨rfl, hb⟩; have HB := Aside0.mk hb; clear hb))
  generalize hw0 : (w.alloc (.cells #[.int .i8 a2_0, .int .i8 a2_1] 24 (0, 0))) = w0 at *
  clear hw0
  go_loopw [7] (fun v7 wr => ∃ i : Nat, i ≤ n ∧ v7 = .int .i64 (i : Int) ∧ Aside0 (Below w0.heap.size w0 wr) ∧ Aside0 (∀ j, j < i → l0.getD j 0 < 1024)) (fun v7 _ => n - (intOf v7).toNat)
  case atStart => exact ⟨0, Nat.zero_le _, rfl, HB, ⟨fun j hj => absurd hj (Nat.not_lt_zero _)⟩⟩
  case round =>
    clear HB
    obtain ⟨i, hi, rfl, HB, HPre⟩ := hrel
    by_cases ci : i < n
    · have cii : (i : Int) < (n : Int) := by omega
      obtain ⟨ad, e1, hx⟩ := at_num HIn.out.C i (by rw [HIn.out.len]; exact ci)
      cases e1
      have hbw := Below.trans HB0.out (HB.out.mono (Nat.le_of_lt HS0.out))
      replace hx := (hbw.cell (World.block_lt_of_cell? w _ hx)).trans hx
      obtain ⟨x, hx0⟩ : ∃ x, l0.getD i 0 = x := ⟨_, rfl⟩
      rw [hx0] at hx
      have HBw := Aside0.mk hbw
      clear hbw
      by_cases c : 1024 ≤ x
      · have cb : decide (1024 ≤ x) = true := decide_eq_true c
        clear c hx0
        go_wp2
        go_ret
        exact ⟨rfl, HBw.out⟩
      · have cb : decide (1024 ≤ x) = false := decide_eq_false c
        have HPre2 : Aside0 (∀ j, j < i + 1 → l0.getD j 0 < 1024) := ⟨fun j hj => by
          by_cases e : j = i
          · subst e; rw [hx0]; omega
          · exact HPre.out j (by omega)⟩
        clear c hx0
        go_wp2
        go_roundw
        case rel => exact ⟨i + 1, ci, rfl, HB, HPre2⟩
        case measure => simp [intOf]; omega
    · obtain rfl : i = n := by omega
      clear ci hi
      have HAll := HPre
      clear HPre
      have hxr : ∀ j, j < l0.length → 0 ≤ l0.getD j 0 ∧ l0.getD j 0 < 1024 := fun j hj => ⟨HIn.out.low j (by rw [← HIn.out.len]; exact hj), HAll.out j (by rw [← HIn.out.len]; exact hj)⟩
      have HXr := Aside0.mk hxr
      clear hxr HAll
      have hnn : (if (i : Int) < 0 then 0 else (i : Int)) = (i : Int) := if_neg (by omega)
      obtain ⟨k, hk⟩ : ∃ k : Nat, a1 % (i : Int) = (k : Int) := ⟨(a1 % (i : Int)).toNat, by have := Int.emod_nonneg a1 (b := (i : Int)) (by omega); omega⟩
      have hki : k < i := by have := Int.emod_lt_of_pos a1 (b := (i : Int)) (by omega); omega
      have HNN := Aside0.mk hnn
      have hbk := (HB.out.block w.heap.size HS0.out).trans HX0.out
      have hc0 := blk_cell hbk 0
      have hc1 := blk_cell hbk 1
      obtain ⟨x, hx⟩ : ∃ x, a2_0.tmod 60 = x := ⟨_, rfl⟩
      obtain ⟨y, hy⟩ : ∃ y, a2_1.tmod 60 = y := ⟨_, rfl⟩
      have hxb : x.natAbs < 60 := by rw [← hx, Int.natAbs_tmod]; exact Nat.mod_lt _ (by decide)
      have hyb : y.natAbs < 60 := by rw [← hy, Int.natAbs_tmod]; exact Nat.mod_lt _ (by decide)
      have HFx := Aside0.mk (fd_int x)
      have HFy := Aside0.mk (fd_int y)
      have HFx2 := Aside0.mk (fd_int (-x))
      have HFy2 := Aside0.mk (fd_int (-y))
      have hkl : k < l0.length := by rw [HIn.out.len]; exact hki
      obtain ⟨s, hs⟩ : ∃ s, l0.getD k 0 = s := ⟨_, rfl⟩
      have hr := HXr.out k hkl
      rw [hs] at hr
      have hsm := pt_small hr.1 hr.2
      have hbe : (l0.map ofPt).getD k (0, 0) = ofPt s := by rw [pt_getD hkl, hs]
      have hsb := set_back (x := x) (y := y) hkl
      rw [hs] at hsb
      obtain ⟨p1, hp1⟩ : ∃ p1, (ofPt s).1 = p1 := ⟨_, rfl⟩
      obtain ⟨p2, hp2⟩ : ∃ p2, (ofPt s).2 = p2 := ⟨_, rfl⟩
      rw [hp1, hp2] at hsb hsm
      have hP2 : ((l0.map ofPt).set k (p1 + x, p2 + y)).getD k (0, 0) = (p1 + x, p2 + y) := by rw [List.getD_eq_getElem?_getD, List.getElem?_set, if_pos rfl, if_pos (by simpa using hkl)]; rfl
      have hP2o : ∀ j, j < i → j ≠ k → ((l0.map ofPt).set k (p1 + x, p2 + y)).getD j (0, 0) = ofPt (l0.getD j 0) := fun j hj hjk => by
        rw [List.getD_eq_getElem?_getD, List.getElem?_set, if_neg (fun e => hjk e.symm), ← List.getD_eq_getElem?_getD]; exact pt_getD (by rw [HIn.out.len]; exact hj)
      have hP2l : ((l0.map ofPt).set k (p1 + x, p2 + y)).length = i := by rw [List.length_set, List.length_map]; exact HIn.out.len
      have hbd : ∀ j, j < i → (((l0.map ofPt).set k (p1 + x, p2 + y)).getD j (0, 0)).1.natAbs ≤ 2000 ∧ (((l0.map ofPt).set k (p1 + x, p2 + y)).getD j (0, 0)).2.natAbs ≤ 2000 := fun j hj => by
        by_cases e : j = k
        · subst e; rw [hP2]; exact ⟨by simp only; omega, by simp only; omega⟩
        · rw [hP2o j hj e]
          have h9 := HXr.out j (by rw [HIn.out.len]; exact hj)
          have := pt_small h9.1 h9.2
          exact ⟨by omega, by omega⟩
      have hgood : ∀ j, j < i → j ≠ k → bad ((l0.map ofPt).set k (p1 + x, p2 + y)) l0 j = false := fun j hj hjk => by
        have h9 := HXr.out j (by rw [HIn.out.len]; exact hj)
        have h8 := good_of (S := l0) (j := j) (by rw [HIn.out.len]; exact hj) h9.1 h9.2
        unfold bad at h8 ⊢
        rw [pt_getD (by rw [HIn.out.len]; exact hj)] at h8
        rw [hP2o j hj hjk]; exact h8
      have hwr := wrong_one i hgood
      obtain ⟨bd, hbdE⟩ : ∃ bd, bad ((l0.map ofPt).set k (p1 + x, p2 + y)) l0 k = bd := ⟨_, rfl⟩
      rw [hbdE] at hwr
      unfold bad at hbdE
      rw [hP2, hs] at hbdE
      simp only at hbdE
      have HSl := Aside0.mk (refSliceC (x := p1 + x) (y := p2 + y) (by omega) (by omega))
      generalize symP (p1 + x, p2 + y) = sy at *
      have e1 := ord_eqb (ord_int (a := p1 + x) (b := 0) (by omega) (by decide))
      have e2 := ord_eqb (ord_int (a := p2 + y) (b := 0) (by omega) (by decide))
      rw [fd_zero] at e1 e2
      have hm1 : mayMove p1 x = true := by unfold mayMove; rw [decide_eq_true (by omega), decide_eq_true (by omega), decide_eq_true (by omega), decide_eq_true (by omega)]; rfl
      have hm2 : mayMove p2 y = true := by unfold mayMove; rw [decide_eq_true (by omega), decide_eq_true (by omega), decide_eq_true (by omega), decide_eq_true (by omega)]; rfl
      have hm3 : mayMove (p1 + x) (-x) = true := by unfold mayMove; rw [decide_eq_true (by omega), decide_eq_true (by omega), decide_eq_true (by omega), decide_eq_true (by omega)]; rfl
      have hm4 : mayMove (p2 + y) (-y) = true := by unfold mayMove; rw [decide_eq_true (by omega), decide_eq_true (by omega), decide_eq_true (by omega), decide_eq_true (by omega)]; rfl
      have HD1 : Aside0 (∀ (W : World) (g b : Nat), Cw w0 W g b (l0.map ofPt) l0 1 → Calls Try.prog 11 #[.pointer (some ⟨g, 0, none⟩), .int .i64 (k : Int), .complex .f64 (fd x 0) (fd y 0)] W fun e w' => e = .returned (.bool true) ∧ Aside0 (Cw w0 w' g b ((l0.map ofPt).set k (p1 + x, p2 + y)) l0 1) ∧ Aside0 (∀ k, k ≠ b → w'.heap[k]? = W.heap[k]?) ∧ w'.heap.size = W.heap.size) := ⟨fun W g b h => by
        have hd := cwDriftYes h k (by rw [List.length_map]; exact hkl) x y (by omega) (by omega) (by rw [hbe, hp1]; omega) (by rw [hbe, hp2]; omega) (by rw [hbe, hp1]; exact hm1) (by rw [hbe, hp2]; exact hm2)
        rw [hbe, hp1, hp2] at hd; exact hd⟩
      have HD2 : Aside0 (∀ (W : World) (g b : Nat), Cw w0 W g b ((l0.map ofPt).set k (p1 + x, p2 + y)) l0 1 → Calls Try.prog 11 #[.pointer (some ⟨g, 0, none⟩), .int .i64 (k : Int), .complex .f64 (fd (-x) 0) (fd (-y) 0)] W fun e w' => e = .returned (.bool true) ∧ Aside0 (Cw w0 w' g b (l0.map ofPt) l0 1) ∧ Aside0 (∀ k, k ≠ b → w'.heap[k]? = W.heap[k]?) ∧ w'.heap.size = W.heap.size) := ⟨fun W g b h => by
        have hd := cwDriftYes h k (by rw [hP2l]; exact hki) (-x) (-y) (by omega) (by omega) (by rw [hP2]; simp only; omega) (by rw [hP2]; simp only; omega) (by rw [hP2]; exact hm3) (by rw [hP2]; exact hm4)
        rw [hP2] at hd; simp only at hd; rw [hsb] at hd; exact hd⟩
      have HSen : Aside0 (∀ (W : World) (g b : Nat), Cw w0 W g b ((l0.map ofPt).set k (p1 + x, p2 + y)) l0 1 → Calls Try.prog 12 #[.pointer (some ⟨g, 0, none⟩)] W fun e w' => ∃ q c, e = .returned (.slice (some ⟨q, 0, none⟩) i c) ∧ w'.cell? ⟨q, k, none⟩ = some (.complex .f64 (fd (p1 + x) 0) (fd (p2 + y) 0)) ∧ Aside0 (Below W.heap.size W w')) := ⟨fun W g b h => by
        have hd := cwSense h (by rw [hP2l]; exact np)
        rw [hP2l] at hd
        refine hd.mono fun e w' ⟨q, c, h1, h2, h3, h4, h5⟩ => ⟨q, c, h1, ?_, h5⟩
        have h6 := h4.out.cell (i := k) (by rw [hP2l]; exact hki)
        rw [hP2] at h6; exact h6⟩
      have HWr : Aside0 (∀ (W : World) (g b : Nat), Cw w0 W g b ((l0.map ofPt).set k (p1 + x, p2 + y)) l0 1 → Calls Try.prog 10 #[.pointer (some ⟨g, 0, none⟩)] W fun e w' => ∃ v, e = .returned v ∧ Aside0 (Kd.R (Kd.int .i64) 3 w' W.heap.size (fun _ => True) v (if bd = true then [(k : Int)] else [])) ∧ Aside0 (Below W.heap.size W w')) := ⟨fun W g b h => by
        have hd := cwWrong h (by rw [hP2l]; exact hbd)
        rw [hP2l, hwr] at hd
        refine hd.mono fun e w' ⟨v, h1, h2, h3⟩ => ⟨v, h1, ?_, h3⟩
        by_cases h9 : bd = true
        · rw [if_pos h9]; rw [if_pos ⟨hki, h9⟩] at h2; exact h2
        · rw [if_neg h9]; rw [if_neg (fun h8 => h9 h8.2)] at h2; exact h2⟩
      have hcellS : ∃ ad, A0 = some ad ∧ w.cell? (ad.add k) = some (.int .u16 s) := by
        obtain ⟨ad, h1, h2⟩ := at_num HIn.out.C k (by rw [HIn.out.len]; exact hki)
        exact ⟨ad, h1, by rw [← hs]; exact h2⟩
      obtain ⟨ad, hA, hcs⟩ := hcellS
      have HCs := Aside0.mk hcs
      subst hA
      have e3 : (sy != s) = (!(sy == s)) := rfl
      generalize hq : (sy == s) = qq at *
      rw [e3] at hbdE
      have HBdE := Aside0.mk hbdE
      generalize decide (p1 + x = 0) = zx at *
      generalize decide (p2 + y = 0) = zy at *
      generalize (l0.map ofPt).set k (p1 + x, p2 + y) = P2 at *
      generalize fd (p1 + x) 0 = xx at *
      generalize fd (p2 + y) 0 = yy at *
      clear hP2 hP2o hP2l hbd hgood hwr hbdE hm1 hm2 hm3 hm4 hbe hsb hsm hr hs hkl hnn hbk hcs e3
      have hki2 : (k : Int) < (i : Int) := by omega
      go_upto_region 10 with (fail)
      go_quiet (fail)
      have HBq := Aside0.mk (Below.trans HB.out (⟨rfl, rfl, rfl, Nat.le_refl _, fun _ _ => rfl⟩ : Below w0.heap.size wr (wr.drewN nq)))
      clear HB hc0 hc1
      generalize wr.drewN nq = wq at *
      have fx := HFx.out
      have fy := HFy.out
      have fx2 := HFx2.out
      have fy2 := HFy2.out
      clear HFx HFy HFx2 HFy2
      cases zx <;> cases zy <;> cases qq <;> cases bd
      all_goals (try (exact absurd HBdE.out (by decide)))
      all_goals (
        have hne : (sy != s) = !(sy == s) := rfl
        rw [hq] at hne
        go_upto_region 18 with (first
          | (go_at_call 8; (refine (cwNew (w0 := w0) (i : Int) i HNN.out (by omega) HBq.out).mono ?_); rintro e w3 ⟨g, b, rfl, HC, _⟩)
          | (go_at_call 9; (refine (freshC HIn.out HB0.out (Nat.le_of_lt HS0.out) HXr.out HC.out).mono ?_); rintro e w4 ⟨rfl, HC4, _, _⟩; clear HC)
          | (go_at_call 10; (first | (refine (noneWrong HXr.out HC4.out).mono ?_; rintro e w5 ⟨A5, c5, rfl, HC5, _⟩; clear HC4) | (refine (HWr.out _ _ _ HC7.out).mono ?_; rintro e w8 ⟨v8, rfl, HR8, HB8⟩; have HC8 := Aside0.mk (HC7.out.below HB8.out); have HLt := Aside0.mk HC7.out.lts; clear HC7)))
          | (go_at_call 11; (refine (HD1.out _ _ _ HC5.out).mono ?_); rintro e w6 ⟨rfl, HC6, _, _⟩; clear HC5)
          | (go_at_call 12; (refine (HSen.out _ _ _ HC6.out).mono ?_); rintro e w7 ⟨q7, c7, rfl, hx7, HB7⟩; have HC7 := Aside0.mk (HC6.out.below HB7.out); clear HC6))
        first
          | (obtain ⟨q8, c8, e8, hb8, hl8, hx8⟩ := R_one (x := (k : Int)) (by simpa using HR8.out)
             subst e8
             have hqb : q8 ≠ b := Nat.ne_of_gt (Nat.lt_of_lt_of_le HLt.out.2.2.2 hb8)
             have HQb := Aside0.mk hqb
             clear hqb hb8 hl8)
          | (obtain ⟨A8, c8, e8, hC8⟩ := R_len (L := []) (by simpa using HR8.out)
             subst e8
             clear hC8)
        have hbw := Below.trans HB0.out (HC8.out.bel.mono (Nat.le_of_lt HS0.out))
        have hs8 := (hbw.cell (World.block_lt_of_cell? w _ HCs.out)).trans HCs.out
        clear hbw HR8 HB8
        go_quiet ((go_at_call 13; with_reducible exact Calls.quiet_of_same (HSl.out _)))
        have HC9 := Aside0.mk (HC8.out.below (⟨rfl, rfl, rfl, Nat.le_refl _, fun _ _ => rfl⟩ : Below w8.heap.size w8 (w8.drewN nq)))
        clear HC8 e1 e2
        go_wp2_with (first
          | (go_at_call 11; (refine (HD2.out _ _ _ HC9.out).mono ?_); rintro e w10 ⟨rfl, HC10, hfr, _⟩; (try have hx10 := (World.cell?_of_block (a := ⟨q8, 0, none⟩) (hfr.out q8 HQb.out)).trans hx8); clear hfr HC9)
          | (go_at_call 10; (refine (noneWrong HXr.out HC10.out).mono ?_); rintro e w11 ⟨A11, c11, rfl, HC11, _⟩; clear HC10))
        go_ret
        exact ⟨rfl, Below.trans HB0.out (HC11.out.bel.mono (Nat.le_of_lt HS0.out))⟩)
end Go.Proofs.Ytfdeaepelhbhiaa.M
