/- The walk of CellsHands: what is handed in and out can be changed by who has it; the page hears nothing of it. -/
import Derived.Test.YtfdeaepelhbhiaaWalkTorn
namespace Go.Proofs.Ytfdeaepelhbhiaa.M
open Go.RowKit Go.Proofs.YtfdeaepelhbhiaaW.PrintWords Go.Proofs.YtfdeaepelhbhiaaW.PrintLast Go.Proofs.YtfdeaepelhbhiaaW.PrintMore Go.Proofs.Ytfdeaepelhbhiaa.Rw Go.Proofs.Ytfdeaepelhbhiaa.Fl
set_option linter.unusedVariables false
set_option linter.unusedSimpArgs false
/-- a block whose first n values are symbols -/
def Ub (W : World) (q n : Nat) : Prop := ∃ cur : Array Value, W.heap[q]? = some (.cells cur 26 (0, 0)) ∧ n ≤ cur.size ∧ ∀ i, i < n → ∃ x : Int, cur[i]? = some (.int .u16 x)
section
variable {W W1 : World} {q n : Nat}
theorem Ub.lt (h : Ub W q n) : q < W.heap.size := let ⟨_, h1, _⟩ := h; blk_lt h1
theorem Ub.move (h : Ub W q n) (hm : W1.heap[q]? = W.heap[q]?) : Ub W1 q n := let ⟨c, h1, h2, h3⟩ := h; ⟨c, hm.trans h1, h2, h3⟩
theorem Ub.cell (h : Ub W q n) {i : Nat} (hi : i < n) : ∃ x : Int, W.cell? ⟨q, i, none⟩ = some (.int .u16 x) := by
  obtain ⟨c, h1, h2, h3⟩ := h
  obtain ⟨x, hx⟩ := h3 i hi
  exact ⟨x, (blk_cell h1 i).trans hx⟩
theorem Ub.frozen (h : Ub W q n) (i : Nat) : W.frozen? ⟨q, i, none⟩ = false := let ⟨_, h1, _⟩ := h; blk_frozen h1 i
theorem Ub.set (h : Ub W q n) (i : Nat) (y : Int) : Ub (W.setCell ⟨q, i, none⟩ (.int .u16 y)) q n := by
  obtain ⟨c, h1, h2, h3⟩ := h
  refine ⟨c.setIfInBounds i (.int .u16 y), blk_put h1 i (.int .u16 y) rfl, by simpa using h2, fun j hj => ?_⟩
  rw [Array.getElem?_setIfInBounds]
  by_cases e : i = j
  · subst e; rw [if_pos rfl, if_pos (by omega)]; exact ⟨y, rfl⟩
  · rw [if_neg e]; exact h3 j hj
theorem ub_of {v : Value} {base : Nat} {ok : Nat → Prop} {xs : List Int} (h : Kd.R (Kd.int .u16) 26 W base ok v xs) (hl : xs.length = n) (hp : 0 < n) : ∃ q c, v = .slice (some ⟨q, 0, none⟩) n c ∧ n ≤ c ∧ base ≤ q ∧ Ub W q n ∧ Kd.C (Kd.int .u16) W (some ⟨q, 0, none⟩) xs.length xs := by
  obtain ⟨A, c, e⟩ := Kd.R_slice h
  have hr := Kd.R_reads' (e ▸ h)
  have ho := Kd.own_of_R h
  rcases ho.2 with ⟨_, hz⟩ | ⟨q, cap, cur, hv, hb, hh, hnc, _, hcs, ht⟩
  · omega
  · rw [e] at hv
    simp at hv
    obtain ⟨hv, hcc⟩ := hv
    subst hv
    refine ⟨q, c, by rw [e, hl], by rw [hcc, ← hl]; exact hnc, hb, ⟨cur, hh, by rw [hcs, ← hl]; show xs.length ≤ cap * 1; omega, fun i hi => ?_⟩, hr.2.2⟩
    obtain ⟨ad, e2, hx⟩ := at_num hr.2.2 i (by omega)
    cases e2
    have e4 : (Addr.add ⟨q, 0, none⟩ i) = ⟨q, i, none⟩ := by simp [Addr.add]; intro h9; omega
    rw [e4, blk_cell hh i] at hx
    exact ⟨_, hx⟩
end
/-- a whole page out of a row of the call's own -/
theorem handC {w0 W : World} {c n g b q : Nat} {l S : List Int} (hl : l.length = n) (hp : 0 < n) (hx : ∀ j, j < l.length → 0 ≤ l.getD j 0 ∧ l.getD j 0 < 1024) (hc : Cw w0 W g b (List.replicate n (0, 0)) S 0) (hC : Kd.C (Kd.int .u16) W (some ⟨q, 0, none⟩) l.length l) (hcap : n ≤ c) (hqb : q ≠ b) (hqg : q ≠ g) :
    Calls Try.prog 9 #[.pointer (some ⟨g, 0, none⟩), .slice (some ⟨q, 0, none⟩) n c, .int .i64 (n : Int)] W fun e w' => e = .returned (.int .i64 0) ∧ Aside0 (Cw w0 w' g b (l.map ofPt) l 1) ∧ Aside0 (∀ k, k < W.heap.size → k ≠ g → k ≠ b → w'.heap[k]? = W.heap[k]?) ∧ Aside0 (∀ q, q < W.heap.size → NoQ w' g q) := by
  have hpr := cwProg hc (some ⟨q, 0, none⟩) c hC (by rw [hl]; exact hcap) (by rw [hl, List.length_replicate]) (by rw [List.length_replicate]; exact hp) hx (by intro ad e; cases e; exact ⟨hqb, hqg⟩) (n : Int) n 1 (by rw [List.length_replicate, if_neg (show ¬ (n : Int) < 0 by omega), if_pos (Int.le_refl _)]) (by rw [List.length_replicate, if_neg (show ¬ (n : Int) ≤ 0 by omega), if_pos (Int.le_refl _)])
  have e := progL_all (P := List.replicate n (0, 0)) (S := l) (by rw [hl, List.length_replicate])
  rw [List.length_replicate] at e
  rw [e, hl] at hpr
  exact hpr.mono fun e w' ⟨h1, h2, h3, _, h5⟩ => ⟨h1, h2, h3, h5⟩
section
attribute [local go_sem] run_store_complex
set_option maxHeartbeats 12800000 in
set_option maxRecDepth 100000 in
theorem hands_walk (A0 : Option Addr) (c0 : Nat) (l0 : List (Int)) (w : World) (r0 : Kd.C (Kd.int .u16) w A0 l0.length l0) (k0 : l0.length ≤ c0) (m0 : l0.length ≤ maxLen) (y0 : l0.length * 2 ≤ 140737488351232) (g0 : ∀ y ∈ l0, (Lit.int .u16 y).wf = true) :
    Calls Try.prog 4 #[.slice A0 l0.length c0] w fun e w' => e = .returned (.bool true) ∧ Below w.heap.size w w' := by
  have hlow : ∀ j, j < l0.length → 0 ≤ l0.getD j 0 := fun j hj => (bounds_u16 (g0 _ (mem_getD 0 hj))).1
  have hm63 : l0.length ≤ 9223372036854775807 := by omega
  obtain ⟨n, hn⟩ : ∃ n, l0.length = n := ⟨_, rfl⟩
  have HR := Aside0.mk r0
  have HLow := Aside0.mk hlow
  have HN := Aside0.mk hn
  rw [hn] at k0 hm63 ⊢
  have HB0 := Aside0.mk (Below.refl w.heap.size w)
  clear r0 hlow hn m0 y0 g0
  by_cases n0 : n = 0
  · subst n0
    go_enter Try.func4, Try.ntmps4
    go_wp2_with (first | (go_at_call 7; (refine (awakeC _).mono ?_); rintro e w2 ⟨rfl, hb⟩; have HB := Aside0.mk (below_step HB0.out hb); clear hb))
    go_ret
    exact ⟨rfl, HB.out⟩
  by_cases n300 : (300 : Int) < (n : Int)
  · have n0b : ((n : Int) == 0) = false := beq_eq_false_iff_ne.2 (by omega)
    have d300 : decide ((300 : Int) < (n : Int)) = true := decide_eq_true n300
    go_enter Try.func4, Try.ntmps4
    go_wp2_with (first | (go_at_call 7; (refine (awakeC _).mono ?_); rintro e w2 ⟨rfl, hb⟩; have HB := Aside0.mk (below_step HB0.out hb); clear hb))
    go_ret
    exact ⟨rfl, HB.out⟩
  have n0b : ((n : Int) == 0) = false := beq_eq_false_iff_ne.2 (by omega)
  have d300 : decide ((300 : Int) < (n : Int)) = false := decide_eq_false n300
  have hin : Inp w A0 c0 n l0 := ⟨HR.out, HN.out, k0, by omega, by omega, fun j hj => HLow.out j (by rw [HN.out]; exact hj)⟩
  have HIn := Aside0.mk hin
  have np : 0 < n := by omega
  have nt : n ≤ 300 := by omega
  clear hin n0 n300 HR HLow HN
  go_enter Try.func4, Try.ntmps4
  go_wp2_with (first | (go_at_call 7; (refine (awakeC _).mono ?_); rintro e w2 ⟨rfl, hb⟩; have HB := Aside0.mk hb; clear hb))
  go_loopw [3] (fun v7 wr => ∃ i : Nat, i ≤ n ∧ v7 = .int .i64 (i : Int) ∧ Aside0 (Below w.heap.size w wr) ∧ Aside0 (∀ j, j < i → l0.getD j 0 < 1024)) (fun v7 _ => n - (intOf v7).toNat)
  case atStart => exact ⟨0, Nat.zero_le _, rfl, HB, ⟨fun j hj => absurd hj (Nat.not_lt_zero _)⟩⟩
  case round =>
    clear HB
    obtain ⟨i, hi, rfl, HB, HPre⟩ := hrel
    by_cases ci : i < n
    · have cii : (i : Int) < (n : Int) := by omega
      obtain ⟨ad, e1, hx⟩ := at_num HIn.out.C i (by rw [HIn.out.len]; exact ci)
      cases e1
      have hbw := HB.out
      replace hx := (hbw.cell (World.block_lt_of_cell? w _ hx)).trans hx
      obtain ⟨x, hx0⟩ : ∃ x, l0.getD i 0 = x := ⟨_, rfl⟩
      rw [hx0] at hx
      have HBw := Aside0.mk hbw
      clear hbw
      by_cases c : 1024 ≤ x
      · have cb : decide (1024 ≤ x) = true := decide_eq_true c
        clear c hx0
        go_wp2
        go_ret
        exact ⟨rfl, HBw.out⟩
      · have cb : decide (1024 ≤ x) = false := decide_eq_false c
        have HPre2 : Aside0 (∀ j, j < i + 1 → l0.getD j 0 < 1024) := ⟨fun j hj => by
          by_cases e : j = i
          · subst e; rw [hx0]; omega
          · exact HPre.out j (by omega)⟩
        clear c hx0
        go_wp2
        go_roundw
        case rel => exact ⟨i + 1, ci, rfl, HB, HPre2⟩
        case measure => simp [intOf]; omega
    · obtain rfl : i = n := by omega
      clear ci hi
      have HAll := HPre
      clear HPre
      have hxr : ∀ j, j < l0.length → 0 ≤ l0.getD j 0 ∧ l0.getD j 0 < 1024 := fun j hj => ⟨HIn.out.low j (by rw [← HIn.out.len]; exact hj), HAll.out j (by rw [← HIn.out.len]; exact hj)⟩
      have HXr := Aside0.mk hxr
      clear hxr HAll
      have hnn : (if (i : Int) < 0 then 0 else (i : Int)) = (i : Int) := if_neg (by omega)
      have HNN := Aside0.mk hnn
      have HE := Aside0.mk (empty_row (ok := fun _ => True) (blk_new wr (.cells #[] 26 (0, 0))) (Nat.le_refl _) trivial)
      have hCr := Kd.C_below HIn.out.C (below_step HB.out (below_alloc (Below.refl wr.heap.size wr) (.cells #[] 26 (0, 0))))
      rw [HIn.out.len] at hCr
      have HCr := Aside0.mk hCr
      have HBa := Aside0.mk (below_alloc (Below.refl wr.heap.size wr) (.cells #[] 26 (0, 0)))
      clear hnn hCr
      go_upto_region 14 with (first
        | ((with_reducible refine gate_builtin (b := .append) (xs := #[.tmp 32, .tmp 33]) rfl ?_); at_builtin; refine Kd.R_append_rows (Kd.int .u16) (w0 := wr) wr.heap.size rfl (.tmp 32) (.tmp 33) 22 26 (.int .u16 0) 2 rfl Try.underlying22 info26 rfl (by decide) (by omega) (.slice (some ⟨wr.heap.size, 0, none⟩) 0 0) [] l0 A0 i c0 (fun _ => True) (fun _ => False) rfl rfl HE.out HCr.out (fun _ _ hh => hh) (fun _ hk => hk.elim) (fun _ _ => trivial) HBa.out (by simp) (by simp; omega) ?_; intro v1 w1 hR hB1 _ _; rw [List.nil_append] at hR; obtain ⟨q, c1, e1, hc1, hq1, hUb, hCq⟩ := ub_of hR HIn.out.len np; subst e1; have HUb := Aside0.mk hUb; have HCq := Aside0.mk hCq; have HB1 := Aside0.mk (below_step HB.out hB1); have HQ1 := Aside0.mk hq1; have HQl := Aside0.mk hUb.lt; clear hR hB1 hUb hCq hq1)
        | (go_at_call 8; (refine (cwNew (w0 := w) (i : Int) i HNN.out (by omega) HB1.out).mono ?_); rintro e w3 ⟨g, b, rfl, HC, HB3, hg3, hb3⟩; have HCq3 := Aside0.mk (Kd.C_below HCq.out HB3.out); have HUb3 := Aside0.mk (HUb.out.move (HB3.out.block q HQl.out)); have HQg := Aside0.mk (show q ≠ g from Nat.ne_of_lt (Nat.lt_of_lt_of_le HQl.out hg3)); have HQb := Aside0.mk (show q ≠ b from Nat.ne_of_lt (Nat.lt_of_lt_of_le HQl.out hb3)); have HQ3 := Aside0.mk (Nat.lt_of_lt_of_le HQl.out HB3.out.size); clear HB1 HUb HCq hg3 hb3 HB3)
        | (go_at_call 9; (refine (handC HIn.out.len np HXr.out HC.out HCq3.out hc1 HQb.out HQg.out).mono ?_); rintro e w4 ⟨rfl, HC4, hf4, hn4⟩; have HUb4 := Aside0.mk (HUb3.out.move (hf4.out q HQ3.out HQg.out HQb.out)); have HNq := Aside0.mk (hn4.out q HQ3.out); clear HC HCq3 HUb3 HQ3 hf4 hn4))
      have HQw : Aside0 (w.heap.size ≤ q) := ⟨Nat.le_trans HB.out.size HQ1.out⟩
      clear HB HE HCr HBa HQ1 HQl
      go_wp2
      go_loopw [6] (fun v6 wx => ∃ j : Nat, j ≤ i ∧ v6 = .int .i64 (j : Int) ∧ Aside0 (Cw w wx g b (l0.map ofPt) l0 1) ∧ Aside0 (Ub wx q i) ∧ Aside0 (NoQ wx g q)) (fun v6 _ => i - (intOf v6).toNat)
      case atStart => exact ⟨0, Nat.zero_le _, rfl, HC4, HUb4, HNq⟩
      case round =>
        clear HC4 HUb4 HNq
        obtain ⟨j, hj, rfl, HC5, HUb5, HNq5⟩ := hrel
        by_cases cj : j < i
        · have cjj : (j : Int) < (i : Int) := by omega
          obtain ⟨x, hx⟩ := HUb5.out.cell cj
          have hf := HUb5.out.frozen j
          have hcap : i ≤ c1 := hc1
          obtain ⟨y, hy⟩ : ∃ y, bits .xor .u16 x 1 = y := ⟨_, rfl⟩
          have HC6 := Aside0.mk (HC5.out.far (p := ⟨q, j, none⟩) HQg.out HQb.out HQw.out HNq5.out (.int .u16 y))
          have HUb6 := Aside0.mk (HUb5.out.set j y)
          have HNq6 := Aside0.mk (HNq5.out.same (Below.heap_setCell wr ⟨q, j, none⟩ (.int .u16 y) g HQg.out.symm))
          go_wp2
          go_roundw
          case rel => exact ⟨j + 1, cj, rfl, HC6, HUb6, HNq6⟩
          case measure => simp [intOf]; omega
        · obtain rfl : j = i := by omega
          clear cj HUb5 HNq5 HQg HQb HQw
          have hlm : (l0.map ofPt).length = j := by rw [List.length_map]; exact HIn.out.len
          have HLm := Aside0.mk hlm
          clear hlm
          have HSe : Aside0 (∀ W, Cw w W g b (l0.map ofPt) l0 1 → Calls Try.prog 12 #[.pointer (some ⟨g, 0, none⟩)] W fun e w' => ∃ q c, e = .returned (.slice (some ⟨q, 0, none⟩) j c) ∧ j ≤ c ∧ W.heap.size ≤ q ∧ Aside0 (Vec w' q (l0.map ofPt)) ∧ Aside0 (Below W.heap.size W w')) := ⟨fun W h => by
            have h1 := cwSense h (by rw [HLm.out]; exact np)
            rw [HLm.out] at h1; exact h1⟩
          go_upto_region 19 with (first
            | (go_at_call 12; (refine (HSe.out _ HC5.out).mono ?_); rintro e w7 ⟨q7, c7, rfl, hc7, hq7, HV7, HB7⟩; have HC7 := Aside0.mk (HC5.out.below HB7.out); have HLt := Aside0.mk HC5.out.lts; have HQ7 := Aside0.mk hq7; have HNq7 : Aside0 (NoQ w7 g q7) := ⟨by obtain ⟨⟨sv, hI⟩, _⟩ := HC5.out; exact (noq_fresh hI hq7).same (HB7.out.block g HLt.out.2.2.1)⟩; clear HC5 HB7 hq7))
          have HQg7 := Aside0.mk (show q7 ≠ g from Nat.ne_of_gt (Nat.lt_of_lt_of_le HLt.out.2.2.1 HQ7.out))
          have HQb7 := Aside0.mk (show q7 ≠ b from Nat.ne_of_gt (Nat.lt_of_lt_of_le HLt.out.2.2.2 HQ7.out))
          have HQw7 := Aside0.mk (show w.heap.size ≤ q7 from Nat.le_trans HLt.out.1 (Nat.le_trans (Nat.le_of_lt HLt.out.2.2.1) HQ7.out))
          have HV7e : Aside0 (∃ P', Vec w7 q7 P' ∧ P'.length = j) := ⟨_, HV7.out, HLm.out⟩
          clear HLt HQ7 HV7
          go_wp2
          go_loopw [8] (fun v8 wr => ∃ m : Nat, m ≤ j ∧ v8 = .int .i64 (m : Int) ∧ Aside0 (Cw w wr g b (l0.map ofPt) l0 1) ∧ Aside0 (∃ P', Vec wr q7 P' ∧ P'.length = j) ∧ Aside0 (NoQ wr g q7)) (fun v8 _ => j - (intOf v8).toNat)
          case atStart => exact ⟨0, Nat.zero_le _, rfl, HC7, HV7e, HNq7⟩
          case round =>
            clear HC7 HV7e HNq7
            obtain ⟨m, hm, rfl, HC8, HV8, HNq8⟩ := hrel
            by_cases cm : m < j
            · have cmm : (m : Int) < (j : Int) := by omega
              obtain ⟨P', hV8, hl8⟩ := HV8.out
              have hx := hV8.cell (i := m) (by omega)
              have hf := hV8.frozen m
              have HC9 := Aside0.mk (HC8.out.far (p := ⟨q7, m, none⟩) HQg7.out HQb7.out HQw7.out HNq8.out (.complex .f64 0 0))
              have HV9 : Aside0 (∃ P', Vec (wr.setCell ⟨q7, m, none⟩ (.complex .f64 0 0)) q7 P' ∧ P'.length = j) := ⟨P'.set m (0, 0), by rw [← ptV_zero]; exact hV8.set m (0, 0), by rw [List.length_set]; exact hl8⟩
              have HNq9 := Aside0.mk (HNq8.out.same (Below.heap_setCell wr ⟨q7, m, none⟩ (.complex .f64 0 0) g HQg7.out.symm))
              clear hV8 hl8 HC8 HV8 HNq8
              go_wp2
              go_roundw
              case rel => exact ⟨m + 1, cm, rfl, HC9, HV9, HNq9⟩
              case measure => simp [intOf]; omega
            · obtain rfl : m = j := by omega
              clear cm HV8 HNq8 HQg7 HQb7 HQw7
              go_upto_region 24 with (first
                | (go_at_call 12; (refine (HSe.out _ HC8.out).mono ?_); rintro e w9 ⟨q9, c9, rfl, hc9, hq9, HV9, HB9⟩; have HC9 := Aside0.mk (HC8.out.below HB9.out); clear HC8 HB9 hq9))
              go_wp2
              go_loopw [10] (fun v10 wr => ∃ t : Nat, t ≤ m ∧ v10 = .int .i64 (t : Int) ∧ Aside0 (Cw w wr g b (l0.map ofPt) l0 1) ∧ Aside0 (Vec wr q9 (l0.map ofPt))) (fun v10 _ => m - (intOf v10).toNat)
              case atStart => exact ⟨0, Nat.zero_le _, rfl, HC9, HV9⟩
              case round =>
                clear HC9 HV9
                obtain ⟨t, ht, rfl, HC10, HV10⟩ := hrel
                by_cases ct : t < m
                · have ctt : (t : Int) < (m : Int) := by omega
                  obtain ⟨ad, e1, hx⟩ := at_num HIn.out.C t (by rw [HIn.out.len]; exact ct)
                  cases e1
                  replace hx := (HC10.out.bel.cell (World.block_lt_of_cell? w _ hx)).trans hx
                  have hp := HV10.out.cell (i := t) (by rw [HLm.out]; exact ct)
                  rw [pt_getD (by rw [HIn.out.len]; exact ct)] at hp
                  obtain ⟨s, hs⟩ : ∃ s, l0.getD t 0 = s := ⟨_, rfl⟩
                  have hr := HXr.out t (by rw [HIn.out.len]; exact ct)
                  rw [hs] at hx hp hr
                  have hof := refOfC s hr.1 hr.2
                  have hsm := pt_small hr.1 hr.2
                  unfold ptV at hof hp
                  have ox := ord_eq (ord_int (a := (ofPt s).1) (b := (ofPt s).1) (by omega) (by omega)) rfl
                  have oy := ord_eq (ord_int (a := (ofPt s).2) (b := (ofPt s).2) (by omega) (by omega)) rfl
                  have HOf := Aside0.mk hof
                  generalize fd (ofPt s).1 0 = X at *
                  generalize fd (ofPt s).2 0 = Y at *
                  clear hof hsm hr hs
                  go_upto_region 27 with (fail)
                  go_quiet ((go_at_call 14; with_reducible exact Calls.quiet_of_same (HOf.out _)))
                  have hbq : Below wr.heap.size wr (wr.drewN nq) := ⟨rfl, rfl, rfl, Nat.le_refl _, fun _ _ => rfl⟩
                  have HC11 := Aside0.mk (HC10.out.below hbq)
                  have HV11 := Aside0.mk (HV10.out.below hbq)
                  clear hbq HC10 HV10
                  go_wp2
                  go_roundw
                  case rel => exact ⟨t + 1, ct, rfl, HC11, HV11⟩
                  case measure => simp [intOf]; omega
                · obtain rfl : t = m := by omega
                  go_wp2_with (first
                    | (go_at_call 10; (refine (noneWrong HXr.out HC10.out).mono ?_); rintro e w11 ⟨A11, c11, rfl, HC11, _⟩; clear HC10))
                  go_ret
                  exact ⟨rfl, HC11.out.bel⟩
end
end Go.Proofs.Ytfdeaepelhbhiaa.M
