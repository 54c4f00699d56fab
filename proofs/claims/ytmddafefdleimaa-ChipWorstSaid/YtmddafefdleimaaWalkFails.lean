/- The walk of ChipFails: what fails leaves blank cells; a block breaks. -/
import Derived.Test.YtmddafefdleimaaWalkPower
import Derived.Test.YtmddafefdleimaaWalkOrder
namespace Go.Proofs.Ytmddafefdleimaa.M
open Go.RowKit Go.Proofs.YtmddafefdleimaaW.PrintWords Go.Proofs.YtmddafefdleimaaW.PrintLast Go.Proofs.YtmddafefdleimaaW.PrintMore Go.Proofs.Ytmddafefdleimaa.Rw Go.Proofs.Ytmddafefdleimaa.Fl Go.Maps
set_option linter.unusedVariables false
set_option linter.unusedSimpArgs false
theorem bounds16 {a : Int} (h : (Lit.int .u16 a).wf = true) : 0 ≤ a ∧ a ≤ 65535 := by
  simp only [Lit.wf, Bool.and_eq_true, decide_eq_true_eq] at h
  exact h
theorem refOf2 (s : Int) (h0 : 0 ≤ s) (h1 : s ≤ 65535) (w : World) : Calls Try.prog 18 #[.int .u16 s] w fun e w' => e = .returned (ptV (ofPt (s % 1024))) ∧ w' = w := by
  have ha := and1023 h0 h1
  obtain ⟨t, ht⟩ : ∃ t, s % 1024 = t := ⟨_, rfl⟩
  rw [ht] at ha ⊢
  have t0 : 0 ≤ t := by omega
  have t1 : t < 1024 := by omega
  have hb := and31 t0 (by omega : t < 65536)
  have f1 := fd_int (2 * (t / 32) - 31)
  have f2 := fd_int (2 * (t % 32) - 31)
  have q0 : 0 ≤ t / 32 := by omega
  have q1 : t / 32 ≤ 31 := by omega
  have q2 : 0 ≤ t % 32 := by omega
  have q3 : t % 32 ≤ 31 := by omega
  unfold ptV ofPt
  simp only
  clear ht h0 h1
  generalize fd (2 * (t / 32) - 31) 0 = X at *
  generalize fd (2 * (t % 32) - 31) 0 = Y at *
  go_enter Try.func18, Try.ntmps18
  go_wp2
  go_ret
  exact ⟨rfl, rfl⟩
/-- a row filled as far as i -/
def fill (n : Nat) (x : Int) (i : Nat) : List Int := List.replicate i x ++ List.replicate (n - i) 0
theorem fill_len {n i : Nat} {x : Int} (h : i ≤ n) : (fill n x i).length = n := by unfold fill; simp; omega
theorem fill_zero (n : Nat) (x : Int) : fill n x 0 = List.replicate n 0 := by unfold fill; simp
theorem fill_all (n : Nat) (x : Int) : fill n x n = List.replicate n x := by unfold fill; simp
theorem fill_set {n i : Nat} {x : Int} (h : i < n) : (fill n x i).set i x = fill n x (i + 1) := by
  unfold fill
  rw [List.set_append_right _ _ (by simp), List.length_replicate, Nat.sub_self, show n - i = (n - (i + 1)) + 1 from by omega, List.replicate_succ, List.set_cons_zero, List.replicate_succ', List.append_assoc]
  rfl
/-- of the first i cells those that are blank (from k on) and of codeword v -/
def cntB (k W v i : Nat) : Nat := ((List.range i).filter fun j => decide (k ≤ j ∧ j % W = v)).length
theorem cntB_succ (k W v i : Nat) : cntB k W v (i + 1) = cntB k W v i + if k ≤ i ∧ i % W = v then 1 else 0 := by
  unfold cntB
  rw [List.range_succ, List.filter_append, List.length_append]
  by_cases h : k ≤ i ∧ i % W = v
  · simp [h]
  · rw [if_neg h]; simp [h]
theorem cntB_mono (k W v i : Nat) : ∀ d, cntB k W v i ≤ cntB k W v (i + d)
  | 0 => Nat.le_refl _
  | d + 1 => Nat.le_trans (cntB_mono k W v i d) (by rw [show i + (d + 1) = (i + d) + 1 from rfl, cntB_succ]; exact Nat.le_add_right _ _)
theorem cntB_block {k W v i : Nat} (hk : k ≤ i) (hv : v < W) : cntB k W v i + 1 ≤ cntB k W v (i + W) := by
  obtain ⟨d, hd, he⟩ : ∃ d, d < W ∧ (i + d) % W = v := by
    refine ⟨(v + W - i % W) % W, Nat.mod_lt _ (by omega), ?_⟩
    have h1 : i % W < W := Nat.mod_lt _ (by omega)
    have h2 : i = W * (i / W) + i % W := (Nat.div_add_mod i W).symm
    by_cases h3 : i % W ≤ v
    · have : (v + W - i % W) % W = v - i % W := by
        rw [show v + W - i % W = (v - i % W) + W from by omega, Nat.add_mod_right]
        exact Nat.mod_eq_of_lt (by omega)
      rw [this, Nat.add_mod, Nat.mod_eq_of_lt (show v - i % W < W by omega), show i % W + (v - i % W) = v from by omega]
      exact Nat.mod_eq_of_lt hv
    · have : (v + W - i % W) % W = v + W - i % W := Nat.mod_eq_of_lt (by omega)
      rw [this, Nat.add_mod, Nat.mod_eq_of_lt (show v + W - i % W < W by omega), show i % W + (v + W - i % W) = v + W from by omega, Nat.add_mod_right]
      exact Nat.mod_eq_of_lt hv
  have h1 := cntB_mono k W v i d
  have h2 := cntB_succ k W v (i + d)
  rw [if_pos ⟨by omega, he⟩] at h2
  have h3 := cntB_mono k W v (i + d + 1) (W - (d + 1))
  rw [show i + d + 1 + (W - (d + 1)) = i + W from by omega] at h3
  omega
theorem cntB_many {k W v : Nat} (hv : v < W) : ∀ t, t ≤ cntB k W v (k + t * W)
  | 0 => Nat.zero_le _
  | t + 1 => by
    have h1 := cntB_many (k := k) hv t
    have h2 := cntB_block (k := k) (i := k + t * W) (by omega) hv
    rw [show k + (t + 1) * W = k + t * W + W from by rw [Nat.add_mul, Nat.one_mul]; omega]
    omega
theorem cntB_nine {k W v n : Nat} (hv : v < W) (hk : k + 9 * W ≤ n) : 9 ≤ cntB k W v n := by
  have h1 := cntB_many (k := k) hv 9
  have h2 := cntB_mono k W v (k + 9 * W) (n - (k + 9 * W))
  rw [show k + 9 * W + (n - (k + 9 * W)) = n from by omega] at h2
  omega
theorem cntB_le (k W v i : Nat) : cntB k W v i ≤ i := by
  unfold cntB
  exact Nat.le_trans (List.length_filter_le _ _) (by simp)
def cntL (k W i : Nat) : List Int := (List.range W).map fun v => (cntB k W v i : Int)
theorem cntL_len (k W i : Nat) : (cntL k W i).length = W := by simp [cntL]
theorem cntL_zero (k W : Nat) : cntL k W 0 = List.replicate W 0 := by
  apply List.ext_getElem
  · simp [cntL]
  · intro v h1 h2; simp [cntL, cntB]
theorem cntL_at {k W i v : Nat} (hv : v < W) : (cntL k W i).getD v 0 = (cntB k W v i : Int) := by
  rw [List.getD_eq_getElem?_getD]; simp [cntL, hv]
theorem cntL_no {k W i : Nat} (h : ¬ k ≤ i) : cntL k W (i + 1) = cntL k W i := by
  unfold cntL
  exact List.map_congr_left fun v _ => by rw [cntB_succ, if_neg (fun e => h e.1), Nat.add_zero]
theorem cntL_yes {k W i : Nat} (h : k ≤ i) (hW : 0 < W) : (cntL k W i).set (i % W) ((cntB k W (i % W) i : Int) + 1) = cntL k W (i + 1) := by
  have hm := Nat.mod_lt i hW
  apply List.ext_getElem
  · simp [cntL]
  · intro v h1 h2
    rw [List.getElem_set]
    by_cases e : i % W = v
    · rw [if_pos e]; subst e; simp [cntL, cntB_succ, h]
    · rw [if_neg e]; simp [cntL, cntB_succ, e]
theorem next_zero (Pn : Nat) : Next (fun _ => (0 : Int)) Pn 0 := ⟨fun _ _ _ => rfl, .inl rfl⟩
set_option maxHeartbeats 6400000 in
set_option maxRecDepth 100000 in
theorem fails_walk (a0_0 : Int) (a0_1 : Int) (a0_2 : Int) (a0_3 : Int) (a1 : Int) (a2 : Int) (w : World) (wa0_0 : (Lit.int .i64 a0_0).wf = true) (wa0_1 : (Lit.int .i64 a0_1).wf = true) (wa0_2 : (Lit.int .i64 a0_2).wf = true) (wa0_3 : (Lit.int .i64 a0_3).wf = true) (w1 : (Lit.int .u16 a1).wf = true) (w2 : (Lit.int .u16 a2).wf = true) :
    Calls Try.prog 4 #[.agg #[.int .i64 a0_0, .int .i64 a0_1, .int .i64 a0_2, .int .i64 a0_3], .int .u16 a1, .int .u16 a2] w fun e w' => e = .returned (.bool true) ∧ Below w.heap.size w w' := by
  have b1 := bounds16 w1
  have b2 := bounds16 w2
  clear wa0_0 wa0_1 wa0_2 wa0_3 w1 w2
  have HB0 := Aside0.mk (below_alloc (Below.refl w.heap.size w) (.cells #[.int .i64 a0_0, .int .i64 a0_1, .int .i64 a0_2, .int .i64 a0_3] 23 (0, 0)))
  have HN0 := Aside0.mk (blk_new w (.cells #[.int .i64 a0_0, .int .i64 a0_1, .int .i64 a0_2, .int .i64 a0_3] 23 (0, 0)))
  by_cases hM : MayG a0_0 a0_1 a0_2 a0_3
  · by_cases hS : a0_0 * a0_1 * (a0_2 * (a0_3 + 16)) ≤ 20000
    · have HMay := Aside0.mk (fun W => refMayC (a := a0_0) (b := a0_1) (c := a0_2) (d := a0_3) W true ⟨fun _ => rfl, fun _ => hM⟩)
      have HSm := Aside0.mk (fun W => smallC W hM true (decide_eq_true hS))
      obtain ⟨Bn, rfl⟩ : ∃ Bn : Nat, a0_0 = (Bn : Int) := ⟨a0_0.toNat, by have := hM.a0; omega⟩
      obtain ⟨Pn, rfl⟩ : ∃ Bn : Nat, a0_1 = (Bn : Int) := ⟨a0_1.toNat, by have := hM.b0; omega⟩
      obtain ⟨Wn, rfl⟩ : ∃ Bn : Nat, a0_2 = (Bn : Int) := ⟨a0_2.toNat, by have := hM.c0; omega⟩
      obtain ⟨Kn, rfl⟩ : ∃ Bn : Nat, a0_3 = (Bn : Int) := ⟨a0_3.toNat, by have := hM.d0; omega⟩
      obtain ⟨n, hn⟩ : ∃ n, Wn * (Kn + 16) = n := ⟨_, rfl⟩
      have hni : (Wn : Int) * ((Kn : Int) + 16) = (n : Int) := by rw [← hn]; push_cast; rfl
      have hnb : n ≤ 320 ∧ 17 ≤ n := by have := room hM; rw [hni] at this; omega
      have hBn : 4 ≤ Bn ∧ Bn ≤ 64 := by have := hM.a0; have := hM.a1; omega
      have hPn : 2 ≤ Pn ∧ Pn ≤ 32 := by have := hM.b0; have := hM.b1; omega
      have HCells := Aside0.mk (fun W => refCellsC (a := Bn) (b := Pn) (c := Wn) (d := Kn) W hM n hni)
      have hmk32 := mk32 n (by omega)
      have hWn : 1 ≤ Wn ∧ Wn ≤ 4 := by have := hM.c0; have := hM.c1; omega
      have hn9 : 9 * Wn ≤ n := by rw [← hn, Nat.mul_comm]; exact Nat.mul_le_mul_left _ (by omega)
      obtain ⟨k, rfl⟩ : ∃ k : Nat, a1 = (k : Int) := ⟨a1.toNat, by omega⟩
      have HNew := Aside0.mk (fun W q (hq : W.heap[q]? = some (.cells #[.int .i64 1, .int .i64 1, .int .i64 (k : Int), .int .i64 3, .int .i64 1, .int .i64 0] 42 (0, 0))) => newCh Bn Pn Wn Kn n hM hn W none 0 [] (Kd.C_nil _ _) (by decide) (by decide) (fun y hy => absurd hy (Nat.not_lt_zero _)) (some ⟨q, 0, none⟩) 2 [((1 : Int), (1 : Int), (k : Int)), ((3 : Int), (1 : Int), (0 : Int))] (C_of_blockF (l := [((1 : Int), (1 : Int), (k : Int)), ((3 : Int), (1 : Int), (0 : Int))]) hq (by simp)) (by simp) ⟨by simp, (fun x hx => by
          have : x = ((1 : Int), (1 : Int), (k : Int)) ∨ x = ((3 : Int), (1 : Int), (0 : Int)) := by simpa using hx
          rcases this with rfl | rfl
          · exact ⟨by show (0 : Int) ≤ 1; decide, by show (1 : Int) ≤ 1099511627776; decide, .inl rfl, by show (0 : Int) ≤ (k : Int); omega⟩
          · exact ⟨by decide, by decide, .inl rfl, by decide⟩), (by simp [Apart])⟩)
      obtain ⟨x, hx⟩ : ∃ x, a2 % 1024 = x := ⟨_, rfl⟩
      have hx0 : 0 ≤ x := by omega
      have hx1 : x < 1024 := by omega
      have hand := and1023 b2.1 b2.2
      rw [hx] at hand
      have HOf := Aside0.mk (fun W => refOf2 a2 b2.1 b2.2 W)
      rw [hx] at HOf
      have hmk34 := mk34c Wn (by omega)
      clear hM hS hn hni hx b2
      unfold geoV at HMay HSm HNew HCells
      have hw1 : IntKind.i64.wrap (k : Int) = (k : Int) := wrap_i64_small _ (by omega) (by omega)
      go_enter Try.func4, Try.ntmps4
      go_upto_region 9 with (first
          | (go_at_call 8; (refine (awakeC _).mono ?_); rintro e w1 ⟨rfl, HB1⟩; have HB2 := Aside0.mk (below_step HB0.out HB1.out); have hb1 := (HB1.out.block _ (blk_lt HN0.out)).trans HN0.out; have HN1 := Aside0.mk hb1; have d0 : w1.cell? ⟨w.heap.size, 0, none⟩ = some (.int .i64 (Bn : Int)) := (blk_cell hb1 0).trans rfl; have d1 : w1.cell? ⟨w.heap.size, 1, none⟩ = some (.int .i64 (Pn : Int)) := (blk_cell hb1 1).trans rfl; have d2 : w1.cell? ⟨w.heap.size, 2, none⟩ = some (.int .i64 (Wn : Int)) := (blk_cell hb1 2).trans rfl; have d3 : w1.cell? ⟨w.heap.size, 3, none⟩ = some (.int .i64 (Kn : Int)) := (blk_cell hb1 3).trans rfl; clear hb1)
          | (go_at_call 9; (refine (HMay.out _).mono ?_); rintro e w3 ⟨rfl, HB3⟩; have HB4 := Aside0.mk (below_step HB2.out HB3.out); have hb3 := (HB3.out.block _ (blk_lt HN1.out)).trans HN1.out; have HN3 := Aside0.mk hb3; have e0 : w3.cell? ⟨w.heap.size, 0, none⟩ = some (.int .i64 (Bn : Int)) := (blk_cell hb3 0).trans rfl; have e1 : w3.cell? ⟨w.heap.size, 1, none⟩ = some (.int .i64 (Pn : Int)) := (blk_cell hb3 1).trans rfl; have e2 : w3.cell? ⟨w.heap.size, 2, none⟩ = some (.int .i64 (Wn : Int)) := (blk_cell hb3 2).trans rfl; have e3 : w3.cell? ⟨w.heap.size, 3, none⟩ = some (.int .i64 (Kn : Int)) := (blk_cell hb3 3).trans rfl; clear hb3)
          | (go_at_call 10; (refine (HSm.out _).mono ?_); rintro e w5 ⟨rfl, HB5⟩; have HB6 := Aside0.mk (below_step HB4.out HB5.out); have hb5 := (HB5.out.block _ (blk_lt HN3.out)).trans HN3.out; have HN5 := Aside0.mk hb5; have f0 : w5.cell? ⟨w.heap.size, 0, none⟩ = some (.int .i64 (Bn : Int)) := (blk_cell hb5 0).trans rfl; have f1 : w5.cell? ⟨w.heap.size, 1, none⟩ = some (.int .i64 (Pn : Int)) := (blk_cell hb5 1).trans rfl; have f2 : w5.cell? ⟨w.heap.size, 2, none⟩ = some (.int .i64 (Wn : Int)) := (blk_cell hb5 2).trans rfl; have f3 : w5.cell? ⟨w.heap.size, 3, none⟩ = some (.int .i64 (Kn : Int)) := (blk_cell hb5 3).trans rfl; clear hb5)
          | (go_at_call 11; have hb6 := blk_alloc HN5.out (.cells #[.int .i64 1, .int .i64 1, .int .i64 (k : Int), .int .i64 3, .int .i64 1, .int .i64 0] 42 (0, 0)); have HBa := Aside0.mk (below_alloc HB6.out (.cells #[.int .i64 1, .int .i64 1, .int .i64 (k : Int), .int .i64 3, .int .i64 1, .int .i64 0] 42 (0, 0))); (refine (HNew.out _ w5.heap.size (blk_new w5 _)).mono ?_); rintro e w7 ⟨s0, rfl, HI7, HB7, HFr⟩; have HL7 := Aside0.mk (Lq.of (qs := [w.heap.size]) HBa.out HI7.out HB7.out HFr.out (fun q hq => by rw [List.mem_singleton.1 hq]; exact blk_lt hb6)); have hb7 := (HB7.out.block _ (blk_lt hb6)).trans hb6; have HN7 := Aside0.mk hb7; have g0 : w7.cell? ⟨w.heap.size, 0, none⟩ = some (.int .i64 (Bn : Int)) := (blk_cell hb7 0).trans rfl; have g1 : w7.cell? ⟨w.heap.size, 1, none⟩ = some (.int .i64 (Pn : Int)) := (blk_cell hb7 1).trans rfl; have g2 : w7.cell? ⟨w.heap.size, 2, none⟩ = some (.int .i64 (Wn : Int)) := (blk_cell hb7 2).trans rfl; have g3 : w7.cell? ⟨w.heap.size, 3, none⟩ = some (.int .i64 (Kn : Int)) := (blk_cell hb7 3).trans rfl; clear hb7 hb6)
          | (go_at_call 12; (refine (HCells.out _).mono ?_); rintro e w9 ⟨rfl, HB9⟩; have HL9 := Aside0.mk (HL7.out.below HB9.out); have HN9 := Aside0.mk (blk_below HN7.out HB9.out)))
      have HA9 := Aside0.mk (HL9.out.alloc (.cells (Array.replicate n (.int .u16 0)) 40 (0, 0)))
      have HR9 := Aside0.mk (made_row (enc := Value.int .u16) (t := 40) w9 n 0)
      have hgb : w.heap.size < w9.heap.size := blk_lt HN9.out
      have HX9 := Aside0.mk (blk_alloc HN9.out (.cells (Array.replicate n (.int .u16 0)) 40 (0, 0)))
      obtain ⟨c, hc⟩ : ∃ c, s0.c = c := ⟨_, rfl⟩
      obtain ⟨base, hba⟩ : ∃ c, (w5.alloc (.cells #[.int .i64 1, .int .i64 1, .int .i64 (k : Int), .int .i64 3, .int .i64 1, .int .i64 0] 42 (0, 0))).heap.size = c := ⟨_, rfl⟩
      obtain ⟨sb, hsb⟩ : ∃ c, w9.heap.size = c := ⟨_, rfl⟩
      rw [hc, hba, hsb] at HA9
      rw [hsb] at HR9 hgb
      rw [hc, hsb]
      obtain ⟨W0, hW0⟩ : ∃ W0, (w9.alloc (.cells (Array.replicate n (.int .u16 0)) 40 (0, 0))) = W0 := ⟨_, rfl⟩
      rw [hW0] at HA9 HR9 HX9 ⊢
      rw [← fill_zero n x] at HR9
      clear hc hba hsb hW0 hw1 b1 hmk32 HMay HSm HNew HCells HB0 HN0 HB1 HB2 HN1 HB3 HB4 HN3 HB5 HB6 HN5 HI7 HB7 HFr HL7 HN7 HB9 HL9 HN9 HBa d0 d1 d2 d3 e0 e1 e2 e3 f0 f1 f2 f3 g0 g1 g2 g3
      have hsw : w.heap.size ≠ sb := Nat.ne_of_lt hgb
      have hws : sb ≠ w.heap.size := fun e => hsw e.symm
      go_wp2
      go_loopw [10] (fun v10 wr => ∃ i : Nat, i ≤ n ∧ v10 = .int .i64 (i : Int) ∧ Aside0 (Lq w wr base c [sb, w.heap.size] Bn Pn Wn Kn n [((1 : Int), (1 : Int), (k : Int)), ((3 : Int), (1 : Int), (0 : Int))] 0 0 false (newN n fun x => decide ((x : Int) ∈ ([] : List Int)))) ∧ Aside0 (Row (Value.int .u16) 40 wr sb (fill n x i)) ∧ Aside0 (wr.heap[w.heap.size]? = some (.cells #[.int .i64 Bn, .int .i64 Pn, .int .i64 Wn, .int .i64 Kn] 23 (0, 0)))) (fun v10 _ => n - (intOf v10).toNat)
      case atStart => exact ⟨0, Nat.zero_le _, rfl, HA9, HR9, HX9⟩
      case round =>
        clear HA9 HR9 HX9
        obtain ⟨i, hi, rfl, HL, HR, HX⟩ := hrel
        by_cases ci : i < n
        · have cii : (i : Int) < (n : Int) := by omega
          have hcl := HR.out.cellD 0 i (by rw [fill_len hi]; exact ci)
          have hfl := HR.out.frozen i
          have HL1 := Aside0.mk (HL.out.far (p := ⟨sb, i, none⟩) List.mem_cons_self (Nat.le_of_lt hgb) (.int .u16 x))
          have HR1 : Aside0 (Row (Value.int .u16) 40 (wr.setCell ⟨sb, i, none⟩ (.int .u16 x)) sb (fill n x (i + 1))) := ⟨by rw [← fill_set ci]; exact HR.out.set i x⟩
          have HX1 := Aside0.mk (blk_far HX.out (p := ⟨sb, i, none⟩) hsw (.int .u16 x))
          clear HL HR HX
          go_wp2
          go_roundw
          case rel => exact ⟨i + 1, ci, rfl, HL1, HR1, HX1⟩
          case measure => simp [intOf]; omega
        · obtain rfl : i = n := by omega
          rw [fill_all] at HR
          have hlr := row_reps_lt (n := i) hx0 hx1
          have HP0 := Aside0.mk (HL.out.progYes 0 0 sb (by omega) (by omega) HR.out List.mem_cons_self (List.length_replicate ..) hlr rfl rfl (by decide) (next_zero Pn) 0 0 false rfl)
          simp only [c0, c1, c2, c3] at HP0
          obtain ⟨y, hy⟩ : ∃ y : Nat, (if (i : Int) - 9 * (Wn : Int) < (k : Int) then (i : Int) - 9 * (Wn : Int) else (k : Int)) = (y : Int) := ⟨((if (i : Int) - 9 * (Wn : Int) < (k : Int) then (i : Int) - 9 * (Wn : Int) else (k : Int))).toNat, by split <;> omega⟩
          have hyn : y + 9 * Wn ≤ i := by split at hy <;> omega
          have hnext : Next (fun y => up2 (fun _ _ => (0 : Int)) 0 0 1 0 y) Pn 1 := by
            refine ⟨fun y h1 h2 => ?_, .inr ?_⟩
            · show (if (0 : Nat) = 0 ∧ y = 0 then (1 : Int) else 0) = 0
              rw [if_neg (by omega)]
            · show (if (0 : Nat) = 0 ∧ 1 - 1 = 0 then (1 : Int) else 0) ≠ 0
              rw [if_pos ⟨rfl, rfl⟩]; decide
          have Hyn := Aside0.mk hyn
          have Hy := Aside0.mk hy
          have Hnext := Aside0.mk hnext
          have Hlr := Aside0.mk hlr
          clear hnext hlr hy
          go_upto_region 14 with (first
            | (go_at_call 14; (with_reducible refine HP0.out.mono ?_); rintro e w3 ⟨rfl, HL3, HK3⟩; have HR3 := Aside0.mk (HK3.out.row HR.out List.mem_cons_self); have HX3 := Aside0.mk (HK3.out.blk HX.out (List.mem_cons_of_mem _ List.mem_cons_self)); clear HP0; have HP1 := Aside0.mk (HL3.out.progFail 0 1 sb (by omega) (by omega) HR3.out List.mem_cons_self (List.length_replicate ..) Hlr.out rfl rfl (by decide) Hnext.out 1 (k : Int) true rfl (y : Int) Hy.out y _ (by rw [if_neg (show ¬ (y : Int) < 0 by omega), if_pos (by omega)]) rfl); simp only [c0, c1, c2, c3] at HP1)
            | (go_at_call 14; (with_reducible refine HP1.out.mono ?_); rintro e w4 ⟨rfl, HL4, HK4⟩; have HR4 := Aside0.mk (HK4.out.row HR3.out List.mem_cons_self); have HX4 := Aside0.mk (HK4.out.blk HX3.out (List.mem_cons_of_mem _ List.mem_cons_self))))
          clear HL HR HX HL3 HK3 HR3 HX3 HP1 HK4 Hnext Hy
          generalize (if (y : Int) ≤ 0 then (0 : Int) else if (i : Int) ≤ (y : Int) then 1 else 2) = st1 at HL4
          have HS1 := Aside0.mk (HL4.out.senseYes 0 1 (by omega) (by omega) (by decide) (0, 0, 0) false rfl (by decide))
          simp only [c0, c1, c2, c3] at HS1
          go_upto_region 15 with (first
            | (go_at_call 17; (with_reducible refine HS1.out.mono ?_); rintro e w5 ⟨q, cc, rfl, hcc, HV, HVl, HQ, HL5, HK5⟩; have HR5 := Aside0.mk (HK5.out.row HR4.out List.mem_cons_self); have HX5 := Aside0.mk (HK5.out.blk HX4.out (List.mem_cons_of_mem _ List.mem_cons_self))))
          clear HL4 HR4 HX4 HS1 HK5
          have HVP : Aside0 (Vec w5 q (progL (List.replicate i (0, 0)) (List.replicate i x) y)) := HV
          have HVn : Aside0 ((progL (List.replicate i (0, 0)) (List.replicate i x) y).length = i) := HVl
          clear HV HVl
          have x2 : w5.cell? ⟨w.heap.size, 2, none⟩ = some (.int .i64 (Wn : Int)) := (blk_cell HX5.out 2).trans rfl
          go_upto_region 16 with (fail)
          have HL6 := Aside0.mk (HL5.out.alloc (.cells (Array.replicate Wn (.int .i64 0)) 3 (0, 0)))
          have HM6 := Aside0.mk (made_row (enc := Value.int .i64) (t := 3) w5 Wn 0)
          have HR6 := Aside0.mk (HR5.out.alloc (.cells (Array.replicate Wn (.int .i64 0)) 3 (0, 0)))
          have HX6 := Aside0.mk (blk_alloc HX5.out (.cells (Array.replicate Wn (.int .i64 0)) 3 (0, 0)))
          have HV6 := Aside0.mk (HVP.out.below (below_alloc (Below.refl _ _) (.cells (Array.replicate Wn (.int .i64 0)) 3 (0, 0))))
          have hql : q < w5.heap.size := HVP.out.lt
          have hsl : sb < w5.heap.size := HR5.out.lt
          have hgl : w.heap.size < w5.heap.size := blk_lt HX5.out
          obtain ⟨mq, hmq⟩ : ∃ c, w5.heap.size = c := ⟨_, rfl⟩
          obtain ⟨W6, hW6⟩ : ∃ W6, (w5.alloc (.cells (Array.replicate Wn (.int .i64 0)) 3 (0, 0))) = W6 := ⟨_, rfl⟩
          rw [hmq] at HL6 HM6 hql hsl hgl ⊢
          rw [hW6] at HL6 HM6 HR6 HX6 HV6 ⊢
          rw [← cntL_zero y Wn] at HM6
          clear hmq hW6 HL5 HR5 HX5 HVP x2 hmk34
          have m1 : q ≠ mq := Nat.ne_of_lt hql
          have m2 : sb ≠ mq := Nat.ne_of_lt hsl
          have m3 : w.heap.size ≠ mq := Nat.ne_of_lt hgl
          go_wp2
          go_loopw [16] (fun v16 wr => ∃ j : Nat, j ≤ i ∧ v16 = .int .i64 (j : Int) ∧ Aside0 (Lq w wr base c [mq, q, sb, w.heap.size] Bn Pn Wn Kn i [((1 : Int), (1 : Int), (k : Int)), ((3 : Int), (1 : Int), (0 : Int))] 3 0 false _) ∧ Aside0 (Row (Value.int .i64) 3 wr mq (cntL y Wn j)) ∧ Aside0 (Row (Value.int .u16) 40 wr sb (List.replicate i x)) ∧ Aside0 (wr.heap[w.heap.size]? = some (.cells #[.int .i64 Bn, .int .i64 Pn, .int .i64 Wn, .int .i64 Kn] 23 (0, 0))) ∧ Aside0 (Vec wr q (progL (List.replicate i (0, 0)) (List.replicate i x) y))) (fun v16 _ => i - (intOf v16).toNat)
          case atStart => exact ⟨0, Nat.zero_le _, rfl, HL6, HM6, HR6, HX6, HV6⟩
          case round =>
            clear HL6 HM6 HR6 HX6 HV6
            obtain ⟨j, hj, rfl, HL, HM, HR, HX, HV⟩ := hrel
            by_cases cj : j < i
            · have cjj : (j : Int) < (i : Int) := by omega
              have hx := HV.out.cell (i := j) (by rw [HVn.out]; exact cj)
              rw [progL_rep (by omega) cj] at hx
              by_cases cy : j < y
              · rw [if_pos cy] at hx
                unfold ptV ofPt at hx
                dsimp only at hx
                have e1 := ord_eqb (ord_int (a := 2 * (x / 32) - 31) (b := 0) (by omega) (by decide))
                rw [fd_zero, decide_eq_false (show ¬ (2 * (x / 32) - 31 = 0) by omega)] at e1
                have HM1 : Aside0 (Row (Value.int .i64) 3 wr mq (cntL y Wn (j + 1))) := ⟨by rw [cntL_no (by omega)]; exact HM.out⟩
                generalize fd (2 * (x / 32) - 31) 0 = xx at hx e1
                generalize fd (2 * (x % 32) - 31) 0 = yy at hx
                clear HM
                go_wp2
                go_roundw
                case rel => exact ⟨j + 1, cj, rfl, HL, HM1, HR, HX, HV⟩
                case measure => simp [intOf]; omega
              · rw [if_neg cy, ptV_zero] at hx
                have e1 := ord_eqb (ord_int (a := 0) (b := 0) (by decide) (by decide))
                rw [fd_zero, show decide ((0 : Int) = 0) = true from rfl] at e1
                have hvW : j % Wn < Wn := Nat.mod_lt _ (by omega)
                have htm : (j : Int).tmod (Wn : Int) = ((j % Wn : Nat) : Int) := by rw [Int.tmod_eq_emod_of_nonneg (by omega)]; rfl
                have hz1 : ((Wn : Int) == 0) = false := beq_eq_false_iff_ne.2 (by omega)
                have hcm := HM.out.cellD 0 (j % Wn) (by rw [cntL_len]; exact hvW)
                rw [cntL_at hvW] at hcm
                have hcb := cntB_le y Wn (j % Wn) j
                have hfm := HM.out.frozen (j % Wn)
                have HM1 : Aside0 (Row (Value.int .i64) 3 (wr.setCell ⟨mq, j % Wn, none⟩ (.int .i64 ((cntB y Wn (j % Wn) j : Int) + 1))) mq (cntL y Wn (j + 1))) := ⟨by rw [← cntL_yes (by omega) (by omega)]; exact HM.out.set _ _⟩
                have HL1 := Aside0.mk (HL.out.far (p := ⟨mq, j % Wn, none⟩) List.mem_cons_self (Nat.le_of_lt hgl) (.int .i64 ((cntB y Wn (j % Wn) j : Int) + 1)))
                have HR1 := Aside0.mk (HR.out.far (p := ⟨mq, j % Wn, none⟩) m2 (.int .i64 ((cntB y Wn (j % Wn) j : Int) + 1)))
                have HX1 := Aside0.mk (blk_far HX.out (p := ⟨mq, j % Wn, none⟩) m3 (.int .i64 ((cntB y Wn (j % Wn) j : Int) + 1)))
                have HV1 := Aside0.mk (HV.out.far (p := ⟨mq, j % Wn, none⟩) m1 (.int .i64 ((cntB y Wn (j % Wn) j : Int) + 1)))
                have x2 : wr.cell? ⟨w.heap.size, 2, none⟩ = some (.int .i64 (Wn : Int)) := (blk_cell HX.out 2).trans rfl
                have hvi : ((j % Wn : Nat) : Int) < (Wn : Int) := by omega
                clear HL HM HR HX HV
                generalize cntB y Wn (j % Wn) j = cb at *
                generalize j % Wn = v at *
                go_wp2
                go_roundw
                case rel => exact ⟨j + 1, cj, rfl, HL1, HM1, HR1, HX1, HV1⟩
                case measure => simp [intOf]; omega
            · obtain rfl : j = i := by omega
              go_wp2
              go_loopw [17] (fun v17 wq => ∃ t : Nat, t ≤ Wn ∧ v17 = .int .i64 (t : Int) ∧ wq = wr) (fun v17 _ => Wn - (intOf v17).toNat)
              case atStart => exact ⟨0, Nat.zero_le _, rfl, rfl⟩
              case round =>
                obtain ⟨t, ht, rfl, rfl⟩ := hrel
                have x2 : wr.cell? ⟨w.heap.size, 2, none⟩ = some (.int .i64 (Wn : Int)) := (blk_cell HX.out 2).trans rfl
                by_cases ct : t < Wn
                · have ctt : (t : Int) < (Wn : Int) := by omega
                  have hcm := HM.out.cellD 0 t (by rw [cntL_len]; exact ct)
                  rw [cntL_at ct] at hcm
                  have h9 := cntB_nine (k := y) ct Hyn.out
                  generalize cntB y Wn t j = cb at *
                  go_wp2
                  go_roundw
                  case rel => exact ⟨t + 1, ct, rfl, by first | rfl | trivial⟩
                  case measure => simp [intOf]; omega
                · obtain rfl : t = Wn := by omega
                  have HE1 := Aside0.mk (HL.out.eraseFail 0 (by omega) rfl rfl (by decide) 3 0 true rfl)
                  simp only [c0, c1, c2, c3] at HE1
                  go_upto_region 27 with (first
                    | (go_at_call 13; (with_reducible refine HE1.out.mono ?_); rintro e w7 ⟨rfl, HL7, HK7⟩))
                  have HR7 := Aside0.mk (HK7.out.row HR.out (List.mem_cons_of_mem _ (List.mem_cons_of_mem _ List.mem_cons_self)))
                  have HE2 := Aside0.mk (HL7.out.eraseNo 0 (by omega) (by decide) 7 rfl (by decide) 0 rfl)
                  simp only [c0, c1, c2, c3] at HE2
                  clear HL HM HR HX HV HE1 HK7 x2
                  have Hn1 : Aside0 (Next (fun y => up2 (up2 (fun _ _ => (0 : Int)) 0 0 1) 0 1 st1 1 y) Pn 0) := ⟨⟨fun y _ _ => by
                    show (if (1 : Nat) = 0 ∧ y = 1 then st1 else if (1 : Nat) = 0 ∧ y = 0 then 1 else 0) = 0
                    rw [if_neg (by omega), if_neg (by omega)], .inl rfl⟩⟩
                  go_upto_region 28 with (first
                    | (go_at_call 13; (with_reducible refine HE2.out.mono ?_); rintro e w8 ⟨rfl, HL8, HK8⟩; have HR8 := Aside0.mk (HK8.out.row HR7.out (List.mem_cons_of_mem _ (List.mem_cons_of_mem _ List.mem_cons_self))); have HP2 := Aside0.mk (HL8.out.progYes 1 0 sb (by omega) (by omega) HR8.out (List.mem_cons_of_mem _ (List.mem_cons_of_mem _ List.mem_cons_self)) (List.length_replicate ..) Hlr.out rfl rfl (by decide) Hn1.out 0 0 false rfl); simp only [c0, c1, c2, c3] at HP2)
                    | (go_at_call 14; (with_reducible refine HP2.out.mono ?_); rintro e w9 ⟨rfl, HL9, HK9⟩))
                  have HS2 := Aside0.mk (HL9.out.senseYes 0 0 (by omega) (by omega) (by decide) (0, 0, 0) false rfl (by decide))
                  simp only [c0, c1, c2, c3] at HS2
                  clear HL7 HE2 HR7 HL8 HK8 HP2 HK9
                  go_upto_region 29 with (first
                    | (go_at_call 17; (with_reducible refine HS2.out.mono ?_); rintro e w10 ⟨q2, cc2, rfl, hcc2, HV2, HVl2, HQ2, HL10, HK10⟩))
                  have HVP2 : Aside0 (Vec w10 q2 (progL (List.replicate j (0, 0)) (List.replicate j x) j)) := HV2
                  have hVn2 : (progL (List.replicate j (0, 0)) (List.replicate j x) j).length = j := HVl2.out
                  have hx := HVP2.out.cell (i := 0) (by rw [hVn2]; omega)
                  rw [progL_rep (Nat.le_refl _) (by omega), if_pos (by omega)] at hx
                  clear hVn2 HVP2 HV2 HVl2 HQ2 HK10 HL9 HS2
                  unfold ptV at hx HOf
                  have e1 := ord_eqb (ord_int (a := (ofPt x).1) (b := (ofPt x).1) (by unfold ofPt; dsimp only; omega) (by unfold ofPt; dsimp only; omega))
                  have e2 := ord_eqb (ord_int (a := (ofPt x).2) (b := (ofPt x).2) (by unfold ofPt; dsimp only; omega) (by unfold ofPt; dsimp only; omega))
                  rw [decide_eq_true rfl] at e1 e2
                  generalize fd (ofPt x).1 0 = X at *
                  generalize fd (ofPt x).2 0 = Y at *
                  have HB0q := Aside0.mk (fun m => (HL10.out.drewN m).brokenR 0 (by omega) true rfl)
                  have HB1q := Aside0.mk (fun m => (HL10.out.drewN m).brokenR 1 (by omega) false rfl)
                  have HRq := Aside0.mk (fun m => (HL10.out.drewN m).refusedR)
                  simp only [c0, c1, c2, c3] at HB0q HB1q
                  clear hand hx0 hx1
                  have hj0 : (0 : Int) < (j : Int) := by omega
                  go_quiet ((first
                    | (go_at_call 18; with_reducible exact Calls.quiet_of_same (HOf.out _))
                    | (go_at_call 19; with_reducible exact Calls.quiet_of_same (HB0q.out _))
                    | (go_at_call 19; with_reducible exact Calls.quiet_of_same (HB1q.out _))
                    | (go_at_call 15; with_reducible exact Calls.quiet_of_same (HRq.out _))))
                  have HBel := Aside0.mk (HL10.out.drewN nq).bel
                  go_wp2
                  go_ret
                  exact ⟨rfl, HBel.out⟩
    · have HMay := Aside0.mk (fun W => refMayC (a := a0_0) (b := a0_1) (c := a0_2) (d := a0_3) W true ⟨fun _ => rfl, fun _ => hM⟩)
      have HSm := Aside0.mk (fun W => smallC W hM false (decide_eq_false hS))
      clear hM hS
      unfold geoV at HMay HSm
      go_enter Try.func4, Try.ntmps4
      go_wp2_with (first
          | (go_at_call 8; (refine (awakeC _).mono ?_); rintro e w1 ⟨rfl, HB1⟩; have HB2 := Aside0.mk (below_step HB0.out HB1.out); have hb1 := (HB1.out.block _ (blk_lt HN0.out)).trans HN0.out; have HN1 := Aside0.mk hb1; have d0 : w1.cell? ⟨w.heap.size, 0, none⟩ = some (.int .i64 a0_0) := (blk_cell hb1 0).trans rfl; have d1 : w1.cell? ⟨w.heap.size, 1, none⟩ = some (.int .i64 a0_1) := (blk_cell hb1 1).trans rfl; have d2 : w1.cell? ⟨w.heap.size, 2, none⟩ = some (.int .i64 a0_2) := (blk_cell hb1 2).trans rfl; have d3 : w1.cell? ⟨w.heap.size, 3, none⟩ = some (.int .i64 a0_3) := (blk_cell hb1 3).trans rfl; clear hb1)
          | (go_at_call 9; (refine (HMay.out _).mono ?_); rintro e w3 ⟨rfl, HB3⟩; have HB4 := Aside0.mk (below_step HB2.out HB3.out); have hb3 := (HB3.out.block _ (blk_lt HN1.out)).trans HN1.out; have HN3 := Aside0.mk hb3; have e0 : w3.cell? ⟨w.heap.size, 0, none⟩ = some (.int .i64 a0_0) := (blk_cell hb3 0).trans rfl; have e1 : w3.cell? ⟨w.heap.size, 1, none⟩ = some (.int .i64 a0_1) := (blk_cell hb3 1).trans rfl; have e2 : w3.cell? ⟨w.heap.size, 2, none⟩ = some (.int .i64 a0_2) := (blk_cell hb3 2).trans rfl; have e3 : w3.cell? ⟨w.heap.size, 3, none⟩ = some (.int .i64 a0_3) := (blk_cell hb3 3).trans rfl; clear hb3)
          | (go_at_call 10; (refine (HSm.out _).mono ?_); rintro e w5 ⟨rfl, HB5⟩; have HB6 := Aside0.mk (below_step HB4.out HB5.out); have hb5 := (HB5.out.block _ (blk_lt HN3.out)).trans HN3.out; have HN5 := Aside0.mk hb5; have f0 : w5.cell? ⟨w.heap.size, 0, none⟩ = some (.int .i64 a0_0) := (blk_cell hb5 0).trans rfl; have f1 : w5.cell? ⟨w.heap.size, 1, none⟩ = some (.int .i64 a0_1) := (blk_cell hb5 1).trans rfl; have f2 : w5.cell? ⟨w.heap.size, 2, none⟩ = some (.int .i64 a0_2) := (blk_cell hb5 2).trans rfl; have f3 : w5.cell? ⟨w.heap.size, 3, none⟩ = some (.int .i64 a0_3) := (blk_cell hb5 3).trans rfl; clear hb5))
      go_ret
      exact ⟨rfl, HB6.out⟩
  · have HMay := Aside0.mk (fun W => refMayC (a := a0_0) (b := a0_1) (c := a0_2) (d := a0_3) W false ⟨fun h => absurd h hM, fun h => by cases h⟩)
    clear hM
    unfold geoV at HMay
    go_enter Try.func4, Try.ntmps4
    go_wp2_with (first
          | (go_at_call 8; (refine (awakeC _).mono ?_); rintro e w1 ⟨rfl, HB1⟩; have HB2 := Aside0.mk (below_step HB0.out HB1.out); have hb1 := (HB1.out.block _ (blk_lt HN0.out)).trans HN0.out; have HN1 := Aside0.mk hb1; have d0 : w1.cell? ⟨w.heap.size, 0, none⟩ = some (.int .i64 a0_0) := (blk_cell hb1 0).trans rfl; have d1 : w1.cell? ⟨w.heap.size, 1, none⟩ = some (.int .i64 a0_1) := (blk_cell hb1 1).trans rfl; have d2 : w1.cell? ⟨w.heap.size, 2, none⟩ = some (.int .i64 a0_2) := (blk_cell hb1 2).trans rfl; have d3 : w1.cell? ⟨w.heap.size, 3, none⟩ = some (.int .i64 a0_3) := (blk_cell hb1 3).trans rfl; clear hb1)
          | (go_at_call 9; (refine (HMay.out _).mono ?_); rintro e w3 ⟨rfl, HB3⟩; have HB4 := Aside0.mk (below_step HB2.out HB3.out); have hb3 := (HB3.out.block _ (blk_lt HN1.out)).trans HN1.out; have HN3 := Aside0.mk hb3; have e0 : w3.cell? ⟨w.heap.size, 0, none⟩ = some (.int .i64 a0_0) := (blk_cell hb3 0).trans rfl; have e1 : w3.cell? ⟨w.heap.size, 1, none⟩ = some (.int .i64 a0_1) := (blk_cell hb3 1).trans rfl; have e2 : w3.cell? ⟨w.heap.size, 2, none⟩ = some (.int .i64 a0_2) := (blk_cell hb3 2).trans rfl; have e3 : w3.cell? ⟨w.heap.size, 3, none⟩ = some (.int .i64 a0_3) := (blk_cell hb3 3).trans rfl; clear hb3))
    go_ret
    exact ⟨rfl, HB4.out⟩
end Go.Proofs.Ytmddafefdleimaa.M
