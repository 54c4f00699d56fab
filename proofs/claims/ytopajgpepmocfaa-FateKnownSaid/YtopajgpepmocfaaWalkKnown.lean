/- The walk of FateKnown: fates by hand that are none. -/
import Derived.Test.YtopajgpepmocfaaWalkOrders
namespace Go.Proofs.Ytopajgpepmocfaa.M
open Go.RowKit Go.Proofs.YtopajgpepmocfaaW.PrintWords Go.Proofs.YtopajgpepmocfaaW.PrintLast Go.Proofs.YtopajgpepmocfaaW.PrintMore Go.Proofs.Ytopajgpepmocfaa.Rw Go.Maps
set_option linter.unusedVariables false
set_option linter.unusedSimpArgs false
def zeros : List F := List.replicate 257 (0, 0, 0)
def bigA : Array Value := Array.replicate 771 (.int .i64 0)
theorem cellsF_rep : ∀ n : Nat, cellsF (List.replicate n (0, 0, 0)) = List.replicate (n * 3) (.int .i64 0)
  | 0 => rfl
  | n + 1 => by
    have ih := cellsF_rep n
    rw [List.replicate_succ]
    show [Value.int .i64 0, .int .i64 0, .int .i64 0] ++ cellsF (List.replicate n (0, 0, 0)) = _
    rw [ih, show (n + 1) * 3 = n * 3 + 1 + 1 + 1 from by omega, List.replicate_succ, List.replicate_succ, List.replicate_succ]
    rfl
theorem bigA_is : (cellsF zeros).toArray = bigA := by
  unfold zeros bigA
  rw [cellsF_rep, List.toArray_replicate]
theorem mk257 (W : World) : (Instr.makeSlice 22 (.int .i64 257) (.int .i64 257)).run Try.prog W = .ok (.slice (some ⟨W.heap.size, 0, none⟩) 257 257) (W.alloc (.cells bigA 30 (0, 0))) := by
  obtain ⟨i0, hi, hzz⟩ := Option.map_eq_some_iff.1 info30
  simp only [Prod.mk.injEq] at hzz
  obtain ⟨hz0, hz1, hz2⟩ := hzz
  have hr := run_make (P := Try.prog) W 22 30 i0 (.agg #[.int .i64 0, .int .i64 0, .int .i64 0]) Try.underlying22 hi hz0 .i64 .i64 257 257 (by omega) (by omega) (by rw [hz2]; decide) (by omega)
  rw [hz1] at hr
  rw [hr]
  have e : madeCells (Value.agg #[.int .i64 0, .int .i64 0, .int .i64 0]).cells ((257 : Int).toNat * 3) = bigA := by
    unfold madeCells bigA
    apply Array.ext
    · simp
    · intro i h1 h2
      have h3 : i % 3 < 3 := Nat.mod_lt _ (by omega)
      simp only [Array.getElem_map, Array.getElem_range, Array.getElem_replicate, Value.cells]
      show (#[Value.int .i64 0, Value.int .i64 0, Value.int .i64 0] : Array Value)[i % 3]! = _
      rcases (by omega : i % 3 = 0 ∨ i % 3 = 1 ∨ i % 3 = 2) with h | h | h <;> rw [h] <;> rfl
  rw [e]; rfl
def bads (i : Nat) : List F := [[(-1, 2, 0)], [(1099511627777, 2, 0)], [(0, 0, 0)], [(0, 3, 0)], [(0, 1, -1)], [(5, 2, 0), (5, 1, 0)], zeros].getD i []
theorem bads_no (i : Nat) (h : i < 7) : ¬ OkF (bads i) := by
  rcases (by omega : i = 0 ∨ i = 1 ∨ i = 2 ∨ i = 3 ∨ i = 4 ∨ i = 5 ∨ i = 6) with rfl | rfl | rfl | rfl | rfl | rfl | rfl
  · exact fun h => absurd (h.2.1 (-1, 2, 0) List.mem_cons_self) (by decide)
  · exact fun h => absurd (h.2.1 (1099511627777, 2, 0) List.mem_cons_self) (by decide)
  · exact fun h => absurd (h.2.1 (0, 0, 0) List.mem_cons_self) (by decide)
  · exact fun h => absurd (h.2.1 (0, 3, 0) List.mem_cons_self) (by decide)
  · exact fun h => absurd (h.2.1 (0, 1, -1) List.mem_cons_self) (by decide)
  · exact fun h => absurd ((List.pairwise_cons.1 h.2.2).1 (5, 1, 0) List.mem_cons_self) (by decide)
  · exact fun h => by have h1 := h.1; have e : (bads 6).length = 257 := by decide +kernel
                      omega
theorem bads_len (i : Nat) (h : i < 7) : (bads i).length ≤ 257 := by
  rcases (by omega : i = 0 ∨ i = 1 ∨ i = 2 ∨ i = 3 ∨ i = 4 ∨ i = 5 ∨ i = 6) with rfl | rfl | rfl | rfl | rfl | rfl | rfl <;> decide +kernel
def Bads (W : World) (q : Nat) : Prop := ∀ i, i < 7 → W.cell? ⟨q + 1 + 1 + 1 + 1 + 1 + 1 + 1, i, none⟩ = some (.slice (some ⟨q + i, 0, none⟩) (bads i).length (bads i).length) ∧ Kd.C Tri W (some ⟨q + i, 0, none⟩) (bads i).length (bads i)
theorem Bads.below {W W1 : World} {q : Nat} (h : Bads W q) (hb : Below W.heap.size W W1) : Bads W1 q := fun i hi => ⟨pw_cell_below hb (h i hi).1, Kd.C_below (h i hi).2 hb⟩
def o0 : Obj := .cells #[Value.int .i64 (-1), Value.int .i64 2, Value.int .i64 0] 30 (0, 0)
def o1 : Obj := .cells #[Value.int .i64 1099511627777, Value.int .i64 2, Value.int .i64 0] 30 (0, 0)
def o2 : Obj := .cells #[Value.int .i64 0, Value.int .i64 0, Value.int .i64 0] 30 (0, 0)
def o3 : Obj := .cells #[Value.int .i64 0, Value.int .i64 3, Value.int .i64 0] 30 (0, 0)
def o4 : Obj := .cells #[Value.int .i64 0, Value.int .i64 1, Value.int .i64 (-1)] 30 (0, 0)
def o5 : Obj := .cells #[Value.int .i64 5, Value.int .i64 2, Value.int .i64 0, Value.int .i64 5, Value.int .i64 1, Value.int .i64 0] 30 (0, 0)
def o6 : Obj := .cells bigA 30 (0, 0)
def o7 (q : Nat) : Obj := .cells #[.slice (some ⟨q, 0, none⟩) 1 1, .slice (some ⟨q + 1, 0, none⟩) 1 1, .slice (some ⟨q + 1 + 1, 0, none⟩) 1 1, .slice (some ⟨q + 1 + 1 + 1, 0, none⟩) 1 1, .slice (some ⟨q + 1 + 1 + 1 + 1, 0, none⟩) 1 1, .slice (some ⟨q + 1 + 1 + 1 + 1 + 1, 0, none⟩) 2 2, .slice (some ⟨q + 1 + 1 + 1 + 1 + 1 + 1, 0, none⟩) 257 257] 22 (0, 0)
def W8 (w : World) : World := (((((((w.alloc o0).alloc o1).alloc o2).alloc o3).alloc o4).alloc o5).alloc o6).alloc (o7 w.heap.size)
theorem bads_start (w : World) : Bads (W8 w) w.heap.size := by
  have h1 : (w.alloc o0).heap.size = w.heap.size + 1 := by simp
  have h2 : ((w.alloc o0).alloc o1).heap.size = w.heap.size + 1 + 1 := by simp
  have h3 : (((w.alloc o0).alloc o1).alloc o2).heap.size = w.heap.size + 1 + 1 + 1 := by simp
  have h4 : ((((w.alloc o0).alloc o1).alloc o2).alloc o3).heap.size = w.heap.size + 1 + 1 + 1 + 1 := by simp
  have h5 : (((((w.alloc o0).alloc o1).alloc o2).alloc o3).alloc o4).heap.size = w.heap.size + 1 + 1 + 1 + 1 + 1 := by simp
  have h6 : ((((((w.alloc o0).alloc o1).alloc o2).alloc o3).alloc o4).alloc o5).heap.size = w.heap.size + 1 + 1 + 1 + 1 + 1 + 1 := by simp
  have h7 : (((((((w.alloc o0).alloc o1).alloc o2).alloc o3).alloc o4).alloc o5).alloc o6).heap.size = w.heap.size + 1 + 1 + 1 + 1 + 1 + 1 + 1 := by simp
  have g0 : (W8 w).heap[w.heap.size]? = some o0 := blk_alloc (blk_alloc (blk_alloc (blk_alloc (blk_alloc (blk_alloc (blk_alloc (blk_new _ _) _) _) _) _) _) _) _
  have g1 : (W8 w).heap[w.heap.size + 1]? = some o1 := by rw [← h1]; exact blk_alloc (blk_alloc (blk_alloc (blk_alloc (blk_alloc (blk_alloc (blk_new _ _) _) _) _) _) _) _
  have g2 : (W8 w).heap[w.heap.size + 1 + 1]? = some o2 := by rw [← h2]; exact blk_alloc (blk_alloc (blk_alloc (blk_alloc (blk_alloc (blk_new _ _) _) _) _) _) _
  have g3 : (W8 w).heap[w.heap.size + 1 + 1 + 1]? = some o3 := by rw [← h3]; exact blk_alloc (blk_alloc (blk_alloc (blk_alloc (blk_new _ _) _) _) _) _
  have g4 : (W8 w).heap[w.heap.size + 1 + 1 + 1 + 1]? = some o4 := by rw [← h4]; exact blk_alloc (blk_alloc (blk_alloc (blk_new _ _) _) _) _
  have g5 : (W8 w).heap[w.heap.size + 1 + 1 + 1 + 1 + 1]? = some o5 := by rw [← h5]; exact blk_alloc (blk_alloc (blk_new _ _) _) _
  have g6 : (W8 w).heap[w.heap.size + 1 + 1 + 1 + 1 + 1 + 1]? = some o6 := by rw [← h6]; exact blk_alloc (blk_new _ _) _
  have g7 : (W8 w).heap[w.heap.size + 1 + 1 + 1 + 1 + 1 + 1 + 1]? = some (o7 w.heap.size) := by rw [← h7]; exact blk_new _ _
  intro i hi
  rcases (by omega : i = 0 ∨ i = 1 ∨ i = 2 ∨ i = 3 ∨ i = 4 ∨ i = 5 ∨ i = 6) with rfl | rfl | rfl | rfl | rfl | rfl | rfl
  · exact ⟨(blk_cell g7 0).trans rfl, C_of_blockF (l := bads 0) g0 (by decide)⟩
  · exact ⟨(blk_cell g7 1).trans rfl, C_of_blockF (l := bads 1) g1 (by decide)⟩
  · exact ⟨(blk_cell g7 2).trans rfl, C_of_blockF (l := bads 2) g2 (by decide)⟩
  · exact ⟨(blk_cell g7 3).trans rfl, C_of_blockF (l := bads 3) g3 (by decide)⟩
  · exact ⟨(blk_cell g7 4).trans rfl, C_of_blockF (l := bads 4) g4 (by decide)⟩
  · exact ⟨(blk_cell g7 5).trans rfl, C_of_blockF (l := bads 5) g5 (by decide)⟩
  · have e6 : (bads 6).length = 257 := by decide +kernel
    refine ⟨by rw [e6]; exact (blk_cell g7 6).trans rfl, C_of_blockF (l := bads 6) ?_ (by decide +kernel)⟩
    rw [show (cellsF (bads 6)).toArray = bigA from bigA_is]; exact g6
def manyL (i : Nat) : List F := (List.range i).map fun j : Nat => (3 * (256 - (j : Int)), 1, 0)
theorem many_snoc (i : Nat) : manyL (i + 1) = manyL i ++ [(3 * (256 - (i : Int)), 1, 0)] := by unfold manyL; rw [List.range_succ, List.map_append]; rfl
theorem many_len (i : Nat) : (manyL i).length = i := by simp [manyL]
theorem many_ok : OkF (manyL 256) := by
  refine ⟨by rw [many_len]; exact Nat.le_refl _, fun x hx => ?_, ?_⟩
  · obtain ⟨j, hj, rfl⟩ := List.mem_map.1 hx
    have := List.mem_range.1 hj
    exact ⟨by simp only; omega, by simp only; omega, .inl rfl, by simp⟩
  · unfold Apart manyL
    rw [List.pairwise_map]
    exact List.pairwise_lt_range.imp (fun h => by simp only; omega)
theorem many3 : lookF (manyL 256) 3 = ((3, 1, 0), true) := by decide +kernel
theorem many4 : lookF (manyL 256) 4 = ((0, 0, 0), false) := by decide +kernel
theorem many_3 : lookF (manyL 256) (-3) = ((0, 0, 0), false) := by decide +kernel
theorem left_5 : ((leftF (manyL 256) (-5) : Nat) : Int) = 256 := by decide +kernel
theorem left4 : ((leftF (manyL 256) 4 : Nat) : Int) = 255 := by decide +kernel
theorem leftM : ((leftF (manyL 256) 1099511627776 : Nat) : Int) = 0 := by decide +kernel
set_option maxHeartbeats 3200000 in
set_option maxRecDepth 100000 in
theorem known_walk (w : World) : Calls Try.prog 4 #[] w fun e w' => e = .returned (.bool true) ∧ Below w.heap.size w w' := by
  have hmk := mk257
  go_enter Try.func4, Try.ntmps4
  go_wp2_with (go_at_call 6; (refine (awakeC _).mono ?_); rintro e w1 ⟨rfl, hb⟩; have HB := Aside0.mk hb; clear hb)
  have HW := Aside0.mk (bads_start w1)
  have HB2 : Aside0 (Below w.heap.size w (W8 w1)) := ⟨below_alloc (below_alloc (below_alloc (below_alloc (below_alloc (below_alloc (below_alloc (below_alloc HB.out _) _) _) _) _) _) _) _⟩
  clear HB hmk
  unfold W8 o0 o1 o2 o3 o4 o5 o6 o7 at HW HB2
  generalize (((((((w1.alloc (.cells #[Value.int .i64 (-1), Value.int .i64 2, Value.int .i64 0] 30 (0, 0))).alloc _).alloc _).alloc _).alloc _).alloc _).alloc _).alloc _ = W2 at *
  generalize w1.heap.size = q at *
  go_loopw [2] (fun v2 wr => ∃ i : Nat, i ≤ 7 ∧ v2 = .int .i64 (i : Int) ∧ Aside0 (Below W2.heap.size W2 wr)) (fun v2 _ => 7 - (intOf v2).toNat)
  case atStart => exact ⟨0, by omega, rfl, ⟨Below.refl _ _⟩⟩
  case round =>
    obtain ⟨i, hi, rfl, HB⟩ := hrel
    by_cases ci : i < 7
    · obtain ⟨n, hn⟩ : ∃ n, (bads i).length = n := ⟨_, rfl⟩
      have hcl := ((HW.out.below HB.out) i ci).1
      have HCr := Aside0.mk ((HW.out.below HB.out) i ci).2
      have hn9 := bads_len i ci
      have HNo := Aside0.mk (bads_no i ci)
      rw [hn] at hcl hn9
      have HN := Aside0.mk hn
      clear hn
      have cib : (i : Int) < 7 := by omega
      go_wp2_with (go_at_call 7; rw [← HN.out]; (refine (newNo _ _ (bads i) _ HCr.out (Nat.le_refl _) (by rw [HN.out]; omega) HNo.out).mono ?_); rintro e w3 ⟨rfl, HB3⟩)
      go_roundw
      case rel => exact ⟨i + 1, by omega, by go_num, ⟨below_step HB.out HB3.out⟩⟩
      case measure => simp [intOf]; omega
    · have HB3 := Aside0.mk (below_step HB2.out HB.out)
      clear HW HB HB2
      go_wp2
      go_loopw [5, 6] (fun v5 v6 wk => ∃ k : Nat, k ≤ 256 ∧ v6 = .int .i64 (k : Int) ∧ Aside0 (Kd.R Tri 30 wk w.heap.size (fun _ => True) v5 (manyL k)) ∧ Aside0 (Below w.heap.size w wk)) (fun _ v6 _ => 256 - (intOf v6).toNat)
      case atStart => exact ⟨0, by omega, rfl, ⟨Kd.R_nil _ _ _ _ _⟩, HB3⟩
      case round =>
        clear HB3
        obtain ⟨k, hk, rfl, HV, HB⟩ := hrel
        by_cases ck : k < 256
        · have ck' : (k : Int) < 256 := by omega
          have hlk : (manyL k).length = k := many_len k
          have HLk := Aside0.mk hlk
          obtain ⟨y, hy⟩ : ∃ y : Int, 3 * (256 - (k : Int)) = y := ⟨_, rfl⟩
          have HT : Aside0 (manyL (k + 1) = manyL k ++ [(y, 1, 0)]) := ⟨by rw [many_snoc, hy]⟩
          clear hlk
          go_wp2_with (first | ((with_reducible refine gate_builtin (b := .append) (xs := #[.tmp 56, .tmp 61]) rfl ?_); at_builtin; refine Kd.R_append Tri (w0 := w) w.heap.size rfl (.tmp 56) (.tmp 61) 22 30 (.agg #[.int .i64 0, .int .i64 0, .int .i64 0]) 24 rfl Try.underlying22 info30 rfl (by decide) (by omega) u5 (manyL k) (y, 1, 0) [.int .i64 y, .int .i64 1, .int .i64 0] (fun _ => True) (fun _ => False) rfl rfl (triM (y, 1, 0)) (fun _ hk => hk.elim) (fun _ _ => trivial) HV.out HB.out HB.out.size (by rw [HLk.out]; omega) ?_; intro v7 w7 ho hb hg hat; rw [← HT.out] at ho; have HV2 := Aside0.mk ho; have HB2 := Aside0.mk hb; clear HV HB ho hb hg hat; have HV := HV2; have HB := HB2; clear HV2 HB2))
          go_roundw
          case rel => exact ⟨k + 1, by omega, by go_num, HV, HB⟩
          case measure => simp [intOf]; omega
        · obtain rfl : k = 256 := by omega
          obtain ⟨Av, cv, ev⟩ := Kd.R_slice HV.out
          subst ev
          have hcv : (manyL 256).length ≤ cv := (Kd.R_reads' HV.out).2.1
          have HC := Aside0.mk (Kd.R_reads' HV.out).2.2
          rw [many_len]
          clear HV
          go_wp2_with (first
            | (go_at_call 7; (with_reducible refine (newSn (w := w) Av cv (manyL 256) _ HB.out HC.out hcv many_ok 256 (many_len 256)).mono ?_); rintro e w5 ⟨g, rfl, HS, -⟩; clear HB HC)
            | (go_at_call 9; (first | (with_reducible refine (atS HS 3 (wf3 (by omega) (by omega)) _ _ many3).mono ?_) | (with_reducible refine (atS ⟨HS.out.alloc _⟩ 4 (wf3 (by omega) (by omega)) _ _ many4).mono ?_) | (with_reducible refine (atS ⟨HS.out.alloc _⟩ (-3) (wf3 (by omega) (by omega)) _ _ many_3).mono ?_)); rintro e w6 ⟨rfl, HB6⟩; have HS2 : Aside0 (FS w w6 g (manyL 256)) := ⟨by first | exact HS.out.below HB6.out | exact (HS.out.alloc _).below HB6.out⟩; clear HS HB6; have HS := HS2; clear HS2)
            | (go_at_call 10; (first | (with_reducible refine (leftS ⟨HS.out.alloc _⟩ (-5) (wf3 (by omega) (by omega)) _ left_5).mono ?_) | (with_reducible refine (leftS HS 4 (wf3 (by omega) (by omega)) _ left4).mono ?_) | (with_reducible refine (leftS HS 1099511627776 (Go.WalkArith.wf_i64 ⟨by omega, by omega⟩) _ leftM).mono ?_)); rintro e w8 ⟨rfl, HB8⟩; have HS2 : Aside0 (FS w w8 g (manyL 256)) := ⟨by first | exact HS.out.below HB8.out | exact (HS.out.alloc _).below HB8.out⟩; clear HS HB8; have HS := HS2; clear HS2))
          go_ret
          exact ⟨by first | rfl | (simp; done), HS.out.bel⟩
end Go.Proofs.Ytopajgpepmocfaa.M
