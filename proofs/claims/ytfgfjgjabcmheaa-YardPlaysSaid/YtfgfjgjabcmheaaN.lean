/- yard.New by hand: blocks that are all free, at a state of the call's own. -/
import Derived.Test.YtfgfjgjabcmheaaS
import Derived.Deep.RegionHeld3
import Derived.Deep.DrawnRows
namespace Go.Proofs.Ytfgfjgjabcmheaa.M
open Go.RowKit Go.Proofs.YtfgfjgjabcmheaaW.PrintWords Go.Proofs.YtfgfjgjabcmheaaW.PrintLast Go.Proofs.YtfgfjgjabcmheaaW.PrintMore
attribute [local go_sem] max2_int min2_int max_two min_two max_three min_three max_four min_four
attribute [local go_sem ↓] Go.wp_at_zero Go.wp_at_succ
set_option linter.unusedVariables false
set_option linter.unusedSimpArgs false
theorem mk34 (n : Nat) (h1 : n ≤ 64) (W : World) : (Instr.makeSlice 34 (.int .i64 (n : Int)) (.int .i64 (n : Int))).run Try.prog W = .ok (.slice (some ⟨W.heap.size, 0, none⟩) n n) (W.alloc (.cells (Array.replicate n (.int .i64 0)) 3 (0, 0))) := by
  have hi := info3S
  obtain ⟨i0, hi, hzz⟩ := Option.map_eq_some_iff.1 hi
  simp only [Prod.mk.injEq] at hzz
  obtain ⟨hz0, hz1, hz2⟩ := hzz
  have hr := run_make (P := Try.prog) W 34 3 i0 (.int .i64 0) Try.underlying34 hi hz0 .i64 .i64 n n (by omega) (by omega) (by rw [hz2]; omega) (by omega)
  rw [hz1] at hr
  rw [hr]
  have e : madeCells (Value.int IntKind.i64 0).cells (n * 1) = Array.replicate n (.int .i64 0) := by
    unfold madeCells
    apply Array.ext
    · simp
    · intro i h1 h2; simp [Value.cells, Nat.mod_one]
  simp only [Int.toNat_natCast, e]
theorem row_of_block {w : World} {b base : Nat} {e : TypeId} {k : IntKind} {ok : Nat → Prop} {xs : List Int} (h : w.heap[b]? = some (.cells (xs.map (Value.int k)).toArray e (0, 0))) (hb : base ≤ b) (hm : xs.length ≤ 9223372036854775807) (hok : ok b) :
    Kd.R (Kd.int k) e w base ok (.slice (some ⟨b, 0, none⟩) xs.length xs.length) xs := by
  refine Kd.R_of_own ⟨by simp [encs], .inr ⟨b, xs.length, _, rfl, hb, h, Nat.le_refl _, hm, by simp, ?_⟩⟩ (fun k' hk => ?_)
  · simp only [encs]; exact List.take_of_length_le (by simp)
  · have : b = k' := by simpa [Value.ownBlock] using hk
    subst this; exact hok
theorem rep_arr (n : Nat) (x : Int) : (Array.replicate n (Value.int .i64 x)) = ((List.replicate n x).map (Value.int .i64)).toArray := by simp
def newN (a0 : Int) : Nat := (if 64 < (if a0 < 0 then 0 else a0) then 64 else (if a0 < 0 then 0 else a0)).toNat
theorem newN_le (a0 : Int) : newN a0 ≤ 64 := by unfold newN; split <;> (try split) <;> omega
theorem newN_is {a0 m : Int} (hm : (if a0 < 0 then 0 else a0) = m) : (if 64 < m then 64 else m) = ((newN a0 : Nat) : Int) := by subst hm; unfold newN; (repeat' split) <;> omega
theorem three (w : World) (o0 o1 o2 : Obj) : (((w.alloc o0).alloc o1).alloc o2).drew.heap[w.heap.size]? = some o0 ∧ (((w.alloc o0).alloc o1).alloc o2).drew.heap[w.heap.size + 1]? = some o1 ∧ (((w.alloc o0).alloc o1).alloc o2).drew.heap[w.heap.size + 1 + 1]? = some o2 := by
  have h1 : (w.alloc o0).heap.size = w.heap.size + 1 := by simp
  have h2 : ((w.alloc o0).alloc o1).heap.size = w.heap.size + 1 + 1 := by simp
  refine ⟨?_, ?_, ?_⟩
  · exact blk_below (blk_below (blk_below (blk_new w o0) (below_alloc (Below.refl _ _) o1)) (below_alloc (Below.refl _ _) o2)) (below_drew1 (Below.refl _ _))
  · rw [← h1]; exact blk_below (blk_below (blk_new (w.alloc o0) o1) (below_alloc (Below.refl _ _) o2)) (below_drew1 (Below.refl _ _))
  · rw [← h2]; exact blk_below (blk_new ((w.alloc o0).alloc o1) o2) (below_drew1 (Below.refl _ _))
/-- the first i are free -/
def fill (n i : Nat) : List Int := List.replicate i 1 ++ List.replicate (n - i) 0
theorem fill_len {n i : Nat} (h : i ≤ n) : (fill n i).length = n := by simp [fill]; omega
theorem fill_set {n i : Nat} (h : i < n) : (fill n i).set i 1 = fill n (i + 1) := by
  unfold fill
  rw [List.set_append_right _ _ (by simp), List.length_replicate, Nat.sub_self, show n - i = (n - (i + 1)) + 1 from by omega, List.replicate_succ, List.set_cons_zero, List.replicate_succ', List.append_assoc]
  rfl
theorem start46 {w W : World} {g q0 q1 n : Nat} (hn : n ≤ 64) (h : W.heap[g]? = some (.cells #[.slice (some ⟨q0, 0, none⟩) n n, .slice (some ⟨q1, 0, none⟩) n n] 46 (0, 0)))
    (h0 : W.heap[q0]? = some (.cells (Array.replicate n (.int .i64 0)) 3 (0, 0))) (h1 : W.heap[q1]? = some (.cells (Array.replicate n (.int .i64 0)) 3 (0, 0)))
    (hg0 : w.heap.size ≤ q0) (hg1 : w.heap.size ≤ q1) (h0g : q0 < g) (h1g : q1 < g) (hne : q0 ≠ q1) : IsS46 w W g (fill n 0, List.replicate n 0) := by
  rw [rep_arr] at h0 h1
  have e : fill n 0 = List.replicate n 0 := by simp [fill]
  refine ⟨by simp [fill]; exact hn, some ⟨q0, 0, none⟩, n, some ⟨q1, 0, none⟩, n, ?_, by omega, ?_, ?_⟩
  · simpa [fill] using h
  · have := row_of_block (k := .i64) (base := w.heap.size) (ok := fun k => k < g ∧ some k ≠ (Value.slice (some ⟨q1, 0, none⟩) (List.replicate n (0 : Int)).length n).ownBlock) h0 hg0 (by simp; omega) ⟨h0g, by simpa [Value.ownBlock] using hne⟩
    simpa [e] using this
  · have := row_of_block (k := .i64) (base := w.heap.size) (ok := fun k => k < g ∧ some k ≠ (Value.slice (some ⟨q0, 0, none⟩) (List.replicate n (0 : Int)).length n).ownBlock) h1 hg1 (by simp; omega) ⟨h1g, by simpa [Value.ownBlock] using hne.symm⟩
    simpa [e] using this
set_option maxHeartbeats 800000 in
theorem yard_New.calls (a0 : Int) (w : World) : Calls Try.prog 9 #[.int .i64 a0] w fun e w' => ∃ g, e = .returned (.pointer (some ⟨g, 0, none⟩)) ∧ IsS46 w w' g (List.replicate (newN a0) 1, List.replicate (newN a0) 0) ∧ Below w.heap.size w w' := by
  obtain ⟨m, hm⟩ : ∃ m, (if a0 < 0 then 0 else a0) = m := ⟨_, rfl⟩
  have hn := newN_is hm
  have hnl := newN_le a0
  generalize newN a0 = n at *
  have hmk := mk34 n hnl
  go_enter Try.func9, Try.ntmps9
  go_wp2
  go_region
  all_goals
    clear hm hn hmk
    generalize hW1 : World.drew _ = W1
    have hS : IsS46 w W1 (w.heap.size + 1 + 1) (fill n 0, List.replicate n 0) := by
      rw [← hW1]
      first
        | exact start46 hnl (q0 := w.heap.size) (q1 := w.heap.size + 1) (by first | exact (three _ _ _ _).1 | exact (three _ _ _ _).2.1 | exact (three _ _ _ _).2.2) (by first | exact (three _ _ _ _).1 | exact (three _ _ _ _).2.1 | exact (three _ _ _ _).2.2) (by first | exact (three _ _ _ _).1 | exact (three _ _ _ _).2.1 | exact (three _ _ _ _).2.2) (by omega) (by omega) (by omega) (by omega) (by omega)
        | exact start46 hnl (q0 := w.heap.size + 1) (q1 := w.heap.size) (by first | exact (three _ _ _ _).1 | exact (three _ _ _ _).2.1 | exact (three _ _ _ _).2.2) (by first | exact (three _ _ _ _).1 | exact (three _ _ _ _).2.1 | exact (three _ _ _ _).2.2) (by first | exact (three _ _ _ _).1 | exact (three _ _ _ _).2.1 | exact (three _ _ _ _).2.2) (by omega) (by omega) (by omega) (by omega) (by omega)
    have hB : Below w.heap.size w W1 := by
      rw [← hW1]
      repeat (first | exact Below.refl _ _ | apply below_drew1 | apply below_alloc)
    clear hW1
    have hS' := hS
    obtain ⟨A0, c0, A1, c1, hx0, hx1, hR0, hC0, hR1, hC1⟩ := hS'.reads
    rw [fill_len (Nat.zero_le n)] at hx0
    have HS := Aside0.mk hS
    have HB := Aside0.mk hB
    clear hS hS' hB hx1 hR0 hR1 hC0 hC1
    go_wp2
    clear hx0
    go_loopw [20] (fun v20 wr => ∃ i : Nat, i ≤ n ∧ v20 = .int .i64 (i : Int) ∧ Aside0 (IsS46 w wr (w.heap.size + 1 + 1) (fill n i, List.replicate n 0)) ∧ Aside0 (Below w.heap.size w wr)) (fun v20 _ => n - (intOf v20).toNat)
    case atStart => exact ⟨0, Nat.zero_le _, rfl, HS, HB⟩
    case round =>
      clear HS HB
      obtain ⟨i, hi, rfl, HS, HB⟩ := hrel
      by_cases c : i < n
      · obtain ⟨hl, A0, c0, A1, c1, hb, hg, h0, h1⟩ := HS.out
        clear HS
        obtain ⟨q, cap, eq, hq, _⟩ := Kd.R_form h0 (by rw [fill_len hi]; omega)
        injection eq with e1 e2 e3
        subst e1
        have hqg : q < w.heap.size + 1 + 1 := (h0.1 q rfl).1
        have hx0 : wr.cell? ⟨w.heap.size + 1 + 1, 0, none⟩ = some (.slice (some ⟨q, 0, none⟩) n c0) := by have := (blk_cell hb 0).trans rfl; rw [fill_len hi] at this; exact this
        obtain ⟨hv, hfz⟩ := Kd.R_celln 0 h0 (i : Int) (by omega) (by rw [fill_len hi]; omega)
        rw [Int.toNat_natCast] at hv hfz
        have HP := Aside0.mk (IsS46.put0 (i : Int) 1 hb hg hl h0 h1)
        have HN := Aside0.mk hq
        clear hb h0 h1 hl hq
        go_wp2
        go_roundw
        case rel => exact ⟨i + 1, by omega, by go_num, ⟨by have h_ := HP.out; rw [Int.toNat_natCast] at h_; rw [← fill_set c]; exact h_⟩, ⟨below_set HB.out HN.out⟩⟩
        case measure => simp [intOf]; omega
      · obtain rfl : i = n := by omega
        go_wp2
        go_ret
        exact ⟨_, rfl, by have h_ := HS.out; simpa [fill] using h_, HB.out⟩
end Go.Proofs.Ytfgfjgjabcmheaa.M
