/- The walk of YardKnown: blocks by hand: each way from each state. -/
import Derived.Test.YtfgfjgjabcmheaaF
import Derived.Test.YtfgfjgjabcmheaaWalkWears
namespace Go.Proofs.Ytfgfjgjabcmheaa.M
open Go.RowKit Go.Proofs.YtfgfjgjabcmheaaW.PrintWords Go.Proofs.YtfgfjgjabcmheaaW.PrintLast Go.Proofs.YtfgfjgjabcmheaaW.PrintMore Go.Proofs.Ytfgfjgjabcmheaa.Rw
set_option linter.unusedVariables false
set_option linter.unusedSimpArgs false
def ways (i : Nat) : List Int := [[2], [2, 3], [4], []].getD i []
def Ways (W : World) (q : Nat) : Prop := ∀ i, i < 4 → W.cell? ⟨q + 1 + 1 + 1 + 1, i, none⟩ = some (.slice (some ⟨q + i, 0, none⟩) (ways i).length (ways i).length) ∧ ∀ j, j < (ways i).length → W.cell? ⟨q + i, j, none⟩ = some (.int .i64 ((ways i).getD j 0))
theorem Ways.below {W W1 : World} {q : Nat} (h : Ways W q) (hb : Below W.heap.size W W1) : Ways W1 q := fun i hi => ⟨pw_cell_below hb (h i hi).1, fun j hj => pw_cell_below hb ((h i hi).2 j hj)⟩
theorem five (w : World) (o0 o1 o2 o3 o4 : Obj) : let W := ((((w.alloc o0).alloc o1).alloc o2).alloc o3).alloc o4; W.heap[w.heap.size]? = some o0 ∧ W.heap[w.heap.size + 1]? = some o1 ∧ W.heap[w.heap.size + 1 + 1]? = some o2 ∧ W.heap[w.heap.size + 1 + 1 + 1]? = some o3 ∧ W.heap[w.heap.size + 1 + 1 + 1 + 1]? = some o4 := by
  have h1 : (w.alloc o0).heap.size = w.heap.size + 1 := by simp
  have h2 : ((w.alloc o0).alloc o1).heap.size = w.heap.size + 1 + 1 := by simp
  have h3 : (((w.alloc o0).alloc o1).alloc o2).heap.size = w.heap.size + 1 + 1 + 1 := by simp
  have h4 : ((((w.alloc o0).alloc o1).alloc o2).alloc o3).heap.size = w.heap.size + 1 + 1 + 1 + 1 := by simp
  refine ⟨?_, ?_, ?_, ?_, ?_⟩
  · exact blk_alloc (blk_alloc (blk_alloc (blk_alloc (blk_new w o0) o1) o2) o3) o4
  · rw [← h1]; exact blk_alloc (blk_alloc (blk_alloc (blk_new _ o1) o2) o3) o4
  · rw [← h2]; exact blk_alloc (blk_alloc (blk_new _ o2) o3) o4
  · rw [← h3]; exact blk_alloc (blk_new _ o3) o4
  · rw [← h4]; exact blk_new _ o4
theorem ways_start (w : World) : Ways (((((w.alloc (.cells #[Value.int IntKind.i64 2] 3 (0, 0))).alloc (.cells #[Value.int IntKind.i64 2, Value.int IntKind.i64 3] 3 (0, 0))).alloc (.cells #[Value.int IntKind.i64 4] 3 (0, 0))).alloc (.cells #[] 3 (0, 0))).alloc
    (.cells #[Value.slice (some ⟨w.heap.size, 0, none⟩) 1 1, Value.slice (some ⟨w.heap.size + 1, 0, none⟩) 2 2, Value.slice (some ⟨w.heap.size + 1 + 1, 0, none⟩) 1 1, Value.slice (some ⟨w.heap.size + 1 + 1 + 1, 0, none⟩) 0 0] 34 (0, 0))) w.heap.size := by
  obtain ⟨h0, h1, h2, h3, h4⟩ := five w (.cells #[Value.int IntKind.i64 2] 3 (0, 0)) (.cells #[Value.int IntKind.i64 2, Value.int IntKind.i64 3] 3 (0, 0)) (.cells #[Value.int IntKind.i64 4] 3 (0, 0)) (.cells #[] 3 (0, 0)) (.cells #[Value.slice (some ⟨w.heap.size, 0, none⟩) 1 1, Value.slice (some ⟨w.heap.size + 1, 0, none⟩) 2 2, Value.slice (some ⟨w.heap.size + 1 + 1, 0, none⟩) 1 1, Value.slice (some ⟨w.heap.size + 1 + 1 + 1, 0, none⟩) 0 0] 34 (0, 0))
  intro i hi
  rcases (by omega : i = 0 ∨ i = 1 ∨ i = 2 ∨ i = 3) with rfl | rfl | rfl | rfl
  · exact ⟨(blk_cell h4 0).trans rfl, fun j hj => by obtain rfl : j = 0 := by simp [ways] at hj; omega
                                                     exact (blk_cell h0 0).trans rfl⟩
  · refine ⟨(blk_cell h4 1).trans rfl, fun j hj => ?_⟩
    rcases (by simp [ways] at hj; omega : j = 0 ∨ j = 1) with rfl | rfl
    · exact (blk_cell h1 0).trans rfl
    · exact (blk_cell h1 1).trans rfl
  · exact ⟨(blk_cell h4 2).trans rfl, fun j hj => by obtain rfl : j = 0 := by simp [ways] at hj; omega
                                                     exact (blk_cell h2 0).trans rfl⟩
  · exact ⟨(blk_cell h4 3).trans rfl, fun j hj => by simp [ways] at hj⟩
/-- the second block's state behind k ways -/
def stand (i k : Nat) : Int := (1 :: ways i).getD k 0
theorem stand_turn (i k : Nat) (hi : i < 4) (hk : k < (ways i).length) : turnF ([1, stand i k], [0, 0]) 1 ((ways i).getD k 0) = (true, ([1, stand i (k + 1)], [0, 0])) := by
  rcases (by omega : i = 0 ∨ i = 1 ∨ i = 2 ∨ i = 3) with rfl | rfl | rfl | rfl
  · obtain rfl : k = 0 := by simp [ways] at hk; omega
    rfl
  · rcases (by simp [ways] at hk; omega : k = 0 ∨ k = 1) with rfl | rfl <;> rfl
  · obtain rfl : k = 0 := by simp [ways] at hk; omega
    rfl
  · simp [ways] at hk
theorem stand_at (i : Nat) (hi : i < 4) : stand i (ways i).length = 1 ∨ stand i (ways i).length = 2 ∨ stand i (ways i).length = 3 ∨ stand i (ways i).length = 4 := by
  rcases (by omega : i = 0 ∨ i = 1 ∨ i = 2 ∨ i = 3) with rfl | rfl | rfl | rfl <;> decide +kernel
theorem turn_gen (f t : Int) : turnF ([1, f], [0, 0]) 1 t = (mayB f t, ([1, if mayB f t = true then t else f], [0, 0])) := by
  cases h : mayB f t with
  | true => exact turn_at (l := [1, f]) (m := [0, 0]) (r := 1) (s := t) (by simp) h
  | false =>
    unfold turnF
    rw [if_neg]
    · rfl
    · show ¬ (thereB [1, f] 1 && mayB f t) = true
      rw [h]; simp
theorem state_one (f : Int) (m : List Int) : stateF ([1, f], m) 1 = f := rfl
theorem state_nought (f : Int) (m : List Int) : stateF ([1, f], m) 0 = 1 := rfl
def y64 : Y := (List.replicate 64 1, (List.replicate 64 0).set 3 1)
theorem y64_is : erasedF (newY 64) 3 = y64 := by decide +kernel
theorem y64_count : ((lstP y64.1 1).length : Int) = 64 := by decide +kernel
theorem y64_erases : erasesF y64 3 = 1 := by decide +kernel
theorem y64_far : erasesF y64 99 = 0 := by decide +kernel
theorem y64_turn : turnF y64 (-1) 2 = (false, y64) := by decide +kernel
theorem y0_count : ((lstP (newY 0).1 1).length : Int) = 0 := by decide +kernel
theorem want_cases (f t : Int) (hf : f = 1 ∨ f = 2 ∨ f = 3 ∨ f = 4) : ∃ r, mayB f t = r ∧ ((f = 1 ∧ (t == 2) = true ∧ r = true) ∨ (f = 1 ∧ (t == 2) = false ∧ (t == 4) = true ∧ r = true) ∨ (f = 1 ∧ (t == 2) = false ∧ (t == 4) = false ∧ r = false) ∨
    (f = 2 ∧ (t == 3) = true ∧ r = true) ∨ (f = 2 ∧ (t == 3) = false ∧ (t == 4) = true ∧ r = true) ∨ (f = 2 ∧ (t == 3) = false ∧ (t == 4) = false ∧ r = false) ∨
    (f = 3 ∧ (t == 1) = true ∧ r = true) ∨ (f = 3 ∧ (t == 1) = false ∧ (t == 4) = true ∧ r = true) ∨ (f = 3 ∧ (t == 1) = false ∧ (t == 4) = false ∧ r = false) ∨ (f = 4 ∧ r = false)) := by
  refine ⟨_, rfl, ?_⟩
  rcases hf with rfl | rfl | rfl | rfl
  all_goals
    by_cases h2 : t = 2 <;> by_cases h3 : t = 3 <;> by_cases h1 : t = 1 <;> by_cases h4 : t = 4 <;> simp_all [mayB]
set_option maxHeartbeats 3200000 in
set_option maxRecDepth 100000 in
theorem known_walk (w : World) : Calls Try.prog 5 #[] w fun e w' => e = .returned (.bool true) ∧ Below w.heap.size w w' := by
  go_enter Try.func5, Try.ntmps5
  go_wp2_with (first
    | (go_at_call 8; (refine (awakeC _).mono ?_); rintro e w1 ⟨rfl, hb⟩; have HB := Aside0.mk hb; clear hb))
  have HW := Aside0.mk (ways_start w1)
  have HB2 : Aside0 (Below w.heap.size w (((((w1.alloc (.cells #[Value.int IntKind.i64 2] 3 (0, 0))).alloc (.cells #[Value.int IntKind.i64 2, Value.int IntKind.i64 3] 3 (0, 0))).alloc (.cells #[Value.int IntKind.i64 4] 3 (0, 0))).alloc (.cells #[] 3 (0, 0))).alloc
    (.cells #[Value.slice (some ⟨w1.heap.size, 0, none⟩) 1 1, Value.slice (some ⟨w1.heap.size + 1, 0, none⟩) 2 2, Value.slice (some ⟨w1.heap.size + 1 + 1, 0, none⟩) 1 1, Value.slice (some ⟨w1.heap.size + 1 + 1 + 1, 0, none⟩) 0 0] 34 (0, 0)))) := ⟨by repeat (first | exact HB.out | apply below_alloc)⟩
  clear HB
  generalize (((((w1.alloc (.cells #[Value.int IntKind.i64 2] 3 (0, 0))).alloc (.cells #[Value.int IntKind.i64 2, Value.int IntKind.i64 3] 3 (0, 0))).alloc (.cells #[Value.int IntKind.i64 4] 3 (0, 0))).alloc (.cells #[] 3 (0, 0))).alloc
    (.cells #[Value.slice (some ⟨w1.heap.size, 0, none⟩) 1 1, Value.slice (some ⟨w1.heap.size + 1, 0, none⟩) 2 2, Value.slice (some ⟨w1.heap.size + 1 + 1, 0, none⟩) 1 1, Value.slice (some ⟨w1.heap.size + 1 + 1 + 1, 0, none⟩) 0 0] 34 (0, 0))) = W2 at *
  generalize w1.heap.size = q at *
  go_loopw [2] (fun v2 wr => ∃ i : Nat, i ≤ 4 ∧ v2 = .int .i64 (i : Int) ∧ Aside0 (Below W2.heap.size W2 wr)) (fun v2 _ => 4 - (intOf v2).toNat)
  case atStart => exact ⟨0, by omega, rfl, ⟨Below.refl _ _⟩⟩
  case round =>
    obtain ⟨i, hi, rfl, HB⟩ := hrel
    by_cases ci : i < 4
    · obtain ⟨f, hf⟩ : ∃ f, stand i (ways i).length = f := ⟨_, rfl⟩
      have hfc := stand_at i ci
      rw [hf] at hfc
      have HF := Aside0.mk hf
      have hl0 : (0 : Nat) + (ways i).length = (ways i).length := by omega
      obtain ⟨n, hn⟩ : ∃ n, (ways i).length = n := ⟨_, rfl⟩
      have HN := Aside0.mk hn
      have hn2 : n ≤ 2 := by
        rw [← hn]
        rcases (by omega : i = 0 ∨ i = 1 ∨ i = 2 ∨ i = 3) with rfl | rfl | rfl | rfl <;> decide +kernel
      clear hf hl0 hn
      have cib : decide ((i : Int) < 4) = true := decide_eq_true (by omega)
      go_wp2
      go_loopw [3] (fun v3 wt => ∃ t : Nat, t ≤ 6 ∧ v3 = .int .i64 (t : Int) ∧ Aside0 (Below W2.heap.size W2 wt)) (fun v3 _ => 6 - (intOf v3).toNat)
      case atStart => exact ⟨0, by omega, rfl, HB⟩
      case round =>
        clear HB
        obtain ⟨t, ht, rfl, HB⟩ := hrel
        by_cases ct : t < 6
        · go_wp2_with (go_at_call 9; (refine (newC0 (w0 := W2) 2 2 _ HB.out (by decide +kernel)).mono ?_); rintro e w2 ⟨g, rfl, hS, -, -⟩; have HS : Aside0 (St W2 w2 g ([1, 1], [0, 0])) := Aside0.mk hS; clear hS)
          clear HB
          go_loopw [5] (fun v5 wk => ∃ k : Nat, k ≤ n ∧ v5 = .int .i64 (k : Int) ∧ Aside0 (St W2 wk g ([1, stand i k], [0, 0]))) (fun v5 _ => 2 - (intOf v5).toNat)
          case atStart => exact ⟨0, by omega, rfl, HS⟩
          case round =>
            clear HS
            obtain ⟨k, hk, rfl, HS⟩ := hrel
            have hwc := ((HW.out.below HS.out.bel) i ci).1
            rw [HN.out] at hwc
            by_cases ck : k < n
            · have hwd := ((HW.out.below HS.out.bel) i ci).2 k (by rw [HN.out]; exact ck)
              have HT := Aside0.mk (stand_turn i k ci (by rw [HN.out]; exact ck))
              obtain ⟨x, hx⟩ : ∃ x, (ways i).getD k 0 = x := ⟨_, rfl⟩
              rw [hx] at hwd HT
              clear hx
              go_wp2_with (go_at_call 10; (refine (turnC HS _ _ _ _ HT.out).mono ?_); rintro e w3 ⟨rfl, HS1, -⟩; clear HS; have HS := HS1; clear HS1)
              go_roundw
              case rel => exact ⟨k + 1, by omega, by go_num, HS⟩
              case measure => simp [intOf]; omega
            · obtain rfl : k = n := by omega
              rw [← HN.out, HF.out] at HS
              obtain ⟨r, hr, hcs⟩ := want_cases f (t : Int) hfc
              have HT : Aside0 (turnF ([1, f], [0, 0]) 1 (t : Int) = (r, ([1, if r = true then (t : Int) else f], [0, 0]))) := ⟨by rw [turn_gen, hr]⟩
              clear hr hfc HN HF
              rcases hcs with ⟨rfl, h1, rfl⟩ | ⟨rfl, h1, h2, rfl⟩ | ⟨rfl, h1, h2, rfl⟩ | ⟨rfl, h1, rfl⟩ | ⟨rfl, h1, h2, rfl⟩ | ⟨rfl, h1, h2, rfl⟩ | ⟨rfl, h1, rfl⟩ | ⟨rfl, h1, h2, rfl⟩ | ⟨rfl, h1, h2, rfl⟩ | ⟨rfl, rfl⟩
              all_goals
                go_wp2_with (first
                  | (go_at_call 13; (first | (with_reducible refine (stateC HS 1 _ (state_one _ _)).mono ?_) | (with_reducible refine (stateC HS 0 _ (state_nought _ _)).mono ?_)); rintro e w4 ⟨rfl, ⟨nd, rfl⟩⟩; have HS1 := Aside0.mk (HS.out.drewN nd); clear HS; have HS := HS1; clear HS1)
                  | (go_at_call 10; (refine (turnC HS _ _ _ _ HT.out).mono ?_); rintro e w5 ⟨rfl, HS1, -⟩; clear HS; have HS := HS1; clear HS1))
                go_roundw
                case rel => exact ⟨t + 1, by omega, by go_num, ⟨HS.out.bel⟩⟩
                case measure => simp [intOf]; omega
        · go_wp2
          go_roundw
          case rel => exact ⟨i + 1, by omega, by go_num, HB⟩
          case measure => simp [intOf]; omega
    · clear HW
      go_wp2_with (first
        | (go_at_call 9; (first
          | ((with_reducible refine (newC0 (w0 := W2) 64 73 _ HB.out (by decide +kernel)).mono ?_); rintro e w2 ⟨g, rfl, hS, -, -⟩; have HS := Aside0.mk hS; clear hS HB)
          | ((with_reducible refine (newC 0 (-4) _ (by decide +kernel)).mono ?_); rintro e w5 ⟨g2, rfl, hS⟩; have HS2 := Aside0.mk hS; clear hS)))
        | (go_at_call 14; (refine (erasedC HS _ _ y64_is).mono ?_); rintro e w3 ⟨rfl, HS1, -⟩; clear HS; have HS := HS1; clear HS1)
        | (go_at_call 11; (first
          | (refine (countC HS2 _ _ y0_count).mono ?_; rintro e w6 ⟨rfl, HS3, -⟩; have HS1 := Aside0.mk (HS.out.below HS3.out.bel); clear HS HS2 HS3; have HS := HS1; clear HS1)
          | (refine (countC HS _ _ y64_count).mono ?_; rintro e w6 ⟨rfl, HS1, -⟩; clear HS; have HS := HS1; clear HS1)))
        | (go_at_call 16; (first | (with_reducible refine (erasesC HS 3 1 y64_erases).mono ?_) | (with_reducible refine (erasesC HS 99 0 y64_far).mono ?_)); rintro e w7 ⟨rfl, ⟨nd, rfl⟩⟩; have HS1 := Aside0.mk (HS.out.drewN nd); clear HS; have HS := HS1; clear HS1)
        | (go_at_call 10; (refine (turnC HS _ _ _ _ y64_turn).mono ?_); rintro e w8 ⟨rfl, HS1, -⟩; clear HS; have HS := HS1; clear HS1))
      go_ret
      exact ⟨by first | rfl | (simp; done), below_step HB2.out HS.out.bel⟩
end Go.Proofs.Ytfgfjgjabcmheaa.M
