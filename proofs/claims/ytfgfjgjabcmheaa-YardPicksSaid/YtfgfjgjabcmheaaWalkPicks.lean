/- The walk of YardPicks: wiped in turn, blocks wear alike. -/
import Derived.Test.YtfgfjgjabcmheaaD
import Derived.BigQuiet
import Derived.Deep.QuietTactic
namespace Go.Proofs.Ytfgfjgjabcmheaa.M
open Go.RowKit Go.Proofs.YtfgfjgjabcmheaaW.PrintWords Go.Proofs.YtfgfjgjabcmheaaW.PrintLast Go.Proofs.YtfgfjgjabcmheaaW.PrintMore
set_option linter.unusedVariables false
set_option linter.unusedSimpArgs false
set_option maxHeartbeats 1600000 in
theorem picks_walk (a0 : Int) (a1 : Int) (w : World) (w0 : (Lit.int .u8 a0).wf = true) (w1 : (Lit.int .u8 a1).wf = true) :
    Calls Try.prog 6 #[.int .u8 a0, .int .u8 a1] w fun e w' => e = .returned (.bool true) ∧ Below w.heap.size w w' := by
  have b0 := bounds_u8 w0
  have b1 := bounds_u8 w1
  clear w0 w1
  obtain ⟨b00, b01⟩ := b0
  obtain ⟨b10, b11⟩ := b1
  obtain ⟨k, hk⟩ : ∃ k : Nat, 2 + a0 % 12 = (k : Int) := ⟨(2 + a0 % 12).toNat, by omega⟩
  have hk1 : 2 ≤ k := by omega
  have hk2 : k ≤ 13 := by omega
  go_enter Try.func6, Try.ntmps6
  go_wp2_with (first
    | (go_at_call 8; (refine (awakeC _).mono ?_); rintro e w1 ⟨rfl, hb⟩; have HB := Aside0.mk hb; clear hb)
    | (go_at_call 9; (refine (newC0 (w0 := w) k _ _ HB.out (newN_of rfl (by omega))).mono ?_); rintro e w2 ⟨g, rfl, hS, -, -⟩; rw [newY_lvl] at hS; have HS := Aside0.mk hS; clear hS))
  clear HB hk b00 b01
  go_loopw [7] (fun v7 wr => ∃ i q r : Nat, i = k * q + r ∧ r < k ∧ (i : Int) ≤ a1 ∧ v7 = .int .i64 (i : Int) ∧ Aside0 (St w wr g (List.replicate k 1, lvl k q r))) (fun v7 _ => (a1 - intOf v7).toNat)
  case atStart => exact ⟨0, 0, 0, by omega, by omega, b10, rfl, HS⟩
  case round =>
    clear HS
    obtain ⟨i, q, r, hi, hr, hia, rfl, HS⟩ := hrel
    have hqi : q ≤ i := by rw [hi]; exact Nat.le_trans (Nat.le_mul_of_pos_left q (by omega)) (Nat.le_add_right _ _)
    have hdiv : (i : Int) / (k : Int) = (q : Int) := by
      rw [hi, ← Int.natCast_ediv, Nat.mul_add_div (by omega), Nat.div_eq_of_lt hr]; rfl
    have HI := Aside0.mk hi
    clear hi
    by_cases c : (i : Int) < a1
    · have HP := Aside0.mk (lvl_pick k q r hr)
      have HT1 := Aside0.mk (turn1 k r (lvl k q r) hr)
      have HT2 := Aside0.mk (turn2 k r (lvl k q r) hr)
      have HT3 := Aside0.mk (turn3 k r (lvl k q r) hr)
      have HE := Aside0.mk (erased1 k q r hr (by omega))
      go_wp2_with (first
        | (go_at_call 12; (refine (pickC HS _ _ HP.out).mono ?_); rintro e w3 ⟨rfl, HS1, -⟩; clear HS; have HS := HS1; clear HS1)
        | (go_at_call 10; (refine (turnC HS _ _ _ _ (by first | exact HT1.out | exact HT2.out | exact HT3.out)).mono ?_); rintro e w4 ⟨rfl, HS1, -⟩; clear HS; have HS := HS1; clear HS1)
        | (go_at_call 14; (refine (erasedC HS _ _ HE.out).mono ?_); rintro e w5 ⟨rfl, HS1, -⟩; clear HS; have HS := HS1; clear HS1))
      clear HP HT1 HT2 HT3 HE
      go_loopw [10] (fun v10 wi => ∃ c : Nat, c ≤ k ∧ v10 = .int .i64 (c : Int) ∧ Aside0 (St w wi g (List.replicate k 1, lvl k q (r + 1)))) (fun v10 _ => k - (intOf v10).toNat)
      case atStart => exact ⟨0, by omega, rfl, HS⟩
      case round =>
        clear HS
        obtain ⟨c, hc, rfl, HS⟩ := hrel
        by_cases hck : c < k
        · obtain ⟨t, ht0, ht1, ht⟩ : ∃ t : Int, 0 ≤ t ∧ t ≤ 1 ∧ erasesF (List.replicate k 1, lvl k q (r + 1)) (c : Int) = (q : Int) + t := ⟨if c < r + 1 then 1 else 0, by split <;> omega, by split <;> omega, erases1 k q (r + 1) c hck⟩
          have HV := Aside0.mk ht
          clear ht
          have hsub : (q : Int) + t - (q : Int) = t := by omega
          go_wp2
          go_quiet ((go_at_call 16; exact Calls.quiet_of ((erasesC ⟨HS.out.drewN _⟩ _ _ HV.out).mono fun e w' h => ⟨h.1, h.2.out⟩)))
          go_wp2
          go_roundw
          case rel => exact ⟨c + 1, by omega, by go_num, ⟨HS.out.drewN _⟩⟩
          case measure => simp [intOf]; omega
        · go_wp2
          go_roundw
          case rel =>
            by_cases e : r + 1 = k
            · refine ⟨i + 1, q + 1, 0, ?_, by omega, by omega, by go_num, ?_⟩
              · have := HI.out; rw [this, Nat.mul_add, Nat.mul_one]; omega
              · have h_ := HS; rw [e, lvl_full] at h_; exact h_
            · exact ⟨i + 1, q, r + 1, by have := HI.out; omega, by omega, by omega, by go_num, HS⟩
          case measure => simp [intOf]; omega
    · go_wp2
      go_ret
      exact ⟨rfl, HS.out.bel⟩
end Go.Proofs.Ytfgfjgjabcmheaa.M
