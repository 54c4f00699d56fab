/- Tales: decimals, walked; by hand. -/
import Derived.Test.YthdmeffjiljdeaaDoorO
namespace Go.Proofs.YthdmeffjiljdeaaDoor.M
open Go.RowKit Go.Proofs.YthdmeffjiljdeaaDoorW.PrintWords Go.Proofs.YthdmeffjiljdeaaDoorW.PrintLast Go.Proofs.YthdmeffjiljdeaaDoorW.PrintMore Go.Proofs.YthdmeffjiljdeaaDoor.Rw Go.Proofs.YthdmeffjiljdeaaDoor.Fl
set_option linter.unusedVariables false
set_option linter.unusedSimpArgs false
theorem byte_str (W : World) (k : Int) (h0 : 0 ≤ k) (h1 : k < 256) : (convert 29 9 (.slice (some ⟨W.heap.size, 0, none⟩) 1 1)).run Tryd.prog (W.alloc (.cells #[.int .u8 k] 5)) = .ok (.string ⟨#[UInt8.ofNat k.toNat]⟩) (W.alloc (.cells #[.int .u8 k] 5)) := by
  obtain ⟨c, rfl⟩ : ∃ c : Nat, k = (c : Int) := ⟨k.toNat, by omega⟩
  have hb := blk_new W (.cells #[.int .u8 (c : Int)] 5 (0, 0))
  have hO : (W.alloc (.cells #[.int .u8 (c : Int)] 5)).ownsRow 0 5 1 (.slice (some ⟨W.heap.size, 0, none⟩) 1 1) 1 ([(c : Int)].map (Value.int .u8)) := ⟨rfl, .inr ⟨W.heap.size, 1, _, rfl, Nat.zero_le _, hb, by decide, by decide, rfl, rfl⟩⟩
  have h := string_of_reads (src := 29) (dst := 9) (c := 1) Tryd.underlying29 Tryd.underlying5 Tryd.underlying9 (own_reads' hO)
  rw [h]
  have e : strOfNums [(c : Int)] = ⟨#[UInt8.ofNat c]⟩ := by
    unfold strOfNums
    simp
  rw [e, Int.toNat_natCast]
theorem tdiv_in {m : Int} (h0 : 0 ≤ m) (h1 : m ≤ 1000) : 0 ≤ m.tdiv 10 ∧ m.tdiv 10 ≤ 100 ∧ 0 ≤ m.tmod 10 ∧ m.tmod 10 ≤ 9 := by
  rw [Int.tdiv_eq_ediv_of_nonneg h0, Int.tmod_eq_emod_of_nonneg h0]
  omega
set_option maxHeartbeats 3200000 in
theorem dec0 (n : Int) (h0 : 0 ≤ n) (h1 : n ≤ 1000) (w : World) : Calls Tryd.prog 10 #[.int .i64 n] w fun e w' => e = .returned (strV (Lib.itoa n)) ∧ Aside0 (Below w.heap.size w w') := by
  obtain ⟨T, hT⟩ : ∃ T : ByteArray, (⟨(Lib.itoa n).toArray⟩ : ByteArray) = T := ⟨_, rfl⟩
  have HL0 := Aside0.mk (num_is (n := n) (by omega) h1).l
  unfold strV
  rw [hT]
  have HT := Aside0.mk hT
  have HB0 := Aside0.mk (Below.refl w.heap.size w)
  have Hn := Aside0.mk (And.intro h0 h1)
  have hn10 : ¬ n ≤ -10 := by omega
  clear hT
  go_enter Tryd.func10, Tryd.ntmps10
  go_upto_region 6 with (fail)
  clear hn10 h0 h1
  go_loopw [0, 3] (fun v0 v3 wr => ∃ (m : Int) (S : List UInt8), 0 ≤ m ∧ m ≤ 1000 ∧ v0 = .int .i64 m ∧ v3 = .string ⟨S.toArray⟩ ∧ Aside0 (Lib.itoa n = Lib.itoa m ++ S) ∧ Aside0 (Below w.heap.size w wr)) (fun v0 _ _ => (intOf v0).toNat)
  case atStart => exact ⟨n, [], Hn.out.1, Hn.out.2, rfl, rfl, ⟨by simp⟩, HB0⟩
  case round =>
    clear HB0
    obtain ⟨m, S, m0, m1, rfl, rfl, HS, HB⟩ := hrel
    have Hd := Aside0.mk (dec_ok (n := m) (by omega) m1)
    have Hsl : Aside0 (S.length ≤ 5) := ⟨by
      have h2 := HL0.out
      rw [HS.out, List.length_append] at h2
      omega⟩
    obtain ⟨S1, hS1⟩ : ∃ S1 : ByteArray, (⟨S.toArray⟩ : ByteArray) = S1 := ⟨_, rfl⟩
    have HS1 := Aside0.mk hS1
    rw [hS1]
    clear hS1
    by_cases c9 : 9 < m
    · obtain ⟨q0, q1, r0, r1⟩ := tdiv_in m0 m1
      obtain ⟨q, hq⟩ : ∃ q, m.tdiv 10 = q := ⟨_, rfl⟩
      obtain ⟨r, hr⟩ : ∃ r, m.tmod 10 = r := ⟨_, rfl⟩
      have Hlt : Aside0 (0 ≤ q ∧ q < m ∧ q ≤ 1000) := ⟨by
        refine ⟨by rw [← hq]; exact q0, ?_, by omega⟩
        rw [← hq, Int.tdiv_eq_ediv_of_nonneg m0]; omega⟩
      rw [hr] at r0 r1
      obtain ⟨k, hk⟩ : ∃ k, 48 + r = k := ⟨_, rfl⟩
      have HD : Aside0 (Lib.itoa m = Lib.itoa q ++ [UInt8.ofNat k.toNat]) := ⟨by
        have h := Hd.out
        unfold decOK at h
        rw [if_neg (by omega), if_neg (by omega), if_pos c9, hq, hr] at h
        rw [show k.toNat = 48 + r.toNat by omega]
        exact (eq_of_beq h).symm⟩
      have hr8 : r % 256 = r := by omega
      have hr9 : k % 256 = k := by omega
      obtain ⟨C, hC⟩ : ∃ C : ByteArray, (⟨#[UInt8.ofNat k.toNat]⟩ : ByteArray) = C := ⟨_, rfl⟩
      have hst := byte_str wr k (by omega) (by omega)
      rw [hC] at hst
      obtain ⟨S2, hS2⟩ : ∃ S2 : ByteArray, C ++ S1 = S2 := ⟨_, rfl⟩
      have hcat : ∀ W, (Op.stringOp .add C S1).run Tryd.prog W = .ok (.string S2) W := fun W => by
        rw [← hS2]
        refine run_string_add _ _ _ ?_ ?_
        · rw [← hC]; exact (by decide : (1 : Int) ≤ 8388608)
        · rw [← HS1.out, tl_str]; have := Hsl.out; omega
      have HS2 : Aside0 (S2 = ⟨(UInt8.ofNat k.toNat :: S).toArray⟩) := ⟨by
        rw [← hS2, ← hC, ← HS1.out]
        apply congrArg ByteArray.mk
        simp⟩
      clear hC hS2 Hd
      go_upto_region 8 with (fail)
      have HB2 : Aside0 (Below w.heap.size w (wr.alloc (.cells #[.int .u8 k] 5))) := ⟨HB.out.alloc HB.out.size _⟩
      generalize wr.alloc (.cells #[.int .u8 k] 5) = w2 at *
      clear HB hst hcat
      go_wp2
      go_roundw
      case rel => exact ⟨q, UInt8.ofNat k.toNat :: S, Hlt.out.1, Hlt.out.2.2, rfl, by rw [HS2.out], ⟨by rw [HS.out, HD.out]; simp⟩, HB2⟩
      case measure => have h1 := Hlt.out; show q.toNat < m.toNat; omega
    · obtain ⟨k, hk⟩ : ∃ k, 48 + m = k := ⟨_, rfl⟩
      have HD : Aside0 (Lib.itoa m = [UInt8.ofNat k.toNat]) := ⟨by
        have h := Hd.out
        unfold decOK at h
        rw [if_neg (by omega), if_neg (by omega), if_neg c9] at h
        rw [show k.toNat = 48 + m.toNat by omega]
        exact eq_of_beq h⟩
      have hr8 : m % 256 = m := by omega
      have hr9 : k % 256 = k := by omega
      obtain ⟨C, hC⟩ : ∃ C : ByteArray, (⟨#[UInt8.ofNat k.toNat]⟩ : ByteArray) = C := ⟨_, rfl⟩
      have hst := byte_str wr k (by omega) (by omega)
      rw [hC] at hst
      have hcat : ∀ W, (Op.stringOp .add C S1).run Tryd.prog W = .ok (.string T) W := fun W => by
        have hS2 : C ++ S1 = T := by
          rw [← HT.out, HS.out, HD.out, ← hC, ← HS1.out]
          apply congrArg ByteArray.mk
          simp
        rw [← hS2]
        refine run_string_add _ _ _ ?_ ?_
        · rw [← hC]; exact (by decide : (1 : Int) ≤ 8388608)
        · rw [← HS1.out, tl_str]; have := Hsl.out; omega
      clear hC Hd
      go_wp2
      go_ret
      exact ⟨rfl, ⟨HB.out.alloc HB.out.size _⟩⟩
theorem neg_in {n : Int} (h0 : n ≤ -10) (h1 : -1000 ≤ n) : n < n.tdiv 10 ∧ -100 ≤ n.tdiv 10 ∧ n.tdiv 10 ≤ -1 ∧ 0 ≤ -(n.tmod 10) ∧ -(n.tmod 10) ≤ 9 := by
  have e2 : (-n).tdiv 10 = -(n.tdiv 10) := Int.neg_tdiv ..
  have e3 : (-n).tmod 10 = -(n.tmod 10) := Int.neg_tmod ..
  rw [Int.tdiv_eq_ediv_of_nonneg (by omega)] at e2
  rw [Int.tmod_eq_emod_of_nonneg (by omega)] at e3
  omega
set_option maxHeartbeats 3200000 in
theorem decimalC : ∀ (K : Nat) (n : Int), n.natAbs ≤ K → -1000 ≤ n → n ≤ 1000 → ∀ w, Calls Tryd.prog 10 #[.int .i64 n] w fun e w' => e = .returned (strV (Lib.itoa n)) ∧ Aside0 (Below w.heap.size w w')
  | K, n, hK, hl, hh, w => by
    by_cases h0 : 0 ≤ n
    · exact dec0 n h0 hh w
    obtain ⟨T, hT⟩ : ∃ T : ByteArray, (⟨(Lib.itoa n).toArray⟩ : ByteArray) = T := ⟨_, rfl⟩
    have HD := Aside0.mk (dec_ok hl hh)
    have HB0 := Aside0.mk (Below.refl w.heap.size w)
    by_cases h10 : n ≤ -10
    · obtain ⟨qn, q0, q1, r0, r1⟩ := neg_in h10 hl
      match K with
      | 0 => omega
      | K + 1 =>
        have H1 := Aside0.mk (fun W => decimalC K (n.tdiv 10) (by omega) (by omega) (by omega) W)
        have H2 := Aside0.mk (fun W => dec0 (-(n.tmod 10)) r0 (by omega) W)
        have HE : Aside0 (Lib.itoa (n.tdiv 10) ++ Lib.itoa (-(n.tmod 10)) = Lib.itoa n) := ⟨by
          have h := HD.out
          unfold decOK at h
          rw [if_pos h10] at h
          exact eq_of_beq h⟩
        have L1 := Aside0.mk (num_is (n := n.tdiv 10) (by omega) (by omega)).l
        have L2 := Aside0.mk (num_is (n := -(n.tmod 10)) (by omega) (by omega)).l
        obtain ⟨q, hq⟩ : ∃ q, n.tdiv 10 = q := ⟨_, rfl⟩
        obtain ⟨r, hr⟩ : ∃ r, n.tmod 10 = r := ⟨_, rfl⟩
        obtain ⟨s, hs⟩ : ∃ s, -r = s := ⟨_, rfl⟩
        rw [hr, hs] at H2 HE L2
        rw [hq] at H1 HE L1
        rw [hr, hs] at r0 r1
        rw [hq] at q0 q1 qn
        have hw1 : IntKind.i64.wrap (-r) = s := by rw [hs]; exact wrap_i64_self (by omega) (by omega)
        obtain ⟨A, hA⟩ : ∃ A : ByteArray, (⟨(Lib.itoa q).toArray⟩ : ByteArray) = A := ⟨_, rfl⟩
        obtain ⟨B, hB⟩ : ∃ B : ByteArray, (⟨(Lib.itoa s).toArray⟩ : ByteArray) = B := ⟨_, rfl⟩
        unfold strV at H1 H2 ⊢
        rw [hA] at H1
        rw [hB] at H2
        rw [hT]
        have hcat : ∀ W, (Op.stringOp .add A B).run Tryd.prog W = .ok (.string T) W := fun W => by
          have hS2 : A ++ B = T := by
            rw [← hT, ← HE.out, ← hA, ← hB]
            apply congrArg ByteArray.mk
            simp
          rw [← hS2]
          refine run_string_add _ _ _ ?_ ?_
          · rw [← hA, tl_str]; have := L1.out; omega
          · rw [← hB, tl_str]; have := L2.out; omega
        clear hT HD hA hB HE L1 L2 hK qn
        go_enter Tryd.func10, Tryd.ntmps10
        go_wp2_with (first
          | (go_at_call 10; with_reducible refine (H1.out _).mono ?_; rintro e w2 ⟨rfl, HB1⟩)
          | (go_at_call 10; with_reducible refine (H2.out _).mono ?_; rintro e w3 ⟨rfl, HB2⟩))
        go_ret
        exact ⟨rfl, ⟨Below.trans HB1.out (HB2.out.mono HB1.out.size)⟩⟩
    · have H2 := Aside0.mk (fun W => dec0 (-n) (by omega) (by omega) W)
      have HE : Aside0 (45 :: Lib.itoa (-n) = Lib.itoa n) := ⟨by
        have h := HD.out
        unfold decOK at h
        rw [if_neg h10, if_pos (by omega)] at h
        exact eq_of_beq h⟩
      have L2 := Aside0.mk (num_is (n := -n) (by omega) (by omega)).l
      obtain ⟨s, hs⟩ : ∃ s, -n = s := ⟨_, rfl⟩
      rw [hs] at H2 HE L2
      have hw1 : IntKind.i64.wrap (-n) = s := by rw [hs]; exact wrap_i64_self (by omega) (by omega)
      obtain ⟨B, hB⟩ : ∃ B : ByteArray, (⟨(Lib.itoa s).toArray⟩ : ByteArray) = B := ⟨_, rfl⟩
      unfold strV at H2 ⊢
      rw [hB] at H2
      rw [hT]
      have hcat : ∀ W, (Op.stringOp .add (⟨#[45]⟩ : ByteArray) B).run Tryd.prog W = .ok (.string T) W := fun W => by
        have hS2 : (⟨#[45]⟩ : ByteArray) ++ B = T := by
          rw [← hT, ← HE.out, ← hB]
          apply congrArg ByteArray.mk
          simp
        rw [← hS2]
        refine run_string_add _ _ _ (by decide) ?_
        rw [← hB, tl_str]; have := L2.out; omega
      have hn0 : n < 0 := by omega
      clear hT HD hB HE L2 hK h0
      go_enter Tryd.func10, Tryd.ntmps10
      go_wp2_with (first
        | (go_at_call 10; with_reducible refine (H2.out _).mono ?_; rintro e w3 ⟨rfl, HB2⟩))
      go_ret
      exact ⟨rfl, HB2⟩
end Go.Proofs.YthdmeffjiljdeaaDoor.M
