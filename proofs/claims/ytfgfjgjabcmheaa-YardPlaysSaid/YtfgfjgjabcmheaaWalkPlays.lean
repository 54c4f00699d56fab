/- The walk of YardPlays: whatever blocks become, however often they are wiped: their states, their numbers, who is picked. -/
import Derived.Test.YtfgfjgjabcmheaaG
import Derived.Deep.CutRange
import Derived.Deep.CutBlock
namespace Go.Proofs.Ytfgfjgjabcmheaa.M
open Go.RowKit Go.Proofs.YtfgfjgjabcmheaaW.PrintWords Go.Proofs.YtfgfjgjabcmheaaW.PrintLast Go.Proofs.YtfgfjgjabcmheaaW.PrintMore Go.Proofs.Ytfgfjgjabcmheaa.Rw
set_option linter.unusedVariables false
set_option linter.unusedSimpArgs false
/-- the state, and the law's own two rows beside it -/
structure Hd (k : Nat) (w W : World) (g qa qb : Nat) (s e : List Int) : Prop where
  st : St w W g (s, e)
  ra : Row (Value.int .i64) 3 W qa s
  rb : Row (Value.int .i64) 3 W qb e
  ls : s.length = k
  le : e.length = k
  i4 : In4 s
section
variable {k : Nat} {w W W1 : World} {g qa qb : Nat} {s e : List Int}
theorem Hd.below (h : Hd k w W g qa qb s e) (hb : Below W.heap.size W W1) : Hd k w W1 g qa qb s e := ⟨h.st.below hb, h.ra.below hb, h.rb.below hb, h.ls, h.le, h.i4⟩
theorem Hd.alloc (h : Hd k w W g qa qb s e) (o : Obj) : Hd k w (W.alloc o) g qa qb s e := h.below (below_alloc (Below.refl _ _) o)
theorem Hd.drewN (h : Hd k w W g qa qb s e) (n : Nat) : Hd k w (W.drewN n) g qa qb s e := h.below (pw_below_drewN (Below.refl _ _) n)
theorem Hd.far (h : Hd k w W g qa qb s e) {p : Addr} (hg : g < p.block) (ha : qa ≠ p.block) (hb : qb ≠ p.block) (u : Value) : Hd k w (W.setCell p u) g qa qb s e := ⟨h.st.far hg u, h.ra.far ha u, h.rb.far hb u, h.ls, h.le, h.i4⟩
theorem Hd.up (h : Hd k w W g qa qb s e) (hs : St w W1 g (s, e)) (hk : KeepUp W W1 g) (ha : g < qa) (hb : g < qb) : Hd k w W1 g qa qb s e := ⟨hs, hk.row h.ra ha, hk.row h.rb hb, h.ls, h.le, h.i4⟩
theorem Hd.ge (h : Hd k w W g qa qb s e) : w.heap.size ≤ g := h.st.is.ge
end
/-- the first b are told -/
def mayL (s : List Int) (b : Nat) : List Bool := (s.take b).map (· == 1) ++ List.replicate (s.length - b) false
theorem mayL_len {s : List Int} {b : Nat} (h : b ≤ s.length) : (mayL s b).length = s.length := by simp [mayL]; omega
theorem mayL_set {s : List Int} {b : Nat} (h : b < s.length) {a : Int} (ha : s.getD b 0 = a) : (mayL s b).set b (a == 1) = mayL s (b + 1) := by
  have hb : s[b] = a := by rw [← ha, List.getD_eq_getElem?_getD, List.getElem?_eq_getElem h]; rfl
  unfold mayL
  rw [List.set_append_right _ _ (by simp; omega), List.length_map, List.length_take, Nat.min_eq_left (by omega), Nat.sub_self, show s.length - b = (s.length - (b + 1)) + 1 from by omega, List.replicate_succ, List.set_cons_zero, List.take_succ_eq_append_getElem h, List.map_append, List.append_assoc, hb]
  rfl
theorem mayL_all (s : List Int) : mayL s s.length = whichP s 1 := by simp [mayL, whichP]
theorem mayL_0 (s : List Int) {k : Nat} (h : s.length = k) : mayL s 0 = List.replicate k false := by simp [mayL, h]
theorem refPick_k (k : Nat) (s e : List Int) (p : Int) (ok : Bool) (he : e.length = k) (hs : s.length = k) (hl : k ≤ 64) (hp : pickP (s, e) = (p, ok)) {q0 q1 : Nat} {w : World} (h0 : Row (Value.int .i64) 3 w q0 e) (h1 : Row Value.bool 4 w q1 (whichP s 1)) :
    Calls Try.prog 17 #[.slice (some ⟨q0, 0, none⟩) k k, .slice (some ⟨q1, 0, none⟩) k k] w fun e' w' => e' = .returned (.tuple #[.int .i64 p, .bool ok]) ∧ Below w.heap.size w w' := by
  have := refPick_calls s e p ok (by omega) (by omega) hp h0 h1
  rw [he, show (whichP s 1).length = k from by simp [whichP, hs]] at this
  exact this
theorem state_far (s e : List Int) {b : Int} (h : thereB s b = false) : stateF (s, e) b = 0 := by
  unfold stateF; rw [if_neg (by show ¬ thereB s b = true; rw [h]; simp)]
theorem turnsR (a t : Int) (ha : a = 1 ∨ a = 2 ∨ a = 3 ∨ a = 4) (r : Bool) (hr : mayB a t = r) (w : World) : Calls Try.prog 15 #[.int .i64 a, .int .i64 t] w fun e w' => e = .returned (.bool r) ∧ Drawn0 w w' := by
  subst hr; exact turns_calls a t ha w
theorem KeepUp.blk {w w' : World} {g q : Nat} {o : Obj} (h : KeepUp w w' g) (hr : w.heap[q]? = some o) (hq : g < q) : w'.heap[q]? = some o := (h.2 q (blk_lt hr) hq).trans hr
set_option maxHeartbeats 3200000 in
set_option maxRecDepth 100000 in
theorem plays_walk (a0 : Int) (A1 : Option Addr) (c1 : Nat) (l1 : List ((Int) × (Int) × (Int))) (w : World) (w0 : (Lit.int .u8 a0).wf = true) (r1 : Kd.C (Kd.pair (Kd.int .i64) (Kd.pair (Kd.int .i64) (Kd.int .i64))) w A1 l1.length l1) (k1 : l1.length ≤ c1) (m1 : l1.length ≤ maxLen) (y1 : l1.length * 24 ≤ 140737488351232) (g1 : ∀ y ∈ l1, ((Lit.int .i64 y.1).wf = true ∧ (Lit.int .i64 y.2.1).wf = true ∧ (Lit.int .i64 y.2.2).wf = true)) :
    Calls Try.prog 4 #[.int .u8 a0, .slice A1 l1.length c1] w fun e w' => e = .returned (.bool true) ∧ Below w.heap.size w w' := by
  have b0 := bounds_u8 w0
  clear w0
  obtain ⟨b00, b01⟩ := b0
  have HR1 := Aside0.mk r1
  clear r1 g1 m1
  obtain ⟨k, hk⟩ : ∃ k : Nat, a0 % 65 = (k : Int) := ⟨(a0 % 65).toNat, by omega⟩
  have hk2 : k ≤ 64 := by omega
  have hmk := mk34 k hk2
  have hmkb := mk_row (P := Try.prog) Try.underlying26 info4S rfl k (by omega) (by omega)
  by_cases hl : (300 : Int) < (l1.length : Int)
  · go_enter Try.func4, Try.ntmps4
    go_wp2_with (first
      | (go_at_call 8; (refine (awakeC _).mono ?_); rintro e w1 ⟨rfl, hb⟩; have HB := Aside0.mk hb; clear hb))
    go_ret
    exact ⟨rfl, HB.out⟩
  ·
    as_aux_lemma =>
      have hlb : decide ((300 : Int) < (l1.length : Int)) = false := decide_eq_false hl
      go_enter Try.func4, Try.ntmps4
      go_upto_region 9 with (first
        | (go_at_call 8; (refine (awakeC _).mono ?_); rintro e w1 ⟨rfl, hb⟩; have HB := Aside0.mk hb; clear hb)
        | (go_at_call 9; (refine (newC0 (w0 := w) k _ _ HB.out (newN_of rfl (by omega))).mono ?_); rintro e w2 ⟨g, rfl, hS, -, -⟩; have HS := Aside0.mk hS; clear hS))
      go_cut [7, 8] from 36 (fun s7 s8 wx => ∃ qa qb : Nat, s7 = .slice (some ⟨qa, 0, none⟩) k k ∧ s8 = .slice (some ⟨qb, 0, none⟩) k k ∧ qa ≠ qb ∧ g < qa ∧ g < qb ∧ Aside0 (St w wx g (newY k)) ∧ Aside0 (Row (Value.int .i64) 3 wx qa (List.replicate k 0)) ∧ Aside0 (Row (Value.int .i64) 3 wx qb (List.replicate k 0)))
      case first =>
        have hlt := HS.out.is.lt
        go_region
        all_goals
          go_wp2
          go_meet
          case rel =>
            first
              | exact ⟨_, _, rfl, rfl, by omega, by omega, by omega, ⟨((HS.out.alloc _).alloc _).drew⟩, ⟨((made_row w2 k (0 : Int)).alloc _).drew⟩, ⟨by have h_ := made_row (enc := Value.int .i64) (t := 3) (w2.alloc (.cells (Array.replicate k (Value.int .i64 0)) 3 (0, 0))) k (0 : Int); rw [show (w2.alloc (.cells (Array.replicate k (Value.int .i64 0)) 3 (0, 0))).heap.size = w2.heap.size + 1 from by simp] at h_; exact h_.drew⟩⟩
              | exact ⟨_, _, rfl, rfl, by omega, by omega, by omega, ⟨((HS.out.alloc _).alloc _).drew⟩, ⟨by have h_ := made_row (enc := Value.int .i64) (t := 3) (w2.alloc (.cells (Array.replicate k (Value.int .i64 0)) 3 (0, 0))) k (0 : Int); rw [show (w2.alloc (.cells (Array.replicate k (Value.int .i64 0)) 3 (0, 0))).heap.size = w2.heap.size + 1 from by simp] at h_; exact h_.drew⟩, ⟨((made_row w2 k (0 : Int)).alloc _).drew⟩⟩
      case rest =>
        as_aux_lemma =>
          obtain ⟨qa, qb, rfl, rfl, hne, hga, hgb, HS, HRa, HRb⟩ := hcut
          clear hmk hk b00 b01
          go_wp2
          go_loopw [9] (fun v9 wr => ∃ i : Nat, i ≤ k ∧ v9 = .int .i64 (i : Int) ∧ Aside0 (St w wr g (newY k)) ∧ Aside0 (Row (Value.int .i64) 3 wr qa (fill k i)) ∧ Aside0 (Row (Value.int .i64) 3 wr qb (List.replicate k 0))) (fun v9 _ => k - (intOf v9).toNat)
          case atStart => exact ⟨0, by omega, rfl, HS, ⟨by have h_ := HRa.out; simpa [fill] using h_⟩, HRb⟩
          case round =>
            clear HS HRa HRb
            obtain ⟨i, hi, rfl, HS, HRa, HRb⟩ := hrel
            by_cases c : i < k
            · have hca := HRa.out.cellD 0 i (by rw [fill_len hi]; exact c)
              have hfa := HRa.out.frozen i
              go_wp2
              go_roundw
              case rel => exact ⟨i + 1, by omega, by go_num, ⟨HS.out.far hga _⟩, ⟨by rw [← fill_set c]; exact HRa.out.set i 1⟩, ⟨HRb.out.far (Ne.symm hne) _⟩⟩
              case measure => simp [intOf]; omega
            ·
              as_aux_lemma =>
                obtain rfl : k = i := by omega
                have HD : Aside0 (Hd k w wr g qa qb (List.replicate k 1) (List.replicate k 0)) := ⟨⟨HS.out, by have h_ := HRa.out; simpa [fill] using h_, HRb.out, by simp, by simp, fun x hx => by rw [List.mem_replicate] at hx; exact .inl hx.2⟩⟩
                clear HS HRa HRb c hi
                go_wp2
                go_loopw [10] (fun v10 wm => ∃ (n : Nat) (s e : List Int), (n : Int) ≤ (l1.length : Int) ∧ v10 = .int .i64 (n : Int) ∧ Aside0 (Hd k w wm g qa qb s e)) (fun v10 _ => l1.length - (intOf v10).toNat)
                case atStart => exact ⟨0, _, _, by omega, rfl, HD⟩
                case round =>
                  clear HD
                  obtain ⟨n, s, e, hn, rfl, HD⟩ := hrel
                  by_cases cn : (n : Int) < (l1.length : Int)
                  ·
                    as_aux_lemma =>
                      have cN : n < l1.length := by omega
                      obtain ⟨ad, e1, hx, hy, hz⟩ := at_tri HR1.out n cN
                      cases e1
                      obtain ⟨x, hxx⟩ : ∃ x, (l1.getD n (0, 0, 0)).1 = x := ⟨_, rfl⟩
                      obtain ⟨b, hbb⟩ : ∃ b, (l1.getD n (0, 0, 0)).2.1 = b := ⟨_, rfl⟩
                      obtain ⟨t, htt⟩ : ∃ t, (l1.getD n (0, 0, 0)).2.2 = t := ⟨_, rfl⟩
                      rw [hxx] at hx
                      rw [hbb] at hy
                      rw [htt] at hz
                      clear hxx hbb htt
                      replace hx := (HD.out.st.bel.cell (World.block_lt_of_cell? w _ hx)).trans hx
                      replace hy := (HD.out.st.bel.cell (World.block_lt_of_cell? w _ hy)).trans hy
                      replace hz := (HD.out.st.bel.cell (World.block_lt_of_cell? w _ hz)).trans hz
                      go_upto_region 18 with (fail)
                      have HD8 := Aside0.mk (HD.out.alloc (.cells #[Value.int IntKind.i64 x, Value.int IntKind.i64 b, Value.int IntKind.i64 t] 36 (0, 0)))
                      have hp := blk_new wr (.cells #[Value.int IntKind.i64 x, Value.int IntKind.i64 b, Value.int IntKind.i64 t] 36 (0, 0))
                      have hgp : g < wr.heap.size := HD.out.st.is.lt
                      have hap : qa < wr.heap.size := HD.out.ra.lt
                      have hbp : qb < wr.heap.size := HD.out.rb.lt
                      clear HD hx hy hz
                      generalize (wr.alloc (.cells #[Value.int IntKind.i64 x, Value.int IntKind.i64 b, Value.int IntKind.i64 t] 36 (0, 0))) = W8 at *
                      generalize wr.heap.size = p at *
                      have hp0 : W8.cell? ⟨p, 0, none⟩ = some (.int .i64 x) := (blk_cell hp 0).trans rfl
                      have hp1 : W8.cell? ⟨p, 1, none⟩ = some (.int .i64 b) := (blk_cell hp 1).trans rfl
                      have hp2 : W8.cell? ⟨p, 2, none⟩ = some (.int .i64 t) := (blk_cell hp 2).trans rfl
                      have HP := Aside0.mk hp
                      clear hp
                      go_cut [12] from 48 to 213 (fun s12 wx => s12 = .bool (thereB s b) ∧ wx = W8)
                      case first =>
                        have hth : thereB s b = (decide (0 ≤ b) && decide (b < (k : Int))) := by unfold thereB; rw [HD8.out.ls]
                        have HT := Aside0.mk hth
                        clear hth
                        by_cases h0 : 0 ≤ b
                        · by_cases h1 : b < (k : Int)
                          all_goals
                            go_wp2
                            go_meet
                            case rel => exact ⟨by rw [HT.out]; simp [h0, h1] <;> intros <;> omega, rfl⟩
                        · go_wp2
                          go_meet
                          case rel => exact ⟨by rw [HT.out]; simp [h0] <;> intros <;> omega, rfl⟩
                      case rest =>
                        as_aux_lemma =>
                          obtain ⟨rfl, rfl⟩ := hcut
                          go_upto_if 69 with (fail)
                          go_cut [12] from 48 to 213 (fun _ wx => ∃ s2 e2, Aside0 (Hd k w wx g qa qb s2 e2))
                          case first =>
                            as_aux_lemma =>
                              have HS8 := Aside0.mk HD8.out.st
                              have HRa := Aside0.mk HD8.out.ra
                              have HRb := Aside0.mk HD8.out.rb
                              have hls := HD8.out.ls
                              have hle := HD8.out.le
                              have H4 := Aside0.mk HD8.out.i4
                              clear HD8
                              have HS := HS8
                              clear HS8
                              cases hth : thereB s b with
                              | true =>
                                as_aux_lemma =>
                                  have hbk : 0 ≤ b ∧ b < (s.length : Int) := by simpa [thereB] using hth
                                  obtain ⟨bn, rfl⟩ : ∃ bn : Nat, b = (bn : Int) := ⟨b.toNat, by omega⟩
                                  have hbn : bn < k := by omega
                                  have hbn' : (bn : Int) < (k : Int) := by omega
                                  clear hth hbk
                                  cases hx6 : (x == 6) with
                                  | true =>
                                    obtain ⟨z, hz⟩ : ∃ z, e.getD bn 0 = z := ⟨_, rfl⟩
                                    have hee := erased_at (s := s) (m := e) (b := bn) (by omega) (by omega)
                                    rw [hz] at hee
                                    have HE := Aside0.mk hee
                                    have HZ := Aside0.mk hz
                                    clear hee hz
                                    go_wp2_with (go_at_call 14; (refine (erasedC HS _ _ HE.out).mono ?_); rintro e5 w5 ⟨rfl, HS1, HK⟩; have HP5 := HK.out.blk HP.out hgp; have hq1 : w5.cell? ⟨p, 1, none⟩ = some (.int .i64 (bn : Int)) := (blk_cell HP5 1).trans rfl; have HRa1 := Aside0.mk (HK.out.row HRa.out hga); have HRb1 := Aside0.mk (HK.out.row HRb.out hgb); clear HS HRa HRb HK HP5; have HS := HS1; have HRa := HRa1; have HRb := HRb1; clear HS1 HRa1 HRb1; have hc5 := HRb.out.cellD 0 bn (by omega); rw [HZ.out] at hc5; have hf5 := HRb.out.frozen bn)
                                    go_meet
                                    case rel => exact ⟨s, e.set bn (wrap64 (z + 1)), ⟨⟨HS.out.far hgb _, HRa.out.far hne _, HRb.out.set bn _, hls, by simpa using hle, H4.out⟩⟩⟩
                                  | false =>
                                    as_aux_lemma =>
                                      have h4 := in4_at H4.out bn (by omega)
                                      obtain ⟨a, ha⟩ : ∃ a, s.getD bn 0 = a := ⟨_, rfl⟩
                                      rw [ha] at h4
                                      have hca := HRa.out.cellD 0 bn (by omega)
                                      rw [ha] at hca
                                      have hti := turn_is s e bn t (by omega)
                                      rw [ha] at hti
                                      have H4A := Aside0.mk h4
                                      have HA := Aside0.mk ha
                                      clear h4 ha
                                      cases hm : mayB a t with
                                      | true =>
                                        as_aux_lemma =>
                                          rw [hm, if_pos rfl] at hti
                                          have HTI := Aside0.mk hti
                                          clear hti
                                          have HM := Aside0.mk hm
                                          go_wp2
                                          go_quiet ((go_at_call 15; exact Calls.quiet_of ((turnsR a t H4A.out _ HM.out _).mono fun e w' h => ⟨h.1, h.2.out⟩)))
                                          clear hm
                                          go_wp2_with (go_at_call 10; (refine (turnC ⟨HS.out.drewN _⟩ _ _ _ _ HTI.out).mono ?_); rintro e5 w5 ⟨rfl, HS1, HK⟩; have HP5 := HK.out.blk (blk_drewN HP.out _) hgp; have hq1 : w5.cell? ⟨p, 1, none⟩ = some (.int .i64 (bn : Int)) := (blk_cell HP5 1).trans rfl; have hq2 : w5.cell? ⟨p, 2, none⟩ = some (.int .i64 t) := (blk_cell HP5 2).trans rfl; have HRa1 := Aside0.mk (HK.out.row (HRa.out.drewN _) hga); have HRb1 := Aside0.mk (HK.out.row (HRb.out.drewN _) hgb); clear HS HRa HRb HK HP5; have HS := HS1; have HRa := HRa1; have HRb := HRb1; clear HS1 HRa1 HRb1; have hc5 := HRa.out.cellD 0 bn (by omega); rw [HA.out] at hc5; have hf5 := HRa.out.frozen bn)
                                          go_meet
                                          case rel => exact ⟨s.set bn t, e, ⟨⟨HS.out.far hga _, HRa.out.set bn _, HRb.out.far (Ne.symm hne) _, by simpa using hls, hle, in4_set H4.out bn (mayB_in HM.out)⟩⟩⟩
                                      | false =>
                                        rw [hm, if_neg (by simp)] at hti
                                        have HTI := Aside0.mk hti
                                        clear hti
                                        have HM := Aside0.mk hm
                                        go_wp2
                                        go_quiet ((go_at_call 15; exact Calls.quiet_of ((turnsR a t H4A.out _ HM.out _).mono fun e w' h => ⟨h.1, h.2.out⟩)))
                                        clear hm
                                        go_wp2_with (go_at_call 10; (refine (turnC ⟨HS.out.drewN _⟩ _ _ _ _ HTI.out).mono ?_); rintro e5 w5 ⟨rfl, HS1, HK⟩; have HRa1 := Aside0.mk (HK.out.row (HRa.out.drewN _) hga); have HRb1 := Aside0.mk (HK.out.row (HRb.out.drewN _) hgb); clear HS HRa HRb HK; have HS := HS1; have HRa := HRa1; have HRb := HRb1; clear HS1 HRa1 HRb1)
                                        go_meet
                                        case rel => exact ⟨s, e, ⟨⟨HS.out, HRa.out, HRb.out, hls, hle, H4.out⟩⟩⟩
                              | false =>
                                as_aux_lemma =>
                                  cases hx6 : (x == 6) with
                                  | true =>
                                    have HE : Aside0 (erasedF (s, e) b = (s, e)) := ⟨by unfold erasedF; rw [if_neg (by show ¬ thereB s b = true; rw [hth]; simp)]⟩
                                    go_wp2_with (go_at_call 14; (refine (erasedC HS _ _ HE.out).mono ?_); rintro e5 w5 ⟨rfl, HS1, HK⟩; have HRa1 := Aside0.mk (HK.out.row HRa.out hga); have HRb1 := Aside0.mk (HK.out.row HRb.out hgb); clear HS HRa HRb HK; have HS := HS1; have HRa := HRa1; have HRb := HRb1; clear HS1 HRa1 HRb1)
                                    go_meet
                                    case rel => exact ⟨s, e, ⟨⟨HS.out, HRa.out, HRb.out, hls, hle, H4.out⟩⟩⟩
                                  | false =>
                                    have HTI : Aside0 (turnF (s, e) b t = (false, (s, e))) := ⟨by unfold turnF; rw [if_neg (by show ¬ (thereB s b && _) = true; rw [hth]; simp)]⟩
                                    go_wp2
                                    go_quiet (fail)
                                    go_wp2_with (go_at_call 10; (refine (turnC ⟨HS.out.drewN _⟩ _ _ _ _ HTI.out).mono ?_); rintro e5 w5 ⟨rfl, HS1, HK⟩; have HRa1 := Aside0.mk (HK.out.row (HRa.out.drewN _) hga); have HRb1 := Aside0.mk (HK.out.row (HRb.out.drewN _) hgb); clear HS HRa HRb HK; have HS := HS1; have HRa := HRa1; have HRb := HRb1; clear HS1 HRa1 HRb1)
                                    go_meet
                                    case rel => exact ⟨s, e, ⟨⟨HS.out, HRa.out, HRb.out, hls, hle, H4.out⟩⟩⟩
                          case rest =>
                            as_aux_lemma =>
                              clear HD8 HP hp0 hp1 hp2
                              obtain ⟨s2, e2, HD⟩ := hcut
                              go_wp2
                              have HD9 := Aside0.mk (HD.out.alloc (.cells (Array.replicate k (Value.bool false)) 4 (0, 0)))
                              have HRm := Aside0.mk (made_row (enc := Value.bool) (t := 4) wc k false)
                              have hgm : g < wc.heap.size := HD.out.st.is.lt
                              have ham : qa < wc.heap.size := HD.out.ra.lt
                              have hbm : qb < wc.heap.size := HD.out.rb.lt
                              clear HD
                              generalize (wc.alloc (.cells (Array.replicate k (Value.bool false)) 4 (0, 0))) = W9 at *
                              generalize wc.heap.size = qm at *
                              go_loopw [15] (fun v15 wi => ∃ b : Nat, b ≤ k ∧ v15 = .int .i64 (b : Int) ∧ Aside0 (Hd k w wi g qa qb s2 e2) ∧ Aside0 (Row Value.bool 4 wi qm (mayL s2 b))) (fun v15 _ => k - (intOf v15).toNat)
                              case atStart => exact ⟨0, by omega, rfl, HD9, ⟨by rw [mayL_0 s2 HD9.out.ls]; exact HRm.out⟩⟩
                              case round =>
                                clear HD9 HRm
                                obtain ⟨b, hb, rfl, HD, HRm⟩ := hrel
                                by_cases cb : b < k
                                ·
                                  as_aux_lemma =>
                                    obtain ⟨a, ha⟩ : ∃ a, s2.getD b 0 = a := ⟨_, rfl⟩
                                    obtain ⟨z, hz⟩ : ∃ z, e2.getD b 0 = z := ⟨_, rfl⟩
                                    have HA := Aside0.mk ha
                                    have HZ := Aside0.mk hz
                                    clear ha hz
                                    have hls := HD.out.ls
                                    have hle := HD.out.le
                                    have hca := HD.out.ra.cellD 0 b (by omega)
                                    rw [HA.out] at hca
                                    have hcm := HRm.out.cellD false b (by rw [mayL_len (by omega)]; omega)
                                    have hfm := HRm.out.frozen b
                                    have hb0 : (0 : Int) ≤ (b : Int) := by omega
                                    have cb' : (b : Int) < (k : Int) := by omega
                                    go_wp2
                                    have HD1 := Aside0.mk (HD.out.far (p := ⟨qm, b, none⟩) hgm (Nat.ne_of_lt ham) (Nat.ne_of_lt hbm) (.bool (a == 1)))
                                    have HRm1 : Aside0 (Row Value.bool 4 (wr.setCell ⟨qm, b, none⟩ (.bool (a == 1))) qm (mayL s2 (b + 1))) := ⟨by rw [← mayL_set (show b < s2.length by omega) HA.out]; exact HRm.out.set b _⟩
                                    clear HD HRm hca hcm hfm
                                    generalize (wr.setCell ⟨qm, b, none⟩ (.bool (a == 1))) = W10 at *
                                    have hca := HD1.out.ra.cellD 0 b (by omega)
                                    rw [HA.out] at hca
                                    have hcb := HD1.out.rb.cellD 0 b (by omega)
                                    rw [HZ.out] at hcb
                                    have HV1 : Aside0 (stateF (s2, e2) (b : Int) = a) := ⟨by rw [state_is s2 e2 b (by omega), HA.out]⟩
                                    have HV2 : Aside0 (erasesF (s2, e2) (b : Int) = z) := ⟨by rw [erases_at (by omega), HZ.out]⟩
                                    go_quiet ((first | (go_at_call 13; exact Calls.quiet_of ((stateC ⟨HD1.out.st.drewN _⟩ _ _ HV1.out).mono fun e w' h => ⟨h.1, h.2.out⟩)) | (go_at_call 16; exact Calls.quiet_of ((erasesC ⟨HD1.out.st.drewN _⟩ _ _ HV2.out).mono fun e w' h => ⟨h.1, h.2.out⟩))))
                                    go_wp2
                                    go_roundw
                                    case rel => exact ⟨b + 1, by omega, by go_num, ⟨HD1.out.drewN _⟩, ⟨HRm1.out.drewN _⟩⟩
                                    case measure => simp [intOf]; omega
                                ·
                                  as_aux_lemma =>
                                    obtain rfl : k = b := by omega
                                    obtain ⟨pk, ok, hpk⟩ : ∃ pk ok, pickP (s2, e2) = (pk, ok) := ⟨_, _, rfl⟩
                                    have HPk := Aside0.mk hpk
                                    have HN1 : Aside0 (stateF (s2, e2) (-1) = 0) := ⟨state_far _ _ (by simp [thereB])⟩
                                    have HN2 : Aside0 (stateF (s2, e2) (k : Int) = 0) := ⟨state_far _ _ (by simp [thereB, HD.out.ls])⟩
                                    have HM : Aside0 (Row Value.bool 4 wr qm (whichP s2 1)) := ⟨by have h_ := HRm.out; rw [← HD.out.ls, mayL_all] at h_; exact h_⟩
                                    clear hpk HRm
                                    go_wp2_with (first
                                      | (go_at_call 12; (refine (pickC ⟨HD.out.st⟩ _ _ HPk.out).mono ?_); rintro e5 w5 ⟨rfl, HS1, HK⟩; have HD1 := Aside0.mk (HD.out.up HS1.out HK.out hga hgb); have HM1 := Aside0.mk (HK.out.row HM.out hgm); clear HD HM HS1 HK; have HD := HD1; have HM := HM1; clear HD1 HM1)
                                      | (go_at_call 17; (refine (refPick_k k s2 e2 _ _ HD.out.le HD.out.ls hk2 HPk.out HD.out.rb HM.out).mono ?_); rintro e6 w6 ⟨rfl, hb6⟩; have HD1 := Aside0.mk (HD.out.below hb6); clear HD HM hb6; have HD := HD1; clear HD1)
                                      | (go_at_call 13; (first | (with_reducible refine (stateC ⟨HD.out.st⟩ (-1) 0 HN1.out).mono ?_) | (with_reducible refine (stateC ⟨HD.out.st⟩ (k : Int) 0 HN2.out).mono ?_)); rintro e7 w7 ⟨rfl, ⟨nd, rfl⟩⟩; have HD1 := Aside0.mk (HD.out.drewN nd); clear HD; have HD := HD1; clear HD1))
                                    clear HPk HN1 HN2
                                    go_loopw [20] (fun v20 wv => ∃ v : Nat, v ≤ 6 ∧ v20 = .int .i64 (v : Int) ∧ Aside0 (Hd k w wv g qa qb s2 e2)) (fun v20 _ => 6 - (intOf v20).toNat)
                                    case atStart => exact ⟨0, by omega, rfl, by first | exact HD | (have h_ := HD; rw [World.drewN_drewN] at h_; exact h_)⟩
                                    case round =>
                                      clear HD
                                      obtain ⟨v, hv, rfl, HD⟩ := hrel
                                      by_cases cv : v < 6
                                      ·
                                        as_aux_lemma =>
                                          obtain ⟨m, hm⟩ : ∃ m : Nat, (lstP s2 (v : Int)).length = m := ⟨_, rfl⟩
                                          have HMl := Aside0.mk hm
                                          have hmk_ : m ≤ k := by rw [← hm, ← HD.out.ls]; exact lst_le _ _
                                          have HCn : Aside0 (((lstP s2 (v : Int)).length : Int) = (m : Int)) := ⟨by rw [hm]⟩
                                          clear hm
                                          go_wp2_with (go_at_call 18; (refine (listC ⟨HD.out.st⟩ _).mono ?_); rintro e5 w5 ⟨vl, rfl, HL, HS1, HK⟩; obtain ⟨Al, cl, el⟩ := Kd.R_slice HL.out; subst el; have HL2 := Aside0.mk (Kd.R_reads' HL.out).2; rw [HMl.out] at HL2; have HD1 := Aside0.mk (HD.out.up HS1.out HK.out hga hgb); clear HD HS1 HK HL; have HD := HD1; clear HD1)
                                          rw [HMl.out]
                                          go_loop [22, 23] (fun v22 v23 => ∃ b c : Nat, b ≤ k ∧ v23 = .int .i64 (b : Int) ∧ v22 = .int .i64 (c : Int) ∧ Aside0 (cntB s2 (v : Int) b = c)) (fun _ v23 => k - (intOf v23).toNat)
                                          case atStart => exact ⟨0, 0, by omega, rfl, rfl, ⟨rfl⟩⟩
                                          case round =>
                                            obtain ⟨b, c, hb, rfl, rfl, HC⟩ := hrel
                                            by_cases cb : b < k
                                            ·
                                              as_aux_lemma =>
                                                have hls := HD.out.ls
                                                have cb' : (b : Int) < (k : Int) := by omega
                                                obtain ⟨a, ha⟩ : ∃ a, s2.getD b 0 = a := ⟨_, rfl⟩
                                                have hca := HD.out.ra.cellD 0 b (by omega)
                                                rw [ha] at hca
                                                have hcs := cntB_succ s2 (v : Int) b
                                                have hrd : rd s2 (b : Int) = a := ha
                                                have hcle := cntB_le s2 (v : Int) b
                                                rw [hrd, HC.out] at hcs
                                                rw [HC.out] at hcle
                                                cases hav : (a == (v : Int)) with
                                                | true =>
                                                  as_aux_lemma =>
                                                    have hla := lst_at s2 (v : Int) b (by omega) (by rw [hrd]; exact hav)
                                                    rw [HC.out, HMl.out] at hla
                                                    obtain ⟨hcm, hcv⟩ := hla
                                                    obtain ⟨adl, e1, hcl⟩ := at_num HL2.out.2 c hcm
                                                    cases e1
                                                    rw [hcv] at hcl
                                                    rw [hav, if_pos rfl] at hcs
                                                    have HCS := Aside0.mk hcs
                                                    have hcl1 : m ≤ cl := HL2.out.1
                                                    have hav2 : (a != (v : Int)) = false := by rw [bne, hav]; rfl
                                                    have hge : decide ((c : Int) ≥ (m : Int)) = false := decide_eq_false (by omega)
                                                    have hge2 : decide ((m : Int) ≤ (c : Int)) = false := decide_eq_false (by omega)
                                                    clear hcs ha hcv hrd
                                                    go_wp2
                                                    go_round
                                                    case rel => exact ⟨b + 1, c + 1, by omega, by go_num, by go_num, HCS⟩
                                                    case measure => simp [intOf]; omega
                                                | false =>
                                                  rw [hav] at hcs
                                                  simp only [Bool.false_eq_true, if_false, Nat.add_zero] at hcs
                                                  have HCS := Aside0.mk hcs
                                                  have hav2 : (a != (v : Int)) = true := by rw [bne, hav]; rfl
                                                  clear hcs ha hrd
                                                  go_wp2
                                                  go_round
                                                  case rel => exact ⟨b + 1, c, by omega, by go_num, rfl, HCS⟩
                                                  case measure => simp [intOf]; omega
                                            · obtain rfl : k = b := by omega
                                              have hcm : c = m := by have := cntB_all s2 (v : Int); rw [HD.out.ls, HC.out, HMl.out] at this; exact this
                                              subst hcm
                                              go_wp2_with (go_at_call 11; (refine (countC ⟨HD.out.st⟩ _ _ HCn.out).mono ?_); rintro e5 w6 ⟨rfl, HS1, HK⟩; have HD1 := Aside0.mk (HD.out.up HS1.out HK.out hga hgb); clear HD HS1 HK; have HD := HD1; clear HD1)
                                              go_roundw
                                              case rel => exact ⟨v + 1, by omega, by go_num, HD⟩
                                              case measure => simp [intOf]; omega
                                      · obtain rfl : v = 6 := by omega
                                        go_wp2
                                        go_roundw
                                        case rel => exact ⟨n + 1, s2, e2, by omega, by go_num, HD⟩
                                        case measure => simp [intOf]; omega
                  · go_wp2
                    go_ret
                    exact ⟨rfl, HD.out.st.bel⟩
end Go.Proofs.Ytfgfjgjabcmheaa.M
