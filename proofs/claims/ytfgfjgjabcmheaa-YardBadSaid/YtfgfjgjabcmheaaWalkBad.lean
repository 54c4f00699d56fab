/- The walk of YardBad: what is bad stays bad, and is never picked; the others are counted. -/
import Derived.Test.YtfgfjgjabcmheaaF
import Derived.Test.YtfgfjgjabcmheaaWalkWears
namespace Go.Proofs.Ytfgfjgjabcmheaa.M
open Go.RowKit Go.Proofs.YtfgfjgjabcmheaaW.PrintWords Go.Proofs.YtfgfjgjabcmheaaW.PrintLast Go.Proofs.YtfgfjgjabcmheaaW.PrintMore Go.Proofs.Ytfgfjgjabcmheaa.Rw
set_option linter.unusedVariables false
set_option linter.unusedSimpArgs false
def badL (s : List Int) : List Bool := s.map (· == 4)
theorem badL_get (s : List Int) (b : Nat) (h : b < s.length) : (badL s).getD b false = (s.getD b 0 == 4) := by
  rw [List.getD_eq_getElem?_getD, List.getD_eq_getElem?_getD, List.getElem?_eq_getElem (by simpa [badL] using h), List.getElem?_eq_getElem h]
  simp [badL]
theorem badL_set (s : List Int) (b : Nat) (v : Int) : badL (s.set b v) = (badL s).set b (v == 4) := by simp [badL, List.map_set]
theorem set_same {α : Type} (l : List α) (b : Nat) (x d : α) (h : b < l.length) (e : l.getD b d = x) : l.set b x = l := by
  rw [List.getD_eq_getElem?_getD, List.getElem?_eq_getElem h] at e
  have e : l[b] = x := e
  subst e
  exact List.set_getElem_self h
theorem turn_bad (s e : List Int) (b : Nat) (t : Int) (hb : b < s.length) (h4 : In4 s) : ∃ bb okv s2, (badL s).getD b false = bb ∧ turnF (s, e) (b : Int) t = (okv, (s2, e)) ∧ s2.length = s.length ∧ In4 s2 ∧
    ((bb = true ∧ okv = false ∧ (badL s).set b true = badL s2) ∨ (bb = false ∧ okv = false ∧ (badL s).set b false = badL s2) ∨ (bb = false ∧ okv = true ∧ t = 4 ∧ (badL s).set b true = badL s2) ∨ (bb = false ∧ okv = true ∧ (t == 4) = false ∧ (badL s).set b false = badL s2)) := by
  have hbl : b < (badL s).length := by simpa [badL] using hb
  have hg := badL_get s b hb
  rw [turn_is s e b t hb]
  cases hm : mayB (s.getD b 0) t with
  | true =>
    have hne : (s.getD b 0 == 4) = false := by
      cases h : s.getD b 0 == 4 with
      | false => rfl
      | true => rw [eq_of_beq h, may4] at hm; exact absurd hm (by simp)
    rw [hne] at hg
    refine ⟨_, true, s.set b t, hg, rfl, by simp, in4_set h4 b (mayB_in hm), ?_⟩
    rw [badL_set]
    cases ht : t == 4 with
    | true => exact .inr (.inr (.inl ⟨rfl, rfl, eq_of_beq ht, rfl⟩))
    | false => exact .inr (.inr (.inr ⟨rfl, rfl, rfl, rfl⟩))
  | false =>
    refine ⟨_, false, s, hg, rfl, rfl, h4, ?_⟩
    cases h : s.getD b 0 == 4 with
    | true => rw [h] at hg; exact .inl ⟨rfl, rfl, set_same _ b true false hbl hg⟩
    | false => rw [h] at hg; exact .inr (.inl ⟨rfl, rfl, set_same _ b false false hbl hg⟩)
set_option maxHeartbeats 1600000 in
set_option maxRecDepth 100000 in
theorem bad_walk (a0 : Int) (A1 : Option Addr) (c1 : Nat) (l1 : List ((Int) × (Int))) (w : World) (w0 : (Lit.int .u8 a0).wf = true) (r1 : Kd.C (Kd.pair (Kd.int .u8) (Kd.int .u8)) w A1 l1.length l1) (k1 : l1.length ≤ c1) (m1 : l1.length ≤ maxLen) (y1 : l1.length * 2 ≤ 140737488351232) (g1 : ∀ y ∈ l1, ((Lit.int .u8 y.1).wf = true ∧ (Lit.int .u8 y.2).wf = true)) :
    Calls Try.prog 3 #[.int .u8 a0, .slice A1 l1.length c1] w fun e w' => e = .returned (.bool true) ∧ Below w.heap.size w w' := by
  have b0 := bounds_u8 w0
  clear w0
  obtain ⟨b00, b01⟩ := b0
  have HR1 := Aside0.mk r1
  have HG1 := Aside0.mk g1
  clear r1 g1 m1
  obtain ⟨k, hk⟩ : ∃ k : Nat, 1 + a0 % 20 = (k : Int) := ⟨(1 + a0 % 20).toNat, by omega⟩
  have hk1 : 1 ≤ k := by omega
  have hk2 : k ≤ 20 := by omega
  have hmk := mk_row (P := Try.prog) Try.underlying26 info4S rfl k (by omega) (by omega)
  by_cases hl : (200 : Int) < (l1.length : Int)
  · go_enter Try.func3, Try.ntmps3
    go_wp2_with (first
      | (go_at_call 8; (refine (awakeC _).mono ?_); rintro e w1 ⟨rfl, hb⟩; have HB := Aside0.mk hb; clear hb))
    go_ret
    exact ⟨rfl, HB.out⟩
  · have hlb : decide ((200 : Int) < (l1.length : Int)) = false := decide_eq_false hl
    go_enter Try.func3, Try.ntmps3
    go_wp2_with (first
      | (go_at_call 8; (refine (awakeC _).mono ?_); rintro e w1 ⟨rfl, hb⟩; have HB := Aside0.mk hb; clear hb)
      | (go_at_call 9; (refine (newC0 (w0 := w) k _ _ HB.out (newN_of rfl (by omega))).mono ?_); rintro e w2 ⟨g, rfl, hS, -, -⟩; have HS := Aside0.mk hS; clear hS))
    have HS3 := Aside0.mk (HS.out.alloc (.cells (Array.replicate k (Value.bool false)) 4 (0, 0)))
    have HR3 := Aside0.mk (made_row (enc := Value.bool) (t := 4) w2 k false)
    have hgq := HS.out.is.lt
    clear HS HB hk b00 b01 hmk
    generalize (w2.alloc (.cells (Array.replicate k (Value.bool false)) 4 (0, 0))) = W3 at *
    generalize w2.heap.size = q at *
    go_loopw [8] (fun v8 wr => ∃ (i : Nat) (s e : List Int), (i : Int) ≤ (l1.length : Int) ∧ s.length = k ∧ e.length = k ∧ Aside0 (In4 s) ∧ v8 = .int .i64 (i : Int) ∧ Aside0 (St w wr g (s, e)) ∧ Aside0 (Row Value.bool 4 wr q (badL s))) (fun v8 _ => l1.length - (intOf v8).toNat)
    case atStart => exact ⟨0, List.replicate k 1, List.replicate k 0, by omega, by simp, by simp, ⟨fun x hx => by rw [List.mem_replicate] at hx; exact .inl hx.2⟩, rfl, HS3, ⟨by have h_ := HR3.out; simpa [badL] using h_⟩⟩
    case round =>
      clear HS3 HR3
      obtain ⟨i, s, e, hil, hs, he, H4, rfl, HS, HR⟩ := hrel
      by_cases c : (i : Int) < (l1.length : Int)
      · have cN : i < l1.length := by omega
        obtain ⟨ad, e1, hx, hy⟩ := at_pair HR1.out i cN
        cases e1
        obtain ⟨hm1, hm2⟩ := HG1.out _ (mem_getD (0, 0) cN)
        obtain ⟨hx0, hx1⟩ := bounds_u8 hm1
        obtain ⟨hy0, hy1⟩ := bounds_u8 hm2
        clear hm1 hm2
        obtain ⟨x, hxx⟩ : ∃ x, (l1.getD i (0, 0)).1 = x := ⟨_, rfl⟩
        obtain ⟨y, hyy⟩ : ∃ y, (l1.getD i (0, 0)).2 = y := ⟨_, rfl⟩
        rw [hxx] at hx hx0 hx1
        rw [hyy] at hy hy0 hy1
        clear hxx hyy
        obtain ⟨b, hb⟩ : ∃ b : Nat, x % (k : Int) = (b : Int) := ⟨(x % (k : Int)).toNat, by have := Int.emod_nonneg x (show (k : Int) ≠ 0 by omega); omega⟩
        have hbk : b < k := by have := Int.emod_lt_of_pos x (show (0 : Int) < (k : Int) by omega); omega
        obtain ⟨t, ht⟩ : ∃ t : Int, y % 5 = t := ⟨_, rfl⟩
        have hxr := (HS.out.bel.cell (World.block_lt_of_cell? w _ hx)).trans hx
        have hyr := (HS.out.bel.cell (World.block_lt_of_cell? w _ hy)).trans hy
        have hbk' : (b : Int) < (k : Int) := by omega
        have ht0 : 0 ≤ t := by omega
        have ht4 : t ≤ 4 := by omega
        have hbm : x.tmod (k : Int) = (b : Int) := by rw [Int.tmod_eq_emod_of_nonneg hx0]; exact hb
        have htm : y.tmod 5 = t := by rw [Int.tmod_eq_emod_of_nonneg hy0]; exact ht
        have q1 : IntKind.i64.wrap x = x := by rw [IntKind.wrap_i64]; omega
        have q2 : IntKind.i64.wrap y = y := by rw [IntKind.wrap_i64]; omega
        have q3 : IntKind.i64.wrap (b : Int) = (b : Int) := by rw [IntKind.wrap_i64]; omega
        have q4 : IntKind.i64.wrap t = t := by rw [IntKind.wrap_i64]; omega
        have hk0 : ¬ k = 0 := by omega
        clear hb ht
        go_wp2
        go_quiet (fail)
        clear q1 q2 q3 q4 hbm htm
        obtain ⟨bb, okv, s2, hbb, hT, hs2, H42, hcases⟩ := turn_bad s e b t (by omega) H4.out
        have HT := Aside0.mk hT
        have H42 := Aside0.mk H42
        have hcb := HR.out.cellD false b (by simp [badL]; omega)
        rw [hbb] at hcb
        have HBB := Aside0.mk hbb
        rw [hs] at hs2
        clear hT hbb hx hy hxr hyr H4
        rcases hcases with ⟨rfl, rfl, hset⟩ | ⟨rfl, rfl, hset⟩ | ⟨rfl, rfl, rfl, hset⟩ | ⟨rfl, rfl, ht4', hset⟩
        all_goals
          have HSet := Aside0.mk hset
          clear hset
          go_wp2_with (go_at_call 10; (refine (turnC ⟨HS.out.drewN _⟩ _ _ _ _ HT.out).mono ?_); rintro e w5 ⟨rfl, HS1, HK⟩; have HR2 := Aside0.mk (HK.out.row (HR.out.drewN _) hgq); clear HS HR HK hcb; have HS := HS1; have HR := HR2; clear HS1 HR2; have hcb := HR.out.cellD false b (by simp [badL]; omega); rw [HBB.out] at hcb; have hf5 := HR.out.frozen b)
          have HSv := Aside0.mk (fun v => St.far HS.out (p := ⟨q, b, none⟩) hgq (.bool v))
          have HRv := Aside0.mk (fun v => HR.out.set b v)
          clear HS HR hcb hf5 HBB HT
          go_loopw [12, 13] (fun v12 v13 wi => ∃ m : Nat, m ≤ 4 ∧ v13 = .int .i64 ((m : Int) + 1) ∧ v12 = .int .i64 (csum s2 m) ∧ Aside0 (St w wi g (s2, e)) ∧ Aside0 (Row Value.bool 4 wi q (badL s2))) (fun _ v13 _ => 5 - (intOf v13).toNat)
          case atStart => exact ⟨0, by omega, rfl, by simp [csum], ⟨HSv.out _⟩, ⟨by rw [← HSet.out]; exact HRv.out _⟩⟩
          case round =>
            clear HSv HRv HSet
            obtain ⟨m, hm, rfl, rfl, HS, HR⟩ := hrel
            by_cases cm : m < 4
            · obtain ⟨z, hz⟩ : ∃ z, csum s2 m = z := ⟨_, rfl⟩
              obtain ⟨n, hn⟩ : ∃ n : Nat, (lstP s2 ((m : Int) + 1)).length = n := ⟨_, rfl⟩
              have hz1 := csum_le s2 m
              have hn1 := lst_le s2 ((m : Int) + 1)
              have hz2 := csum_succ s2 m
              have hmul : (m : Int) * (s2.length : Int) ≤ 80 := Int.le_trans (Int.mul_le_mul (show (m : Int) ≤ 4 by omega) (show (s2.length : Int) ≤ 20 by omega) (by omega) (by omega)) (by decide)
              rw [hz] at hz1 hz2
              rw [hn] at hn1 hz2
              have hz0 : 0 ≤ z := hz1.1
              have hz3 : z ≤ 80 := by omega
              have hn2 : n ≤ 20 := by omega
              have HN : Aside0 (((lstP s2 ((m : Int) + 1)).length : Int) = (n : Int)) := ⟨by rw [hn]⟩
              have HZ := Aside0.mk hz2
              rw [hz]
              clear hz hn hz1 hn1 hz2 hmul
              go_wp2_with (go_at_call 11; (refine (countC HS _ _ HN.out).mono ?_); rintro e w6 ⟨rfl, HS1, HK⟩; have HR2 := Aside0.mk (HK.out.row HR.out hgq); clear HS HR HK; have HS := HS1; have HR := HR2; clear HS1 HR2)
              go_roundw
              case rel => exact ⟨m + 1, by omega, by go_num, by rw [HZ.out], HS, HR⟩
              case measure => simp [intOf]; omega
            · obtain rfl : m = 4 := by omega
              have hck : csum s2 4 = (k : Int) := by rw [csum_all s2 H42.out, hs2]
              rw [hck]
              clear hck
              rcases pick_cases s2 e (by omega) with ⟨p, hp, hpk, hp1, hcn⟩ | ⟨hp, hcn⟩
              · have HP := Aside0.mk hp
                have HV : Aside0 (stateF (s2, e) (p : Int) = 1) := ⟨by rw [state_is s2 e p hpk, hp1]⟩
                have HBp : Aside0 ((badL s2).getD p false = false) := ⟨by rw [badL_get s2 p hpk, hp1]; rfl⟩
                obtain ⟨n, hn⟩ : ∃ n : Nat, (lstP s2 1).length = n := ⟨_, rfl⟩
                have HN : Aside0 (((lstP s2 1).length : Int) = (n : Int)) := ⟨by rw [hn]⟩
                have hn0 : 0 < n := by omega
                have hpk' : (p : Int) < (k : Int) := by omega
                have hpk2 : p < k := by omega
                have HPL : Aside0 (p < (badL s2).length) := ⟨by simpa [badL] using hpk⟩
                clear hp hp1 hcn hn hpk
                go_wp2_with (first
                  | (go_at_call 12; (refine (pickC HS _ _ HP.out).mono ?_); rintro e w6 ⟨rfl, HS1, HK⟩; have HR2 := Aside0.mk (HK.out.row HR.out hgq); clear HS HR HK; have HS := HS1; have HR := HR2; clear HS1 HR2; have hcp := HR.out.cellD false p HPL.out; rw [HBp.out] at hcp)
                  | (go_at_call 13; (refine (stateC HS _ 1 HV.out).mono ?_); rintro e w7 ⟨rfl, ⟨nd, rfl⟩⟩; have HS1 := Aside0.mk (HS.out.drewN nd); have HR1_ := Aside0.mk (HR.out.drewN nd); clear HS HR; have HS := HS1; have HR := HR1_; clear HS1 HR1_)
                  | (go_at_call 11; (refine (countC HS _ _ HN.out).mono ?_); rintro e w8 ⟨rfl, HS1, HK⟩; have HR2 := Aside0.mk (HK.out.row HR.out hgq); clear HS HR HK; have HS := HS1; have HR := HR2; clear HS1 HR2))
                go_roundw
                case rel => exact ⟨i + 1, s2, e, by omega, hs2, he, H42, by go_num, HS, HR⟩
                case measure => simp [intOf]; omega
              · have HP := Aside0.mk hp
                have HN : Aside0 (((lstP s2 1).length : Int) = 0) := ⟨by rw [hcn]; rfl⟩
                clear hp hcn
                go_wp2_with (first
                  | (go_at_call 12; (refine (pickC HS _ _ HP.out).mono ?_); rintro e w6 ⟨rfl, HS1, HK⟩; have HR2 := Aside0.mk (HK.out.row HR.out hgq); clear HS HR HK; have HS := HS1; have HR := HR2; clear HS1 HR2)
                  | (go_at_call 11; (refine (countC HS _ _ HN.out).mono ?_); rintro e w8 ⟨rfl, HS1, HK⟩; have HR2 := Aside0.mk (HK.out.row HR.out hgq); clear HS HR HK; have HS := HS1; have HR := HR2; clear HS1 HR2))
                go_roundw
                case rel => exact ⟨i + 1, s2, e, by omega, hs2, he, H42, by go_num, HS, HR⟩
                case measure => simp [intOf]; omega
      · go_wp2
        go_ret
        exact ⟨rfl, HS.out.bel⟩
end Go.Proofs.Ytfgfjgjabcmheaa.M
