/- The walk of YardWears: how often a block was wiped is told whatever it becomes. -/
import Derived.Test.YtfgfjgjabcmheaaD
import Derived.Test.YtfgfjgjabcmheaaRw
import Derived.BigQuiet
import Derived.Deep.QuietTactic
namespace Go.Proofs.Ytfgfjgjabcmheaa.M
open Go.RowKit Go.Proofs.YtfgfjgjabcmheaaW.PrintWords Go.Proofs.YtfgfjgjabcmheaaW.PrintLast Go.Proofs.YtfgfjgjabcmheaaW.PrintMore Go.Proofs.Ytfgfjgjabcmheaa.Rw
set_option linter.unusedVariables false
set_option linter.unusedSimpArgs false
theorem St.far {w0 W : World} {g : Nat} {y : Y} (h : St w0 W g y) {p : Addr} (hp : g < p.block) (u : Value) : St w0 (W.setCell p u) g y := by
  obtain ⟨⟨hl, A0, c0, A1, c1, hb, hg, h0, h1⟩, hB⟩ := h
  refine ⟨⟨hl, A0, c0, A1, c1, blk_far hb (Nat.ne_of_lt hp) u, hg, Kd.R_far h0 (fun k hk => by omega) u, Kd.R_far h1 (fun k hk => by omega) u⟩, hB.setCell (Nat.le_of_lt (Nat.lt_of_le_of_lt hg hp)) u⟩
theorem KeepUp.row {w w' : World} {g q : Nat} {α : Type} {enc : α → Value} {t : TypeId} {xs : List α} (h : KeepUp w w' g) (hr : Row enc t w q xs) (hq : g < q) : Row enc t w' q xs := (h.2 q hr.lt hq).trans hr
theorem turnAny {w0 w : World} {g : Nat} {s m : List Int} (hS : Aside0 (St w0 w g (s, m))) (b v : Int) : Calls Try.prog 10 #[.pointer (some ⟨g, 0, none⟩), .int .i64 b, .int .i64 v] w fun e w' => ∃ r s', e = .returned (.bool r) ∧ s'.length = s.length ∧ Aside0 (St w0 w' g (s', m)) ∧ Aside0 (KeepUp w w' g) := by
  by_cases hc : (thereB s b && mayB (rd s b) v) = true
  · exact (turnC hS b v true (s.set b.toNat v, m) (by unfold turnF; rw [if_pos hc])).mono fun e w' ⟨he, h1, h2⟩ => ⟨_, _, he, by simp, h1, h2⟩
  · exact (turnC hS b v false (s, m) (by unfold turnF; rw [if_neg hc])).mono fun e w' ⟨he, h1, h2⟩ => ⟨_, _, he, rfl, h1, h2⟩
theorem erased_at {s m : List Int} {b : Nat} (h : b < s.length) (hm : m.length = s.length) : erasedF (s, m) (b : Int) = (s, m.set b (wrap64 (m.getD b 0 + 1))) := by
  unfold erasedF
  rw [if_pos (thereB_of h), Int.toNat_natCast]
  rfl
theorem erases_at {s m : List Int} {b : Nat} (h : b < s.length) : erasesF (s, m) (b : Int) = m.getD b 0 := by
  unfold erasesF
  rw [if_pos (thereB_of h)]
  rfl
set_option maxHeartbeats 1600000 in
theorem wears_walk (a0 : Int) (A1 : Option Addr) (c1 : Nat) (l1 : List (Int)) (w : World) (w0 : (Lit.int .u8 a0).wf = true) (r1 : Kd.C (Kd.int .u8) w A1 l1.length l1) (k1 : l1.length ≤ c1) (m1 : l1.length ≤ maxLen) (y1 : l1.length * 1 ≤ 140737488351232) (g1 : ∀ y ∈ l1, (Lit.int .u8 y).wf = true) :
    Calls Try.prog 7 #[.int .u8 a0, .slice A1 l1.length c1] w fun e w' => e = .returned (.bool true) ∧ Below w.heap.size w w' := by
  have b0 := bounds_u8 w0
  clear w0
  obtain ⟨b00, b01⟩ := b0
  have HR1 := Aside0.mk r1
  have HG1 := Aside0.mk g1
  clear r1 g1 m1
  obtain ⟨k, hk⟩ : ∃ k : Nat, 1 + a0 % 20 = (k : Int) := ⟨(1 + a0 % 20).toNat, by omega⟩
  have hk1 : 1 ≤ k := by omega
  have hk2 : k ≤ 20 := by omega
  have hmk := mk34 k (by omega)
  by_cases hl : (200 : Int) < (l1.length : Int)
  · go_enter Try.func7, Try.ntmps7
    go_wp2_with (first
      | (go_at_call 8; (refine (awakeC _).mono ?_); rintro e w1 ⟨rfl, hb⟩; have HB := Aside0.mk hb; clear hb))
    go_ret
    exact ⟨rfl, HB.out⟩
  · have hlb : decide ((200 : Int) < (l1.length : Int)) = false := decide_eq_false hl
    go_enter Try.func7, Try.ntmps7
    go_wp2_with (first
      | (go_at_call 8; (refine (awakeC _).mono ?_); rintro e w1 ⟨rfl, hb⟩; have HB := Aside0.mk hb; clear hb)
      | (go_at_call 9; (refine (newC0 (w0 := w) k _ _ HB.out (newN_of rfl (by omega))).mono ?_); rintro e w2 ⟨g, rfl, hS, -, -⟩; have HS := Aside0.mk hS; clear hS))
    have HS3 := Aside0.mk (HS.out.alloc (.cells (Array.replicate k (Value.int IntKind.i64 0)) 3 (0, 0)))
    have HR3 := Aside0.mk (made_row (enc := Value.int .i64) (t := 3) w2 k (0 : Int))
    have hgq := HS.out.is.lt
    clear HS HB hk b00 b01 hmk
    generalize (w2.alloc (.cells (Array.replicate k (Value.int IntKind.i64 0)) 3 (0, 0))) = W3 at *
    generalize w2.heap.size = q at *
    go_loopw [8] (fun v8 wr => ∃ (i : Nat) (s e : List Int), (i : Int) ≤ (l1.length : Int) ∧ s.length = k ∧ e.length = k ∧ v8 = .int .i64 (i : Int) ∧ Aside0 (St w wr g (s, e)) ∧ Aside0 (Row (Value.int .i64) 3 wr q e)) (fun v8 _ => l1.length - (intOf v8).toNat)
    case atStart => exact ⟨0, List.replicate k 1, List.replicate k 0, by omega, by simp, by simp, rfl, HS3, HR3⟩
    case round =>
      clear HS3 HR3
      obtain ⟨i, s, e, hil, hs, he, rfl, HS, HR⟩ := hrel
      by_cases c : (i : Int) < (l1.length : Int)
      · obtain ⟨ad, e1, hx⟩ := Kd.at_int HR1.out (i : Int) (by omega) c
        cases e1
        have hxm : (Lit.int .u8 (rd l1 (i : Int))).wf = true := HG1.out _ (by rw [rd_at l1 i (by omega)]; exact List.getElem_mem _)
        obtain ⟨hx0, hx1⟩ := bounds_u8 hxm
        clear hxm
        obtain ⟨x, hxx⟩ : ∃ x, rd l1 (i : Int) = x := ⟨_, rfl⟩
        rw [hxx] at hx hx0 hx1
        rw [Int.toNat_natCast] at hx
        clear hxx
        have cN : i < l1.length := by omega
        obtain ⟨b, hb⟩ : ∃ b : Nat, x % (k : Int) = (b : Int) := ⟨(x % (k : Int)).toNat, by have := Int.emod_nonneg x (show (k : Int) ≠ 0 by omega); omega⟩
        have hbk : b < k := by have := Int.emod_lt_of_pos x (show (0 : Int) < (k : Int) by omega); omega
        have hxr := (HS.out.bel.cell (World.block_lt_of_cell? w _ hx)).trans hx
        obtain ⟨z, hz⟩ : ∃ z, e.getD b 0 = z := ⟨_, rfl⟩
        have HZ := Aside0.mk hz
        have hee := erased_at (s := s) (m := e) (b := b) (by omega) (by omega)
        rw [hz] at hee
        have HE := Aside0.mk hee
        clear hz hee
        have hbk' : (b : Int) < (k : Int) := by omega
        go_wp2_with (first
          | (go_at_call 14; (refine (erasedC HS _ _ HE.out).mono ?_); rintro e w5 ⟨rfl, HS1, HK⟩; have HR2 := Aside0.mk (HK.out.row HR.out hgq); clear HS HR HK HE; have HS := HS1; have HR := HR2; clear HS1 HR2; have hc5 := HR.out.cellD 0 b (by omega); rw [HZ.out] at hc5; have hf5 := HR.out.frozen b)
          | (go_at_call 10; (first | (with_reducible refine (turnAny HS _ _).mono ?_) | (refine (turnAny (Aside0.mk (St.far HS.out (p := ⟨q, b, none⟩) hgq _)) _ _).mono ?_)); rintro e w6 ⟨r, s', rfl, hs', HS1, HK⟩; rw [hs] at hs'; clear hs; have hs := hs'; clear hs'; have HR2 : Aside0 (Row (Value.int .i64) 3 w6 q (e.set b (wrap64 (z + 1)))) := ⟨by first | exact HK.out.row HR.out hgq | exact HK.out.row (HR.out.set b _) hgq⟩; clear HS HR HK; have HS := HS1; have HR := HR2; clear HS1 HR2; have hx6 := (HS.out.bel.cell (World.block_lt_of_cell? w _ hx)).trans hx))
        all_goals
          try clear HE
          have hel : (e.set b (wrap64 (z + 1))).length = k := by simp [he]
          generalize e.set b (wrap64 (z + 1)) = e2 at *
          go_loopw [10] (fun v10 wi => ∃ d : Nat, d ≤ k ∧ v10 = .int .i64 (d : Int) ∧ Aside0 (St w wi g (s', e2)) ∧ Aside0 (Row (Value.int .i64) 3 wi q e2)) (fun v10 _ => k - (intOf v10).toNat)
          case atStart => exact ⟨0, by omega, rfl, HS, HR⟩
          case round =>
            clear HS HR
            obtain ⟨d, hd, rfl, HS, HR⟩ := hrel
            by_cases hdk : d < k
            · have HV := Aside0.mk (erases_at (s := s') (m := e2) (b := d) (by omega))
              have hcd := HR.out.cellD 0 d (by omega)
              have hdk' : (d : Int) < (k : Int) := by omega
              have hd0 : (0 : Int) ≤ (d : Int) := by omega
              obtain ⟨z2, hz2⟩ : ∃ z2, e2.getD d 0 = z2 := ⟨_, rfl⟩
              rw [hz2] at hcd
              have HZ2 := Aside0.mk hz2
              clear hz2
              go_wp2
              go_quiet ((go_at_call 16; exact Calls.quiet_of ((erasesC ⟨HS.out.drewN _⟩ _ _ (HV.out.trans HZ2.out)).mono fun e w' h => ⟨h.1, h.2.out⟩)))
              go_wp2
              go_roundw
              case rel => exact ⟨d + 1, by omega, by go_num, ⟨HS.out.drewN _⟩, ⟨HR.out.drewN _⟩⟩
              case measure => simp [intOf]; omega
            · go_wp2
              go_roundw
              case rel => exact ⟨i + 1, s', e2, by omega, hs, hel, by go_num, HS, HR⟩
              case measure => simp [intOf]; omega
      · have HV1 : Aside0 (erasesF (s, e) (-1) = 0) := ⟨by unfold erasesF; rw [if_neg (by simp [thereB])]⟩
        have HV2 : Aside0 (erasesF (s, e) (k : Int) = 0) := ⟨by unfold erasesF; rw [if_neg (by simp [thereB, hs])]⟩
        go_wp2_with (first
          | (go_at_call 16; (first | (with_reducible refine (erasesC HS (-1) 0 HV1.out).mono ?_) | (with_reducible refine (erasesC HS (k : Int) 0 HV2.out).mono ?_)); rintro e w7 ⟨rfl, hd⟩; obtain ⟨nd, rfl⟩ := hd.out; have HS1 := Aside0.mk (HS.out.drewN nd); clear HS; have HS := HS1; clear HS1))
        go_ret
        exact ⟨by first | rfl | (simp; done), by have h_ := HS.out.bel; rw [World.drewN_drewN] at h_; exact h_⟩
end Go.Proofs.Ytfgfjgjabcmheaa.M
