/- Plain: New. By hand. -/
import Derived.Test.YtanfpjlcpcfjoaaE
import Derived.Deep.RegionLaw
namespace Go.Proofs.Ytanfpjlcpcfjoaa.M
open Go.RowKit Go.Proofs.YtanfpjlcpcfjoaaW.PrintWords Go.Proofs.YtanfpjlcpcfjoaaW.PrintLast Go.Proofs.YtanfpjlcpcfjoaaW.PrintMore Go.Proofs.Ytanfpjlcpcfjoaa.Rw
attribute [local go_sem] max2_int min2_int max_two min_two
attribute [local go_sem ↓] Go.wp_at_zero Go.wp_at_succ
set_option linter.unusedVariables false
set_option linter.unusedSimpArgs false
/-- no page yet -/
theorem empty_P {w W : World} (hb : Below w.heap.size w W) (n : Nat) (hn : n ≤ 16777216) (hg : W.heap.size = w.heap.size) :
    IsP (W.alloc (.cells #[.slice none 0 0, .int .i64 (n : Int)] 51 (0, 0))) w.heap.size (W.alloc (.cells #[.slice none 0 0, .int .i64 (n : Int)] 51 (0, 0))).heap.size w.heap.size [] n := by
  have hsz : (W.alloc (.cells #[.slice none 0 0, .int .i64 (n : Int)] 51 (0, 0))).heap.size = w.heap.size + 1 := by rw [World.size_alloc, hg]
  refine ⟨.slice none 0 0, [], Nat.le_refl _, by omega, Nat.le_refl _, by simp, by simp, hn, ?_, ?_, ?_, rfl, by simp, by simp⟩
  · have := blk_new W (.cells #[.slice none 0 0, .int .i64 (n : Int)] 51 (0, 0))
    rwa [hg] at this
  · exact ⟨by simp, .inl ⟨rfl, rfl⟩⟩
  · intro k hk; simp [Value.ownBlock] at hk
theorem own_up {W W1 : World} {lo hi g n : Nat} {L : Ln} {v : Value} {vs : List Value} (h : IsPd W lo hi g L n v vs) (hb : Below W.heap.size W W1) : W1.ownsRow lo 31 1 v vs.length vs :=
  own_move h.own (fun k hk => hb.block k (Nat.lt_of_lt_of_le (h.ob k hk).1 h.hs))
/-- a page more: the append, as a step of a region that draws -/
theorem push_step {ops : Array Oper} {o : Oper} {a : Act} {W W2 : World} {K : Act → World → Prop} {Q : Exit → Act → World → Prop} {E : Prop} {lo hi g n i c0 q : Nat} {L : Ln} {A0 : Option Addr} {u : Value} {vs : List Value} {r : List Int}
    (hgd : o.guard = none) (s x : Operand) (ho : o.op = .call { callee := .builtin .append, args := #[s, x], argTypes := #[43, 43] }) (hs : a.eval s = .slice A0 i c0) (hx : a.eval x = .slice (some ⟨q, 0, none⟩) 1 1)
    (h : IsPd W lo hi g L n (.slice A0 i c0) vs) (hL : L.length = i) (hl : i + 1 ≤ 200) (hb : Below W.heap.size W W2) (hq : W2.heap[q]? = some (.cells #[u] 31 (0, 0))) (hR : Kd.R (Kd.int .u8) 5 W2 hi (fun _ => True) u r) (hr : r.length = n)
    (hK : ∀ gg cap W3, W3.cell? ⟨g, 0, none⟩ = some (.slice A0 i c0) → W3.frozen? ⟨g, 0, none⟩ = false → Aside0 (IsP (W3.setCell ⟨g, 0, none⟩ (.slice (some ⟨gg, 0, none⟩) (i + 1) cap)) lo (W3.setCell ⟨g, 0, none⟩ (.slice (some ⟨gg, 0, none⟩) (i + 1) cap)).heap.size g (L ++ [r]) n) → Aside0 (Below lo W (W3.setCell ⟨g, 0, none⟩ (.slice (some ⟨gg, 0, none⟩) (i + 1) cap))) → K (a.put o.dst (.slice (some ⟨gg, 0, none⟩) (i + 1) cap)) W3) :
    if Region.wanted o (yielded ops a.tmps) = true then Oper.wp Try.prog o a W2 K Q else E := by
  have hone : u.oneCell' = true := by obtain ⟨Au, cu, rfl⟩ := Kd.R_slice hR; rfl
  have hlen : vs.length = i := h.len.trans hL
  have hlo : lo ≤ W2.heap.size := by have := h.lg; have := h.gh; have := h.hs; have := hb.size; omega
  have hgW : W2.heap[g]? = some (.cells #[.slice A0 i c0, .int .i64 (n : Int)] 51 (0, 0)) := (hb.block g (Nat.lt_of_lt_of_le h.gh h.hs)).trans h.blk
  obtain ⟨i31, hi31, hz⟩ := Option.map_eq_some_iff.1 info31
  simp only [Prod.mk.injEq] at hz
  have hown := own_up h hb
  rw [hlen] at hown
  refine step_append_lies (W2) hgd s x 43 ho lo 31 i31 (.slice none 0 0) 1 24 Try.underlying43 hi31 hz.1 hz.2.1 hz.2.2 rfl (by decide) (.slice A0 i c0) i vs hs hown ⟨q, 0, none⟩ 1 1 [u] hx rfl (fun j y hy => World.news_of_block hq j y (by simpa using hy)) (by simpa using hone) (by decide) (Nat.le_trans hl (by decide)) (by omega) hlo _ rfl (fun gg cap W3 h1 h2 h3 h4 => ?_)
  clear hs hx
  have hgr : W3.heap[g]? = W2.heap[g]? := h2.block g (blk_lt hgW) (fun e => (h.ob g e.symm).2 rfl)
  have hat : (Value.slice (some ⟨gg, 0, none⟩) (i + 1) cap).ownBlock = (Value.slice A0 i c0).ownBlock ∨ ∃ k, (Value.slice (some ⟨gg, 0, none⟩) (i + 1) cap).ownBlock = some k ∧ W2.heap.size ≤ k := by
    rcases h3 with e | e
    · exact .inl (by rw [e]; rfl)
    · exact .inr ⟨gg, rfl, by omega⟩
  have hp := h.push hb hR hr (by omega) (by rw [hlen]; exact h1) h2 hat
  refine hK gg cap W3 (by rw [blk_cell (hgr.trans hgW) 0]; rfl) (blk_frozen (hgr.trans hgW) 0) ⟨⟨.slice (some ⟨gg, 0, none⟩) (i + 1) cap, vs ++ [u], ?_⟩⟩ ⟨?_⟩
  · have hsz : (W3.setCell ⟨g, 0, none⟩ (.slice (some ⟨gg, 0, none⟩) (i + 1) cap)).heap.size = W3.heap.size := by simp [World.setCell]
    rw [hsz]; exact hp
  · have b1 : Below lo W W3 := Below.trans (hb.mono (by have := h.lg; have := h.gh; have := h.hs; omega)) (Below.grown (Below.refl _ _) h2 hlo (fun k hk => own_ge h.own k hk))
    exact b1.setCell h.lg _
/-- what 'make' of a page and the row for the append lay -/
theorem made_two (W : World) (B : Nat) (lB : B ≤ 200) : ∃ W2, W2 = ((W.alloc (.cells (Array.replicate B (.int .u8 0)) 5 (0, 0))).alloc (.cells #[.slice (some ⟨W.heap.size, 0, none⟩) B B] 31 (0, 0))).drew ∧ Below W.heap.size W W2 ∧
    W2.heap[W.heap.size + 1]? = some (.cells #[.slice (some ⟨W.heap.size, 0, none⟩) B B] 31 (0, 0)) ∧ Kd.R (Kd.int .u8) 5 W2 W.heap.size (fun _ => True) (.slice (some ⟨W.heap.size, 0, none⟩) B B) (List.replicate B 0) := by
  refine ⟨_, rfl, below_drew (below_alloc (below_alloc (Below.refl _ _) _) _), ?_, ?_⟩
  · have h := blk_new (W.alloc (.cells (Array.replicate B (.int .u8 0)) 5 (0, 0))) (.cells #[.slice (some ⟨W.heap.size, 0, none⟩) B B] 31 (0, 0))
    rw [World.size_alloc] at h
    exact blk_drew h
  · have h := blk_drew (blk_alloc (blk_new W (.cells (Array.replicate B (.int .u8 0)) 5 (0, 0))) (.cells #[.slice (some ⟨W.heap.size, 0, none⟩) B B] 31 (0, 0)))
    refine Kd.R_of_own ⟨by simp [encs], .inr ⟨W.heap.size, B, _, by simp, Nat.le_refl _, h, by simp, Nat.le_trans lB (by decide), by simp, by simp [encs]⟩⟩ (fun _ _ => trivial)
set_option maxHeartbeats 3200000 in
set_option maxRecDepth 100000 in
theorem newC (a b : Int) (A B : Nat) (hA : (if a < 0 then 0 else a) = (A : Int)) (hB : (if b < 0 then 0 else b) = (B : Int)) (lA : A ≤ 200) (lB : B ≤ 200) (w : World) : Calls Try.prog 8 #[.int .i64 a, .int .i64 b] w fun e w' =>
    e = .returned (.pointer (some ⟨w.heap.size, 0, none⟩)) ∧ Aside0 (IsP w' w.heap.size w'.heap.size w.heap.size (List.replicate A (List.replicate B 0)) B) ∧ Aside0 (Below w.heap.size w w') := by
  have hmk := fun (W : World) => mk_row (P := Try.prog) (t := 31) (e := 5) (z := .int .u8 0) Try.underlying31 info5 rfl B (by omega) (by omega) W
  have hd1 : decide ((16777216 : Int) < (A : Int)) = false := decide_eq_false (by omega)
  have HE := Aside0.mk (empty_P (Below.refl w.heap.size w) B (by omega) rfl)
  have HB0 := Aside0.mk (below_alloc (Below.refl w.heap.size w) (.cells #[.slice none 0 0, .int .i64 (B : Int)] 51 (0, 0)))
  go_enter Try.func8, Try.ntmps8
  go_upto_region 3 with (fail)
  go_cut [29] from 15 to 29 (fun v29 wx => v29 = .bool false ∧ wx = w.alloc (.cells #[.slice none 0 0, .int .i64 (B : Int)] 51 (0, 0)))
  case first =>
    by_cases h0 : 0 < B
    · have hb0 : decide ((0 : Int) < (B : Int)) = true := decide_eq_true (by omega)
      have hne : ((B : Int) == 0) = false := beq_eq_false_iff_ne.2 (by omega)
      have hq : decide ((16777216 : Int) / (B : Int) < (A : Int)) = false := decide_eq_false (by
        have h1 : (16777216 : Int) / (B : Int) = ((16777216 / B : Nat) : Int) := rfl
        have h2 : 16777216 / 200 ≤ 16777216 / B := Nat.div_le_div_left lB h0
        omega)
      go_wp2
      go_meet
      case rel => exact ⟨rfl, rfl⟩
    · have hb0 : decide ((0 : Int) < (B : Int)) = false := decide_eq_false (by omega)
      go_wp2
      go_meet
      case rel => exact ⟨rfl, rfl⟩
  case rest =>
    obtain ⟨rfl, rfl⟩ := hcut
    go_wp2
    clear hd1
    go_loopw [32] (fun v32 wr => ∃ i : Nat, i ≤ A ∧ v32 = .int .i64 (i : Int) ∧ Aside0 (IsP wr w.heap.size wr.heap.size w.heap.size (List.replicate i (List.replicate B 0)) B) ∧ Aside0 (Below w.heap.size w wr)) (fun v32 _ => A - (intOf v32).toNat)
    case atStart => exact ⟨0, Nat.zero_le _, rfl, HE, HB0⟩
    case round =>
      clear HE HB0
      obtain ⟨i, hi, rfl, HP0, HB⟩ := hrel
      obtain ⟨v, vs, hP⟩ := HP0.out
      clear HP0
      by_cases ci : i < A
      · obtain ⟨A0, c0, hv, hc0, hc1⟩ := hP.head
        have hf0 := blk_frozen hP.blk 0
        have hg := blk_lt hP.blk
        have HO := hP.own
        rw [List.length_replicate] at hv hc0
        subst hv
        have hlen := hP.len
        rw [List.length_replicate] at hlen
        have HP := Aside0.mk hP
        have HL := Aside0.mk (List.length_replicate (n := i) (a := List.replicate B (0 : Int)))
        have HL2 := Aside0.mk (List.replicate_succ' (n := i) (a := List.replicate B (0 : Int))).symm
        have HLB := Aside0.mk (List.length_replicate (n := B) (a := (0 : Int)))
        have hi200 : i + 1 ≤ 200 := by omega
        obtain ⟨W2, hW2, hbb, hqq, hRR⟩ := made_two wr B lB
        rw [hW2] at hbb hqq hRR
        have HBB := Aside0.mk hbb
        have HQQ := Aside0.mk hqq
        have HRR := Aside0.mk hRR
        clear hW2 hbb hqq hRR
        clear hP
        go_upto_region 7 with (fail)
        go_region_law (first | (apply push_step (s := .tmp 38) (x := .tmp 44) (r := List.replicate B 0); (case h => exact HP.out); (case hgd => rfl); (case ho => rfl); (case hs => rfl); (case hx => rfl); (case hL => exact HL.out); (case hl => exact hi200); (case hr => exact HLB.out); (case hb => exact HBB.out); (case hq => exact HQQ.out); (case hR => exact HRR.out); (intro gg cap w3 hcc hcf HP3 HB3; rw [HL2.out] at HP3)))
        all_goals (
          have HB2 := Aside0.mk (Below.trans HB.out HB3.out)
          clear HB HB3 HP HBB HQQ HRR hc0 hc1 hf0 hcc hcf
          go_wp2
          go_roundw
          case rel => exact ⟨i + 1, ci, rfl, HP3, HB2⟩
          case measure => simp [intOf]; omega)
      · obtain rfl : i = A := by omega
        have HP0 := Aside0.mk (⟨v, vs, hP⟩ : IsP wr w.heap.size wr.heap.size w.heap.size (List.replicate i (List.replicate B 0)) B)
        clear hP
        go_wp2
        go_ret
        exact ⟨rfl, HP0, HB⟩
end Go.Proofs.Ytanfpjlcpcfjoaa.M
