/- The document's own FateMay; the document's example. By hand. -/
import Derived.Test.YtopajgpepmocfaaD
namespace Go.Proofs.Ytopajgpepmocfaa.M
open Go.RowKit Go.Proofs.YtopajgpepmocfaaW.PrintWords Go.Proofs.YtopajgpepmocfaaW.PrintLast Go.Proofs.YtopajgpepmocfaaW.PrintMore Go.Proofs.Ytopajgpepmocfaa.Rw Go.Maps
set_option linter.unusedVariables false
set_option linter.unusedSimpArgs false
theorem take_snocD (l : List F) (i : Nat) (h : i < l.length) (x : F) (hx : l.getD i (0, 0, 0) = x) : l.take (i + 1) = l.take i ++ [x] := by
  rw [List.take_succ_eq_append_getElem h]
  have : l[i] = x := by rw [← hx, List.getD_eq_getElem?_getD, List.getElem?_eq_getElem h]; rfl
  rw [this]
theorem apart_snoc {l : List F} {x : F} (h : Apart l) (hx : ∀ y ∈ l, y.1 ≠ x.1) : Apart (l ++ [x]) := by
  unfold Apart
  rw [List.pairwise_append]
  exact ⟨h, List.pairwise_singleton _ _, fun a ha b hb => by rw [List.mem_singleton.1 hb]; exact hx a ha⟩
set_option maxHeartbeats 1600000 in
theorem refMayC (A0 : Option Addr) (c0 : Nat) (l : List F) (w : World) (hR : Kd.C (Kd.pair (Kd.int .i64) (Kd.pair (Kd.int .i64) (Kd.int .i64))) w A0 l.length l) (hc : l.length ≤ c0) (hm : l.length ≤ 9223372036854775807) (r : Bool) (hr : OkF l ↔ r = true) :
    Calls Try.prog 8 #[.slice A0 l.length c0] w fun e w' => e = .returned (.bool r) ∧ Below w.heap.size w w' := by
  have HR := Aside0.mk hR
  have HRes := Aside0.mk hr
  clear hR hr
  by_cases h256 : 256 < (l.length : Int)
  · have hrf : r = false := by
      cases r with
      | false => rfl
      | true => have := (HRes.out.2 rfl).1; omega
    subst hrf
    go_enter Try.func8, Try.ntmps8
    go_wp2
    go_ret
    exact ⟨rfl, Below.refl _ _⟩
  · have hlb : decide ((256 : Int) < (l.length : Int)) = false := decide_eq_false h256
    go_enter Try.func8, Try.ntmps8
    go_wp2
    go_loopw [3] (fun v3 wr => ∃ i : Nat, (i : Int) ≤ (l.length : Int) ∧ v3 = .int .i64 (i : Int) ∧ Aside0 (Below w.heap.size w wr) ∧ Aside0 (∀ x ∈ l.take i, MayF x) ∧ Aside0 (Apart (l.take i))) (fun v3 _ => l.length - (intOf v3).toNat)
    case atStart => exact ⟨0, by omega, rfl, ⟨Below.refl _ _⟩, ⟨by simp⟩, ⟨by simp [Apart]⟩⟩
    case round =>
      obtain ⟨i, hi, rfl, HB, HM, HA⟩ := hrel
      by_cases c : (i : Int) < (l.length : Int)
      · have cN : i < l.length := by omega
        obtain ⟨ad, e1, hx, hy, hz⟩ := at_tri HR.out i cN
        cases e1
        obtain ⟨x, hxx⟩ : ∃ x, l.getD i (0, 0, 0) = x := ⟨_, rfl⟩
        rw [hxx] at hx hy hz
        replace hx := (HB.out.cell (World.block_lt_of_cell? w _ hx)).trans hx
        replace hy := (HB.out.cell (World.block_lt_of_cell? w _ hy)).trans hy
        replace hz := (HB.out.cell (World.block_lt_of_cell? w _ hz)).trans hz
        have HT := Aside0.mk (take_snocD l i cN x hxx)
        have HMem : Aside0 (x ∈ l) := ⟨by rw [← hxx]; exact mem_getD _ cN⟩
        obtain ⟨x1, x2, x3⟩ := x
        simp only at hx hy hz
        clear hxx
        have hNo : ¬ MayF (x1, x2, x3) → r = false := fun hm => by
          cases r with
          | false => rfl
          | true => exact absurd ((HRes.out.2 rfl).2.1 _ HMem.out) hm
        have HNo := Aside0.mk hNo
        clear hNo
        by_cases h1 : x1 < 0
        · have hr := HNo.out (fun h => by have := h.1; simp only at this; omega)
          subst hr
          go_wp2
          go_ret
          exact ⟨rfl, below_alloc HB.out _⟩
        · by_cases h2 : 1099511627776 < x1
          · have hr := HNo.out (fun h => by have := h.2.1; simp only at this; omega)
            subst hr
            go_wp2
            go_ret
            exact ⟨rfl, below_alloc HB.out _⟩
          · by_cases h3 : x3 < 0
            · have hr := HNo.out (fun h => by have := h.2.2.2; simp only at this; omega)
              subst hr
              go_wp2
              all_goals
                go_ret
                exact ⟨rfl, below_alloc HB.out _⟩
            · by_cases h4 : x2 = 1 ∨ x2 = 2
              · have hmx : MayF (x1, x2, x3) := ⟨by simp only; omega, by simp only; omega, h4, by simp only; omega⟩
                have HMx := Aside0.mk hmx
                have HP := Aside0.mk (blk_new wr (.cells #[.int .i64 x1, .int .i64 x2, .int .i64 x3] 30 (0, 0)))
                have HB8 := Aside0.mk (below_alloc HB.out (.cells #[.int .i64 x1, .int .i64 x2, .int .i64 x3] 30 (0, 0)))
                have HM' : Aside0 (∀ y ∈ l.take (i + 1), MayF y) := ⟨fun y hy => by
                  rw [HT.out] at hy
                  rcases List.mem_append.1 hy with hy | hy
                  · exact HM.out y hy
                  · rw [List.mem_singleton.1 hy]; exact HMx.out⟩
                clear hmx HNo HB HM
                rcases h4 with rfl | rfl
                all_goals
                  go_wp2
                  generalize (wr.alloc (.cells _ 30 (0, 0))) = W8 at *
                  generalize wr.heap.size = p at *
                  go_loopw [5] (fun v5 wk => ∃ k : Nat, k ≤ i ∧ v5 = .int .i64 (k : Int) ∧ Aside0 (Below W8.heap.size W8 wk) ∧ Aside0 (∀ y ∈ l.take k, y.1 ≠ x1)) (fun v5 _ => i - (intOf v5).toNat)
                  case atStart => exact ⟨0, by omega, rfl, ⟨Below.refl _ _⟩, ⟨by simp⟩⟩
                  case round =>
                    obtain ⟨k, hk, rfl, HB, HK⟩ := hrel
                    by_cases ck : k < i
                    · have ck' : (k : Int) < (i : Int) := by omega
                      have kN : k < l.length := by omega
                      have kN' : (k : Int) < (l.length : Int) := by omega
                      have hk0 : (0 : Int) ≤ (k : Int) := by omega
                      obtain ⟨ad', e1, hx', hy', hz'⟩ := at_tri HR.out k kN
                      cases e1
                      obtain ⟨y, hyy⟩ : ∃ y, l.getD k (0, 0, 0) = y := ⟨_, rfl⟩
                      rw [hyy] at hx'
                      replace hx' := (HB8.out.cell (World.block_lt_of_cell? w _ hx')).trans hx'
                      replace hx' := pw_cell_below HB.out hx'
                      have hp0 : wr.cell? ⟨p, 0, none⟩ = some (.int .i64 x1) := (blk_cell (blk_below HP.out HB.out) 0).trans rfl
                      have HTk := Aside0.mk (take_snocD l k kN y hyy)
                      have HMy : Aside0 (y ∈ l.take i) := ⟨by
                        have : l.take (k + 1) = l.take k ++ [y] := HTk.out
                        have h2 : y ∈ l.take (k + 1) := by rw [this]; simp
                        exact (List.take_subset_take_left l (by omega)) h2⟩
                      obtain ⟨y1, y2, y3⟩ := y
                      simp only at hx'
                      clear hyy hy' hz'
                      cases he : (y1 == x1) with
                      | true =>
                        have hr : r = false := by
                          cases r with
                          | false => rfl
                          | true =>
                            have ha := (HRes.out.2 rfl).2.2
                            have h2 : Apart (l.take (i + 1)) := List.Pairwise.sublist (List.take_sublist _ _) ha
                            rw [HT.out] at h2
                            exact absurd (eq_of_beq he) ((List.pairwise_append.1 h2).2.2 _ HMy.out _ (List.mem_singleton.2 rfl))
                        subst hr
                        go_wp2
                        go_quiet (fail)
                        go_wp2
                        go_ret
                        exact ⟨rfl, below_step HB8.out (pw_below_drewN HB.out _)⟩
                      | false =>
                        have HNe := Aside0.mk he
                        go_wp2
                        go_quiet (fail)
                        go_wp2
                        go_roundw
                        case rel => exact ⟨k + 1, by omega, by go_num, ⟨pw_below_drewN HB.out _⟩, ⟨fun z hz => by
                          rw [HTk.out] at hz
                          rcases List.mem_append.1 hz with hz | hz
                          · exact HK.out z hz
                          · rw [List.mem_singleton.1 hz]; exact beq_eq_false_iff_ne.1 HNe.out⟩⟩
                        case measure => simp [intOf]; omega
                    · obtain rfl : i = k := by omega
                      go_wp2
                      go_roundw
                      case rel => exact ⟨i + 1, by omega, by go_num, ⟨below_step HB8.out HB.out⟩, HM', ⟨by rw [HT.out]; exact apart_snoc HA.out (fun y hy => HK.out y hy)⟩⟩
                      case measure => simp [intOf]; omega
              · have hr := HNo.out (fun h => h4 h.2.2.1)
                subst hr
                have h5 : (x2 == 1) = false := beq_eq_false_iff_ne.2 (fun e => h4 (.inl e))
                have h6 : (x2 == 2) = false := beq_eq_false_iff_ne.2 (fun e => h4 (.inr e))
                have h7 : (x2 != 1) = true := bne_iff_ne.2 (fun e => h4 (.inl e))
                have h8 : (x2 != 2) = true := bne_iff_ne.2 (fun e => h4 (.inr e))
                clear h4
                go_wp2
                go_ret
                exact ⟨rfl, below_alloc HB.out _⟩
      · have hrt : r = true := HRes.out.1 ⟨by omega, fun x hx => HM.out x (by rw [List.take_of_length_le (by omega)]; exact hx), by have h_ := HA.out; rw [List.take_of_length_le (by omega)] at h_; exact h_⟩
        subst hrt
        go_wp2
        go_ret
        exact ⟨rfl, HB.out⟩
/-- a row of fates' cells -/
def cellsF (l : List F) : List Value := l.flatMap (fun x => [.int .i64 x.1, .int .i64 x.2.1, .int .i64 x.2.2])
theorem cellsF_at : ∀ (l : List F) (j i : Nat) (x : F), l[j]? = some x → i < 3 → (cellsF l)[j * 3 + i]? = [Value.int .i64 x.1, .int .i64 x.2.1, .int .i64 x.2.2][i]?
  | [], j, i, x, h, hi => by simp at h
  | y :: l, 0, i, x, h, hi => by
    have : y = x := by simpa using h
    subst this
    rw [Nat.zero_mul, Nat.zero_add]
    show ([Value.int .i64 y.1, .int .i64 y.2.1, .int .i64 y.2.2] ++ cellsF l)[i]? = _
    rw [List.getElem?_append_left (by simpa using hi)]
  | y :: l, j + 1, i, x, h, hi => by
    have h' : l[j]? = some x := by simpa using h
    show ([Value.int .i64 y.1, .int .i64 y.2.1, .int .i64 y.2.2] ++ cellsF l)[(j + 1) * 3 + i]? = _
    rw [List.getElem?_append_right (by simp; omega)]
    rw [show (j + 1) * 3 + i - [Value.int .i64 y.1, .int .i64 y.2.1, .int .i64 y.2.2].length = j * 3 + i from by simp; omega]
    exact cellsF_at l j i x h' hi
theorem C_of_blockF {w : World} {q : Nat} {l : List F} (h : w.heap[q]? = some (.cells (cellsF l).toArray 30 (0, 0))) (hm : l.length ≤ 9223372036854775807) : Kd.C (Kd.pair (Kd.int .i64) (Kd.pair (Kd.int .i64) (Kd.int .i64))) w (some ⟨q, 0, none⟩) l.length l := by
  refine ⟨rfl, hm, fun _ => ⟨⟨q, 0, none⟩, rfl, fun j x hx => ⟨[.int .i64 x.1, .int .i64 x.2.1, .int .i64 x.2.2], rfl, ⟨[.int .i64 x.1], [.int .i64 x.2.1, .int .i64 x.2.2], rfl, rfl, [.int .i64 x.2.1], [.int .i64 x.2.2], rfl, rfl, rfl⟩, fun i u hu => ?_⟩⟩⟩
  have hi : i < 3 := (List.getElem?_eq_some_iff.1 hu).1
  have := cellsF_at l j i x hx hi
  rw [hu] at this
  have hc := blk_cell h (j * 3 + i)
  have e : Addr.add ⟨q, 0, none⟩ (j * 3 + i) = ⟨q, j * 3 + i, none⟩ := by
    unfold Addr.add
    split
    · rename_i h0; rw [h0]
    · simp
  have e2 : (j * (Kd.pair (Kd.int IntKind.i64) (Kd.pair (Kd.int IntKind.i64) (Kd.int IntKind.i64))).sz + i) = j * 3 + i := rfl
  rw [e2, e, hc]
  simpa using this
abbrev Tri := Kd.pair (Kd.int .i64) (Kd.pair (Kd.int .i64) (Kd.int .i64))
theorem newYes (A0 : Option Addr) (c0 : Nat) (l : List F) (w : World) (hR : Kd.C Tri w A0 l.length l) (hc : l.length ≤ c0) (hok : OkF l) :
    Calls Try.prog 7 #[.slice A0 l.length c0] w fun e w' => ∃ g, e = .returned (.tuple #[.pointer (some ⟨g, 0, none⟩), .int .i64 0]) ∧ Aside0 (IsF w w' g l) ∧ Aside0 (Below w.heap.size w w') :=
  (newC A0 c0 l w hR hc (by have := hok.1; omega)).mono fun e w' h => by
    obtain ⟨hb, ⟨-, g, he, hI⟩ | ⟨hn, -⟩⟩ := h
    · exact ⟨g, he, ⟨hI⟩, ⟨hb⟩⟩
    · exact absurd hok hn
theorem newNo (A0 : Option Addr) (c0 : Nat) (l : List F) (w : World) (hR : Kd.C Tri w A0 l.length l) (hc : l.length ≤ c0) (hm : l.length ≤ 9223372036854775807) (hok : ¬ OkF l) :
    Calls Try.prog 7 #[.slice A0 l.length c0] w fun e w' => e = .returned (.tuple #[.pointer none, .int .i64 1]) ∧ Aside0 (Below w.heap.size w w') :=
  (newC A0 c0 l w hR hc hm).mono fun e w' h => by
    obtain ⟨hb, ⟨hn, -⟩ | ⟨-, he⟩⟩ := h
    · exact absurd hn hok
    · exact ⟨he, ⟨hb⟩⟩
theorem wf3 {n : Int} (h : -1000 ≤ n) (h2 : n ≤ 1000) : (Lit.int .i64 n).wf = true := Go.WalkArith.wf_i64 ⟨by omega, by omega⟩
/-- the fates at block g; all else as it was when the call began -/
structure FS (w W : World) (g : Nat) (l : List F) : Prop where
  is : ∃ w0, IsF w0 W g l
  bel : Below w.heap.size w W
theorem FS.below {w W W1 : World} {g : Nat} {l : List F} (h : FS w W g l) (hb : Below W.heap.size W W1) : FS w W1 g l := ⟨let ⟨w0, h0⟩ := h.is; ⟨w0, h0.below hb⟩, below_step h.bel hb⟩
theorem FS.alloc {w W : World} {g : Nat} {l : List F} (h : FS w W g l) (o : Obj) : FS w (W.alloc o) g l := h.below (below_alloc (Below.refl _ _) o)
theorem FS.drewN {w W : World} {g : Nat} {l : List F} (h : FS w W g l) (n : Nat) : FS w (W.drewN n) g l := h.below (pw_below_drewN (Below.refl _ _) n)
theorem newS {w : World} (A0 : Option Addr) (c0 : Nat) (l : List F) (W : World) (hW : Below w.heap.size w W) (hR : Kd.C Tri W A0 l.length l) (hc : l.length ≤ c0) (hok : OkF l) :
    Calls Try.prog 7 #[.slice A0 l.length c0] W fun e w' => ∃ g, e = .returned (.tuple #[.pointer (some ⟨g, 0, none⟩), .int .i64 0]) ∧ Aside0 (FS w w' g l) ∧ Aside0 (Below W.heap.size W w') :=
  (newYes A0 c0 l W hR hc hok).mono fun e w' ⟨g, he, hI, hb⟩ => ⟨g, he, ⟨⟨⟨W, hI.out⟩, below_step hW hb.out⟩⟩, hb⟩
theorem atS {w W : World} {g : Nat} {l : List F} (hS : Aside0 (FS w W g l)) (n : Int) (hn : (Lit.int .i64 n).wf = true) (x : F) (ok : Bool) (hx : lookF l n = (x, ok)) :
    Calls Try.prog 9 #[.pointer (some ⟨g, 0, none⟩), .int .i64 n] W fun e w' => e = .returned (.tuple #[.agg #[.int .i64 x.1, .int .i64 x.2.1, .int .i64 x.2.2], .bool ok]) ∧ Aside0 (Below W.heap.size W w') := by
  obtain ⟨w0, hI⟩ := hS.out.is
  exact (atC hI n hn x ok hx).mono fun e w' ⟨he, hb⟩ => ⟨he, ⟨hb⟩⟩
theorem leftS {w W : World} {g : Nat} {l : List F} (hS : Aside0 (FS w W g l)) (n : Int) (hn : (Lit.int .i64 n).wf = true) (m : Int) (hm : (leftF l n : Int) = m) :
    Calls Try.prog 10 #[.pointer (some ⟨g, 0, none⟩), .int .i64 n] W fun e w' => e = .returned (.int .i64 m) ∧ Aside0 (Below W.heap.size W w') := by
  subst hm
  obtain ⟨w0, hI⟩ := hS.out.is
  exact (leftC hI n hn).mono fun e w' ⟨he, hb⟩ => ⟨he, ⟨hb⟩⟩
set_option maxHeartbeats 1600000 in
theorem awakeC (w : World) : Calls Try.prog 6 #[] w fun e w' => e = .returned (.bool true) ∧ Below w.heap.size w w' := by
  have hok : OkF [(3, 2, 5)] := ⟨by decide, by decide, by unfold Apart; decide⟩
  have h1 : lookF [(3, 2, 5)] 3 = ((3, 2, 5), true) := by decide +kernel
  have h2 : lookF [(3, 2, 5)] 2 = ((0, 0, 0), false) := by decide +kernel
  have h3 : ((leftF [(3, 2, 5)] 3 : Nat) : Int) = 1 := by decide +kernel
  have h4 : ((leftF [(3, 2, 5)] 4 : Nat) : Int) = 0 := by decide +kernel
  have H1 := Aside0.mk h1
  have H2 := Aside0.mk h2
  have H3 := Aside0.mk h3
  have H4 := Aside0.mk h4
  have HOk := Aside0.mk hok
  clear h1 h2 h3 h4 hok
  have HB0 : Aside0 (Below w.heap.size w (w.alloc (.cells (cellsF [(3, 2, 5)]).toArray 30 (0, 0)))) := ⟨below_alloc (Below.refl _ _) _⟩
  go_enter Try.func6, Try.ntmps6
  go_wp2_with (first
    | (go_at_call 7; (refine (newS (w := w) (some ⟨w.heap.size, 0, none⟩) 1 [(3, 2, 5)] _ HB0.out (C_of_blockF (l := [(3, 2, 5)]) (blk_new w _) (by decide)) (by decide) HOk.out).mono ?_); rintro e w1 ⟨g, rfl, HS, -⟩; clear HB0)
    | (go_at_call 9; (with_reducible refine (atS HS 3 (wf3 (by omega) (by omega)) _ _ H1.out).mono ?_); rintro e w2 ⟨rfl, HB⟩; have HS2 : Aside0 (FS w w2 g [(3, 2, 5)]) := ⟨HS.out.below HB.out⟩; clear HS HB; have HS := HS2; clear HS2)
    | (go_at_call 9; (with_reducible refine (atS ⟨HS.out.alloc _⟩ 2 (wf3 (by omega) (by omega)) _ _ H2.out).mono ?_); rintro e w3 ⟨rfl, HB⟩; have HS2 : Aside0 (FS w w3 g [(3, 2, 5)]) := ⟨(HS.out.alloc _).below HB.out⟩; have hc3 : w3.cell? ⟨w2.heap.size, 2, none⟩ = some (.int .i64 5) := (blk_cell (blk_below (blk_new _ _) HB.out) 2).trans rfl; have hn3 : ¬ w2.heap.size = w3.heap.size := Nat.ne_of_lt (World.block_lt_of_cell? w3 _ hc3); have hn4 : w2.heap.size < w3.heap.size := World.block_lt_of_cell? w3 _ hc3; clear HS HB; have HS := HS2; clear HS2)
    | (go_at_call 10; (first | (with_reducible refine (leftS ⟨HS.out.alloc _⟩ 3 (wf3 (by omega) (by omega)) 1 H3.out).mono ?_) | (with_reducible refine (leftS HS 4 (wf3 (by omega) (by omega)) 0 H4.out).mono ?_)); rintro e w4 ⟨rfl, HB⟩; have HS2 : Aside0 (FS w w4 g [(3, 2, 5)]) := ⟨by first | exact HS.out.below HB.out | exact (HS.out.alloc _).below HB.out⟩; clear HS HB; have HS := HS2; clear HS2))
  go_ret
  exact ⟨by first | rfl | (simp; done), HS.out.bel⟩
end Go.Proofs.Ytopajgpepmocfaa.M
