/- The reference's contracts: NewPlain, Write, Read, Trim; by hand. -/
import Derived.Test.YtanfpjlcpcfjoaaR
import Derived.Deep.RegionLaw
namespace Go.Proofs.Ytanfpjlcpcfjoaa.M
open Go.RowKit Go.Proofs.YtanfpjlcpcfjoaaW.PrintWords Go.Proofs.YtanfpjlcpcfjoaaW.PrintLast Go.Proofs.YtanfpjlcpcfjoaaW.PrintMore Go.Proofs.Ytanfpjlcpcfjoaa.Rw
set_option linter.unusedVariables false
set_option linter.unusedSimpArgs false
/-- the reference has written: all but its rows' vector is as it was -/
def OutR (w w' : World) (q : Nat) : Prop := Below q w w' ∧ w.heap.size ≤ w'.heap.size ∧ ∀ k, k ≠ q → k < w.heap.size → w'.heap[k]? = w.heap[k]?
section
variable {w : World} {g q n : Nat} {ok : Nat → Prop} {L : Ln}
theorem IsRd.cells {A : Option Addr} {c : Nat} {vs : List Value} (h : IsRd w g q n ok L A c vs) : w.cell? ⟨g, 0, none⟩ = some (.int .i64 (n : Int)) ∧ w.cell? ⟨g, 1, none⟩ = some (.slice A L.length c) :=
  ⟨by rw [blk_cell h.hg 0]; rfl, by rw [blk_cell h.hg 1]; rfl⟩
set_option maxHeartbeats 1600000 in
theorem refTrimNo (hI : IsR w g q n ok L) (a : Int) (ha : ¬ (0 ≤ a ∧ a < (L.length : Int))) : Calls Try.prog 21 #[.pointer (some ⟨g, 0, none⟩), .int .i64 a] w fun e w' => e = .returned (.int .i64 2) ∧ w = w' := by
  obtain ⟨A, c, vs, h⟩ := hI
  obtain ⟨hc0, hc1⟩ := h.cells
  have hll := h.ll
  clear h
  by_cases h0 : a < 0
  · go_enter Try.func21, Try.ntmps21
    go_wp2
    go_ret
    exact ⟨rfl, rfl⟩
  · have h1 : (L.length : Int) ≤ a := by omega
    go_enter Try.func21, Try.ntmps21
    go_wp2
    go_ret
    exact ⟨rfl, rfl⟩
set_option maxHeartbeats 1600000 in
theorem refTrimC (hI : IsR w g q n ok L) (i : Nat) (il : i < L.length) : Calls Try.prog 21 #[.pointer (some ⟨g, 0, none⟩), .int .i64 (i : Int)] w fun e w' => e = .returned (.int .i64 0) ∧ Aside0 (IsR w' g q n ok (L.set i (List.replicate n 0))) ∧ Aside0 (OutR w w' q) := by
  obtain ⟨A, c, vs, h⟩ := hI
  obtain ⟨hc0, hc1⟩ := h.cells
  obtain ⟨hA, u, hcu, hcf, hu, hRow⟩ := h.elem il
  subst hA
  have hll := h.ll
  have HP := Aside0.mk (h.put (Below.refl _ _) il (u := .slice none 0 0) (List.length_replicate (n := n) (a := (0 : Int))) (.inl ⟨rfl, rfl⟩) rfl)
  have HO : Aside0 (OutR w (w.setCell ⟨q, i, none⟩ (.slice none 0 0)) q) := ⟨(Below.refl q w).setCell (p := ⟨q, i, none⟩) (Nat.le_refl q) _, by simp [World.setCell], fun k hk _ => Below.heap_setCell w ⟨q, i, none⟩ _ k hk⟩
  have il' : (i : Int) < (L.length : Int) := by omega
  clear h hu hRow
  go_enter Try.func21, Try.ntmps21
  go_wp2
  go_ret
  exact ⟨rfl, ⟨⟨_, _, _, HP.out⟩⟩, HO⟩
set_option maxHeartbeats 1600000 in
theorem refReadNo (hI : IsR w g q n ok L) (a : Int) (ha : ¬ (0 ≤ a ∧ a < (L.length : Int))) : Calls Try.prog 20 #[.pointer (some ⟨g, 0, none⟩), .int .i64 a] w fun e w' => e = .returned (.tuple #[.slice none 0 0, .int .i64 2]) ∧ w = w' := by
  obtain ⟨A, c, vs, h⟩ := hI
  obtain ⟨hc0, hc1⟩ := h.cells
  have hll := h.ll
  clear h
  by_cases h0 : a < 0
  · go_enter Try.func20, Try.ntmps20
    go_wp2
    go_ret2
    exact ⟨rfl, rfl⟩
  · have h1 : (L.length : Int) ≤ a := by omega
    go_enter Try.func20, Try.ntmps20
    go_wp2
    go_ret2
    exact ⟨rfl, rfl⟩
set_option maxHeartbeats 1600000 in
theorem refReadC (hI : IsR w g q n ok L) (i : Nat) (il : i < L.length) : Calls Try.prog 20 #[.pointer (some ⟨g, 0, none⟩), .int .i64 (i : Int)] w fun e w' => ∃ A c, e = .returned (.tuple #[.slice A n c, .int .i64 0]) ∧ Aside0 (Kd.C (Kd.int .u8) w' A n (L.getD i [])) ∧ Aside0 (Below w.heap.size w w') := by
  obtain ⟨A, c, vs, h⟩ := hI
  obtain ⟨hc0, hc1⟩ := h.cells
  obtain ⟨hA, u, hcu, hcf, hu, hRow⟩ := h.elem il
  subst hA
  have hll := h.ll
  have hnl := h.nl
  have hrl : (L.getD i []).length = n := h.rl _ (mem_getD _ il)
  have il' : (i : Int) < (L.length : Int) := by omega
  generalize L.getD i [] = r at *
  clear h hu
  by_cases hnil : u = .slice none 0 0
  · subst hnil
    have hr : r = List.replicate n 0 := by
      rcases hRow with ⟨_, h⟩ | h
      · exact h
      · have := (Kd.own_of_R h).2
        rcases this with ⟨_, h0⟩ | ⟨qq, cc, cur, hv, _⟩
        · rw [h0] at hrl; rw [List.eq_nil_of_length_eq_zero h0, ← hrl]; rfl
        · cases hv
    subst hr
    have hmk := fun (W : World) => mk_row (P := Try.prog) (t := 31) (e := 5) (z := .int .u8 0) Try.underlying31 info5 rfl n (by omega) (by omega) W
    have hnil := fun (w : World) => Lib.run_eql_slice_nil (P := Try.prog) w 31 5 none 0 0 0 0 Try.underlying31
    have HZ := Aside0.mk (made_one w n (by omega))
    have HB := Aside0.mk (below_alloc (Below.refl _ w) (.cells (Array.replicate n (.int .u8 0)) 5 (0, 0)))
    have HL := Aside0.mk (List.length_replicate (n := n) (a := (0 : Int)))
    clear hRow hrl
    go_enter Try.func20, Try.ntmps20
    go_wp2
    go_ret2
    exact ⟨_, _, rfl, ⟨by have h_ := C_of_R2 HZ.out HL.out; rw [HL.out] at h_; exact h_⟩, HB⟩
  · have hR : Kd.R (Kd.int .u8) 5 w 0 ok u r := by
      rcases hRow with ⟨h, _⟩ | h
      · exact absurd h hnil
      · exact h
    obtain ⟨Au, cu, eu⟩ := Kd.R_slice hR
    subst eu
    have HC := Aside0.mk (Kd.R_reads' hR).2.2
    rw [hrl] at hcu HC hnil
    cases Au with
    | none =>
      exfalso
      rcases (Kd.own_of_R hR).2 with ⟨hv, _⟩ | ⟨qq, cc, cur, hv, _⟩
      · rw [hrl] at hv; exact hnil hv
      · cases hv
    | some ad =>
      have hnil := fun (w : World) => Lib.run_eql_slice_nil (P := Try.prog) w 31 5 (some ad) n cu 0 0 Try.underlying31
      clear hRow hR hrl
      go_enter Try.func20, Try.ntmps20
      go_wp2
      go_ret2
      exact ⟨_, _, rfl, HC, ⟨Below.refl _ _⟩⟩
set_option maxHeartbeats 1600000 in
theorem refWriteNo (hI : IsR w g q n ok L) (a : Int) (A : Option Addr) (c m : Nat) (ha : ¬ (0 ≤ a ∧ a < (L.length : Int)) ∨ m ≠ n) (hm : m ≤ 9223372036854775807) :
    Calls Try.prog 19 #[.pointer (some ⟨g, 0, none⟩), .int .i64 a, .slice A m c] w fun e w' => e = .returned (.int .i64 (whyP L.length a ((m : Int) == (n : Int)))) ∧ w = w' := by
  obtain ⟨A0, c0, vs, h⟩ := hI
  obtain ⟨hc0, hc1⟩ := h.cells
  have hll := h.ll
  have hnl := h.nl
  clear h
  by_cases h0 : a < 0
  · have HW : Aside0 (whyP L.length a ((m : Int) == (n : Int)) = 2) := ⟨if_pos (.inl h0)⟩
    rw [HW.out]
    clear ha
    go_enter Try.func19, Try.ntmps19
    go_wp2
    go_ret
    exact ⟨rfl, rfl⟩
  · by_cases h1 : (L.length : Int) ≤ a
    · have HW : Aside0 (whyP L.length a ((m : Int) == (n : Int)) = 2) := ⟨if_pos (.inr h1)⟩
      rw [HW.out]
      clear ha
      go_enter Try.func19, Try.ntmps19
      go_wp2
      go_ret
      exact ⟨rfl, rfl⟩
    · have hmn : ((m : Int) == (n : Int)) = false := beq_eq_false_iff_ne.2 (by rcases ha with h | h <;> omega)
      have hmn2 : ((m : Int) != (n : Int)) = true := by simp only [bne, hmn]; rfl
      have hmn3 : (m == n) = false := beq_eq_false_iff_ne.2 (by rcases ha with h | h <;> omega)
      have hmn4 : ¬ m = n := by rcases ha with h | h <;> omega
      have h1' : ¬ (L.length : Int) ≤ a := h1
      have HW : Aside0 (whyP L.length a ((m : Int) == (n : Int)) = 3) := ⟨by rw [hmn]; unfold whyP; rw [if_neg (by omega)]; rfl⟩
      rw [HW.out]
      clear ha h1
      go_enter Try.func19, Try.ntmps19
      go_wp2
      go_ret
      exact ⟨rfl, rfl⟩
/-- append([]byte(nil), data...), as a step of a region that draws -/
theorem copy_step {ops : Array Oper} {o : Oper} {a : Act} {W : World} {K : Act → World → Prop} {Q : Exit → Act → World → Prop} {A : Option Addr} {c m : Nat} {ys : List Int}
    (hgd : o.guard = none) (s x : Operand) (ho : o.op = .call { callee := .builtin .append, args := #[s, x], argTypes := #[31, 31] }) (hs : a.eval s = .slice none 0 0) (hx : a.eval x = .slice A m c)
    (hC : Kd.C (Kd.int .u8) W A m ys) (hl : m ≤ 16777216)
    (hK : ∀ A1 c1 w1, Aside0 (Kd.R (Kd.int .u8) 5 w1 W.heap.size (fun _ => True) (.slice A1 m c1) ys) → Aside0 (Below W.heap.size W w1) → K (a.put o.dst (.slice A1 m c1)) w1) :
    if Region.wanted o (yielded ops a.tmps) = true then Oper.wp Try.prog o a W K Q else K (a.put o.dst undef) W := by
  have hw : Region.wanted o (yielded ops a.tmps) = true := by simp [Region.wanted, hgd]
  refine Kd.R_append_rows_step (Kd.int .u8) (Rr := (Kd.int .u8).K W) (w0 := W) W.heap.size hw s x 31 5 (.int .u8 0) 1 ho Try.underlying31 info5 rfl (by decide) (by omega) (.slice none 0 0) [] ys A m c (fun _ => True) (fun _ => False) hs hx (Kd.R_nil _ _ _ _ _) hC (fun _ _ h => h) (fun _ hk => hk.elim) (fun _ _ => trivial) (Below.refl _ _) (Nat.le_refl _) (by simp; omega) ?_
  intro v1 w1 hR hB _ _
  rw [List.nil_append] at hR
  obtain ⟨A1, c1, e⟩ := Kd.R_slice hR
  subst e
  have hm : ys.length = m := hC.1
  rw [hm] at hR ⊢
  exact hK A1 c1 w1 ⟨hR⟩ ⟨hB⟩
set_option maxHeartbeats 3200000 in
set_option maxRecDepth 100000 in
theorem refWriteC (hI : IsR w g q n ok L) (hfr : ∀ k, w.heap.size ≤ k → ok k) (i : Nat) (il : i < L.length) (A : Option Addr) (c : Nat) (xs : List Int) (hC : Kd.C (Kd.int .u8) w A n xs) :
    Calls Try.prog 19 #[.pointer (some ⟨g, 0, none⟩), .int .i64 (i : Int), .slice A n c] w fun e w' => e = .returned (.int .i64 0) ∧ Aside0 (IsR w' g q n ok (L.set i xs)) ∧ Aside0 (OutR w w' q) := by
  obtain ⟨A0, c0, vs, h⟩ := hI
  obtain ⟨hc0, hc1⟩ := h.cells
  obtain ⟨hA, u, hcu, hcf, hu, hRow⟩ := h.elem il
  subst hA
  have hll := h.ll
  have hnl : n ≤ 16777216 := by have := h.nl; omega
  have hqs : q < w.heap.size := World.block_lt_of_cell? w _ hcu
  have hgs : g < w.heap.size := World.block_lt_of_cell? w _ hc1
  have il' : (i : Int) < (L.length : Int) := by omega
  have HCd := Aside0.mk (Kd.C_below hC (below_drew (Below.refl _ w)))
  have HPut : Aside0 (∀ A1 c1 w1, Kd.R (Kd.int .u8) 5 w1 w.heap.size (fun _ => True) (.slice A1 n c1) xs → Below w.heap.size w w1 → IsR (w1.setCell ⟨q, i, none⟩ (.slice A1 n c1)) g q n ok (L.set i xs) ∧ OutR w (w1.setCell ⟨q, i, none⟩ (.slice A1 n c1)) q ∧ w1.cell? ⟨g, 1, none⟩ = some (.slice (some ⟨q, 0, none⟩) L.length c0) ∧ w1.cell? ⟨q, i, none⟩ = some u ∧ w1.frozen? ⟨q, i, none⟩ = false) := ⟨fun A1 c1 w1 hR hB => by
    have hp := h.put hB il (u := .slice A1 n c1) (r := xs) hC.1 (.inr (Kd.R_of_own (own_less (Kd.own_of_R hR) (Nat.zero_le _)) (fun k hk => hfr k (Kd.R_base hR k hk)))) rfl
    refine ⟨⟨_, _, _, hp⟩, ⟨(hB.mono (Nat.le_of_lt hqs)).setCell (p := ⟨q, i, none⟩) (Nat.le_refl q) _, ?_, fun k hk hl => ?_⟩, (hB.cell hgs).trans hc1, (hB.cell hqs).trans hcu, ?_⟩
    · have := hB.size; simpa [World.setCell] using this
    · rw [Below.heap_setCell w1 ⟨q, i, none⟩ _ k hk]; exact hB.block k hl
    · rw [World.frozen?_of_block (hB.block q hqs)]; exact hcf⟩
  clear h hu hRow hfr hC
  go_enter Try.func19, Try.ntmps19
  go_upto_region 5 with (fail)
  go_region_law (first | (apply copy_step (s := .const (.slice none 0 0)) (x := .tmp 30) (ys := xs); (case hC => exact HCd.out); (case hgd => rfl); (case ho => rfl); (case hs => rfl); (case hx => rfl); (case hl => exact hnl); (intro A1 c1 w1 hR hB; have hp := HPut.out A1 c1 w1 hR.out (below_step (below_drew (Below.refl _ w)) hB.out); have hp3 := hp.2.2.1; have hp4 := hp.2.2.2.1; have hp5 := hp.2.2.2.2; have HP1 := Aside0.mk hp.1; have HP2 := Aside0.mk hp.2.1; clear hp hR hB)))
  all_goals (
    clear HPut HCd
    go_wp2
    go_ret
    exact ⟨rfl, HP1, HP2⟩)
theorem info31b : (Try.prog.info? 31).map (fun i => (i.zero, i.size, i.bytes)) = some (some (.slice none 0 0), 1, 24) := by kernel_rfl
theorem new_R (W : World) (N n : Nat) (ok : Nat → Prop) (lN : N ≤ 200) (ln : n ≤ 200) (h0 : ¬ ok W.heap.size) (h1 : ¬ ok (W.heap.size + 1)) :
    IsR ((W.alloc (.cells #[.int .i64 (n : Int), .slice (some ⟨W.heap.size + 1, 0, none⟩) N N] 45 (0, 0))).alloc (.cells (Array.replicate N (.slice none 0 0)) 31 (0, 0))) W.heap.size (W.heap.size + 1) n ok (List.replicate N (List.replicate n 0)) := by
  have hg := blk_alloc (blk_new W (.cells #[.int .i64 (n : Int), .slice (some ⟨W.heap.size + 1, 0, none⟩) N N] 45 (0, 0))) (.cells (Array.replicate N (.slice none 0 0)) 31 (0, 0))
  have hq2 := blk_new (W.alloc (.cells #[.int .i64 (n : Int), .slice (some ⟨W.heap.size + 1, 0, none⟩) N N] 45 (0, 0))) (.cells (Array.replicate N (.slice none 0 0)) 31 (0, 0))
  rw [World.size_alloc] at hq2
  refine ⟨some ⟨W.heap.size + 1, 0, none⟩, N, List.replicate N (.slice none 0 0), ?_, fun _ => ⟨rfl, _, hq2, by simp, fun i hi => ?_⟩, by omega, by simp, h0, h1, by simp, by simpa using lN, ln, fun r hr => ?_, fun i r hr => ?_⟩
  · rw [List.length_replicate]; exact hg
  · have : i < N := by simpa using hi
    simp [this]
  · have := List.eq_of_mem_replicate hr
    rw [this]; simp
  · have h2 := List.getElem?_eq_some_iff.1 hr
    obtain ⟨hl, h3⟩ := h2
    have hl' : i < N := by simpa using hl
    refine ⟨.slice none 0 0, by simp [hl'], .inl ⟨rfl, ?_⟩⟩
    rw [← h3]; simp
section
attribute [local go_sem] max2_int min2_int max_two min_two
attribute [local go_sem ↓] Go.wp_at_zero Go.wp_at_succ
set_option maxHeartbeats 3200000 in
set_option maxRecDepth 100000 in
theorem refNewC (a b : Int) (N n : Nat) (hA : (if a < 0 then 0 else a) = (N : Int)) (hB : (if b < 0 then 0 else b) = (n : Int)) (lN : N ≤ 200) (ln : n ≤ 200) (w : World) (ok : Nat → Prop) (h0 : ¬ ok w.heap.size) (h1 : ¬ ok (w.heap.size + 1)) :
    Calls Try.prog 12 #[.int .i64 a, .int .i64 b] w fun e w' => e = .returned (.pointer (some ⟨w.heap.size, 0, none⟩)) ∧ Aside0 (IsR w' w.heap.size (w.heap.size + 1) n ok (List.replicate N (List.replicate n 0))) ∧ Aside0 (Below w.heap.size w w') ∧ w'.heap.size = w.heap.size + 2 := by
  have hmk := fun (W : World) => mk_row (P := Try.prog) (t := 43) (e := 31) (z := .slice none 0 0) (by kernel_rfl) info31b rfl N (by omega) (by omega) W
  have hd1 : decide ((16777216 : Int) < (n : Int)) = false := decide_eq_false (by omega)
  have hd2 : decide ((16777216 : Int) < (N : Int)) = false := decide_eq_false (by omega)
  obtain ⟨x, hx⟩ : ∃ x : Int, (N : Int) * (n : Int) = x := ⟨_, rfl⟩
  have hx2 : x ≤ 40000 := by
    rw [← hx, ← Int.natCast_mul]
    have := Nat.mul_le_mul lN ln
    omega
  have hx0 : 0 ≤ x := by rw [← hx]; exact Int.mul_nonneg (by omega) (by omega)
  have hd3 : decide ((16777216 : Int) < x) = false := decide_eq_false (by omega)
  have hw : IntKind.i64.wrap x = x := by rw [IntKind.wrap_i64]; omega
  have HE := Aside0.mk (new_R w N n ok lN ln h0 h1)
  have HB := Aside0.mk (below_alloc (below_alloc (Below.refl _ w) (.cells #[.int .i64 (n : Int), .slice (some ⟨w.heap.size + 1, 0, none⟩) N N] 45 (0, 0))) (.cells (Array.replicate N (.slice none 0 0)) 31 (0, 0)))
  have HZ : Aside0 (((w.alloc (.cells #[.int .i64 (n : Int), .slice (some ⟨w.heap.size + 1, 0, none⟩) N N] 45 (0, 0))).alloc (.cells (Array.replicate N (.slice none 0 0)) 31 (0, 0))).heap.size = w.heap.size + 2) := ⟨by rw [World.size_alloc, World.size_alloc]⟩
  clear h0 h1
  go_enter Try.func12, Try.ntmps12
  go_wp2
  go_ret
  exact ⟨rfl, HE, HB, HZ.out⟩
end
end
end Go.Proofs.Ytanfpjlcpcfjoaa.M
