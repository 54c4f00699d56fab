/- The contracts of the methods of the state (two rows of numbers), by hand: what each reads, what each writes. -/
import Derived.Test.YtfgfjgjabcmheaaP
import Derived.Test.YtfgfjgjabcmheaaQx2
namespace Go.Proofs.Ytfgfjgjabcmheaa.M
open Go.RowKit Go.Proofs.YtfgfjgjabcmheaaW.PrintWords Go.Proofs.YtfgfjgjabcmheaaW.PrintLast Go.Proofs.YtfgfjgjabcmheaaW.PrintMore
attribute [local go_sem] max2_int min2_int max_two min_two max_three min_three max_four min_four   -- for this text's walks alone
set_option linter.unusedVariables false
set_option linter.unusedSimpArgs false

abbrev Y := List Int × List Int
/-- A state of type 46 at block g of W, with two rows of its own (new since w0), apart from each other and from g. By hand. -/
def IsS46 (w0 W : World) (g : Nat) (y : Y) : Prop := (y.1.length ≤ 64 ∧ y.2.length = y.1.length) ∧ ∃ A0 c0, ∃ A1 c1, W.heap[g]? = some (.cells #[.slice A0 y.1.length c0, .slice A1 y.2.length c1] 46 (0, 0)) ∧ w0.heap.size ≤ g ∧
  Kd.R (Kd.int .i64) 3 W w0.heap.size (fun k => k < g ∧ some k ≠ (Value.slice A1 y.2.length c1).ownBlock) (.slice A0 y.1.length c0) y.1 ∧
  Kd.R (Kd.int .i64) 3 W w0.heap.size (fun k => k < g ∧ some k ≠ (Value.slice A0 y.1.length c0).ownBlock) (.slice A1 y.2.length c1) y.2
theorem IsS46.below {w0 W : World} {g : Nat} {y : Y} {W1 : World} (h : IsS46 w0 W g y) (hw : Below W.heap.size W W1) : IsS46 w0 W1 g y := by
  obtain ⟨hl, A0, c0, A1, c1, hb, hg, h0, h1⟩ := h
  exact ⟨hl, A0, c0, A1, c1, blk_below hb hw, hg, Kd.R_below h0 hw, Kd.R_below h1 hw⟩
theorem IsS46.alloc {w0 W : World} {g : Nat} {y : Y} (h : IsS46 w0 W g y) (o : Obj) : IsS46 w0 (W.alloc o) g y := h.below (below_alloc (Below.refl _ _) o)
theorem IsS46.drewN {w0 W : World} {g : Nat} {y : Y} (h : IsS46 w0 W g y) (m : Nat) : IsS46 w0 (W.drewN m) g y := h.below (pw_below_drewN (Below.refl _ _) m)
theorem IsS46.drew {w0 W : World} {g : Nat} {y : Y} (h : IsS46 w0 W g y) : IsS46 w0 W.drew g y := h.below (below_drew1 (Below.refl _ _))
theorem IsS46.at_ {w0 W : World} {g : Nat} {y : Y} {w' : World} {m : Nat} (hq : W.drewN m = w') (h : IsS46 w0 W g y) : IsS46 w0 w' g y := by subst hq; exact IsS46.drewN h m
theorem IsS46.lt {w0 W : World} {g : Nat} {y : Y} (h : IsS46 w0 W g y) : g < W.heap.size := by
  obtain ⟨_, A0, c0, A1, c1, hb, _⟩ := h
  exact blk_lt hb
theorem IsS46.ge {w0 W : World} {g : Nat} {y : Y} (h : IsS46 w0 W g y) : w0.heap.size ≤ g := by
  obtain ⟨_, A0, c0, A1, c1, _, hg, _⟩ := h
  exact hg
theorem IsS46.fresh {w0 W : World} {g : Nat} {y : Y} (h : IsS46 w0 W g y) : ∀ k, W.heap.size ≤ k → k ≠ g := fun k hk e => by
  have := h.lt
  omega
/-- the first row has been written at place i -/
theorem IsS46.put0 {w0 W : World} {g q : Nat} {f0 f1 : List Int} {A1 : Option Addr} {c0 c1 : Nat} (i : Int) (x : Int)
    (hb : W.heap[g]? = some (.cells #[.slice (some ⟨q, 0, none⟩) f0.length c0, .slice A1 f1.length c1] 46 (0, 0))) (hg : w0.heap.size ≤ g) (hl : f0.length ≤ 64 ∧ f1.length = f0.length)
    (h0 : Kd.R (Kd.int .i64) 3 W w0.heap.size (fun k => k < g ∧ some k ≠ (Value.slice A1 f1.length c1).ownBlock) (.slice (some ⟨q, 0, none⟩) f0.length c0) f0)
    (h1 : Kd.R (Kd.int .i64) 3 W w0.heap.size (fun k => k < g ∧ some k ≠ (Value.slice (some ⟨q, 0, none⟩) f0.length c0).ownBlock) (.slice A1 f1.length c1) f1) :
    IsS46 w0 (W.setCell ⟨q, i.toNat, none⟩ (.int .i64 x)) g (f0.set i.toNat x, f1) := by
  have hq : q ≠ g := Nat.ne_of_lt (h0.1 q rfl).1
  refine ⟨by simpa using hl, some ⟨q, 0, none⟩, c0, A1, c1, ?_, hg, ?_, ?_⟩
  · rw [List.length_set]; exact blk_far hb (p := ⟨q, i.toNat, none⟩) (fun e => hq e.symm) _
  · rw [List.length_set]; exact (Kd.R_putg h0 i x).1
  · rw [List.length_set]; exact Kd.R_far h1 (p := ⟨q, i.toNat, none⟩) (fun k hk e => hk.2 (by rw [e]; rfl)) _
theorem IsS46.put1 {w0 W : World} {g q : Nat} {f0 f1 : List Int} {A0 : Option Addr} {c0 c1 : Nat} (i : Int) (x : Int)
    (hb : W.heap[g]? = some (.cells #[.slice A0 f0.length c0, .slice (some ⟨q, 0, none⟩) f1.length c1] 46 (0, 0))) (hg : w0.heap.size ≤ g) (hl : f0.length ≤ 64 ∧ f1.length = f0.length)
    (h0 : Kd.R (Kd.int .i64) 3 W w0.heap.size (fun k => k < g ∧ some k ≠ (Value.slice (some ⟨q, 0, none⟩) f1.length c1).ownBlock) (.slice A0 f0.length c0) f0)
    (h1 : Kd.R (Kd.int .i64) 3 W w0.heap.size (fun k => k < g ∧ some k ≠ (Value.slice A0 f0.length c0).ownBlock) (.slice (some ⟨q, 0, none⟩) f1.length c1) f1) :
    IsS46 w0 (W.setCell ⟨q, i.toNat, none⟩ (.int .i64 x)) g (f0, f1.set i.toNat x) := by
  have hq : q ≠ g := Nat.ne_of_lt (h1.1 q rfl).1
  refine ⟨by simpa using hl, A0, c0, some ⟨q, 0, none⟩, c1, ?_, hg, ?_, ?_⟩
  · rw [List.length_set]; exact blk_far hb (p := ⟨q, i.toNat, none⟩) (fun e => hq e.symm) _
  · rw [List.length_set]; exact Kd.R_far h0 (p := ⟨q, i.toNat, none⟩) (fun k hk e => hk.2 (by rw [e]; rfl)) _
  · rw [List.length_set]; exact (Kd.R_putg h1 i x).1
/-- what is read of a state -/
theorem IsS46.reads {w0 W : World} {g : Nat} {y : Y} (h : IsS46 w0 W g y) : ∃ A0 c0 A1 c1, W.cell? ⟨g, 0, none⟩ = some (.slice A0 y.1.length c0) ∧ W.cell? ⟨g, 1, none⟩ = some (.slice A1 y.2.length c1) ∧
    Kd.C (Kd.int .i64) W A0 y.1.length y.1 ∧ y.1.length ≤ c0 ∧ Kd.C (Kd.int .i64) W A1 y.2.length y.2 ∧ y.2.length ≤ c1 := by
  obtain ⟨_, A0, c0, A1, c1, hb, hg, h0, h1⟩ := h
  exact ⟨A0, c0, A1, c1, (blk_cell hb 0).trans rfl, (blk_cell hb 1).trans rfl, (Kd.R_reads' h0).2.2, (Kd.R_reads' h0).2.1, (Kd.R_reads' h1).2.2, (Kd.R_reads' h1).2.1⟩

theorem info3S : (Try.prog.info? 3).map (fun i => (i.zero, i.size, i.bytes)) = some (some (.int .i64 0), 1, 8) := by kernel_rfl
theorem info4S : (Try.prog.info? 4).map (fun i => (i.zero, i.size, i.bytes)) = some (some (.bool false), 1, 1) := by kernel_rfl
/-! ### there -/
def thereB (l : List Int) (b : Int) : Bool := decide (0 ≤ b) && decide (b < (l.length : Int))
set_option maxHeartbeats 8000000 in
set_option maxRecDepth 100000 in
theorem there_rows (g : Nat) (A0 : Option Addr) (c0 : Nat) (l : List Int) (a1 : Int) (w : World) (b : Bool) (hb : thereB l a1 = b) (hx0 : w.cell? ⟨g, 0, none⟩ = some (.slice A0 l.length c0)) :
    Calls Try.prog 19 #[.pointer (some ⟨g, 0, none⟩), .int .i64 a1] w fun e w' => e = .returned (.bool b) ∧ Drawn0 w w' := by
  subst hb
  unfold thereB
  by_cases c3 : 0 ≤ a1
  · have c3b0 : decide (0 ≤ a1) = true := decide_eq_true c3
    rw [c3b0, Bool.true_and]
    go_enter Try.func19, Try.ntmps19
    go_wp2
    go_ret
    exact ⟨by first | rfl | (simp; done) | (simp [*]; done), by repeat (first | exact Drawn0.refl _ | apply Drawn0.step)⟩
  · have c3b0 : decide (0 ≤ a1) = false := decide_eq_false c3
    rw [c3b0, Bool.false_and]
    go_enter Try.func19, Try.ntmps19
    go_wp2
    go_ret
    exact ⟨by first | rfl | (simp; done) | (simp [*]; done), by repeat (first | exact Drawn0.refl _ | apply Drawn0.step)⟩
/-! ### state -/
set_option maxHeartbeats 8000000 in
set_option maxRecDepth 100000 in
theorem state_rows (g : Nat) (A0 : Option Addr) (c0 : Nat) (l : List Int) (a1 : Int) (w : World) (hx0 : w.cell? ⟨g, 0, none⟩ = some (.slice A0 l.length c0)) (hR : Kd.C (Kd.int .i64) w A0 l.length l) :
    Calls Try.prog 13 #[.pointer (some ⟨g, 0, none⟩), .int .i64 a1] w fun e w' => e = .returned (.int .i64 (if thereB l a1 then rd l a1 else 0)) ∧ Drawn0 w w' := by
  by_cases ht : thereB l a1 = true
  · rw [if_pos ht]
    have p1 : 0 ≤ a1 ∧ a1 < (l.length : Int) := by simpa [thereB] using ht
    have q1 : a1 < (l.length : Int) := by exact p1.2
    obtain ⟨ad1, e1, hv⟩ := Kd.at_int hR a1 p1.1 q1
    cases e1
    have p0 := eq_true p1.1
    have q0 := eq_true q1
    have c3b0 : decide (0 ≤ a1) = true := decide_eq_true p1.1
    have c4b0 : decide (a1 < (l.length : Int)) = true := decide_eq_true q1
    go_enter Try.func13, Try.ntmps13
    go_wp2_with (first | ((with_reducible refine gate_callee (f := 19) rfl ?_); refine goesL_ (some 7) rfl rfl Try.func19 (by kernel_rfl) rfl #[.pointer (some ⟨g, 0, none⟩), .int .i64 a1] rfl (by (try simp only [List.map_toArray, List.map_cons, List.map_nil]); first | done | rfl) ?_; (with_reducible refine (there_rows g (some ad1) c0 l a1 _ true ht ?sx).mono ?_); (case sx => first | exact hx0 | (go_simp; exact hx0)); rintro e w' ⟨rfl, ⟨nd, rfl⟩⟩; refine ⟨_, rfl, ?_⟩))
    go_ret
    exact ⟨by first | rfl | (simp; done) | (simp [*]; done), by repeat (first | exact Drawn0.refl _ | apply Drawn0.step)⟩
  · rw [if_neg ht]
    have hf : thereB l a1 = false := Bool.eq_false_iff.mpr ht
    go_enter Try.func13, Try.ntmps13
    go_wp2_with (first | ((with_reducible refine gate_callee (f := 19) rfl ?_); refine goesL_ (some 7) rfl rfl Try.func19 (by kernel_rfl) rfl #[.pointer (some ⟨g, 0, none⟩), .int .i64 a1] rfl (by (try simp only [List.map_toArray, List.map_cons, List.map_nil]); first | done | rfl) ?_; (with_reducible refine (there_rows g A0 c0 l a1 _ false hf ?sx).mono ?_); (case sx => first | exact hx0 | (go_simp; exact hx0)); rintro e w' ⟨rfl, ⟨nd, rfl⟩⟩; refine ⟨_, rfl, ?_⟩))
    go_ret
    exact ⟨by first | rfl | (simp; done) | (simp [*]; done), by repeat (first | exact Drawn0.refl _ | apply Drawn0.step)⟩
/-! ### erases -/
set_option maxHeartbeats 8000000 in
set_option maxRecDepth 100000 in
theorem erases_rows (g : Nat) (A0 : Option Addr) (c0 : Nat) (l : List Int) (A1 : Option Addr) (c1 : Nat) (m : List Int) (a1 : Int) (w : World) (hx0 : w.cell? ⟨g, 0, none⟩ = some (.slice A0 l.length c0)) (hx1 : w.cell? ⟨g, 1, none⟩ = some (.slice A1 m.length c1)) (hlen : m.length = l.length) (hR : Kd.C (Kd.int .i64) w A1 m.length m) :
    Calls Try.prog 16 #[.pointer (some ⟨g, 0, none⟩), .int .i64 a1] w fun e w' => e = .returned (.int .i64 (if thereB l a1 then rd m a1 else 0)) ∧ Drawn0 w w' := by
  by_cases ht : thereB l a1 = true
  · rw [if_pos ht]
    have p1 : 0 ≤ a1 ∧ a1 < (l.length : Int) := by simpa [thereB] using ht
    have q1 : a1 < (m.length : Int) := by rw [hlen]; exact p1.2
    obtain ⟨ad1, e1, hv⟩ := Kd.at_int hR a1 p1.1 q1
    cases e1
    have p0 := eq_true p1.1
    have q0 := eq_true q1
    have c3b0 : decide (0 ≤ a1) = true := decide_eq_true p1.1
    have c4b0 : decide (a1 < (m.length : Int)) = true := decide_eq_true q1
    go_enter Try.func16, Try.ntmps16
    go_wp2_with (first | ((with_reducible refine gate_callee (f := 19) rfl ?_); refine goesL_ (some 7) rfl rfl Try.func19 (by kernel_rfl) rfl #[.pointer (some ⟨g, 0, none⟩), .int .i64 a1] rfl (by (try simp only [List.map_toArray, List.map_cons, List.map_nil]); first | done | rfl) ?_; (with_reducible refine (there_rows g A0 c0 l a1 _ true ht ?sx).mono ?_); (case sx => first | exact hx0 | (go_simp; exact hx0)); rintro e w' ⟨rfl, ⟨nd, rfl⟩⟩; refine ⟨_, rfl, ?_⟩))
    go_ret
    exact ⟨by first | rfl | (simp; done) | (simp [*]; done), by repeat (first | exact Drawn0.refl _ | apply Drawn0.step)⟩
  · rw [if_neg ht]
    have hf : thereB l a1 = false := Bool.eq_false_iff.mpr ht
    go_enter Try.func16, Try.ntmps16
    go_wp2_with (first | ((with_reducible refine gate_callee (f := 19) rfl ?_); refine goesL_ (some 7) rfl rfl Try.func19 (by kernel_rfl) rfl #[.pointer (some ⟨g, 0, none⟩), .int .i64 a1] rfl (by (try simp only [List.map_toArray, List.map_cons, List.map_nil]); first | done | rfl) ?_; (with_reducible refine (there_rows g A0 c0 l a1 _ false hf ?sx).mono ?_); (case sx => first | exact hx0 | (go_simp; exact hx0)); rintro e w' ⟨rfl, ⟨nd, rfl⟩⟩; refine ⟨_, rfl, ?_⟩))
    go_ret
    exact ⟨by first | rfl | (simp; done) | (simp [*]; done), by repeat (first | exact Drawn0.refl _ | apply Drawn0.step)⟩
/-! ### Turn -/
def mayB (a b : Int) : Bool := if b = 2 then a == 1 else if b = 3 then a == 2 else if b = 1 then a == 3 else if b = 4 then a != 4 else false
theorem mayB_f (a b : Int) : Q.yard_may.f a b = some (mayB a b) := by unfold Q.yard_may.f mayB; (repeat' split) <;> rfl
set_option maxHeartbeats 8000000 in
set_option maxRecDepth 100000 in
theorem turn_no (g : Nat) (A0 : Option Addr) (c0 : Nat) (l : List Int) (a1 a2 : Int) (w : World) (hx0 : w.cell? ⟨g, 0, none⟩ = some (.slice A0 l.length c0)) (hR : Kd.C (Kd.int .i64) w A0 l.length l) (hn : (thereB l a1 && mayB (rd l a1) a2) = false) :
    Calls Try.prog 10 #[.pointer (some ⟨g, 0, none⟩), .int .i64 a1, .int .i64 a2] w fun e w' => e = .returned (.bool false) ∧ Drawn0 w w' := by
  by_cases ht : thereB l a1 = true
  · have p1 : 0 ≤ a1 ∧ a1 < (l.length : Int) := by simpa [thereB] using ht
    obtain ⟨ad1, e1, hv⟩ := Kd.at_int hR a1 p1.1 p1.2
    cases e1
    have hm : mayB (rd l a1) a2 = false := by simpa [ht] using hn
    have p0 := eq_true p1.1
    have q0 := eq_true p1.2
    go_enter Try.func10, Try.ntmps10
    go_wp2_with (first | ((with_reducible refine gate_callee (f := 19) rfl ?_); refine goesL_ (some 9) rfl rfl Try.func19 (by kernel_rfl) rfl #[.pointer (some ⟨g, 0, none⟩), .int .i64 a1] rfl (by (try simp only [List.map_toArray, List.map_cons, List.map_nil]); first | done | rfl) ?_; (with_reducible refine (there_rows g (some ad1) c0 l a1 _ true ht ?sx).mono ?_); (case sx => first | exact hx0 | (go_simp; exact hx0)); rintro e w' ⟨rfl, ⟨nd, rfl⟩⟩; refine ⟨_, rfl, ?_⟩) | (go_at_call 20; (with_reducible refine (Q.yard_may.calls (rd l a1) a2 _ _ (mayB_f _ _)).mono ?_); rintro e w' ⟨rfl, ⟨nd2, rfl⟩⟩))
    go_ret
    exact ⟨by first | rfl | (simp; done) | (simp [*]; done), by repeat (first | exact Drawn0.refl _ | apply Drawn0.step)⟩
  · have hf : thereB l a1 = false := Bool.eq_false_iff.mpr ht
    go_enter Try.func10, Try.ntmps10
    go_wp2_with (first | ((with_reducible refine gate_callee (f := 19) rfl ?_); refine goesL_ (some 9) rfl rfl Try.func19 (by kernel_rfl) rfl #[.pointer (some ⟨g, 0, none⟩), .int .i64 a1] rfl (by (try simp only [List.map_toArray, List.map_cons, List.map_nil]); first | done | rfl) ?_; (with_reducible refine (there_rows g A0 c0 l a1 _ false hf ?sx).mono ?_); (case sx => first | exact hx0 | (go_simp; exact hx0)); rintro e w' ⟨rfl, ⟨nd, rfl⟩⟩; refine ⟨_, rfl, ?_⟩))
    go_ret
    exact ⟨by first | rfl | (simp; done) | (simp [*]; done), by repeat (first | exact Drawn0.refl _ | apply Drawn0.step)⟩
set_option maxHeartbeats 8000000 in
set_option maxRecDepth 100000 in
theorem turn_yes (g q : Nat) (c0 : Nat) (l : List Int) (a1 a2 : Int) (w : World) (base : Nat) (ok : Nat → Prop) (hx0 : w.cell? ⟨g, 0, none⟩ = some (.slice (some ⟨q, 0, none⟩) l.length c0)) (hR : Kd.R (Kd.int .i64) 3 w base ok (.slice (some ⟨q, 0, none⟩) l.length c0) l) (ht : thereB l a1 = true) (hm : mayB (rd l a1) a2 = true) :
    Calls Try.prog 10 #[.pointer (some ⟨g, 0, none⟩), .int .i64 a1, .int .i64 a2] w fun e w' => e = .returned (.bool true) ∧ ∃ m1, w' = (w.drewN m1).setCell ⟨q, a1.toNat, none⟩ (.int .i64 a2) := by
  have p1 : 0 ≤ a1 ∧ a1 < (l.length : Int) := by simpa [thereB] using ht
  obtain ⟨hv0, hfz⟩ := Kd.R_celln 0 hR a1 p1.1 p1.2
  have hv : w.cell? ⟨q, a1.toNat, none⟩ = some (.int .i64 (rd l a1)) := hv0
  clear hv0
  have p0 := eq_true p1.1
  have q0 := eq_true p1.2
  go_enter Try.func10, Try.ntmps10
  go_wp2_with (first | ((with_reducible refine gate_callee (f := 19) rfl ?_); refine goesL_ (some 9) rfl rfl Try.func19 (by kernel_rfl) rfl #[.pointer (some ⟨g, 0, none⟩), .int .i64 a1] rfl (by (try simp only [List.map_toArray, List.map_cons, List.map_nil]); first | done | rfl) ?_; (with_reducible refine (there_rows g (some ⟨q, 0, none⟩) c0 l a1 _ true ht ?sx).mono ?_); (case sx => first | exact hx0 | (go_simp; exact hx0)); rintro e w' ⟨rfl, ⟨nd, rfl⟩⟩; refine ⟨_, rfl, ?_⟩) | (go_at_call 20; (with_reducible refine (Q.yard_may.calls (rd l a1) a2 _ _ (mayB_f _ _)).mono ?_); rintro e w' ⟨rfl, ⟨nd2, rfl⟩⟩) | ((with_reducible refine gate_store (t := 3) (p := 29) rfl ?_); refine store_event (t := 3) (p := 29) (v := ?vo_w13) (w1 := (wr.setCell ⟨q, (a1 : Int).toNat, none⟩ (.int .i64 a2))) ?hg ?ho ?hn ?hr ?_; (case ho => rfl); (case hg => rfl); (case hn => rfl); (case hr => first | (go_simp; done) | (go_simp; rfl)); intro w13 hw; have hw' : w13 = _ := hw))
  go_ret
  exact ⟨by first | rfl | (simp; done) | (simp [*]; done), _, rfl⟩
/-! ### Erased -/
set_option maxHeartbeats 8000000 in
set_option maxRecDepth 100000 in
theorem erased_no (g : Nat) (A0 : Option Addr) (c0 : Nat) (l : List Int) (a1 : Int) (w : World) (hx0 : w.cell? ⟨g, 0, none⟩ = some (.slice A0 l.length c0)) (hf : thereB l a1 = false) :
    Calls Try.prog 14 #[.pointer (some ⟨g, 0, none⟩), .int .i64 a1] w fun e w' => e = .returned (.tuple #[]) ∧ Drawn0 w w' := by
  go_enter Try.func14, Try.ntmps14
  go_wp2_with (first | ((with_reducible refine gate_callee (f := 19) rfl ?_); refine goesL_ (some 6) rfl rfl Try.func19 (by kernel_rfl) rfl #[.pointer (some ⟨g, 0, none⟩), .int .i64 a1] rfl (by (try simp only [List.map_toArray, List.map_cons, List.map_nil]); first | done | rfl) ?_; (with_reducible refine (there_rows g A0 c0 l a1 _ false hf ?sx).mono ?_); (case sx => first | exact hx0 | (go_simp; exact hx0)); rintro e w' ⟨rfl, ⟨nd, rfl⟩⟩; refine ⟨_, rfl, ?_⟩))
  first | go_end0 | ((try simp only [Exit.inBlock, Exit.then]); refine bodyPost_ret (results_none rfl _ _ _) rfl ?_)
  exact ⟨by first | rfl | (simp; done) | (simp [*]; done), by repeat (first | exact Drawn0.refl _ | apply Drawn0.step)⟩
set_option maxHeartbeats 8000000 in
set_option maxRecDepth 100000 in
theorem erased_yes (g q : Nat) (A0 : Option Addr) (c0 c1 : Nat) (l m : List Int) (a1 : Int) (w : World) (base : Nat) (ok : Nat → Prop) (hx0 : w.cell? ⟨g, 0, none⟩ = some (.slice A0 l.length c0)) (hx1 : w.cell? ⟨g, 1, none⟩ = some (.slice (some ⟨q, 0, none⟩) m.length c1)) (hlen : m.length = l.length) (hR : Kd.R (Kd.int .i64) 3 w base ok (.slice (some ⟨q, 0, none⟩) m.length c1) m) (ht : thereB l a1 = true) :
    Calls Try.prog 14 #[.pointer (some ⟨g, 0, none⟩), .int .i64 a1] w fun e w' => e = .returned (.tuple #[]) ∧ ∃ m1, w' = (w.drewN m1).setCell ⟨q, a1.toNat, none⟩ (.int .i64 (wrap64 (rd m a1 + 1))) := by
  have p1 : 0 ≤ a1 ∧ a1 < (m.length : Int) := by rw [hlen]; simpa [thereB] using ht
  obtain ⟨hv0, hfz⟩ := Kd.R_celln 0 hR a1 p1.1 p1.2
  have hv : w.cell? ⟨q, a1.toNat, none⟩ = some (.int .i64 (rd m a1)) := hv0
  clear hv0
  have p0 := eq_true p1.1
  have q0 := eq_true p1.2
  go_enter Try.func14, Try.ntmps14
  go_wp2_with (first | ((with_reducible refine gate_callee (f := 19) rfl ?_); refine goesL_ (some 6) rfl rfl Try.func19 (by kernel_rfl) rfl #[.pointer (some ⟨g, 0, none⟩), .int .i64 a1] rfl (by (try simp only [List.map_toArray, List.map_cons, List.map_nil]); first | done | rfl) ?_; (with_reducible refine (there_rows g A0 c0 l a1 _ true ht ?sx).mono ?_); (case sx => first | exact hx0 | (go_simp; exact hx0)); rintro e w' ⟨rfl, ⟨nd, rfl⟩⟩; refine ⟨_, rfl, ?_⟩) | ((with_reducible refine gate_store (t := 3) (p := 15) rfl ?_); refine store_event (t := 3) (p := 15) (v := ?vo_w13) (w1 := (wr.setCell ⟨q, (a1 : Int).toNat, none⟩ (.int .i64 (wrap64 (rd m a1 + 1))))) ?hg ?ho ?hn ?hr ?_; (case ho => rfl); (case hg => rfl); (case hn => rfl); (case hr => first | (go_simp; done) | (go_simp; rfl)); intro w13 hw; have hw' : w13 = _ := hw))
  first | go_end0 | ((try simp only [Exit.inBlock, Exit.then]); refine bodyPost_ret (results_none rfl _ _ _) rfl ?_)
  exact ⟨by first | rfl | (simp; done) | (simp [*]; done), _, rfl⟩
/-! ### Which -/
def which.l0 : Nat → Int → List Bool → List Int → Int → Int → Option (List Bool)
  | 0, _, _, _, _, _ => none
  | k + 1, x1, x5, x19, x20, x21 => if x21 < x20 then (if 0 ≤ x21 then (if x21 < (x19.length : Int) then (if x21 < (x5.length : Int) then (which.l0 k x1 (x5.set (x21 : Int).toNat ((rd x19 x21) == x1)) x19 x20 (wrap64 (x21 + 1))) else (none)) else (none)) else (none)) else (some x5)
def which.f (k : Nat) (l0 : List Int) (a1 : Int) : Option (List Bool) := if 0 ≤ (l0.length : Int) then (if ((l0.length : Int) : Int).toNat ≤ 281474976710656 then (which.l0 k a1 (List.replicate ((l0.length : Int) : Int).toNat false) l0 (l0.length : Int) 0) else (none)) else (none)

set_option maxHeartbeats 8000000 in
set_option maxRecDepth 100000 in
theorem which_rows (g k : Nat) (A0 : Option Addr) (c0 : Nat) (l0 : List Int) (a1 : Int) (r : List Bool) (w : World) (hx0 : w.cell? ⟨g, 0, none⟩ = some (.slice A0 l0.length c0)) (hr0 : Kd.C (Kd.int .i64) w A0 l0.length l0) (hc0 : l0.length ≤ c0) (h : which.f k l0 a1 = some r) :
    Calls Try.prog 22 #[.pointer (some ⟨g, 0, none⟩), .int .i64 a1] w fun e w' => ∃ v0_ : Value, e = .returned (v0_) ∧ Kd.R Kd.bool 4 w' w.heap.size (fun _ => True) v0_ r ∧ Below w.heap.size w w' := by
  have HR0 := Aside0.mk hr0
  have HC0 := Aside0.mk hc0
  clear hr0 hc0
  have HB := Aside0.mk (Below.refl w.heap.size w)
  have H : (if 0 ≤ (l0.length : Int) then (if ((l0.length : Int) : Int).toNat ≤ 281474976710656 then (which.l0 k a1 (List.replicate ((l0.length : Int) : Int).toNat false) l0 (l0.length : Int) 0) else (none)) else (none)) = some r := h
  clear h
  by_cases c3 : 0 ≤ (l0.length : Int)
  · rw [if_pos c3] at H
    have c3b0 := eq_true c3
    have c3b1 : decide (0 ≤ (l0.length : Int)) = true := decide_eq_true c3
    clear c3
    by_cases c4 : ((l0.length : Int) : Int).toNat ≤ 281474976710656
    · rw [if_pos c4] at H
      have c4b0 := eq_true c4
      have c4b1 : decide (((l0.length : Int) : Int).toNat ≤ 281474976710656) = true := decide_eq_true c4
      clear c4
      obtain ⟨y101, hy101⟩ : ∃ y_ : List Bool, y_ = (List.replicate ((l0.length : Int) : Int).toNat false) := ⟨_, rfl⟩
      replace H : (which.l0 k a1 y101 l0 (l0.length : Int) 0) = some r := by first | (rw [hy101]; with_reducible exact H) | (have H2_ := (Option.bind_some _ _).symm.trans H; rw [hy101]; with_reducible exact H2_) | (have H2_ := (Option.bind_some _ _).symm.trans H; with_reducible exact H2_) | with_reducible exact H | (rw [hy101]; exact H) | exact H
      have Ny101 := Aside0.mk hy101
      clear hy101
      have H' := Aside0.mk H
      clear H
      go_enter Try.func22, Try.ntmps22
      go_wp2_with (first | ((with_reducible refine gate_dst (N := 15) rfl ?_); refine Kd.R_make Kd.bool _ 4 rfl (N := 15) rfl 26 _ _ rfl (l0.length : Int) rfl rfl Try.underlying26 (.bool false) 1 info4S rfl (by decide) (by omega) false (ok := fun _ => True) (okp := fun _ => True) rfl (fun _ hk => hk) trivial (of_decide_eq_true (by first | (with_reducible assumption) | assumption)) (Nat.le_trans (Nat.mul_le_mul_right _ (of_decide_eq_true (by first | (with_reducible assumption) | assumption) : (l0.length : Int).toNat ≤ 281474976710656)) (by omega)) (Below.refl _ _) (Nat.le_refl _) ?_; intro v102 w5 ho6 hb hg_ hnew_; clear hg_ hnew_; (first | rw [← Ny101.out] at ho6 | (simp only [Int.reduceToNat] at ho6; rw [← Ny101.out] at ho6)); have n0_ := Aside0.mk (Kd.R_lower ho6 (below_size (by repeat (first | (with_reducible first | exact HB.out | apply below_alloc | apply pw_below_drewN | apply below_drew1) | exact HB.out)))); have n1_ := Aside0.mk (below_step (by repeat (first | (with_reducible first | exact HB.out | apply below_alloc | apply pw_below_drewN | apply below_drew1) | exact HB.out)) hb); have hx0_ := (n1_.out.cell (World.block_lt_of_cell? w _ hx0)).trans hx0; clear HB; have HO103 := n0_; have HB := n1_; clear n0_ n1_; clear hb ho6))
      go_loopg [21] k (fun kq v21 w' => ∃ (x5_1 : List Bool) (x21_1 : Int), v21 = .int .i64 x21_1 ∧ Aside0 (which.l0 kq a1 x5_1 l0 (l0.length : Int) x21_1 = some r) ∧ Aside0 (kq ≤ k) ∧ Aside0 (Kd.R Kd.bool 4 w' w.heap.size (fun _ => True) v102 x5_1) ∧ Aside0 (Below w.heap.size w w'))
      case atStart => exact ⟨(y101), (0), (by first | rfl | (simp; done) | (simp [*]; done)), H', ⟨Nat.le_refl _⟩, ⟨by (with_reducible repeat (first | apply Kd.R_alloc | apply Kd.R_drewN | apply Kd.R_drew)); exact HO103.out⟩, ⟨by repeat (first | (with_reducible first | exact HB.out | apply below_alloc | apply pw_below_drewN | apply below_drew1) | exact HB.out)⟩⟩
      case round =>
        clear H'
        try clear c2
        try clear p2
        try clear c3
        try clear c3b0
        try clear c3b1
        try clear c4
        try clear c4b0
        try clear c4b1
        obtain ⟨x5_1, x21_1, rfl, HA, HK1, HO_5, HB⟩ := hrel
        cases gk with
        | zero => exact absurd HA.out (by simp [which.l0])
        | succ k1 =>
          have H := HA.out
          clear HA
          simp only [which.l0] at H
          by_cases c7 : x21_1 < (l0.length : Int)
          · rw [if_pos c7] at H
            have c7b0 : decide (x21_1 < (l0.length : Int)) = true := decide_eq_true c7
            clear c7
            by_cases c8 : 0 ≤ x21_1
            · rw [if_pos c8] at H
              have c8b0 : decide (0 ≤ x21_1) = true := decide_eq_true c8
              clear c8
              by_cases c9 : x21_1 < (l0.length : Int)
              · rw [if_pos c9] at H
                have c9b0 : decide (x21_1 < (l0.length : Int)) = true := decide_eq_true c9
                clear c9
                by_cases c10 : x21_1 < (x5_1.length : Int)
                · rw [if_pos c10] at H
                  have c10b0 : decide (x21_1 < (x5_1.length : Int)) = true := decide_eq_true c10
                  clear c10
                  obtain ⟨y105, hy105⟩ : ∃ y_ : List Bool, y_ = (x5_1.set (x21_1 : Int).toNat ((rd l0 x21_1) == a1)) := ⟨_, rfl⟩
                  replace H : (which.l0 k1 a1 y105 l0 (l0.length : Int) (wrap64 (x21_1 + 1))) = some r := by first | (rw [hy105]; with_reducible exact H) | (have H2_ := (Option.bind_some _ _).symm.trans H; rw [hy105]; with_reducible exact H2_) | (have H2_ := (Option.bind_some _ _).symm.trans H; with_reducible exact H2_) | with_reducible exact H | (rw [hy105]; exact H) | exact H
                  have Ny105 := Aside0.mk hy105
                  clear hy105
                  have H' := Aside0.mk H
                  clear H
                  have p104 : 0 ≤ (x21_1 : Int) := of_decide_eq_true (by first | (with_reducible assumption) | assumption)
                  have q104 : x21_1 < (l0.length : Int) := of_decide_eq_true (by first | (with_reducible assumption) | assumption)
                  obtain ⟨ad104, e104, hx104_0⟩ := Kd.at_int HR0.out x21_1 p104 q104
                  cases e104
                  replace hx104_0 := (HB.out.cell (World.block_lt_of_cell? w _ hx104_0)).trans hx104_0
                  replace p104 := eq_true p104
                  replace q104 := eq_true q104
                  have p11 : 0 ≤ (x21_1 : Int) := of_decide_eq_true (by first | (with_reducible assumption) | assumption)
                  have q11 : (x21_1 : Int) < ((x5_1.length : Int) : Int) := of_decide_eq_true (by first | (with_reducible assumption) | assumption)
                  obtain ⟨go11, co11, eo11, gb11, gl11, cl11, HG11⟩ := Kd.R_form HO_5.out (by omega)
                  (first | cases eo11 | (injection eo11 with ea_ en_ ec_; (first | subst ea_ | (injection ea_ with ea_; subst ea_)); subst ec_; clear en_))
                  have GB11 := Aside0.mk gb11
                  have GG11 := Aside0.mk HG11
                  clear gb11 gl11 HG11
                  obtain ⟨hx11_0, hf11_0⟩ := Kd.R_celln false HO_5.out (x21_1 : Int) p11 q11
                  replace p11 := eq_true p11
                  replace q11 := eq_true q11
                  have HP12 := Kd.R_putg HO_5.out (x21_1 : Int) ((rd l0 x21_1) == a1)
                  go_wp2_with (first | ((with_reducible refine gate_store (t := 4) (p := 31) rfl ?_); refine store_event (t := 4) (p := 31) (v := ?vo_w13) (w1 := (wr.setCell ⟨go11, (x21_1 : Int).toNat, none⟩ (.bool ((rd l0 x21_1) == a1)))) ?hg ?ho ?hn ?hr ?_; (case ho => rfl); (case hg => rfl); (case hn => rfl); (case hr => first | (go_simp; done) | (go_simp; rfl)); intro w13 hw; have hg : wr.grownBy w13 (some go11) := (by rw [hw]; exact HP12.2); have hp_ : Kd.R Kd.bool 4 w13 w.heap.size (fun _ => True) (.slice (some ⟨go11, 0, none⟩) x5_1.length co11) y105 := (by rw [hw, Ny105.out]; exact HP12.1); clear HP12; have n0_ := Aside0.mk (hp_); have n1_ := Aside0.mk ((by rw [hw]; exact below_set (HB.out) GB11.out : Below w.heap.size w w13)); clear HO_5; clear HB; have HO_5 := n0_; have HB := n1_; clear n0_ n1_; clear hg hw hp_))
                  go_roundg k1
                  case measure => have := HK1.out; omega
                  case rel => exact ⟨(y105), (wrap64 (x21_1 + 1)), (by first | rfl | (simp; done) | (simp [*]; done)), H', ⟨by have := HK1.out; omega⟩, ⟨by (with_reducible repeat (first | apply Kd.R_alloc | apply Kd.R_drewN | apply Kd.R_drew)); exact HO_5.out⟩, ⟨by repeat (first | (with_reducible first | exact HB.out | apply below_alloc | apply pw_below_drewN | apply below_drew1) | exact HB.out)⟩⟩
                · rw [if_neg c10] at H
                  exact absurd H (by simp)
              · rw [if_neg c9] at H
                exact absurd H (by simp)
            · rw [if_neg c8] at H
              exact absurd H (by simp)
          · rw [if_neg c7] at H
            have c7b0 : decide (x21_1 < (l0.length : Int)) = false := decide_eq_false c7
            clear c7
            obtain rfl := Option.some.inj H
            go_wp2
            go_ret
            exact ⟨_, by first | rfl | (simp [errW_none, errW_some] <;> rfl) | (simp [*, errW_none, errW_some] <;> rfl), by (with_reducible repeat (first | apply Kd.R_alloc | apply Kd.R_drewN | apply Kd.R_drew)); exact HO_5.out, by repeat (first | (with_reducible first | exact HB.out | apply below_alloc | apply pw_below_drewN | apply below_drew1) | exact HB.out)⟩
    · rw [if_neg c4] at H
      exact absurd H (by simp)
  · rw [if_neg c3] at H
    exact absurd H (by simp)

/-! ### List -/
def lst.l0 : Nat → Int → List Int → List Int → Int → Int → Option (List Int)
  | 0, _, _, _, _, _ => none
  | k + 1, x1, x5, x13, x14, x15 => if x15 < x14 then (if 0 ≤ x15 then (if x15 < (x13.length : Int) then (if (rd x13 x15) = x1 then (if x5.length < 17592186044416 then (lst.l0 k x1 (x5 ++ [x15]) x13 x14 (wrap64 (x15 + 1))) else (none)) else (lst.l0 k x1 x5 x13 x14 (wrap64 (x15 + 1)))) else (none)) else (none)) else (some x5)
def lst.f (k : Nat) (l0 : List Int) (a1 : Int) : Option (List Int) := lst.l0 k a1 ([] : List Int) l0 (l0.length : Int) 0

set_option maxHeartbeats 8000000 in
set_option maxRecDepth 100000 in
theorem lst_rows (g k : Nat) (A0 : Option Addr) (c0 : Nat) (l0 : List Int) (a1 : Int) (r : List Int) (w : World) (hx0 : w.cell? ⟨g, 0, none⟩ = some (.slice A0 l0.length c0)) (hr0 : Kd.C (Kd.int .i64) w A0 l0.length l0) (hc0 : l0.length ≤ c0) (h : lst.f k l0 a1 = some r) :
    Calls Try.prog 18 #[.pointer (some ⟨g, 0, none⟩), .int .i64 a1] w fun e w' => ∃ v0_ : Value, e = .returned (v0_) ∧ Kd.R (Kd.int .i64) 3 w' w.heap.size (fun _ => True) v0_ r ∧ Below w.heap.size w w' := by
  have HR0 := Aside0.mk hr0
  have HC0 := Aside0.mk hc0
  clear hr0 hc0
  have HB := Aside0.mk (Below.refl w.heap.size w)
  have H : (lst.l0 k a1 ([] : List Int) l0 (l0.length : Int) 0) = some r := h
  clear h
  have H' := Aside0.mk H
  clear H
  go_enter Try.func18, Try.ntmps18
  go_wp2
  go_loopg [5, 15] k (fun kq v5 v15 w' => ∃ (x5_1 : List Int) (x15_1 : Int), v15 = .int .i64 x15_1 ∧ Aside0 (lst.l0 kq a1 x5_1 l0 (l0.length : Int) x15_1 = some r) ∧ Aside0 (kq ≤ k) ∧ Aside0 (Kd.R (Kd.int .i64) 3 w' w.heap.size (fun _ => True) v5 x5_1) ∧ Aside0 (Below w.heap.size w w'))
  case atStart => exact ⟨(([] : List Int)), (0), (by first | rfl | (simp; done) | (simp [*]; done)), H', ⟨Nat.le_refl _⟩, ⟨by first | exact Kd.R_nil _ _ _ _ _ | exact Kd.N_nil _ _ _ _ _ | exact Kd.V_nil _ _ _ _ _ | exact Kd.Q_nil _ _ _ _ _ | exact Kd.S_nil _ _ _ _ _⟩, ⟨by repeat (first | (with_reducible first | exact HB.out | apply below_alloc | apply pw_below_drewN | apply below_drew1) | exact HB.out)⟩⟩
  case round =>
    clear H'
    try clear c1
    try clear p2
    obtain ⟨x5_1, x15_1, rfl, HA, HK1, HO_5, HB⟩ := hrel
    cases gk with
    | zero => exact absurd HA.out (by simp [lst.l0])
    | succ k1 =>
      have H := HA.out
      clear HA
      simp only [lst.l0] at H
      by_cases c3 : x15_1 < (l0.length : Int)
      · rw [if_pos c3] at H
        have c3b0 : decide (x15_1 < (l0.length : Int)) = true := decide_eq_true c3
        clear c3
        by_cases c4 : 0 ≤ x15_1
        · rw [if_pos c4] at H
          have c4b0 : decide (0 ≤ x15_1) = true := decide_eq_true c4
          clear c4
          by_cases c5 : x15_1 < (l0.length : Int)
          · rw [if_pos c5] at H
            have c5b0 : decide (x15_1 < (l0.length : Int)) = true := decide_eq_true c5
            clear c5
            by_cases c6 : (rd l0 x15_1) = a1
            · rw [if_pos c6] at H
              have c6b0 : ((rd l0 x15_1) == a1) = true := beq_iff_eq.mpr c6
              have c6b1 : ((rd l0 x15_1) != a1) = false := bne_eq_false_iff_eq.mpr c6
              clear c6
              by_cases c7 : x5_1.length < 17592186044416
              · rw [if_pos c7] at H
                have LMc7 := Aside0.mk c7
                clear c7
                obtain ⟨y107, hy107⟩ : ∃ y_ : List Int, y_ = (x5_1 ++ [x15_1]) := ⟨_, rfl⟩
                replace H : (lst.l0 k1 a1 y107 l0 (l0.length : Int) (wrap64 (x15_1 + 1))) = some r := by first | (rw [hy107]; with_reducible exact H) | (have H2_ := (Option.bind_some _ _).symm.trans H; rw [hy107]; with_reducible exact H2_) | (have H2_ := (Option.bind_some _ _).symm.trans H; with_reducible exact H2_) | with_reducible exact H | (rw [hy107]; exact H) | exact H
                have Ny107 := Aside0.mk hy107
                clear hy107
                have H' := Aside0.mk H
                clear H
                have p106 : 0 ≤ (x15_1 : Int) := of_decide_eq_true (by first | (with_reducible assumption) | assumption)
                have q106 : x15_1 < (l0.length : Int) := of_decide_eq_true (by first | (with_reducible assumption) | assumption)
                obtain ⟨ad106, e106, hx106_0⟩ := Kd.at_int HR0.out x15_1 p106 q106
                cases e106
                replace hx106_0 := (HB.out.cell (World.block_lt_of_cell? w _ hx106_0)).trans hx106_0
                replace p106 := eq_true p106
                replace q106 := eq_true q106
                go_wp2_with (first | ((with_reducible refine gate_builtin (b := .append) (xs := #[.tmp 23, .tmp 25]) rfl ?_); at_builtin; refine Kd.R_append (Kd.int .i64) (w0 := w) w.heap.size rfl (.tmp 23) (.tmp 25) 34 3 (.int .i64 0) 8 rfl Try.underlying34 info3S rfl (by decide) (by omega) u5 x5_1 x15_1 [.int .i64 x15_1] (fun _ => True) (fun _ => False) rfl rfl ?aP (fun _ hk => hk.elim) ?aF ?aO ?aB ?aS ?aL ?_; (case aP => exact rfl); (case aB => exact (by repeat (first | (with_reducible first | exact HB.out | apply below_alloc | apply pw_below_drewN | apply below_drew1) | exact HB.out))); (case aF => exact (fun _ _ => trivial)); (case aO => exact (by (with_reducible repeat (first | apply Kd.R_alloc | apply Kd.R_drewN | apply Kd.R_drew)); exact HO_5.out)); (case aS => exact (below_size (by repeat (first | (with_reducible first | exact HB.out | apply below_alloc | apply pw_below_drewN | apply below_drew1) | exact HB.out)))); (case aL => have := LMc7.out; omega); intro v108 w8 ho hb hg hat; rw [← Ny107.out] at ho; have n0_ := Aside0.mk (hb); have n1_ := Aside0.mk (ho); clear HB; clear HO_5; have HB := n0_; have HO109 := n1_; clear n0_ n1_; clear ho hb hg hat))
                go_roundg k1
                case measure => have := HK1.out; omega
                case rel => exact ⟨(y107), (wrap64 (x15_1 + 1)), (by first | rfl | (simp; done) | (simp [*]; done)), H', ⟨by have := HK1.out; omega⟩, ⟨by (with_reducible repeat (first | apply Kd.R_alloc | apply Kd.R_drewN | apply Kd.R_drew)); exact HO109.out⟩, ⟨by repeat (first | (with_reducible first | exact HB.out | apply below_alloc | apply pw_below_drewN | apply below_drew1) | exact HB.out)⟩⟩
              · rw [if_neg c7] at H
                exact absurd H (by simp)
            · rw [if_neg c6] at H
              have c6b0 : ((rd l0 x15_1) == a1) = false := beq_eq_false_iff_ne.mpr c6
              have c6b1 : ((rd l0 x15_1) != a1) = true := bne_iff_ne.mpr c6
              have H' := Aside0.mk H
              clear H
              have p106 : 0 ≤ (x15_1 : Int) := of_decide_eq_true (by first | (with_reducible assumption) | assumption)
              have q106 : x15_1 < (l0.length : Int) := of_decide_eq_true (by first | (with_reducible assumption) | assumption)
              obtain ⟨ad106, e106, hx106_0⟩ := Kd.at_int HR0.out x15_1 p106 q106
              cases e106
              replace hx106_0 := (HB.out.cell (World.block_lt_of_cell? w _ hx106_0)).trans hx106_0
              replace p106 := eq_true p106
              replace q106 := eq_true q106
              go_wp2
              go_roundg k1
              case measure => have := HK1.out; omega
              case rel => exact ⟨(x5_1), (wrap64 (x15_1 + 1)), (by first | rfl | (simp; done) | (simp [*]; done)), H', ⟨by have := HK1.out; omega⟩, ⟨by (with_reducible repeat (first | apply Kd.R_alloc | apply Kd.R_drewN | apply Kd.R_drew)); exact HO_5.out⟩, ⟨by repeat (first | (with_reducible first | exact HB.out | apply below_alloc | apply pw_below_drewN | apply below_drew1) | exact HB.out)⟩⟩
          · rw [if_neg c5] at H
            exact absurd H (by simp)
        · rw [if_neg c4] at H
          exact absurd H (by simp)
      · rw [if_neg c3] at H
        have c3b0 : decide (x15_1 < (l0.length : Int)) = false := decide_eq_false c3
        clear c3
        obtain rfl := Option.some.inj H
        go_wp2
        go_ret
        exact ⟨_, by first | rfl | (simp [errW_none, errW_some] <;> rfl) | (simp [*, errW_none, errW_some] <;> rfl), by (with_reducible repeat (first | apply Kd.R_alloc | apply Kd.R_drewN | apply Kd.R_drew)); exact HO_5.out, by repeat (first | (with_reducible first | exact HB.out | apply below_alloc | apply pw_below_drewN | apply below_drew1) | exact HB.out)⟩

/-! ### the loops -/
def whichP (l : List Int) (s : Int) : List Bool := l.map (fun x => x == s)
def lstP (l : List Int) (s : Int) : List Int := ((List.range l.length).filter (fun i : Nat => rd l (i : Int) == s)).map Int.ofNat
theorem wrap_small (i : Int) (h0 : 0 ≤ i) (h1 : i < 1000) : wrap64 i = i := by unfold wrap64; omega
theorem rd_at (l : List Int) (i : Nat) (h : i < l.length) : rd l (i : Int) = l[i] := by simp [rd, List.getD_eq_getElem?_getD, h]
theorem which_loop (l : List Int) (s : Int) (hl : l.length ≤ 64) : ∀ d i : Nat, i + d = l.length →
    which.l0 (d + 1) s ((l.take i).map (fun x => x == s) ++ List.replicate d false) l (l.length : Int) (i : Int) = some (whichP l s)
  | 0, i, h => by
    have h1 : ¬ ((i : Int) < (l.length : Int)) := by omega
    rw [which.l0, if_neg h1, List.take_of_length_le (by omega)]
    simp [whichP]
  | d + 1, i, h => by
    have h1 : (i : Int) < (l.length : Int) := by omega
    have h2 : (0 : Int) ≤ (i : Int) := by omega
    have h3 : (i : Int) < ((((l.take i).map (fun x => x == s) ++ List.replicate (d + 1) false).length : Nat) : Int) := by simp; omega
    rw [which.l0, if_pos h1, if_pos h2, if_pos h1, if_pos h3]
    have hw : wrap64 ((i : Int) + 1) = ((i + 1 : Nat) : Int) := by rw [wrap_small _ (by omega) (by omega)]; omega
    have hs : ((l.take i).map (fun x => x == s) ++ List.replicate (d + 1) false).set ((i : Int)).toNat (rd l (i : Int) == s) = (l.take (i + 1)).map (fun x => x == s) ++ List.replicate d false := by
      have hi : i < l.length := by omega
      rw [rd_at l i hi, Int.toNat_natCast, List.set_append_right _ _ (by simp; omega), List.take_succ_eq_append_getElem hi]
      have : i - ((l.take i).map (fun x => x == s)).length = 0 := by simp; omega
      rw [this, List.replicate_succ, List.set_cons_zero, List.map_append, List.append_assoc]
      rfl
    rw [hs, hw]
    exact which_loop l s hl d (i + 1) (by omega)
theorem which_ev (l : List Int) (s : Int) (hl : l.length ≤ 64) : which.f (l.length + 1) l s = some (whichP l s) := by
  have := which_loop l s hl l.length 0 (by omega)
  rw [which.f, if_pos (by omega), if_pos (by omega)]
  simpa using this
theorem lst_loop (l : List Int) (s : Int) (hl : l.length ≤ 64) : ∀ d i : Nat, i + d = l.length →
    lst.l0 (d + 1) s (((List.range i).filter (fun i : Nat => rd l (i : Int) == s)).map Int.ofNat) l (l.length : Int) (i : Int) = some (lstP l s)
  | 0, i, h => by
    have h1 : ¬ ((i : Int) < (l.length : Int)) := by omega
    have h2 : i = l.length := by omega
    rw [lst.l0, if_neg h1, h2]
    rfl
  | d + 1, i, h => by
    have h1 : (i : Int) < (l.length : Int) := by omega
    have h2 : (0 : Int) ≤ (i : Int) := by omega
    have hw : wrap64 ((i : Int) + 1) = ((i + 1 : Nat) : Int) := by rw [wrap_small _ (by omega) (by omega)]; omega
    have ih := lst_loop l s hl d (i + 1) (by omega)
    have hle : (((List.range i).filter (fun i : Nat => rd l (i : Int) == s)).map Int.ofNat).length ≤ i := by
      rw [List.length_map]; exact Nat.le_trans (List.length_filter_le _ _) (by simp)
    rw [List.range_succ, List.filter_append, List.map_append] at ih
    rw [lst.l0, if_pos h1, if_pos h2, if_pos h1, hw]
    by_cases he : rd l (i : Int) = s
    · have hlt : (((List.range i).filter (fun i : Nat => rd l (i : Int) == s)).map Int.ofNat).length < 17592186044416 := by omega
      rw [if_pos he, if_pos hlt]
      have : (rd l (i : Int) == s) = true := beq_iff_eq.mpr he
      simpa [List.filter, this] using ih
    · rw [if_neg he]
      have : (rd l (i : Int) == s) = false := beq_eq_false_iff_ne.mpr he
      simpa [List.filter, this] using ih
theorem lst_ev (l : List Int) (s : Int) (hl : l.length ≤ 64) : lst.f (l.length + 1) l s = some (lstP l s) := by
  have := lst_loop l s hl l.length 0 (by omega)
  rw [lst.f]
  simpa using this
/-- every block above the state's own is kept -/
def KeepUp (w w' : World) (g : Nat) : Prop := w.heap.size ≤ w'.heap.size ∧ ∀ i, i < w.heap.size → g < i → w'.heap[i]? = w.heap[i]?
theorem KeepUp.of_below {w w' : World} (h : Below w.heap.size w w') (g : Nat) : KeepUp w w' g := ⟨h.size, fun i hi _ => h.block i hi⟩
theorem KeepUp.of_drawn {w w' : World} (h : Drawn0 w w') (g : Nat) : KeepUp w w' g := by
  obtain ⟨m, rfl⟩ := h
  exact KeepUp.of_below (pw_below_drewN (Below.refl _ _) m) g
theorem KeepUp.of_set {w : World} {q g : Nat} (hq : q < g) (m i : Nat) (u : Value) : KeepUp w ((w.drewN m).setCell ⟨q, i, none⟩ u) g := by
  have hb : Below w.heap.size w (w.drewN m) := pw_below_drewN (Below.refl _ _) m
  refine ⟨by simp [World.setCell], fun i hi hg => ?_⟩
  exact (Below.heap_setCell (w.drewN m) ⟨q, _, none⟩ u i (by show i ≠ q; omega)).trans (hb.block i hi)

/-! ### the contracts -/
section
variable (g : Nat) (s0_0 : Y) (w0 w : World) (hI : IsS46 w0 w g s0_0) (hB : Below w0.heap.size w0 w)
theorem drawn_below {base : Nat} {w0 w w' : World} (hB : Below base w0 w) (h : Drawn0 w w') : Below base w0 w' := by
  obtain ⟨m, rfl⟩ := h
  exact pw_below_drewN hB m
theorem IsS46.drawn {w0 w w' : World} {g : Nat} {y : Y} (h : IsS46 w0 w g y) (hd : Drawn0 w w') : IsS46 w0 w' g y := by
  obtain ⟨m, rfl⟩ := hd
  exact h.drewN m
def yard_Yard_there.f (s0_0 : Y) (a1 : Int) : Option (Bool × Y) := some (thereB s0_0.1 a1, s0_0)
def yard_Yard_State.f (s0_0 : Y) (a1 : Int) : Option (Int × Y) := some (if thereB s0_0.1 a1 then rd s0_0.1 a1 else 0, s0_0)
def yard_Yard_Erases.f (s0_0 : Y) (a1 : Int) : Option (Int × Y) := some (if thereB s0_0.1 a1 then rd s0_0.2 a1 else 0, s0_0)
def yard_Yard_Turn.f (s0_0 : Y) (a1 a2 : Int) : Option (Bool × Y) := some (if (thereB s0_0.1 a1 && mayB (rd s0_0.1 a1) a2) = true then (true, (s0_0.1.set a1.toNat a2, s0_0.2)) else (false, s0_0))
def yard_Yard_Erased.f (s0_0 : Y) (a1 : Int) : Option Y := some (if thereB s0_0.1 a1 = true then (s0_0.1, s0_0.2.set a1.toNat (wrap64 (rd s0_0.2 a1 + 1))) else s0_0)
def yard_Yard_Which.f (s0_0 : Y) (a1 : Int) : Option (List Bool × Y) := some (whichP s0_0.1 a1, s0_0)
def yard_Yard_List.f (s0_0 : Y) (a1 : Int) : Option (List Int × Y) := some (lstP s0_0.1 a1, s0_0)
def yard_Yard_Count.f (s0_0 : Y) (a1 : Int) : Option (Int × Y) := some (((lstP s0_0.1 a1).length : Int), s0_0)
include hI hB
theorem yard_Yard_there.calls (a1 : Int) (r1 : Bool) (r2 : Y) (h : yard_Yard_there.f s0_0 a1 = some (r1, r2)) :
    Calls Try.prog 19 #[.pointer (some ⟨g, 0, none⟩), .int .i64 a1] w fun e w' => e = .returned (.bool r1) ∧ IsS46 w0 w' g r2 ∧ Below w0.heap.size w0 w' ∧ KeepUp w w' g := by
  simp only [yard_Yard_there.f, Option.some.injEq, Prod.mk.injEq] at h
  obtain ⟨rfl, rfl⟩ := h
  obtain ⟨A0, c0, A1, c1, hx0, hx1, hR0, hC0, hR1, hC1⟩ := hI.reads
  exact (there_rows g A0 c0 _ a1 w _ rfl hx0).mono (fun e w' ⟨he, hd⟩ => ⟨he, hI.drawn hd, drawn_below hB hd, KeepUp.of_drawn hd g⟩)
theorem yard_Yard_State.calls (a1 : Int) (r1 : Int) (r2 : Y) (h : yard_Yard_State.f s0_0 a1 = some (r1, r2)) :
    Calls Try.prog 13 #[.pointer (some ⟨g, 0, none⟩), .int .i64 a1] w fun e w' => e = .returned (.int .i64 r1) ∧ IsS46 w0 w' g r2 ∧ Below w0.heap.size w0 w' ∧ KeepUp w w' g := by
  simp only [yard_Yard_State.f, Option.some.injEq, Prod.mk.injEq] at h
  obtain ⟨rfl, rfl⟩ := h
  obtain ⟨A0, c0, A1, c1, hx0, hx1, hR0, hC0, hR1, hC1⟩ := hI.reads
  exact (state_rows g A0 c0 _ a1 w hx0 hR0).mono (fun e w' ⟨he, hd⟩ => ⟨he, hI.drawn hd, drawn_below hB hd, KeepUp.of_drawn hd g⟩)
theorem yard_Yard_Erases.calls (a1 : Int) (r1 : Int) (r2 : Y) (h : yard_Yard_Erases.f s0_0 a1 = some (r1, r2)) :
    Calls Try.prog 16 #[.pointer (some ⟨g, 0, none⟩), .int .i64 a1] w fun e w' => e = .returned (.int .i64 r1) ∧ IsS46 w0 w' g r2 ∧ Below w0.heap.size w0 w' ∧ KeepUp w w' g := by
  simp only [yard_Yard_Erases.f, Option.some.injEq, Prod.mk.injEq] at h
  obtain ⟨rfl, rfl⟩ := h
  obtain ⟨A0, c0, A1, c1, hx0, hx1, hR0, hC0, hR1, hC1⟩ := hI.reads
  exact (erases_rows g A0 c0 _ A1 c1 _ a1 w hx0 hx1 hI.1.2 hR1).mono (fun e w' ⟨he, hd⟩ => ⟨he, hI.drawn hd, drawn_below hB hd, KeepUp.of_drawn hd g⟩)
theorem yard_Yard_Turn.calls (a1 a2 : Int) (r1 : Bool) (r2 : Y) (h : yard_Yard_Turn.f s0_0 a1 a2 = some (r1, r2)) :
    Calls Try.prog 10 #[.pointer (some ⟨g, 0, none⟩), .int .i64 a1, .int .i64 a2] w fun e w' => e = .returned (.bool r1) ∧ IsS46 w0 w' g r2 ∧ Below w0.heap.size w0 w' ∧ KeepUp w w' g := by
  simp only [yard_Yard_Turn.f] at h
  by_cases hc : (thereB s0_0.1 a1 && mayB (rd s0_0.1 a1) a2) = true
  · rw [if_pos hc] at h
    simp only [Option.some.injEq, Prod.mk.injEq] at h
    obtain ⟨rfl, rfl⟩ := h
    have hc' := hc
    rw [Bool.and_eq_true] at hc'
    have hp : 0 < s0_0.1.length := by
      have : 0 ≤ a1 ∧ a1 < (s0_0.1.length : Int) := by simpa [thereB] using hc'.1
      omega
    obtain ⟨hl, A0, c0, A1, c1, hb, hg, h0, h1⟩ := hI
    obtain ⟨q, cap, eq, hq, _⟩ := Kd.R_form h0 hp
    injection eq with e1 e2 e3
    subst e1
    have hqg : q < g := (h0.1 q rfl).1
    refine (turn_yes g q c0 _ a1 a2 w _ _ ((blk_cell hb 0).trans rfl) h0 hc'.1 hc'.2).mono ?_
    rintro e w' ⟨he, m1, rfl⟩
    refine ⟨he, ?_, ?_, KeepUp.of_set hqg m1 _ _⟩
    · have hbd : Below w.heap.size w (w.drewN m1) := pw_below_drewN (Below.refl _ _) m1
      have := IsS46.put0 (w0 := w0) (W := w.drewN m1) a1 a2 (blk_below hb hbd) hg hl (Kd.R_below h0 hbd) (Kd.R_below h1 hbd)
      exact this
    · exact below_set (pw_below_drewN hB m1) hq
  · have hc' := Bool.eq_false_iff.mpr hc
    rw [if_neg hc] at h
    simp only [Option.some.injEq, Prod.mk.injEq] at h
    obtain ⟨rfl, rfl⟩ := h
    obtain ⟨A0, c0, A1, c1, hx0, hx1, hR0, hC0, hR1, hC1⟩ := hI.reads
    exact (turn_no g A0 c0 _ a1 a2 w hx0 hR0 hc').mono (fun e w' ⟨he, hd⟩ => ⟨he, hI.drawn hd, drawn_below hB hd, KeepUp.of_drawn hd g⟩)
theorem yard_Yard_Erased.calls (a1 : Int) (r : Y) (h : yard_Yard_Erased.f s0_0 a1 = some r) :
    Calls Try.prog 14 #[.pointer (some ⟨g, 0, none⟩), .int .i64 a1] w fun e w' => e = .returned (.tuple #[]) ∧ IsS46 w0 w' g r ∧ Below w0.heap.size w0 w' ∧ KeepUp w w' g := by
  simp only [yard_Yard_Erased.f] at h
  by_cases hc : thereB s0_0.1 a1 = true
  · rw [if_pos hc] at h
    obtain rfl := Option.some.inj h
    obtain ⟨hl, A0, c0, A1, c1, hb, hg, h0, h1⟩ := hI
    have hp : 0 < s0_0.2.length := by
      have : 0 ≤ a1 ∧ a1 < (s0_0.1.length : Int) := by simpa [thereB] using hc
      omega
    obtain ⟨q, cap, eq, hq, _⟩ := Kd.R_form h1 hp
    injection eq with e1 e2 e3
    subst e1
    have hqg : q < g := (h1.1 q rfl).1
    refine (erased_yes g q A0 c0 c1 _ _ a1 w _ _ ((blk_cell hb 0).trans rfl) ((blk_cell hb 1).trans rfl) hl.2 h1 hc).mono ?_
    rintro e w' ⟨he, m1, rfl⟩
    refine ⟨he, ?_, ?_, KeepUp.of_set hqg m1 _ _⟩
    · have hbd : Below w.heap.size w (w.drewN m1) := pw_below_drewN (Below.refl _ _) m1
      have := IsS46.put1 (w0 := w0) (W := w.drewN m1) a1 (wrap64 (rd s0_0.2 a1 + 1)) (blk_below hb hbd) hg hl (Kd.R_below h0 hbd) (Kd.R_below h1 hbd)
      exact this
    · exact below_set (pw_below_drewN hB m1) hq
  · have hc' := Bool.eq_false_iff.mpr hc
    rw [if_neg hc] at h
    obtain rfl := Option.some.inj h
    obtain ⟨A0, c0, A1, c1, hx0, hx1, hR0, hC0, hR1, hC1⟩ := hI.reads
    exact (erased_no g A0 c0 _ a1 w hx0 hc').mono (fun e w' ⟨he, hd⟩ => ⟨he, hI.drawn hd, drawn_below hB hd, KeepUp.of_drawn hd g⟩)
theorem yard_Yard_Which.calls (a1 : Int) (r1 : List Bool) (r2 : Y) (h : yard_Yard_Which.f s0_0 a1 = some (r1, r2)) :
    Calls Try.prog 22 #[.pointer (some ⟨g, 0, none⟩), .int .i64 a1] w fun e w' => ∃ v0_ : Value, e = .returned (v0_) ∧ Kd.R Kd.bool 4 w' w.heap.size (fun _ => True) v0_ r1 ∧ IsS46 w0 w' g r2 ∧ Below w0.heap.size w0 w' ∧ KeepUp w w' g := by
  simp only [yard_Yard_Which.f, Option.some.injEq, Prod.mk.injEq] at h
  obtain ⟨rfl, rfl⟩ := h
  obtain ⟨A0, c0, A1, c1, hx0, hx1, hR0, hC0, hR1, hC1⟩ := hI.reads
  exact (which_rows g _ A0 c0 _ a1 _ w hx0 hR0 hC0 (which_ev _ a1 hI.1.1)).mono (fun e w' ⟨v, he, hR, hd⟩ => ⟨v, he, hR, hI.below hd, below_step hB hd, KeepUp.of_below hd g⟩)
theorem yard_Yard_List.calls (a1 : Int) (r1 : List Int) (r2 : Y) (h : yard_Yard_List.f s0_0 a1 = some (r1, r2)) :
    Calls Try.prog 18 #[.pointer (some ⟨g, 0, none⟩), .int .i64 a1] w fun e w' => ∃ v0_ : Value, e = .returned (v0_) ∧ Kd.R (Kd.int .i64) 3 w' w.heap.size (fun _ => True) v0_ r1 ∧ IsS46 w0 w' g r2 ∧ Below w0.heap.size w0 w' ∧ KeepUp w w' g := by
  simp only [yard_Yard_List.f, Option.some.injEq, Prod.mk.injEq] at h
  obtain ⟨rfl, rfl⟩ := h
  obtain ⟨A0, c0, A1, c1, hx0, hx1, hR0, hC0, hR1, hC1⟩ := hI.reads
  exact (lst_rows g _ A0 c0 _ a1 _ w hx0 hR0 hC0 (lst_ev _ a1 hI.1.1)).mono (fun e w' ⟨v, he, hR, hd⟩ => ⟨v, he, hR, hI.below hd, below_step hB hd, KeepUp.of_below hd g⟩)
set_option maxHeartbeats 8000000 in
theorem yard_Yard_Count.calls (a1 : Int) (r1 : Int) (r2 : Y) (h : yard_Yard_Count.f s0_0 a1 = some (r1, r2)) :
    Calls Try.prog 11 #[.pointer (some ⟨g, 0, none⟩), .int .i64 a1] w fun e w' => e = .returned (.int .i64 r1) ∧ IsS46 w0 w' g r2 ∧ Below w0.heap.size w0 w' ∧ KeepUp w w' g := by
  simp only [yard_Yard_Count.f, Option.some.injEq, Prod.mk.injEq] at h
  obtain ⟨rfl, rfl⟩ := h
  obtain ⟨A0, c0, A1, c1, hx0, hx1, hR0, hC0, hR1, hC1⟩ := hI.reads
  have hl := hI.1.1
  suffices hs : Calls Try.prog 11 #[.pointer (some ⟨g, 0, none⟩), .int .i64 a1] w fun e w' => e = .returned (.int .i64 ((lstP s0_0.1 a1).length : Int)) ∧ Below w.heap.size w w' from
    hs.mono (fun e w' ⟨he, hd⟩ => ⟨he, hI.below hd, below_step hB hd, KeepUp.of_below hd g⟩)
  clear hI hB
  go_enter Try.func11, Try.ntmps11
  go_wp2_with (first | ((with_reducible refine gate_callee (f := 18) rfl ?_); refine goesL_ (some 7) rfl rfl Try.func18 (by kernel_rfl) rfl #[.pointer (some ⟨g, 0, none⟩), .int .i64 a1] rfl (by (try simp only [List.map_toArray, List.map_cons, List.map_nil]); first | done | rfl) ?_; (with_reducible refine (lst_rows g (s0_0.1.length + 1) A0 c0 s0_0.1 a1 (lstP s0_0.1 a1) w hx0 hR0 hC0 (lst_ev _ a1 hl)).mono ?_); rintro e w3 ⟨v, rfl, hRv, hb⟩; refine ⟨_, rfl, ?_⟩; obtain ⟨Av, cv, ev⟩ := Kd.R_slice hRv; subst ev))
  go_ret
  exact ⟨by first | rfl | (simp; done) | (simp [*]; done), hb⟩
omit hI hB in
def pickP (y : Y) : Int × Bool := Pure.pr (Pure.sel (Pure.okP y.2 (whichP y.1 1)) (Pure.ltP y.2) (whichP y.1 1).length)
def yard_Yard_Pick.f (s0_0 : Y) : Option (Int × Bool × Y) := some ((pickP s0_0).1, (pickP s0_0).2, s0_0)
set_option maxHeartbeats 8000000 in
theorem yard_Yard_Pick.calls (r1 : Int) (r2 : Bool) (r3 : Y) (h : yard_Yard_Pick.f s0_0 = some (r1, r2, r3)) :
    Calls Try.prog 12 #[.pointer (some ⟨g, 0, none⟩)] w fun e w' => e = .returned (.tuple #[.int .i64 r1, .bool r2]) ∧ IsS46 w0 w' g r3 ∧ Below w0.heap.size w0 w' ∧ KeepUp w w' g := by
  simp only [yard_Yard_Pick.f, Option.some.injEq, Prod.mk.injEq] at h
  obtain ⟨hr1, hr2, rfl⟩ := h
  obtain ⟨A0, c0, A1, c1, hx0, hx1, hR0, hC0, hR1, hC1⟩ := hI.reads
  have hl := hI.1.1
  have hwl : (whichP s0_0.1 1).length ≤ 140737488351232 := by simp [whichP]; omega
  obtain ⟨k, hk0⟩ := Pure.pick_is s0_0.2 (whichP s0_0.1 1) hwl
  have hk : Q.wear_Pick.f k s0_0.2 (whichP s0_0.1 1) = some (r1, r2) := (hk0 k (Nat.le_refl _)).trans (by rw [← hr1, ← hr2]; rfl)
  suffices hs : Calls Try.prog 12 #[.pointer (some ⟨g, 0, none⟩)] w fun e w' => e = .returned (.tuple #[.int .i64 r1, .bool r2]) ∧ Below w.heap.size w w' from
    hs.mono (fun e w' ⟨he, hd⟩ => ⟨he, hI.below hd, below_step hB hd, KeepUp.of_below hd g⟩)
  clear hI hB hk0 hr1 hr2
  go_enter Try.func12, Try.ntmps12
  go_wp2
  go_region_with (first
    | (go_at_call 22; (with_reducible refine (which_rows g (s0_0.1.length + 1) A0 c0 s0_0.1 1 (whichP s0_0.1 1) _ ?sx ?sR hC0 (which_ev _ 1 hl)).mono ?_); (case sx => exact hx0); (case sR => repeat (first | exact hR0 | (with_reducible refine Kd.C_alloc ?_ _) | (with_reducible refine Kd.C_drewN ?_ _) | (with_reducible refine Kd.C_drew ?_))); rintro e w3 ⟨v, rfl, hRv, hb⟩; obtain ⟨Av, cv, ev⟩ := Kd.R_slice hRv; subst ev; have hb' : Below w.heap.size w w3 := (by first | exact hb | exact below_step (below_drew1 (Below.refl _ _)) hb | exact below_step (pw_below_drewN (Below.refl _ _) _) hb); have hx1_ := (hb'.cell (World.block_lt_of_cell? w _ hx1)).trans hx1; have hRv' := (Kd.R_reads' hRv).2; clear hRv)
    | (go_at_call 21; (with_reducible refine (Q.wear_Pick.calls k (fun k_ => k_ < w.heap.size) A1 c1 s0_0.2 Av cv (whichP s0_0.1 1) r1 r2 _ ?s1 ?s2 ?s3 hk).mono ?_); (case s1 => exact Kd.V_mk hC1 (Kd.F_below (Kd.C_F (Kd.heap_int .i64) hR1) hb')); (case s2 => exact hRv'.2); (case s3 => exact hRv'.1); rintro e w4 ⟨rfl, hb4⟩; have hb'' : Below w.heap.size w w4 := below_step hb' hb4))
  all_goals (go_wp2; go_ret2; exact ⟨by first | rfl | (simp; done) | (simp [*]; done), hb''⟩)
end

end Go.Proofs.Ytfgfjgjabcmheaa.M
