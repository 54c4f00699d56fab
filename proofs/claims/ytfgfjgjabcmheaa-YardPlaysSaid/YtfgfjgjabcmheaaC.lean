/- The state's methods, told as the laws' walks use them; the document's example. By hand. -/
import Derived.Test.YtfgfjgjabcmheaaN
namespace Go.Proofs.Ytfgfjgjabcmheaa.M
open Go.RowKit Go.Proofs.YtfgfjgjabcmheaaW.PrintWords Go.Proofs.YtfgfjgjabcmheaaW.PrintLast Go.Proofs.YtfgfjgjabcmheaaW.PrintMore
set_option linter.unusedVariables false
set_option linter.unusedSimpArgs false
/-- the state at block g, and all else as it was when the call began -/
structure St (w0 W : World) (g : Nat) (y : Y) : Prop where mk_ ::
  is : IsS46 w0 W g y
  bel : Below w0.heap.size w0 W
theorem St.alloc {w0 W : World} {g : Nat} {y : Y} (h : St w0 W g y) (o : Obj) : St w0 (W.alloc o) g y := ⟨h.is.alloc o, below_alloc h.bel o⟩
theorem St.drewN {w0 W : World} {g : Nat} {y : Y} (h : St w0 W g y) (m : Nat) : St w0 (W.drewN m) g y := ⟨h.is.drewN m, pw_below_drewN h.bel m⟩
theorem St.drew {w0 W : World} {g : Nat} {y : Y} (h : St w0 W g y) : St w0 W.drew g y := ⟨h.is.drew, below_drew1 h.bel⟩
theorem St.below {w0 W W1 : World} {g : Nat} {y : Y} (h : St w0 W g y) (hb : Below W.heap.size W W1) : St w0 W1 g y := ⟨h.is.below hb, below_step h.bel hb⟩
def turnF (y : Y) (b s : Int) : Bool × Y := if (thereB y.1 b && mayB (rd y.1 b) s) = true then (true, (y.1.set b.toNat s, y.2)) else (false, y)
def erasedF (y : Y) (b : Int) : Y := if thereB y.1 b = true then (y.1, y.2.set b.toNat (wrap64 (rd y.2 b + 1))) else y
def stateF (y : Y) (b : Int) : Int := if thereB y.1 b then rd y.1 b else 0
def erasesF (y : Y) (b : Int) : Int := if thereB y.1 b then rd y.2 b else 0
def newY (n : Nat) : Y := (List.replicate n 1, List.replicate n 0)
theorem newC (n : Nat) (a0 : Int) (w : World) (hn : newN a0 = n) : Calls Try.prog 9 #[.int .i64 a0] w fun e w' => ∃ g, e = .returned (.pointer (some ⟨g, 0, none⟩)) ∧ St w w' g (newY n) := by
  subst hn
  exact (yard_New.calls a0 w).mono fun e w' ⟨g, he, hI, hB⟩ => ⟨g, he, hI, hB⟩
/-- the same, of a call that began at w0 -/
theorem newC0 {w0 : World} (n : Nat) (a0 : Int) (w : World) (hb : Below w0.heap.size w0 w) (hn : newN a0 = n) : Calls Try.prog 9 #[.int .i64 a0] w fun e w' => ∃ g, e = .returned (.pointer (some ⟨g, 0, none⟩)) ∧ St w0 w' g (newY n) ∧ w.heap.size ≤ g ∧ Below w.heap.size w w' := by
  refine (newC n a0 w hn).mono fun e w' ⟨g, he, hS⟩ => ⟨g, he, ⟨?_, below_step hb hS.bel⟩, hS.is.ge, hS.bel⟩
  obtain ⟨hl, A0, c0, A1, c1, h1, hg, h2, h3⟩ := hS.is
  have hs : w0.heap.size ≤ w.heap.size := hb.size
  exact ⟨hl, A0, c0, A1, c1, h1, Nat.le_trans hs hg, Kd.R_lower h2 hs, Kd.R_lower h3 hs⟩
section
variable {w0 w : World} {g : Nat} {y : Y} (hS : Aside0 (St w0 w g y))
include hS
theorem turnC (b s : Int) (r : Bool) (y' : Y) (h : turnF y b s = (r, y')) : Calls Try.prog 10 #[.pointer (some ⟨g, 0, none⟩), .int .i64 b, .int .i64 s] w fun e w' => e = .returned (.bool r) ∧ Aside0 (St w0 w' g y') ∧ Aside0 (KeepUp w w' g) :=
  (yard_Yard_Turn.calls g y w0 w hS.out.is hS.out.bel b s r y' (by unfold yard_Yard_Turn.f; exact congrArg some h)).mono fun e w' ⟨he, hI, hB, hK⟩ => ⟨he, ⟨hI, hB⟩, ⟨hK⟩⟩
theorem erasedC (b : Int) (y' : Y) (h : erasedF y b = y') : Calls Try.prog 14 #[.pointer (some ⟨g, 0, none⟩), .int .i64 b] w fun e w' => e = .returned (.tuple #[]) ∧ Aside0 (St w0 w' g y') ∧ Aside0 (KeepUp w w' g) :=
  (yard_Yard_Erased.calls g y w0 w hS.out.is hS.out.bel b y' (by unfold yard_Yard_Erased.f; exact congrArg some h)).mono fun e w' ⟨he, hI, hB, hK⟩ => ⟨he, ⟨hI, hB⟩, ⟨hK⟩⟩
theorem stateC (b r : Int) (h : stateF y b = r) : Calls Try.prog 13 #[.pointer (some ⟨g, 0, none⟩), .int .i64 b] w fun e w' => e = .returned (.int .i64 r) ∧ Drawn0 w w' := by
  subst h
  obtain ⟨A0, c0, A1, c1, hx0, hx1, hR0, hC0, hR1, hC1⟩ := hS.out.is.reads
  exact state_rows g A0 c0 _ b w hx0 hR0
theorem erasesC (b r : Int) (h : erasesF y b = r) : Calls Try.prog 16 #[.pointer (some ⟨g, 0, none⟩), .int .i64 b] w fun e w' => e = .returned (.int .i64 r) ∧ Drawn0 w w' := by
  subst h
  obtain ⟨A0, c0, A1, c1, hx0, hx1, hR0, hC0, hR1, hC1⟩ := hS.out.is.reads
  exact erases_rows g A0 c0 _ A1 c1 _ b w hx0 hx1 hS.out.is.1.2 hR1
theorem pickC (r1 : Int) (r2 : Bool) (h : pickP y = (r1, r2)) : Calls Try.prog 12 #[.pointer (some ⟨g, 0, none⟩)] w fun e w' => e = .returned (.tuple #[.int .i64 r1, .bool r2]) ∧ Aside0 (St w0 w' g y) ∧ Aside0 (KeepUp w w' g) :=
  (yard_Yard_Pick.calls g y w0 w hS.out.is hS.out.bel r1 r2 y (by unfold yard_Yard_Pick.f; rw [h])).mono fun e w' ⟨he, hI, hB, hK⟩ => ⟨he, ⟨hI, hB⟩, ⟨hK⟩⟩
theorem countC (s r : Int) (h : ((lstP y.1 s).length : Int) = r) : Calls Try.prog 11 #[.pointer (some ⟨g, 0, none⟩), .int .i64 s] w fun e w' => e = .returned (.int .i64 r) ∧ Aside0 (St w0 w' g y) ∧ Aside0 (KeepUp w w' g) :=
  (yard_Yard_Count.calls g y w0 w hS.out.is hS.out.bel s r y (by unfold yard_Yard_Count.f; rw [h])).mono fun e w' ⟨he, hI, hB, hK⟩ => ⟨he, ⟨hI, hB⟩, ⟨hK⟩⟩
theorem listC (s : Int) : Calls Try.prog 18 #[.pointer (some ⟨g, 0, none⟩), .int .i64 s] w fun e w' => ∃ v : Value, e = .returned v ∧ Aside0 (Kd.R (Kd.int .i64) 3 w' w.heap.size (fun _ => True) v (lstP y.1 s)) ∧ Aside0 (St w0 w' g y) ∧ Aside0 (KeepUp w w' g) :=
  (yard_Yard_List.calls g y w0 w hS.out.is hS.out.bel s _ y rfl).mono fun e w' ⟨v, he, hv, hI, hB, hK⟩ => ⟨v, he, ⟨hv⟩, ⟨hI, hB⟩, ⟨hK⟩⟩
end
set_option maxHeartbeats 800000 in
theorem awakeC (w : World) : Calls Try.prog 8 #[] w fun e w' => e = .returned (.bool true) ∧ Below w.heap.size w w' := by
  have hp : pickP ([2, 1, 1, 1], [0, 0, 0, 0]) = (1, true) := by decide +kernel
  have hc : ((lstP [2, 1, 1, 1] 1).length : Int) = 3 := by decide +kernel
  have HP := Aside0.mk hp
  have HC := Aside0.mk hc
  clear hp hc
  go_enter Try.func8, Try.ntmps8
  go_wp2_with (first
    | (go_at_call 9; (refine (newC 4 4 _ (by decide +kernel)).mono ?_); rintro e w1 ⟨g, rfl, hS⟩; have HS : Aside0 (St w w1 g ([1, 1, 1, 1], [0, 0, 0, 0])) := Aside0.mk hS; clear hS)
    | (go_at_call 10; (refine (turnC HS _ _ _ _ (by first | exact (by rfl : turnF ([1, 1, 1, 1], [0, 0, 0, 0]) 0 3 = (false, ([1, 1, 1, 1], [0, 0, 0, 0]))) | exact (by rfl : turnF ([1, 1, 1, 1], [0, 0, 0, 0]) 0 2 = (true, ([2, 1, 1, 1], [0, 0, 0, 0]))))).mono ?_); rintro e w2 ⟨rfl, HS1, -⟩; clear HS; have HS := HS1; clear HS1)
    | (go_at_call 12; (refine (pickC HS _ _ HP.out).mono ?_); rintro e w3 ⟨rfl, HS1, -⟩; clear HS; have HS := HS1; clear HS1)
    | (go_at_call 13; (refine (stateC HS _ 2 (by rfl)).mono ?_); rintro e w4 ⟨rfl, ⟨nd, rfl⟩⟩; have HS1 := Aside0.mk (HS.out.drewN nd); clear HS; have HS := HS1; clear HS1)
    | (go_at_call 11; (refine (countC HS _ 3 HC.out).mono ?_); rintro e w5 ⟨rfl, HS1, -⟩; clear HS; have HS := HS1; clear HS1))
  go_ret
  exact ⟨by first | rfl | (simp; done), HS.out.bel⟩
end Go.Proofs.Ytfgfjgjabcmheaa.M
