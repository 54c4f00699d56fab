/- The document's own FateMay; the document's example. By hand. -/
import Derived.Test.YtmddafefdleimaaFd
namespace Go.Proofs.Ytmddafefdleimaa.M
open Go.RowKit Go.Proofs.YtmddafefdleimaaW.PrintWords Go.Proofs.YtmddafefdleimaaW.PrintLast Go.Proofs.YtmddafefdleimaaW.PrintMore Go.Proofs.Ytmddafefdleimaa.Rw Go.Maps
set_option linter.unusedVariables false
set_option linter.unusedSimpArgs false
theorem takeF_snoc (l : List F) (i : Nat) (h : i < l.length) (x : F) (hx : l.getD i (0, 0, 0) = x) : l.take (i + 1) = l.take i ++ [x] := by
  rw [List.take_succ_eq_append_getElem h]
  have : l[i] = x := by rw [← hx, List.getD_eq_getElem?_getD, List.getElem?_eq_getElem h]; rfl
  rw [this]
/-- a row of fates' cells -/
def cellsF (l : List F) : List Value := l.flatMap (fun x => [.int .i64 x.1, .int .i64 x.2.1, .int .i64 x.2.2])
theorem cellsF_at : ∀ (l : List F) (j i : Nat) (x : F), l[j]? = some x → i < 3 → (cellsF l)[j * 3 + i]? = [Value.int .i64 x.1, .int .i64 x.2.1, .int .i64 x.2.2][i]?
  | [], j, i, x, h, hi => by simp at h
  | y :: l, 0, i, x, h, hi => by
    have : y = x := by simpa using h
    subst this
    rw [Nat.zero_mul, Nat.zero_add]
    show ([Value.int .i64 y.1, .int .i64 y.2.1, .int .i64 y.2.2] ++ cellsF l)[i]? = _
    rw [List.getElem?_append_left (by simpa using hi)]
  | y :: l, j + 1, i, x, h, hi => by
    have h' : l[j]? = some x := by simpa using h
    show ([Value.int .i64 y.1, .int .i64 y.2.1, .int .i64 y.2.2] ++ cellsF l)[(j + 1) * 3 + i]? = _
    rw [List.getElem?_append_right (by simp; omega)]
    rw [show (j + 1) * 3 + i - [Value.int .i64 y.1, .int .i64 y.2.1, .int .i64 y.2.2].length = j * 3 + i from by simp; omega]
    exact cellsF_at l j i x h' hi
theorem C_of_blockF {w : World} {q : Nat} {l : List F} (h : w.heap[q]? = some (.cells (cellsF l).toArray 42 (0, 0))) (hm : l.length ≤ 9223372036854775807) : Kd.C (Kd.pair (Kd.int .i64) (Kd.pair (Kd.int .i64) (Kd.int .i64))) w (some ⟨q, 0, none⟩) l.length l := by
  refine ⟨rfl, hm, fun _ => ⟨⟨q, 0, none⟩, rfl, fun j x hx => ⟨[.int .i64 x.1, .int .i64 x.2.1, .int .i64 x.2.2], rfl, ⟨[.int .i64 x.1], [.int .i64 x.2.1, .int .i64 x.2.2], rfl, rfl, [.int .i64 x.2.1], [.int .i64 x.2.2], rfl, rfl, rfl⟩, fun i u hu => ?_⟩⟩⟩
  have hi : i < 3 := (List.getElem?_eq_some_iff.1 hu).1
  have := cellsF_at l j i x hx hi
  rw [hu] at this
  have hc := blk_cell h (j * 3 + i)
  have e : Addr.add ⟨q, 0, none⟩ (j * 3 + i) = ⟨q, j * 3 + i, none⟩ := by
    unfold Addr.add
    split
    · rename_i h0; rw [h0]
    · simp
  have e2 : (j * (Kd.pair (Kd.int IntKind.i64) (Kd.pair (Kd.int IntKind.i64) (Kd.int IntKind.i64))).sz + i) = j * 3 + i := rfl
  rw [e2, e, hc]
  simpa using this
abbrev Tri := Kd.pair (Kd.int .i64) (Kd.pair (Kd.int .i64) (Kd.int .i64))
theorem newYes (A0 : Option Addr) (c0 : Nat) (l : List F) (w : World) (hR : Kd.C Tri w A0 l.length l) (hc : l.length ≤ c0) (hok : OkF l) :
    Calls Try.prog 29 #[.slice A0 l.length c0] w fun e w' => ∃ g, e = .returned (.tuple #[.pointer (some ⟨g, 0, none⟩), .int .i64 0]) ∧ Aside0 (IsF w w' g l) ∧ Aside0 (Below w.heap.size w w') :=
  (newFC A0 c0 l w hR hc (by have := hok.1; omega)).mono fun e w' h => by
    obtain ⟨hb, ⟨-, g, he, hI⟩ | ⟨hn, -⟩⟩ := h
    · exact ⟨g, he, ⟨hI⟩, ⟨hb⟩⟩
    · exact absurd hok hn
theorem newNo (A0 : Option Addr) (c0 : Nat) (l : List F) (w : World) (hR : Kd.C Tri w A0 l.length l) (hc : l.length ≤ c0) (hm : l.length ≤ 9223372036854775807) (hok : ¬ OkF l) :
    Calls Try.prog 29 #[.slice A0 l.length c0] w fun e w' => e = .returned (.tuple #[.pointer none, .int .i64 1]) ∧ Aside0 (Below w.heap.size w w') :=
  (newFC A0 c0 l w hR hc hm).mono fun e w' h => by
    obtain ⟨hb, ⟨hn, -⟩ | ⟨-, he⟩⟩ := h
    · exact absurd hn hok
    · exact ⟨he, ⟨hb⟩⟩
theorem wf3 {n : Int} (h : -1000 ≤ n) (h2 : n ≤ 1000) : (Lit.int .i64 n).wf = true := Go.WalkArith.wf_i64 ⟨by omega, by omega⟩
/-- the fates at block g; all else as it was when the call began -/
structure FS (w W : World) (g : Nat) (l : List F) : Prop where
  is : ∃ w0, IsF w0 W g l
  bel : Below w.heap.size w W
theorem FS.below {w W W1 : World} {g : Nat} {l : List F} (h : FS w W g l) (hb : Below W.heap.size W W1) : FS w W1 g l := ⟨let ⟨w0, h0⟩ := h.is; ⟨w0, h0.below hb⟩, below_step h.bel hb⟩
theorem FS.alloc {w W : World} {g : Nat} {l : List F} (h : FS w W g l) (o : Obj) : FS w (W.alloc o) g l := h.below (below_alloc (Below.refl _ _) o)
theorem FS.drewN {w W : World} {g : Nat} {l : List F} (h : FS w W g l) (n : Nat) : FS w (W.drewN n) g l := h.below (pw_below_drewN (Below.refl _ _) n)
theorem newS {w : World} (A0 : Option Addr) (c0 : Nat) (l : List F) (W : World) (hW : Below w.heap.size w W) (hR : Kd.C Tri W A0 l.length l) (hc : l.length ≤ c0) (hok : OkF l) :
    Calls Try.prog 29 #[.slice A0 l.length c0] W fun e w' => ∃ g, e = .returned (.tuple #[.pointer (some ⟨g, 0, none⟩), .int .i64 0]) ∧ Aside0 (FS w w' g l) ∧ Aside0 (Below W.heap.size W w') :=
  (newYes A0 c0 l W hR hc hok).mono fun e w' ⟨g, he, hI, hb⟩ => ⟨g, he, ⟨⟨⟨W, hI.out⟩, below_step hW hb.out⟩⟩, hb⟩
theorem atS {w W : World} {g : Nat} {l : List F} (hS : Aside0 (FS w W g l)) (n : Int) (hn : (Lit.int .i64 n).wf = true) (x : F) (ok : Bool) (hx : lookF l n = (x, ok)) :
    Calls Try.prog 49 #[.pointer (some ⟨g, 0, none⟩), .int .i64 n] W fun e w' => e = .returned (.tuple #[.agg #[.int .i64 x.1, .int .i64 x.2.1, .int .i64 x.2.2], .bool ok]) ∧ Aside0 (Below W.heap.size W w') := by
  obtain ⟨w0, hI⟩ := hS.out.is
  exact (atFC hI n hn x ok hx).mono fun e w' ⟨he, hb⟩ => ⟨he, ⟨hb⟩⟩
end Go.Proofs.Ytmddafefdleimaa.M
