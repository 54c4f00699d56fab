/- Rows of a call's own as blocks that are known whole: reading, writing, what keeps them. Ours. -/
import Derived.Test.YthdmeffjiljdeaaDoorWMore
import Derived.Test.YthdmeffjiljdeaaDoorWLast
namespace Go.Proofs.YthdmeffjiljdeaaDoor.Rw
open Go.RowKit Go.Proofs.YthdmeffjiljdeaaDoorW.PrintWords Go.Proofs.YthdmeffjiljdeaaDoorW.PrintLast Go.Proofs.YthdmeffjiljdeaaDoorW.PrintMore
set_option linter.unusedVariables false
/-- block q is a row of these values and nothing else -/
def Row {α : Type} (enc : α → Value) (t : TypeId) (W : World) (q : Nat) (xs : List α) : Prop := W.heap[q]? = some (.cells (xs.map enc).toArray t (0, 0))
section
variable {α : Type} {enc : α → Value} {t : TypeId} {W : World} {q : Nat} {xs : List α}
theorem Row.cell (h : Row enc t W q xs) (i : Nat) (hi : i < xs.length) : W.cell? ⟨q, i, none⟩ = some (enc xs[i]) := by
  rw [blk_cell h i]; simp [hi]
theorem Row.cellD (h : Row enc t W q xs) (d : α) (i : Nat) (hi : i < xs.length) : W.cell? ⟨q, i, none⟩ = some (enc (xs.getD i d)) := by
  rw [h.cell i hi, List.getD_eq_getElem?_getD, List.getElem?_eq_getElem hi]; rfl
theorem Row.frozen (h : Row enc t W q xs) (i : Nat) : W.frozen? ⟨q, i, none⟩ = false := blk_frozen h i
theorem Row.lt (h : Row enc t W q xs) : q < W.heap.size := blk_lt h
theorem Row.set (h : Row enc t W q xs) (i : Nat) (x : α) : Row enc t (W.setCell ⟨q, i, none⟩ (enc x)) q (xs.set i x) := by
  refine blk_put h i (enc x) ?_
  apply Array.ext
  · simp
  · intro j h1 h2
    simp [List.getElem_set]
theorem Row.far (h : Row enc t W q xs) {p : Addr} (hp : q ≠ p.block) (u : Value) : Row enc t (W.setCell p u) q xs := blk_far h hp u
theorem Row.below {W1 : World} (h : Row enc t W q xs) (hb : Below W.heap.size W W1) : Row enc t W1 q xs := blk_below h hb
theorem Row.alloc (h : Row enc t W q xs) (o : Obj) : Row enc t (W.alloc o) q xs := blk_alloc h o
theorem Row.drewN (h : Row enc t W q xs) (n : Nat) : Row enc t (W.drewN n) q xs := blk_drewN h n
theorem Row.drew (h : Row enc t W q xs) : Row enc t W.drew q xs := blk_drew h
end
/-- what 'make' of a row lays -/
theorem made_row {α : Type} {enc : α → Value} {t : TypeId} (W : World) (n : Nat) (x : α) : Row enc t (W.alloc (.cells (Array.replicate n (enc x)) t (0, 0))) W.heap.size (List.replicate n x) := by
  have := blk_new W (.cells (Array.replicate n (enc x)) t (0, 0))
  simpa [Row] using this
theorem mk_row {P : Program} {t e : TypeId} {z : Value} {bytes : Nat} (hu : P.underlying t = some (.slice e)) (hinfo : (P.info? e).map (fun i => (i.zero, i.size, i.bytes)) = some (some z, 1, bytes)) (hz : z.cells = #[z]) (n : Nat) (h1 : n * bytes ≤ 281474976710656) (h2 : n ≤ 281474976710656) (W : World) :
    (Instr.makeSlice t (.int .i64 (n : Int)) (.int .i64 (n : Int))).run P W = .ok (.slice (some ⟨W.heap.size, 0, none⟩) n n) (W.alloc (.cells (Array.replicate n z) e (0, 0))) := by
  obtain ⟨i0, hi, hzz⟩ := Option.map_eq_some_iff.1 hinfo
  simp only [Prod.mk.injEq] at hzz
  obtain ⟨hz0, hz1, hz2⟩ := hzz
  have hr := run_make (P := P) W t e i0 z hu hi hz0 .i64 .i64 n n (by omega) (by omega) (by rw [hz2, ← Int.natCast_mul, Nat.mul_comm]; omega) (by omega)
  rw [hz1] at hr
  rw [hr]
  have e : madeCells z.cells (n * 1) = Array.replicate n z := by
    unfold madeCells
    rw [hz]
    apply Array.ext
    · simp
    · intro i h1 h2; simp [Nat.mod_one]
  simp only [Int.toNat_natCast, e]
theorem at_pair {w : World} {A : Option Addr} {n : Nat} {k1 k2 : IntKind} {xs : List (Int × Int)} (h : Kd.C (Kd.pair (Kd.int k1) (Kd.int k2)) w A n xs) (i : Nat) (hi : i < n) :
    ∃ ad, A = some ad ∧ w.cell? (ad.add (i * 2)) = some (.int k1 (xs.getD i (0, 0)).1) ∧ w.cell? ⟨(ad.add (i * 2)).block, (ad.add (i * 2)).off + 1, none⟩ = some (.int k2 (xs.getD i (0, 0)).2) := by
  obtain ⟨ad, c, hA, hc, ⟨c0, c1, rfl, h0, h1⟩, hcell⟩ := ReadsRow.get_ h (0, 0) (i : Int) (by omega) (by omega)
  rw [Int.toNat_natCast] at h0 h1 hcell
  have h0 : c0 = [Value.int k1 (xs.getD i (0, 0)).1] := h0
  have h1 : c1 = [Value.int k2 (xs.getD i (0, 0)).2] := h1
  subst h0 h1
  exact ⟨ad, hA, hcell 0 _ rfl, by have h_ := hcell 1 _ rfl; rw [← Addr.add_add] at h_; exact h_⟩
theorem at_tri {w : World} {A : Option Addr} {n : Nat} {k1 k2 k3 : IntKind} {xs : List (Int × Int × Int)} (h : Kd.C (Kd.pair (Kd.int k1) (Kd.pair (Kd.int k2) (Kd.int k3))) w A n xs) (i : Nat) (hi : i < n) :
    ∃ ad, A = some ad ∧ w.cell? (ad.add (i * 3)) = some (.int k1 (xs.getD i (0, 0, 0)).1) ∧ w.cell? ⟨(ad.add (i * 3)).block, (ad.add (i * 3)).off + 1, none⟩ = some (.int k2 (xs.getD i (0, 0, 0)).2.1) ∧ w.cell? ⟨(ad.add (i * 3)).block, (ad.add (i * 3)).off + 2, none⟩ = some (.int k3 (xs.getD i (0, 0, 0)).2.2) := by
  obtain ⟨ad, c, hA, hc, ⟨c0, c1, rfl, h0, c2, c3, rfl, h1, h2⟩, hcell⟩ := ReadsRow.get_ h (0, 0, 0) (i : Int) (by omega) (by omega)
  rw [Int.toNat_natCast] at h0 h1 h2 hcell
  have h0 : c0 = [Value.int k1 (xs.getD i (0, 0, 0)).1] := h0
  have h1 : c2 = [Value.int k2 (xs.getD i (0, 0, 0)).2.1] := h1
  have h2 : c3 = [Value.int k3 (xs.getD i (0, 0, 0)).2.2] := h2
  subst h0 h1 h2
  exact ⟨ad, hA, hcell 0 _ rfl, by have h_ := hcell 1 _ rfl; rw [← Addr.add_add] at h_; exact h_, by have h_ := hcell 2 _ rfl; rw [← Addr.add_add] at h_; exact h_⟩
theorem at_num {w : World} {A : Option Addr} {n : Nat} {k : IntKind} {xs : List Int} (h : Kd.C (Kd.int k) w A n xs) (i : Nat) (hi : i < n) : ∃ ad, A = some ad ∧ w.cell? (ad.add i) = some (.int k (xs.getD i 0)) := by
  obtain ⟨ad, hA, hc⟩ := Kd.at_int h (i : Int) (by omega) (by omega)
  rw [Int.toNat_natCast] at hc
  exact ⟨ad, hA, by simpa [rd] using hc⟩
theorem mem_getD {α : Type} {xs : List α} {i : Nat} (d : α) (hi : i < xs.length) : xs.getD i d ∈ xs := by
  rw [List.getD_eq_getElem?_getD, List.getElem?_eq_getElem hi]; exact List.getElem_mem _
end Go.Proofs.YthdmeffjiljdeaaDoor.Rw
