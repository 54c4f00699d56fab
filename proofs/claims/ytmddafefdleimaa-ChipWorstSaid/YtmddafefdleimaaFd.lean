/- Fates: the contracts of At and Left; by hand. -/
import Derived.Test.YtmddafefdleimaaFc
namespace Go.Proofs.Ytmddafefdleimaa.M
open Go.RowKit Go.Proofs.YtmddafefdleimaaW.PrintWords Go.Proofs.YtmddafefdleimaaW.PrintLast Go.Proofs.YtmddafefdleimaaW.PrintMore Go.Proofs.Ytmddafefdleimaa.Rw Go.Maps
set_option linter.unusedVariables false
set_option linter.unusedSimpArgs false
def lookF (l : List F) (n : Int) : F × Bool := match l.find? (fun x => x.1 == n) with
  | some x => (x, true)
  | none => ((0, 0, 0), false)
theorem look_has (l : List F) (n : Int) : has (DF l) (kF n) = (lookF l n).2 := by
  rw [has_DF]
  unfold lookF
  cases h : l.find? (fun x => x.1 == n) with
  | some x => exact List.any_eq_true.2 ⟨x, List.mem_of_find?_eq_some h, List.find?_some (p := fun x : F => x.1 == n) h⟩
  | none =>
    simp only
    rw [List.find?_eq_none] at h
    exact Bool.eq_false_iff.2 (fun q => by obtain ⟨x, hx, hq⟩ := List.any_eq_true.1 q; exact h x hx hq)
theorem look_at {l : List F} (ha : Apart l) (n : Int) : (DF l).atKey (kF n) (datum (0, 0, 0)) = datum (lookF l n).1 := by
  unfold lookF
  cases h : l.find? (fun x => x.1 == n) with
  | some x =>
    have h2 : x.1 = n := eq_of_beq (List.find?_some (p := fun x : F => x.1 == n) h)
    simp only
    rw [← h2]; exact at_DF ha _ (List.mem_of_find?_eq_some h)
  | none =>
    simp only
    rw [List.find?_eq_none] at h
    exact at_DF_none _ (fun x hx e => h x hx (by simp [e]))
theorem IsF.lt {w0 w : World} {g : Nat} {l : List F} (h : IsF w0 w g l) : g < w.heap.size := by
  obtain ⟨_, _, b, h3, _⟩ := h
  exact blk_lt h3
set_option maxHeartbeats 1600000 in
theorem atFC {w0 w : World} {g : Nat} {l : List F} (hI : IsF w0 w g l) (n : Int) (hn : (Lit.int .i64 n).wf = true) (x : F) (ok : Bool) (hx : lookF l n = (x, ok)) :
    Calls Try.prog 49 #[.pointer (some ⟨g, 0, none⟩), .int .i64 n] w fun e w' => e = .returned (.tuple #[encF x, .bool ok]) ∧ Below w.heap.size w w' := by
  have hlt := hI.lt
  obtain ⟨hA, hl, b, hg, ho, hb0, hb1⟩ := hI
  have hh := look_has l n
  have hat := look_at hA n
  rw [hx] at hh hat
  have HH := Aside0.mk hh
  have HAt := Aside0.mk hat
  have HO := Aside0.mk ho
  have hg0 : w.cell? ⟨g, 0, none⟩ = some (.map (some b)) := (blk_cell hg 0).trans rfl
  clear hh hat ho hA hx hg
  go_enter Try.func49, Try.ntmps49
  go_wp2_with (at_lookup; refine wpList_lookup_own_ok _ rfl _ _ 91 rfl 3 42 K3 Try.underlying91 fateElem (zero42 _) (datum (0, 0, 0)) [] (fateElem_mk _) b l.length (DF l) rfl (HO.out.alloc _) _ (kF n) rfl (key3 hn) ?_; intro v ps hv; rw [HAt.out] at hv; rw [HH.out]; obtain ⟨x', ev, hx'⟩ := fateElem_inv hv; injection hx' with hx1 hx2; have hx3 := datum_inj hx1; subst hx3; subst ev; clear hx1 hx2 hv; unfold encF)
  exact bodyPost_ret (v := .tuple #[encF x, .bool ok]) (by simp [results, Try.results9, go_sem, encF]) rfl ⟨rfl, below_alloc (below_alloc (Below.refl _ _) _) _⟩
end Go.Proofs.Ytmddafefdleimaa.M
