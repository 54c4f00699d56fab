/- The statement TaleKnown (its tied card): the Go law TaleKnown answers true. Its conditions: the nine listed variables of Go's library hold what their text lays (the card ties them to the text). -/
import Derived.Test.YthdmeffjiljdeaaDoorRows
import Derived.Test.YthdmeffjiljdeaaDoorCards
import Derived.Test.YthdmeffjiljdeaaDoorTie
import Derived.Test.YthdmeffjiljdeaaDoorGv
import Derived.Test.YthdmeffjiljdeaaDoorWalkKnown
import Derived.ShutString
namespace Go.Proofs.YthdmeffjiljdeaaDoor.taleKnown
open Go.ChangeShapes Go.WideShapes Go.ChangeAt Go.RowKit
open Go.ChangeMaps (open_string shut_string)
set_option linter.unusedVariables false
set_option maxRecDepth 100000 in
theorem lifted (os : Os) (started : os.Started) (H : Type) (enc : TypeId × Value → H) :
    ReturnsInHanded {} Tryd.checked os 4 .any (fun w args => (Rows.taleKnownSpec.pre enc Tryd.prog Tryd.f4 Rows.taleKnownRow.domain false w args ∧ laidMetH Tryd.prog M.laidL w) ∧ sizedMet enc Tryd.prog Tryd.f4 (OpenSpec.ofChange Rows.taleKnownSpec) false w args)
      (Rows.taleKnownSpec.post enc Tryd.prog Tryd.f4 false true false false) := by
  refine M.handed_shaped_and (C := Tryd.checked) (X := fun w _ => laidMetH Tryd.prog M.laidL w) (fun _ _ _ hh h => h.of_heap hh) M.own started (by kernel_rfl) Tryd.func4
    (ChangeSpec.witness_shaped (enc := enc) (C := Tryd.checked) (os := os) (X := fun w _ => laidMetH Tryd.prog M.laidL w) false (World.laidAll Tryd.prog os M.laidL) #[] 8 (World.laidAll_os _ _ _)
      (World.shaped_of_ZipB (by kernel_rfl) (by kernel_rfl)) (by kernel_rfl) (by kernel_rfl) (by kernel_rfl)
      (M.lay_met os _)) ?_
  intro W base args ds gs before hval0 hW hsh hL
  have hval : ∀ (j : Nat) t v, Tryd.f4.params[j]? = some t → args[j]? = some v → Value.okWide Tryd.prog W .any base t v := hval0
  have hW' := hW
  obtain ⟨p, q, hA0, hV, rfl, hfz, hnd⟩ := hW
  have hA : DataW.TrodAll enc Tryd.prog W 0 (fun _ => true) true Tryd.f4.params.toList args.toList ds p := hA0
  rw [Tryd.params4] at hA hval
  obtain ⟨rfl, rfl, rfl⟩ := trodAll_none hA
  obtain ⟨rfl, rfl⟩ := trodVars_none hV
  clear hA0 hval0
  rw [MakeChecks.laidMetH_plain _ _ _ (by kernel_rfl)] at hL
  refine (M.walkKnown W (M.gv_of_laid hsh hL)).mono fun e W' ⟨he, bel⟩ => ?_
  subst he
  exact ⟨_, rfl, _, _, _, [], _, [], hW', trodAll_mk1 (shut_bool Tryd.underlying4 _), trodAll_mk0, rfl, bel.out.frame _, fun h => by cases h⟩
theorem over : Rows.TaleKnownSaid :=
  OpenClaim.holds_of_wide 4 Tryd.f4 rfl rfl rfl rfl rfl rfl rfl ⟨rfl, rfl, rfl, rfl, rfl⟩ rfl rfl rfl rfl rfl (by kernel_rfl) Tryd.func4 (by kernel_rfl)
    (of_decide_eq_true (by kernel_rfl)) (by unfold Func.isWrapper; first | (rw [if_pos (by decide +kernel)]; kernel_rfl) | (rw [if_neg (by decide +kernel)]; exact ⟨rfl, rfl⟩))
    (fun os started H enc _ => lifted os started H enc)
end Go.Proofs.YthdmeffjiljdeaaDoor.taleKnown
namespace Go.Proofs.YthdmeffjiljdeaaDoor
theorem taleKnown_holds : Rows.TaleKnownCardSaid :=
  Claim7.holds_tied_plain_at .later [] [.data, .data, .data, .data, .sentinel, .sentinel, .listed, .data, .pinned] true (true, "10f5a3e5057ae4b51fa1cfc14df34cd1f21c04d0b8d9f04de887824221879e6a") true taleKnown.over (fun _ h => by cases h) (by kernel_rfl) (fun _ h => by cases h) taleKnown_row_tie rfl ⟨rfl, rfl⟩ (by kernel_rfl) rfl
    (fun f fn hf hfn => by
      obtain rfl : f = 4 := Option.some.inj ((show Tryd.prog.funcNamed "blackboard/blackboardlaw24.TaleKnown" = some 4 by kernel_rfl).symm.trans hf) |>.symm
      obtain rfl : fn = Tryd.f4 := (Option.some.inj (Tryd.func4.symm.trans hfn)).symm
      exact ⟨by kernel_rfl, fun j t ht => by
        rw [Tryd.params4] at ht
        simp at ht⟩)
    (by kernel_rfl)
#print axioms taleKnown_holds
end Go.Proofs.YthdmeffjiljdeaaDoor
