/- The statement TaleParts (its tied card): the Go law TaleParts answers true at every input. Its conditions: the nine listed variables of Go's library hold what their text lays (the card ties them to the text). -/
import Derived.Test.YthdmeffjiljdeaaDoorRows
import Derived.Test.YthdmeffjiljdeaaDoorCards
import Derived.Test.YthdmeffjiljdeaaDoorTie
import Derived.Test.YthdmeffjiljdeaaDoorGv
import Derived.Test.YthdmeffjiljdeaaDoorWalkParts
import Derived.ShutString
namespace Go.Proofs.YthdmeffjiljdeaaDoor.taleParts
open Go.ChangeShapes Go.WideShapes Go.ChangeAt Go.RowKit
open Go.ChangeMaps (open_string shut_string)
set_option linter.unusedVariables false
set_option maxRecDepth 100000 in
theorem lifted (os : Os) (started : os.Started) (H : Type) (enc : TypeId × Value → H) :
    ReturnsInHanded {} Tryd.checked os 5 .any (fun w args => (Rows.talePartsSpec.pre enc Tryd.prog Tryd.f5 Rows.talePartsRow.domain false w args ∧ laidMetH Tryd.prog M.laidL w) ∧ sizedMet enc Tryd.prog Tryd.f5 (OpenSpec.ofChange Rows.talePartsSpec) false w args)
      (Rows.talePartsSpec.post enc Tryd.prog Tryd.f5 false true false false) := by
  refine M.handed_shaped_and (C := Tryd.checked) (X := fun w _ => laidMetH Tryd.prog M.laidL w) (fun _ _ _ hh h => h.of_heap hh) M.own started (by kernel_rfl) Tryd.func5
    (ChangeSpec.witness_shaped (enc := enc) (C := Tryd.checked) (os := os) (X := fun w _ => laidMetH Tryd.prog M.laidL w) false (World.laidAll Tryd.prog os M.laidL) #[.int .i16 0, .int .i16 0, .bool false] 8 (World.laidAll_os _ _ _)
      (World.shaped_of_ZipB (by kernel_rfl) (by kernel_rfl)) (by kernel_rfl) (by kernel_rfl) (by kernel_rfl)
      (M.lay_met os _)) ?_
  intro W base args ds gs before hval0 hW hsh hL
  have hval : ∀ (j : Nat) t v, Tryd.f5.params[j]? = some t → args[j]? = some v → Value.okWide Tryd.prog W .any base t v := hval0
  have hW' := hW
  obtain ⟨p, q, hA0, hV, rfl, hfz, hnd⟩ := hW
  have hA : DataW.TrodAll enc Tryd.prog W 0 (fun _ => true) true Tryd.f5.params.toList args.toList ds p := hA0
  rw [Tryd.params5] at hA hval
  obtain ⟨v0, v1, v2, d0, d1, d2, p0, p1, p2, rfl, rfl, rfl, h0, h1, h2⟩ := trodAll_three hA
  obtain ⟨rfl, rfl⟩ := trodVars_none hV
  obtain ⟨a, rfl, rfl, rfl, wa⟩ := open_int Tryd.underlying34 (hval 0 34 v0 rfl rfl) h0
  obtain ⟨b, rfl, rfl, rfl, wb⟩ := open_int Tryd.underlying34 (hval 1 34 v1 rfl rfl) h1
  obtain ⟨neg, rfl, rfl, rfl⟩ := open_bool Tryd.underlying4 (hval 2 4 v2 rfl rfl) h2
  have ha : -32768 ≤ a ∧ a ≤ 32767 := by
    have e1 : IntKind.i16.min = -32768 := rfl
    have e2 : IntKind.i16.max = 32767 := rfl
    simp [Lit.wf, e1, e2] at wa
    omega
  have hb : -32768 ≤ b ∧ b ≤ 32767 := by
    have e1 : IntKind.i16.min = -32768 := rfl
    have e2 : IntKind.i16.max = 32767 := rfl
    simp [Lit.wf, e1, e2] at wb
    omega
  clear hA0 hval0
  rw [MakeChecks.laidMetH_plain _ _ _ (by kernel_rfl)] at hL
  refine (M.walkParts a b neg ha hb W (M.gv_of_laid hsh hL)).mono fun e W' ⟨he, bel⟩ => ?_
  subst he
  exact ⟨_, rfl, _, _, _, [], _, [], hW', trodAll_mk1 (shut_bool Tryd.underlying4 _), trodAll_mk3 (shut_int Tryd.underlying34 wa) (shut_int Tryd.underlying34 wb) (shut_bool Tryd.underlying4 _), rfl, bel.out.frame _, fun h => by cases h⟩
theorem over : Rows.TalePartsSaid :=
  OpenClaim.holds_of_wide 5 Tryd.f5 rfl rfl rfl rfl rfl rfl rfl ⟨rfl, rfl, rfl, rfl, rfl⟩ rfl rfl rfl rfl rfl (by kernel_rfl) Tryd.func5 (by kernel_rfl)
    (of_decide_eq_true (by kernel_rfl)) (by unfold Func.isWrapper; first | (rw [if_pos (by decide +kernel)]; kernel_rfl) | (rw [if_neg (by decide +kernel)]; exact ⟨rfl, rfl⟩))
    (fun os started H enc _ => lifted os started H enc)
end Go.Proofs.YthdmeffjiljdeaaDoor.taleParts
namespace Go.Proofs.YthdmeffjiljdeaaDoor
theorem taleParts_holds : Rows.TalePartsCardSaid :=
  Claim7.holds_tied_plain_at .later [] [.data, .data, .data, .data, .sentinel, .sentinel, .listed, .data, .pinned] true (true, "10f5a3e5057ae4b51fa1cfc14df34cd1f21c04d0b8d9f04de887824221879e6a") true taleParts.over (fun _ h => by cases h) (by kernel_rfl) (fun _ h => by cases h) taleParts_row_tie rfl ⟨rfl, rfl⟩ (by kernel_rfl) rfl
    (fun f fn hf hfn => by
      obtain rfl : f = 5 := Option.some.inj ((show Tryd.prog.funcNamed "blackboard/blackboardlaw24.TaleParts" = some 5 by kernel_rfl).symm.trans hf) |>.symm
      obtain rfl : fn = Tryd.f5 := (Option.some.inj (Tryd.func5.symm.trans hfn)).symm
      exact ⟨by kernel_rfl, fun j t ht => by
        rw [Tryd.params5] at ht
        have hm : t ∈ [34, 34, 4] := by simpa using Array.mem_of_getElem? ht
        have hall : ([34, 34, 4].all fun u => !Tryd.prog.wantsStandIn u) = true := by kernel_rfl
        exact (show Tryd.prog.wantsStandIn t = false by simpa using List.all_eq_true.1 hall t hm)⟩)
    (by kernel_rfl)
#print axioms taleParts_holds
end Go.Proofs.YthdmeffjiljdeaaDoor
