/- The statement FateOrders: the Go law FateOrders answers true at every input, and each argument reads afterwards as it did. No condition of ours. -/
import Derived.Test.YtopajgpepmocfaaRows
import Derived.Test.YtopajgpepmocfaaWOpn
import Derived.Test.YtopajgpepmocfaaWalkOrders
import Derived.WalkKit
import Derived.ProofKit
import Derived.OpenShut
import Derived.ShutString
import Derived.ChangeOld
import Derived.Below
import Derived.SizedLaws
namespace Go.Proofs.Ytopajgpepmocfaa.fateOrders
open Go.ChangeShapes Go.WideShapes Go.ChangeAt Go.RowKit
open Go.Proofs.YtopajgpepmocfaaW Go.Proofs.YtopajgpepmocfaaW.PrintWords Go.Proofs.YtopajgpepmocfaaW.Opn
open Go.ChangeMaps (open_string shut_string)
set_option linter.unusedVariables false
theorem own : ownKnob Try.prog.godebug = none := by kernel_rfl
theorem laidOut : laidOutB Try.prog = true := by kernel_rfl
set_option maxRecDepth 100000 in
theorem lifted (os : Os) (started : os.Started) (H : Type) (enc : TypeId × Value → H) :
    ReturnsInHanded {} Try.checked os 5 .any (Rows.fateOrdersSpec.pre6 enc Try.prog Try.f5 Rows.fateOrdersRow.domain false) (Rows.fateOrdersSpec.post enc Try.prog Try.f5 false true false false) := by
  refine returnsInHanded_of_change_sized (C := Try.checked) own started (by kernel_rfl) Try.func5
    (ChangeSpec.witness6 (enc := enc) (C := Try.checked) false ⟨#[], #[.slice none 0 0, .slice none 0 0], []⟩ 8 (by kernel_rfl) (by kernel_rfl) (by kernel_rfl) (by kernel_rfl)) ?_
  intro W base args ds gs before hval0 hW hcnd hsz0 _
  have hsz : (DataW.weightsEach Try.prog (Try.f5.params.toList ++ Rows.fateOrdersSpec.plain.varTypes Try.prog) (ds ++ gs)).all (· ≤ reachBytes) = true := hsz0
  have hval : ∀ (j : Nat) t v, Try.f5.params[j]? = some t → args[j]? = some v → Value.okWide Try.prog W .any base t v := hval0
  have hW' := hW
  obtain ⟨p, q, hA0, hV, rfl, hfz, hnd⟩ := hW
  have hA : DataW.TrodAll enc Try.prog W 0 (fun _ => true) true Try.f5.params.toList args.toList ds p := hA0
  rw [Try.params5] at hA hval hsz
  obtain ⟨v0, vs0, d0, ds0, p0, q0, hargs, rfl, rfl, h0, r0_⟩ := trodAll_cons hA
  obtain ⟨v1, vs1, d1, ds1, p1, q1, rfl, rfl, rfl, h1, r1_⟩ := trodAll_cons r0_
  obtain ⟨rfl, rfl, rfl⟩ := trodAll_nil r1_
  obtain rfl : args = #[v0, v1] := by cases args; simp_all
  obtain ⟨rfl, rfl⟩ := trodVars_none hV
  obtain ⟨A0, len0, c0, rfl⟩ := okWide_slice Try.underlying22 (hval 0 22 v0 rfl rfl)
  have k0 := h0
  have lt0 : ∀ x ∈ p0, x.block < W.heap.size := by obtain ⟨m, hm⟩ := k0; exact DataW.trod_lt m _ _ _ hm
  have y0 := sized_row hsz (j := 0) (t := 22) rfl rfl Try.underlying22 (B := 24) (by kernel_rfl) h0
  obtain ⟨l0, rfl, kk0, r0, m0, g0⟩ := Opn.open_row Try.underlying22 (by kernel_rfl) (opens_struct (total := 3) Try.underlying30 (by kernel_rfl) (opensF_cons (off := 0) (off' := 1) rfl (by kernel_rfl) (opens_int Try.underlying3) (opensF_cons (off := 1) (off' := 2) rfl (by kernel_rfl) (opens_int Try.underlying3) (opensF_one (off := 2) rfl (by kernel_rfl) (opens_int Try.underlying3))))) h0
  obtain ⟨A1, len1, c1, rfl⟩ := okWide_slice Try.underlying36 (hval 1 36 v1 rfl rfl)
  have k1 := h1
  have lt1 : ∀ x ∈ p1, x.block < W.heap.size := by obtain ⟨m, hm⟩ := k1; exact DataW.trod_lt m _ _ _ hm
  have y1 := sized_row hsz (j := 1) (t := 36) rfl rfl Try.underlying36 (B := 8) (by kernel_rfl) h1
  obtain ⟨l1, rfl, kk1, r1, m1, g1⟩ := Opn.open_row Try.underlying36 (by kernel_rfl) (opens_int Try.underlying3) h1
  clear hA0 hval0 hsz0 hsz
  refine (M.orders_walk A0 c0 l0 A1 c1 l1 W r0 kk0 m0 y0 g0 r1 kk1 m1 y1 g1).mono fun e W' ⟨he, bel⟩ => ?_
  subst he
  exact ⟨_, rfl, _, _, _, [], _, [], hW', trodAll_mk1 (shut_bool Try.underlying4 _), (trodAll_cons_mk (Below.trod laidOut (by kernel_rfl) (of_decide_eq_true (by kernel_rfl)) k0 bel lt0) (trodAll_cons_mk (Below.trod laidOut (by kernel_rfl) (of_decide_eq_true (by kernel_rfl)) k1 bel lt1) trodAll_mk0)), rfl, bel.frame _, fun h => by cases h⟩
theorem over : Rows.fateOrdersRow.holds Try.pinned (OpenSpec.ofChange Rows.fateOrdersSpec) :=
  OpenClaim.holds_of_wide 5 Try.f5 rfl rfl rfl rfl rfl rfl rfl ⟨rfl, rfl, rfl, rfl, rfl⟩ rfl rfl rfl rfl rfl (by kernel_rfl) Try.func5 (by kernel_rfl)
    (of_decide_eq_true (by kernel_rfl)) (by unfold Func.isWrapper; first | (rw [if_pos (by decide +kernel)]; kernel_rfl) | (rw [if_neg (by decide +kernel)]; exact ⟨rfl, rfl⟩))
    (fun os started H enc _ => lifted os started H enc)
theorem proved : Rows.FateOrdersSaid := over
#print axioms proved
end Go.Proofs.Ytopajgpepmocfaa.fateOrders
namespace Go.Proofs.Ytopajgpepmocfaa
theorem fateOrders_holds : Rows.FateOrdersSaid := fateOrders.proved
end Go.Proofs.Ytopajgpepmocfaa
