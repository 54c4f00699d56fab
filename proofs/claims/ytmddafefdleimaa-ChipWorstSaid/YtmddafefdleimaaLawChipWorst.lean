/- The statement ChipWorst: the Go law ChipWorst answers true at every input, and each argument reads afterwards as it did. No condition of ours. -/
import Derived.Test.YtmddafefdleimaaRows
import Derived.Test.YtmddafefdleimaaWOpn
import Derived.Test.YtmddafefdleimaaWalkWorst
import Derived.WalkKit
import Derived.ProofKit
import Derived.OpenShut
import Derived.ShutString
import Derived.ChangeOld
import Derived.Below
import Derived.SizedLaws
namespace Go.Proofs.Ytmddafefdleimaa.chipWorst
open Go.ChangeShapes Go.WideShapes Go.ChangeAt Go.RowKit
open Go.Proofs.YtmddafefdleimaaW Go.Proofs.YtmddafefdleimaaW.PrintWords Go.Proofs.YtmddafefdleimaaW.Opn
open Go.ChangeMaps (open_string shut_string)
set_option linter.unusedVariables false
theorem own : ownKnob Try.prog.godebug = none := by kernel_rfl
theorem laidOut : laidOutB Try.prog = true := by kernel_rfl
set_option maxRecDepth 100000 in
theorem lifted (os : Os) (started : os.Started) (H : Type) (enc : TypeId × Value → H) :
    ReturnsInHanded {} Try.checked os 6 .any (Rows.chipWorstSpec.pre6 enc Try.prog Try.f6 Rows.chipWorstRow.domain false) (Rows.chipWorstSpec.post enc Try.prog Try.f6 false true false false) := by
  refine returnsInHanded_of_change_sized (C := Try.checked) own started (by kernel_rfl) Try.func6
    (ChangeSpec.witness6 (enc := enc) (C := Try.checked) false ⟨#[], #[(.agg #[.int .i64 0, .int .i64 0, .int .i64 0, .int .i64 0]), .slice none 0 0], []⟩ 8 (by kernel_rfl) (by kernel_rfl) (by kernel_rfl) (by kernel_rfl)) ?_
  intro W base args ds gs before hval0 hW hcnd hsz0 _
  have hsz : (DataW.weightsEach Try.prog (Try.f6.params.toList ++ Rows.chipWorstSpec.plain.varTypes Try.prog) (ds ++ gs)).all (· ≤ reachBytes) = true := hsz0
  have hval : ∀ (j : Nat) t v, Try.f6.params[j]? = some t → args[j]? = some v → Value.okWide Try.prog W .any base t v := hval0
  have hW' := hW
  obtain ⟨p, q, hA0, hV, rfl, hfz, hnd⟩ := hW
  have hA : DataW.TrodAll enc Try.prog W 0 (fun _ => true) true Try.f6.params.toList args.toList ds p := hA0
  rw [Try.params6] at hA hval hsz
  obtain ⟨v0, vs0, d0, ds0, p0, q0, hargs, rfl, rfl, h0, r0_⟩ := trodAll_cons hA
  obtain ⟨v1, vs1, d1, ds1, p1, q1, rfl, rfl, rfl, h1, r1_⟩ := trodAll_cons r0_
  obtain ⟨rfl, rfl, rfl⟩ := trodAll_nil r1_
  obtain rfl : args = #[v0, v1] := by cases args; simp_all
  obtain ⟨rfl, rfl⟩ := trodVars_none hV
  have k0 := h0
  have lt0 : ∀ x ∈ p0, x.block < W.heap.size := by obtain ⟨m, hm⟩ := k0; exact DataW.trod_lt m _ _ _ hm
  obtain ⟨cs0, x0, rfl, K0, g0⟩ := open_agg Try.underlying23 (hval 0 23 v0 rfl rfl) h0 (opens_struct (total := 4) Try.underlying23 (by kernel_rfl) (opensF_cons (off := 0) (off' := 1) rfl (by kernel_rfl) (opens_int Try.underlying3) (opensF_cons (off := 1) (off' := 2) rfl (by kernel_rfl) (opens_int Try.underlying3) (opensF_cons (off := 2) (off' := 3) rfl (by kernel_rfl) (opens_int Try.underlying3) (opensF_one (off := 3) rfl (by kernel_rfl) (opens_int Try.underlying3))))))
  obtain ⟨_, _, rfl, rfl, _, _, rfl, rfl, _, _, rfl, rfl, rfl⟩ := K0
  obtain ⟨A1, len1, c1, rfl⟩ := okWide_slice Try.underlying56 (hval 1 56 v1 rfl rfl)
  have k1 := h1
  have lt1 : ∀ x ∈ p1, x.block < W.heap.size := by obtain ⟨m, hm⟩ := k1; exact DataW.trod_lt m _ _ _ hm
  have y1 := sized_row hsz (j := 1) (t := 56) rfl rfl Try.underlying56 (B := 4) (by kernel_rfl) h1
  obtain ⟨l1, rfl, kk1, r1, m1, g1⟩ := Opn.open_row Try.underlying56 (by kernel_rfl) (opens_arr2 Try.underlying58 (by kernel_rfl) (by kernel_rfl) (opens_int Try.underlying40)) h1
  clear hA0 hval0 hsz0 hsz
  refine (M.worst_walk (x0.1) (x0.2.1) (x0.2.2.1) (x0.2.2.2) A1 c1 l1 W (g0.1) (g0.2.1) (g0.2.2.1) (g0.2.2.2) r1 kk1 m1 y1 g1).mono fun e W' ⟨he, bel⟩ => ?_
  subst he
  exact ⟨_, rfl, _, _, _, [], _, [], hW', trodAll_mk1 (shut_bool Try.underlying4 _), (trodAll_cons_mk (Below.trod laidOut (by kernel_rfl) (of_decide_eq_true (by kernel_rfl)) k0 bel lt0) (trodAll_cons_mk (Below.trod laidOut (by kernel_rfl) (of_decide_eq_true (by kernel_rfl)) k1 bel lt1) trodAll_mk0)), rfl, bel.frame _, fun h => by cases h⟩
theorem over : Rows.chipWorstRow.holds Try.pinned (OpenSpec.ofChange Rows.chipWorstSpec) :=
  OpenClaim.holds_of_wide 6 Try.f6 rfl rfl rfl rfl rfl rfl rfl ⟨rfl, rfl, rfl, rfl, rfl⟩ rfl rfl rfl rfl rfl (by kernel_rfl) Try.func6 (by kernel_rfl)
    (of_decide_eq_true (by kernel_rfl)) (by unfold Func.isWrapper; first | (rw [if_pos (by decide +kernel)]; kernel_rfl) | (rw [if_neg (by decide +kernel)]; exact ⟨rfl, rfl⟩))
    (fun os started H enc _ => lifted os started H enc)
theorem proved : Rows.ChipWorstSaid := over
#print axioms proved
end Go.Proofs.Ytmddafefdleimaa.chipWorst
namespace Go.Proofs.Ytmddafefdleimaa
theorem chipWorst_holds : Rows.ChipWorstSaid := chipWorst.proved
end Go.Proofs.Ytmddafefdleimaa
