/- Tales: the document's example; by hand. -/
import Derived.Test.YthdmeffjiljdeaaDoorK
namespace Go.Proofs.YthdmeffjiljdeaaDoor.M
open Go.RowKit Go.Proofs.YthdmeffjiljdeaaDoorW.PrintWords Go.Proofs.YthdmeffjiljdeaaDoorW.PrintLast Go.Proofs.YthdmeffjiljdeaaDoorW.PrintMore Go.Proofs.YthdmeffjiljdeaaDoor.Rw Go.Proofs.YthdmeffjiljdeaaDoor.Fl
set_option linter.unusedVariables false
set_option linter.unusedSimpArgs false
attribute [local go_sem] run_store_complex
abbrev exS : List UInt8 := [100, 114, 105, 102, 116, 32, 48, 32, 51, 32, 49, 32, 50, 32, 45, 49, 32, 46, 10]
theorem ex_sp : spF [100, 114, 105, 102, 116, 32, 48, 32, 51, 32, 49, 32, 50, 32, 45, 49, 32, 46] = [[100, 114, 105, 102, 116], [48], [51], [49], [50], [45, 49], [46]] := by decide +kernel
theorem ex_num : numF [45, 49] = (-1, true) := by decide +kernel
theorem ex_fw : fw (-1) = 13830554455654793216 := by decide +kernel
theorem ex_fw2 : fw 2 = 4611686018427387904 := by decide +kernel
theorem ex_itoa : Lib.itoa (-1) = [45, 49] := by decide +kernel
theorem ex_whole : wholeF 13830554455654793216 = true := by decide +kernel
theorem ex_part : partF 13830554455654793216 = -1 := by decide +kernel
theorem ex_read : readF 20 exS = some [⟨6, 0, 3, 1, 4611686018427387904, 13830554455654793216, []⟩] := by kernel_rfl
theorem ex_line : lineF ⟨6, 0, 3, 1, 4611686018427387904, 13830554455654793216, []⟩ = exS := by kernel_rfl
abbrev exEv : Ev := ⟨6, 0, 3, 1, 4611686018427387904, 13830554455654793216, []⟩
/-- a text that can be read -/
theorem readOk (s : List UInt8) (es : List Ev) (he : readF (s.length + 1) s = some es) (hs : s.length ≤ 80000) (w : World) (h : GV w) :
    Calls Tryd.prog 7 #[.string ⟨s.toArray⟩] w fun o w' => ∃ A c items, items.map (·.1) = es ∧ o = .returned (.tuple #[.slice A es.length c, .int .i64 0]) ∧ Aside0 (EvsR A items w') ∧ Aside0 (Below w.heap.size w w') := by
  refine (readC s hs w h).mono ?_
  rintro o w' ⟨HP, HB⟩
  have hp := HP.out
  rw [he] at hp
  obtain ⟨A, c, items, h1, h2, h3⟩ := hp
  exact ⟨A, c, items, h1, h2, ⟨h3⟩, HB⟩
theorem readBad (s : List UInt8) (he : readF (s.length + 1) s = none) (hs : s.length ≤ 80000) (w : World) (h : GV w) :
    Calls Tryd.prog 7 #[.string ⟨s.toArray⟩] w fun o w' => o = .returned (.tuple #[.slice none 0 0, .int .i64 12]) ∧ Aside0 (Below w.heap.size w w') := by
  refine (readC s hs w h).mono ?_
  rintro o w' ⟨HP, HB⟩
  have hp := HP.out
  rw [he] at hp
  exact ⟨hp, HB⟩
theorem textF_map (items : List (Ev × Value)) : textF items = (items.map (·.1)).flatMap lineF := by
  unfold textF
  rw [List.flatMap_map]
set_option maxRecDepth 20000 in
set_option maxHeartbeats 6400000 in
theorem awakeC (w : World) (h : GV w) : Calls Tryd.prog 6 #[] w fun o w' => o = .returned (.bool true) ∧ Aside0 (Below w.heap.size w w') := by
  have HG := Aside0.mk h
  have HRd := Aside0.mk (readOk exS [exEv] ex_read (by decide) w h)
  clear h
  go_enter Tryd.func6, Tryd.ntmps6
  go_upto_region 2 with (first | (go_at_call 7; (refine HRd.out.mono ?_); rintro o w2 ⟨A, c, items, hi, rfl, HE, HB⟩))
  obtain ⟨u, rfl⟩ : ∃ u, items = [(exEv, u)] := by
    match items, hi with
    | [(e, u)], hi => cases hi; exact ⟨u, rfl⟩
  clear hi
  obtain ⟨-, -, ad, rfl, hAt⟩ := HE.out 0 _ rfl
  obtain ⟨k0, -, -, -, k4, -⟩ := hAt
  have e0 : ad.add (0 * 6) = ad := Addr.add_zero' ad
  rw [e0] at k0 k4
  dsimp only at k0 k4
  have HT := Aside0.mk (textC (some ad) c [(exEv, u)] w2 (HG.out.below HB.out) HE.out (by simp))
  rw [show textF [(exEv, u)] = exS from by rw [textF_map]; show lineF exEv ++ [] = exS; rw [ex_line, List.append_nil]] at HT
  go_wp2_with (first | (go_at_call 8; (refine HT.out.mono ?_); rintro o w3 ⟨rfl, HB3⟩))
  go_ret
  exact ⟨rfl, ⟨Below.trans HB.out (HB3.out.mono HB.out.size)⟩⟩
end Go.Proofs.YthdmeffjiljdeaaDoor.M
