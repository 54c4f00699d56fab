/- Tales: what is written to a builder; the text of events; by hand. -/
import Derived.Test.YthdmeffjiljdeaaDoorI
namespace Go.Proofs.YthdmeffjiljdeaaDoor.M
open Go.RowKit Go.Proofs.YthdmeffjiljdeaaDoorW.PrintWords Go.Proofs.YthdmeffjiljdeaaDoorW.PrintLast Go.Proofs.YthdmeffjiljdeaaDoorW.PrintMore Go.Proofs.YthdmeffjiljdeaaDoor.Rw Go.Proofs.YthdmeffjiljdeaaDoor.Fl
set_option linter.unusedVariables false
set_option linter.unusedSimpArgs false
theorem info45 : (Tryd.prog.info? 45).map (·.size) = some 2 := by kernel_rfl
set_option maxRecDepth 100000 in
set_option maxHeartbeats 2000000 in
theorem copyC (B b : Nat) (bs : List Value) (w : World) (h : Lib.IsBuilderF 45 5 B b bs w) :
    Calls Tryd.prog 23 #[.pointer (some ⟨b, 0, none⟩)] w fun e w' => e = .returned (.tuple #[]) ∧ Aside0 (Lib.BuilderAtF 45 5 B b (.pointer (some ⟨b, 0, none⟩)) bs w' ∧ Below B w w') := by
  obtain ⟨j, hj, hjs⟩ := Option.map_eq_some_iff.1 info45
  have hli := Tryd.Builder_Extra_169.liesBuilder
  rcases h with h | h
  · have h0 := h.cell0
    have h1 := h.shape
    have h2 := h.frozen0
    have HA := Aside0.mk h
    clear h
    go_enter Tryd.func23, Tryd.ntmps23
    go_wp2
    rw [Lib.run_to_unsafe w ⟨b, 0, none⟩ Tryd.underlying43 Tryd.underlying72 hj (by rw [hjs]; decide) h1 (Nat.zero_lt_succ 1)]
    simp only [Result.andThen]
    rw [Oper.upon_value]
    go_wp2
    rw [run_callFunc_extern Tryd.func34 (by kernel_rfl) (by kernel_rfl) (by kernel_rfl) (e := Extern.AbiNoEscape.same) (by kernel_rfl)]
    rw [Lib.run_noEscape]
    simp only [Result.andThen]
    rw [Oper.upon_value]
    go_wp2
    rw [Lib.run_from_unsafe w ⟨b, 0, none⟩ Tryd.underlying72 Tryd.underlying43 hj h1 hli]
    simp only [Result.andThen]
    rw [Oper.upon_value]
    go_wp2
    go_end0
    exact ⟨rfl, ⟨HA.out.used _, (Below.refl B w).setCell (p := ⟨b, 0, none⟩) HA.out.1 _⟩⟩
  · have h0 := h.cell0
    have h1 := h.shape
    have h2 := h.frozen0
    have HA := Aside0.mk h
    clear h
    go_enter Tryd.func23, Tryd.ntmps23
    go_wp2
    rw [Lib.run_neq_ptr_same w _ Tryd.underlying43 hj]
    go_wp2
    go_end0
    exact ⟨rfl, ⟨HA.out, Below.refl _ _⟩⟩
set_option maxRecDepth 100000 in
set_option maxHeartbeats 2000000 in
theorem writeC (B b : Nat) (bs : List Value) (s : ByteArray) (w : World) (h : Lib.IsBuilderF 45 5 B b bs w) (hlen : bs.length + s.size ≤ 140737488355328) (hBw : B ≤ w.heap.size) :
    Calls Tryd.prog 13 #[.pointer (some ⟨b, 0, none⟩), .string s] w fun e w' => e = .returned (.tuple #[.int .i64 s.size, .nilIface]) ∧ Aside0 (Lib.BuilderAtF 45 5 B b (.pointer (some ⟨b, 0, none⟩)) (bs ++ Lib.strCells s) w' ∧ Below B w w') := by
  obtain ⟨i0, hi, hz⟩ := Option.map_eq_some_iff.1 info5
  simp only [Prod.mk.injEq] at hz
  have HC := Aside0.mk (copyC B b bs w h)
  clear h
  go_enter Tryd.func13, Tryd.ntmps13
  go_upto_region 2 with (first | (go_at_call 23; (refine HC.out.mono ?_); rintro e w1 ⟨rfl, H1⟩))
  obtain ⟨h1, hb1⟩ := H1.out
  obtain ⟨hB, v, hbk, hown, hne⟩ := h1
  have c0 : w1.cell? ⟨b, 0, none⟩ = some (.pointer (some ⟨b, 0, none⟩)) := by rw [Lib.cell_of_heap hbk]; rfl
  have c1 : w1.cell? ⟨b, 1, none⟩ = some v := by rw [Lib.cell_of_heap hbk]; rfl
  have Hown := Aside0.mk hown
  have Hne := Aside0.mk hne
  have Hbk := Aside0.mk hbk
  have Hb1 := Aside0.mk hb1
  clear hown hne hbk hb1
  go_wp2_with (at_builtin; refine Lib.wpList_append_own_stringF _ rfl _ _ 29 9 rfl B 5 i0 Tryd.underlying29 Tryd.underlying9 hi hz.1 hz.2.1 hz.2.2 _ _ _ rfl Hown.out s rfl ?c3 ?c4 ?c5 ?_)
  case c3 => unfold maxLen; omega
  case c4 => omega
  case c5 => have := Hb1.out.size; omega
  intro v' w2 hown' hgrow _
  have hlt : b < w1.heap.size := by
    rcases Nat.lt_or_ge b w1.heap.size with h' | h'
    · exact h'
    · have := Hbk.out; simp [Array.getElem?_eq_none h'] at this
  have hb2 : w2.heap[b]? = some (.cells #[.pointer (some ⟨b, 0, none⟩), v] 45 (0, 0)) := by
    rw [hgrow.block b hlt (fun e => Hne.out e.symm)]
    exact Hbk.out
  have d0 : w2.cell? ⟨b, 0, none⟩ = some (.pointer (some ⟨b, 0, none⟩)) := by rw [Lib.cell_of_heap hb2]; rfl
  have d1 : w2.cell? ⟨b, 1, none⟩ = some v := by rw [Lib.cell_of_heap hb2]; rfl
  have f1 : w2.frozen? ⟨b, 1, none⟩ = false := Lib.frozen_of_heap hb2 1
  obtain ⟨ao, n', cap, rfl⟩ : ∃ ao n' cap, v' = .slice ao n' cap := by
    rcases hown'.2 with ⟨hv, _⟩ | ⟨g, cap, cur, fz, hv, _⟩
    · exact ⟨_, _, _, hv⟩
    · exact ⟨_, _, _, hv⟩
  go_wp2
  go_ret2
  refine ⟨rfl, ⟨?_, ?_⟩⟩
  · exact Lib.BuilderAtF.put (T := 45) (e := 5) hB hb2 (bs' := bs ++ Lib.strCells s) (by simpa [Lib.strCells_length] using hown') (by decide)
  · exact (Hb1.out.grown hgrow (by have := Hb1.out.size; omega) (fun k hk => (Hown.out.lt k hk).1)).setCell (p := ⟨b, 1, none⟩) hB _
end Go.Proofs.YthdmeffjiljdeaaDoor.M
