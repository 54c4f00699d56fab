/- TaleKnown: texts by hand. -/
import Derived.Test.YthdmeffjiljdeaaDoorL
namespace Go.Proofs.YthdmeffjiljdeaaDoor.M
open Go.RowKit Go.Proofs.YthdmeffjiljdeaaDoorW.PrintWords Go.Proofs.YthdmeffjiljdeaaDoorW.PrintLast Go.Proofs.YthdmeffjiljdeaaDoorW.PrintMore Go.Proofs.YthdmeffjiljdeaaDoor.Rw Go.Proofs.YthdmeffjiljdeaaDoor.Fl
set_option linter.unusedVariables false
set_option linter.unusedSimpArgs false
attribute [local go_sem] run_store_complex
/-- the texts that are none -/
def badL : List (List UInt8) := [[119, 114, 105, 116, 101], [119, 114, 105, 116, 101, 32, 48, 32, 48, 32, 48, 32, 48, 32, 48, 32, 46], [119, 114, 105, 116, 101, 32, 48, 32, 48, 32, 48, 32, 48, 32, 48, 10], [119, 114, 105, 116, 101, 32, 48, 32, 48, 32, 48, 32, 48, 32, 48, 32, 46, 48, 10], [119, 114, 105, 116, 101, 32, 48, 32, 48, 32, 48, 32, 48, 32, 48, 32, 48, 48, 10], [119, 114, 105, 116, 101, 32, 48, 48, 32, 48, 32, 48, 32, 48, 32, 48, 32, 46, 10], [119, 114, 105, 116, 101, 32, 49, 50, 51, 52, 53, 54, 55, 56, 57, 48, 49, 50, 51, 52, 53, 54, 55, 56, 57, 32, 48, 32, 48, 32, 48, 32, 48, 32, 46, 10], [119, 114, 105, 116, 101, 32, 48, 32, 48, 32, 48, 32, 45, 32, 48, 32, 46, 10], [119, 114, 105, 116, 101, 32, 48, 32, 48, 32, 48, 32, 45, 48, 32, 48, 32, 46, 10], [119, 114, 105, 116, 101, 32, 48, 32, 48, 32, 48, 32, 45, 49, 48, 48, 49, 32, 48, 32, 46, 10], [119, 114, 105, 116, 101, 32, 48, 32, 48, 32, 48, 32, 43, 49, 32, 48, 32, 46, 10], [10], [119, 114, 105, 116, 101, 32, 48, 32, 48, 32, 48, 32, 48, 32, 48, 32, 46, 48, 65, 10], [101, 114, 97, 115, 101, 32, 48, 32, 48, 32, 48, 32, 48, 32, 48, 32, 46, 10]]
theorem bad_all : (badL.all fun s => (readF (s.length + 1) s).isNone) = true := by decide +kernel
theorem bad_none {k : Nat} (hk : k < 14) : readF ((badL.getD k []).length + 1) (badL.getD k []) = none := by
  have h := List.all_eq_true.1 bad_all (badL.getD k []) (mem_getD [] (show k < badL.length from hk))
  exact Option.isNone_iff_eq_none.1 h
theorem bad_len {k : Nat} (hk : k < 14) : (badL.getD k []).length ≤ 80000 := by
  have : ∀ s ∈ badL, s.length ≤ 80000 := by decide +kernel
  exact this _ (mem_getD [] (show k < badL.length from hk))
abbrev kS : List UInt8 := [119, 114, 105, 116, 101, 32, 51, 32, 48, 32, 48, 32, 48, 32, 48, 32, 46, 48, 48, 102, 102, 10, 100, 114, 105, 102, 116, 32, 48, 32, 55, 32, 57, 32, 45, 49, 48, 48, 48, 32, 49, 48, 48, 48, 32, 46, 10, 114, 101, 109, 111, 117, 110, 116, 32, 48, 32, 48, 32, 48, 32, 48, 32, 48, 32, 46, 10]
abbrev kE : List Ev := [⟨1, 3, 0, 0, 0, 0, [0, 255]⟩, ⟨6, 0, 7, 9, 13875379345695965184, 4652007308841189376, []⟩, ⟨7, 0, 0, 0, 0, 0, []⟩]
theorem k_read : readF (kS.length + 1) kS = some kE := by kernel_rfl
theorem k_text : [(⟨1, 3, 0, 0, 0, 0, [0, 255]⟩ : Ev), ⟨6, 0, 7, 9, 13875379345695965184, 4652007308841189376, []⟩, ⟨7, 0, 0, 0, 0, 0, []⟩, ⟨0, 0, 0, 0, 0, 0, []⟩, ⟨8, 0, 0, 0, 0, 0, []⟩, ⟨5, -1, 0, 0, 0, 0, []⟩, ⟨6, 0, 0, 0, 4602678819172646912, 0, []⟩, ⟨6, 0, 0, 0, 0, 4652016104934211584, []⟩].flatMap lineF = kS := by kernel_rfl
theorem evs_of_block {W : World} {g : Nat} {items : List (Ev × Value)} {f : Nat × Nat} (hb : W.heap[g]? = some (.cells (items.flatMap evL).toArray 32 f)) (hok : ∀ p ∈ items, EvOK p.1)
    (hd : ∀ p ∈ items, ∃ A' c, p.2 = .slice A' p.1.data.length c ∧ Kd.C (Kd.int .u8) W A' p.1.data.length p.1.data) : EvsR (some ⟨g, 0, none⟩) items W := by
  intro i p hp
  have hm : p ∈ items := List.mem_of_getElem? hp
  refine ⟨hok p hm, hd p hm, ⟨g, 0, none⟩, rfl, ?_⟩
  have had : (⟨g, 0, none⟩ : Addr).add (i * 6) = ⟨g, i * 6, none⟩ := by unfold Addr.add; split <;> simp_all
  have ha : ∀ k, k < 6 → ∀ u, (evL p)[k]? = some u → W.cell? ⟨g, i * 6 + k, none⟩ = some u := fun k hk u hu => by
    have h2 := (flat6 items i p k hp hk).trans hu
    rw [Lib.cell_of_heap hb, List.getElem?_toArray]
    exact h2
  refine ⟨?_, ?_, ?_, ?_, ?_, ?_⟩ <;> rw [had]
  · exact ha 0 (by decide) _ rfl
  · exact ha 1 (by decide) _ rfl
  · exact ha 2 (by decide) _ rfl
  · exact ha 3 (by decide) _ rfl
  · exact ha 4 (by decide) _ rfl
  · exact ha 5 (by decide) _ rfl
theorem C_nil (W : World) : Kd.C (Kd.int .u8) W none 0 [] := OwnB.C (base := 0) (OwnB.nil 0 W)
abbrev kItems (p : Nat) : List (Ev × Value) := [((⟨1, 3, 0, 0, 0, 0, [0, 255]⟩ : Ev), Value.slice (some ⟨p, 0, none⟩) 2 2), ((⟨6, 0, 7, 9, 13875379345695965184, 4652007308841189376, []⟩ : Ev), Value.slice none 0 0), ((⟨7, 0, 0, 0, 0, 0, []⟩ : Ev), Value.slice none 0 0), ((⟨0, 0, 0, 0, 0, 0, []⟩ : Ev), Value.slice none 0 0), ((⟨8, 0, 0, 0, 0, 0, []⟩ : Ev), Value.slice none 0 0), ((⟨5, -1, 0, 0, 0, 0, []⟩ : Ev), Value.slice none 0 0), ((⟨6, 0, 0, 0, 4602678819172646912, 0, []⟩ : Ev), Value.slice none 0 0), ((⟨6, 0, 0, 0, 0, 4652016104934211584, []⟩ : Ev), Value.slice none 0 0)]
theorem k_items (p : Nat) : textF (kItems p) = kS := by
  rw [textF_map]
  exact k_text
theorem k_block (p : Nat) : (#[.int .i64 1, .int .i64 3, .int .i64 0, .int .i64 0, .complex .f64 0 0, .slice (some ⟨p, 0, none⟩) 2 2, .int .i64 6, .int .i64 0, .int .i64 7, .int .i64 9, .complex .f64 13875379345695965184 4652007308841189376, .slice none 0 0, .int .i64 7, .int .i64 0, .int .i64 0, .int .i64 0, .complex .f64 0 0, .slice none 0 0, .int .i64 0, .int .i64 0, .int .i64 0, .int .i64 0, .complex .f64 0 0, .slice none 0 0, .int .i64 8, .int .i64 0, .int .i64 0, .int .i64 0, .complex .f64 0 0, .slice none 0 0, .int .i64 5, .int .i64 (-1), .int .i64 0, .int .i64 0, .complex .f64 0 0, .slice none 0 0, .int .i64 6, .int .i64 0, .int .i64 0, .int .i64 0, .complex .f64 4602678819172646912 0, .slice none 0 0, .int .i64 6, .int .i64 0, .int .i64 0, .int .i64 0, .complex .f64 0 4652016104934211584, .slice none 0 0] : Array Value) = ((kItems p).flatMap evL).toArray := rfl
theorem k_ok (p : Nat) : ∀ q ∈ kItems p, EvOK q.1 := by
  intro q hq
  simp only [kItems, List.mem_cons, List.not_mem_nil, or_false] at hq
  rcases hq with rfl | rfl | rfl | rfl | rfl | rfl | rfl | rfl <;> exact ⟨by dsimp only; decide, by dsimp only; decide, by dsimp only; decide, by dsimp only; decide, by dsimp only; decide⟩
theorem k_dat (p : Nat) (W : World) (h : Kd.C (Kd.int .u8) W (some ⟨p, 0, none⟩) 2 [0, 255]) : ∀ q ∈ kItems p, ∃ A' c, q.2 = .slice A' q.1.data.length c ∧ Kd.C (Kd.int .u8) W A' q.1.data.length q.1.data := by
  intro q hq
  simp only [kItems, List.mem_cons, List.not_mem_nil, or_false] at hq
  rcases hq with rfl | rfl | rfl | rfl | rfl | rfl | rfl | rfl
  · exact ⟨_, _, rfl, h⟩
  all_goals exact ⟨_, _, rfl, C_nil W⟩
theorem bad_block : (#[.string ⟨#[119, 114, 105, 116, 101]⟩, .string ⟨#[119, 114, 105, 116, 101, 32, 48, 32, 48, 32, 48, 32, 48, 32, 48, 32, 46]⟩, .string ⟨#[119, 114, 105, 116, 101, 32, 48, 32, 48, 32, 48, 32, 48, 32, 48, 10]⟩, .string ⟨#[119, 114, 105, 116, 101, 32, 48, 32, 48, 32, 48, 32, 48, 32, 48, 32, 46, 48, 10]⟩, .string ⟨#[119, 114, 105, 116, 101, 32, 48, 32, 48, 32, 48, 32, 48, 32, 48, 32, 48, 48, 10]⟩, .string ⟨#[119, 114, 105, 116, 101, 32, 48, 48, 32, 48, 32, 48, 32, 48, 32, 48, 32, 46, 10]⟩, .string ⟨#[119, 114, 105, 116, 101, 32, 49, 50, 51, 52, 53, 54, 55, 56, 57, 48, 49, 50, 51, 52, 53, 54, 55, 56, 57, 32, 48, 32, 48, 32, 48, 32, 48, 32, 46, 10]⟩, .string ⟨#[119, 114, 105, 116, 101, 32, 48, 32, 48, 32, 48, 32, 45, 32, 48, 32, 46, 10]⟩, .string ⟨#[119, 114, 105, 116, 101, 32, 48, 32, 48, 32, 48, 32, 45, 48, 32, 48, 32, 46, 10]⟩, .string ⟨#[119, 114, 105, 116, 101, 32, 48, 32, 48, 32, 48, 32, 45, 49, 48, 48, 49, 32, 48, 32, 46, 10]⟩, .string ⟨#[119, 114, 105, 116, 101, 32, 48, 32, 48, 32, 48, 32, 43, 49, 32, 48, 32, 46, 10]⟩, .string ⟨#[10]⟩, .string ⟨#[119, 114, 105, 116, 101, 32, 48, 32, 48, 32, 48, 32, 48, 32, 48, 32, 46, 48, 65, 10]⟩, .string ⟨#[101, 114, 97, 115, 101, 32, 48, 32, 48, 32, 48, 32, 48, 32, 48, 32, 46, 10]⟩] : Array Value) = (badL.map strV).toArray := rfl
set_option maxRecDepth 20000 in
set_option maxHeartbeats 6400000 in
theorem walkKnown (w : World) (h : GV w) : Calls Tryd.prog 4 #[] w fun o w' => o = .returned (.bool true) ∧ Aside0 (Below w.heap.size w w') := by
  have HG := Aside0.mk h
  have HA := Aside0.mk (awakeC w h)
  obtain ⟨b, hb⟩ : ∃ b, w.heap.size = b := ⟨_, rfl⟩
  have HBs := Aside0.mk hb
  clear h hb
  go_enter Tryd.func4, Tryd.ntmps4
  go_upto_region 3 with (first | (go_at_call 6; (refine HA.out.mono ?_); rintro o w2 ⟨rfl, HB2⟩))
  go_upto_region 4 with (fail)
  have hq0 : (w2.alloc (.cells #[.int .u8 0, .int .u8 255] 5)).heap[w2.heap.size]? = some (.cells #[.int .u8 0, .int .u8 255] 5 (0, 0)) := blk_new w2 _
  have hB3 := below_alloc (Below.refl w2.heap.size w2) (.cells #[.int .u8 0, .int .u8 255] 5)
  have hs3 : (w2.alloc (.cells #[.int .u8 0, .int .u8 255] 5)).heap.size = w2.heap.size + 1 := by simp
  generalize w2.alloc (.cells #[.int .u8 0, .int .u8 255] 5) = w3 at *
  rw [← hs3]
  obtain ⟨p, hp⟩ : ∃ p, w2.heap.size = p := ⟨_, rfl⟩
  rw [hp] at hq0 ⊢
  have hq1 : (w3.alloc (.cells #[.int .i64 1, .int .i64 3, .int .i64 0, .int .i64 0, .complex .f64 0 0, .slice (some ⟨p, 0, none⟩) 2 2, .int .i64 6, .int .i64 0, .int .i64 7, .int .i64 9, .complex .f64 13875379345695965184 4652007308841189376, .slice none 0 0, .int .i64 7, .int .i64 0, .int .i64 0, .int .i64 0, .complex .f64 0 0, .slice none 0 0, .int .i64 0, .int .i64 0, .int .i64 0, .int .i64 0, .complex .f64 0 0, .slice none 0 0, .int .i64 8, .int .i64 0, .int .i64 0, .int .i64 0, .complex .f64 0 0, .slice none 0 0, .int .i64 5, .int .i64 (-1), .int .i64 0, .int .i64 0, .complex .f64 0 0, .slice none 0 0, .int .i64 6, .int .i64 0, .int .i64 0, .int .i64 0, .complex .f64 4602678819172646912 0, .slice none 0 0, .int .i64 6, .int .i64 0, .int .i64 0, .int .i64 0, .complex .f64 0 4652016104934211584, .slice none 0 0] 32)).heap[w3.heap.size]? = some (.cells #[.int .i64 1, .int .i64 3, .int .i64 0, .int .i64 0, .complex .f64 0 0, .slice (some ⟨p, 0, none⟩) 2 2, .int .i64 6, .int .i64 0, .int .i64 7, .int .i64 9, .complex .f64 13875379345695965184 4652007308841189376, .slice none 0 0, .int .i64 7, .int .i64 0, .int .i64 0, .int .i64 0, .complex .f64 0 0, .slice none 0 0, .int .i64 0, .int .i64 0, .int .i64 0, .int .i64 0, .complex .f64 0 0, .slice none 0 0, .int .i64 8, .int .i64 0, .int .i64 0, .int .i64 0, .complex .f64 0 0, .slice none 0 0, .int .i64 5, .int .i64 (-1), .int .i64 0, .int .i64 0, .complex .f64 0 0, .slice none 0 0, .int .i64 6, .int .i64 0, .int .i64 0, .int .i64 0, .complex .f64 4602678819172646912 0, .slice none 0 0, .int .i64 6, .int .i64 0, .int .i64 0, .int .i64 0, .complex .f64 0 4652016104934211584, .slice none 0 0] 32 (0, 0)) := blk_new w3 _
  have hB4 := below_alloc (Below.refl w3.heap.size w3) (.cells #[.int .i64 1, .int .i64 3, .int .i64 0, .int .i64 0, .complex .f64 0 0, .slice (some ⟨p, 0, none⟩) 2 2, .int .i64 6, .int .i64 0, .int .i64 7, .int .i64 9, .complex .f64 13875379345695965184 4652007308841189376, .slice none 0 0, .int .i64 7, .int .i64 0, .int .i64 0, .int .i64 0, .complex .f64 0 0, .slice none 0 0, .int .i64 0, .int .i64 0, .int .i64 0, .int .i64 0, .complex .f64 0 0, .slice none 0 0, .int .i64 8, .int .i64 0, .int .i64 0, .int .i64 0, .complex .f64 0 0, .slice none 0 0, .int .i64 5, .int .i64 (-1), .int .i64 0, .int .i64 0, .complex .f64 0 0, .slice none 0 0, .int .i64 6, .int .i64 0, .int .i64 0, .int .i64 0, .complex .f64 4602678819172646912 0, .slice none 0 0, .int .i64 6, .int .i64 0, .int .i64 0, .int .i64 0, .complex .f64 0 4652016104934211584, .slice none 0 0] 32)
  generalize w3.alloc (.cells #[.int .i64 1, .int .i64 3, .int .i64 0, .int .i64 0, .complex .f64 0 0, .slice (some ⟨p, 0, none⟩) 2 2, .int .i64 6, .int .i64 0, .int .i64 7, .int .i64 9, .complex .f64 13875379345695965184 4652007308841189376, .slice none 0 0, .int .i64 7, .int .i64 0, .int .i64 0, .int .i64 0, .complex .f64 0 0, .slice none 0 0, .int .i64 0, .int .i64 0, .int .i64 0, .int .i64 0, .complex .f64 0 0, .slice none 0 0, .int .i64 8, .int .i64 0, .int .i64 0, .int .i64 0, .complex .f64 0 0, .slice none 0 0, .int .i64 5, .int .i64 (-1), .int .i64 0, .int .i64 0, .complex .f64 0 0, .slice none 0 0, .int .i64 6, .int .i64 0, .int .i64 0, .int .i64 0, .complex .f64 4602678819172646912 0, .slice none 0 0, .int .i64 6, .int .i64 0, .int .i64 0, .int .i64 0, .complex .f64 0 4652016104934211584, .slice none 0 0] 32) = w4 at *
  obtain ⟨g, hg⟩ : ∃ g, w3.heap.size = g := ⟨_, rfl⟩
  rw [hg] at hq1 ⊢
  have HE : Aside0 (EvsR (some ⟨g, 0, none⟩) (kItems p) w4) := ⟨by
    refine evs_of_block (f := (0, 0)) (by rw [← k_block]; exact hq1) (k_ok p) (k_dat p w4 ?_)
    have h0 : w4.heap[p]? = some (.cells #[.int .u8 0, .int .u8 255] 5 (0, 0)) := (hB4.block p (blk_lt hq0)).trans hq0
    have hO : OwnB 0 (.slice (some ⟨p, 0, none⟩) 2 2) [0, 255] w4 := ⟨⟨rfl, .inr ⟨p, 2, _, rfl, Nat.zero_le _, h0, by decide, by decide, rfl, rfl⟩⟩, by decide⟩
    exact OwnB.C (c := 2) hO⟩
  have HB4 : Aside0 (Below b w w4) := ⟨by
    have h1 : Below b w w2 := by have := HB2.out; rw [HBs.out] at this; exact this
    have h2 : Below b w w3 := Below.trans h1 (hB3.mono (by rw [hp]; have := h1.size; have := HBs.out; omega))
    exact Below.trans h2 (hB4.mono (by have := h2.size; have := HBs.out; omega))⟩
  have HBz : Aside0 (b ≤ w4.heap.size) := ⟨by have := HB4.out.size; have := HBs.out; omega⟩
  clear hq0 hB3 hs3 hq1 hB4 hp hg HB2 HA
  have HRk := Aside0.mk (readOk kS kE k_read (by decide) w4 (HG.out.below (by rw [HBs.out]; exact HB4.out)))
  go_upto_region 6 with (first | (go_at_call 7; (refine HRk.out.mono ?_); rintro o w5 ⟨A, c, its, hi, rfl, HM, HB5'⟩))
  have HB5 : Aside0 (Below b w w5) := ⟨Below.trans HB4.out (HB5'.out.mono HBz.out)⟩
  have HE5 : Aside0 (EvsR (some ⟨g, 0, none⟩) (kItems p) w5) := ⟨HE.out.below HB5'.out⟩
  clear HE HB5' HB4 HBz HRk
  go_upto_region 7 with (fail)
  have hq6 : (w5.alloc (.cells #[.string ⟨#[119, 114, 105, 116, 101]⟩, .string ⟨#[119, 114, 105, 116, 101, 32, 48, 32, 48, 32, 48, 32, 48, 32, 48, 32, 46]⟩, .string ⟨#[119, 114, 105, 116, 101, 32, 48, 32, 48, 32, 48, 32, 48, 32, 48, 10]⟩, .string ⟨#[119, 114, 105, 116, 101, 32, 48, 32, 48, 32, 48, 32, 48, 32, 48, 32, 46, 48, 10]⟩, .string ⟨#[119, 114, 105, 116, 101, 32, 48, 32, 48, 32, 48, 32, 48, 32, 48, 32, 48, 48, 10]⟩, .string ⟨#[119, 114, 105, 116, 101, 32, 48, 48, 32, 48, 32, 48, 32, 48, 32, 48, 32, 46, 10]⟩, .string ⟨#[119, 114, 105, 116, 101, 32, 49, 50, 51, 52, 53, 54, 55, 56, 57, 48, 49, 50, 51, 52, 53, 54, 55, 56, 57, 32, 48, 32, 48, 32, 48, 32, 48, 32, 46, 10]⟩, .string ⟨#[119, 114, 105, 116, 101, 32, 48, 32, 48, 32, 48, 32, 45, 32, 48, 32, 46, 10]⟩, .string ⟨#[119, 114, 105, 116, 101, 32, 48, 32, 48, 32, 48, 32, 45, 48, 32, 48, 32, 46, 10]⟩, .string ⟨#[119, 114, 105, 116, 101, 32, 48, 32, 48, 32, 48, 32, 45, 49, 48, 48, 49, 32, 48, 32, 46, 10]⟩, .string ⟨#[119, 114, 105, 116, 101, 32, 48, 32, 48, 32, 48, 32, 43, 49, 32, 48, 32, 46, 10]⟩, .string ⟨#[10]⟩, .string ⟨#[119, 114, 105, 116, 101, 32, 48, 32, 48, 32, 48, 32, 48, 32, 48, 32, 46, 48, 65, 10]⟩, .string ⟨#[101, 114, 97, 115, 101, 32, 48, 32, 48, 32, 48, 32, 48, 32, 48, 32, 46, 10]⟩] 9)).heap[w5.heap.size]? = some (.cells #[.string ⟨#[119, 114, 105, 116, 101]⟩, .string ⟨#[119, 114, 105, 116, 101, 32, 48, 32, 48, 32, 48, 32, 48, 32, 48, 32, 46]⟩, .string ⟨#[119, 114, 105, 116, 101, 32, 48, 32, 48, 32, 48, 32, 48, 32, 48, 10]⟩, .string ⟨#[119, 114, 105, 116, 101, 32, 48, 32, 48, 32, 48, 32, 48, 32, 48, 32, 46, 48, 10]⟩, .string ⟨#[119, 114, 105, 116, 101, 32, 48, 32, 48, 32, 48, 32, 48, 32, 48, 32, 48, 48, 10]⟩, .string ⟨#[119, 114, 105, 116, 101, 32, 48, 48, 32, 48, 32, 48, 32, 48, 32, 48, 32, 46, 10]⟩, .string ⟨#[119, 114, 105, 116, 101, 32, 49, 50, 51, 52, 53, 54, 55, 56, 57, 48, 49, 50, 51, 52, 53, 54, 55, 56, 57, 32, 48, 32, 48, 32, 48, 32, 48, 32, 46, 10]⟩, .string ⟨#[119, 114, 105, 116, 101, 32, 48, 32, 48, 32, 48, 32, 45, 32, 48, 32, 46, 10]⟩, .string ⟨#[119, 114, 105, 116, 101, 32, 48, 32, 48, 32, 48, 32, 45, 48, 32, 48, 32, 46, 10]⟩, .string ⟨#[119, 114, 105, 116, 101, 32, 48, 32, 48, 32, 48, 32, 45, 49, 48, 48, 49, 32, 48, 32, 46, 10]⟩, .string ⟨#[119, 114, 105, 116, 101, 32, 48, 32, 48, 32, 48, 32, 43, 49, 32, 48, 32, 46, 10]⟩, .string ⟨#[10]⟩, .string ⟨#[119, 114, 105, 116, 101, 32, 48, 32, 48, 32, 48, 32, 48, 32, 48, 32, 46, 48, 65, 10]⟩, .string ⟨#[101, 114, 97, 115, 101, 32, 48, 32, 48, 32, 48, 32, 48, 32, 48, 32, 46, 10]⟩] 9 (0, 0)) := blk_new w5 _
  have hB6 := below_alloc (Below.refl w5.heap.size w5) (.cells #[.string ⟨#[119, 114, 105, 116, 101]⟩, .string ⟨#[119, 114, 105, 116, 101, 32, 48, 32, 48, 32, 48, 32, 48, 32, 48, 32, 46]⟩, .string ⟨#[119, 114, 105, 116, 101, 32, 48, 32, 48, 32, 48, 32, 48, 32, 48, 10]⟩, .string ⟨#[119, 114, 105, 116, 101, 32, 48, 32, 48, 32, 48, 32, 48, 32, 48, 32, 46, 48, 10]⟩, .string ⟨#[119, 114, 105, 116, 101, 32, 48, 32, 48, 32, 48, 32, 48, 32, 48, 32, 48, 48, 10]⟩, .string ⟨#[119, 114, 105, 116, 101, 32, 48, 48, 32, 48, 32, 48, 32, 48, 32, 48, 32, 46, 10]⟩, .string ⟨#[119, 114, 105, 116, 101, 32, 49, 50, 51, 52, 53, 54, 55, 56, 57, 48, 49, 50, 51, 52, 53, 54, 55, 56, 57, 32, 48, 32, 48, 32, 48, 32, 48, 32, 46, 10]⟩, .string ⟨#[119, 114, 105, 116, 101, 32, 48, 32, 48, 32, 48, 32, 45, 32, 48, 32, 46, 10]⟩, .string ⟨#[119, 114, 105, 116, 101, 32, 48, 32, 48, 32, 48, 32, 45, 48, 32, 48, 32, 46, 10]⟩, .string ⟨#[119, 114, 105, 116, 101, 32, 48, 32, 48, 32, 48, 32, 45, 49, 48, 48, 49, 32, 48, 32, 46, 10]⟩, .string ⟨#[119, 114, 105, 116, 101, 32, 48, 32, 48, 32, 48, 32, 43, 49, 32, 48, 32, 46, 10]⟩, .string ⟨#[10]⟩, .string ⟨#[119, 114, 105, 116, 101, 32, 48, 32, 48, 32, 48, 32, 48, 32, 48, 32, 46, 48, 65, 10]⟩, .string ⟨#[101, 114, 97, 115, 101, 32, 48, 32, 48, 32, 48, 32, 48, 32, 48, 32, 46, 10]⟩] 9)
  generalize w5.alloc (.cells #[.string ⟨#[119, 114, 105, 116, 101]⟩, .string ⟨#[119, 114, 105, 116, 101, 32, 48, 32, 48, 32, 48, 32, 48, 32, 48, 32, 46]⟩, .string ⟨#[119, 114, 105, 116, 101, 32, 48, 32, 48, 32, 48, 32, 48, 32, 48, 10]⟩, .string ⟨#[119, 114, 105, 116, 101, 32, 48, 32, 48, 32, 48, 32, 48, 32, 48, 32, 46, 48, 10]⟩, .string ⟨#[119, 114, 105, 116, 101, 32, 48, 32, 48, 32, 48, 32, 48, 32, 48, 32, 48, 48, 10]⟩, .string ⟨#[119, 114, 105, 116, 101, 32, 48, 48, 32, 48, 32, 48, 32, 48, 32, 48, 32, 46, 10]⟩, .string ⟨#[119, 114, 105, 116, 101, 32, 49, 50, 51, 52, 53, 54, 55, 56, 57, 48, 49, 50, 51, 52, 53, 54, 55, 56, 57, 32, 48, 32, 48, 32, 48, 32, 48, 32, 46, 10]⟩, .string ⟨#[119, 114, 105, 116, 101, 32, 48, 32, 48, 32, 48, 32, 45, 32, 48, 32, 46, 10]⟩, .string ⟨#[119, 114, 105, 116, 101, 32, 48, 32, 48, 32, 48, 32, 45, 48, 32, 48, 32, 46, 10]⟩, .string ⟨#[119, 114, 105, 116, 101, 32, 48, 32, 48, 32, 48, 32, 45, 49, 48, 48, 49, 32, 48, 32, 46, 10]⟩, .string ⟨#[119, 114, 105, 116, 101, 32, 48, 32, 48, 32, 48, 32, 43, 49, 32, 48, 32, 46, 10]⟩, .string ⟨#[10]⟩, .string ⟨#[119, 114, 105, 116, 101, 32, 48, 32, 48, 32, 48, 32, 48, 32, 48, 32, 46, 48, 65, 10]⟩, .string ⟨#[101, 114, 97, 115, 101, 32, 48, 32, 48, 32, 48, 32, 48, 32, 48, 32, 46, 10]⟩] 9) = w6 at *
  obtain ⟨q, hq⟩ : ∃ q, w5.heap.size = q := ⟨_, rfl⟩
  rw [hq] at hq6 ⊢
  rw [bad_block] at hq6
  have Hq6 := Aside0.mk hq6
  have HB6 : Aside0 (Below b w w6) := ⟨Below.trans HB5.out (hB6.mono (by have := HB5.out.size; have := HBs.out; omega))⟩
  have HE6 : Aside0 (EvsR (some ⟨g, 0, none⟩) (kItems p) w6) := ⟨HE5.out.below hB6⟩
  have HM6 : Aside0 (EvsR A its w6) := ⟨HM.out.below hB6⟩
  clear hq6 hB6 hq HE5 HM HB5
  go_wp2
  go_loopw [6] (fun v6 wr => ∃ k : Nat, k ≤ 14 ∧ v6 = .int .i64 (k : Int) ∧ Aside0 (Below w6.heap.size w6 wr)) (fun v6 _ => 14 - (intOf v6).toNat)
  case atStart => exact ⟨0, by decide, rfl, ⟨Below.refl _ _⟩⟩
  case round =>
    obtain ⟨k, hk, rfl, HBr⟩ := hrel
    have HBB : Aside0 (Below b w wr) := ⟨Below.trans HB6.out (HBr.out.mono (by have := HB6.out.size; have := HBs.out; omega))⟩
    have HGr : Aside0 (GV wr) := ⟨HG.out.below (by rw [HBs.out]; exact HBB.out)⟩
    by_cases ck : k < 14
    · have cki : (k : Int) < 14 := by omega
      have hc : wr.cell? ⟨q, k, none⟩ = some (strV (badL.getD k [])) := (HBr.out.cell (p := ⟨q, k, none⟩) (blk_lt Hq6.out)).trans (piece_cell Hq6.out (show k < badL.length from ck))
      have HR := Aside0.mk (readBad (badL.getD k []) (bad_none ck) (bad_len ck) wr HGr.out)
      unfold strV at hc
      generalize (⟨(badL.getD k []).toArray⟩ : ByteArray) = S at *
      clear HBB HGr
      go_wp2_with (first | (go_at_call 7; (refine HR.out.mono ?_); rintro o w7 ⟨rfl, HB7⟩))
      have HB8 : Aside0 (Below w6.heap.size w6 w7) := ⟨Below.trans HBr.out (HB7.out.mono HBr.out.size)⟩
      clear HBr HB7 hc HR
      go_roundw
      case rel => exact ⟨k + 1, ck, rfl, HB8⟩
      case measure => simp [intOf]; omega
    · obtain rfl : k = 14 := by omega
      have HE7 : Aside0 (EvsR (some ⟨g, 0, none⟩) (kItems p) wr) := ⟨HE6.out.below HBr.out⟩
      have HM7 : Aside0 (EvsR A its wr) := ⟨HM6.out.below HBr.out⟩
      have HRn := Aside0.mk (readOk [] [] rfl (by decide) wr HGr.out)
      clear HE6 HM6 HBr HB6 Hq6
      go_upto_region 14 with (first | (go_at_call 7; (refine HRn.out.mono ?_); rintro o w7 ⟨An, cn, itn, hin, rfl, -, HB7⟩))
      have HE8 : Aside0 (EvsR (some ⟨g, 0, none⟩) (kItems p) w7) := ⟨HE7.out.below HB7.out⟩
      have HB8 : Aside0 (Below b w w7) := ⟨Below.trans HBB.out (HB7.out.mono (by have := HBB.out.size; have := HBs.out; omega))⟩
      have HT := Aside0.mk (textC (some ⟨g, 0, none⟩) 8 (kItems p) w7 (HG.out.below (by rw [HBs.out]; exact HB8.out)) HE8.out (by simp [kItems]))
      rw [k_items] at HT
      have HM8 : Aside0 (EvsR A its w7) := ⟨HM7.out.below HB7.out⟩
      clear HE7 HE8 HM7 HB7 HBB HGr HRn
      obtain ⟨u0, u1, u2, rfl⟩ : ∃ u0 u1 u2, its = [(⟨1, 3, 0, 0, 0, 0, [0, 255]⟩, u0), (⟨6, 0, 7, 9, 13875379345695965184, 4652007308841189376, []⟩, u1), (⟨7, 0, 0, 0, 0, 0, []⟩, u2)] := by
        match its, hi with
        | [(e0, u0), (e1, u1), (e2, u2)], hi => cases hi; exact ⟨u0, u1, u2, rfl⟩
      obtain ⟨-, ⟨A0, c0, hu0, hC0⟩, ad, rfl, hAt0⟩ := HM8.out 0 _ rfl
      obtain ⟨-, -, ad', had', hAt1⟩ := HM8.out 1 _ rfl
      cases had'
      have HK := Aside0.mk (fun W (hW : Below w7.heap.size w7 W) => And.intro (hAt0.below hW).c5 (And.intro (hAt1.below hW).c4 (Kd.C_below hC0 hW)))
      dsimp only at HK hu0
      subst hu0
      have e0 : ad.add (0 * 6) = ad := Addr.add_zero' ad
      rw [e0] at HK
      clear HM8 hC0 hAt0 hAt1 e0 hi hin
      have HK2 : Aside0 (∀ W, Below w7.heap.size w7 W → W.cell? ⟨ad.block, ad.off + 5, none⟩ = some (.slice A0 2 c0) ∧ W.cell? ⟨ad.block, ad.off + 6 + 4, none⟩ = some (.complex .f64 13875379345695965184 4652007308841189376) ∧ True) := ⟨fun W hW => by
        obtain ⟨m5, m4, -⟩ := HK.out W hW
        have e1 : (ad.add (1 * 6)).block = ad.block := by simp [Addr.add]
        have e2 : (ad.add (1 * 6)).off = ad.off + 6 := by simp [Addr.add]
        rw [e1, e2] at m4
        exact ⟨m5, m4, trivial⟩⟩
      have hs2 : strOfNums [0, 255] = ⟨#[0, 255]⟩ := by kernel_rfl
      have hrd : ReadsInt w7 .u8 A0 2 [0, 255] := by
        have h1 := (HK.out w7 (Below.refl _ _)).2.2
        exact Kd.reads_of_C (d := (0 : Int)) h1
      go_wp2_with (first | (go_at_call 8; (refine HT.out.mono ?_); rintro o w8 ⟨rfl, HB9⟩; obtain ⟨m5, m4, mC⟩ := HK2.out _ HB9.out; have hst := string_of_reads (src := 29) (dst := 9) Tryd.underlying29 Tryd.underlying5 Tryd.underlying9 (c := c0) (hrd.below HB9.out); rw [hs2] at hst))
      go_ret
      exact ⟨rfl, ⟨by rw [HBs.out]; exact Below.trans HB8.out (HB9.out.mono (by have := HB8.out.size; have := HBs.out; omega))⟩⟩
end Go.Proofs.YthdmeffjiljdeaaDoor.M
