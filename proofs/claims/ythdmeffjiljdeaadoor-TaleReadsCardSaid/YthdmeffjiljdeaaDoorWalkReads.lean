/- TaleReads: any text gives events whose text it is, or no form; by hand. -/
import Derived.Test.YthdmeffjiljdeaaDoorL
namespace Go.Proofs.YthdmeffjiljdeaaDoor.M
open Go.RowKit Go.Proofs.YthdmeffjiljdeaaDoorW.PrintWords Go.Proofs.YthdmeffjiljdeaaDoorW.PrintLast Go.Proofs.YthdmeffjiljdeaaDoorW.PrintMore Go.Proofs.YthdmeffjiljdeaaDoor.Rw Go.Proofs.YthdmeffjiljdeaaDoor.Fl
set_option linter.unusedVariables false
set_option linter.unusedSimpArgs false
attribute [local go_sem] run_store_complex
theorem read_len : ∀ (n : Nat) (s : List UInt8) (es : List Ev), readF n s = some es → es.length ≤ s.length
  | 0, s, es, h => by cases h
  | n + 1, s, es, h => by
    unfold readF at h
    split at h
    · cases h; exact Nat.zero_le _
    · split at h
      · rename_i h1
        cases hr : readF n (cutF s).2.1 with
        | none => rw [hr] at h; cases h
        | some l =>
          rw [hr] at h
          cases h
          have h2 := read_len n _ _ hr
          have h3 := congrArg List.length (cut_hit h1.1)
          rw [List.length_append, List.length_append] at h3
          simp only [List.length_cons, List.length_nil] at h3 ⊢
          omega
      · cases h
set_option maxRecDepth 20000 in
set_option maxHeartbeats 6400000 in
theorem walkReads (s : ByteArray) (w : World) (h : GV w) : Calls Tryd.prog 3 #[.string s] w fun o w' => o = .returned (.bool true) ∧ Aside0 (Below w.heap.size w w') := by
  have HG := Aside0.mk h
  have HA := Aside0.mk (awakeC w h)
  clear h
  obtain ⟨l, hl⟩ : ∃ l : List UInt8, (⟨l.toArray⟩ : ByteArray) = s := ⟨s.data.toList, by cases s; simp⟩
  have hz : s.size = l.length := by rw [← hl]; exact tl_str l
  by_cases hbig : 10000 < l.length
  · have hb : (10000 : Int) < (s.size : Int) := by omega
    clear hl hz hbig
    go_enter Tryd.func3, Tryd.ntmps3
    go_wp2_with (first | (go_at_call 6; (refine HA.out.mono ?_); rintro o w2 ⟨rfl, HB2⟩))
    go_ret
    exact ⟨rfl, HB2⟩
  · have hb : (s.size : Int) ≤ 10000 := by omega
    have Hl := Aside0.mk hl
    have Hlen : Aside0 (l.length ≤ 10000) := ⟨by omega⟩
    clear hz hl hbig
    cases hr : readF (l.length + 1) l with
    | none =>
      have HR := Aside0.mk (fun W hW => readBad l hr (by have := Hlen.out; omega) W hW)
      rw [Hl.out] at HR
      clear hr
      go_enter Tryd.func3, Tryd.ntmps3
      go_wp2_with (first
        | (go_at_call 6; (refine HA.out.mono ?_); rintro o w2 ⟨rfl, HB2⟩)
        | (go_at_call 7; (refine (HR.out _ (HG.out.below HB2.out)).mono ?_); rintro o w3 ⟨rfl, HB3⟩))
      go_ret
      exact ⟨rfl, ⟨Below.trans HB2.out (HB3.out.mono HB2.out.size)⟩⟩
    | some es =>
      have HR := Aside0.mk (fun W hW => readOk l es hr (by have := Hlen.out; omega) W hW)
      have Hes := Aside0.mk (And.intro (read_text _ _ _ hr) (read_len _ _ _ hr))
      rw [Hl.out] at HR
      clear hr
      have hcmp : (s.toList == s.toList) = true := beq_self_eq_true _
      go_enter Tryd.func3, Tryd.ntmps3
      go_upto_region 8 with (first
        | (go_at_call 6; (refine HA.out.mono ?_); rintro o w2 ⟨rfl, HB2⟩)
        | (go_at_call 7; (refine (HR.out _ (HG.out.below HB2.out)).mono ?_); rintro o w3 ⟨A, c, items, hi, rfl, HE, HB3⟩))
      have hil : es.length = items.length := by rw [← hi, List.length_map]
      have hB3 := Below.trans HB2.out (HB3.out.mono HB2.out.size)
      have HT := Aside0.mk (textC A c items w3 (HG.out.below hB3) HE.out (by rw [← hil]; have h1 := Hes.out.2; have h2 := Hlen.out; omega))
      have ht : textF items = l := by rw [textF_map, hi]; exact Hes.out.1
      rw [← hil, ht] at HT
      unfold strV at HT
      rw [Hl.out] at HT
      have HBB := Aside0.mk hB3
      clear hB3 ht hil hi HB2 HB3
      go_wp2_with (first | (go_at_call 8; (refine HT.out.mono ?_); rintro o w4 ⟨rfl, HB4⟩))
      go_ret
      exact ⟨rfl, ⟨Below.trans HBB.out (HB4.out.mono HBB.out.size)⟩⟩
end Go.Proofs.YthdmeffjiljdeaaDoor.M
