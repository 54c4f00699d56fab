/- What package geo's functions, and the document's own, come to: by hand. -/
import Derived.Test.YtpfgciidpjmenaaMx1
import Derived.Test.YtpfgciidpjmenaaMx2
import Derived.OpenShut
set_option linter.unusedVariables false
set_option linter.unusedSimpArgs false
namespace Go.Proofs.Ytpfgciidpjmenaa.Pure
open Go.RowKit Go.Proofs.Ytpfgciidpjmenaa.M Go.Proofs.YtpfgciidpjmenaaW.PrintWords Go.Proofs.YtpfgciidpjmenaaW.PrintLast

theorem w64 {x : Int} (h0 : -9223372036854775808 ≤ x) (h1 : x ≤ 9223372036854775807) : wrap64 x = x := by unfold wrap64; omega
theorem Ev.one {α : Type} {g : Nat → Option α} {r : α} (h : Ev (fun k => g (k + 1)) r) : Ev g r := Ev.step (fun _ => rfl) h
/-- a geometry that may be -/
def May (B P W K : Int) : Prop := 4 ≤ B ∧ B ≤ 64 ∧ 2 ≤ P ∧ P ≤ 32 ∧ 1 ≤ W ∧ W ≤ 4 ∧ 1 ≤ K ∧ K ≤ 64 ∧ 8 < W * K
instance (B P W K : Int) : Decidable (May B P W K) := by unfold May; exact inferInstance
theorem prod_bd {a b m n : Int} (h0 : 0 ≤ a) (h1 : a ≤ m) (h2 : 0 ≤ b) (h3 : b ≤ n) : 0 ≤ a * b ∧ a * b ≤ m * n :=
  ⟨Int.mul_nonneg h0 h2, Int.mul_le_mul h1 h3 h2 (by omega)⟩
theorem wk {W K : Int} (h1 : 1 ≤ W) (h2 : W ≤ 4) (h3 : 1 ≤ K) (h4 : K ≤ 64) : wrap64 (W * K) = W * K := by
  have := prod_bd (a := W) (b := K) (m := 4) (n := 64) (by omega) h2 (by omega) h4
  exact w64 (by omega) (by omega)
theorem within_is (a l m : Int) : geo_within.f a l m = some (decide (l ≤ a ∧ a ≤ m)) := by
  unfold geo_within.f
  by_cases c : a ≥ l
  · rw [if_pos c]; congr 1; by_cases d : a ≤ m <;> simp [d, c]
  · rw [if_neg c]; congr 1; simp; omega
theorem may_is (B P W K : Int) : geo_May.f B P W K = some (decide (May B P W K)) := by
  unfold geo_May.f
  simp only [within_is, Option.bind_some, decide_eq_true_eq]
  by_cases c1 : 4 ≤ B ∧ B ≤ 64
  · by_cases c2 : 2 ≤ P ∧ P ≤ 32
    · by_cases c3 : 1 ≤ W ∧ W ≤ 4
      · by_cases c4 : 1 ≤ K ∧ K ≤ 64
        · simp only [if_pos c1, if_pos c2, if_pos c3, if_pos c4, wk c3.1 c3.2 c4.1 c4.2]
          congr 1
          by_cases c5 : 8 < W * K
          · rw [decide_eq_true (show W * K > 8 from c5), decide_eq_true]; exact ⟨c1.1, c1.2, c2.1, c2.2, c3.1, c3.2, c4.1, c4.2, c5⟩
          · rw [decide_eq_false (show ¬ W * K > 8 from c5), decide_eq_false]; exact fun h => c5 h.2.2.2.2.2.2.2.2
        · simp only [if_pos c1, if_pos c2, if_pos c3, if_neg c4]
          rw [decide_eq_false]; exact fun h => c4 ⟨h.2.2.2.2.2.2.1, h.2.2.2.2.2.2.2.1⟩
      · simp only [if_pos c1, if_pos c2, if_neg c3]
        rw [decide_eq_false]; exact fun h => c3 ⟨h.2.2.2.2.1, h.2.2.2.2.2.1⟩
    · simp only [if_pos c1, if_neg c2]
      rw [decide_eq_false]; exact fun h => c2 ⟨h.2.2.1, h.2.2.2.1⟩
  · simp only [if_neg c1]
    rw [decide_eq_false]; exact fun h => c1 ⟨h.1, h.2.1⟩
theorem refmay_is (B P W K : Int) : blackboardref1_GeoMay.f B P W K = some (decide (May B P W K)) := by
  unfold blackboardref1_GeoMay.f
  by_cases c1 : B ≥ 4
  · by_cases c2 : B ≤ 64
    · by_cases c3 : P ≥ 2
      · by_cases c4 : P ≤ 32
        · by_cases c5 : W ≥ 1
          · by_cases c6 : W ≤ 4
            · by_cases c7 : K ≥ 1
              · by_cases c8 : K ≤ 64
                · simp only [if_pos c1, if_pos c2, if_pos c3, if_pos c4, if_pos c5, if_pos c6, if_pos c7, if_pos c8, wk c5 c6 c7 c8]
                  congr 1
                  by_cases c9 : 8 < W * K
                  · rw [decide_eq_true (show W * K > 8 from c9), decide_eq_true]; exact ⟨c1, c2, c3, c4, c5, c6, c7, c8, c9⟩
                  · rw [decide_eq_false (show ¬ W * K > 8 from c9), decide_eq_false]; exact fun h => c9 h.2.2.2.2.2.2.2.2
                · simp only [if_pos c1, if_pos c2, if_pos c3, if_pos c4, if_pos c5, if_pos c6, if_pos c7, if_neg c8]
                  rw [decide_eq_false]; exact fun h => c8 h.2.2.2.2.2.2.2.1
              · simp only [if_pos c1, if_pos c2, if_pos c3, if_pos c4, if_pos c5, if_pos c6, if_neg c7]
                rw [decide_eq_false]; exact fun h => c7 h.2.2.2.2.2.2.1
            · simp only [if_pos c1, if_pos c2, if_pos c3, if_pos c4, if_pos c5, if_neg c6]
              rw [decide_eq_false]; exact fun h => c6 h.2.2.2.2.2.1
          · simp only [if_pos c1, if_pos c2, if_pos c3, if_pos c4, if_neg c5]
            rw [decide_eq_false]; exact fun h => c5 h.2.2.2.2.1
        · simp only [if_pos c1, if_pos c2, if_pos c3, if_neg c4]
          rw [decide_eq_false]; exact fun h => c4 h.2.2.2.1
      · simp only [if_pos c1, if_pos c2, if_neg c3]
        rw [decide_eq_false]; exact fun h => c3 h.2.2.1
    · simp only [if_pos c1, if_neg c2]
      rw [decide_eq_false]; exact fun h => c2 h.2.1
  · simp only [if_neg c1]
    rw [decide_eq_false]; exact fun h => c1 h.1

section
variable {B P W K : Int}
theorem bp (h : May B P W K) : wrap64 (B * P) = B * P ∧ 0 ≤ B * P ∧ B * P ≤ 2048 := by
  have := prod_bd (a := B) (b := P) (m := 64) (n := 32) (by have := h.1; omega) h.2.1 (by have := h.2.2.1; omega) h.2.2.2.1
  exact ⟨w64 (by omega) (by omega), this.1, this.2⟩
theorem count_yes (h : May B P W K) : geo_Count.f B P W K = some (B * P) := by
  unfold geo_Count.f
  rw [may_is, decide_eq_true h]
  simp only [Option.bind_some, if_true, (bp h).1]
theorem count_no (h : ¬ May B P W K) : geo_Count.f B P W K = some 0 := by
  unfold geo_Count.f
  rw [may_is, decide_eq_false h]
  simp
theorem place_in (h : May B P W K) {n : Int} (h0 : 0 ≤ n) (h1 : n < B * P) : geo_Place.f B P W K n = some (n / P, n % P, true) := by
  unfold geo_Place.f
  have hp := h.2.2.1
  have hb := (bp h).2
  have hP0 : ¬ P = 0 := by omega
  rw [if_neg (by omega), count_yes h]
  simp only [Option.bind_some]
  rw [if_neg (by omega), if_neg hP0, Int.tdiv_eq_ediv_of_nonneg h0, Int.tmod_eq_emod_of_nonneg h0]
  have : 0 ≤ n / P ∧ n / P ≤ n := ⟨Int.ediv_nonneg h0 (by omega), Int.ediv_le_self _ h0⟩
  rw [w64 (x := n / P) (by omega) (by omega)]
theorem place_out (h : May B P W K) {n : Int} (h1 : n < 0 ∨ B * P ≤ n) : geo_Place.f B P W K n = some (0, 0, false) := by
  unfold geo_Place.f
  by_cases c : n < 0
  · rw [if_pos c]
  · rw [if_neg c, count_yes h]
    simp only [Option.bind_some]
    rw [if_pos (by omega)]
theorem place_no (h : ¬ May B P W K) (n : Int) : geo_Place.f B P W K n = some (0, 0, false) := by
  unfold geo_Place.f
  by_cases c : n < 0
  · rw [if_pos c]
  · rw [if_neg c, count_no h]
    simp only [Option.bind_some]
    rw [if_pos (by omega)]
theorem number_in (h : May B P W K) {b p : Int} (h0 : 0 ≤ b) (h1 : b < B) (h2 : 0 ≤ p) (h3 : p < P) : geo_Number.f B P W K b p = some (b * P + p, true) := by
  unfold geo_Number.f
  have := h.2.1
  have := h.2.2.2.1
  have hb := prod_bd (a := b) (b := P) (m := 64) (n := 32) h0 (by omega) (by omega) h.2.2.2.1
  rw [may_is, decide_eq_true h]
  simp only [Option.bind_some, if_true]
  rw [if_neg (by omega), if_neg (by omega), if_neg (by omega), if_neg (by omega), w64 (x := b * P) (by omega) (by omega), w64 (x := b * P + p) (by omega) (by omega)]
theorem number_out {b p : Int} (h : ¬ (May B P W K ∧ 0 ≤ b ∧ b < B ∧ 0 ≤ p ∧ p < P)) : geo_Number.f B P W K b p = some (0, false) := by
  unfold geo_Number.f
  rw [may_is]
  simp only [Option.bind_some]
  by_cases c0 : May B P W K
  · rw [decide_eq_true c0, if_pos rfl]
    by_cases c1 : b < 0
    · rw [if_pos c1]
    · rw [if_neg c1]
      by_cases c2 : b ≥ B
      · rw [if_pos c2]
      · rw [if_neg c2]
        by_cases c3 : p < 0
        · rw [if_pos c3]
        · rw [if_neg c3, if_pos]
          by_cases c4 : p < P
          · exact absurd ⟨c0, by omega, by omega, by omega, c4⟩ h
          · omega
  · rw [decide_eq_false c0]; rfl
theorem cells_yes (h : May B P W K) : geo_Cells.f B P W K = some (W * (K + 16)) := by
  unfold geo_Cells.f
  have h1 := h.2.2.2.2.1
  have h2 := h.2.2.2.2.2.1
  have h3 := h.2.2.2.2.2.2.1
  have h4 := h.2.2.2.2.2.2.2.1
  have := prod_bd (a := W) (b := K + 16) (m := 4) (n := 80) (by omega) (by omega) (by omega) (by omega)
  rw [may_is, decide_eq_true h]
  simp only [Option.bind_some, if_true]
  rw [w64 (x := K + 16) (by omega) (by omega), w64 (x := W * (K + 16)) (by omega) (by omega)]
theorem cells_no (h : ¬ May B P W K) : geo_Cells.f B P W K = some 0 := by
  unfold geo_Cells.f
  rw [may_is, decide_eq_false h]; rfl
theorem wkb (h : May B P W K) : wrap64 (W * K) = W * K ∧ 8 < W * K ∧ W * K ≤ 256 := by
  have := prod_bd (a := W) (b := K) (m := 4) (n := 64) (by have := h.2.2.2.2.1; omega) h.2.2.2.2.2.1 (by have := h.2.2.2.2.2.2.1; omega) h.2.2.2.2.2.2.2.1
  exact ⟨wk h.2.2.2.2.1 h.2.2.2.2.2.1 h.2.2.2.2.2.2.1 h.2.2.2.2.2.2.2.1, h.2.2.2.2.2.2.2.2, by omega⟩
theorem mnmx {x : Int} (h0 : 0 ≤ x) (h1 : x ≤ 1099511627776) : mn (mx x 0) 1099511627776 = x := by
  unfold mn mx
  rw [if_neg (by omega)]
  by_cases c : x < 0
  · omega
  · rw [if_neg (by omega)]
theorem bytes_is {x : Int} (h0 : 0 ≤ x) (h1 : x ≤ 1000000) : pack_Bytes.f x = some (10 * x / 8) := by
  unfold pack_Bytes.f pack_within.f
  simp only [Option.bind_some]
  rw [mnmx h0 (by omega), w64 (x := x * 10) (by omega) (by omega), Int.tdiv_eq_ediv_of_nonneg (by omega), w64 (by omega) (by omega), Int.mul_comm]
theorem size_yes (h : May B P W K) : geo_Size.f B P W K = some (10 * (W * K - 8) / 8) := by
  unfold geo_Size.f
  have hb := wkb h
  rw [may_is, decide_eq_true h]
  simp only [Option.bind_some, if_true]
  rw [hb.1, w64 (x := W * K - 8) (by omega) (by omega), bytes_is (by omega) (by omega)]
  rfl
theorem size_no (h : ¬ May B P W K) : geo_Size.f B P W K = some 0 := by
  unfold geo_Size.f
  rw [may_is, decide_eq_false h]; rfl
/-- host pages -/
def lpns (B P s : Int) : Int := if 0 ≤ s ∧ s ≤ B - 4 then (B - s - 3) * P / 2 else 0
theorem lpns_yes (h : May B P W K) (s : Int) (hs : -9223372036854775808 ≤ s ∧ s ≤ 9223372036854775807) : geo_Lpns.f B P W K s = some (lpns B P s) := by
  unfold geo_Lpns.f lpns
  have h1 := h.1
  have h2 := h.2.1
  have h3 := h.2.2.1
  have h4 := h.2.2.2.1
  rw [may_is, decide_eq_true h]
  simp only [Option.bind_some, if_true]
  by_cases c1 : s < 0
  · rw [if_pos c1, if_neg (by omega)]
  · rw [if_neg c1]
    by_cases c2 : s > B
    · rw [if_pos c2, if_neg (by omega)]
    · rw [if_neg c2, w64 (x := B - s) (by omega) (by omega), w64 (x := B - s - 3) (by omega) (by omega)]
      by_cases c3 : s ≤ B - 4
      · rw [if_pos ⟨by omega, c3⟩]
        have hm : mx (B - s - 3) 0 = B - s - 3 := by unfold mx; rw [if_neg (by omega)]
        have := prod_bd (a := B - s - 3) (b := P) (m := 64) (n := 32) (by omega) (by omega) (by omega) h4
        rw [hm, w64 (x := (B - s - 3) * P) (by omega) (by omega), Int.tdiv_eq_ediv_of_nonneg (by omega), w64 (by omega) (by omega)]
      · rw [if_neg (by omega)]
        have hm : mx (B - s - 3) 0 = 0 := by unfold mx; split <;> omega
        rw [hm, Int.zero_mul]
        decide +kernel
theorem lpns_no (h : ¬ May B P W K) (s : Int) : geo_Lpns.f B P W K s = some 0 := by
  unfold geo_Lpns.f
  rw [may_is, decide_eq_false h]; rfl
end
theorem awake7 : blackboardlaw7_awake.f = some true := by decide +kernel
end Go.Proofs.Ytpfgciidpjmenaa.Pure
