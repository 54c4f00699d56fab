/- Tales: the pieces of a line; what an event is; by hand. -/
import Derived.Test.YthdmeffjiljdeaaDoorE
namespace Go.Proofs.YthdmeffjiljdeaaDoor.M
open Go.RowKit Go.Proofs.YthdmeffjiljdeaaDoorW.PrintWords Go.Proofs.YthdmeffjiljdeaaDoorW.PrintLast Go.Proofs.YthdmeffjiljdeaaDoorW.PrintMore Go.Proofs.YthdmeffjiljdeaaDoor.Rw Go.Proofs.YthdmeffjiljdeaaDoor.Fl
set_option linter.unusedVariables false
set_option linter.unusedSimpArgs false
/-- the pieces between the blanks -/
def spF (s : List UInt8) : List (List UInt8) := Lib.splitK [32] 0 (Lib.countB ⟨s.toArray⟩ ⟨#[32]⟩) s
theorem sp_len (s : List UInt8) : (spF s).length = Lib.countB ⟨s.toArray⟩ ⟨#[32]⟩ + 1 := by
  have h := Lib.splitB_data ⟨#[32]⟩ 0 (Lib.countB ⟨s.toArray⟩ ⟨#[32]⟩) ⟨s.toArray⟩
  have h2 := Lib.splitB_all ⟨#[32]⟩ (by decide) 0 _ ⟨s.toArray⟩ rfl
  have h3 := congrArg List.length h
  rw [List.length_map, h2] at h3
  exact h3.symm
theorem splitC (s : List UInt8) (hs : s.length ≤ 100000) (w : World) (h : GV w) :
    Calls Tryd.prog 19 #[strV s, .string ⟨#[32]⟩] w fun e w' => e = .returned (.slice (some ⟨w.heap.size, 0, none⟩) (spF s).length (spF s).length) ∧ w' = w.alloc (.cells ((spF s).map strV).toArray 9 (0, 0)) := by
  obtain ⟨m, hm⟩ := h.ml
  have hx := Tryd.strings_Split ⟨s.toArray⟩ ⟨#[32]⟩ m w (by rw [tl_str]; omega) hm (by decide)
  have h1 := Lib.splitB_data ⟨#[32]⟩ 0 (Lib.countB ⟨s.toArray⟩ ⟨#[32]⟩) ⟨s.toArray⟩
  have h2 : (spF s).map strV = (Lib.splitB ⟨#[32]⟩ 0 (Lib.countB ⟨s.toArray⟩ ⟨#[32]⟩) ⟨s.toArray⟩).map Value.string := by
    unfold spF
    rw [← h1, List.map_map]
    exact List.map_congr_left (fun x _ => rfl)
  rw [sp_len, h2]
  exact hx
theorem splitK_le (sep : List UInt8) : ∀ (k : Nat) (s : List UInt8), ∀ x ∈ Lib.splitK sep 0 k s, x.length ≤ s.length
  | 0, s, x, hx => by rw [List.mem_singleton.1 hx]; exact Nat.le_refl _
  | k + 1, s, x, hx => by
    unfold Lib.splitK at hx
    split at hx
    · rw [List.mem_singleton.1 hx]; exact Nat.le_refl _
    · rcases List.mem_cons.1 hx with h | h
      · rw [h, List.length_take]; omega
      · have := splitK_le sep k _ x h
        rw [List.length_drop] at this
        omega
theorem sp_le (s : List UInt8) (k : Nat) : ((spF s).getD k []).length ≤ s.length := by
  by_cases h : k < (spF s).length
  · exact splitK_le [32] _ s _ (mem_getD [] h)
  · rw [List.getD_eq_getElem?_getD, List.getElem?_eq_none (by omega)]; exact Nat.zero_le _
/-- what a word does -/
def doF (l : List UInt8) (k : Nat) : Int := match k with | 0 => 0 | n + 1 => if wordF ((n + 1 : Nat) : Int) = l then ((n + 1 : Nat) : Int) else doF l n
def fw (n : Int) : Nat := floatOfInt .f64 n
abbrev ev0 : Ev := ⟨0, 0, 0, 0, 0, 0, []⟩
def okF (l : List (List UInt8)) : Nat → Bool
  | 0 => true
  | n + 1 => okF l n && (numF (l.getD (n + 1) [])).2
def eventF (s : List UInt8) : Ev × Bool :=
  if (spF s).length = 7 then
    let l := spF s
    let n := fun k => (numF (l.getD k [])).1
    let u := unbF (l.getD 6 [])
    let e : Ev := ⟨doF (l.getD 0 []) 7, n 1, n 2, n 3, fw (n 4), fw (n 5), u.1⟩
    (e, okF l 5 && u.2 && (lineF e == s ++ [10]))
  else (ev0, false)
theorem numF_in (l : List UInt8) : -9223372036854775808 ≤ (numF l).1 ∧ (numF l).1 ≤ 9223372036854775807 := by
  unfold numF
  split
  · exact ⟨by decide, by decide⟩
  · split
    · rename_i v hv
      dsimp only
      unfold Lib.atoiAll at hv
      split at hv
      · cases hv
      · dsimp only at hv
        split at hv
        · cases hv
        · cases hv
        · split at hv
          · cases hv
          · split at hv
            · cases hv
            · rename_i u hu h1 h2
              cases hv
              split <;> omega
    · dsimp only
      unfold Lib.atoiSat
      split <;> exact ⟨by decide, by decide⟩
    · exact ⟨by decide, by decide⟩
theorem unhex_len : ∀ (l : List UInt8) (r : List Int), unhex l = some r → 2 * r.length ≤ l.length
  | [], r, h => by cases h; exact Nat.zero_le _
  | [a], r, h => by cases h; exact Nat.zero_le _
  | a :: b :: l, r, h => by
    unfold unhex at h
    split at h
    · cases h
    · cases hx : unhex l with
      | none => rw [hx] at h; cases h
      | some x =>
        rw [hx] at h
        cases h
        have := unhex_len l x hx
        simp only [List.length_cons]
        omega
theorem unb_len (s : List UInt8) : 2 * (unbF s).1.length ≤ s.length := by
  unfold unbF
  split
  · exact Nat.zero_le _
  · split
    · rename_i l h
      have := unhex_len _ _ h
      rw [List.length_tail] at this
      dsimp only
      omega
    · exact Nat.zero_le _
end Go.Proofs.YthdmeffjiljdeaaDoor.M
