/- Printed for this seat by a program of this session (over the kit's print), with contracts of its own laid in. -/
import Derived.Test.YtdgpondnogpolaaMx0
import Derived.Test.YtdgpondnogpolaaMx1
import Derived.Test.YtdgpondnogpolaaMx2
import Derived.Test.YtdgpondnogpolaaMx3
namespace Go.Proofs.Ytdgpondnogpolaa.M
open Go.RowKit Go.Proofs.YtdgpondnogpolaaW.PrintWords Go.Proofs.YtdgpondnogpolaaW.PrintLast Go.Proofs.YtdgpondnogpolaaW.PrintMore
attribute [local go_sem] max2_int min2_int max_two min_two max_three min_three max_four min_four   -- for this text's walks alone
set_option linter.unusedVariables false
set_option linter.unusedSimpArgs false

/-! ### blackboardlaw5_PackBits: function 6 -/
def blackboardlaw5_PackBits.l0 : Nat → Int → Int → List Int → List Int → Int → Option (Bool)
  | 0, _, _, _, _, _ => none
  | k + 1, x5, x6, x7, x8, x9 => if x9 < (x8.length : Int) then (if x9 = (wrap64 (Int.tdiv x6 10)) then (if 0 ≤ (IntKind.u64.wrap (wrap64 (9 - (Int.tmod x6 10)))) then (if 0 ≤ x9 then (if (rd x8 x9) = (shl .u16 1 (IntKind.u64.wrap (wrap64 (9 - (Int.tmod x6 10))))) then (blackboardlaw5_PackBits.l0 k x5 x6 x7 x8 (wrap64 (x9 + 1))) else (some false)) else (none)) else (none)) else (if 0 ≤ x9 then (if (rd x8 x9) = 0 then (blackboardlaw5_PackBits.l0 k x5 x6 x7 x8 (wrap64 (x9 + 1))) else (some false)) else (none))) else ((pack_Unpack.f k x8 x5).bind fun bt254 => (if bt254.2 = 0 then (if (strOfNums bt254.1).toList = (strOfNums x7).toList then ((pack_Symbols.f x5).bind fun t258 => (some ((x8.length : Int) == t258))) else (some false)) else (some false)))
def blackboardlaw5_PackBits.f (k : Nat) (a0 : Int) (a1 : Int) : Option (Bool) := (blackboardlaw5_awake.f k).bind fun t246 => (if t246 = true then (if (wrap64 (8 * (wrap64 (1 + (Int.tmod (wrap64 (a0)) 60))))) = 0 then (none) else (if 0 ≤ (wrap64 (1 + (Int.tmod (wrap64 (a0)) 60))) then (if (wrap64 (1 + (Int.tmod (wrap64 (a0)) 60)) : Int).toNat ≤ 281474976710656 then ((some (List.replicate (wrap64 (1 + (Int.tmod (wrap64 (a0)) 60)) : Int).toNat 0 : List Int)).bind fun y247 => (if 0 ≤ (IntKind.u64.wrap (wrap64 (7 - (Int.tmod (Int.tmod (wrap64 (a1)) (wrap64 (8 * (wrap64 (1 + (Int.tmod (wrap64 (a0)) 60)))))) 8)))) then (if 0 ≤ (wrap64 (Int.tdiv (Int.tmod (wrap64 (a1)) (wrap64 (8 * (wrap64 (1 + (Int.tmod (wrap64 (a0)) 60)))))) 8)) then (if (wrap64 (Int.tdiv (Int.tmod (wrap64 (a1)) (wrap64 (8 * (wrap64 (1 + (Int.tmod (wrap64 (a0)) 60)))))) 8)) < (y247.length : Int) then ((some (y247.set ((wrap64 (Int.tdiv (Int.tmod (wrap64 (a1)) (wrap64 (8 * (wrap64 (1 + (Int.tmod (wrap64 (a0)) 60)))))) 8)) : Int).toNat (shl .u8 1 (IntKind.u64.wrap (wrap64 (7 - (Int.tmod (Int.tmod (wrap64 (a1)) (wrap64 (8 * (wrap64 (1 + (Int.tmod (wrap64 (a0)) 60)))))) 8))))) : List Int)).bind fun y250 => ((pack_Pack.f k y250).bind fun t251 => (blackboardlaw5_PackBits.l0 k (wrap64 (1 + (Int.tmod (wrap64 (a0)) 60))) (Int.tmod (wrap64 (a1)) (wrap64 (8 * (wrap64 (1 + (Int.tmod (wrap64 (a0)) 60)))))) y250 t251 0))) else (none)) else (none)) else (none))) else (none)) else (none))) else (some false))
theorem blackboardlaw5_PackBits.mono_l : ∀ k, (∀ y0 y1 y2 y3 y4, LeO (blackboardlaw5_PackBits.l0 k y0 y1 y2 y3 y4) (blackboardlaw5_PackBits.l0 (k + 1) y0 y1 y2 y3 y4))
  | 0 => fun _ _ _ _ _ r h => by simp [blackboardlaw5_PackBits.l0] at h
  | k + 1 => by
    have ih0 := blackboardlaw5_PackBits.mono_l k
    · intro y0 y1 y2 y3 y4
      unfold blackboardlaw5_PackBits.l0
      repeat' first
      | (with_reducible exact ih0 _ _ _ _ _)
      | (with_reducible exact blackboardlaw5_awake.mono _)
      | (with_reducible exact pack_Pack.mono _ _)
      | (with_reducible exact pack_Unpack.mono _ _ _)
      | (with_reducible exact LeO.refl _)
      | (with_reducible exact LeO.none _)
      | (with_reducible refine LeO.ite ?_ ?_)
      | (with_reducible refine LeO.bind ?_ (fun _ => ?_))
      | exact ih0 _ _ _ _ _
      | exact blackboardlaw5_awake.mono _
      | exact pack_Pack.mono _ _
      | exact pack_Unpack.mono _ _ _
      | exact LeO.none _
      | refine LeO.ite ?_ ?_
      | refine LeO.bind ?_ (fun _ => ?_)
theorem blackboardlaw5_PackBits.mono : ∀ a0 a1 k, LeO (blackboardlaw5_PackBits.f k a0 a1) (blackboardlaw5_PackBits.f (k + 1) a0 a1) := by
  intro a0 a1 k
  have ih0 := blackboardlaw5_PackBits.mono_l k
  unfold blackboardlaw5_PackBits.f
  repeat' first
      | (with_reducible exact ih0 _ _ _ _ _)
      | (with_reducible exact blackboardlaw5_awake.mono _)
      | (with_reducible exact pack_Pack.mono _ _)
      | (with_reducible exact pack_Unpack.mono _ _ _)
      | (with_reducible exact LeO.refl _)
      | (with_reducible exact LeO.none _)
      | (with_reducible refine LeO.ite ?_ ?_)
      | (with_reducible refine LeO.bind ?_ (fun _ => ?_))
      | exact ih0 _ _ _ _ _
      | exact blackboardlaw5_awake.mono _
      | exact pack_Pack.mono _ _
      | exact pack_Unpack.mono _ _ _
      | exact LeO.none _
      | refine LeO.ite ?_ ?_
      | refine LeO.bind ?_ (fun _ => ?_)
set_option maxHeartbeats 8000000 in
set_option maxRecDepth 100000 in
theorem blackboardlaw5_PackBits.calls (k : Nat) (a0 : Int) (a1 : Int) (r : Bool) (w : World) (h : blackboardlaw5_PackBits.f k a0 a1 = some r) :
    Calls Try.prog 6 #[.int .u8 a0, .int .u16 a1] w fun e w' => e = .returned (.bool r) ∧ Below w.heap.size w w' := by
  have HB := Aside0.mk (Below.refl w.heap.size w)
  have H : ((blackboardlaw5_awake.f k).bind fun t246 => (if t246 = true then (if (wrap64 (8 * (wrap64 (1 + (Int.tmod (wrap64 (a0)) 60))))) = 0 then (none) else (if 0 ≤ (wrap64 (1 + (Int.tmod (wrap64 (a0)) 60))) then (if (wrap64 (1 + (Int.tmod (wrap64 (a0)) 60)) : Int).toNat ≤ 281474976710656 then ((some (List.replicate (wrap64 (1 + (Int.tmod (wrap64 (a0)) 60)) : Int).toNat 0 : List Int)).bind fun y247 => (if 0 ≤ (IntKind.u64.wrap (wrap64 (7 - (Int.tmod (Int.tmod (wrap64 (a1)) (wrap64 (8 * (wrap64 (1 + (Int.tmod (wrap64 (a0)) 60)))))) 8)))) then (if 0 ≤ (wrap64 (Int.tdiv (Int.tmod (wrap64 (a1)) (wrap64 (8 * (wrap64 (1 + (Int.tmod (wrap64 (a0)) 60)))))) 8)) then (if (wrap64 (Int.tdiv (Int.tmod (wrap64 (a1)) (wrap64 (8 * (wrap64 (1 + (Int.tmod (wrap64 (a0)) 60)))))) 8)) < (y247.length : Int) then ((some (y247.set ((wrap64 (Int.tdiv (Int.tmod (wrap64 (a1)) (wrap64 (8 * (wrap64 (1 + (Int.tmod (wrap64 (a0)) 60)))))) 8)) : Int).toNat (shl .u8 1 (IntKind.u64.wrap (wrap64 (7 - (Int.tmod (Int.tmod (wrap64 (a1)) (wrap64 (8 * (wrap64 (1 + (Int.tmod (wrap64 (a0)) 60)))))) 8))))) : List Int)).bind fun y250 => ((pack_Pack.f k y250).bind fun t251 => (blackboardlaw5_PackBits.l0 k (wrap64 (1 + (Int.tmod (wrap64 (a0)) 60))) (Int.tmod (wrap64 (a1)) (wrap64 (8 * (wrap64 (1 + (Int.tmod (wrap64 (a0)) 60)))))) y250 t251 0))) else (none)) else (none)) else (none))) else (none)) else (none))) else (some false))) = some r := h
  clear h
  replace H := Option.bind_eq_some_iff.mp H
  obtain ⟨t246, A30, H⟩ := H
  replace H : (if t246 = true then (if (wrap64 (8 * (wrap64 (1 + (Int.tmod (wrap64 (a0)) 60))))) = 0 then (none) else (if 0 ≤ (wrap64 (1 + (Int.tmod (wrap64 (a0)) 60))) then (if (wrap64 (1 + (Int.tmod (wrap64 (a0)) 60)) : Int).toNat ≤ 281474976710656 then ((some (List.replicate (wrap64 (1 + (Int.tmod (wrap64 (a0)) 60)) : Int).toNat 0 : List Int)).bind fun y247 => (if 0 ≤ (IntKind.u64.wrap (wrap64 (7 - (Int.tmod (Int.tmod (wrap64 (a1)) (wrap64 (8 * (wrap64 (1 + (Int.tmod (wrap64 (a0)) 60)))))) 8)))) then (if 0 ≤ (wrap64 (Int.tdiv (Int.tmod (wrap64 (a1)) (wrap64 (8 * (wrap64 (1 + (Int.tmod (wrap64 (a0)) 60)))))) 8)) then (if (wrap64 (Int.tdiv (Int.tmod (wrap64 (a1)) (wrap64 (8 * (wrap64 (1 + (Int.tmod (wrap64 (a0)) 60)))))) 8)) < (y247.length : Int) then ((some (y247.set ((wrap64 (Int.tdiv (Int.tmod (wrap64 (a1)) (wrap64 (8 * (wrap64 (1 + (Int.tmod (wrap64 (a0)) 60)))))) 8)) : Int).toNat (shl .u8 1 (IntKind.u64.wrap (wrap64 (7 - (Int.tmod (Int.tmod (wrap64 (a1)) (wrap64 (8 * (wrap64 (1 + (Int.tmod (wrap64 (a0)) 60)))))) 8))))) : List Int)).bind fun y250 => ((pack_Pack.f k y250).bind fun t251 => (blackboardlaw5_PackBits.l0 k (wrap64 (1 + (Int.tmod (wrap64 (a0)) 60))) (Int.tmod (wrap64 (a1)) (wrap64 (8 * (wrap64 (1 + (Int.tmod (wrap64 (a0)) 60)))))) y250 t251 0))) else (none)) else (none)) else (none))) else (none)) else (none))) else (some false)) = some r := H
  have A3 := Aside0.mk A30
  clear A30
  by_cases c4 : t246 = true
  · subst c4
    have H1 : (if (wrap64 (8 * (wrap64 (1 + (Int.tmod (wrap64 (a0)) 60))))) = 0 then (none) else (if 0 ≤ (wrap64 (1 + (Int.tmod (wrap64 (a0)) 60))) then (if (wrap64 (1 + (Int.tmod (wrap64 (a0)) 60)) : Int).toNat ≤ 281474976710656 then ((some (List.replicate (wrap64 (1 + (Int.tmod (wrap64 (a0)) 60)) : Int).toNat 0 : List Int)).bind fun y247 => (if 0 ≤ (IntKind.u64.wrap (wrap64 (7 - (Int.tmod (Int.tmod (wrap64 (a1)) (wrap64 (8 * (wrap64 (1 + (Int.tmod (wrap64 (a0)) 60)))))) 8)))) then (if 0 ≤ (wrap64 (Int.tdiv (Int.tmod (wrap64 (a1)) (wrap64 (8 * (wrap64 (1 + (Int.tmod (wrap64 (a0)) 60)))))) 8)) then (if (wrap64 (Int.tdiv (Int.tmod (wrap64 (a1)) (wrap64 (8 * (wrap64 (1 + (Int.tmod (wrap64 (a0)) 60)))))) 8)) < (y247.length : Int) then ((some (y247.set ((wrap64 (Int.tdiv (Int.tmod (wrap64 (a1)) (wrap64 (8 * (wrap64 (1 + (Int.tmod (wrap64 (a0)) 60)))))) 8)) : Int).toNat (shl .u8 1 (IntKind.u64.wrap (wrap64 (7 - (Int.tmod (Int.tmod (wrap64 (a1)) (wrap64 (8 * (wrap64 (1 + (Int.tmod (wrap64 (a0)) 60)))))) 8))))) : List Int)).bind fun y250 => ((pack_Pack.f k y250).bind fun t251 => (blackboardlaw5_PackBits.l0 k (wrap64 (1 + (Int.tmod (wrap64 (a0)) 60))) (Int.tmod (wrap64 (a1)) (wrap64 (8 * (wrap64 (1 + (Int.tmod (wrap64 (a0)) 60)))))) y250 t251 0))) else (none)) else (none)) else (none))) else (none)) else (none))) = some r := by rw [if_pos rfl] at H; exact H
    clear H
    have H := H1
    clear H1
    by_cases c5 : (wrap64 (8 * (wrap64 (1 + (Int.tmod (wrap64 (a0)) 60))))) = 0
    · rw [if_pos c5] at H
      exact absurd H (by simp)
    · rw [if_neg c5] at H
      have c5b0 : ((wrap64 (8 * (wrap64 (1 + (Int.tmod (wrap64 (a0)) 60))))) == 0) = false := beq_eq_false_iff_ne.mpr c5
      have c5b1 : ((wrap64 (8 * (wrap64 (1 + (Int.tmod (wrap64 (a0)) 60))))) != 0) = true := bne_iff_ne.mpr c5
      obtain ⟨ji6, hji6⟩ : ∃ j_ : Int, (wrap64 (1 + (Int.tmod (wrap64 (a0)) 60))) = j_ := ⟨_, rfl⟩
      replace H : (if 0 ≤ (ji6) then (if (ji6 : Int).toNat ≤ 281474976710656 then ((some (List.replicate (ji6 : Int).toNat 0 : List Int)).bind fun y247 => (if 0 ≤ (IntKind.u64.wrap (wrap64 (7 - (Int.tmod (Int.tmod (wrap64 (a1)) (wrap64 (8 * (ji6)))) 8)))) then (if 0 ≤ (wrap64 (Int.tdiv (Int.tmod (wrap64 (a1)) (wrap64 (8 * (ji6)))) 8)) then (if (wrap64 (Int.tdiv (Int.tmod (wrap64 (a1)) (wrap64 (8 * (ji6)))) 8)) < (y247.length : Int) then ((some (y247.set ((wrap64 (Int.tdiv (Int.tmod (wrap64 (a1)) (wrap64 (8 * (ji6)))) 8)) : Int).toNat (shl .u8 1 (IntKind.u64.wrap (wrap64 (7 - (Int.tmod (Int.tmod (wrap64 (a1)) (wrap64 (8 * (ji6)))) 8))))) : List Int)).bind fun y250 => ((pack_Pack.f k y250).bind fun t251 => (blackboardlaw5_PackBits.l0 k ji6 (Int.tmod (wrap64 (a1)) (wrap64 (8 * (ji6)))) y250 t251 0))) else (none)) else (none)) else (none))) else (none)) else (none)) = some r := by first | (rw [hji6] at H; exact H) | (simp only [hji6] at H ⊢; exact H)
      (try rw [hji6] at c5b0)
      (try rw [hji6] at c5b1)
      (try rw [hji6] at A3)
      have hji6w : (IntKind.i64.wrap (1 + (Int.tmod (wrap64 (a0)) 60))) = ji6 := (i64_w _).trans hji6
      by_cases c7 : 0 ≤ (ji6)
      · rw [if_pos c7] at H
        have c7b0 := eq_true c7
        have c7b1 : decide (0 ≤ (ji6)) = true := decide_eq_true c7
        clear c7
        by_cases c8 : (ji6 : Int).toNat ≤ 281474976710656
        · rw [if_pos c8] at H
          have c8b0 := eq_true c8
          have c8b1 : decide ((ji6 : Int).toNat ≤ 281474976710656) = true := decide_eq_true c8
          clear c8
          obtain ⟨y247, hy247⟩ : ∃ y_ : List Int, y_ = (List.replicate (ji6 : Int).toNat 0) := ⟨_, rfl⟩
          replace H : (if 0 ≤ (IntKind.u64.wrap (wrap64 (7 - (Int.tmod (Int.tmod (wrap64 (a1)) (wrap64 (8 * (ji6)))) 8)))) then (if 0 ≤ (wrap64 (Int.tdiv (Int.tmod (wrap64 (a1)) (wrap64 (8 * (ji6)))) 8)) then (if (wrap64 (Int.tdiv (Int.tmod (wrap64 (a1)) (wrap64 (8 * (ji6)))) 8)) < (y247.length : Int) then ((some (y247.set ((wrap64 (Int.tdiv (Int.tmod (wrap64 (a1)) (wrap64 (8 * (ji6)))) 8)) : Int).toNat (shl .u8 1 (IntKind.u64.wrap (wrap64 (7 - (Int.tmod (Int.tmod (wrap64 (a1)) (wrap64 (8 * (ji6)))) 8))))) : List Int)).bind fun y250 => ((pack_Pack.f k y250).bind fun t251 => (blackboardlaw5_PackBits.l0 k ji6 (Int.tmod (wrap64 (a1)) (wrap64 (8 * (ji6)))) y250 t251 0))) else (none)) else (none)) else (none)) = some r := by first | (rw [hy247]; with_reducible exact H) | (have H2_ := (Option.bind_some _ _).symm.trans H; rw [hy247]; with_reducible exact H2_) | (have H2_ := (Option.bind_some _ _).symm.trans H; with_reducible exact H2_) | with_reducible exact H | (rw [hy247]; exact H) | exact H
          have Ny247 := Aside0.mk hy247
          clear hy247
          obtain ⟨ji9, hji9⟩ : ∃ j_ : Int, (IntKind.u64.wrap (wrap64 (7 - (Int.tmod (Int.tmod (wrap64 (a1)) (wrap64 (8 * (ji6)))) 8)))) = j_ := ⟨_, rfl⟩
          replace H : (if 0 ≤ (ji9) then (if 0 ≤ (wrap64 (Int.tdiv (Int.tmod (wrap64 (a1)) (wrap64 (8 * (ji6)))) 8)) then (if (wrap64 (Int.tdiv (Int.tmod (wrap64 (a1)) (wrap64 (8 * (ji6)))) 8)) < (y247.length : Int) then ((some (y247.set ((wrap64 (Int.tdiv (Int.tmod (wrap64 (a1)) (wrap64 (8 * (ji6)))) 8)) : Int).toNat (shl .u8 1 (ji9)) : List Int)).bind fun y250 => ((pack_Pack.f k y250).bind fun t251 => (blackboardlaw5_PackBits.l0 k ji6 (Int.tmod (wrap64 (a1)) (wrap64 (8 * (ji6)))) y250 t251 0))) else (none)) else (none)) else (none)) = some r := by first | (rw [hji9] at H; exact H) | (simp only [hji9] at H ⊢; exact H)
          (try rw [hji9] at A3)
          by_cases c10 : 0 ≤ (ji9)
          · rw [if_pos c10] at H
            have c10b0 := eq_true c10
            have c10b1 : decide (0 ≤ (ji9)) = true := decide_eq_true c10
            clear c10
            obtain ⟨ji11, hji11⟩ : ∃ j_ : Int, (shl .u8 1 (ji9)) = j_ := ⟨_, rfl⟩
            replace H : (if 0 ≤ (wrap64 (Int.tdiv (Int.tmod (wrap64 (a1)) (wrap64 (8 * (ji6)))) 8)) then (if (wrap64 (Int.tdiv (Int.tmod (wrap64 (a1)) (wrap64 (8 * (ji6)))) 8)) < (y247.length : Int) then ((some (y247.set ((wrap64 (Int.tdiv (Int.tmod (wrap64 (a1)) (wrap64 (8 * (ji6)))) 8)) : Int).toNat (ji11) : List Int)).bind fun y250 => ((pack_Pack.f k y250).bind fun t251 => (blackboardlaw5_PackBits.l0 k ji6 (Int.tmod (wrap64 (a1)) (wrap64 (8 * (ji6)))) y250 t251 0))) else (none)) else (none)) = some r := by first | (rw [hji11] at H; exact H) | (simp only [hji11] at H ⊢; exact H)
            (try rw [hji11] at A3)
            have hji11_ : (IntKind.u8.wrap (1 * 2 ^ min (ji9).toNat 8)) = ji11 := hji11
            have hji11z : (ji9) ≤ 8 → (IntKind.u8.wrap (1 * 2 ^ (ji9).toNat)) = ji11 := shl_small hji11
            have hji11u : (IntKind.u8.wrap (2 ^ min (ji9).toNat 8)) = ji11 := by have h_ := hji11_; rw [Int.one_mul] at h_; exact h_
            have hji11v : (ji9) ≤ 8 → (IntKind.u8.wrap (2 ^ (ji9).toNat)) = ji11 := fun hle_ => by have h_ := hji11z hle_; rw [Int.one_mul] at h_; exact h_
            obtain ⟨ji12, hji12⟩ : ∃ j_ : Int, (wrap64 (Int.tdiv (Int.tmod (wrap64 (a1)) (wrap64 (8 * (ji6)))) 8)) = j_ := ⟨_, rfl⟩
            replace H : (if 0 ≤ (ji12) then (if (ji12) < (y247.length : Int) then ((some (y247.set ((ji12) : Int).toNat (ji11) : List Int)).bind fun y250 => ((pack_Pack.f k y250).bind fun t251 => (blackboardlaw5_PackBits.l0 k ji6 (Int.tmod (wrap64 (a1)) (wrap64 (8 * (ji6)))) y250 t251 0))) else (none)) else (none)) = some r := by first | (rw [hji12] at H; exact H) | (simp only [hji12] at H ⊢; exact H)
            (try rw [hji12] at A3)
            have hji12w : (IntKind.i64.wrap (Int.tdiv (Int.tmod (wrap64 (a1)) (wrap64 (8 * (ji6)))) 8)) = ji12 := (i64_w _).trans hji12
            by_cases c13 : 0 ≤ (ji12)
            · rw [if_pos c13] at H
              have c13b0 : decide (0 ≤ (ji12)) = true := decide_eq_true c13
              clear c13
              by_cases c14 : (ji12) < (y247.length : Int)
              · rw [if_pos c14] at H
                have c14b0 : decide ((ji12) < (y247.length : Int)) = true := decide_eq_true c14
                clear c14
                obtain ⟨y250, hy250⟩ : ∃ y_ : List Int, y_ = (y247.set ((ji12) : Int).toNat (ji11)) := ⟨_, rfl⟩
                replace H : ((pack_Pack.f k y250).bind fun t251 => (blackboardlaw5_PackBits.l0 k ji6 (Int.tmod (wrap64 (a1)) (wrap64 (8 * (ji6)))) y250 t251 0)) = some r := by first | (rw [hy250]; with_reducible exact H) | (have H2_ := (Option.bind_some _ _).symm.trans H; rw [hy250]; with_reducible exact H2_) | (have H2_ := (Option.bind_some _ _).symm.trans H; with_reducible exact H2_) | with_reducible exact H | (rw [hy250]; exact H) | exact H
                have Ny250 := Aside0.mk hy250
                clear hy250
                replace H := Option.bind_eq_some_iff.mp H
                obtain ⟨t251, A160, H⟩ := H
                replace H : (blackboardlaw5_PackBits.l0 k ji6 (Int.tmod (wrap64 (a1)) (wrap64 (8 * (ji6)))) y250 t251 0) = some r := H
                have A16 := Aside0.mk A160
                clear A160
                have H' := Aside0.mk H
                clear H
                try rw [hji6] at c5
                go_enter Try.func6, Try.ntmps6
                go_wp2_with (first | ((with_reducible refine gate_callee (f := 8) rfl ?_); refine goesL_ (some 13) rfl rfl Try.func8 (by kernel_rfl) rfl #[] rfl (by (try simp only [List.map_toArray, List.map_cons, List.map_nil]); first | done | rfl | (simp only [List.length_drop, List.length_take]; rfl)) ?_; (with_reducible refine (blackboardlaw5_awake.calls k  true _ A3.out).mono ?_); rintro e w17 ⟨rfl, hb⟩; refine ⟨_, rfl, ?_⟩; have n0_ := Aside0.mk (below_step (by repeat (first | (with_reducible first | exact HB.out | apply below_alloc | apply pw_below_drewN | apply below_drew1) | exact HB.out)) hb); clear HB; have HB := n0_; clear n0_; (try clear hb); (try clear hb2); (try clear hk); (try clear hi)) | ((with_reducible refine gate_dst (N := 25) rfl ?_); (try (refine gate_guard (by rfl) ?_; dsimp only)); refine Kd.R_make (Kd.int .u8) _ 5 rfl (N := 25) rfl 22 _ _ rfl ji6 rfl rfl Try.underlying22 (.int .u8 0) 1 info5 rfl (by decide) (by omega) 0 (ok := fun _ => True) (okp := fun _ => True) rfl (fun _ hk => hk) trivial (of_decide_eq_true (by first | (with_reducible assumption) | assumption)) (Nat.le_trans (Nat.mul_le_mul_right _ (of_decide_eq_true (by first | (with_reducible assumption) | assumption) : ji6.toNat ≤ 281474976710656)) (by omega)) (Below.refl _ _) (Nat.le_refl _) ?_; intro v248 w18 ho19 hb hg_ hnew_; clear hg_ hnew_; (first | rw [← Ny247.out] at ho19 | (simp only [Int.reduceToNat] at ho19; rw [← Ny247.out] at ho19)); have n0_ := Aside0.mk (Kd.R_lower ho19 (below_size (by repeat (first | (with_reducible first | exact HB.out | apply below_alloc | apply pw_below_drewN | apply below_drew1) | exact HB.out)))); have n1_ := Aside0.mk (below_step (by repeat (first | (with_reducible first | exact HB.out | apply below_alloc | apply pw_below_drewN | apply below_drew1) | exact HB.out)) hb); clear HB; have HO249 := n0_; have HB := n1_; clear n0_ n1_; clear hb ho19; have p15 : 0 ≤ ((ji12) : Int) := of_decide_eq_true (by first | (with_reducible assumption) | assumption); have q15 : ((ji12) : Int) < ((y247.length : Int) : Int) := of_decide_eq_true (by first | (with_reducible assumption) | assumption); obtain ⟨go15, co15, eo15, gb15, gl15, cl15, HG15⟩ := Kd.R_form HO249.out (by omega); (first | cases eo15 | (injection eo15 with ea_ en_ ec_; (first | subst ea_ | (injection ea_ with ea_; subst ea_)); subst ec_; clear en_)); have GB15 := Aside0.mk gb15; have GG15 := Aside0.mk HG15; clear gb15 gl15 HG15; obtain ⟨hx15_0, hf15_0⟩ := Kd.R_celln 0 HO249.out ((ji12) : Int) p15 q15; replace p15 := eq_true p15; replace q15 := eq_true q15; obtain ⟨hy20_, hz20_⟩ := Kd.R_celln 0 HO249.out ((ji12) : Int) (of_decide_eq_true (by first | (with_reducible assumption) | assumption)) (of_decide_eq_true (by first | (with_reducible assumption) | assumption)); have HP20 := Kd.R_putg HO249.out ((ji12) : Int) ji11) | ((with_reducible refine gate_store (t := 5) (p := 34) rfl ?_); refine store_event (t := 5) (p := 34) (v := ?vo_w21) (w1 := (w18.setCell ⟨go15, ((ji12) : Int).toNat, none⟩ (.int .u8 ji11))) ?hg ?ho ?hn ?hr ?_; (case ho => rfl); (case hg => rfl); (case hn => rfl); (case hr => first | (go_simp; done) | (go_simp; rfl)); intro w21 hw; have hg : w18.grownBy w21 (some go15) := (by rw [hw]; exact HP20.2); have hp_ : Kd.R (Kd.int .u8) 5 w21 w.heap.size (fun _ => True) (.slice (some ⟨go15, 0, none⟩) y247.length co15) y250 := (by rw [hw, Ny250.out]; exact HP20.1); clear HP20; have n0_ := Aside0.mk (hp_); have n1_ := Aside0.mk ((by rw [hw]; exact below_set (HB.out) GB15.out : Below w.heap.size w w21)); clear HO249; clear HB; have HO249 := n0_; have HB := n1_; clear n0_ n1_; clear hg hw hp_) | ((with_reducible refine gate_callee (f := 9) rfl ?_); refine goesL_ (some 36) rfl rfl Try.func9 (by kernel_rfl) rfl #[.slice (some ⟨go15, 0, none⟩) y250.length co15] rfl (by (try simp only [List.map_toArray, List.map_cons, List.map_nil]); first | done | (rw [show y250.length = y247.length from (Kd.R_reads' HO249.out).1.symm] <;> rfl) | rfl | (simp only [List.length_drop, List.length_take]; rfl)) ?_; (with_reducible refine (pack_Pack.calls k _ _ y250 t251 _ ?side1 ?side2 A16.out).mono ?_); (case side1 => repeat (first | exact (Kd.R_reads' HO249.out).2.2 | (with_reducible refine Kd.C_alloc ?_ _) | (with_reducible refine Kd.C_drewN ?_ _) | (with_reducible refine Kd.C_drew ?_))); (case side2 => rw [show y250.length = y247.length from (Kd.R_reads' HO249.out).1.symm]; exact (Kd.R_reads' HO249.out).2.1); rintro e w22 ⟨v252, rfl, ho0, hb⟩; refine ⟨_, rfl, ?_⟩; have n0_ := Aside0.mk (Kd.R_below (by (with_reducible repeat (first | apply Kd.R_alloc | apply Kd.R_drewN | apply Kd.R_drew)); exact HO249.out) hb); have n1_ := Aside0.mk (Kd.R_lower ho0 (below_size (by repeat (first | (with_reducible first | exact HB.out | apply below_alloc | apply pw_below_drewN | apply below_drew1) | exact HB.out)))); have n2_ := Aside0.mk (below_step (by repeat (first | (with_reducible first | exact HB.out | apply below_alloc | apply pw_below_drewN | apply below_drew1) | exact HB.out)) hb); clear HO249; clear HB; have HO249 := n0_; have HO253 := n1_; have HB := n2_; clear n0_ n1_ n2_; (try clear hb); (try clear hb2); (try clear hk); (try clear hi); (try clear ho0)))
                go_loopg [9] k (fun kq v9 w' => ∃ (x9_1 : Int), v9 = .int .i64 x9_1 ∧ Aside0 (blackboardlaw5_PackBits.l0 kq ji6 (Int.tmod (wrap64 (a1)) (wrap64 (8 * (ji6)))) y250 t251 x9_1 = some r) ∧ Aside0 (kq ≤ k) ∧ Aside0 (Kd.R (Kd.int .u8) 5 w' w.heap.size (fun _ => True) (.slice (some ⟨go15, 0, none⟩) y247.length co15) y250) ∧ Aside0 (Kd.R (Kd.int .u16) 34 w' w.heap.size (fun _ => True) v252 t251) ∧ Aside0 (Below w.heap.size w w'))
                case atStart => exact ⟨(0), (by first | rfl | (simp; done) | (simp [*]; done)), H', ⟨Nat.le_refl _⟩, ⟨by (with_reducible repeat (first | apply Kd.R_alloc | apply Kd.R_drewN | apply Kd.R_drew)); exact HO249.out⟩, ⟨by (with_reducible repeat (first | apply Kd.R_alloc | apply Kd.R_drewN | apply Kd.R_drew)); exact HO253.out⟩, ⟨by repeat (first | (with_reducible first | exact HB.out | apply below_alloc | apply pw_below_drewN | apply below_drew1) | exact HB.out)⟩⟩
                case round =>
                  clear H'
                  try clear c1
                  try clear p1
                  try clear q1
                  try clear hx1
                  try clear p2
                  try clear c4
                  try clear c5
                  try clear c5b0
                  try clear c5b1
                  try clear c6
                  try clear p6
                  try clear c7
                  try clear c7b0
                  try clear c7b1
                  try clear c8
                  try clear c8b0
                  try clear c8b1
                  try clear c9
                  try clear c10
                  try clear c10b0
                  try clear c10b1
                  try clear c13
                  try clear c13b0
                  try clear c14
                  try clear c14b0
                  try clear p15
                  try clear q15
                  try clear hx15
                  try clear hf15
                  try clear hx15_0
                  try clear p15
                  try clear q15
                  obtain ⟨x9_1, rfl, HA, HK1, HO_7, HO_8, HB⟩ := hrel
                  have hl7_1 := (Kd.R_reads' HO_7.out).1
                  rw [hl7_1] at HO_7
                  (try simp only [hl7_1])
                  (try simp only [hl7_1] at HO_8)
                  cases gk with
                  | zero => exact absurd HA.out (by simp [blackboardlaw5_PackBits.l0])
                  | succ k1 =>
                    have H := HA.out
                    clear HA
                    simp only [blackboardlaw5_PackBits.l0] at H
                    by_cases c23 : x9_1 < (t251.length : Int)
                    · rw [if_pos c23] at H
                      have c23b0 : decide (x9_1 < (t251.length : Int)) = true := decide_eq_true c23
                      clear c23
                      by_cases c24 : x9_1 = (wrap64 (Int.tdiv (Int.tmod (wrap64 (a1)) (wrap64 (8 * (ji6)))) 10))
                      · rw [if_pos c24] at H
                        have c24b0 : (x9_1 == (wrap64 (Int.tdiv (Int.tmod (wrap64 (a1)) (wrap64 (8 * (ji6)))) 10))) = true := beq_iff_eq.mpr c24
                        have c24b1 : (x9_1 != (wrap64 (Int.tdiv (Int.tmod (wrap64 (a1)) (wrap64 (8 * (ji6)))) 10))) = false := bne_eq_false_iff_eq.mpr c24
                        clear c24
                        obtain ⟨ji25, hji25⟩ : ∃ j_ : Int, (IntKind.u64.wrap (wrap64 (9 - (Int.tmod (Int.tmod (wrap64 (a1)) (wrap64 (8 * (ji6)))) 10)))) = j_ := ⟨_, rfl⟩
                        replace H : (if 0 ≤ (ji25) then (if 0 ≤ x9_1 then (if (rd t251 x9_1) = (shl .u16 1 (ji25)) then (blackboardlaw5_PackBits.l0 k1 ji6 (Int.tmod (wrap64 (a1)) (wrap64 (8 * (ji6)))) y250 t251 (wrap64 (x9_1 + 1))) else (some false)) else (none)) else (none)) = some r := by first | (rw [hji25] at H; exact H) | (simp only [hji25] at H ⊢; exact H)
                        by_cases c26 : 0 ≤ (ji25)
                        · rw [if_pos c26] at H
                          have c26b0 := eq_true c26
                          have c26b1 : decide (0 ≤ (ji25)) = true := decide_eq_true c26
                          clear c26
                          obtain ⟨ji27, hji27⟩ : ∃ j_ : Int, (shl .u16 1 (ji25)) = j_ := ⟨_, rfl⟩
                          replace H : (if 0 ≤ x9_1 then (if (rd t251 x9_1) = (ji27) then (blackboardlaw5_PackBits.l0 k1 ji6 (Int.tmod (wrap64 (a1)) (wrap64 (8 * (ji6)))) y250 t251 (wrap64 (x9_1 + 1))) else (some false)) else (none)) = some r := by first | (rw [hji27] at H; exact H) | (simp only [hji27] at H ⊢; exact H)
                          have hji27_ : (IntKind.u16.wrap (1 * 2 ^ min (ji25).toNat 16)) = ji27 := hji27
                          have hji27z : (ji25) ≤ 16 → (IntKind.u16.wrap (1 * 2 ^ (ji25).toNat)) = ji27 := shl_small hji27
                          have hji27u : (IntKind.u16.wrap (2 ^ min (ji25).toNat 16)) = ji27 := by have h_ := hji27_; rw [Int.one_mul] at h_; exact h_
                          have hji27v : (ji25) ≤ 16 → (IntKind.u16.wrap (2 ^ (ji25).toNat)) = ji27 := fun hle_ => by have h_ := hji27z hle_; rw [Int.one_mul] at h_; exact h_
                          by_cases c28 : 0 ≤ x9_1
                          · rw [if_pos c28] at H
                            have c28b0 : decide (0 ≤ x9_1) = true := decide_eq_true c28
                            clear c28
                            by_cases c29 : (rd t251 x9_1) = (ji27)
                            · rw [if_pos c29] at H
                              have c29b0 : ((rd t251 x9_1) == (ji27)) = true := beq_iff_eq.mpr c29
                              have c29b1 : ((rd t251 x9_1) != (ji27)) = false := bne_eq_false_iff_eq.mpr c29
                              clear c29
                              have H' := Aside0.mk H
                              clear H
                              obtain ⟨Ao30, co30, eo30⟩ := Kd.R_slice HO_8.out
                              subst eo30
                              have p259 : 0 ≤ (x9_1 : Int) := of_decide_eq_true (by first | (with_reducible assumption) | assumption)
                              have q259 : x9_1 < (t251.length : Int) := of_decide_eq_true (by first | (with_reducible assumption) | assumption)
                              obtain ⟨ad259, e259, hx259_0⟩ := Kd.at_int (Kd.R_reads' HO_8.out).2.2 x9_1 p259 q259
                              cases e259
                              replace p259 := eq_true p259
                              replace q259 := eq_true q259
                              go_wp2
                              (try simp only [← hl7_1])
                              go_roundg k1
                              case measure => have := HK1.out; omega
                              case rel => exact ⟨(wrap64 (x9_1 + 1)), (by first | rfl | (simp; done) | (simp [*]; done)), H', ⟨by have := HK1.out; omega⟩, ⟨by (try simp only [hl7_1]); (with_reducible repeat (first | apply Kd.R_alloc | apply Kd.R_drewN | apply Kd.R_drew)); exact HO_7.out⟩, ⟨by (try simp only [hl7_1]); (with_reducible repeat (first | apply Kd.R_alloc | apply Kd.R_drewN | apply Kd.R_drew)); exact HO_8.out⟩, ⟨by repeat (first | (with_reducible first | exact HB.out | apply below_alloc | apply pw_below_drewN | apply below_drew1) | exact HB.out)⟩⟩
                            · rw [if_neg c29] at H
                              have c29b0 : ((rd t251 x9_1) == (ji27)) = false := beq_eq_false_iff_ne.mpr c29
                              have c29b1 : ((rd t251 x9_1) != (ji27)) = true := bne_iff_ne.mpr c29
                              obtain rfl := Option.some.inj H
                              obtain ⟨Ao31, co31, eo31⟩ := Kd.R_slice HO_8.out
                              subst eo31
                              have p259 : 0 ≤ (x9_1 : Int) := of_decide_eq_true (by first | (with_reducible assumption) | assumption)
                              have q259 : x9_1 < (t251.length : Int) := of_decide_eq_true (by first | (with_reducible assumption) | assumption)
                              obtain ⟨ad259, e259, hx259_0⟩ := Kd.at_int (Kd.R_reads' HO_8.out).2.2 x9_1 p259 q259
                              cases e259
                              replace p259 := eq_true p259
                              replace q259 := eq_true q259
                              go_wp2
                              go_ret
                              exact ⟨by first | rfl | (simp [errW_none, errW_some] <;> rfl) | (simp only [← hji6, ← hji9, ← hji11, ← hji12, ← hji25, ← hji27]; first | rfl | (simp [errW_none, errW_some] <;> rfl)) | (simp [*, errW_none, errW_some] <;> rfl), by repeat (first | (with_reducible first | exact HB.out | apply below_alloc | apply pw_below_drewN | apply below_drew1) | exact HB.out)⟩
                          · rw [if_neg c28] at H
                            exact absurd H (by simp)
                        · rw [if_neg c26] at H
                          exact absurd H (by simp)
                      · rw [if_neg c24] at H
                        have c24b0 : (x9_1 == (wrap64 (Int.tdiv (Int.tmod (wrap64 (a1)) (wrap64 (8 * (ji6)))) 10))) = false := beq_eq_false_iff_ne.mpr c24
                        have c24b1 : (x9_1 != (wrap64 (Int.tdiv (Int.tmod (wrap64 (a1)) (wrap64 (8 * (ji6)))) 10))) = true := bne_iff_ne.mpr c24
                        by_cases c32 : 0 ≤ x9_1
                        · rw [if_pos c32] at H
                          have c32b0 : decide (0 ≤ x9_1) = true := decide_eq_true c32
                          clear c32
                          by_cases c33 : (rd t251 x9_1) = 0
                          · rw [if_pos c33] at H
                            have c33b0 : ((rd t251 x9_1) == 0) = true := beq_iff_eq.mpr c33
                            have c33b1 : ((rd t251 x9_1) != 0) = false := bne_eq_false_iff_eq.mpr c33
                            clear c33
                            have H' := Aside0.mk H
                            clear H
                            obtain ⟨Ao34, co34, eo34⟩ := Kd.R_slice HO_8.out
                            subst eo34
                            have p260 : 0 ≤ (x9_1 : Int) := of_decide_eq_true (by first | (with_reducible assumption) | assumption)
                            have q260 : x9_1 < (t251.length : Int) := of_decide_eq_true (by first | (with_reducible assumption) | assumption)
                            obtain ⟨ad260, e260, hx260_0⟩ := Kd.at_int (Kd.R_reads' HO_8.out).2.2 x9_1 p260 q260
                            cases e260
                            replace p260 := eq_true p260
                            replace q260 := eq_true q260
                            go_wp2
                            (try simp only [← hl7_1])
                            go_roundg k1
                            case measure => have := HK1.out; omega
                            case rel => exact ⟨(wrap64 (x9_1 + 1)), (by first | rfl | (simp; done) | (simp [*]; done)), H', ⟨by have := HK1.out; omega⟩, ⟨by (try simp only [hl7_1]); (with_reducible repeat (first | apply Kd.R_alloc | apply Kd.R_drewN | apply Kd.R_drew)); exact HO_7.out⟩, ⟨by (try simp only [hl7_1]); (with_reducible repeat (first | apply Kd.R_alloc | apply Kd.R_drewN | apply Kd.R_drew)); exact HO_8.out⟩, ⟨by repeat (first | (with_reducible first | exact HB.out | apply below_alloc | apply pw_below_drewN | apply below_drew1) | exact HB.out)⟩⟩
                          · rw [if_neg c33] at H
                            have c33b0 : ((rd t251 x9_1) == 0) = false := beq_eq_false_iff_ne.mpr c33
                            have c33b1 : ((rd t251 x9_1) != 0) = true := bne_iff_ne.mpr c33
                            obtain rfl := Option.some.inj H
                            obtain ⟨Ao35, co35, eo35⟩ := Kd.R_slice HO_8.out
                            subst eo35
                            have p260 : 0 ≤ (x9_1 : Int) := of_decide_eq_true (by first | (with_reducible assumption) | assumption)
                            have q260 : x9_1 < (t251.length : Int) := of_decide_eq_true (by first | (with_reducible assumption) | assumption)
                            obtain ⟨ad260, e260, hx260_0⟩ := Kd.at_int (Kd.R_reads' HO_8.out).2.2 x9_1 p260 q260
                            cases e260
                            replace p260 := eq_true p260
                            replace q260 := eq_true q260
                            go_wp2
                            go_ret
                            exact ⟨by first | rfl | (simp [errW_none, errW_some] <;> rfl) | (simp only [← hji6, ← hji9, ← hji11, ← hji12]; first | rfl | (simp [errW_none, errW_some] <;> rfl)) | (simp [*, errW_none, errW_some] <;> rfl), by repeat (first | (with_reducible first | exact HB.out | apply below_alloc | apply pw_below_drewN | apply below_drew1) | exact HB.out)⟩
                        · rw [if_neg c32] at H
                          exact absurd H (by simp)
                    · rw [if_neg c23] at H
                      have c23b0 : decide (x9_1 < (t251.length : Int)) = false := decide_eq_false c23
                      clear c23
                      replace H := Option.bind_eq_some_iff.mp H
                      obtain ⟨⟨t254, t255⟩, A360, H⟩ := H
                      replace H : (if t255 = 0 then (if (strOfNums t254).toList = (strOfNums y250).toList then ((pack_Symbols.f ji6).bind fun t258 => (some ((t251.length : Int) == t258))) else (some false)) else (some false)) = some r := H
                      have A36 := Aside0.mk A360
                      clear A360
                      by_cases c37 : t255 = 0
                      · rw [if_pos c37] at H
                        have c37b0 : (t255 == 0) = true := beq_iff_eq.mpr c37
                        have c37b1 : (t255 != 0) = false := bne_eq_false_iff_eq.mpr c37
                        clear c37
                        by_cases c38 : (strOfNums t254).toList = (strOfNums y250).toList
                        · rw [if_pos c38] at H
                          have c38b0 : ((strOfNums t254).toList == (strOfNums y250).toList) = true := beq_iff_eq.mpr c38
                          have c38b1 : ((strOfNums t254).toList != (strOfNums y250).toList) = false := bne_eq_false_iff_eq.mpr c38
                          clear c38
                          replace H := Option.bind_eq_some_iff.mp H
                          obtain ⟨t258, A390, H⟩ := H
                          replace H : (some ((t251.length : Int) == t258)) = some r := H
                          have A39 := Aside0.mk A390
                          clear A390
                          obtain rfl := Option.some.inj H
                          obtain ⟨Ao40, co40, eo40⟩ := Kd.R_slice HO_8.out
                          subst eo40
                          go_wp2_with (first | ((with_reducible refine gate_callee (f := 10) rfl ?_); refine goesL_ (some 61) rfl rfl Try.func10 (by kernel_rfl) rfl #[.slice Ao40 t251.length co40, .int .i64 ji6] rfl (by (try simp only [List.map_toArray, List.map_cons, List.map_nil]); first | done | (simp only [hji6]; rfl) | rfl | (simp only [List.length_drop, List.length_take]; rfl)) ?_; (with_reducible refine (pack_Unpack.calls k1 _ _ t251 ji6 t254 t255 _ ?side1 ?side2 A36.out).mono ?_); (case side1 => repeat (first | exact (Kd.R_reads' HO_8.out).2.2 | (with_reducible refine Kd.C_alloc ?_ _) | (with_reducible refine Kd.C_drewN ?_ _) | (with_reducible refine Kd.C_drew ?_))); (case side2 => exact (Kd.R_reads' HO_8.out).2.1); rintro e w41 ⟨v256, rfl, ho0, hb⟩; refine ⟨_, rfl, ?_⟩; have n0_ := Aside0.mk (Kd.R_elder' (by (with_reducible repeat (first | apply Kd.R_alloc | apply Kd.R_drewN | apply Kd.R_drew)); exact HO_7.out) (Kd.R_base ho0) hb); have n1_ := Aside0.mk (Kd.R_below (by (with_reducible repeat (first | apply Kd.R_alloc | apply Kd.R_drewN | apply Kd.R_drew)); exact HO_8.out) hb); have n2_ := Aside0.mk (Kd.R_lower (Kd.R_new' ho0 (Kd.R_lt (by (with_reducible repeat (first | apply Kd.R_alloc | apply Kd.R_drewN | apply Kd.R_drew)); exact HO_7.out))) (below_size (by repeat (first | (with_reducible first | exact HB.out | apply below_alloc | apply pw_below_drewN | apply below_drew1) | exact HB.out)))); have n3_ := Aside0.mk (below_step (by repeat (first | (with_reducible first | exact HB.out | apply below_alloc | apply pw_below_drewN | apply below_drew1) | exact HB.out)) hb); clear HO_7; clear HO_8; clear HB; have HO_7 := n0_; have HO_8 := n1_; have HO257 := n2_; have HB := n3_; clear n0_ n1_ n2_ n3_; (try clear hb); (try clear hb2); (try clear hk); (try clear hi); (try clear ho0); have hcv42 := own_string (P := Try.prog) Try.underlying22 Try.underlying5 Try.underlying9 (Kd.own_of_R HO257.out); have hcv43 := own_string (P := Try.prog) Try.underlying22 Try.underlying5 Try.underlying9 (Kd.own_of_R HO_7.out)) | (go_at_call 14; (with_reducible refine (pack_Symbols.calls ji6 t258 _ A39.out).mono ?_); rintro e w44 ⟨rfl, hb⟩; have n0_ := Aside0.mk (Kd.R_below (by (with_reducible repeat (first | apply Kd.R_alloc | apply Kd.R_drewN | apply Kd.R_drew)); exact HO_7.out) hb); have n1_ := Aside0.mk (Kd.R_below (by (with_reducible repeat (first | apply Kd.R_alloc | apply Kd.R_drewN | apply Kd.R_drew)); exact HO_8.out) hb); have n2_ := Aside0.mk (Kd.R_below (by (with_reducible repeat (first | apply Kd.R_alloc | apply Kd.R_drewN | apply Kd.R_drew)); exact HO257.out) hb); have n3_ := Aside0.mk (below_step (by repeat (first | (with_reducible first | exact HB.out | apply below_alloc | apply pw_below_drewN | apply below_drew1) | exact HB.out)) hb); clear HO_7; clear HO_8; clear HO257; clear HB; have HO_7 := n0_; have HO_8 := n1_; have HO257 := n2_; have HB := n3_; clear n0_ n1_ n2_ n3_; (try clear hb); (try clear hb2); (try clear hk); (try clear hi)))
                          go_ret
                          exact ⟨by first | rfl | (simp [errW_none, errW_some] <;> rfl) | (simp only [← hji6, ← hji9, ← hji11, ← hji12]; first | rfl | (simp [errW_none, errW_some] <;> rfl)) | (simp [*, errW_none, errW_some] <;> rfl), by repeat (first | (with_reducible first | exact HB.out | apply below_alloc | apply pw_below_drewN | apply below_drew1) | exact HB.out)⟩
                        · rw [if_neg c38] at H
                          have c38b0 : ((strOfNums t254).toList == (strOfNums y250).toList) = false := beq_eq_false_iff_ne.mpr c38
                          have c38b1 : ((strOfNums t254).toList != (strOfNums y250).toList) = true := bne_iff_ne.mpr c38
                          obtain rfl := Option.some.inj H
                          obtain ⟨Ao45, co45, eo45⟩ := Kd.R_slice HO_8.out
                          subst eo45
                          go_wp2_with (first | ((with_reducible refine gate_callee (f := 10) rfl ?_); refine goesL_ (some 61) rfl rfl Try.func10 (by kernel_rfl) rfl #[.slice Ao45 t251.length co45, .int .i64 ji6] rfl (by (try simp only [List.map_toArray, List.map_cons, List.map_nil]); first | done | (simp only [hji6]; rfl) | rfl | (simp only [List.length_drop, List.length_take]; rfl)) ?_; (with_reducible refine (pack_Unpack.calls k1 _ _ t251 ji6 t254 t255 _ ?side1 ?side2 A36.out).mono ?_); (case side1 => repeat (first | exact (Kd.R_reads' HO_8.out).2.2 | (with_reducible refine Kd.C_alloc ?_ _) | (with_reducible refine Kd.C_drewN ?_ _) | (with_reducible refine Kd.C_drew ?_))); (case side2 => exact (Kd.R_reads' HO_8.out).2.1); rintro e w46 ⟨v256, rfl, ho0, hb⟩; refine ⟨_, rfl, ?_⟩; have n0_ := Aside0.mk (Kd.R_elder' (by (with_reducible repeat (first | apply Kd.R_alloc | apply Kd.R_drewN | apply Kd.R_drew)); exact HO_7.out) (Kd.R_base ho0) hb); have n1_ := Aside0.mk (Kd.R_below (by (with_reducible repeat (first | apply Kd.R_alloc | apply Kd.R_drewN | apply Kd.R_drew)); exact HO_8.out) hb); have n2_ := Aside0.mk (Kd.R_lower (Kd.R_new' ho0 (Kd.R_lt (by (with_reducible repeat (first | apply Kd.R_alloc | apply Kd.R_drewN | apply Kd.R_drew)); exact HO_7.out))) (below_size (by repeat (first | (with_reducible first | exact HB.out | apply below_alloc | apply pw_below_drewN | apply below_drew1) | exact HB.out)))); have n3_ := Aside0.mk (below_step (by repeat (first | (with_reducible first | exact HB.out | apply below_alloc | apply pw_below_drewN | apply below_drew1) | exact HB.out)) hb); clear HO_7; clear HO_8; clear HB; have HO_7 := n0_; have HO_8 := n1_; have HO257 := n2_; have HB := n3_; clear n0_ n1_ n2_ n3_; (try clear hb); (try clear hb2); (try clear hk); (try clear hi); (try clear ho0); have hcv47 := own_string (P := Try.prog) Try.underlying22 Try.underlying5 Try.underlying9 (Kd.own_of_R HO257.out); have hcv48 := own_string (P := Try.prog) Try.underlying22 Try.underlying5 Try.underlying9 (Kd.own_of_R HO_7.out)))
                          go_ret
                          exact ⟨by first | rfl | (simp [errW_none, errW_some] <;> rfl) | (simp only [← hji6, ← hji9, ← hji11, ← hji12]; first | rfl | (simp [errW_none, errW_some] <;> rfl)) | (simp [*, errW_none, errW_some] <;> rfl), by repeat (first | (with_reducible first | exact HB.out | apply below_alloc | apply pw_below_drewN | apply below_drew1) | exact HB.out)⟩
                      · rw [if_neg c37] at H
                        have c37b0 : (t255 == 0) = false := beq_eq_false_iff_ne.mpr c37
                        have c37b1 : (t255 != 0) = true := bne_iff_ne.mpr c37
                        obtain rfl := Option.some.inj H
                        obtain ⟨Ao49, co49, eo49⟩ := Kd.R_slice HO_8.out
                        subst eo49
                        go_wp2_with (first | ((with_reducible refine gate_callee (f := 10) rfl ?_); refine goesL_ (some 61) rfl rfl Try.func10 (by kernel_rfl) rfl #[.slice Ao49 t251.length co49, .int .i64 ji6] rfl (by (try simp only [List.map_toArray, List.map_cons, List.map_nil]); first | done | (simp only [hji6]; rfl) | rfl | (simp only [List.length_drop, List.length_take]; rfl)) ?_; (with_reducible refine (pack_Unpack.calls k1 _ _ t251 ji6 t254 t255 _ ?side1 ?side2 A36.out).mono ?_); (case side1 => repeat (first | exact (Kd.R_reads' HO_8.out).2.2 | (with_reducible refine Kd.C_alloc ?_ _) | (with_reducible refine Kd.C_drewN ?_ _) | (with_reducible refine Kd.C_drew ?_))); (case side2 => exact (Kd.R_reads' HO_8.out).2.1); rintro e w50 ⟨v256, rfl, ho0, hb⟩; refine ⟨_, rfl, ?_⟩; have n0_ := Aside0.mk (Kd.R_elder' (by (with_reducible repeat (first | apply Kd.R_alloc | apply Kd.R_drewN | apply Kd.R_drew)); exact HO_7.out) (Kd.R_base ho0) hb); have n1_ := Aside0.mk (Kd.R_below (by (with_reducible repeat (first | apply Kd.R_alloc | apply Kd.R_drewN | apply Kd.R_drew)); exact HO_8.out) hb); have n2_ := Aside0.mk (Kd.R_lower (Kd.R_new' ho0 (Kd.R_lt (by (with_reducible repeat (first | apply Kd.R_alloc | apply Kd.R_drewN | apply Kd.R_drew)); exact HO_7.out))) (below_size (by repeat (first | (with_reducible first | exact HB.out | apply below_alloc | apply pw_below_drewN | apply below_drew1) | exact HB.out)))); have n3_ := Aside0.mk (below_step (by repeat (first | (with_reducible first | exact HB.out | apply below_alloc | apply pw_below_drewN | apply below_drew1) | exact HB.out)) hb); clear HO_7; clear HO_8; clear HB; have HO_7 := n0_; have HO_8 := n1_; have HO257 := n2_; have HB := n3_; clear n0_ n1_ n2_ n3_; (try clear hb); (try clear hb2); (try clear hk); (try clear hi); (try clear ho0)))
                        go_ret
                        exact ⟨by first | rfl | (simp [errW_none, errW_some] <;> rfl) | (simp only [← hji6, ← hji9, ← hji11, ← hji12]; first | rfl | (simp [errW_none, errW_some] <;> rfl)) | (simp [*, errW_none, errW_some] <;> rfl), by repeat (first | (with_reducible first | exact HB.out | apply below_alloc | apply pw_below_drewN | apply below_drew1) | exact HB.out)⟩
              · rw [if_neg c14] at H
                exact absurd H (by simp)
            · rw [if_neg c13] at H
              exact absurd H (by simp)
          · rw [if_neg c10] at H
            exact absurd H (by simp)
        · rw [if_neg c8] at H
          exact absurd H (by simp)
      · rw [if_neg c7] at H
        exact absurd H (by simp)
  · replace c4 := Bool.eq_false_iff.mpr c4
    subst c4
    have H1 : (some false) = some r := by rw [if_neg (show ¬ (false = true) by decide)] at H; exact H
    clear H
    have H := H1
    clear H1
    obtain rfl := Option.some.inj H
    try rw [hji6] at c5
    go_enter Try.func6, Try.ntmps6
    go_wp2_with (first | ((with_reducible refine gate_callee (f := 8) rfl ?_); refine goesL_ (some 13) rfl rfl Try.func8 (by kernel_rfl) rfl #[] rfl (by (try simp only [List.map_toArray, List.map_cons, List.map_nil]); first | done | rfl | (simp only [List.length_drop, List.length_take]; rfl)) ?_; (with_reducible refine (blackboardlaw5_awake.calls k  false _ A3.out).mono ?_); rintro e w51 ⟨rfl, hb⟩; refine ⟨_, rfl, ?_⟩; have n0_ := Aside0.mk (below_step (by repeat (first | (with_reducible first | exact HB.out | apply below_alloc | apply pw_below_drewN | apply below_drew1) | exact HB.out)) hb); clear HB; have HB := n0_; clear n0_; (try clear hb); (try clear hb2); (try clear hk); (try clear hi)))
    go_ret
    exact ⟨by first | rfl | (simp [errW_none, errW_some] <;> rfl) | (simp [*, errW_none, errW_some] <;> rfl), by repeat (first | (with_reducible first | exact HB.out | apply below_alloc | apply pw_below_drewN | apply below_drew1) | exact HB.out)⟩

/-- THE ONE PURE STATEMENT of blackboardlaw5_PackBits: yours. -/
def blackboardlaw5_PackBits.Pure : Prop := ∀ (a0 : Int) (a1 : Int), (Lit.int .u8 a0).wf = true → (Lit.int .u16 a1).wf = true → ∃ k, blackboardlaw5_PackBits.f k a0 a1 = some true
theorem blackboardlaw5_PackBits.walk (P : blackboardlaw5_PackBits.Pure) (a0 : Int) (a1 : Int) (w : World) (w0 : (Lit.int .u8 a0).wf = true) (w1 : (Lit.int .u16 a1).wf = true) :
    Calls Try.prog 6 #[.int .u8 a0, .int .u16 a1] w fun e w' => e = .returned (.bool true) ∧ Below w.heap.size w w' := by
  obtain ⟨k, h⟩ := P a0 a1 w0 w1
  refine (blackboardlaw5_PackBits.calls k a0 a1 true w h).mono ?_
  rintro e w' ⟨rfl, hd⟩
  exact ⟨rfl, hd⟩

end Go.Proofs.Ytdgpondnogpolaa.M
