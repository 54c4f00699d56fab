/- The law PackBack of the seat, over its printed functions. -/
import Derived.Test.YtdgpondnogpolaaD
import Derived.Test.YtdgpondnogpolaaMx11
set_option linter.unusedVariables false
set_option linter.unusedSimpArgs false
namespace Go.Proofs.Ytdgpondnogpolaa.Pure
open Go.RowKit Go.Proofs.Ytdgpondnogpolaa.M Go.Proofs.YtdgpondnogpolaaW.PrintWords Go.Proofs.YtdgpondnogpolaaW.PrintLast Go.Proofs.YtdgpondnogpolaaW.PrintMore

/-- whole bytes of symbols, packed again -/
theorem again (s : List Int) (hs : Syms s) (n : Nat) (hn : 8 * n = 10 * s.length) : packOf (ws (bt 10 s) 8 n) = s := by
  unfold packOf
  rw [ws_length]
  have h1 : (8 * n + 9) / 10 = s.length := by omega
  rw [h1]
  have h : ws (bt 8 (ws (bt 10 s) 8 n)) 10 s.length = ws (bt 10 s) 10 s.length := by
    apply ws_congr
    intro p hp
    exact bt_ws (bt 10 s) (bt_le 10 s) 8 n p (by decide) (by omega)
  rw [h]
  exact ws_bt 10 (by decide) s hs
theorem back_end (s : List Int) (hs : Syms s) (q : Nat) (hq : s.length = q * 4) (hL : s.length ≤ 1000) : Ev (fun k => (pack_Bytes.f (s.length : Int)).bind fun t264 => ((pack_Unpack.f k s t264).bind fun bt265 => (if bt265.2 = 0 then (if (wrap64 ((bt265.1.length : Int) * 4)) = (wrap64 ((s.length : Int) * 5)) then ((pack_Pack.f k bt265.1).bind fun t269 => ((blackboardref1_Same.f k t269 s).bind fun t272 => (some t272))) else (some false)) else (some false)))) true := by
  have hn : 8 * (10 * s.length / 8) = 10 * s.length := by omega
  have hn2 : 10 * s.length / 8 ≤ 1250 := by omega
  have hb : Bytes8 (ws (bt 10 s) 8 (10 * s.length / 8)) := ws_range (bt 10 s) (bt_le 10 s) 8 _
  have hp := pack_is (ws (bt 10 s) 8 (10 * s.length / 8)) hb (by rw [ws_length]; omega)
  rw [again s hs _ hn] at hp
  have hsame := same_is s s (by omega)
  rw [decide_eq_true rfl] at hsame
  have e1 : wrap64 (((ws (bt 10 s) 8 (10 * s.length / 8)).length : Int) * 4) = wrap64 ((s.length : Int) * 5) := by
    rw [ws_length]; congr 1; omega
  simp only [bytes_is s.length (by omega), Option.bind_some]
  refine Ev.bind (unpack_is s hs (10 * s.length / 8) (by omega) (Nat.le_refl _)) ?_
  simp only [if_true, if_pos e1]
  refine Ev.bind hp ?_
  refine Ev.bind hsame ?_
  exact Ev.now _
theorem back_loop (s : List Int) (h0 : ∀ x ∈ s, 0 ≤ x) (q : Nat) (hq : s.length = q * 4) (hL : s.length ≤ 1000) : ∀ (d i : Nat), i + d = s.length → (∀ j, j < i → s.getD j 0 < 1024) →
    Ev (fun k => blackboardlaw5_PackBack.l0 k s (i : Int)) true := by
  intro d
  induction d with
  | zero =>
    intro i hi hj
    have c1 : ¬ ((i : Int) < (s.length : Int)) := by omega
    have hs : Syms s := fun x hx => ⟨h0 x hx, by
      obtain ⟨j, hj2, rfl⟩ := List.mem_iff_getElem.mp hx
      have := hj j (by omega)
      rw [List.getD_eq_getElem?_getD, List.getElem?_eq_getElem hj2] at this
      exact this⟩
    refine Ev.one ?_
    simp only [blackboardlaw5_PackBack.l0, if_neg c1]
    exact back_end s hs q hq hL
  | succ d ih =>
    intro i hi hj
    have c1 : ((i : Int) < (s.length : Int)) := by omega
    have c2 : 0 ≤ (i : Int) := by omega
    have ei := wn1 (i := i) (by omega)
    refine Ev.one ?_
    by_cases c : s.getD i 0 < 1024
    · have c3 : ¬ (rd s (i : Int) ≥ 1024) := by rw [rdn]; omega
      have hnext := ih (i + 1) (by omega) (fun j h => by
        by_cases e : j = i
        · rw [e]; exact c
        · exact hj j (by omega))
      simp only [blackboardlaw5_PackBack.l0, if_pos c1, if_pos c2, if_neg c3, ei]
      exact hnext
    · have c3 : rd s (i : Int) ≥ 1024 := by rw [rdn]; omega
      simp only [blackboardlaw5_PackBack.l0, if_pos c1, if_pos c2, if_pos c3]
      exact Ev.now _
theorem PackBack : blackboardlaw5_PackBack.Pure := by
  intro s _ _ hs
  have hs' : ∀ x ∈ s, 0 ≤ x := fun x hx => (bounds_u16 (hs x hx)).1
  refine Ev.rounds ?_
  unfold blackboardlaw5_PackBack.f
  refine Ev.bind awake5 ?_
  simp only [if_true]
  by_cases c1 : (s.length : Int) > 1000
  · simp only [if_pos c1]; exact Ev.now _
  · simp only [if_neg c1]
    have e1 : wrap64 (wrap64 ((s.length : Int) / 4) * 4) = ((s.length / 4 * 4 : Nat) : Int) := by
      rw [w64 (x := (s.length : Int) / 4) (by omega) (by omega), w64 (by omega) (by omega)]; omega
    have c2 : 0 ≤ ((s.length / 4 * 4 : Nat) : Int) := Int.natCast_nonneg _
    have c3 : ((s.length / 4 * 4 : Nat) : Int) ≤ (s.length : Int) := by omega
    simp only [e1, if_pos c2, if_pos c3, Int.toNat_natCast]
    have hl : (s.take (s.length / 4 * 4)).length = s.length / 4 * 4 := by rw [List.length_take]; omega
    exact back_loop (s.take (s.length / 4 * 4)) (fun x hx => hs' x (List.mem_of_mem_take hx)) (s.length / 4) hl (by rw [hl]; omega) _ 0 (by rw [Nat.zero_add]) (fun j h => absurd h (Nat.not_lt_zero _))
end Go.Proofs.Ytdgpondnogpolaa.Pure
