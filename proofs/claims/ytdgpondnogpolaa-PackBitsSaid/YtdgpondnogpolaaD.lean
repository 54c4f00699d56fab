/- What PackPacks and its like need of Pack and Unpack, and the document's Same: by hand. -/
import Derived.Test.YtdgpondnogpolaaC
import Derived.Test.YtdgpondnogpolaaMx3
set_option linter.unusedVariables false
set_option linter.unusedSimpArgs false
namespace Go.Proofs.Ytdgpondnogpolaa.Pure
open Go.RowKit Go.Proofs.Ytdgpondnogpolaa.M Go.Proofs.YtdgpondnogpolaaW.PrintWords Go.Proofs.YtdgpondnogpolaaW.PrintLast Go.Proofs.YtdgpondnogpolaaW.PrintMore

/-! Same -/
theorem dist_loop (a b : List Int) (hl : a.length = b.length) (hL : a.length ≤ 1000000000000) : ∀ (d i : Nat) (x : Int), i + d = a.length → 0 ≤ x → x ≤ i →
    ∃ r, Ev (fun k => blackboardref1_Distance.l0 k a b x (i : Int)) r ∧ x ≤ r ∧ (r = x ↔ a.drop i = b.drop i) := by
  intro d
  induction d with
  | zero =>
    intro i x hi h0 hx
    refine ⟨x, ?_, Int.le_refl _, by rw [List.drop_of_length_le (by omega), List.drop_of_length_le (by omega)]; simp⟩
    refine Ev.one ?_
    have h1 : ¬ ((i : Int) < (a.length : Int)) := by omega
    simp only [blackboardref1_Distance.l0, if_neg h1]
    refine Ev.one ?_
    simp only [blackboardref1_Distance.j1, Bool.false_eq_true, if_false]
    exact Ev.now _
  | succ d ih =>
    intro i x hi h0 hx
    have ha : i < a.length := by omega
    have hb : i < b.length := by omega
    have h1 : ((i : Int) < (a.length : Int)) := by omega
    have h2 : ((i : Int) < (b.length : Int)) := by omega
    have h3 : 0 ≤ (i : Int) := by omega
    have da : a.drop i = rd a (i : Int) :: a.drop (i + 1) := by
      rw [List.drop_eq_getElem_cons ha]; congr 1
      unfold rd; rw [Int.toNat_natCast, List.getD_eq_getElem?_getD, List.getElem?_eq_getElem ha]; rfl
    have db : b.drop i = rd b (i : Int) :: b.drop (i + 1) := by
      rw [List.drop_eq_getElem_cons hb]; congr 1
      unfold rd; rw [Int.toNat_natCast, List.getD_eq_getElem?_getD, List.getElem?_eq_getElem hb]; rfl
    by_cases c : rd a (i : Int) = rd b (i : Int)
    · obtain ⟨r, hr, hxr, hiff⟩ := ih (i + 1) x (by omega) h0 (by omega)
      refine ⟨r, ?_, hxr, by rw [da, db, c]; simpa using hiff⟩
      refine Ev.one ?_
      simp only [blackboardref1_Distance.l0, if_pos h1, decide_eq_true h2]
      refine Ev.one ?_
      simp only [blackboardref1_Distance.j1, if_true, if_pos h3, if_pos h1, if_pos h2, if_pos c, wn1 (show i ≤ 1000000000000000 by omega)]
      exact hr
    · obtain ⟨r, hr, hxr, hiff⟩ := ih (i + 1) (x + 1) (by omega) (by omega) (by omega)
      refine ⟨r, ?_, by omega, ⟨fun h => absurd h (by omega), fun h => by rw [da, db] at h; exact absurd (List.cons.inj h).1 c⟩⟩
      refine Ev.one ?_
      simp only [blackboardref1_Distance.l0, if_pos h1, decide_eq_true h2]
      refine Ev.one ?_
      simp only [blackboardref1_Distance.j1, if_true, if_pos h3, if_pos h1, if_pos h2, if_neg c, wn1 (show i ≤ 1000000000000000 by omega), w64 (x := x + 1) (by omega) (by omega)]
      exact hr
theorem same_is (a b : List Int) (hL : a.length ≤ 1000000000000) : Ev (fun k => blackboardref1_Same.f k a b) (decide (a = b)) := by
  unfold blackboardref1_Same.f
  by_cases c : a.length = b.length
  · have c' : (a.length : Int) = (b.length : Int) := by omega
    simp only [if_pos c']
    obtain ⟨r, hr, h0, hiff⟩ := dist_loop a b c hL a.length 0 0 (by omega) (by omega) (by omega)
    refine Ev.bind (a := r) ?_ ?_
    · unfold blackboardref1_Distance.f
      have e1 : mx (a.length : Int) (b.length : Int) = a.length := by unfold mx; split <;> omega
      have e2 : mn (a.length : Int) (b.length : Int) = a.length := by unfold mn; split <;> omega
      rw [e1, e2, Int.sub_self, w64 (by omega) (by omega)]
      exact hr
    · have : (r == 0) = decide (a = b) := by
        rw [Bool.eq_iff_iff, beq_iff_eq, decide_eq_true_eq, hiff]; simp
      rw [this]
      exact Ev.now _
  · have c' : ¬ (a.length : Int) = (b.length : Int) := by omega
    simp only [if_neg c']
    rw [decide_eq_false (fun h => c (by rw [h]))]
    exact Ev.now _

theorem awake5 : Ev (fun k => blackboardlaw5_awake.f k) true := Ev.of (k := 60) blackboardlaw5_awake.mono (by decide +kernel)
theorem ws_range (f : Nat → Nat) (hf : ∀ p, f p ≤ 1) (w n : Nat) : ∀ x ∈ ws f w n, 0 ≤ x ∧ x < 2 ^ w := by
  intro x hx
  unfold ws at hx
  obtain ⟨q, _, rfl⟩ := List.mem_map.mp hx
  have h := W_lt f hf (w * q) w
  refine ⟨Int.natCast_nonneg _, ?_⟩
  have : ((W f (w * q) w : Nat) : Int) < ((2 ^ w : Nat) : Int) := Int.ofNat_lt.mpr h
  simpa using this
theorem packOf_syms (b : List Int) : Syms (packOf b) := ws_range (bt 8 b) (bt_le 8 b) 10 _
theorem packOf_length (b : List Int) : (packOf b).length = (8 * b.length + 9) / 10 := ws_length _ _ _
/-- what is packed is unpacked as it was -/
theorem back (b : List Int) (hb : Bytes8 b) : ws (bt 10 (packOf b)) 8 b.length = b := by
  have h : ws (bt 10 (packOf b)) 8 b.length = ws (bt 8 b) 8 b.length := by
    apply ws_congr
    intro p hp
    unfold packOf
    exact bt_ws (bt 8 b) (bt_le 8 b) 10 _ p (by decide) (by omega)
  rw [h]
  exact ws_bt 8 (by decide) b hb
theorem unpack_pack (b : List Int) (hb : Bytes8 b) (hL : b.length ≤ 100000) : Ev (fun k => pack_Unpack.f k (packOf b) (b.length : Int)) (b, 0) := by
  have h1 : (packOf b).length ≤ 1000000 := by rw [packOf_length]; omega
  have h2 : b.length ≤ 10 * (packOf b).length / 8 := by rw [packOf_length]; omega
  have := unpack_is (packOf b) (packOf_syms b) b.length h1 h2
  rw [back b hb] at this
  exact this
theorem bigOne_yes (s : List Int) (i : Nat) (hi : i < s.length) (h : s.getD i 0 ≥ 1024) : bigOne s = true := by
  unfold bigOne
  rw [List.any_eq_true]
  exact ⟨_, getD_in s i hi, by simpa using h⟩
theorem ref_big (s : List Int) (hL : s.length ≤ 1000000) (n : Int) (h : ¬ Syms s) (h0 : ∀ x ∈ s, 0 ≤ x) : ∀ (d i : Nat), i + d = s.length → (∀ j, j < i → s.getD j 0 < 1024) →
    Ev (fun k => blackboardref1_Unpack.l0 k s n (i : Int)) (([] : List Int), (1 : Int)) := by
  intro d
  induction d with
  | zero =>
    intro i hi hj
    exact absurd (fun x hx => ⟨h0 x hx, by
      obtain ⟨j, hj2, rfl⟩ := List.mem_iff_getElem.mp hx
      have := hj j (by omega)
      rw [List.getD_eq_getElem?_getD, List.getElem?_eq_getElem hj2] at this
      exact this⟩) h
  | succ d ih =>
    intro i hi hj
    have c1 : ((i : Int) < (s.length : Int)) := by omega
    have c2 : 0 ≤ (i : Int) := by omega
    have ei := wn1 (i := i) (by omega)
    refine Ev.one ?_
    by_cases c : s.getD i 0 < 1024
    · have c3 : ¬ (rd s (i : Int) ≥ 1024) := by rw [rdn]; omega
      have hnext := ih (i + 1) (by omega) (fun j h => by
        by_cases e : j = i
        · rw [e]; exact c
        · exact hj j (by omega))
      simp only [blackboardref1_Unpack.l0, if_pos c1, if_pos c2, if_neg c3, ei]
      exact hnext
    · have c3 : rd s (i : Int) ≥ 1024 := by rw [rdn]; omega
      simp only [blackboardref1_Unpack.l0, if_pos c1, if_pos c2, if_pos c3]
      exact Ev.now _
theorem bigOne_iff (s : List Int) (h0 : ∀ x ∈ s, 0 ≤ x) (h : ¬ Syms s) : bigOne s = true := by
  cases hb : bigOne s with
  | true => rfl
  | false =>
    unfold bigOne at hb
    rw [List.any_eq_false] at hb
    exact absurd (fun x hx => ⟨h0 x hx, by have := hb x hx; simp only [decide_eq_true_eq] at this; omega⟩) h
/-- Unpack and the document's own are one, whatever is asked -/
theorem unpack_any (s : List Int) (h0 : ∀ x ∈ s, 0 ≤ x) (hL : s.length ≤ 100000) (n : Int) : ∃ r, Ev (fun k => pack_Unpack.f k s n) r ∧ Ev (fun k => blackboardref1_Unpack.f k s n) r := by
  have far1 : Ev (fun k => pack_Unpack.j0 k s n true) (([] : List Int), (3 : Int)) := by
    refine Ev.one ?_
    simp only [pack_Unpack.j0, if_true]; exact Ev.now _
  have far2 : Ev (fun k => blackboardref1_Unpack.j0 k s n true) (([] : List Int), (3 : Int)) := by
    refine Ev.one ?_
    simp only [blackboardref1_Unpack.j0, if_true]; exact Ev.now _
  unfold pack_Unpack.f blackboardref1_Unpack.f
  by_cases c1 : n < 0
  · simp only [if_pos c1]
    exact ⟨_, far1, far2⟩
  · have e1 := refbytes_is (s.length : Int) (by omega) (by omega)
    have e2 : 10 * (s.length : Int) / 8 = ((10 * s.length / 8 : Nat) : Int) := by omega
    rw [e2] at e1
    simp only [if_neg c1, bytes_is s.length (by omega), e1, Option.bind_some]
    by_cases c2 : n > ((10 * s.length / 8 : Nat) : Int)
    · rw [decide_eq_true c2]
      exact ⟨_, far1, far2⟩
    · rw [decide_eq_false c2]
      obtain ⟨m, rfl⟩ : ∃ m : Nat, n = (m : Int) := ⟨n.toNat, by omega⟩
      by_cases hs : Syms s
      · refine ⟨(ws (bt 10 s) 8 m, 0), ?_, ?_⟩
        · refine Ev.one ?_
          simp only [pack_Unpack.j0, Bool.false_eq_true, if_false, slices_ContainsFunc_uint16_uint16.f, Option.bind_some, bigOne_no s hs]
          exact unpack_loop s hs m (by omega) (by omega) s.length 0 0 0 (by omega) (by omega) (by omega) (by omega) (by omega)
        · refine Ev.one ?_
          simp only [blackboardref1_Unpack.j0, Bool.false_eq_true, if_false]
          exact refunpack_all s hs (by omega) m (by omega) s.length 0 (by omega)
      · refine ⟨([], 1), ?_, ?_⟩
        · refine Ev.one ?_
          simp only [pack_Unpack.j0, Bool.false_eq_true, if_false, slices_ContainsFunc_uint16_uint16.f, Option.bind_some, bigOne_iff s h0 hs, if_true]
          exact Ev.now _
        · refine Ev.one ?_
          simp only [blackboardref1_Unpack.j0, Bool.false_eq_true, if_false]
          exact ref_big s (by omega) (m : Int) hs h0 s.length 0 (by omega) (fun j h => absurd h (Nat.not_lt_zero _))
theorem within_in (n : Int) : 0 ≤ mn (mx n 0) 1099511627776 ∧ mn (mx n 0) 1099511627776 ≤ 1099511627776 := by
  unfold mn mx
  (repeat' split) <;> omega
theorem bytes_any (n : Int) : ∃ r, pack_Bytes.f n = some r ∧ blackboardref1_Bytes.f n = some r := by
  unfold pack_Bytes.f pack_within.f blackboardref1_Bytes.f
  have h := within_in n
  generalize mn (mx n 0) 1099511627776 = y at *
  refine ⟨10 * y / 8, ?_, rfl⟩
  rw [Option.bind_some, w64 (x := y * 10) (by omega) (by omega), Int.tdiv_eq_ediv_of_nonneg (by omega), w64 (by omega) (by omega), Int.mul_comm]
theorem symbols_any (n : Int) : ∃ r, pack_Symbols.f n = some r ∧ blackboardref1_Symbols.f n = some r := by
  unfold pack_Symbols.f pack_within.f blackboardref1_Symbols.f
  have h := within_in n
  generalize mn (mx n 0) 1099511627776 = y at *
  refine ⟨(8 * y + 9) / 10, ?_, rfl⟩
  rw [Option.bind_some, w64 (x := y * 8) (by omega) (by omega), w64 (x := y * 8 + 10) (by omega) (by omega), w64 (x := y * 8 + 10 - 1) (by omega) (by omega), Int.tdiv_eq_ediv_of_nonneg (by omega), w64 (by omega) (by omega)]
  congr 1; omega
end Go.Proofs.Ytdgpondnogpolaa.Pure
