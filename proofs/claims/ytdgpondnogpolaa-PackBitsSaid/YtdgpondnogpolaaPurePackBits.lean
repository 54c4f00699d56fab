/- The law PackBits of the seat, over its printed functions. -/
import Derived.Test.YtdgpondnogpolaaD
import Derived.Test.YtdgpondnogpolaaMx10
set_option linter.unusedVariables false
set_option linter.unusedSimpArgs false
namespace Go.Proofs.Ytdgpondnogpolaa.Pure
open Go.RowKit Go.Proofs.Ytdgpondnogpolaa.M Go.Proofs.YtdgpondnogpolaaW.PrintWords Go.Proofs.YtdgpondnogpolaaW.PrintLast Go.Proofs.YtdgpondnogpolaaW.PrintMore

theorem psyms_bits (n : Nat) (h : n ≤ 1000000) : pack_Symbols.f (n : Int) = some (((8 * n + 9) / 10 : Nat) : Int) := by
  unfold pack_Symbols.f pack_within.f
  rw [Option.bind_some, within_is _ (by omega) (by omega), w64 (x := (n : Int) * 8) (by omega) (by omega), w64 (x := (n : Int) * 8 + 10) (by omega) (by omega), w64 (x := (n : Int) * 8 + 10 - 1) (by omega) (by omega), Int.tdiv_eq_ediv_of_nonneg (by omega), w64 (by omega) (by omega)]
  congr 1; omega
theorem W_one (f : Nat → Nat) (i : Nat) (hf : ∀ p, f p = if p = i then 1 else 0) (base : Nat) : ∀ n, W f base n = if base ≤ i ∧ i < base + n then 2 ^ (base + n - 1 - i) else 0
  | 0 => by rw [W, if_neg (by omega)]
  | n + 1 => by
    rw [W, W_one f i hf base n, hf]
    by_cases c : base ≤ i ∧ i < base + n
    · rw [if_pos c, if_neg (by omega), if_pos (by omega), show base + (n + 1) - 1 - i = (base + n - 1 - i) + 1 by omega, Nat.pow_succ]; omega
    · rw [if_neg c]
      by_cases e : base + n = i
      · rw [if_pos e, if_pos (by omega), show base + (n + 1) - 1 - i = 0 by omega]
      · rw [if_neg e, if_neg (by omega)]
theorem bit_tab : ∀ r s : Fin 8, 2 ^ (7 - r.val) / 2 ^ (7 - s.val) % 2 = if s = r then 1 else 0 := by decide
theorem one_bt (kk i : Nat) (hi : i < 8 * kk) (p : Nat) : bt 8 ((List.replicate kk 0).set (i / 8) ((2 ^ (8 - 1 - i % 8) : Nat) : Int)) p = if p = i then 1 else 0 := by
  have hlt : i / 8 < kk := by omega
  unfold bt
  by_cases c : p / 8 = i / 8
  · have hg : ((List.replicate kk (0 : Int)).set (i / 8) ((2 ^ (8 - 1 - i % 8) : Nat) : Int)).getD (p / 8) 0 = ((2 ^ (8 - 1 - i % 8) : Nat) : Int) := by
      rw [c, List.getD_eq_getElem?_getD, List.getElem?_set_self (by rw [List.length_replicate]; exact hlt)]; rfl
    rw [hg, Int.toNat_natCast]
    have h := bit_tab ⟨i % 8, by omega⟩ ⟨p % 8, by omega⟩
    simp only [Fin.mk.injEq] at h
    rw [show 8 - 1 = 7 from rfl, h]
    by_cases e : p % 8 = i % 8
    · rw [if_pos e, if_pos (by omega)]
    · rw [if_neg e, if_neg (fun hh => e (by rw [hh]))]
  · have hg : ((List.replicate kk (0 : Int)).set (i / 8) ((2 ^ (8 - 1 - i % 8) : Nat) : Int)).getD (p / 8) 0 = 0 := by
      rw [List.getD_eq_getElem?_getD, List.getElem?_set_ne (fun h => c h.symm)]
      by_cases e : p / 8 < kk
      · rw [List.getElem?_replicate, if_pos e]; rfl
      · rw [List.getElem?_replicate, if_neg e]; rfl
    rw [hg, if_neg (fun hh => c (by rw [hh]))]
    simp
theorem bits_loop (b : List Int) (kk i : Nat) (hk1 : 1 ≤ kk) (hk : kk ≤ 60) (hi : i < 8 * kk) (hb : Bytes8 b) (hl : b.length = kk) (hbt : ∀ p, bt 8 b p = if p = i then 1 else 0) : ∀ (d j : Nat), j + d = (packOf b).length →
    Ev (fun k => blackboardlaw5_PackBits.l0 k (kk : Int) (i : Int) b (packOf b) (j : Int)) true := by
  have hlen := packOf_length b
  rw [hl] at hlen
  intro d
  induction d with
  | zero =>
    intro j hj
    have c1 : ¬ ((j : Int) < ((packOf b).length : Int)) := by omega
    have c2 : ((packOf b).length : Int) = (((8 * kk + 9) / 10 : Nat) : Int) := by omega
    have hy := psyms_bits kk (by omega)
    have hu := unpack_pack b hb (by omega)
    rw [hl] at hu
    refine Ev.one ?_
    simp only [blackboardlaw5_PackBits.l0, if_neg c1]
    refine Ev.bind hu ?_
    simp only [if_true, hy, Option.bind_some, c2, beq_self_eq_true]
    exact Ev.now _
  | succ d ih =>
    intro j hj
    have hjl : j < (packOf b).length := by omega
    have c1 : ((j : Int) < ((packOf b).length : Int)) := by omega
    have c2 : 0 ≤ (j : Int) := by omega
    have ei := wn1 (i := j) (by omega)
    have hnext := ih (j + 1) (by omega)
    have e1 := div10 i (by omega)
    have c3 : 0 ≤ ((10 - 1 - i % 10 : Nat) : Int) := Int.natCast_nonneg _
    have hex : 10 * j + 10 - 1 - i = 10 - 1 - i % 10 ∨ j ≠ i / 10 := by omega
    have hin : (10 * j ≤ i ∧ i < 10 * j + 10) ↔ j = i / 10 := by omega
    have ho := (one_u16 (10 - 1 - i % 10) (Nat.sub_le _ _)).1
    have hv : rd (packOf b) (j : Int) = ((if 10 * j ≤ i ∧ i < 10 * j + 10 then 2 ^ (10 * j + 10 - 1 - i) else 0 : Nat) : Int) := by
      rw [rdn]
      unfold packOf
      rw [ws_get _ 10 _ j (by rw [← hl] at hlen; omega), W_one (bt 8 b) i hbt]
    refine Ev.one ?_
    by_cases c : j = i / 10
    · have c' : (j : Int) = ((i / 10 : Nat) : Int) := by omega
      rw [if_pos (hin.mpr c), hex.resolve_right (fun h => h c)] at hv
      simp only [blackboardlaw5_PackBits.l0, if_pos c1, e1, if_pos c', sh10, if_pos c3, if_pos c2, hv, ho, if_true, ei]
      exact hnext
    · have c' : ¬ (j : Int) = ((i / 10 : Nat) : Int) := by omega
      rw [if_neg (fun h => c (hin.mp h))] at hv
      have h0 : rd (packOf b) (j : Int) = 0 := hv
      simp only [blackboardlaw5_PackBits.l0, if_pos c1, e1, if_neg c', if_pos c2, if_pos h0, ei]
      exact hnext
theorem PackBits : blackboardlaw5_PackBits.Pure := by
  intro a c ha hc
  have ha := bounds_u8 ha
  have hc := bounds_u16 hc
  refine Ev.rounds ?_
  unfold blackboardlaw5_PackBits.f
  refine Ev.bind awake5 ?_
  simp only [if_true]
  have e1 : wrap64 (1 + Int.tmod (wrap64 a) 60) = (((1 + a % 60).toNat : Nat) : Int) := by
    rw [w64 (x := a) (by omega) (by omega), Int.tmod_eq_emod_of_nonneg (by omega), w64 (by omega) (by omega)]; omega
  have h1 : 1 ≤ (1 + a % 60).toNat := by omega
  have h2 : (1 + a % 60).toNat ≤ 60 := by omega
  rw [e1]
  generalize (1 + a % 60).toNat = kk at *
  have e2 : wrap64 (8 * (kk : Int)) = ((8 * kk : Nat) : Int) := by rw [w64 (by omega) (by omega)]; omega
  rw [e2]
  have hm : 0 ≤ c % ((8 * kk : Nat) : Int) ∧ c % ((8 * kk : Nat) : Int) < ((8 * kk : Nat) : Int) := ⟨Int.emod_nonneg _ (by omega), Int.emod_lt_of_pos _ (by omega)⟩
  have e3 : Int.tmod (wrap64 c) ((8 * kk : Nat) : Int) = (((c % ((8 * kk : Nat) : Int)).toNat : Nat) : Int) := by
    rw [w64 (x := c) (by omega) (by omega), Int.tmod_eq_emod_of_nonneg (by omega), Int.toNat_of_nonneg hm.1]
  rw [e3]
  have hi : (c % ((8 * kk : Nat) : Int)).toNat < 8 * kk := by omega
  generalize (c % ((8 * kk : Nat) : Int)).toNat = i at *
  have c1 : ¬ ((8 * kk : Nat) : Int) = 0 := by omega
  have c2 : 0 ≤ (kk : Int) := by omega
  have c3 : kk ≤ 281474976710656 := by omega
  have e4 := div8 i (by omega)
  have c4 : 0 ≤ ((8 - 1 - i % 8 : Nat) : Int) := Int.natCast_nonneg _
  have c5 : 0 ≤ ((i / 8 : Nat) : Int) := Int.natCast_nonneg _
  have c6 : ((i / 8 : Nat) : Int) < ((List.replicate kk (0 : Int)).length : Int) := by rw [List.length_replicate]; omega
  have ho := one_u8 (8 - 1 - i % 8) (Nat.sub_le _ _)
  have hl : ((List.replicate kk (0 : Int)).set (i / 8) ((2 ^ (8 - 1 - i % 8) : Nat) : Int)).length = kk := by rw [List.length_set, List.length_replicate]
  have hb : Bytes8 ((List.replicate kk (0 : Int)).set (i / 8) ((2 ^ (8 - 1 - i % 8) : Nat) : Int)) := by
    intro x hx
    rcases List.mem_or_eq_of_mem_set hx with h | h
    · rw [(List.mem_replicate.mp h).2]; decide
    · rw [h]
      exact ⟨Int.natCast_nonneg _, Int.ofNat_lt.mpr ho.2⟩
  simp only [if_neg c1, if_pos c2, Int.toNat_natCast, if_pos c3, Option.bind_some, sh8, if_pos c4, e4, if_pos c5, if_pos c6, ho.1]
  refine Ev.bind (pack_is _ hb (by rw [hl]; omega)) ?_
  exact bits_loop _ kk i h1 h2 hi hb hl (one_bt kk i hi) _ 0 (by rw [Nat.zero_add])
end Go.Proofs.Ytdgpondnogpolaa.Pure
