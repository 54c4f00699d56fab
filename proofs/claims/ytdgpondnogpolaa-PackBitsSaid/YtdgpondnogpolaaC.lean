/- What the document's own Pack and Unpack come to: by hand. -/
import Derived.Test.YtdgpondnogpolaaB
import Derived.Test.YtdgpondnogpolaaMx4
import Derived.Test.YtdgpondnogpolaaMx5
import Derived.Test.YtdgpondnogpolaaMx6
set_option linter.unusedVariables false
set_option linter.unusedSimpArgs false
namespace Go.Proofs.Ytdgpondnogpolaa.Pure
open Go.RowKit Go.Proofs.Ytdgpondnogpolaa.M Go.Proofs.YtdgpondnogpolaaW.PrintWords Go.Proofs.YtdgpondnogpolaaW.PrintLast Go.Proofs.YtdgpondnogpolaaW.PrintMore

/-! the document's own -/
theorem refbytes_is (n : Int) (h : 0 ≤ n) (h2 : n ≤ 1000000) : blackboardref1_Bytes.f n = some (10 * n / 8) := by
  unfold blackboardref1_Bytes.f
  rw [within_is _ h (by omega)]
theorem refsyms_is (n : Int) (h : 0 ≤ n) (h2 : n ≤ 1000000) : blackboardref1_Symbols.f n = some ((8 * n + 9) / 10) := by
  unfold blackboardref1_Symbols.f
  rw [within_is _ h (by omega)]
theorem div8 (i : Nat) (h : i ≤ 1000000000) : wrap64 (Int.tdiv (i : Int) 8) = ((i / 8 : Nat) : Int) := by
  rw [Int.tdiv_eq_ediv_of_nonneg (by omega), w64 (by omega) (by omega)]; omega
theorem div10 (i : Nat) (h : i ≤ 1000000000) : wrap64 (Int.tdiv (i : Int) 10) = ((i / 10 : Nat) : Int) := by
  rw [Int.tdiv_eq_ediv_of_nonneg (by omega), w64 (by omega) (by omega)]; omega
theorem wrap_u64 (n : Int) : IntKind.u64.wrap n = n % 18446744073709551616 := by simp [IntKind.wrap, IntKind.bits, IntKind.signed]
theorem sh8 (i : Nat) : IntKind.u64.wrap (wrap64 (7 - Int.tmod (i : Int) 8)) = ((8 - 1 - i % 8 : Nat) : Int) := by
  rw [Int.tmod_eq_emod_of_nonneg (by omega), w64 (by omega) (by omega), wrap_u64]; omega
theorem sh10 (i : Nat) : IntKind.u64.wrap (wrap64 (9 - Int.tmod (i : Int) 10)) = ((10 - 1 - i % 10 : Nat) : Int) := by
  rw [Int.tmod_eq_emod_of_nonneg (by omega), w64 (by omega) (by omega), wrap_u64]; omega
theorem and1_u8 (x : Nat) (h : x < 256) : Go.bits .and .u8 (x : Int) 1 = ((x % 2 : Nat) : Int) := by
  rw [← nat_mask1]; exact u8_and_nat x 1 h (by decide)
theorem and1_u16 (x : Nat) (h : x < 65536) : Go.bits .and .u16 (x : Int) 1 = ((x % 2 : Nat) : Int) := by
  rw [← nat_mask1]; exact u16_and_nat x 1 h (by decide)
theorem one_u16 (n : Nat) (h : n ≤ 9) : shl .u16 1 (n : Int) = ((2 ^ n : Nat) : Int) ∧ 2 ^ n < 65536 := by
  have h2 : (2 : Nat) ^ n ≤ 2 ^ 9 := Nat.pow_le_pow_right (by decide) h
  rw [show (2 : Nat) ^ 9 = 512 from rfl] at h2
  refine ⟨?_, by omega⟩
  have hb : n ≤ IntKind.u16.bits := Nat.le_trans h (by decide)
  unfold shl
  rw [Int.toNat_natCast, Nat.min_eq_left hb, Int.one_mul, show (2 : Int) ^ n = ((2 ^ n : Nat) : Int) by simp, IntKind.wrap_u16]
  generalize (2 : Nat) ^ n = y at *
  omega
theorem one_u8 (n : Nat) (h : n ≤ 7) : shl .u8 1 (n : Int) = ((2 ^ n : Nat) : Int) ∧ 2 ^ n < 256 := by
  have h2 : (2 : Nat) ^ n ≤ 2 ^ 7 := Nat.pow_le_pow_right (by decide) h
  rw [show (2 : Nat) ^ 7 = 128 from rfl] at h2
  refine ⟨?_, by omega⟩
  have hb : n ≤ IntKind.u8.bits := Nat.le_trans h (by decide)
  unfold shl
  rw [Int.toNat_natCast, Nat.min_eq_left hb, Int.one_mul, show (2 : Int) ^ n = ((2 ^ n : Nat) : Int) by simp, IntKind.wrap_u8]
  generalize (2 : Nat) ^ n = y at *
  omega
/-- the bit that the document's loop asks for, of bytes -/
theorem bit_u8 (b : List Int) (hb : Bytes8 b) (i : Nat) (h : i / 8 < b.length) : Go.bits .and .u8 (shr .u8 (rd b ((i / 8 : Nat) : Int)) ((8 - 1 - i % 8 : Nat) : Int)) 1 = ((bt 8 b i : Nat) : Int) := by
  obtain ⟨v, hv⟩ : ∃ v : Nat, b.getD (i / 8) 0 = (v : Int) := ⟨(b.getD (i / 8) 0).toNat, by have := hb _ (getD_in b (i / 8) h); omega⟩
  have hv2 : v < 256 := by have := hb _ (getD_in b (i / 8) h); omega
  have hs : 8 - 1 - i % 8 ≤ IntKind.u8.bits := Nat.le_trans (Nat.sub_le _ _) (by decide)
  have hd : v / 2 ^ (8 - 1 - i % 8) < 256 := Nat.lt_of_le_of_lt (Nat.div_le_self _ _) hv2
  rw [rdn, hv, shr_nat .u8 v _ hs, and1_u8 _ hd]
  unfold bt
  rw [hv, Int.toNat_natCast]
theorem bit_u16 (b : List Int) (hb : Syms b) (i : Nat) (h : i / 10 < b.length) : Go.bits .and .u16 (shr .u16 (rd b ((i / 10 : Nat) : Int)) ((10 - 1 - i % 10 : Nat) : Int)) 1 = ((bt 10 b i : Nat) : Int) := by
  obtain ⟨v, hv⟩ : ∃ v : Nat, b.getD (i / 10) 0 = (v : Int) := ⟨(b.getD (i / 10) 0).toNat, by have := hb _ (getD_in b (i / 10) h); omega⟩
  have hv2 : v < 1024 := by have := hb _ (getD_in b (i / 10) h); omega
  have hs : 10 - 1 - i % 10 ≤ IntKind.u16.bits := Nat.le_trans (Nat.sub_le _ _) (by decide)
  have hd : v / 2 ^ (10 - 1 - i % 10) < 65536 := Nat.lt_of_le_of_lt (Nat.div_le_self _ _) (by omega)
  rw [rdn, hv, shr_nat .u16 v _ hs, and1_u16 _ hd]
  unfold bt
  rw [hv, Int.toNat_natCast]
/-- the number that the document's loop puts there -/
theorem put_u16 (f : Nat → Nat) (hf : ∀ p, f p ≤ 1) (m i : Nat) (h : i / 10 < m) : Go.bits .or .u16 (rd (ws f 10 m) ((i / 10 : Nat) : Int)) (shl .u16 1 ((10 - 1 - i % 10 : Nat) : Int)) = ((W f (10 * (i / 10)) 10 ||| 2 ^ (10 - 1 - i % 10) : Nat) : Int) := by
  have h1 := one_u16 (10 - 1 - i % 10) (Nat.sub_le _ _)
  have h2 := W_lt f hf (10 * (i / 10)) 10
  rw [rdn, ws_get f 10 m _ h, h1.1, u16_or_nat _ _ (Nat.lt_of_lt_of_le h2 (by decide)) h1.2]
theorem put_u8 (f : Nat → Nat) (hf : ∀ p, f p ≤ 1) (m i : Nat) (h : i / 8 < m) : Go.bits .or .u8 (rd (ws f 8 m) ((i / 8 : Nat) : Int)) (shl .u8 1 ((8 - 1 - i % 8 : Nat) : Int)) = ((W f (8 * (i / 8)) 8 ||| 2 ^ (8 - 1 - i % 8) : Nat) : Int) := by
  have h1 := one_u8 (8 - 1 - i % 8) (Nat.sub_le _ _)
  have h2 := W_lt f hf (8 * (i / 8)) 8
  rw [rdn, ws_get f 8 m _ h, h1.1, u8_or_nat _ _ (Nat.lt_of_lt_of_le h2 (by decide)) h1.2]
theorem refpack_loop (b : List Int) (hb : Bytes8 b) (hL : b.length ≤ 1000000) (m : Nat) (hm : 8 * b.length ≤ 10 * m) (hm2 : m ≤ 10000000) : ∀ (d i : Nat), i + d = 8 * b.length →
    Ev (fun k => blackboardref1_Pack.l0 k b (ws (cut (bt 8 b) i) 10 m) (i : Int)) (ws (bt 8 b) 10 m) := by
  have hf := bt_le 8 b
  have e0 : wrap64 (8 * (b.length : Int)) = 8 * (b.length : Int) := w64 (by omega) (by omega)
  intro d
  induction d with
  | zero =>
    intro i hi
    have c1 : ¬ ((i : Int) < 8 * (b.length : Int)) := by omega
    refine Ev.one ?_
    simp only [blackboardref1_Pack.l0, e0, if_neg c1]
    rw [cut_all (bt 8 b) 10 m i (fun p hp => bt_off 8 b p (by omega))]
    exact Ev.now _
  | succ d ih =>
    intro i hi
    have c1 : (i : Int) < 8 * (b.length : Int) := by omega
    have h3 : i / 8 < b.length := by omega
    have h4 : i / 10 < m := by omega
    have h5 : i < 10 * m := by omega
    have hbit : bt 8 b i = 0 ∨ bt 8 b i = 1 := by have := hf i; omega
    have hnext := ih (i + 1) (by omega)
    have ei := wn1 (i := i) (by omega)
    have e1 := div8 i (by omega)
    have e2 := div10 i (by omega)
    have c2 : 0 ≤ ((i / 8 : Nat) : Int) := Int.natCast_nonneg _
    have c3 : ((i / 8 : Nat) : Int) < (b.length : Int) := Int.ofNat_lt.mpr h3
    have c4 : 0 ≤ ((8 - 1 - i % 8 : Nat) : Int) := Int.natCast_nonneg _
    have c5 : 0 ≤ ((i / 10 : Nat) : Int) := Int.natCast_nonneg _
    have c6 : ((i / 10 : Nat) : Int) < ((ws (cut (bt 8 b) i) 10 m).length : Int) := by rw [ws_length]; exact Int.ofNat_lt.mpr h4
    have c7 : 0 ≤ ((10 - 1 - i % 10 : Nat) : Int) := Int.natCast_nonneg _
    have e3 := bit_u8 b hb i h3
    have e4 := put_u16 (cut (bt 8 b) i) (cut_le _ hf i) m i h4
    refine Ev.one ?_
    rcases hbit with c | c
    · have cc : ¬ ((bt 8 b i : Nat) : Int) = 1 := by rw [c]; decide
      rw [← keep_bit (bt 8 b) 10 m i c] at hnext
      simp only [blackboardref1_Pack.l0, e0, if_pos c1, e1, if_pos c2, if_pos c3, sh8, if_pos c4, e3, if_neg cc, ei]
      exact hnext
    · have cc : ((bt 8 b i : Nat) : Int) = 1 := by rw [c]; rfl
      rw [← set_bit (bt 8 b) 10 m i (by decide) h5 c] at hnext
      simp only [blackboardref1_Pack.l0, e0, if_pos c1, e1, e2, if_pos c2, if_pos c3, sh8, sh10, if_pos c4, e3, if_pos cc, if_pos c5, if_pos c6, if_pos c7, Int.toNat_natCast, e4, ei]
      exact hnext
theorem refpack_is (b : List Int) (hb : Bytes8 b) (hL : b.length ≤ 1000000) : Ev (fun k => blackboardref1_Pack.f k b) (packOf b) := by
  unfold blackboardref1_Pack.f
  have e1 := refsyms_is (b.length : Int) (by omega) (by omega)
  have c1 : 0 ≤ (8 * (b.length : Int) + 9) / 10 := by omega
  have e2 : ((8 * (b.length : Int) + 9) / 10).toNat = (8 * b.length + 9) / 10 := by omega
  have c2 : (8 * b.length + 9) / 10 ≤ 140737488355328 := by omega
  simp only [e1, Option.bind_some, if_pos c1, e2, if_pos c2]
  rw [← cut_zero (bt 8 b) 10]
  exact refpack_loop b hb hL _ (by omega) (by omega) (8 * b.length) 0 (by omega)
theorem refunpack_loop (s : List Int) (hs : Syms s) (hL : s.length ≤ 1000000) (n : Nat) (hn : 8 * n ≤ 10 * s.length) : ∀ (d i : Nat), i + d = 8 * n →
    Ev (fun k => blackboardref1_Unpack.l1 k s (n : Int) (ws (cut (bt 10 s) i) 8 n) (i : Int)) (ws (bt 10 s) 8 n, 0) := by
  have hf := bt_le 10 s
  have e0 : wrap64 (8 * (n : Int)) = 8 * (n : Int) := w64 (by omega) (by omega)
  intro d
  induction d with
  | zero =>
    intro i hi
    have c1 : ¬ ((i : Int) < 8 * (n : Int)) := by omega
    have hcut : ws (cut (bt 10 s) i) 8 n = ws (bt 10 s) 8 n := ws_congr _ _ 8 n fun p hp => by unfold cut; rw [if_pos (by omega)]
    refine Ev.one ?_
    simp only [blackboardref1_Unpack.l1, e0, if_neg c1]
    rw [hcut]
    exact Ev.now _
  | succ d ih =>
    intro i hi
    have c1 : (i : Int) < 8 * (n : Int) := by omega
    have h3 : i / 10 < s.length := by omega
    have h4 : i / 8 < n := by omega
    have h5 : i < 8 * n := by omega
    have hbit : bt 10 s i = 0 ∨ bt 10 s i = 1 := by have := hf i; omega
    have hnext := ih (i + 1) (by omega)
    have ei := wn1 (i := i) (by omega)
    have e1 := div8 i (by omega)
    have e2 := div10 i (by omega)
    have c2 : 0 ≤ ((i / 10 : Nat) : Int) := Int.natCast_nonneg _
    have c3 : ((i / 10 : Nat) : Int) < (s.length : Int) := Int.ofNat_lt.mpr h3
    have c4 : 0 ≤ ((10 - 1 - i % 10 : Nat) : Int) := Int.natCast_nonneg _
    have c5 : 0 ≤ ((i / 8 : Nat) : Int) := Int.natCast_nonneg _
    have c6 : ((i / 8 : Nat) : Int) < ((ws (cut (bt 10 s) i) 8 n).length : Int) := by rw [ws_length]; exact Int.ofNat_lt.mpr h4
    have c7 : 0 ≤ ((8 - 1 - i % 8 : Nat) : Int) := Int.natCast_nonneg _
    have e3 := bit_u16 s hs i h3
    have e4 := put_u8 (cut (bt 10 s) i) (cut_le _ hf i) n i h4
    refine Ev.one ?_
    rcases hbit with c | c
    · have cc : ¬ ((bt 10 s i : Nat) : Int) = 1 := by rw [c]; decide
      rw [← keep_bit (bt 10 s) 8 n i c] at hnext
      simp only [blackboardref1_Unpack.l1, e0, if_pos c1, e2, if_pos c2, if_pos c3, sh10, if_pos c4, e3, if_neg cc, ei]
      exact hnext
    · have cc : ((bt 10 s i : Nat) : Int) = 1 := by rw [c]; rfl
      rw [← set_bit (bt 10 s) 8 n i (by decide) h5 c] at hnext
      simp only [blackboardref1_Unpack.l1, e0, if_pos c1, e1, e2, if_pos c2, if_pos c3, sh8, sh10, if_pos c4, e3, if_pos cc, if_pos c5, if_pos c6, if_pos c7, Int.toNat_natCast, e4, ei]
      exact hnext
theorem refunpack_all (s : List Int) (hs : Syms s) (hL : s.length ≤ 1000000) (n : Nat) (hn : 8 * n ≤ 10 * s.length) : ∀ (d i : Nat), i + d = s.length →
    Ev (fun k => blackboardref1_Unpack.l0 k s (n : Int) (i : Int)) (ws (bt 10 s) 8 n, 0) := by
  intro d
  induction d with
  | zero =>
    intro i hi
    have c1 : ¬ ((i : Int) < (s.length : Int)) := by omega
    have c2 : 0 ≤ (n : Int) := by omega
    have c3 : n ≤ 281474976710656 := by omega
    have hlast := refunpack_loop s hs hL n hn (8 * n) 0 (by omega)
    rw [cut_zero] at hlast
    refine Ev.one ?_
    simp only [blackboardref1_Unpack.l0, if_neg c1, if_pos c2, Int.toNat_natCast, if_pos c3]
    exact hlast
  | succ d ih =>
    intro i hi
    have c1 : ((i : Int) < (s.length : Int)) := by omega
    have c2 : 0 ≤ (i : Int) := by omega
    have hx := hs _ (getD_in s i (by omega))
    have c3 : ¬ (rd s (i : Int) ≥ 1024) := by rw [rdn]; omega
    have hnext := ih (i + 1) (by omega)
    have ei := wn1 (i := i) (by omega)
    refine Ev.one ?_
    simp only [blackboardref1_Unpack.l0, if_pos c1, if_pos c2, if_neg c3, ei]
    exact hnext
end Go.Proofs.Ytdgpondnogpolaa.Pure
