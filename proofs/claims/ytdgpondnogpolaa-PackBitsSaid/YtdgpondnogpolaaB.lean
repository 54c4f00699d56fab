/- Bits, words of bits, and what pack's functions, and the document's own, come to: by hand. -/
import Derived.Test.YtdgpondnogpolaaMx2
import Derived.OpenShut
import Derived.Laws.BitsLemmas
import Derived.Laws.BitsAllLaws
set_option linter.unusedVariables false
set_option linter.unusedSimpArgs false
namespace Go.Proofs.Ytdgpondnogpolaa.Pure
open Go.RowKit Go.Proofs.Ytdgpondnogpolaa.M Go.Proofs.YtdgpondnogpolaaW.PrintWords Go.Proofs.YtdgpondnogpolaaW.PrintLast Go.Proofs.YtdgpondnogpolaaW.PrintMore

theorem w64 {x : Int} (h0 : -9223372036854775808 ≤ x) (h1 : x ≤ 9223372036854775807) : wrap64 x = x := by unfold wrap64; omega
theorem wn1 {i : Nat} (h : i ≤ 1000000000000000) : wrap64 ((i : Int) + 1) = ((i + 1 : Nat) : Int) := by rw [w64 (by omega) (by omega)]; rfl
theorem Ev.one {α : Type} {g : Nat → Option α} {r : α} (h : Ev (fun k => g (k + 1)) r) : Ev g r := Ev.step (fun _ => rfl) h

/-! words of bits, the first bit the highest -/
def W (f : Nat → Nat) (p : Nat) : Nat → Nat
  | 0 => 0
  | n + 1 => 2 * W f p n + f (p + n)
theorem W_lt (f : Nat → Nat) (hf : ∀ p, f p ≤ 1) (p : Nat) : ∀ n, W f p n < 2 ^ n
  | 0 => by simp [W]
  | n + 1 => by
    have := W_lt f hf p n
    have := hf (p + n)
    rw [W, Nat.pow_succ]; omega
theorem W_split (f : Nat → Nat) (p m : Nat) : ∀ n, W f p (m + n) = W f p m * 2 ^ n + W f (p + m) n
  | 0 => by simp [W]
  | n + 1 => by
    have := W_split f p m n
    rw [show m + (n + 1) = (m + n) + 1 from rfl, W, this, W, Nat.pow_succ, Nat.add_assoc p m n]
    rw [← Nat.mul_assoc]
    generalize W f p m * 2 ^ n = y at *
    omega
theorem W_congr (f g : Nat → Nat) (p : Nat) : ∀ n, (∀ j, j < n → f (p + j) = g (p + j)) → W f p n = W g p n
  | 0, _ => rfl
  | n + 1, h => by rw [W, W, W_congr f g p n (fun j hj => h j (by omega)), h n (by omega)]
theorem W_shift (f g : Nat → Nat) (p q : Nat) : ∀ n, (∀ j, j < n → f (p + j) = g (q + j)) → W f p n = W g q n
  | 0, _ => rfl
  | n + 1, h => by rw [W, W, W_shift f g p q n (fun j hj => h j (by omega)), h n (by omega)]
theorem W_zero (f : Nat → Nat) (p : Nat) : ∀ n, (∀ j, j < n → f (p + j) = 0) → W f p n = 0
  | 0, _ => rfl
  | n + 1, h => by rw [W, W_zero f p n (fun j hj => h j (by omega)), h n (by omega)]
theorem W_div (f : Nat → Nat) (hf : ∀ p, f p ≤ 1) (p m n : Nat) : W f p (m + n) / 2 ^ n = W f p m := by
  rw [W_split, Nat.mul_comm, Nat.mul_add_div (Nat.two_pow_pos n), Nat.div_eq_of_lt (W_lt f hf _ n), Nat.add_zero]
theorem W_mod (f : Nat → Nat) (hf : ∀ p, f p ≤ 1) (p m n : Nat) : W f p (m + n) % 2 ^ n = W f (p + m) n := by
  rw [W_split, Nat.mul_comm, Nat.mul_add_mod, Nat.mod_eq_of_lt (W_lt f hf _ n)]
theorem W_bit (f : Nat → Nat) (hf : ∀ p, f p ≤ 1) (p n j : Nat) (h : j < n) : W f p n / 2 ^ (n - 1 - j) % 2 = f (p + j) := by
  have e : n = (j + 1) + (n - 1 - j) := by omega
  have := W_div f hf p (j + 1) (n - 1 - j)
  rw [← e] at this
  rw [this, W]
  have := hf (p + j)
  omega
/-- the bits of numbers of w bits each, beside one another -/
def bt (w : Nat) (l : List Int) (p : Nat) : Nat := (l.getD (p / w) 0).toNat / 2 ^ (w - 1 - p % w) % 2
theorem bt_le (w : Nat) (l : List Int) (p : Nat) : bt w l p ≤ 1 := by unfold bt; omega
theorem bt_off (w : Nat) (l : List Int) (p : Nat) (h : l.length ≤ p / w) : bt w l p = 0 := by
  unfold bt
  rw [List.getD_eq_getElem?_getD, List.getElem?_eq_none h]
  simp
/-- numbers of w bits each out of bits -/
def ws (f : Nat → Nat) (w n : Nat) : List Int := (List.range n).map fun q => ((W f (w * q) w : Nat) : Int)
theorem ws_length (f : Nat → Nat) (w n : Nat) : (ws f w n).length = n := by simp [ws]
theorem ws_get (f : Nat → Nat) (w n q : Nat) (h : q < n) : (ws f w n).getD q 0 = ((W f (w * q) w : Nat) : Int) := by
  unfold ws
  rw [List.getD_eq_getElem?_getD, List.getElem?_eq_getElem (by simpa using h)]
  simp
theorem ws_succ (f : Nat → Nat) (w n : Nat) : ws f w (n + 1) = ws f w n ++ [((W f (w * n) w : Nat) : Int)] := by
  unfold ws; rw [List.range_succ, List.map_append]; rfl
theorem ws_congr (f g : Nat → Nat) (w n : Nat) (h : ∀ p, p < w * n → f p = g p) : ws f w n = ws g w n := by
  unfold ws
  apply List.map_congr_left
  intro q hq
  rw [List.mem_range] at hq
  rw [W_congr f g (w * q) w]
  intro j hj
  apply h
  have : w * (q + 1) ≤ w * n := Nat.mul_le_mul_left w hq
  rw [Nat.mul_add] at this
  omega
theorem bt_ws (f : Nat → Nat) (hf : ∀ p, f p ≤ 1) (w n p : Nat) (hw : 0 < w) (h : p < w * n) : bt w (ws f w n) p = f p := by
  unfold bt
  have hq : p / w < n := by rw [Nat.div_lt_iff_lt_mul hw, Nat.mul_comm]; exact h
  rw [ws_get f w n _ hq, Int.toNat_natCast, W_bit f hf _ w (p % w) (Nat.mod_lt _ hw), Nat.div_add_mod]
theorem W_num (f : Nat → Nat) (p w v : Nat) (hv : v < 2 ^ w) (h : ∀ j, j < w → f (p + j) = v / 2 ^ (w - 1 - j) % 2) : ∀ n, n ≤ w → W f p n = v / 2 ^ (w - n)
  | 0, _ => by rw [W, Nat.sub_zero, Nat.div_eq_of_lt hv]
  | n + 1, hn => by
    rw [W, W_num f p w v hv h n (by omega), h n (by omega)]
    have e : 2 ^ (w - n) = 2 ^ (w - 1 - n) * 2 := by rw [← Nat.pow_succ]; congr 1; omega
    have e2 : w - (n + 1) = w - 1 - n := by omega
    rw [e, e2, ← Nat.div_div_eq_div_mul]
    omega
theorem W_bt (w : Nat) (hw : 0 < w) (l : List Int) (i : Nat) (v : Nat) (hv : v < 2 ^ w) (h : l.getD i 0 = (v : Int)) : W (bt w l) (w * i) w = v := by
  rw [W_num (bt w l) (w * i) w v hv (fun j hj => ?_) w (Nat.le_refl _), Nat.sub_self, Nat.pow_zero, Nat.div_one]
  unfold bt
  rw [Nat.mul_add_div hw, Nat.div_eq_of_lt hj, Nat.add_zero, h, Int.toNat_natCast, Nat.mul_add_mod, Nat.mod_eq_of_lt hj]
theorem ws_bt (w : Nat) (hw : 0 < w) (l : List Int) (h : ∀ x ∈ l, 0 ≤ x ∧ x < 2 ^ w) : ws (bt w l) w l.length = l := by
  apply List.ext_getElem
  · rw [ws_length]
  · intro n h1 h2
    have hx := h _ (List.getElem_mem h2)
    have hg : l.getD n 0 = ((l[n].toNat : Nat) : Int) := by
      rw [List.getD_eq_getElem?_getD, List.getElem?_eq_getElem h2, Option.getD_some]; omega
    have hv : l[n].toNat < 2 ^ w := by
      have : ((l[n].toNat : Nat) : Int) < ((2 ^ w : Nat) : Int) := by rw [Int.natCast_pow]; simp only [Int.toNat_of_nonneg hx.1]; exact hx.2
      exact Int.ofNat_lt.mp this
    simp only [ws, List.getElem_map, List.getElem_range]
    rw [W_bt w hw l n _ hv hg]
    omega
/-- only the first i bits -/
def cut (f : Nat → Nat) (i p : Nat) : Nat := if p < i then f p else 0
theorem cut_le (f : Nat → Nat) (hf : ∀ p, f p ≤ 1) (i p : Nat) : cut f i p ≤ 1 := by unfold cut; split; exact hf p; omega
theorem W_cut (f : Nat → Nat) (base n i : Nat) (h1 : base ≤ i) (h2 : i ≤ base + n) : W (cut f i) base n = W f base (i - base) * 2 ^ (base + n - i) := by
  have e : n = (i - base) + (base + n - i) := by omega
  have := W_split (cut f i) base (i - base) (base + n - i)
  rw [← e] at this
  rw [this, W_congr (cut f i) f base (i - base) (fun j hj => by unfold cut; rw [if_pos (by omega)]), W_zero (cut f i) (base + (i - base)) _ (fun j hj => by unfold cut; rw [if_neg (by omega)]), Nat.add_zero]
theorem set_bit (f : Nat → Nat) (w m i : Nat) (hw : 0 < w) (hi : i < w * m) (h1 : f i = 1) :
    (ws (cut f i) w m).set (i / w) (((W (cut f i) (w * (i / w)) w ||| 2 ^ (w - 1 - i % w) : Nat)) : Int) = ws (cut f (i + 1)) w m := by
  have hdm := Nat.div_add_mod i w
  have hml := Nat.mod_lt i hw
  have hq : i / w < m := by rw [Nat.div_lt_iff_lt_mul hw, Nat.mul_comm]; exact hi
  apply List.ext_getElem
  · rw [List.length_set, ws_length, ws_length]
  · intro n g1 g2
    rw [ws_length] at g2
    rw [List.getElem_set]
    by_cases e : i / w = n
    · subst e
      rw [if_pos rfl]
      simp only [ws, List.getElem_map, List.getElem_range]
      generalize hb : w * (i / w) = base at *
      rw [W_cut f base w i (by omega) (by omega), W_cut f base w (i + 1) (by omega) (by omega)]
      have e1 : base + w - i = (w - 1 - i % w) + 1 := by omega
      have e2 : base + w - (i + 1) = w - 1 - i % w := by omega
      have e3 : i + 1 - base = (i - base) + 1 := by omega
      have e4 : base + (i - base) = i := by omega
      rw [e1, e2, e3, W, e4, h1]
      rw [nat_join ((w - 1 - i % w) + 1) _ _ (Nat.mul_mod_left _ _) (by rw [Nat.pow_succ]; have := Nat.two_pow_pos (w - 1 - i % w); omega), Nat.pow_succ]
      rw [Nat.add_mul, Nat.one_mul, Nat.mul_comm (2 ^ (w - 1 - i % w)) 2, ← Nat.mul_assoc, Nat.mul_comm _ 2]
    · rw [if_neg e]
      simp only [ws, List.getElem_map, List.getElem_range]
      congr 1
      apply W_congr
      intro j hj
      unfold cut
      have hne : w * n + j ≠ i := by
        intro hh
        apply e
        rw [← hh, Nat.mul_add_div hw, Nat.div_eq_of_lt hj, Nat.add_zero]
      by_cases c : w * n + j < i
      · rw [if_pos c, if_pos (by omega)]
      · rw [if_neg c, if_neg (by omega)]
theorem keep_bit (f : Nat → Nat) (w m i : Nat) (h0 : f i = 0) : ws (cut f i) w m = ws (cut f (i + 1)) w m := by
  apply ws_congr
  intro p _
  unfold cut
  by_cases c : p < i
  · rw [if_pos c, if_pos (by omega)]
  · by_cases e : p = i
    · subst e; rw [if_neg c, if_pos (by omega), h0]
    · rw [if_neg c, if_neg (by omega)]
theorem cut_zero (f : Nat → Nat) (w m : Nat) : ws (cut f 0) w m = List.replicate m 0 := by
  apply List.ext_getElem
  · rw [ws_length, List.length_replicate]
  · intro n g1 g2
    simp only [ws, List.getElem_map, List.getElem_range, List.getElem_replicate]
    rw [W_zero _ _ _ (fun j hj => by unfold cut; rw [if_neg (by omega)])]; rfl
theorem cut_all (f : Nat → Nat) (w m n : Nat) (h : ∀ p, n ≤ p → f p = 0) : ws (cut f n) w m = ws f w m := by
  apply ws_congr
  intro p _
  unfold cut
  by_cases c : p < n
  · rw [if_pos c]
  · rw [if_neg c, h p (by omega)]

/-! the machine's words -/
theorem wrap_i64_small (n : Int) (h0 : 0 ≤ n) (h1 : n < 2 ^ 40) : IntKind.i64.wrap n = n := by
  rw [show (2 : Int) ^ 40 = 1099511627776 from rfl] at h1
  rw [IntKind.wrap_i64]; omega
theorem or64 (x y i : Nat) (hi : i ≤ 40) (hx : x % 2 ^ i = 0) (hx1 : x < 2 ^ 40) (hy : y < 2 ^ i) : Go.bits .or .i64 (x : Int) (y : Int) = ((x + y : Nat) : Int) := by
  have hy1 : y < 2 ^ 40 := Nat.lt_of_lt_of_le hy (Nat.pow_le_pow_right (by decide) hi)
  rw [(bits_nat .i64 40 (by decide) wrap_i64_small x y hx1 hy1).2, nat_join i x y hx hy]
theorem and64 (x i : Nat) (hi : i ≤ 40) (hx1 : x < 2 ^ 40) : Go.bits .and .i64 (x : Int) ((2 : Int) ^ i - 1) = ((x % 2 ^ i : Nat) : Int) := by
  have h : (x : Int) < 2 ^ 40 := by exact_mod_cast hx1
  rw [bits_mask .i64 40 (by decide) wrap_i64_small i hi (x : Int) (Int.natCast_nonneg _) h]
  simp
theorem le64 {n : Nat} (h : n ≤ 64) : n ≤ IntKind.i64.bits := h
theorem shr_nat (k : IntKind) (x n : Nat) (h : n ≤ k.bits) : shr k (x : Int) (n : Int) = ((x / 2 ^ n : Nat) : Int) := by
  unfold shr; rw [Int.toNat_natCast, Nat.min_eq_left h, Int.natCast_ediv, Int.natCast_pow]; rfl
theorem shl_nat (k : IntKind) (x n : Nat) (h : n ≤ k.bits) (hk : k.wrap ((x * 2 ^ n : Nat) : Int) = ((x * 2 ^ n : Nat) : Int)) : shl k (x : Int) (n : Int) = ((x * 2 ^ n : Nat) : Int) := by
  unfold shl; rw [Int.toNat_natCast, Nat.min_eq_left h]
  have e : (x : Int) * 2 ^ n = ((x * 2 ^ n : Nat) : Int) := by simp
  rw [e, hk]
theorem pow_40 (n : Nat) (h : n ≤ 40) : (1 : Int) ≤ (2 : Int) ^ n ∧ (2 : Int) ^ n ≤ 1099511627776 := by
  have h1 : (2 : Nat) ^ n ≤ 2 ^ 40 := Nat.pow_le_pow_right (by decide) h
  have h2 := Nat.two_pow_pos n
  have e : (2 : Int) ^ n = ((2 ^ n : Nat) : Int) := by simp
  rw [e]
  rw [show (2 : Nat) ^ 40 = 1099511627776 from rfl] at h1
  omega
theorem shl_one (n : Nat) (h : n ≤ 40) : shl .i64 1 (n : Int) = (2 : Int) ^ n := by
  have hp := pow_40 n h
  have hw : IntKind.i64.wrap ((2 : Int) ^ n) = (2 : Int) ^ n := by rw [IntKind.wrap_i64]; omega
  have hb : n ≤ IntKind.i64.bits := Nat.le_trans h (by decide)
  unfold shl
  rw [Int.toNat_natCast, Nat.min_eq_left hb, Int.one_mul, hw]
theorem mask64 (n : Nat) (h : n ≤ 40) : wrap64 ((2 : Int) ^ n - 1) = (2 : Int) ^ n - 1 := by
  have hp := pow_40 n h
  rw [w64 (by omega) (by omega)]
theorem wpow (n : Nat) (h : n ≤ 40) : wrap64 ((2 : Int) ^ n) = (2 : Int) ^ n := by
  have hp := pow_40 n h
  rw [w64 (by omega) (by omega)]
theorem rdn (s : List Int) (n : Nat) : rd s (n : Int) = s.getD n 0 := by unfold rd; rw [Int.toNat_natCast]

/-! Pack -/
def packOf (b : List Int) : List Int := ws (bt 8 b) 10 ((8 * b.length + 9) / 10)
def Bytes8 (b : List Int) : Prop := ∀ x ∈ b, 0 ≤ x ∧ x < 256
def Syms (s : List Int) : Prop := ∀ x ∈ s, 0 ≤ x ∧ x < 1024
theorem getD_in (l : List Int) (i : Nat) (h : i < l.length) : l.getD i 0 ∈ l := by
  rw [List.getD_eq_getElem?_getD, List.getElem?_eq_getElem h]; exact List.getElem_mem h
theorem W_lt40 (f : Nat → Nat) (hf : ∀ p, f p ≤ 1) (p n : Nat) (h : n ≤ 30) : W f p n < 1073741824 := by
  have h1 := W_lt f hf p n
  have h2 : (2 : Nat) ^ n ≤ 2 ^ 30 := Nat.pow_le_pow_right (by decide) h
  rw [show (2 : Nat) ^ 30 = 1073741824 from rfl] at h2
  omega
/-- some bits behind others -/
theorem join_bits (f : Nat → Nat) (hf : ∀ p, f p ≤ 1) (p r w v : Nat) (hr : r ≤ 20) (hw : w ≤ 10) (hv : W f (p + r) w = v) :
    Go.bits .or .i64 (((W f p r * 2 ^ w : Nat)) : Int) (v : Int) = ((W f p (r + w) : Nat) : Int) := by
  have h1 := W_lt f hf p r
  have h2 := W_lt f hf (p + r) w
  rw [hv] at h2
  have h3 : W f p r * 2 ^ w < 2 ^ 40 := by
    have : W f p r * 2 ^ w < 2 ^ r * 2 ^ w := Nat.mul_lt_mul_of_pos_right h1 (Nat.two_pow_pos w)
    rw [← Nat.pow_add] at this
    exact Nat.lt_of_lt_of_le this (Nat.pow_le_pow_right (by decide) (by omega))
  rw [or64 _ v w (by omega) (Nat.mul_mod_left _ _) h3 h2, W_split, hv]
theorem pack_loop (b : List Int) (hb : Bytes8 b) (hL : b.length ≤ 1000000) : ∀ (d i : Nat), i + d = b.length →
    Ev (fun k => pack_Pack.l0 k (ws (bt 8 b) 10 (8 * i / 10)) ((W (bt 8 b) (10 * (8 * i / 10)) (8 * i % 10) : Nat) : Int) ((8 * i % 10 : Nat) : Int) b (b.length : Int) (i : Int)) (packOf b) := by
  have hf := bt_le 8 b
  intro d
  induction d with
  | zero =>
    intro i hi
    have hi' : i = b.length := by omega
    have c1 : ¬ ((i : Int) < (b.length : Int)) := by omega
    refine Ev.one ?_
    unfold packOf
    rw [← hi']
    have hoff : ∀ p, 8 * i ≤ p → bt 8 b p = 0 := fun p hp => bt_off 8 b p (by omega)
    by_cases c2 : 8 * i % 10 = 0
    · have c3 : ¬ (((8 * i % 10 : Nat) : Int) > 0) := by omega
      have e1 : (8 * i + 9) / 10 = 8 * i / 10 := by omega
      rw [e1]
      simp only [pack_Pack.l0, hi', if_neg (show ¬ ((b.length : Int) < (b.length : Int)) by omega)]
      rw [hi'] at c3
      simp only [if_neg c3]
      exact Ev.now _
    · have c3 : ((8 * i % 10 : Nat) : Int) > 0 := by omega
      have e1 : (8 * i + 9) / 10 = 8 * i / 10 + 1 := by omega
      have e2 : wrap64 (10 - ((8 * i % 10 : Nat) : Int)) = ((10 - 8 * i % 10 : Nat) : Int) := by rw [w64 (by omega) (by omega)]; omega
      have c4 : 0 ≤ ((10 - 8 * i % 10 : Nat) : Int) := by omega
      have c5 : (ws (bt 8 b) 10 (8 * i / 10)).length < 70368744177664 := by rw [ws_length]; omega
      have e3 : W (bt 8 b) (10 * (8 * i / 10)) 10 = W (bt 8 b) (10 * (8 * i / 10)) (8 * i % 10) * 2 ^ (10 - 8 * i % 10) := by
        have := W_split (bt 8 b) (10 * (8 * i / 10)) (8 * i % 10) (10 - 8 * i % 10)
        rw [show 8 * i % 10 + (10 - 8 * i % 10) = 10 by omega] at this
        rw [this, W_zero _ (10 * (8 * i / 10) + 8 * i % 10) _ (fun j hj => hoff _ (by omega)), Nat.add_zero]
      have hlt := W_lt (bt 8 b) hf (10 * (8 * i / 10)) 10
      rw [show (2 : Nat) ^ 10 = 1024 from rfl] at hlt
      rw [e1, ws_succ, e3]
      rw [e3] at hlt
      have hk : IntKind.i64.wrap ((W (bt 8 b) (10 * (8 * i / 10)) (8 * i % 10) * 2 ^ (10 - 8 * i % 10) : Nat) : Int) = ((W (bt 8 b) (10 * (8 * i / 10)) (8 * i % 10) * 2 ^ (10 - 8 * i % 10) : Nat) : Int) := by
        rw [IntKind.wrap_i64]; omega
      have e4 := shl_nat .i64 (W (bt 8 b) (10 * (8 * i / 10)) (8 * i % 10)) (10 - 8 * i % 10) (Nat.le_trans (Nat.sub_le _ _) (by decide)) hk
      have e5 : IntKind.u16.wrap ((W (bt 8 b) (10 * (8 * i / 10)) (8 * i % 10) * 2 ^ (10 - 8 * i % 10) : Nat) : Int) = ((W (bt 8 b) (10 * (8 * i / 10)) (8 * i % 10) * 2 ^ (10 - 8 * i % 10) : Nat) : Int) := by
        rw [IntKind.wrap_u16]; omega
      simp only [pack_Pack.l0, if_neg (Int.lt_irrefl (i : Int)), if_pos c3, e2, if_pos c4, if_pos c5, e4, e5]
      exact Ev.now _
  | succ d ih =>
    intro i hi
    have hi' : i < b.length := by omega
    have c1 : (i : Int) < (b.length : Int) := by omega
    have c0 : 0 ≤ (i : Int) := by omega
    obtain ⟨v, hv⟩ : ∃ v : Nat, b.getD i 0 = (v : Int) := ⟨(b.getD i 0).toNat, by have := hb _ (getD_in b i hi'); omega⟩
    have hv2 : v < 256 := by have := hb _ (getD_in b i hi'); omega
    have hWv := W_bt 8 (by decide) b i v hv2 hv
    have hnext := ih (i + 1) (by omega)
    have e0 : wrap64 (rd b (i : Int)) = (v : Int) := by rw [rdn, hv, w64 (by omega) (by omega)]
    have ei := wn1 (i := i) (by omega)
    generalize hB : 8 * i / 10 = q at *
    generalize hr : 8 * i % 10 = r at *
    have hq : 10 * q + r = 8 * i := by omega
    have hlt := W_lt40 (bt 8 b) hf (10 * q) r (by omega)
    have hlt2 := W_lt40 (bt 8 b) hf (10 * q) (r + 8) (by omega)
    have e1 : wrap64 (((W (bt 8 b) (10 * q) r : Nat) : Int) * 256) = ((W (bt 8 b) (10 * q) r * 2 ^ 8 : Nat) : Int) := by
      rw [w64 (by omega) (by omega)]; omega
    have e2 := join_bits (bt 8 b) hf (10 * q) r 8 v (by omega) (by omega) (by rw [hq]; exact hWv)
    have e3 : wrap64 ((r : Int) + 8) = ((r + 8 : Nat) : Int) := by rw [w64 (by omega) (by omega)]; omega
    refine Ev.one ?_
    by_cases c2 : r + 8 ≥ 10
    · have c3 : ((r + 8 : Nat) : Int) ≥ 10 := by omega
      have e4 : wrap64 (((r + 8 : Nat) : Int) - 10) = ((r - 2 : Nat) : Int) := by rw [w64 (by omega) (by omega)]; omega
      have c4 : 0 ≤ ((r - 2 : Nat) : Int) := by omega
      have c5 : (ws (bt 8 b) 10 q).length < 70368744177664 := by rw [ws_length]; omega
      have e5 := shr_nat .i64 (W (bt 8 b) (10 * q) (r + 8)) (r - 2) (le64 (by omega))
      have e6 : W (bt 8 b) (10 * q) (r + 8) / 2 ^ (r - 2) = W (bt 8 b) (10 * q) 10 := by
        have := W_div (bt 8 b) hf (10 * q) 10 (r - 2)
        rw [show 10 + (r - 2) = r + 8 by omega] at this
        exact this
      have e7 : W (bt 8 b) (10 * q) (r + 8) % 2 ^ (r - 2) = W (bt 8 b) (10 * (q + 1)) (r - 2) := by
        have := W_mod (bt 8 b) hf (10 * q) 10 (r - 2)
        rw [show 10 + (r - 2) = r + 8 by omega] at this
        exact this
      have hlt3 := W_lt (bt 8 b) hf (10 * q) 10
      rw [show (2 : Nat) ^ 10 = 1024 from rfl] at hlt3
      have e8 : IntKind.u16.wrap ((W (bt 8 b) (10 * q) 10 : Nat) : Int) = ((W (bt 8 b) (10 * q) 10 : Nat) : Int) := by rw [IntKind.wrap_u16]; omega
      have e9 := and64 (W (bt 8 b) (10 * q) (r + 8)) (r - 2) (by omega) (Nat.lt_of_lt_of_le hlt2 (by decide))
      have ea := shl_one (r - 2) (by omega)
      have eb := mask64 (r - 2) (by omega)
      have ec : 8 * (i + 1) / 10 = q + 1 := by omega
      have ed : 8 * (i + 1) % 10 = r - 2 := by omega
      rw [ec, ed, ws_succ] at hnext
      simp only [pack_Pack.l0, if_pos c1, if_pos c0, e0, e1, e2, e3, if_pos c3, e4, if_pos c4, if_pos c5, e5, e6, e8, ea, eb, e9, e7, ei]
      exact hnext
    · have c3 : ¬ ((r + 8 : Nat) : Int) ≥ 10 := by omega
      have ec : 8 * (i + 1) / 10 = q := by omega
      have ed : 8 * (i + 1) % 10 = r + 8 := by omega
      rw [ec, ed] at hnext
      simp only [pack_Pack.l0, if_pos c1, if_pos c0, e0, e1, e2, e3, if_neg c3, ei]
      exact hnext
theorem pack_is (b : List Int) (hb : Bytes8 b) (hL : b.length ≤ 1000000) : Ev (fun k => pack_Pack.f k b) (packOf b) :=
  pack_loop b hb hL b.length 0 (by omega)

/-! Unpack -/
theorem unpack_inner (s : List Int) (n i : Nat) (hi : i < s.length) (hL : s.length ≤ 1000000) (next : ∀ o M, o ≤ n → M ≤ 18 → M ≤ 10 * (i + 1) → (o = n ∨ (M + 8 * o = 10 * (i + 1) ∧ M < 8)) →
      Ev (fun k => pack_Unpack.l0 k (n : Int) (ws (bt 10 s) 8 o) ((W (bt 10 s) (10 * (i + 1) - M) M : Nat) : Int) (M : Int) s (s.length : Int) ((i + 1 : Nat) : Int)) (ws (bt 10 s) 8 n, 0)) (M0 : Nat) (hM0 : M0 ≤ 28) (hM1 : M0 ≤ 10 * (i + 1)) :
    ∀ (d M o : Nat), M + d = M0 → o ≤ n → (o = n ∨ M + 8 * o = 10 * (i + 1)) →
      Ev (fun k => pack_Unpack.l1 k (n : Int) (ws (bt 10 s) 8 o) ((W (bt 10 s) (10 * (i + 1) - M0) M0 : Nat) : Int) (M : Int) s (s.length : Int) (i : Int)) (ws (bt 10 s) 8 n, 0) := by
  have hf := bt_le 10 s
  have ei := wn1 (i := i) (by omega)
  intro d0
  -- by how much is left of M
  suffices H : ∀ (M d o : Nat), M + d = M0 → o ≤ n → (o = n ∨ M + 8 * o = 10 * (i + 1)) →
      Ev (fun k => pack_Unpack.l1 k (n : Int) (ws (bt 10 s) 8 o) ((W (bt 10 s) (10 * (i + 1) - M0) M0 : Nat) : Int) (M : Int) s (s.length : Int) (i : Int)) (ws (bt 10 s) 8 n, 0) from fun M o h1 h2 h3 => H M d0 o h1 h2 h3
  clear d0
  intro M
  induction M using Nat.strongRecOn with
  | _ M ih =>
    intro d o hd ho hinv
    have hlt := W_lt40 (bt 10 s) hf (10 * (i + 1) - M0) M0 (by omega)
    have out : (M ≤ 18 ∨ o = n) → (o = n ∨ M < 8) → Ev (fun k => if 0 ≤ mn (M : Int) 18 then pack_Unpack.l0 k (n : Int) (ws (bt 10 s) 8 o) (Go.bits .and .i64 ((W (bt 10 s) (10 * (i + 1) - M0) M0 : Nat) : Int) (wrap64 (wrap64 (2 ^ (mn (M : Int) 18).toNat) - 1))) (mn (M : Int) 18) s (s.length : Int) (wrap64 ((i : Int) + 1)) else none) (ws (bt 10 s) 8 n, 0) := by
      intro _ hx
      obtain ⟨m, hm, hm18, hmM⟩ : ∃ m : Nat, mn (M : Int) 18 = (m : Int) ∧ m ≤ 18 ∧ (m = M ∨ (m = 18 ∧ 18 < M)) := by
        unfold mn
        by_cases c : (18 : Int) < (M : Int)
        · exact ⟨18, by rw [if_pos c]; rfl, by omega, .inr ⟨rfl, by omega⟩⟩
        · exact ⟨M, by rw [if_neg c], by omega, .inl rfl⟩
      have e1 : W (bt 10 s) (10 * (i + 1) - M0) M0 % 2 ^ m = W (bt 10 s) (10 * (i + 1) - m) m := by
        have := W_mod (bt 10 s) hf (10 * (i + 1) - M0) (M0 - m) m
        rw [show M0 - m + m = M0 by omega, show 10 * (i + 1) - M0 + (M0 - m) = 10 * (i + 1) - m by omega] at this
        exact this
      have e2 := and64 (W (bt 10 s) (10 * (i + 1) - M0) M0) m (by omega) (Nat.lt_of_lt_of_le hlt (by decide))
      simp only [hm, if_pos (Int.natCast_nonneg m), Int.toNat_natCast, wpow m (by omega), mask64 m (by omega), e2, ei, e1]
      exact next o m ho hm18 (by omega) (by omega)
    refine Ev.one ?_
    by_cases c1 : M ≥ 8
    · have c1' : (M : Int) ≥ 8 := by omega
      by_cases c2 : o < n
      · have c2' : ((ws (bt 10 s) 8 o).length : Int) < (n : Int) := by rw [ws_length]; omega
        have e1 : wrap64 ((M : Int) - 8) = ((M - 8 : Nat) : Int) := by rw [w64 (by omega) (by omega)]; omega
        have c3 : 0 ≤ ((M - 8 : Nat) : Int) := by omega
        have hM : M + 8 * o = 10 * (i + 1) := by omega
        have c4 : (ws (bt 10 s) 8 o).length < 140737488355328 := by rw [ws_length]; omega
        have e2 := shr_nat .i64 (W (bt 10 s) (10 * (i + 1) - M0) M0) (M - 8) (le64 (by omega))
        have e3 : W (bt 10 s) (10 * (i + 1) - M0) M0 / 2 ^ (M - 8) = W (bt 10 s) (10 * (i + 1) - M0) (M0 - (M - 8)) := by
          have := W_div (bt 10 s) hf (10 * (i + 1) - M0) (M0 - (M - 8)) (M - 8)
          rw [show M0 - (M - 8) + (M - 8) = M0 by omega] at this
          exact this
        have e4 : W (bt 10 s) (10 * (i + 1) - M0) (M0 - (M - 8)) % 256 = W (bt 10 s) (8 * o) 8 := by
          have := W_mod (bt 10 s) hf (10 * (i + 1) - M0) (M0 - M) 8
          rw [show M0 - M + 8 = M0 - (M - 8) by omega, show 10 * (i + 1) - M0 + (M0 - M) = 8 * o by omega, show (2 : Nat) ^ 8 = 256 from rfl] at this
          exact this
        have e5 : (((W (bt 10 s) (10 * (i + 1) - M0) (M0 - (M - 8)) : Nat) : Int)) % 256 = ((W (bt 10 s) (8 * o) 8 : Nat) : Int) := by rw [← e4]; omega
        have := ih (M - 8) (by omega) (d + 8) (o + 1) (by omega) (by omega) (by omega)
        rw [ws_succ] at this
        simp only [pack_Unpack.l1, if_pos c1', if_pos c2', e1, if_pos c3, if_pos c4, e2, e3, e5]
        exact this
      · have c2' : ¬ ((ws (bt 10 s) 8 o).length : Int) < (n : Int) := by rw [ws_length]; omega
        simp only [pack_Unpack.l1, if_pos c1', if_neg c2']
        exact out (by omega) (by omega)
    · have c1' : ¬ (M : Int) ≥ 8 := by omega
      simp only [pack_Unpack.l1, if_neg c1']
      exact out (by omega) (by omega)
theorem unpack_loop (s : List Int) (hs : Syms s) (n : Nat) (hL : s.length ≤ 1000000) (hn : n ≤ 10 * s.length / 8) : ∀ (d i M o : Nat), i + d = s.length → o ≤ n → M ≤ 18 → M ≤ 10 * i → (o = n ∨ (M + 8 * o = 10 * i ∧ M < 8)) →
    Ev (fun k => pack_Unpack.l0 k (n : Int) (ws (bt 10 s) 8 o) ((W (bt 10 s) (10 * i - M) M : Nat) : Int) (M : Int) s (s.length : Int) (i : Int)) (ws (bt 10 s) 8 n, 0) := by
  have hf := bt_le 10 s
  intro d
  induction d with
  | zero =>
    intro i M o hi ho hM hM2 hinv
    have c1 : ¬ ((i : Int) < (s.length : Int)) := by omega
    have hon : o = n := by omega
    refine Ev.one ?_
    simp only [pack_Unpack.l0, if_neg c1, hon]
    exact Ev.now _
  | succ d ih =>
    intro i M o hi ho hM hM2 hinv
    have hi' : i < s.length := by omega
    have c1 : (i : Int) < (s.length : Int) := by omega
    have hin := unpack_inner s n i hi' hL (fun o M h1 h2 h3 h4 => ih (i + 1) M o (by omega) h1 h2 h3 h4) (M + 10) (by omega) (by omega) 0 (M + 10) o (by omega) ho (by omega)
    rw [show 10 * (i + 1) - (M + 10) = 10 * i - M by omega] at hin
    have c0 : 0 ≤ (i : Int) := by omega
    obtain ⟨v, hv⟩ : ∃ v : Nat, s.getD i 0 = (v : Int) := ⟨(s.getD i 0).toNat, by have := hs _ (getD_in s i hi'); omega⟩
    have hv2 : v < 1024 := by have := hs _ (getD_in s i hi'); omega
    have hWv := W_bt 10 (by decide) s i v hv2 hv
    have e0 : wrap64 (rd s (i : Int)) = (v : Int) := by rw [rdn, hv, w64 (by omega) (by omega)]
    have hlt := W_lt40 (bt 10 s) hf (10 * i - M) M (by omega)
    have hlt18 : W (bt 10 s) (10 * i - M) M < 262144 := by
      have h1 := W_lt (bt 10 s) hf (10 * i - M) M
      have h2 : (2 : Nat) ^ M ≤ 2 ^ 18 := Nat.pow_le_pow_right (by decide) hM
      rw [show (2 : Nat) ^ 18 = 262144 from rfl] at h2
      omega
    have e1 : wrap64 (((W (bt 10 s) (10 * i - M) M : Nat) : Int) * 1024) = ((W (bt 10 s) (10 * i - M) M * 2 ^ 10 : Nat) : Int) := by
      rw [w64 (by omega) (by omega)]; omega
    have e2 := join_bits (bt 10 s) hf (10 * i - M) M 10 v (by omega) (by omega) (by rw [show 10 * i - M + M = 10 * i by omega]; exact hWv)
    have e3 : wrap64 ((M : Int) + 10) = ((M + 10 : Nat) : Int) := by rw [w64 (by omega) (by omega)]; omega
    refine Ev.one ?_
    simp only [pack_Unpack.l0, if_pos c1, if_pos c0, e0, e1, e2, e3]
    exact hin
theorem bigOne_no (s : List Int) (hs : Syms s) : bigOne s = false := by
  unfold bigOne
  rw [List.any_eq_false]
  intro x hx
  have := hs x hx
  simp only [decide_eq_true_eq]; omega
theorem within_is (n : Int) (h : 0 ≤ n) (h2 : n ≤ 1099511627776) : mn (mx n 0) 1099511627776 = n := by
  have e1 : mx n 0 = n := by unfold mx; split <;> omega
  rw [e1]; unfold mn; split <;> omega
theorem bytes_is (n : Nat) (h : n ≤ 1000000) : pack_Bytes.f (n : Int) = some ((10 * n / 8 : Nat) : Int) := by
  unfold pack_Bytes.f pack_within.f
  rw [Option.bind_some, within_is _ (by omega) (by omega), w64 (x := (n : Int) * 10) (by omega) (by omega), Int.tdiv_eq_ediv_of_nonneg (by omega), w64 (by omega) (by omega)]
  congr 1; omega
theorem unpack_is (s : List Int) (hs : Syms s) (n : Nat) (hL : s.length ≤ 1000000) (hn : n ≤ 10 * s.length / 8) : Ev (fun k => pack_Unpack.f k s (n : Int)) (ws (bt 10 s) 8 n, 0) := by
  unfold pack_Unpack.f
  have c1 : ¬ ((n : Int) < 0) := by omega
  have c2 : decide ((n : Int) > ((10 * s.length / 8 : Nat) : Int)) = false := by rw [decide_eq_false_iff_not]; omega
  simp only [if_neg c1, bytes_is s.length hL, Option.bind_some, c2]
  refine Ev.one ?_
  simp only [pack_Unpack.j0, Bool.false_eq_true, if_false, slices_ContainsFunc_uint16_uint16.f, Option.bind_some, bigOne_no s hs]
  exact unpack_loop s hs n hL hn s.length 0 0 0 (by omega) (by omega) (by omega) (by omega) (by omega)
end Go.Proofs.Ytdgpondnogpolaa.Pure
