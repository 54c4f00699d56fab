/- Tales: bytes as a word, and back; by hand. -/
import Derived.Test.YthdmeffjiljdeaaDoorB
import Derived.Deep.AppendLies
import Derived.Deep.RegionLaw
namespace Go.Proofs.YthdmeffjiljdeaaDoor.M
open Go.RowKit Go.Proofs.YthdmeffjiljdeaaDoorW.PrintWords Go.Proofs.YthdmeffjiljdeaaDoorW.PrintLast Go.Proofs.YthdmeffjiljdeaaDoorW.PrintMore Go.Proofs.YthdmeffjiljdeaaDoor.Rw Go.Proofs.YthdmeffjiljdeaaDoor.Fl
set_option linter.unusedVariables false
set_option linter.unusedSimpArgs false
theorem info5 : (Tryd.prog.info? 5).map (fun i => (i.zero, i.size, i.bytes)) = some (some (.int .u8 0), 1, 1) := by kernel_rfl
theorem info9 : (Tryd.prog.info? 9).map (fun i => (i.zero, i.size, i.bytes)) = some (some (.string ByteArray.empty), 1, 16) := by kernel_rfl
/-- a figure of sixteen -/
def hexN (n : Int) : Int := if n < 10 then 48 + n else 87 + n
def bytesL (l : List Int) : List Int := l.flatMap fun x => [hexN (x / 16), hexN (x % 16)]
theorem bytesL_len (l : List Int) : (bytesL l).length = 2 * l.length := by
  induction l with
  | nil => rfl
  | cons x l ih => show (hexN (x / 16) :: hexN (x % 16) :: bytesL l).length = _; simp only [List.length_cons, ih]; omega
theorem bytesL_snoc {l : List Int} {k : Nat} (h : k < l.length) {x : Int} (hx : l.getD k 0 = x) : bytesL (l.take (k + 1)) = bytesL (l.take k) ++ [hexN (x / 16), hexN (x % 16)] := by
  have : l[k] = x := by rw [← hx, List.getD_eq_getElem?_getD, List.getElem?_eq_getElem h]; rfl
  rw [List.take_succ_eq_append_getElem h, this]
  unfold bytesL
  rw [List.flatMap_append]
  simp
def bytesB (l : List Int) : ByteArray := strOfNums (46 :: bytesL l)
abbrev hexB : ByteArray := ⟨#[48, 49, 50, 51, 52, 53, 54, 55, 56, 57, 97, 98, 99, 100, 101, 102]⟩
theorem hexAt (h : Nat) (hh : h < hexB.size) : ((hexB[h]'hh).toNat : Int) = hexN (h : Int) := by
  have h16 : h < 16 := hh
  rcases (by omega : h = 0 ∨ h = 1 ∨ h = 2 ∨ h = 3 ∨ h = 4 ∨ h = 5 ∨ h = 6 ∨ h = 7 ∨ h = 8 ∨ h = 9 ∨ h = 10 ∨ h = 11 ∨ h = 12 ∨ h = 13 ∨ h = 14 ∨ h = 15) with rfl | rfl | rfl | rfl | rfl | rfl | rfl | rfl | rfl | rfl | rfl | rfl | rfl | rfl | rfl | rfl <;> rfl
theorem and15 {a : Int} (h0 : 0 ≤ a) (h1 : a < 256) : bits .and .u8 a 15 = a % 16 := by
  obtain ⟨n, rfl⟩ : ∃ n : Nat, a = (n : Int) := ⟨a.toNat, by omega⟩
  have h2 : n < 256 := by omega
  clear h0 h1
  revert n
  decide +kernel
/-- the append of two bytes, as a step of a region that draws -/
theorem two_step {ops : Array Oper} {o : Oper} {a : Act} {W W2 : World} {K : Act → World → Prop} {Q : Exit → Act → World → Prop} {E : Prop} {base p n : Nat} {v : Value} {xs : List Value} {x1 x2 : Int} {w0 : World}
    (hgd : o.guard = none) (sx x : Operand) (ho : o.op = .call { callee := .builtin .append, args := #[sx, x], argTypes := #[29, 29] }) (hs : a.eval sx = v) (hx : a.eval x = .slice (some ⟨p, 0, none⟩) 2 2)
    (h : W.ownsRow base 5 1 v n xs) (hn : n ≤ 1000000) (hb : Below W.heap.size W W2) (hq : W2.heap[p]? = some (.cells #[.int .u8 x1, .int .u8 x2] 5 (0, 0))) (hbase : base ≤ W.heap.size) (hw0 : Below base w0 W)
    (hK : ∀ v1 W3, Aside0 (W3.ownsRow base 5 1 v1 (n + 2) (xs ++ [.int .u8 x1, .int .u8 x2])) → Aside0 (Below base w0 W3) → K (a.put o.dst v1) W3) :
    if Region.wanted o (yielded ops a.tmps) = true then Oper.wp Tryd.prog o a W2 K Q else E := by
  obtain ⟨i5, hi5, hz⟩ := Option.map_eq_some_iff.1 info5
  simp only [Prod.mk.injEq] at hz
  have hrow : W2.ownsRow base 5 1 v n xs := own_move h (fun k hk => hb.block k ((h.lt k hk).2))
  have hlen : base ≤ W2.heap.size := Nat.le_trans hbase hb.size
  refine step_append_lies W2 hgd sx x 29 ho base 5 i5 (.int .u8 0) 1 1 Tryd.underlying29 hi5 hz.1 hz.2.1 hz.2.2 rfl (by decide) v n _ hs hrow ⟨p, 0, none⟩ 2 2 [.int .u8 x1, .int .u8 x2] hx rfl (fun j y hy => World.news_of_block hq j y (by simpa using hy)) (by simp [Value.oneCell']) (by decide) (Nat.le_trans (Nat.add_le_add_right hn 2) (by decide)) (by omega) hlen _ rfl (fun gg cap W3 h1 h2 h3 h4 => ?_)
  exact hK _ W3 ⟨h1⟩ ⟨Below.grown (Below.trans hw0 (hb.mono hbase)) h2 hlen (fun k hk => (h.lt k hk).1)⟩
set_option maxHeartbeats 3200000 in
theorem bytesC (A : Option Addr) (c : Nat) (l : List Int) (w : World) (hC : Kd.C (Kd.int .u8) w A l.length l) (hl : l.length ≤ 50000) (hx : ∀ k, k < l.length → 0 ≤ l.getD k 0 ∧ l.getD k 0 ≤ 255) :
    Calls Tryd.prog 27 #[.slice A l.length c] w fun e w' => e = .returned (.string (bytesB l)) ∧ Aside0 (Below w.heap.size w w') := by
  have HC := Aside0.mk hC
  have HX := Aside0.mk hx
  have HB0 := Aside0.mk (below_alloc (Below.refl w.heap.size w) (.cells #[.int .u8 46] 5 (0, 0)))
  have HO0 : Aside0 ((w.alloc (.cells #[.int .u8 46] 5 (0, 0))).ownsRow w.heap.size 5 1 (.slice (some ⟨w.heap.size, 0, none⟩) 1 1) 1 [.int .u8 46]) :=
    ⟨by simp, .inr ⟨w.heap.size, 1, _, rfl, Nat.le_refl _, blk_new w _, by decide, by decide, by simp, by simp⟩⟩
  clear hC hx
  go_enter Tryd.func27, Tryd.ntmps27
  go_wp2
  go_loopw [3, 5, 9] (fun v3 v5 v9 wr => ∃ k : Nat, k ≤ l.length ∧ v9 = .int .i64 (k : Int) ∧ Aside0 (wr.ownsRow w.heap.size 5 1 v3 (1 + 2 * k) ((46 :: bytesL (l.take k)).map (Value.int .u8))) ∧ Aside0 (Below w.heap.size w wr)) (fun _ _ v9 _ => l.length - (intOf v9).toNat)
  case atStart => exact ⟨0, Nat.zero_le _, rfl, HO0, HB0⟩
  case round =>
    clear HO0 HB0
    obtain ⟨k, hk, rfl, HO, HB⟩ := hrel
    by_cases ck : k < l.length
    · have ckk : (k : Int) < (l.length : Int) := by omega
      obtain ⟨ad, e1, hx0⟩ := at_num HC.out k ck
      cases e1
      have hx1 := (HB.out.cell (World.block_lt_of_cell? w _ hx0)).trans hx0
      obtain ⟨x0, x1⟩ := HX.out k ck
      obtain ⟨x, hxx⟩ : ∃ x, l.getD k 0 = x := ⟨_, rfl⟩
      have HS := Aside0.mk (bytesL_snoc ck hxx)
      rw [hxx] at hx1 x0 x1
      clear hx0 hxx
      obtain ⟨hi, hhi⟩ : ∃ h : Nat, x / 16 = (h : Int) := ⟨(x / 16).toNat, by omega⟩
      obtain ⟨lo, hlo⟩ : ∃ h : Nat, x % 16 = (h : Int) := ⟨(x % 16).toNat, by omega⟩
      have hi16 : (hi : Int) < 16 := by omega
      have lo16 : (lo : Int) < 16 := by omega
      have hnd := and15 x0 (by omega)
      rw [hlo] at hnd
      have HHi := Aside0.mk hhi
      have HLo := Aside0.mk hlo
      go_upto_region 5 with (fail)
      go_region_law
        (first
        | (apply two_step (sx := .tmp 13) (x := .tmp 20); (case h => exact HO.out); (case hgd => rfl); (case ho => rfl); (case hs => rfl); (case hx => rfl); (case hn => omega); (case hb => exact below_alloc (below_drew (Below.refl _ _)) _); (case hq => exact blk_new _ _); (case hbase => exact HB.out.size); (case hw0 => exact HB.out); (intro v1 w3 HO3 HB3))
        | fail)
      all_goals (
        have HO4 : Aside0 (w3.ownsRow w.heap.size 5 1 v1 (1 + 2 * (k + 1)) ((46 :: bytesL (l.take (k + 1))).map (Value.int .u8))) := ⟨by
          have h4 := HO3.out
          rw [HS.out, HHi.out, HLo.out, ← hexAt hi (by show hi < 16; omega), ← hexAt lo (by show lo < 16; omega)]
          rw [show (46 :: (bytesL (l.take k) ++ [((hexB[hi]'(by show hi < 16; omega)).toNat : Int), ((hexB[lo]'(by show lo < 16; omega)).toNat : Int)])) = (46 :: bytesL (l.take k)) ++ [((hexB[hi]'(by show hi < 16; omega)).toNat : Int), ((hexB[lo]'(by show lo < 16; omega)).toNat : Int)] from rfl, List.map_append]
          exact h4⟩
        clear HO HO3 HB hnd
        go_wp2
        go_roundw
        case rel => exact ⟨k + 1, ck, rfl, HO4, HB3⟩
        case measure => simp [intOf]; omega)
    · obtain rfl : k = l.length := by omega
      rw [List.take_length] at HO
      have hlen : (46 :: bytesL l).length = 1 + 2 * l.length := by simp [bytesL_len]; omega
      obtain ⟨nn, hnn⟩ : ∃ nn, 1 + 2 * l.length = nn := ⟨_, rfl⟩
      rw [hnn] at HO hlen
      obtain ⟨A3, c3, rfl⟩ : ∃ A3 c3, u3 = .slice A3 nn c3 := by
        rcases HO.out with ⟨_, ⟨e, hz⟩ | ⟨k2, cap, cur, e, -⟩⟩
        · omega
        · exact ⟨_, _, e⟩
      have hst : (convert 29 9 (.slice A3 nn c3)).run Tryd.prog wr = .ok (.string (bytesB l)) wr :=
        string_of_reads Tryd.underlying29 Tryd.underlying5 Tryd.underlying9 (own_reads' HO.out)
      obtain ⟨B, hBe⟩ : ∃ B, bytesB l = B := ⟨_, rfl⟩
      rw [hBe] at hst
      have HBe := Aside0.mk hBe
      clear hlen HO hnn hBe
      go_wp2
      go_ret
      exact ⟨by rw [HBe.out]; rfl, HB⟩
end Go.Proofs.YthdmeffjiljdeaaDoor.M
