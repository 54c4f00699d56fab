/- Tales: what start-up lays; words; numbers; by hand. -/
import Derived.Test.YthdmeffjiljdeaaDoorShelf
import Derived.Test.YthdmeffjiljdeaaDoorRw
import Derived.Test.YthdmeffjiljdeaaDoorFl
import Derived.WalkKit
import Derived.WalkSpells
import Derived.BigQuiet
import Derived.Deep.QuietTactic
namespace Go.Proofs.YthdmeffjiljdeaaDoor.M
open Go.RowKit Go.Proofs.YthdmeffjiljdeaaDoorW.PrintWords Go.Proofs.YthdmeffjiljdeaaDoorW.PrintLast Go.Proofs.YthdmeffjiljdeaaDoorW.PrintMore Go.Proofs.YthdmeffjiljdeaaDoor.Rw Go.Proofs.YthdmeffjiljdeaaDoor.Fl
set_option linter.unusedVariables false
set_option linter.unusedSimpArgs false
/-- what start-up lays and a tale reads -/
structure GV (W : World) : Prop where
  ml : ∃ m, W.cell? ⟨1, 0, none⟩ = some (.int .i64 m)
  sp : Lib.TabIs Tryd.prog W "strings.asciiSpace" .u8 Lib.asciiSpaceTab
  pw : Lib.TabIs Tryd.prog W "internal/strconv.uint64pow10" .u64 Lib.pow10Tab
  es : ∃ tp p, W.cell? ⟨4, 0, none⟩ = some (.iface tp p)
  er : ∃ tp p, W.cell? ⟨5, 0, none⟩ = some (.iface tp p)
  lo : 10 ≤ W.heap.size
theorem gSp : Tryd.prog.globalNamed "strings.asciiSpace" = some 2 := by kernel_rfl
theorem gPw : Tryd.prog.globalNamed "internal/strconv.uint64pow10" = some 6 := by kernel_rfl
theorem var_below {W W1 : World} {name : String} {g : Nat} (hg : Tryd.prog.globalNamed name = some g) (hb : W1.heap[g]? = W.heap[g]?) : W1.var? Tryd.prog name = W.var? Tryd.prog name := by
  unfold World.var?
  rw [hg]
  simp only [Option.bind_some]
  rw [hb]
theorem GV.below {W W1 : World} (h : GV W) (hb : Below W.heap.size W W1) : GV W1 := by
  obtain ⟨⟨m, h1⟩, h2, h3, ⟨t4, p4, h4⟩, ⟨t5, p5, h5⟩, h6⟩ := h
  have hl : ∀ k, k < 10 → k < W.heap.size := fun k hk => Nat.lt_of_lt_of_le hk h6
  refine ⟨⟨m, (hb.cell (p := ⟨1, 0, none⟩) (hl 1 (by decide))).trans h1⟩, ?_, ?_, ⟨t4, p4, (hb.cell (p := ⟨4, 0, none⟩) (hl 4 (by decide))).trans h4⟩, ⟨t5, p5, (hb.cell (p := ⟨5, 0, none⟩) (hl 5 (by decide))).trans h5⟩, Nat.le_trans h6 hb.size⟩
  · exact (var_below gSp (hb.block 2 (hl 2 (by decide)))).trans h2
  · exact (var_below gPw (hb.block 6 (hl 6 (by decide)))).trans h3
/-- the seven words -/
def wordF (n : Int) : List UInt8 :=
  if n = 1 then [119, 114, 105, 116, 101] else if n = 2 then [114, 101, 97, 100] else if n = 3 then [116, 114, 105, 109] else if n = 4 then [102, 108, 117, 115, 104] else if n = 5 then [116, 105, 99, 107] else if n = 6 then [100, 114, 105, 102, 116] else if n = 7 then [114, 101, 109, 111, 117, 110, 116] else []
abbrev namesB : ByteArray := ⟨#[119, 114, 105, 116, 101, 32, 114, 101, 97, 100, 32, 116, 114, 105, 109, 32, 102, 108, 117, 115, 104, 32, 116, 105, 99, 107, 32, 100, 114, 105, 102, 116, 32, 114, 101, 109, 111, 117, 110, 116]⟩
theorem names_fields : Lib.fields namesB.data.toList = [[119, 114, 105, 116, 101], [114, 101, 97, 100], [116, 114, 105, 109], [102, 108, 117, 115, 104], [116, 105, 99, 107], [100, 114, 105, 102, 116], [114, 101, 109, 111, 117, 110, 116]] := by decide +kernel
theorem names_ascii : ∀ (j : Nat) b, namesB.data.toList[j]? = some b → b.toNat < 128 := by
  intro j b h
  have hm : b ∈ namesB.data.toList := List.mem_of_getElem? h
  exact (show ∀ b ∈ namesB.data.toList, b.toNat < 128 by decide +kernel) b hm
theorem fieldsC (w : World) (h : GV w) : Calls Tryd.prog 30 #[.string namesB] w fun e w' => e = .returned (.slice (some ⟨w.heap.size, 0, none⟩) 7 7) ∧ w' = w.alloc (.cells #[.string ⟨#[119, 114, 105, 116, 101]⟩, .string ⟨#[114, 101, 97, 100]⟩, .string ⟨#[116, 114, 105, 109]⟩, .string ⟨#[102, 108, 117, 115, 104]⟩, .string ⟨#[116, 105, 99, 107]⟩, .string ⟨#[100, 114, 105, 102, 116]⟩, .string ⟨#[114, 101, 109, 111, 117, 110, 116]⟩] 9) := by
  have h1 := Tryd.strings_Fields namesB w (by decide) names_ascii h.sp
  rw [names_fields] at h1
  exact h1
set_option maxHeartbeats 1600000 in
theorem wordC (n : Int) (w : World) (h : GV w) : Calls Tryd.prog 20 #[.int .i64 n] w fun e w' => e = .returned (.string ⟨(wordF n).toArray⟩) ∧ Aside0 (Below w.heap.size w w') := by
  have HF := Aside0.mk (fieldsC w h)
  have HB := Aside0.mk (below_alloc (Below.refl w.heap.size w) (.cells #[.string ⟨#[119, 114, 105, 116, 101]⟩, .string ⟨#[114, 101, 97, 100]⟩, .string ⟨#[116, 114, 105, 109]⟩, .string ⟨#[102, 108, 117, 115, 104]⟩, .string ⟨#[116, 105, 99, 107]⟩, .string ⟨#[100, 114, 105, 102, 116]⟩, .string ⟨#[114, 101, 109, 111, 117, 110, 116]⟩] 9))
  clear h
  by_cases h1 : n < 1
  · have hw : wordF n = [] := by unfold wordF; simp only [show ¬ n = 1 by omega, show ¬ n = 2 by omega, show ¬ n = 3 by omega, show ¬ n = 4 by omega, show ¬ n = 5 by omega, show ¬ n = 6 by omega, show ¬ n = 7 by omega, if_false]
    rw [hw]
    clear hw
    go_enter Tryd.func20, Tryd.ntmps20
    go_wp2_with (first | (go_at_call 30; (refine HF.out.mono ?_); rintro e w2 ⟨rfl, rfl⟩))
    go_ret
    exact ⟨rfl, HB⟩
  · by_cases h7 : 7 < n
    · have hw : wordF n = [] := by unfold wordF; simp only [show ¬ n = 1 by omega, show ¬ n = 2 by omega, show ¬ n = 3 by omega, show ¬ n = 4 by omega, show ¬ n = 5 by omega, show ¬ n = 6 by omega, show ¬ n = 7 by omega, if_false]
      rw [hw]
      clear hw
      go_enter Tryd.func20, Tryd.ntmps20
      go_wp2_with (first | (go_at_call 30; (refine HF.out.mono ?_); rintro e w2 ⟨rfl, rfl⟩))
      go_ret
      exact ⟨rfl, HB⟩
    · rcases (by omega : n = 1 ∨ n = 2 ∨ n = 3 ∨ n = 4 ∨ n = 5 ∨ n = 6 ∨ n = 7) with rfl | rfl | rfl | rfl | rfl | rfl | rfl
      all_goals (
        clear h1 h7
        go_enter Tryd.func20, Tryd.ntmps20
        go_wp2_with (first | (go_at_call 30; (refine HF.out.mono ?_); rintro e w2 ⟨rfl, rfl⟩))
        go_ret
        exact ⟨rfl, HB⟩)
/-- a number of at most eighteen figures -/
def numF (l : List UInt8) : Int × Bool :=
  if 18 < (Lib.trimPrefix l [45]).length then (0, false) else match Lib.atoiAll l with | .ok v => (v, true) | .range => (Lib.atoiSat l, false) | _ => (0, false)
/-- Atoi where there is no number -/
theorem atoi_none (s : ByteArray) (hlim : s.size ≤ 281474976710656) (h1 : ∀ v, Lib.atoiAll s.data.toList ≠ .ok v) (h2 : Lib.atoiAll s.data.toList ≠ .range) (ev : Value) (w : World) (hv : w.cell? ⟨4, 0, none⟩ = some ev) (hev : ev = .nilIface ∨ ∃ te pe, ev = .iface te pe) :
    Calls Tryd.prog 32 #[.string s] w fun e w' => ∃ N, e = .returned (.tuple #[.int .i64 (0), .iface 98 (.pointer (some ⟨N, 0, none⟩))]) ∧ w.heap.size ≤ N ∧ w'.heap[N]? = some (.cells #[.string ⟨#[65, 116, 111, 105]⟩, .string s, ev] 122 (0, 0)) ∧ Below w.heap.size w w' := by
  refine Any.strconv_Atoi_syntax Tryd.laysC172 s hlim ?_ ev w hv hev
  cases h : Lib.atoiAll s.data.toList with
  | ok v => exact absurd h (h1 v)
  | range => exact absurd h h2
  | _ => rfl
set_option maxHeartbeats 1600000 in
theorem numberC (s : ByteArray) (hs : s.size ≤ 100000) (w : World) (h : GV w) : Calls Tryd.prog 21 #[.string s] w fun e w' => e = .returned (.tuple #[.int .i64 (numF s.data.toList).1, .bool (numF s.data.toList).2]) ∧ Aside0 (Below w.heap.size w w') := by
  obtain ⟨t, ht⟩ : ∃ t : ByteArray, (⟨(Lib.trimPrefix s.data.toList (⟨#[45]⟩ : ByteArray).data.toList).toArray⟩ : ByteArray) = t := ⟨_, rfl⟩
  have hT := Tryd.strings_TrimPrefix s ⟨#[45]⟩ w
  rw [ht] at hT
  have HT := Aside0.mk hT
  have hts : t.size = (Lib.trimPrefix s.data.toList [45]).length := by rw [← ht]; exact List.size_toArray
  unfold numF
  obtain ⟨⟨tp4, p4, e4⟩, ⟨tp5, p5, e5⟩⟩ := And.intro h.es h.er
  have HOk := Aside0.mk (fun v (hv : Lib.atoiAll s.data.toList = .ok v) => Tryd.strconv_Atoi_ok s (by omega) v hv w)
  have HSy := Aside0.mk (fun h1 h2 => atoi_none s (by omega) h1 h2 _ w e4 (.inr ⟨_, _, rfl⟩))
  have HRa := Aside0.mk (fun (hv : Lib.atoiAll s.data.toList = .range) => Tryd.strconv_Atoi_range s (by omega) hv _ w e5 (.inr ⟨_, _, rfl⟩))
  have HB0 := Aside0.mk (Below.refl w.heap.size w)
  have hbw : ∀ t, Below w.heap.size w (Lib.bytesWorld w 5 t) := fun t => bytes_below (Below.refl _ _) (Nat.le_refl _) 5 t
  have HBW := Aside0.mk hbw
  clear hT ht h e4 e5 hbw
  by_cases h18 : 18 < (Lib.trimPrefix s.data.toList [45]).length
  · rw [if_pos h18]
    rw [← hts] at h18
    have h18i : (18 : Int) < (t.size : Int) := by omega
    clear hts h18
    go_enter Tryd.func21, Tryd.ntmps21
    go_wp2_with (first | (go_at_call 31; (refine HT.out.mono ?_); rintro e w2 ⟨rfl, hw⟩; obtain rfl := hw.symm))
    go_ret2
    exact ⟨rfl, HB0⟩
  · rw [if_neg h18]
    rw [← hts] at h18
    have h18i : (t.size : Int) ≤ 18 := by omega
    clear hts h18
    cases ha : Lib.atoiAll s.data.toList with
    | ok v =>
      have HA := Aside0.mk (HOk.out v ha)
      clear HOk HSy HRa ha
      go_enter Tryd.func21, Tryd.ntmps21
      go_upto_region 4 with (first
        | (go_at_call 31; (refine HT.out.mono ?_); rintro e w2 ⟨rfl, hw⟩; obtain rfl := hw.symm)
        | (go_at_call 32; (refine HA.out.mono ?_); rintro e w3 ⟨rfl, hw3⟩; have HB3 : Aside0 (Below w.heap.size w w3) := ⟨by rcases hw3 with e | ⟨t2, e⟩ <;> rw [e]; exact HB0.out; exact HBW.out t2⟩; clear hw3))
      go_quiet (fail)
      go_wp2
      go_ret2
      exact ⟨rfl, ⟨pw_below_drewN HB3.out _⟩⟩
    | range =>
      have HA := Aside0.mk (HRa.out ha)
      clear HOk HSy HRa ha
      go_enter Tryd.func21, Tryd.ntmps21
      go_upto_region 4 with (first
        | (go_at_call 31; (refine HT.out.mono ?_); rintro e w2 ⟨rfl, hw⟩; obtain rfl := hw.symm)
        | (go_at_call 32; (refine HA.out.mono ?_); rintro e w3 ⟨N, rfl, -, -, hB3⟩; have HB3 := Aside0.mk hB3; clear hB3))
      go_quiet (fail)
      go_wp2
      go_ret2
      exact ⟨rfl, ⟨pw_below_drewN HB3.out _⟩⟩
    | _ =>
      have HA := Aside0.mk (HSy.out (fun v hv => by rw [ha] at hv; cases hv) (fun hv => by rw [ha] at hv; cases hv))
      clear HOk HSy HRa ha
      go_enter Tryd.func21, Tryd.ntmps21
      go_upto_region 4 with (first
        | (go_at_call 31; (refine HT.out.mono ?_); rintro e w2 ⟨rfl, hw⟩; obtain rfl := hw.symm)
        | (go_at_call 32; (refine HA.out.mono ?_); rintro e w3 ⟨N, rfl, -, -, hB3⟩; have HB3 := Aside0.mk hB3; clear hB3))
      go_quiet (fail)
      go_wp2
      go_ret2
      exact ⟨rfl, ⟨pw_below_drewN HB3.out _⟩⟩
end Go.Proofs.YthdmeffjiljdeaaDoor.M
