/- Fates: the contracts of New, may, At, Left; by hand. -/
import Derived.Test.YtmddafefdleimaaV
import Derived.Test.YtmddafefdleimaaFb
import Derived.WalkKit
import Derived.WalkArith
import Derived.BigQuiet
import Derived.Deep.QuietTactic
namespace Go.Proofs.Ytmddafefdleimaa.M
open Go.RowKit Go.Proofs.YtmddafefdleimaaW.PrintWords Go.Proofs.YtmddafefdleimaaW.PrintLast Go.Proofs.YtmddafefdleimaaW.PrintMore Go.Proofs.Ytmddafefdleimaa.Rw Go.Maps
set_option linter.unusedVariables false
set_option linter.unusedSimpArgs false
def MayF (x : F) : Prop := 0 ≤ x.1 ∧ x.1 ≤ 1099511627776 ∧ (x.2.1 = 1 ∨ x.2.1 = 2) ∧ 0 ≤ x.2.2
instance (x : F) : Decidable (MayF x) := by unfold MayF; infer_instance
def OkF (l : List F) : Prop := l.length ≤ 256 ∧ (∀ x ∈ l, MayF x) ∧ Apart l
theorem K3 : Keyed Try.prog 3 := int_keyed Try.underlying3
theorem key3 {n : Int} (h : (Lit.int .i64 n).wf = true) : keyOf Try.prog 3 (.int .i64 n) = some (kF n) := keyOf_int_mk Try.underlying3 h
theorem zero42 (w : World) : (zeroValue 42).run Try.prog w = .ok (encF (0, 0, 0)) w := by kernel_rfl
def IsF (w0 W : World) (g : Nat) (l : List F) : Prop := Apart l ∧ l.length ≤ 256 ∧ ∃ b, W.heap[g]? = some (.cells #[.map (some b)] 93 (0, 0)) ∧ W.ownsMap Try.prog 3 fateElem b l.length (DF l) ∧ w0.heap.size ≤ b ∧ b < g
theorem owns_below {w W : World} {b n : Nat} {D : Dm} (h : w.ownsMap Try.prog 3 fateElem b n D) (hb : Below w.heap.size w W) : W.ownsMap Try.prog 3 fateElem b n D := by
  obtain ⟨es, clock, h1, h2⟩ := h
  exact ⟨es, clock, blk_below h1 hb, h2⟩
theorem IsF.below {w0 w W : World} {g : Nat} {l : List F} (h : IsF w0 w g l) (hb : Below w.heap.size w W) : IsF w0 W g l := by
  obtain ⟨h1, h2, b, h3, h4, h5⟩ := h
  exact ⟨h1, h2, b, blk_below h3 hb, owns_below h4 hb, h5⟩
set_option maxHeartbeats 1600000 in
theorem mayFC (x : F) (r : Bool) (w : World) (h : decide (MayF x) = r) : Calls Try.prog 48 #[encF x] w fun e w' => e = .returned (.bool r) ∧ Below w.heap.size w w' := by
  obtain ⟨a, b, c⟩ := x
  subst h
  unfold encF
  by_cases h1 : 0 ≤ a
  · by_cases h2 : a ≤ 1099511627776
    · by_cases h3 : b = 1
      · subst h3
        by_cases h5 : 0 ≤ c
        all_goals
          go_enter Try.func48, Try.ntmps48
          go_wp2
          go_ret
          exact ⟨by simp [MayF, h1, h2, h5], below_alloc (Below.refl _ _) _⟩
      · have h3b : (b == 1) = false := beq_eq_false_iff_ne.2 h3
        by_cases h4 : b = 2
        · subst h4
          by_cases h5 : 0 ≤ c
          all_goals
            go_enter Try.func48, Try.ntmps48
            go_wp2
            go_ret
            exact ⟨by simp [MayF, h1, h2, h5], below_alloc (Below.refl _ _) _⟩
        · have h4b : (b == 2) = false := beq_eq_false_iff_ne.2 h4
          go_enter Try.func48, Try.ntmps48
          go_wp2
          go_ret
          exact ⟨by simp [MayF, h3, h4], below_alloc (Below.refl _ _) _⟩
    · have HD : Aside0 (decide (MayF (a, b, c)) = false) := ⟨decide_eq_false (fun h => h2 h.2.1)⟩
      go_enter Try.func48, Try.ntmps48
      go_wp2
      go_ret
      exact ⟨by rw [HD.out]; rfl, below_alloc (Below.refl _ _) _⟩
  · have HD : Aside0 (decide (MayF (a, b, c)) = false) := ⟨decide_eq_false (fun h => h1 h.1)⟩
    go_enter Try.func48, Try.ntmps48
    go_wp2
    go_ret
    exact ⟨by rw [HD.out]; rfl, below_alloc (Below.refl _ _) _⟩
theorem MayF.wf {x : F} (h : MayF x) : (Lit.int .i64 x.1).wf = true := by
  have h1 := h.1
  have h2 := h.2.1
  exact Go.WalkArith.wf_i64 ⟨by omega, by omega⟩
def NewPost (l : List F) (w : World) (e : Ending) (w' : World) : Prop :=
  Below w.heap.size w w' ∧ ((OkF l ∧ ∃ g, e = .returned (.tuple #[.pointer (some ⟨g, 0, none⟩), .int .i64 0]) ∧ IsF w w' g l) ∨ (¬ OkF l ∧ e = .returned (.tuple #[.pointer none, .int .i64 1])))
set_option maxHeartbeats 1600000 in
theorem newFC (A0 : Option Addr) (c0 : Nat) (l : List F) (w : World) (hR : Kd.C (Kd.pair (Kd.int .i64) (Kd.pair (Kd.int .i64) (Kd.int .i64))) w A0 l.length l) (hc : l.length ≤ c0) (hm : l.length ≤ 9223372036854775807) :
    Calls Try.prog 29 #[.slice A0 l.length c0] w (NewPost l w) := by
  have HR := Aside0.mk hR
  clear hR
  by_cases h256 : 256 < (l.length : Int)
  · have HN : Aside0 (¬ OkF l) := ⟨fun h => by have := h.1; omega⟩
    go_enter Try.func29, Try.ntmps29
    go_wp2
    go_ret2
    exact ⟨Below.refl _ _, .inr ⟨HN.out, rfl⟩⟩
  · have hlb : decide ((256 : Int) < (l.length : Int)) = false := decide_eq_false h256
    have hmm := @run_makeMap Try.prog
    go_enter Try.func29, Try.ntmps29
    go_wp2
    have hown := World.ownsMap_made (H := Unit) w Try.prog 3 fateElem
    have HO : Aside0 (((w.alloc (.map #[] 0)).alloc (.cells #[.map (some w.heap.size)] 93 (0, 0))).ownsMap Try.prog 3 fateElem w.heap.size 0 (DF [])) := ⟨hown.alloc _⟩
    have HG : Aside0 (((w.alloc (.map #[] 0)).alloc (.cells #[.map (some w.heap.size)] 93 (0, 0))).heap[w.heap.size + 1]? = some (.cells #[.map (some w.heap.size)] 93 (0, 0))) := ⟨by have h_ := blk_new (w.alloc (.map #[] 0)) (.cells #[.map (some w.heap.size)] 93 (0, 0)); simpa using h_⟩
    have HB : Aside0 (Below w.heap.size w ((w.alloc (.map #[] 0)).alloc (.cells #[.map (some w.heap.size)] 93 (0, 0)))) := ⟨below_alloc (below_alloc (Below.refl _ _) _) _⟩
    clear hown hmm
    generalize ((w.alloc (.map #[] 0)).alloc (.cells #[.map (some w.heap.size)] 93 (0, 0))) = W1 at *
    go_loopw [15] (fun v15 wr => ∃ i : Nat, (i : Int) ≤ (l.length : Int) ∧ v15 = .int .i64 (i : Int) ∧ Aside0 (wr.ownsMap Try.prog 3 fateElem w.heap.size i (DF (l.take i))) ∧ Aside0 (wr.heap[w.heap.size + 1]? = some (.cells #[.map (some w.heap.size)] 93 (0, 0))) ∧ Aside0 (Below w.heap.size w wr) ∧ Aside0 (∀ x ∈ l.take i, MayF x)) (fun v15 _ => l.length - (intOf v15).toNat)
    case atStart => exact ⟨0, by omega, rfl, by simpa using HO, HG, HB, ⟨by simp⟩⟩
    case round =>
      clear HO HG HB
      obtain ⟨i, hi, rfl, HO, HG, HB, HM⟩ := hrel
      by_cases c : (i : Int) < (l.length : Int)
      · have cN : i < l.length := by omega
        obtain ⟨ad, e1, hx, hy, hz⟩ := at_tri HR.out i cN
        cases e1
        obtain ⟨x, hxx⟩ : ∃ x, l.getD i (0, 0, 0) = x := ⟨_, rfl⟩
        rw [hxx] at hx hy hz
        replace hx := (HB.out.cell (World.block_lt_of_cell? w _ hx)).trans hx
        replace hy := (HB.out.cell (World.block_lt_of_cell? w _ hy)).trans hy
        replace hz := (HB.out.cell (World.block_lt_of_cell? w _ hz)).trans hz
        have htake : l.take (i + 1) = l.take i ++ [x] := by
          rw [List.take_succ_eq_append_getElem cN]
          have : l[i] = x := by rw [← hxx, List.getD_eq_getElem?_getD, List.getElem?_eq_getElem cN]; rfl
          rw [this]
        have HT := Aside0.mk htake
        have hmem : x ∈ l := by rw [← hxx]; exact mem_getD _ cN
        have HMem := Aside0.mk hmem
        clear hxx htake hmem
        by_cases hm : MayF x
        · have HMx := Aside0.mk hm
          have HD : Aside0 (decide (MayF x) = true) := ⟨decide_eq_true hm⟩
          clear hm
          have hp := blk_new wr (.cells #[.int .i64 x.1, .int .i64 x.2.1, .int .i64 x.2.2] 42 (0, 0))
          have HP := Aside0.mk hp
          have HO2 := Aside0.mk (HO.out.alloc (.cells #[.int .i64 x.1, .int .i64 x.2.1, .int .i64 x.2.2] 42 (0, 0)))
          have HG2 := Aside0.mk (blk_alloc HG.out (.cells #[.int .i64 x.1, .int .i64 x.2.1, .int .i64 x.2.2] 42 (0, 0)))
          have HB2 := Aside0.mk (below_alloc HB.out (.cells #[.int .i64 x.1, .int .i64 x.2.1, .int .i64 x.2.2] 42 (0, 0)))
          clear hp
          go_wp2_with (go_at_call 48; (refine (mayFC x true _ HD.out).mono ?_); rintro e5 w5 ⟨rfl, hb5⟩; have HB5 := Aside0.mk hb5; clear hb5)
          have hlen : i < maxLen := by unfold maxLen; omega
          obtain ⟨w6, hrun, hown6, hturn⟩ := ((owns_below HO2.out HB5.out).drew).store K3 Try.underlying91 hlen (key3 HMx.out.wf) (fateElem_mk x)
          have hrun' : Sem.run Try.prog (Instr.mapUpdate 91 (Value.map (some w.heap.size)) (Value.int IntKind.i64 x.fst) (Value.agg #[Value.int IntKind.i64 x.fst, Value.int IntKind.i64 x.snd.fst, Value.int IntKind.i64 x.snd.snd])) w5.drew = Result.ok () w6 := hrun
          have hg0 : w5.cell? ⟨w.heap.size + 1, 0, none⟩ = some (.map (some w.heap.size)) := (blk_cell (blk_below HG2.out HB5.out) 0).trans rfl
          have hp0 : w5.cell? ⟨wr.heap.size, 0, none⟩ = some (.int .i64 x.1) := (blk_cell (blk_below HP.out HB5.out) 0).trans rfl
          have hp1 : w5.cell? ⟨wr.heap.size, 1, none⟩ = some (.int .i64 x.2.1) := (blk_cell (blk_below HP.out HB5.out) 1).trans rfl
          have hp2 : w5.cell? ⟨wr.heap.size, 2, none⟩ = some (.int .i64 x.2.2) := (blk_cell (blk_below HP.out HB5.out) 2).trans rfl
          have HO6 := Aside0.mk hown6
          have HT6 := Aside0.mk hturn.grown
          clear hrun hown6 hturn hlen
          go_region
          go_wp2
          go_roundw
          case rel =>
            refine ⟨i + 1, by omega, by go_num, ⟨by rw [HT.out, DF_snoc]; exact HO6.out⟩, ⟨?_⟩, ⟨?_⟩, ⟨fun y hy => ?_⟩⟩
            · have h1 := blk_below HG2.out HB5.out
              exact (HT6.out.block _ (blk_lt h1) (by simp)).trans h1
            · exact Below.grown (below_step HB2.out HB5.out).drew HT6.out (below_step HB2.out HB5.out).drew.size (fun k hk => by cases hk; exact Nat.le_refl _)
            · rw [HT.out] at hy
              rcases List.mem_append.1 hy with hy | hy
              · exact HM.out y hy
              · rw [List.mem_singleton.1 hy]; exact HMx.out
          case measure => simp [intOf]; omega
        · have HN : Aside0 (¬ OkF l) := ⟨fun h => hm (h.2.1 x HMem.out)⟩
          have HD : Aside0 (decide (MayF x) = false) := ⟨decide_eq_false hm⟩
          clear hm
          go_wp2_with (go_at_call 48; (refine (mayFC x false _ HD.out).mono ?_); rintro e5 w5 ⟨rfl, hb5⟩; have HB5 := Aside0.mk hb5; clear hb5)
          go_ret2
          exact ⟨below_step (below_alloc HB.out _) HB5.out, .inr ⟨HN.out, rfl⟩⟩
      · obtain rfl : l.length = i := by omega
        rw [List.take_length] at HO HM
        have hsz := size_DF l
        obtain ⟨sz, hs⟩ : ∃ sz, size (DF l) = sz := ⟨_, rfl⟩
        rw [hs] at hsz
        have HSz := Aside0.mk hs
        have hg0 : wr.cell? ⟨w.heap.size + 1, 0, none⟩ = some (.map (some w.heap.size)) := (blk_cell HG.out 0).trans rfl
        clear hs
        by_cases he : sz = l.length
        · have hok : OkF l := ⟨by omega, HM.out, hsz.2.1 he⟩
          have HOk := Aside0.mk hok
          subst he
          clear hsz hok
          go_wp2_with (at_len; refine wpList_len_own _ rfl _ 91 rfl 3 42 Try.underlying91 fateElem _ l.length (DF l) rfl HO.out ?_; rw [HSz.out])
          go_ret2
          exact ⟨HB.out, .inl ⟨HOk.out, _, rfl, HOk.out.2.2, HOk.out.1, w.heap.size, HG.out, HO.out, Nat.le_refl _, by omega⟩⟩
        · have HN : Aside0 (¬ OkF l) := ⟨fun h => he (hsz.2.2 h.2.2)⟩
          have hneb : ((sz : Int) != (l.length : Int)) = true := bne_iff_ne.2 (fun h => he (by omega))
          have hnel : ¬ sz = l.length := he
          clear hsz
          go_wp2_with (at_len; refine wpList_len_own _ rfl _ 91 rfl 3 42 Try.underlying91 fateElem _ l.length (DF l) rfl HO.out ?_; rw [HSz.out])
          go_ret2
          exact ⟨HB.out, .inr ⟨HN.out, rfl⟩⟩
end Go.Proofs.Ytmddafefdleimaa.M
