/- Tales: what the rows list as laid by start-up gives the walks what they read; a start that fits; by hand. -/
import Derived.Test.YthdmeffjiljdeaaDoorTie
import Derived.Test.YthdmeffjiljdeaaDoorA
import Derived.HandedShaped
import Derived.ProofKit
import Derived.OpenShut
import Derived.LaidMore
import Derived.Lay
import Derived.SevenTiedAt
import Derived.Stop.Joined
import Derived.Lib.LaidTab
import Derived.Stop.LaidErr
import Derived.SizedLaws
namespace Go.Proofs.YthdmeffjiljdeaaDoor.M
open Go.ChangeShapes Go.WideShapes Go.ChangeAt Go.RowKit
set_option linter.unusedVariables false
/-- what all three rows list -/
abbrev laidL : List (String × DataW Unit) := [("math/bits.deBruijn32tab", Rows.laid_math_bits_deBruijn32tab), ("math/bits.deBruijn64tab", Rows.laid_math_bits_deBruijn64tab), ("internal/strconv.uint64pow10", Rows.laid_internal_strconv_uint64pow10), ("unicode/utf8.acceptRanges", Rows.laid_unicode_utf8_acceptRanges), ("strconv.ErrRange", Rows.laid_strconv_ErrRange), ("strconv.ErrSyntax", Rows.laid_strconv_ErrSyntax), ("unicode.White_Space", Rows.laid_unicode_White_Space), ("strings.asciiSpace", Rows.laid_strings_asciiSpace), ("unicode/utf8.first", Rows.laid_unicode_utf8_first)]
theorem gEs : Tryd.prog.globalNamed "strconv.ErrSyntax" = some 4 := by kernel_rfl
theorem gEr : Tryd.prog.globalNamed "strconv.ErrRange" = some 5 := by kernel_rfl
theorem gD64 : Tryd.prog.globalNamed "math/bits.deBruijn64tab" = some 10 := by kernel_rfl
theorem pow_tab : (Rows.laid_internal_strconv_uint64pow10 : DataW Unit) = Lib.tabData .u64 Lib.pow10Tab := by kernel_rfl
theorem sp_tab : (Rows.laid_strings_asciiSpace : DataW Unit) = Lib.tabData .u8 Lib.asciiSpaceTab := by kernel_rfl
theorem iface_head {W : World} {n nm : String} {d : DataW Unit} {r : List (String × DataW Unit)} {g : Nat} {ms : Array (String × TypeId)} (hi : Tryd.prog.underlying 47 = some (.interface ms)) (hg : Tryd.prog.globalNamed n = some g) (ht : (Tryd.prog.globals[g]?).map (·.type) = some 47)
    (h : laidMet Tryd.prog ((n, .iface nm d) :: r) W) : ∃ tp p, W.cell? ⟨g, 0, none⟩ = some (.iface tp p) := by
  obtain ⟨ps, ⟨g', t', cs, fuel, p, q, hg', ht', hvar, hd, _, _⟩, _⟩ := h
  obtain rfl := Option.some.inj (hg.symm.trans hg')
  obtain rfl := Option.some.inj (ht.symm.trans ht')
  obtain ⟨fuel', u, v, hcs, -, -⟩ := iface_of_trod hi hd
  refine ⟨u, v, ?_⟩
  have h0 := World.var?_cell hg hvar 0
  rw [h0]
  obtain ⟨l⟩ := cs
  have e : l = [.iface u v] := hcs
  subst e
  rfl
theorem gv_of_laid {W : World} (hsh : W.ShapedOpen Tryd.prog) (h : laidMet Tryd.prog laidL W) : GV W := by
  have h1 := h.tail
  have h2 := h1.tail
  have h3 := h2.tail
  have h4 := h3.tail
  have h5 := h4.tail
  have h6 := h5.tail
  have h7 := h6.tail
  have c53 : Tryd.prog.cellsOf 53 = 1 := by kernel_rfl
  have c125 : Tryd.prog.cellsOf 125 = 20 := by kernel_rfl
  have c5 : Tryd.prog.cellsOf 5 = 1 := by kernel_rfl
  have c78 : Tryd.prog.cellsOf 78 = 256 := by kernel_rfl
  refine ⟨Tryd.laysM145.s1_3 W hsh, ?_, ?_, ?_, ?_, ?_⟩
  · rw [sp_tab] at h7
    exact Lib.tabIs_of_head gSp (show (Tryd.prog.globals[2]?).map (·.type) = some 78 by kernel_rfl) Tryd.underlying78 Tryd.underlying5 c5 c78 h7
  · rw [pow_tab] at h2
    exact Lib.tabIs_of_head gPw (show (Tryd.prog.globals[6]?).map (·.type) = some 125 by kernel_rfl) Tryd.underlying125 Tryd.underlying53 c53 c125 h2
  · exact iface_head Tryd.underlying47 gEs (by kernel_rfl) h5
  · exact iface_head Tryd.underlying47 gEr (by kernel_rfl) h4
  · obtain ⟨ps, ⟨g', t', cs, fuel, p, q, hg', ht', hvar, hd, _, _⟩, _⟩ := h1
    obtain rfl := Option.some.inj (gD64.symm.trans hg')
    unfold World.var? at hvar
    rw [gD64] at hvar
    simp only [Option.bind_some] at hvar
    cases hk : W.heap[10]? with
    | none => rw [hk] at hvar; cases hvar
    | some o => have := (Array.getElem?_eq_some_iff.1 hk).1; omega
/-- a row's reading handed on, with the world's shape and what was laid -/
theorem handed_shaped_and {H : Type} {enc : TypeId × Value → H} {a : Assume} {C : Checked} {os : Os} {f : FuncId} {fn : Func} {s : ChangeSpec} {conds : List PathCond} {apart fresh handsOn again : Bool} {X : World → Array Value → Prop}
    (hX : ∀ (w w' : World) (args : Array Value), w.heap = w'.heap → X w args → X w' args)
    (own : ownKnob C.prog.godebug = none) (started : os.Started) (noInit : C.prog.inits.idxOf? f = none) (hfn : C.prog.funcs[f]? = some fn)
    (witness : ∃ (w : World) (tape : Tape) (i : Input), w.os = os ∧ (w.forCall tape i).Shaped C.prog ∧ i.vars = [] ∧ Input.okWide C.prog (w.forCall tape i) .any w.heap.size f i ∧
      ((s.pre enc C.prog fn conds apart (w.forCall tape i).memory i.args ∧ X (w.forCall tape i).memory i.args) ∧ sizedMet enc C.prog fn (OpenSpec.ofChange s) apart (w.forCall tape i).memory i.args) ∧ a.holds C.prog (lone (Frame.enter C.prog f i.args .normal) [] (w.forCall tape i)))
    (contract : ∀ (W : World) (base : Nat) (args : Array Value) (ds gs : List (DataW H)) (before : List MemPlace),
      (∀ (j : Nat) t v, fn.params[j]? = some t → args[j]? = some v → Value.okWide C.prog W .any base t v) →
      DataW.Whole enc C.prog fn.params.toList s.vars apart W args.toList ds gs before →
      W.ShapedOpen C.prog → X W args →
      Calls C.prog f args W fun e W' => ∃ v, e = .returned v ∧ s.post enc C.prog fn apart fresh handsOn again W args v W') :
    ReturnsInHanded a C os f .any (fun w args => (s.pre enc C.prog fn conds apart w args ∧ X w args) ∧ sizedMet enc C.prog fn (OpenSpec.ofChange s) apart w args) (s.post enc C.prog fn apart fresh handsOn again) := by
  refine returnsInHanded_of_calls own started noInit witness ?_
  intro w tape i _ hsh _ hok hpre hholds
  obtain ⟨_, _, _, fn', hfn', _, _, _, _, hval⟩ := hok
  have e : fn' = fn := Option.some.inj (hfn'.symm.trans hfn)
  subst e
  obtain ⟨⟨⟨ds, gs, before, hw, hc⟩, hx⟩, hz⟩ := hpre
  have hw' := DataW.Whole.of_heap (w' := w.forCall tape i) (by rfl) hw
  refine (contract (w.forCall tape i) w.heap.size i.args ds gs before hval hw' hsh (hX _ _ _ (by rfl) hx)).mono fun e W' ⟨v, he, hp⟩ => ?_
  subst he
  exact ChangeSpec.post_blind hp
theorem own : ownKnob Tryd.prog.godebug = none := by kernel_rfl
theorem lay_met (os : Os) (args : Array Value) : laidMetH Tryd.prog laidL ((World.laidAll Tryd.prog os laidL).forCall (fun _ _ => 0) ⟨#[], args, []⟩).memory := by
  rw [MakeChecks.laidMetH_plain _ _ _ (by kernel_rfl)]
  exact laidMet_laidAll _ (by kernel_rfl) (by kernel_rfl)
end Go.Proofs.YthdmeffjiljdeaaDoor.M
