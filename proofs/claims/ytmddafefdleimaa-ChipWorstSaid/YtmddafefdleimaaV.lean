/- A page: Program that goes, Erase; by hand. -/
import Derived.Test.YtmddafefdleimaaU
import Derived.Deep.AppendLies
import Derived.Deep.RegionLaw
import Derived.Deep.DrawnRows
namespace Go.Proofs.Ytmddafefdleimaa.M
open Go.RowKit Go.Proofs.YtmddafefdleimaaW.PrintWords Go.Proofs.YtmddafefdleimaaW.PrintLast Go.Proofs.YtmddafefdleimaaW.PrintMore Go.Proofs.Ytmddafefdleimaa.Rw Go.Proofs.Ytmddafefdleimaa.Fl
set_option linter.unusedVariables false
set_option linter.unusedSimpArgs false
theorem info26 : (Try.prog.info? 40).map (fun i => (i.zero, i.size, i.bytes)) = some (some (.int .u16 0), 1, 2) := by kernel_rfl
theorem empty_row {w : World} {b base : Nat} {ok : Nat → Prop} (h : w.heap[b]? = some (.cells #[] 40 (0, 0))) (hb : base ≤ b) (hok : ok b) : Kd.R (Kd.int .u16) 40 w base ok (.slice (some ⟨b, 0, none⟩) 0 0) [] := by
  refine Kd.R_of_own ⟨by simp [encs], .inr ⟨b, 0, #[], rfl, hb, h, Nat.le_refl _, Nat.zero_le _, rfl, rfl⟩⟩ (fun k hk => ?_)
  have : b = k := by simpa [Value.ownBlock] using hk
  subst this; exact hok
section
attribute [local go_sem] run_store_complex max2_int min2_int max_two min_two
variable {w W W1 : World} {base g b : Nat} {P : Pts} {S xs : List Int} {st : Int} {sv : Value}
set_option maxHeartbeats 1600000 in
theorem cloneU (A : Option Addr) (c : Nat) (hC : Kd.C (Kd.int .u16) w A xs.length xs) (hc : xs.length ≤ c) (hm : xs.length ≤ 1000) (hp : 0 < xs.length) :
    Calls Try.prog 54 #[.slice A xs.length c] w fun e w' => ∃ v, e = .returned v ∧ Aside0 (Kd.R (Kd.int .u16) 40 w' w.heap.size (fun _ => True) v xs) ∧ Aside0 (Below w.heap.size w w') := by
  obtain ⟨ad, e0, _⟩ := hC.2.2 hp
  subst e0
  have HC := Aside0.mk (Kd.C_below hC (below_alloc (Below.refl _ w) (.cells #[] 40 (0, 0))))
  have HE := Aside0.mk (empty_row (ok := fun _ => True) (blk_new w (.cells #[] 40 (0, 0))) (Nat.le_refl _) trivial)
  have HBa := Aside0.mk (below_alloc (Below.refl w.heap.size w) (.cells #[] 40 (0, 0)))
  obtain ⟨n, hn⟩ : ∃ n, xs.length = n := ⟨_, rfl⟩
  have hnil := fun (w : World) => Lib.run_eql_slice_nil (P := Try.prog) w 32 40 (some ad) n c 0 0 Try.underlying32
  rw [hn] at HC hm hc ⊢
  clear hn hC hp
  go_enter Try.func54, Try.ntmps54
  go_wp2_with ((with_reducible refine gate_builtin (b := .append) (xs := #[.tmp 5, .tmp 6]) rfl ?_); at_builtin; refine Kd.R_append_rows (Kd.int .u16) (w0 := w) w.heap.size rfl (.tmp 5) (.tmp 6) 32 40 (.int .u16 0) 2 rfl Try.underlying32 info26 rfl (by decide) (by omega) (.slice (some ⟨w.heap.size, 0, none⟩) 0 0) [] xs (some ad) n c (fun _ => True) (fun _ => False) rfl rfl HE.out HC.out (fun _ _ hh => hh) (fun _ hk => hk.elim) (fun _ _ => trivial) HBa.out (by simp) (by simp; omega) ?_; intro v1 w1 hR hB _ _; rw [List.nil_append] at hR; have HV1 := Aside0.mk hR; have HB1 := Aside0.mk hB; clear hR hB)
  go_ret
  exact ⟨_, rfl, HV1, HB1⟩
theorem IsC.torn (h : IsC W base g b P S 0 sv) (S' : List Int) : IsC (W.setCell ⟨g, 2, none⟩ (.int .i64 2)) base g b P S' 2 (.slice none 0 0) := by
  have hs : sv = .slice none 0 0 := by
    rcases h.sv with h1 | h1
    · exact h1.2
    · exact absurd h1.1 (by decide)
  subst hs
  exact ⟨(blk_put h.hg 2 (.int .i64 2) rfl).trans (by rfl), h.hb.far h.gb.symm _, h.bg, h.bb, h.gb, h.le, .inl ⟨by decide, rfl⟩⟩
theorem IsC.whole (h : IsC W base g b P S 0 sv) (S' : List Int) (v : Value) (hS : S'.length = P.length) (hR : Kd.R (Kd.int .u16) 40 W base (fun k => k ≠ g ∧ k ≠ b) v S') : IsC ((W.setCell ⟨g, 2, none⟩ (.int .i64 1)).setCell ⟨g, 1, none⟩ v) base g b P S' 1 v := by
  have hg1 := blk_put h.hg 2 (.int .i64 1) rfl
  have hg2 := blk_put hg1 1 v rfl
  have hfar : ∀ k, k ≠ g → ((W.setCell ⟨g, 2, none⟩ (.int .i64 1)).setCell ⟨g, 1, none⟩ v).heap[k]? = W.heap[k]? := fun k hk => (Below.heap_setCell _ ⟨g, 1, none⟩ v k hk).trans (Below.heap_setCell W ⟨g, 2, none⟩ (.int .i64 1) k hk)
  exact ⟨hg2.trans (by rfl), h.hb.move (hfar b h.gb.symm), h.bg, h.bb, h.gb, h.le, .inr ⟨rfl, hS, row_move hR fun k hk => hfar k (hR.1 k hk).1⟩⟩
theorem C_blk {A : Option Addr} {n : Nat} (h : Kd.C (Kd.int .u16) W A n xs) (hb : ∀ ad, A = some ad → W1.heap[ad.block]? = W.heap[ad.block]?) : Kd.C (Kd.int .u16) W1 A n xs := by
  refine ⟨h.1, h.2.1, fun hp => ?_⟩
  obtain ⟨ad, e, hc⟩ := h.2.2 hp
  refine ⟨ad, e, fun j p hj => ?_⟩
  obtain ⟨c, h1, h2, h3⟩ := hc j p hj
  refine ⟨c, h1, h2, fun i u hu => ?_⟩
  rw [World.cell?_of_block (w := W) (a := ad.add (j * (Kd.int .u16).sz + i)) (by rw [add_block]; exact hb ad e)]
  exact h3 i u hu
/-- the page's symbols do not lie in block q -/
def NoQ (W : World) (g q : Nat) : Prop := ∀ a sv c, W.heap[g]? = some (.cells #[a, sv, c] 90 (0, 0)) → sv.ownBlock ≠ some q
theorem NoQ.same {W W1 : World} {g q : Nat} (h : NoQ W g q) (e : W1.heap[g]? = W.heap[g]?) : NoQ W1 g q := fun a sv c hh => h a sv c (e.symm.trans hh)
theorem noq_of {W : World} {base g b q : Nat} {P : Pts} {S : List Int} {st : Int} {sv : Value} (h : IsC W base g b P S st sv) (hq : sv.ownBlock ≠ some q) : NoQ W g q := by
  intro a sv' c hh
  have e := h.hg.symm.trans hh
  simp at e
  rw [← e.2.1]; exact hq
theorem noq_fresh {W : World} {base g b q : Nat} {P : Pts} {S : List Int} {st : Int} {sv : Value} (h : IsC W base g b P S st sv) (hq : W.heap.size ≤ q) : NoQ W g q := by
  refine noq_of h fun e => ?_
  rcases h.sv with h1 | h1
  · rw [h1.2] at e; cases e
  · have := Kd.R_lt h1.2.2 q e; omega
theorem clear_event {P : Program} {ops : Array Oper} {rest : List Oper} {o : Oper} {a : Act} {Q : Exit → Act → World → Prop} {W W1 : World} {u : Value} {t : TypeId} (hgd : o.guard = none) (s : Operand)
    (ho : o.op = .call { callee := .builtin .clear, args := #[s], argTypes := #[t] }) (hs : a.eval s = u) (hrun : (Builtin.clear_ #[t] o.type #[u]).run P W = .ok (.tuple #[]) W1)
    (h : wpList P ops Q rest (a.put o.dst (.tuple #[])) W1) : wpList P ops Q (o :: rest) a W := by
  refine wpList_plain hgd fun K hK => ?_
  unfold Oper.wp execOp
  simp only [ho, resolve, invoke, builtin, Sem.run_bind, Sem.run_pure, Result.andThen_ok, List.map_toArray, List.map_cons, List.map_nil, hs, hrun]
  exact hK _ _ h
/-- only block b is another -/
structure Fr (w wr : World) (base b : Nat) : Prop where
  bel : Below base w wr
  sz : wr.heap.size = w.heap.size
  far : ∀ k, k ≠ b → wr.heap[k]? = w.heap[k]?
theorem Fr.step {v : Value} {i : Nat} (h : Fr w W base b) (bb : base ≤ b) : Fr w (W.setCell ⟨b, i, none⟩ v) base b :=
  ⟨h.bel.setCell (p := ⟨b, i, none⟩) bb v, by rw [show (W.setCell ⟨b, i, none⟩ v).heap.size = W.heap.size from by simp [World.setCell]]; exact h.sz, fun k hk => (Below.heap_setCell W ⟨b, i, none⟩ v k hk).trans (h.far k hk)⟩
theorem Fr.same (h : Fr w W base b) (hb : Below W.heap.size W W1) (hs : W1.heap = W.heap) : Fr w W1 base b :=
  ⟨Below.trans h.bel ⟨hb.1, hb.2, hb.3, by rw [hs]; exact Nat.le_refl _, fun k _ => by rw [hs]⟩, by rw [hs]; exact h.sz, fun k hk => by rw [hs]; exact h.far k hk⟩
set_option maxHeartbeats 6400000 in
set_option maxRecDepth 100000 in
theorem progOK (h : IsC w base g b P S 0 sv) (A : Option Addr) (c : Nat) (hC : Kd.C (Kd.int .u16) w A xs.length xs) (hcl : xs.length ≤ c) (hm : xs.length = P.length) (hp : 0 < P.length) (hx : ∀ j, j < xs.length → 0 ≤ xs.getD j 0 ∧ xs.getD j 0 < 1024) (hap : ∀ ad, A = some ad → ad.block ≠ b ∧ ad.block ≠ g)
    (keep : Int) (km : Nat) (hkm : (if (if keep < 0 then 0 else keep) ≤ (P.length : Int) then (if keep < 0 then 0 else keep) else (P.length : Int)) = (km : Int)) :
    Calls Try.prog 39 #[.pointer (some ⟨g, 0, none⟩), .slice A xs.length c, .int .i64 keep] w fun e w' => e = .returned (.int .i64 0) ∧
      (∃ sv', Aside0 (IsC w' base g b (progL P xs km) xs (if keep ≤ 0 then 0 else if (P.length : Int) ≤ keep then 1 else 2) sv')) ∧ Aside0 (Below base w w') ∧ Aside0 (∀ k, k < w.heap.size → k ≠ g → k ≠ b → w'.heap[k]? = w.heap[k]?) ∧ Aside0 (∀ q, q < w.heap.size → NoQ w' g q) := by
  have hkn : km ≤ P.length := by split at hkm <;> omega
  obtain ⟨c0, c1, c2⟩ := h.cells
  have hle := h.le
  have HK := Aside0.mk (containsC A c hC (by omega) false ⟨fun e => absurd e (by decide), fun ⟨j, hj, hxx⟩ => absurd hxx (by have := hx j hj; omega)⟩)
  have HI0 := Aside0.mk h
  have HC := Aside0.mk hC
  have HX := Aside0.mk hx
  have HAp := Aside0.mk hap
  have HM := Aside0.mk hm
  obtain ⟨n, hn⟩ : ∃ n, P.length = n := ⟨_, rfl⟩
  have HN := Aside0.mk hn
  rw [hm] at hcl HK ⊢
  rw [hn] at c0 hkn hle hcl hp HK hkm ⊢
  have HKm := Aside0.mk hkm
  have hkm0 : (km : Int) ≤ 1000 := by omega
  clear h hC hx hap hm hn c1
  clear hkm
  go_enter Try.func39, Try.ntmps39
  go_upto_region 9 with (first | (go_at_call 51; (refine HK.out.mono ?_); rintro o w2 ⟨rfl, hw⟩; obtain rfl := hw.symm))
  go_cut [33, 34] from 29 to 34 (fun s33 s34 wx => s33 = .int .i64 (km : Int) ∧ s34 = .int .i64 0 ∧ wx = w)
  case first =>
    have hkm := HKm.out
    clear HKm
    rcases (by omega : keep < 0 ∨ (0 ≤ keep ∧ keep ≤ (n : Int)) ∨ (n : Int) < keep) with hk | hk | hk
    all_goals (
      go_wp2
      all_goals (try (exfalso; omega))
      all_goals (
        go_meet
        case rel => exact ⟨by congr 1; omega, rfl, rfl⟩))
  case rest =>
    obtain ⟨rfl, rfl, hwc⟩ := hcut
    subst hwc
    clear c2 HK c0
    have HFr0 : Aside0 (Fr wc wc base b) := ⟨⟨Below.refl _ _, rfl, fun _ _ => rfl⟩⟩
    go_wp2
    go_loopw [7, 34] (fun _ v34 wr => ∃ i : Nat, i ≤ km ∧ v34 = .int .i64 (i : Int) ∧ Aside0 (IsC wr base g b (progL P xs i) S 0 sv) ∧ Aside0 (Fr wc wr base b)) (fun _ v34 _ => km - (intOf v34).toNat)
    case atStart => exact ⟨0, Nat.zero_le _, rfl, by rw [progL_zero]; exact HI0, HFr0⟩
    case round =>
      clear HFr0
      obtain ⟨i, hi, rfl, HI, HF⟩ := hrel
      have hlen : (progL P xs i).length = n := (progL_len HM.out (by rw [HN.out]; omega)).trans HN.out
      obtain ⟨d0, d1, d2⟩ := HI.out.cells
      rw [hlen] at d0
      have hds : sv = .slice none 0 0 := by
        rcases HI.out.sv with h1 | h1
        · exact h1.2
        · exact absurd h1.1 (by decide)
      have HLen := Aside0.mk hlen
      clear d1 hlen
      by_cases ci : i < km
      · have cii : (i : Int) < (km : Int) := by omega
        have cin : (i : Int) < (n : Int) := by omega
        have hil : i < xs.length := by rw [HM.out, HN.out]; omega
        obtain ⟨ad, e1, hx⟩ := at_num HC.out i hil
        have hadb := HAp.out ad e1
        cases e1
        have hx' := (World.cell?_of_block (w := wc) (a := ad.add i) (HF.out.far (ad.add i).block (by rw [add_block]; exact hadb.1))).trans hx
        have hr := HX.out i hil
        have cp := HI.out.hb.cell (i := i) (by rw [HLen.out]; omega)
        have cf := HI.out.hb.frozen i
        have hset := progL_succ (i := i) HM.out (by rw [HN.out]; omega)
        obtain ⟨s, hs⟩ : ∃ s, xs.getD i 0 = s := ⟨_, rfl⟩
        rw [hs] at hx hx' hr hset
        have hof := ofP s hr.1 hr.2
        have HPut := Aside0.mk (hset ▸ HI.out.put i (ofPt s))
        obtain ⟨X, Y, hXY⟩ : ∃ X Y, ptV (ofPt s) = .complex .f64 X Y := ⟨_, _, rfl⟩
        rw [hXY] at hof HPut
        obtain ⟨X2, Y2, hXY2⟩ : ∃ X2 Y2, ptV ((progL P xs i).getD i (0, 0)) = .complex .f64 X2 Y2 := ⟨_, _, rfl⟩
        rw [hXY2] at cp
        have HOf := Aside0.mk hof
        have hbl : b < wr.heap.size := HI.out.hb.lt
        have HBB := Aside0.mk HI.out.bb
        have hgb : ¬ g = b := HI.out.gb
        have hadb1 : ¬ ad.block = b := hadb.1
        clear hs hx hr hof hset hXY hXY2 hadb hil hds d2
        go_upto_region 12 with (fail)
        go_region_law (first
          | (go_simp; go_at_call 53; (refine (HOf.out _).mono ?_); rintro o w2 ⟨rfl, hw⟩; obtain rfl := hw.symm)
          | fail)
        all_goals (
          go_wp2
          go_roundw
          case rel => exact ⟨i + 1, ci, rfl, ⟨HPut.out.move (fun _ _ _ => rfl)⟩, ⟨(HF.out.step HBB.out).same (below_drew (Below.refl _ _)) rfl⟩⟩
          case measure => simp [intOf]; omega)
      · obtain rfl : i = km := by omega
        have cf1 := blk_frozen HI.out.hg 1
        have cf2 := blk_frozen HI.out.hg 2
        have d1 := HI.out.cells.2.1
        have HNB := Aside0.mk HI.out.gb
        have HBG := Aside0.mk HI.out.bg
        by_cases k1 : keep ≤ 0
        · have k1b : decide (keep ≤ 0) = true := decide_eq_true k1
          have HE : Aside0 (IsC wr base g b (progL P xs i) xs 0 sv) := ⟨⟨HI.out.hg, HI.out.hb, HI.out.bg, HI.out.bb, HI.out.gb, HI.out.le, .inl ⟨by decide, hds⟩⟩⟩
          have HSv0 := Aside0.mk hds
          clear cf1 cf2 d1 d0 d2 hds
          go_wp2
          go_ret
          exact ⟨rfl, ⟨sv, HE⟩, ⟨HF.out.bel⟩, ⟨fun k _ _ hk => HF.out.far k hk⟩, ⟨fun q hq => noq_of HE.out (by rw [HSv0.out]; intro h; cases h)⟩⟩
        · have k1b : decide (keep ≤ 0) = false := decide_eq_false k1
          by_cases k2 : (n : Int) ≤ keep
          · have k2b : decide ((n : Int) ≤ keep) = true := decide_eq_true k2
            have hCr := C_blk (W1 := wr) HC.out (fun ad e => HF.out.far _ (HAp.out ad e).1)
            have hxl : xs.length = n := HM.out.trans HN.out
            have hcu := cloneU A c hCr (by omega) (by omega) (by omega)
            rw [hxl] at hcu
            have HU := Aside0.mk hcu
            have hgl : g < wr.heap.size := blk_lt HI.out.hg
            have HSz := Aside0.mk HF.out.sz
            clear hCr hcu hxl cf1 cf2 d1 d2 d0 hds
            go_wp2_with (first | (go_at_call 54; (refine HU.out.mono ?_); rintro o w4 ⟨v, rfl, HR, HB4⟩; have hI4 := HI.out.move (W1 := w4) (fun k _ hk => HB4.out.block k hk); have cf1 := blk_frozen hI4.hg 1; have cf2 := blk_frozen hI4.hg 2; obtain ⟨d0, d1, d2⟩ := hI4.cells; have HI4 := Aside0.mk hI4; clear d0 hI4; obtain ⟨A9, c9, e9⟩ := Kd.R_slice HR.out; subst e9))
            have HR4 : Kd.R (Kd.int .u16) 40 w4 base (fun k => k ≠ g ∧ k ≠ b) (.slice A9 xs.length c9) xs := Kd.R_of_own (own_less (Kd.own_of_R HR.out) (show base ≤ wr.heap.size by have := HBG.out; omega)) (fun k hk => by have h1 := Kd.R_base HR.out k hk; have h2 := HI.out.hb.lt; exact ⟨by omega, by omega⟩)
            have HW := Aside0.mk (HI4.out.whole xs _ (by rw [progL_len HM.out (by rw [HN.out]; omega)]; exact HM.out) HR4)
            go_ret
            refine ⟨rfl, ⟨_, by first | exact HW | (rw [if_pos k2]; exact HW) | (rw [if_neg k1, if_pos k2]; exact HW)⟩, ⟨?_⟩, ⟨fun k hk1 hk2 hk3 => ?_⟩, ⟨fun q hq => noq_of HW.out (fun h => by have h3 := Kd.R_base HR.out q h; have h4 := HSz.out; omega)⟩⟩
            · have hb2 : Below base wr w4 := HB4.out.mono (by have := HBG.out; omega)
              exact ((Below.trans HF.out.bel hb2).setCell (p := ⟨g, 2, none⟩) HBG.out _).setCell (p := ⟨g, 1, none⟩) HBG.out _
            · exact (Below.heap_setCell _ ⟨g, 1, none⟩ _ k hk2).trans ((Below.heap_setCell _ ⟨g, 2, none⟩ _ k hk2).trans ((HB4.out.block k (by rw [HSz.out]; exact hk1)).trans (HF.out.far k hk3)))
          · have k2b : decide ((n : Int) ≤ keep) = false := decide_eq_false k2
            have HT := Aside0.mk (HI.out.torn xs)
            clear cf1 d0 d1 hds
            go_wp2
            go_ret
            have HT2 : Aside0 (IsC (wr.setCell ⟨g, 2, none⟩ (.int .i64 2)) base g b (progL P xs i) xs 2 (.slice none 0 0)) := ⟨⟨HT.out.hg, HT.out.hb, HT.out.bg, HT.out.bb, HT.out.gb, HT.out.le, .inl ⟨by decide, rfl⟩⟩⟩
            refine ⟨rfl, ⟨_, by first | exact HT2 | (rw [if_neg k2]; exact HT2) | (rw [if_neg k1, if_neg k2]; exact HT2)⟩, ⟨HF.out.bel.setCell (p := ⟨g, 2, none⟩) HBG.out _⟩, ⟨fun k hk1 hk2 hk3 => (Below.heap_setCell _ ⟨g, 2, none⟩ _ k hk2).trans (HF.out.far k hk3)⟩, ⟨fun q hq => noq_of HT2.out (fun h => by cases h)⟩⟩
/-- the points of a page are wiped -/
theorem clear_V (h : Vec W b P) (hp : 0 < P.length) (ty : TypeId) : ∃ W1, (Builtin.clear_ #[44] ty #[.slice (some ⟨b, 0, none⟩) P.length P.length]).run Try.prog W = .ok (.tuple #[]) W1 ∧ Vec W1 b (List.replicate P.length (0, 0)) ∧ Fr W W1 b b := by
  obtain ⟨cur, h1, h2, h3⟩ := h
  have hrun := Lib.run_clear_slice (P := Try.prog) W 44 47 ty (.complex .f64 0 0) Try.underlying44 (fun w => by kernel_rfl) rfl rfl b 0 P.length P.length hp
    (fun j hj => by rw [Nat.zero_add, blk_cell h1 j, h3 j hj]; rfl) (fun j hj => blk_frozen h1 _)
  obtain ⟨cur', e1, e2, e3⟩ := setCells_row (List.replicate P.length (Value.complex .f64 0 0)) 0 W cur h1 (by simp; omega)
  obtain ⟨s1, s2, s3, s4⟩ := setCells_same b (List.replicate P.length (Value.complex .f64 0 0)) 0 W
  refine ⟨_, hrun, ⟨cur', e1, by rw [List.length_replicate, e2]; exact h2, fun i hi => ?_⟩, ⟨⟨s1, s2, s3, Nat.le_of_eq s4.symm, fun k hk => setCells_far _ _ k (Nat.ne_of_lt hk)⟩, s4, fun k hk => setCells_far _ _ k hk⟩⟩
  have hi' : i < P.length := by simpa using hi
  rw [← Array.getElem?_toList, e3, List.getD_eq_getElem?_getD]
  simp [hi', ptV_zero, List.getElem?_append]
set_option maxHeartbeats 1600000 in
theorem eraseC (h : IsC w base g b P S st sv) (hp : 0 < P.length) : Calls Try.prog 34 #[.pointer (some ⟨g, 0, none⟩)] w fun e w' => e = .returned (.tuple #[]) ∧
    Aside0 (IsC w' base g b (List.replicate P.length (0, 0)) [] 0 (.slice none 0 0)) ∧ Aside0 (Below base w w') ∧ Aside0 (∀ k, k < w.heap.size → k ≠ g → k ≠ b → w'.heap[k]? = w.heap[k]?) := by
  obtain ⟨c0, c1, c2⟩ := h.cells
  obtain ⟨W1, hrun, hV, hF⟩ := clear_V h.hb hp 0
  have hg1 : W1.heap[g]? = _ := (hF.far g h.gb).trans h.hg
  have d1 := blk_cell hg1 1
  have d2 := blk_cell hg1 2
  have f1 := blk_frozen hg1 1
  have f2 := blk_frozen hg1 2
  have hg3 := blk_put (blk_put hg1 2 (.int .i64 0) rfl) 1 (.slice none 0 0) rfl
  have HE : Aside0 (IsC ((W1.setCell ⟨g, 2, none⟩ (.int .i64 0)).setCell ⟨g, 1, none⟩ (.slice none 0 0)) base g b (List.replicate P.length (0, 0)) [] 0 (.slice none 0 0)) :=
    ⟨⟨by rw [List.length_replicate]; exact hg3.trans (by rfl), (hV.far h.gb.symm _).far h.gb.symm _, h.bg, h.bb, h.gb, by rw [List.length_replicate]; exact h.le, .inl ⟨by decide, rfl⟩⟩⟩
  have HB : Aside0 (Below base w ((W1.setCell ⟨g, 2, none⟩ (.int .i64 0)).setCell ⟨g, 1, none⟩ (.slice none 0 0))) :=
    ⟨((hF.bel.mono h.bb).setCell (p := ⟨g, 2, none⟩) h.bg _).setCell (p := ⟨g, 1, none⟩) h.bg _⟩
  have HO : Aside0 (∀ k, k < w.heap.size → k ≠ g → k ≠ b → ((W1.setCell ⟨g, 2, none⟩ (.int .i64 0)).setCell ⟨g, 1, none⟩ (.slice none 0 0)).heap[k]? = w.heap[k]?) :=
    ⟨fun k _ hk2 hk3 => (Below.heap_setCell _ ⟨g, 1, none⟩ _ k hk2).trans ((Below.heap_setCell _ ⟨g, 2, none⟩ _ k hk2).trans (hF.far k hk3))⟩
  have HRun := Aside0.mk hrun
  generalize P.length = n at *
  clear h hV hF hrun hg1 hg3
  go_enter Try.func34, Try.ntmps34
  go_wp2_with ((with_reducible refine gate_builtin (b := .clear) (xs := #[.tmp 7]) rfl ?_); refine clear_event rfl (.tmp 7) rfl rfl HRun.out ?_)
  go_end0
  exact ⟨rfl, HE, HB, HO⟩
end
end Go.Proofs.Ytmddafefdleimaa.M
