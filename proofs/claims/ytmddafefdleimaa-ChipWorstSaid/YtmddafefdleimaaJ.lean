/- A chip: what goes by its fate, what is done without power, marks; by hand. -/
import Derived.Test.YtmddafefdleimaaH
import Derived.Deep.RegionHeld3
namespace Go.Proofs.Ytmddafefdleimaa.M
open Go.RowKit Go.Proofs.YtmddafefdleimaaW.PrintWords Go.Proofs.YtmddafefdleimaaW.PrintLast Go.Proofs.YtmddafefdleimaaW.PrintMore Go.Proofs.Ytmddafefdleimaa.Rw Go.Proofs.Ytmddafefdleimaa.Fl Go.Maps
set_option linter.unusedVariables false
set_option linter.unusedSimpArgs false
attribute [local go_sem] max2_int min2_int max_two min_two
section
variable {base : Nat} {w W W1 : World} {s : Ch} {xs : List Int}
set_option maxHeartbeats 1600000 in
theorem doP2 (p1 p2 p3 p4 c g : Nat) (i j : Nat) (A : Option Addr) (n q : Nat) (f0 f2 : Int) (hB : Boxes w p1 p2 p3 p4 c i j (.slice A n q)) (R : World → World → Prop)
    (HP : Aside0 (Calls Try.prog 38 #[ptr c, .int .i64 (i : Int), .int .i64 (j : Int)] (w.alloc (.cells #[.int .i64 f0, .int .i64 2, .int .i64 f2] 42 (0, 0))) fun e w' => e = .returned (ptr g) ∧ w' = (w.alloc (.cells #[.int .i64 f0, .int .i64 2, .int .i64 f2] 42 (0, 0)))))
    (HC : Aside0 (Calls Try.prog 39 #[ptr g, .slice A n q, .int .i64 f2] (w.alloc (.cells #[.int .i64 f0, .int .i64 2, .int .i64 f2] 42 (0, 0))) fun e w' => e = .returned (.int .i64 0) ∧ R w w')) :
    Calls Try.prog 37 #[.agg #[.int .i64 f0, .int .i64 2, .int .i64 f2], ptr p1, ptr p2, ptr p3, ptr p4] w fun e w' => e = .returned (.int .i64 0) ∧ R w w' := by
  obtain ⟨h1, h2, h3, h4⟩ := hB
  have l1 := World.block_lt_of_cell? w _ h1
  have l2 := World.block_lt_of_cell? w _ h2
  have l3 := World.block_lt_of_cell? w _ h3
  have l4 := World.block_lt_of_cell? w _ h4
  go_enter Try.func37, Try.ntmps37
  go_wp2_with (first
    | (go_at_call 38; (refine HP.out.mono ?_); rintro e w2 ⟨rfl, hw⟩; obtain rfl := hw.symm)
    | (go_at_call 39; (refine HC.out.mono ?_); rintro e w3 ⟨rfl, HR⟩))
  go_ret
  exact ⟨rfl, HR⟩
set_option maxHeartbeats 3200000 in
theorem doP1 (p1 p2 p3 p4 c g Wn : Nat) (i j : Nat) (A : Option Addr) (n q : Nat) (f0 f2 k : Int) (hB : Boxes w p1 p2 p3 p4 c i j (.slice A n q)) (R : World → World → Prop) (hc : w.cell? ⟨c, 2, none⟩ = some (.int .i64 (Wn : Int))) (hW : Wn ≤ 4) (hn : n ≤ 1000) (hn9 : 9 * Wn ≤ n) (hk : (if (n : Int) - 9 * (Wn : Int) < f2 then (n : Int) - 9 * (Wn : Int) else f2) = k)
    (HP : Aside0 (Calls Try.prog 38 #[ptr c, .int .i64 (i : Int), .int .i64 (j : Int)] (w.alloc (.cells #[.int .i64 f0, .int .i64 1, .int .i64 f2] 42 (0, 0))) fun e w' => e = .returned (ptr g) ∧ w' = (w.alloc (.cells #[.int .i64 f0, .int .i64 1, .int .i64 f2] 42 (0, 0)))))
    (HC : Aside0 (Calls Try.prog 39 #[ptr g, .slice A n q, .int .i64 k] (w.alloc (.cells #[.int .i64 f0, .int .i64 1, .int .i64 f2] 42 (0, 0))).drew fun e w' => e = .returned (.int .i64 0) ∧ R w w' ∧ w'.cell? ⟨w.heap.size, 2, none⟩ = some (.int .i64 f2) ∧ w'.cell? ⟨p4, 0, none⟩ = some (.slice A n q) ∧ w'.cell? ⟨p1, 0, none⟩ = some (ptr c) ∧ w'.cell? ⟨c, 2, none⟩ = some (.int .i64 (Wn : Int)))) :
    Calls Try.prog 37 #[.agg #[.int .i64 f0, .int .i64 1, .int .i64 f2], ptr p1, ptr p2, ptr p3, ptr p4] w fun e w' => e = .returned (.int .i64 6) ∧ R w w' := by
  obtain ⟨h1, h2, h3, h4⟩ := hB
  have l1 := World.block_lt_of_cell? w _ h1
  have l2 := World.block_lt_of_cell? w _ h2
  have l3 := World.block_lt_of_cell? w _ h3
  have l4 := World.block_lt_of_cell? w _ h4
  have l5 := World.block_lt_of_cell? w _ hc
  have hw1 : IntKind.i64.wrap (9 * (Wn : Int)) = 9 * (Wn : Int) := wrap_i64_small _ (by omega) (by omega)
  have hw2 : IntKind.i64.wrap ((n : Int) - 9 * (Wn : Int)) = (n : Int) - 9 * (Wn : Int) := wrap_i64_small _ (by omega) (by omega)
  go_enter Try.func37, Try.ntmps37
  go_upto_region 4 with (first
    | (go_at_call 38; (refine HP.out.mono ?_); rintro e w2 ⟨rfl, hw⟩; obtain rfl := hw.symm))
  have z2 : (w.alloc (.cells #[.int .i64 f0, .int .i64 1, .int .i64 f2] 42 (0, 0))).cell? ⟨w.heap.size, 2, none⟩ = some (.int .i64 f2) := (blk_cell (blk_new w _) 2).trans rfl
  have hal := below_alloc (Below.refl w.heap.size w) (.cells #[.int .i64 f0, .int .i64 1, .int .i64 f2] 42 (0, 0))
  have z4 := (hal.cell (p := ⟨p4, 0, none⟩) l4).trans h4
  have z1 := (hal.cell (p := ⟨p1, 0, none⟩) l1).trans h1
  have zc := (hal.cell (p := ⟨c, 2, none⟩) l5).trans hc
  clear hal HP h1 h2 h3 h4 hc l1 l2 l3 l4 l5
  clear hn hn9 hW
  obtain ⟨W, hW2⟩ : ∃ W, (w.alloc (.cells #[.int .i64 f0, .int .i64 1, .int .i64 f2] 42 (0, 0))) = W := ⟨_, rfl⟩
  rw [hW2] at z1 z2 z4 zc HC ⊢
  clear hW2
  go_region_held3 (fun W' => W'.cell? ⟨w.heap.size, 2, none⟩ = some (.int .i64 f2) ∧ W'.cell? ⟨p4, 0, none⟩ = some (.slice A n q) ∧ W'.cell? ⟨p1, 0, none⟩ = some (ptr c) ∧ W'.cell? ⟨c, 2, none⟩ = some (.int .i64 (Wn : Int)))
    (first | go_keep | exact hk3 | fail)
    (first | (go_at_call 39; (refine HC.out.mono ?_); rintro e w3 ⟨rfl, HR, hk3⟩) | fail)
  go_wp2
  go_ret
  exact ⟨rfl, HR⟩
set_option maxHeartbeats 1600000 in
theorem doE1 (h : IsCh base w s) (hbase : base ≤ w.heap.size) (i : Nat) (hi : i < s.Bn) (p : Nat) (hp : w.cell? ⟨p, 0, none⟩ = some (ptr (s.bl i).q)) (hpo : s.own p = .out) (f0 f2 : Int) :
    Calls Try.prog 33 #[.agg #[.int .i64 f0, .int .i64 1, .int .i64 f2], ptr p] w fun e w' => e = .returned (.int .i64 7) ∧ Aside0 (IsCh base w' (setB s i { s.bl i with marked := (s.bl i).marked, broken := true, erases := (s.bl i).erases })) ∧ Aside0 (Fm base s.own w w') := by
  have hl := World.block_lt_of_cell? w _ hp
  have hal := below_alloc (Below.refl w.heap.size w) (.cells #[.int .i64 f0, .int .i64 1, .int .i64 f2] 42 (0, 0))
  have hI1 := h.below hal
  obtain ⟨b0, b1, b2, b3, bf⟩ := h.bcells i hi
  have hql : (s.bl i).q < w.heap.size := blk_lt (h.hb i hi)
  have hI2 : IsCh base ((w.alloc (.cells #[.int .i64 f0, .int .i64 1, .int .i64 f2] 42 (0, 0))).setCell ⟨(s.bl i).q, 2, none⟩ (.bool true)) (setB s i { s.bl i with marked := (s.bl i).marked, broken := true, erases := (s.bl i).erases }) :=
    hI1.blk i hi (s.bl i).marked true (s.bl i).erases (h.ber i hi) (Nat.le_of_eq (by simp [World.setCell])) (fun k _ hk => Below.heap_setCell _ ⟨(s.bl i).q, 2, none⟩ _ k hk) (blk_put (hI1.hb i hi) 2 _ rfl)
  have hF2 : Fm base s.own w ((w.alloc (.cells #[.int .i64 f0, .int .i64 1, .int .i64 f2] 42 (0, 0))).setCell ⟨(s.bl i).q, 2, none⟩ (.bool true)) :=
    (Fm.below hal hbase).put (p := ⟨(s.bl i).q, 2, none⟩) (by show s.own (s.bl i).q ≠ .out; rw [h.oq i hi]; intro e; cases e) (h.low _ (by rw [h.oq i hi]; intro e; cases e)) _
  rw [World.setCell_alloc_past _ _ _ _ hql] at hI2 hF2
  have HI2 := Aside0.mk hI2
  have HF2 := Aside0.mk hF2
  have hpc := h.pc i hi
  have hbn := h.bn
  have hqp : ¬ p = (s.bl i).q := fun e => by have := h.oq i hi; rw [← e, hpo] at this; cases this
  have hqp' : ¬ (s.bl i).q = p := fun e => hqp e.symm
  generalize setB s i { s.bl i with marked := (s.bl i).marked, broken := true, erases := (s.bl i).erases } = s2 at HI2 ⊢
  clear hI2 hF2 hal hI1
  generalize (s.bl i).q = q at *
  generalize (s.bl i).pa = pa at *
  generalize (s.bl i).cap = cap at *
  generalize (s.bl i).broken = bk at *
  generalize s.Pn = B at *
  clear h hbase hi hpo b1 b3
  go_enter Try.func33, Try.ntmps33
  go_wp2
  go_ret
  exact ⟨rfl, HI2, HF2⟩
set_option maxHeartbeats 1600000 in
theorem doM (h : IsCh base w s) (hbase : base ≤ w.heap.size) (i : Nat) (hi : i < s.Bn) (p : Nat) (hp : w.cell? ⟨p, 0, none⟩ = some (ptr (s.bl i).q)) (hpo : s.own p = .out) (f0 f1 f2 : Int) (hf1 : f1 ≠ 2) :
    Calls Try.prog 43 #[.agg #[.int .i64 f0, .int .i64 f1, .int .i64 f2], ptr p] w fun e w' => e = .returned (.int .i64 0) ∧ Aside0 (IsCh base w' (setB s i { s.bl i with marked := true, broken := (s.bl i).broken, erases := (s.bl i).erases })) ∧ Aside0 (Fm base s.own w w') := by
  have hl := World.block_lt_of_cell? w _ hp
  have hal := below_drew (below_alloc (Below.refl w.heap.size w) (.cells #[.int .i64 f0, .int .i64 f1, .int .i64 f2] 42 (0, 0)))
  have hI1 := h.below hal
  have hn := blk_new w (.cells #[.int .i64 f0, .int .i64 f1, .int .i64 f2] 42 (0, 0))
  obtain ⟨b0, b1, b2, b3, bf⟩ := h.bcells i hi
  have hql : (s.bl i).q < w.heap.size := blk_lt (h.hb i hi)
  have hI2 : IsCh base ((w.alloc (.cells #[.int .i64 f0, .int .i64 f1, .int .i64 f2] 42 (0, 0))).drew.setCell ⟨(s.bl i).q, 1, none⟩ (.bool true)) (setB s i { s.bl i with marked := true, broken := (s.bl i).broken, erases := (s.bl i).erases }) :=
    hI1.blk i hi true (s.bl i).broken (s.bl i).erases (h.ber i hi) (Nat.le_of_eq (by simp [World.setCell])) (fun k _ hk => Below.heap_setCell _ ⟨(s.bl i).q, 1, none⟩ _ k hk) (blk_put (hI1.hb i hi) 1 _ rfl)
  have hF2 : Fm base s.own w ((w.alloc (.cells #[.int .i64 f0, .int .i64 f1, .int .i64 f2] 42 (0, 0))).drew.setCell ⟨(s.bl i).q, 1, none⟩ (.bool true)) :=
    (Fm.below hal hbase).put (p := ⟨(s.bl i).q, 1, none⟩) (by show s.own (s.bl i).q ≠ .out; rw [h.oq i hi]; intro e; cases e) (h.low _ (by rw [h.oq i hi]; intro e; cases e)) _
  have HI2 := Aside0.mk hI2
  have HF2 := Aside0.mk hF2
  have hqp : ¬ p = (s.bl i).q := fun e => by have := h.oq i hi; rw [← e, hpo] at this; cases this
  have hqp' : ¬ (s.bl i).q = p := fun e => hqp e.symm
  have hal0 := below_alloc (Below.refl w.heap.size w) (.cells #[.int .i64 f0, .int .i64 f1, .int .i64 f2] 42 (0, 0))
  have hp2 := (hal0.cell (p := ⟨p, 0, none⟩) hl).trans hp
  have b12 := (hal0.cell (p := ⟨(s.bl i).q, 1, none⟩) hql).trans b1
  have b1f := blk_frozen (hal0.block _ hql |>.trans (h.hb i hi)) 1
  have bx : (w.alloc (.cells #[.int .i64 f0, .int .i64 f1, .int .i64 f2] 42 (0, 0))).cell? ⟨w.heap.size, 1, none⟩ = some (.int .i64 f1) := (blk_cell hn 1).trans rfl
  have hne : (f1 != 2) = true := bne_iff_ne.2 hf1
  generalize setB s i { s.bl i with marked := true, broken := (s.bl i).broken, erases := (s.bl i).erases } = s2 at HI2 ⊢
  clear hI2 hF2 hal hI1 hal0
  generalize (s.bl i).q = q at *
  generalize (s.bl i).marked = mk at *
  clear h hbase hi hpo b0 b1 b2 b3 bf hf1 hp hl hn hql
  go_enter Try.func43, Try.ntmps43
  go_upto_region 1 with (fail)
  obtain ⟨W, hW⟩ : ∃ W, (w.alloc (.cells #[.int .i64 f0, .int .i64 f1, .int .i64 f2] 42 (0, 0))) = W := ⟨_, rfl⟩
  rw [hW] at HI2 HF2 hp2 b12 b1f bx ⊢
  clear hW
  cases mk
  all_goals (
    go_region
    all_goals (
      go_wp2
      go_ret
      exact ⟨rfl, HI2, HF2⟩))
set_option maxHeartbeats 1600000 in
/-- Erase where no block is -/
theorem eraseToNil (c : Nat) (i : Int) (R : Ending → World → Prop) (HQ : Calls Try.prog 30 #[ptr c, .int .i64 i] w fun e w' => e = .returned (.pointer none) ∧ w' = w)
    (H : ∀ W4, Below w.heap.size w W4 → W4.heap[w.heap.size]? = some (.cells #[.pointer none] 68 (0, 0)) →
    Calls Try.prog 32 #[ptr c, .func (.func 31) #[] #[ptr w.heap.size], .func (.func 33) #[] #[ptr w.heap.size]] W4 fun e w' => (∃ m, e = .returned (.int .i64 m)) ∧ R e w') :
    Calls Try.prog 13 #[ptr c, .int .i64 i] w R := by
  have hb := below_alloc (Below.refl w.heap.size w) (.cells #[.pointer none] 68 (0, 0))
  have hn := blk_new w (.cells #[.pointer none] 68 (0, 0))
  have HH := Aside0.mk (H _ hb hn)
  have HHQ := Aside0.mk HQ
  clear H HQ hb hn
  go_enter Try.func13, Try.ntmps13
  go_wp2_with (first
    | (go_at_call 30; (refine HHQ.out.mono ?_); rintro e w2 ⟨rfl, hw⟩; obtain rfl := hw.symm)
    | (go_at_call 32; (refine HH.out.mono ?_); rintro e w3 ⟨⟨m, rfl⟩, HR⟩))
  exact HR
set_option maxHeartbeats 1600000 in
theorem markTo (c q : Nat) (i : Int) (R : Ending → World → Prop) (HQ : Calls Try.prog 30 #[ptr c, .int .i64 i] w fun e w' => e = .returned (ptr q) ∧ w' = w)
    (H : ∀ W4, Below w.heap.size w W4 → W4.heap[w.heap.size]? = some (.cells #[ptr q] 68 (0, 0)) → W4.heap[w.heap.size + 1]? = some (.cells #[.bool true] 4 (0, 0)) →
    Calls Try.prog 32 #[ptr c, .func (.func 55) #[] #[ptr (w.heap.size + 1)], .func (.func 43) #[] #[ptr w.heap.size]] W4 fun e w' => (∃ m, e = .returned (.int .i64 m)) ∧ R e w') :
    Calls Try.prog 20 #[ptr c, .int .i64 i] w R := by
  have hb := below_alloc (below_alloc (Below.refl w.heap.size w) (.cells #[ptr q] 68 (0, 0))) (.cells #[.bool true] 4 (0, 0))
  have hn := blk_alloc (blk_new w (.cells #[ptr q] 68 (0, 0))) (.cells #[.bool true] 4 (0, 0))
  have hn2 := blk_new (w.alloc (.cells #[ptr q] 68 (0, 0))) (.cells #[.bool true] 4 (0, 0))
  rw [World.size_alloc] at hn2
  have HH := Aside0.mk (H _ hb hn hn2)
  have HHQ := Aside0.mk HQ
  have HT := fun (W : World) => thereC true W
  clear H HQ hb hn hn2
  go_enter Try.func20, Try.ntmps20
  go_wp2_with (first
    | (go_at_call 30; (refine HHQ.out.mono ?_); rintro e w2 ⟨rfl, hw⟩; obtain rfl := hw.symm)
    | (go_at_call 40; (refine (HT _).mono ?_); rintro e w5 ⟨rfl, rfl⟩; simp only [World.size_alloc])
    | (go_at_call 32; (refine HH.out.mono ?_); rintro e w3 ⟨⟨m, rfl⟩, HR⟩))
  exact HR
theorem en43 (p1 : Nat) (v : Value) (W : World) : Sem.run Try.prog (callFunc 43 (#[v] ++ #[ptr p1])) W = .ok (.enter 43 (#[v] ++ #[ptr p1])) W := by kernel_rfl
theorem markYes (h : IsCh base w s) (hbase : base ≤ w.heap.size) (hd : s.dark = false) (ho : s.ops < 1000000) (i : Nat) (hi : i < s.Bn) (f : F) (ok : Bool) (hf : lookF s.F s.ops = (f, ok)) (hf2 : f.2.1 ≠ 2) :
    Calls Try.prog 20 #[ptr s.c, .int .i64 (i : Int)] w fun e w' => e = .returned (.int .i64 0) ∧ Aside0 (IsCh base w' (setB (tick s) i { s.bl i with marked := true, broken := (s.bl i).broken, erases := (s.bl i).erases })) ∧ Aside0 (Fm base s.own w w') := by
  refine markTo s.c (s.bl i).q i _ (blockC h i hi) (fun W4 hb4 hbox hbox2 => ?_)
  have hlow : base ≤ W4.heap.size := Nat.le_trans hbase hb4.size
  have hnew := h.new _ (Nat.le_refl w.heap.size)
  have hnew2 := h.new _ (Nat.le_succ w.heap.size)
  refine (operateYes (h.below hb4) hlow hd ho 55 43 _ _ f ok hf 0 (.inl rfl) (.inl hf2) (fun s2 => s2 = setB (tick s) i { s.bl i with marked := true, broken := (s.bl i).broken, erases := (s.bl i).erases }) (fun W => en55 _ W) (fun v W => en43 _ v W) (fun W hF hI => ?_) (fun W hF hI => ?_)).mono (fun e w' ⟨h1, s2, h2, h3, h4⟩ => ⟨⟨0, h1⟩, h1, h2 ▸ h3, ⟨(Fm.below hb4 hbase).trans h4.out⟩⟩)
  · exact there1 _ true 0 W ((blk_cell ((hF.out _ (blk_lt hbox2) hnew2).trans hbox2) 0).trans rfl) rfl
  · have hp := (blk_cell ((hF.out _ (blk_lt hbox) hnew).trans hbox) 0).trans rfl
    exact (doM hI (Nat.le_trans hlow hF.bel.size) i hi w.heap.size hp hnew f.1 f.2.1 f.2.2 hf2).mono fun e w' ⟨h1, h2, h3⟩ => ⟨h1, _, rfl, h2, h3⟩
theorem markDark (h : IsCh base w s) (hd : s.dark = true) (i : Nat) (hi : i < s.Bn) : Calls Try.prog 20 #[ptr s.c, .int .i64 (i : Int)] w fun e w' => e = .returned (.int .i64 8) ∧ Aside0 (Below w.heap.size w w') :=
  markTo s.c (s.bl i).q i _ (blockC h i hi) (fun W4 hb4 _ _ => (operateDark (h.below hb4) hd _ _).mono fun e w' ⟨h1, h2⟩ => ⟨⟨8, h1⟩, h1, ⟨below_step hb4 h2.out⟩⟩)
theorem eraseDark (h : IsCh base w s) (hd : s.dark = true) (i : Nat) (hi : i < s.Bn) : Calls Try.prog 13 #[ptr s.c, .int .i64 (i : Int)] w fun e w' => e = .returned (.int .i64 8) ∧ Aside0 (Below w.heap.size w w') :=
  eraseTo s.c (s.bl i).q i _ (blockC h i hi) (fun W4 hb4 _ => (operateDark (h.below hb4) hd _ _).mono fun e w' ⟨h1, h2⟩ => ⟨⟨8, h1⟩, h1, ⟨below_step hb4 h2.out⟩⟩)
theorem eraseDarkOut (h : IsCh base w s) (hd : s.dark = true) (i : Int) (hi : i < 0 ∨ (s.Bn : Int) ≤ i) : Calls Try.prog 13 #[ptr s.c, .int .i64 i] w fun e w' => e = .returned (.int .i64 8) ∧ Aside0 (Below w.heap.size w w') :=
  eraseToNil s.c i _ (blockOut h i hi) (fun W4 hb4 _ => (operateDark (h.below hb4) hd _ _).mono fun e w' ⟨h1, h2⟩ => ⟨⟨8, h1⟩, h1, ⟨below_step hb4 h2.out⟩⟩)
theorem progDark (h : IsCh base w s) (hd : s.dark = true) (i j : Nat) (A : Option Addr) (n q : Nat) : Calls Try.prog 14 #[ptr s.c, .int .i64 (i : Int), .int .i64 (j : Int), .slice A n q] w fun e w' => e = .returned (.int .i64 8) ∧ Aside0 (Below w.heap.size w w') :=
  progTo s.c i j A n q _ (fun W4 hb4 _ _ => (operateDark (h.below hb4) hd _ _).mono fun e w' ⟨h1, h2⟩ => ⟨⟨8, h1⟩, h1, ⟨below_step hb4 h2.out⟩⟩)
/-- an erase that fails -/
theorem eraseFail (h : IsCh base w s) (hbase : base ≤ w.heap.size) (hd : s.dark = false) (ho : s.ops < 1000000) (i : Nat) (hi : i < s.Bn) (hm : (s.bl i).marked = false) (hk : (s.bl i).broken = false) (f0 f2 : Int) (ok : Bool) (hf : lookF s.F s.ops = ((f0, 1, f2), ok)) :
    Calls Try.prog 13 #[ptr s.c, .int .i64 (i : Int)] w fun e w' => e = .returned (.int .i64 7) ∧ Aside0 (IsCh base w' (setB (tick s) i { s.bl i with marked := (s.bl i).marked, broken := true, erases := (s.bl i).erases })) ∧ Aside0 (Fm base s.own w w') := by
  refine eraseTo s.c (s.bl i).q i _ (blockC h i hi) (fun W4 hb4 hbox => ?_)
  have hlow : base ≤ W4.heap.size := Nat.le_trans hbase hb4.size
  have hnew := h.new _ (Nat.le_refl w.heap.size)
  refine (operateYes (h.below hb4) hlow hd ho 31 33 _ _ (f0, 1, f2) ok hf 7 (.inr (.inr rfl)) (.inr (by decide)) (fun s2 => s2 = setB (tick s) i { s.bl i with marked := (s.bl i).marked, broken := true, erases := (s.bl i).erases }) (fun W => en31 _ W) (fun v W => en33 _ v W) (fun W hF hI => ?_) (fun W hF hI => ?_)).mono (fun e w' ⟨h1, s2, h2, h3, h4⟩ => ⟨⟨7, h1⟩, h1, h2 ▸ h3, ⟨(Fm.below hb4 hbase).trans h4.out⟩⟩)
  · have hp := (blk_cell ((hF.out _ (blk_lt hbox) hnew).trans hbox) 0).trans rfl
    exact (mayE hI i hi w.heap.size hp 0 (by show (if (s.bl i).marked then (9 : Int) else if (s.bl i).broken then 7 else 0) = 0; rw [hm, hk]; rfl)).mono fun e w' ⟨h1, h2⟩ => ⟨h1, ⟨h2 ▸ Below.refl _ _⟩⟩
  · have hp := (blk_cell ((hF.out _ (blk_lt hbox) hnew).trans hbox) 0).trans rfl
    exact (doE1 hI (Nat.le_trans hlow hF.bel.size) i hi w.heap.size hp hnew f0 f2).mono fun e w' ⟨h1, h2, h3⟩ => ⟨h1, _, rfl, h2, h3⟩
/-- a program that the power leaves -/
theorem progCut (h : IsCh base w s) (hbase : base ≤ w.heap.size) (hd : s.dark = false) (ho : s.ops < 1000000) (i j : Nat) (hi : i < s.Bn) (hj : j < s.Pn) (A : Option Addr) (c : Nat) (hC : Kd.C (Kd.int .u16) w A xs.length xs) (hcl : xs.length ≤ c) (hx : ∀ y, y < xs.length → 0 ≤ xs.getD y 0 ∧ xs.getD y 0 < 1024) (hn : xs.length = s.n) (hap : ∀ ad, A = some ad → s.own ad.block = .out)
    (hr : Ord s i j) (hm : (s.bl i).marked = false) (hk : (s.bl i).broken = false) (f0 f2 : Int) (ok : Bool) (hf : lookF s.F s.ops = ((f0, 2, f2), ok)) (km : Nat) (st' : Int)
    (hkm : (if (if f2 < 0 then 0 else f2) ≤ (s.n : Int) then (if f2 < 0 then 0 else f2) else (s.n : Int)) = (km : Int)) (hst' : (if f2 ≤ 0 then 0 else if (s.n : Int) ≤ f2 then 1 else 2) = st') :
    Calls Try.prog 14 #[ptr s.c, .int .i64 (i : Int), .int .i64 (j : Int), .slice A xs.length c] w fun e w' => e = .returned (.int .i64 8) ∧
      ∃ own', Aside0 (IsCh base w' (setP { s with ops := s.ops + 1, refused := s.refused, dark := true } i j ⟨((s.bl i).pg j).g, ((s.bl i).pg j).b, progL ((s.bl i).pg j).P xs km, xs, st'⟩ own')) ∧ Aside0 (Fm base s.own w w') ∧ Aside0 (∀ k, k < w.heap.size → own' k = s.own k) := by
  have hbn := h.bn
  refine progTo s.c i j A xs.length c _ (fun W4 hb4 hbox h4 => ?_)
  have hlow : base ≤ W4.heap.size := Nat.le_trans hbase hb4.size
  refine (operateCut (h.below hb4) hlow hd ho 35 37 _ _ (f0, 2, f2) ok hf rfl (fun s2 => ∃ own', s2 = setP (tick s) i j ⟨((s.bl i).pg j).g, ((s.bl i).pg j).b, progL ((s.bl i).pg j).P xs km, xs, st'⟩ own' ∧ ∀ k, k < w.heap.size → own' k = s.own k) (fun s2 ⟨o2, e, _⟩ => by rw [e]; rfl) (fun W => en35 _ _ _ _ W) (fun v W => en37 _ _ _ _ v W) (fun W hF hI => ?_) (fun W hF hI => ?_)).mono (fun e w' hpost => ?_)
  · have hbx := hbox W (fun k hk1 hk2 => hF.out k (by omega) (h.new k hk1))
    refine mayP _ _ _ _ s.c i j A xs.length c hbx ⟨fitsC hI i j hi hj A c xs ?_ hcl (fun y hy => (hx y hy).2) hn 0 true ⟨fun _ => rfl, fun _ => hr⟩ (by show (if (s.bl i).marked then (9 : Int) else if true then (if (s.bl i).broken then 6 else 0) else 5) = 0; rw [hm, hk]; rfl)⟩
    exact C_blk hC (fun ad e => (hF.out _ (Nat.lt_of_lt_of_le (own_lt hC (by omega) e) hb4.size) (hap ad e)).trans (hb4.block _ (own_lt hC (by omega) e)))
  · have hbx := hbox W (fun k hk1 hk2 => hF.out k (by omega) (h.new k hk1))
    have hal := below_alloc (Below.refl W.heap.size W) (.cells #[.int .i64 f0, .int .i64 2, .int .i64 f2] 42 (0, 0))
    have hI2 := hI.below hal
    have hCW : Kd.C (Kd.int .u16) (W.alloc (.cells #[.int .i64 f0, .int .i64 2, .int .i64 f2] 42 (0, 0))) A xs.length xs := by
      refine C_blk hC (fun ad e => ?_)
      have hl := own_lt hC (by omega) e
      have hl4 := Nat.lt_of_lt_of_le hl hb4.size
      have hlW := Nat.lt_of_lt_of_le hl4 hF.bel.size
      exact (hal.block _ hlW).trans ((hF.out _ hl4 (hap ad e)).trans (hb4.block _ hl))
    have hsz : w.heap.size ≤ W.heap.size := Nat.le_trans hb4.size hF.bel.size
    refine (doP2 _ _ _ _ s.c ((s.bl i).pg j).g i j A xs.length c f0 f2 hbx (fun W w' => ∃ s2, (∃ own', s2 = setP (tick s) i j ⟨((s.bl i).pg j).g, ((s.bl i).pg j).b, progL ((s.bl i).pg j).P xs km, xs, st'⟩ own' ∧ ∀ k, k < w.heap.size → own' k = s.own k) ∧ Aside0 (IsCh base w' s2) ∧ Aside0 (Fm base s.own W w')) ⟨pageC hI2 i j hi hj⟩ ⟨?_⟩).mono (fun e w' hh => hh)
    refine (progCh hI2 (Nat.le_trans hlow (Nat.le_trans hF.bel.size hal.size)) i j hi hj (hr.1 j (Nat.le_refl _) hj) A c hCW hcl hn hx hap f2 km st' hkm hst').mono ?_
    rintro e w' ⟨rfl, own', h1, h2, h3⟩
    exact ⟨rfl, _, ⟨own', rfl, fun k hk => h3.out k (Nat.lt_of_lt_of_le hk (Nat.le_trans hsz hal.size))⟩, h1, ⟨(Fm.below hal (Nat.le_trans hlow hF.bel.size)).trans h2.out⟩⟩
  · obtain ⟨h1, s2, ⟨own', rfl, h2⟩, h3, h4⟩ := hpost
    exact ⟨⟨8, h1⟩, h1, own', h3, ⟨(Fm.below hb4 hbase).trans h4.out⟩, ⟨h2⟩⟩
/-- a program that fails -/
theorem progFail (h : IsCh base w s) (hbase : base ≤ w.heap.size) (hd : s.dark = false) (ho : s.ops < 1000000) (i j : Nat) (hi : i < s.Bn) (hj : j < s.Pn) (A : Option Addr) (c : Nat) (hC : Kd.C (Kd.int .u16) w A xs.length xs) (hcl : xs.length ≤ c) (hx : ∀ y, y < xs.length → 0 ≤ xs.getD y 0 ∧ xs.getD y 0 < 1024) (hn : xs.length = s.n) (hap : ∀ ad, A = some ad → s.own ad.block = .out)
    (hr : Ord s i j) (hm : (s.bl i).marked = false) (hk : (s.bl i).broken = false) (f0 f2 : Int) (ok : Bool) (hf : lookF s.F s.ops = ((f0, 1, f2), ok)) (y : Int) (hy : (if (s.n : Int) - 9 * (s.Wn : Int) < f2 then (s.n : Int) - 9 * (s.Wn : Int) else f2) = y) (km : Nat) (st' : Int)
    (hkm : (if (if y < 0 then 0 else y) ≤ (s.n : Int) then (if y < 0 then 0 else y) else (s.n : Int)) = (km : Int)) (hst' : (if y ≤ 0 then 0 else if (s.n : Int) ≤ y then 1 else 2) = st') :
    Calls Try.prog 14 #[ptr s.c, .int .i64 (i : Int), .int .i64 (j : Int), .slice A xs.length c] w fun e w' => e = .returned (.int .i64 6) ∧
      ∃ own', Aside0 (IsCh base w' (setP (tick s) i j ⟨((s.bl i).pg j).g, ((s.bl i).pg j).b, progL ((s.bl i).pg j).P xs km, xs, st'⟩ own')) ∧ Aside0 (Fm base s.own w w') ∧ Aside0 (∀ k, k < w.heap.size → own' k = s.own k) := by
  have hbn := h.bn
  have hnW : s.n = s.Wn * (s.Kn + 16) := h.n.symm
  have hn9 : 9 * s.Wn ≤ s.n := by rw [hnW, Nat.mul_comm]; exact Nat.mul_le_mul_left _ (by omega)
  refine progTo s.c i j A xs.length c _ (fun W4 hb4 hbox h4 => ?_)
  have hlow : base ≤ W4.heap.size := Nat.le_trans hbase hb4.size
  refine (operateYes (h.below hb4) hlow hd ho 35 37 _ _ (f0, 1, f2) ok hf 6 (.inr (.inl rfl)) (.inr (by decide)) (fun s2 => ∃ own', s2 = setP (tick s) i j ⟨((s.bl i).pg j).g, ((s.bl i).pg j).b, progL ((s.bl i).pg j).P xs km, xs, st'⟩ own' ∧ ∀ k, k < w.heap.size → own' k = s.own k) (fun W => en35 _ _ _ _ W) (fun v W => en37 _ _ _ _ v W) (fun W hF hI => ?_) (fun W hF hI => ?_)).mono (fun e w' hpost => ?_)
  · have hbx := hbox W (fun k hk1 hk2 => hF.out k (by omega) (h.new k hk1))
    refine mayP _ _ _ _ s.c i j A xs.length c hbx ⟨fitsC hI i j hi hj A c xs ?_ hcl (fun y hy => (hx y hy).2) hn 0 true ⟨fun _ => rfl, fun _ => hr⟩ (by show (if (s.bl i).marked then (9 : Int) else if true then (if (s.bl i).broken then 6 else 0) else 5) = 0; rw [hm, hk]; rfl)⟩
    exact C_blk hC (fun ad e => (hF.out _ (Nat.lt_of_lt_of_le (own_lt hC (by omega) e) hb4.size) (hap ad e)).trans (hb4.block _ (own_lt hC (by omega) e)))
  · have hbx := hbox W (fun k hk1 hk2 => hF.out k (by omega) (h.new k hk1))
    have hal := below_alloc (Below.refl W.heap.size W) (.cells #[.int .i64 f0, .int .i64 1, .int .i64 f2] 42 (0, 0))
    have hald := below_drew hal
    have hI2 := hI.below hal
    have hI3 := hI.below hald
    have hfb := blk_drew (blk_new W (.cells #[.int .i64 f0, .int .i64 1, .int .i64 f2] 42 (0, 0)))
    have hCW : Kd.C (Kd.int .u16) (W.alloc (.cells #[.int .i64 f0, .int .i64 1, .int .i64 f2] 42 (0, 0))).drew A xs.length xs := by
      refine C_blk hC (fun ad e => ?_)
      have hl := own_lt hC (by omega) e
      have hl4 := Nat.lt_of_lt_of_le hl hb4.size
      have hlW := Nat.lt_of_lt_of_le hl4 hF.bel.size
      exact (hald.block _ hlW).trans ((hF.out _ hl4 (hap ad e)).trans (hb4.block _ hl))
    have hsz : w.heap.size ≤ W.heap.size := Nat.le_trans hb4.size hF.bel.size
    have hWsz : W4.heap.size ≤ W.heap.size := hF.bel.size
    refine (doP1 _ _ _ _ s.c ((s.bl i).pg j).g s.Wn i j A xs.length c f0 f2 y hbx (fun W w' => ∃ s2, (∃ own', s2 = setP (tick s) i j ⟨((s.bl i).pg j).g, ((s.bl i).pg j).b, progL ((s.bl i).pg j).P xs km, xs, st'⟩ own' ∧ ∀ k, k < w.heap.size → own' k = s.own k) ∧ Aside0 (IsCh base w' s2) ∧ Aside0 (Fm base s.own W w')) hI.ccells.2.2.1 (by omega) (by omega) (by omega) (by rw [hn]; exact hy) ⟨pageC hI2 i j hi hj⟩ ⟨?_⟩).mono (fun e w' hh => hh)
    refine (progCh hI3 (Nat.le_trans hlow (Nat.le_trans hF.bel.size hald.size)) i j hi hj (hr.1 j (Nat.le_refl _) hj) A c hCW hcl hn hx hap y km st' hkm hst').mono ?_
    rintro e w' ⟨rfl, own', h1, h2, h3⟩
    have hFW : Fm base s.own W w' := (Fm.below hald (Nat.le_trans hlow hF.bel.size)).trans h2.out
    have hbx' := hbox w' (fun k hk1 hk2 => (hFW.out k (by omega) (h.new k hk1)).trans (hF.out k (by omega) (h.new k hk1)))
    exact ⟨rfl, ⟨_, ⟨own', rfl, fun k hk => h3.out k (Nat.lt_of_lt_of_le hk (Nat.le_trans hsz hald.size))⟩, h1, ⟨hFW⟩⟩, (blk_cell ((h2.out.out _ (blk_lt hfb) (hI.new _ (Nat.le_refl _))).trans hfb) 2).trans rfl, hbx'.2.2.2, hbx'.1, h1.out.ccells.2.2.1⟩
  · obtain ⟨h1, s2, ⟨own', rfl, h2⟩, h3, h4⟩ := hpost
    exact ⟨⟨6, h1⟩, h1, own', h3, ⟨(Fm.below hb4 hbase).trans h4.out⟩, ⟨h2⟩⟩
end
end Go.Proofs.Ytmddafefdleimaa.M
