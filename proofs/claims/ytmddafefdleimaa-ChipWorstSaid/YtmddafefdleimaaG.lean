/- A chip: what tells of it, what looks at it; by hand. -/
import Derived.Test.YtmddafefdleimaaN
namespace Go.Proofs.Ytmddafefdleimaa.M
open Go.RowKit Go.Proofs.YtmddafefdleimaaW.PrintWords Go.Proofs.YtmddafefdleimaaW.PrintLast Go.Proofs.YtmddafefdleimaaW.PrintMore Go.Proofs.Ytmddafefdleimaa.Rw Go.Proofs.Ytmddafefdleimaa.Fl Go.Maps
set_option linter.unusedVariables false
set_option linter.unusedSimpArgs false
section
variable {base : Nat} {w W W1 : World} {s : Ch}
theorem opsC (h : IsCh base w s) : Calls Try.prog 16 #[ptr s.c] w fun e w' => e = .returned (.int .i64 s.ops) ∧ w' = w := by
  obtain ⟨g0, g1, g2, g3, g4, g5, g6, g7, g8, gf⟩ := h.ccells
  generalize s.c = c at *
  generalize s.ops = o at *
  clear h g0 g1 g2 g3 g4 g5 g7 g8 gf
  go_enter Try.func16, Try.ntmps16
  go_wp2
  go_ret
  exact ⟨rfl, rfl⟩
theorem refusedC (h : IsCh base w s) : Calls Try.prog 15 #[ptr s.c] w fun e w' => e = .returned (.int .i64 s.refused) ∧ w' = w := by
  obtain ⟨g0, g1, g2, g3, g4, g5, g6, g7, g8, gf⟩ := h.ccells
  generalize s.c = c at *
  generalize s.refused = o at *
  clear h g0 g1 g2 g3 g4 g5 g6 g8 gf
  go_enter Try.func15, Try.ntmps15
  go_wp2
  go_ret
  exact ⟨rfl, rfl⟩
theorem powerC (h : IsCh base w s) : Calls Try.prog 22 #[ptr s.c] w fun e w' => e = .returned (.tuple #[]) ∧ Aside0 (IsCh base w' { s with ops := s.ops, refused := s.refused, dark := false }) ∧ Aside0 (Fm base s.own w w') := by
  obtain ⟨g0, g1, g2, g3, g4, g5, g6, g7, g8, gf⟩ := h.ccells
  have HI := Aside0.mk (h.put s.ops s.refused false ⟨h.bops.1, Int.le_refl _, h.bops.2⟩ h.bref 8 (.bool false) rfl)
  have HF := Aside0.mk (h.fmput (Fm.refl base s.own w) 8 (.bool false))
  generalize hc : s.c = c at g8 gf HI HF ⊢
  clear h g0 g1 g2 g3 g4 g5 g6 g7
  go_enter Try.func22, Try.ntmps22
  go_wp2
  go_end0
  exact ⟨rfl, HI, HF⟩
theorem brokenC (h : IsCh base w s) (i : Nat) (hi : i < s.Bn) : Calls Try.prog 19 #[ptr s.c, .int .i64 (i : Int)] w fun e w' => e = .returned (.bool (s.bl i).broken) ∧ w' = w := by
  have HB := Aside0.mk (blockC h i hi)
  obtain ⟨b0, b1, b2, b3, bf⟩ := h.bcells i hi
  generalize s.c = c at *
  generalize (s.bl i).q = q at *
  generalize (s.bl i).broken = o at *
  clear h b0 b1 b3 bf hi
  go_enter Try.func19, Try.ntmps19
  go_wp2_with (first | (go_at_call 30; (refine HB.out.mono ?_); rintro e w2 ⟨rfl, hw⟩; obtain rfl := hw.symm))
  go_ret
  exact ⟨rfl, rfl⟩
theorem erasesC (h : IsCh base w s) (i : Nat) (hi : i < s.Bn) : Calls Try.prog 23 #[ptr s.c, .int .i64 (i : Int)] w fun e w' => e = .returned (.int .i64 (s.bl i).erases) ∧ w' = w := by
  have HB := Aside0.mk (blockC h i hi)
  obtain ⟨b0, b1, b2, b3, bf⟩ := h.bcells i hi
  generalize s.c = c at *
  generalize (s.bl i).q = q at *
  generalize (s.bl i).erases = o at *
  clear h b0 b1 b2 bf hi
  go_enter Try.func23, Try.ntmps23
  go_wp2_with (first | (go_at_call 30; (refine HB.out.mono ?_); rintro e w2 ⟨rfl, hw⟩; obtain rfl := hw.symm))
  go_ret
  exact ⟨rfl, rfl⟩
theorem thereC (b : Bool) (w : World) : Calls Try.prog 40 #[.bool b] w fun e w' => e = .returned (.func (.func 55) #[] #[ptr w.heap.size]) ∧ w' = w.alloc (.cells #[.bool b] 4 (0, 0)) := by
  go_enter Try.func40, Try.ntmps40
  go_wp2
  go_ret
  exact ⟨rfl, rfl⟩
theorem there1 (p : Nat) (b : Bool) (m : Int) (w : World) (hp : w.cell? ⟨p, 0, none⟩ = some (.bool b)) (hm : (if b then 0 else 1) = m) : Calls Try.prog 55 #[ptr p] w fun e w' => e = .returned (.int .i64 m) ∧ Aside0 (Below w.heap.size w w') := by
  have HB := Aside0.mk (Below.refl w.heap.size w)
  cases b
  · simp at hm; subst hm
    go_enter Try.func55, Try.ntmps55
    go_wp2
    go_ret
    exact ⟨rfl, HB⟩
  · simp at hm; subst hm
    go_enter Try.func55, Try.ntmps55
    go_wp2
    go_ret
    exact ⟨rfl, HB⟩
theorem quiet44 (v : Value) (w : World) (hv : ∃ a b c, v = .agg #[.int .i64 a, .int .i64 b, .int .i64 c]) : Calls Try.prog 44 (#[v] ++ #[]) w fun e w' => e = .returned (.int .i64 0) ∧ Aside0 (Below w.heap.size w w') := by
  obtain ⟨a, b, c, rfl⟩ := hv
  have HB := Aside0.mk (below_alloc (Below.refl w.heap.size w) (.cells #[.int .i64 a, .int .i64 b, .int .i64 c] 42 (0, 0)))
  show Calls Try.prog 44 #[.agg #[.int .i64 a, .int .i64 b, .int .i64 c]] w _
  go_enter Try.func44, Try.ntmps44
  go_wp2
  go_ret
  exact ⟨rfl, HB⟩
theorem quiet41 (v : Value) (w : World) (hv : ∃ a b c, v = .agg #[.int .i64 a, .int .i64 b, .int .i64 c]) : Calls Try.prog 41 (#[v] ++ #[]) w fun e w' => e = .returned (.int .i64 0) ∧ Aside0 (Below w.heap.size w w') := by
  obtain ⟨a, b, c, rfl⟩ := hv
  have HB := Aside0.mk (below_alloc (Below.refl w.heap.size w) (.cells #[.int .i64 a, .int .i64 b, .int .i64 c] 42 (0, 0)))
  show Calls Try.prog 41 #[.agg #[.int .i64 a, .int .i64 b, .int .i64 c]] w _
  go_enter Try.func41, Try.ntmps41
  go_wp2
  go_ret
  exact ⟨rfl, HB⟩
theorem en55 (p1 : Nat) (W : World) : Sem.run Try.prog (callFunc 55 #[ptr p1]) W = .ok (.enter 55 #[ptr p1]) W := by kernel_rfl
theorem en44 (v : Value) (W : World) : Sem.run Try.prog (callFunc 44 (#[v] ++ #[])) W = .ok (.enter 44 (#[v] ++ #[])) W := by kernel_rfl
theorem en41 (v : Value) (W : World) : Sem.run Try.prog (callFunc 41 (#[v] ++ #[])) W = .ok (.enter 41 (#[v] ++ #[])) W := by kernel_rfl
/-- the world behind there(b) -/
abbrev thereW (w : World) (b : Bool) : World := w.alloc (.cells #[.bool b] 4 (0, 0))
/-- an operation that looks, with power -/
theorem lookYes (h : IsCh base w s) (hbase : base ≤ w.heap.size) (hd : s.dark = false) (ho : s.ops < 1000000) (f : F) (ok : Bool) (hf : lookF s.F s.ops = (f, ok)) (hf2 : f.2.1 ≠ 2) (k2 : Nat)
    (hk2 : ∀ v W, Sem.run Try.prog (callFunc k2 (#[v] ++ #[])) W = .ok (.enter k2 (#[v] ++ #[])) W)
    (H2 : ∀ v W, (∃ a b c, v = Value.agg #[.int .i64 a, .int .i64 b, .int .i64 c]) → Calls Try.prog k2 (#[v] ++ #[]) W fun e w' => e = .returned (.int .i64 0) ∧ Aside0 (Below W.heap.size W w')) :
    Calls Try.prog 32 #[ptr s.c, .func (.func 55) #[] #[ptr w.heap.size], .func (.func k2) #[] #[]] (thereW w true) fun e w' => e = .returned (.int .i64 0) ∧ Aside0 (IsCh base w' (tick s)) ∧ Aside0 (Fm base s.own w w') := by
  have hb := below_alloc (Below.refl w.heap.size w) (.cells #[.bool true] 4 (0, 0))
  have hn := blk_new w (.cells #[.bool true] 4 (0, 0))
  refine (operateYes (h.below hb) (Nat.le_trans hbase hb.size) hd ho 55 k2 _ _ f ok hf 0 (.inl rfl) (.inl hf2) (fun s2 => s2 = tick s) (fun W => en55 _ W) hk2 (fun W hF hI => ?_) (fun W hF hI => ?_)).mono ?_
  · exact there1 _ true 0 W ((blk_cell ((hF.out _ (blk_lt hn) (h.new _ (Nat.le_refl _))).trans hn) 0).trans rfl) rfl
  · exact (H2 _ W ⟨_, _, _, rfl⟩).mono fun e w' ⟨he, hB⟩ => ⟨he, _, rfl, ⟨hI.below hB.out⟩, ⟨Fm.below hB.out (Nat.le_trans hbase (Nat.le_trans hb.size hF.bel.size))⟩⟩
  · rintro e w' ⟨he, s2, rfl, h1, h2⟩
    exact ⟨he, h1, ⟨(Fm.below hb hbase).trans h2.out⟩⟩
/-- .. at a cut -/
theorem lookCut (h : IsCh base w s) (hbase : base ≤ w.heap.size) (hd : s.dark = false) (ho : s.ops < 1000000) (f : F) (ok : Bool) (hf : lookF s.F s.ops = (f, ok)) (hf2 : f.2.1 = 2) (k2 : Nat)
    (hk2 : ∀ v W, Sem.run Try.prog (callFunc k2 (#[v] ++ #[])) W = .ok (.enter k2 (#[v] ++ #[])) W)
    (H2 : ∀ v W, (∃ a b c, v = Value.agg #[.int .i64 a, .int .i64 b, .int .i64 c]) → Calls Try.prog k2 (#[v] ++ #[]) W fun e w' => e = .returned (.int .i64 0) ∧ Aside0 (Below W.heap.size W w')) :
    Calls Try.prog 32 #[ptr s.c, .func (.func 55) #[] #[ptr w.heap.size], .func (.func k2) #[] #[]] (thereW w true) fun e w' => e = .returned (.int .i64 8) ∧ Aside0 (IsCh base w' { s with ops := s.ops + 1, refused := s.refused, dark := true }) ∧ Aside0 (Fm base s.own w w') := by
  have hb := below_alloc (Below.refl w.heap.size w) (.cells #[.bool true] 4 (0, 0))
  have hn := blk_new w (.cells #[.bool true] 4 (0, 0))
  refine (operateCut (h.below hb) (Nat.le_trans hbase hb.size) hd ho 55 k2 _ _ f ok hf hf2 (fun s2 => s2 = tick s) (fun s2 e => by rw [e]) (fun W => en55 _ W) hk2 (fun W hF hI => ?_) (fun W hF hI => ?_)).mono ?_
  · exact there1 _ true 0 W ((blk_cell ((hF.out _ (blk_lt hn) (h.new _ (Nat.le_refl _))).trans hn) 0).trans rfl) rfl
  · exact (H2 _ W ⟨_, _, _, rfl⟩).mono fun e w' ⟨he, hB⟩ => ⟨he, _, rfl, ⟨hI.below hB.out⟩, ⟨Fm.below hB.out (Nat.le_trans hbase (Nat.le_trans hb.size hF.bel.size))⟩⟩
  · rintro e w' ⟨he, s2, rfl, h1, h2⟩
    exact ⟨he, h1, ⟨(Fm.below hb hbase).trans h2.out⟩⟩
/-- .. where nothing is -/
theorem lookNo (h : IsCh base w s) (hbase : base ≤ w.heap.size) (hd : s.dark = false) (ho : s.ops < 1000000) (k2 : Nat) (c2 : Array Value) :
    Calls Try.prog 32 #[ptr s.c, .func (.func 55) #[] #[ptr w.heap.size], .func (.func k2) #[] c2] (thereW w false) fun e w' => e = .returned (.int .i64 1) ∧ Aside0 (IsCh base w' { s with ops := s.ops + 1, refused := s.refused + 1, dark := s.dark }) ∧ Aside0 (Fm base s.own w w') := by
  have hb := below_alloc (Below.refl w.heap.size w) (.cells #[.bool false] 4 (0, 0))
  have hn := blk_new w (.cells #[.bool false] 4 (0, 0))
  refine (operateNo (h.below hb) (Nat.le_trans hbase hb.size) hd ho 55 k2 _ _ 1 (by decide) (fun W => en55 _ W) (fun W hF hI => ?_)).mono ?_
  · exact there1 _ false 1 W ((blk_cell ((hF.out _ (blk_lt hn) (h.new _ (Nat.le_refl _))).trans hn) 0).trans rfl) rfl
  · rintro e w' ⟨he, h1, h2⟩
    exact ⟨he, ⟨h1.out⟩, ⟨(Fm.below hb hbase).trans h2.out⟩⟩
/-- .. without power -/
theorem lookDark (h : IsCh base w s) (hd : s.dark = true) (b : Bool) (v1 v2 : Value) :
    Calls Try.prog 32 #[ptr s.c, v1, v2] (thereW w b) fun e w' => e = .returned (.int .i64 8) ∧ Aside0 (Below w.heap.size w w') := by
  have hb := below_alloc (Below.refl w.heap.size w) (.cells #[.bool b] 4 (0, 0))
  exact (operateDark (h.below hb) hd v1 v2).mono fun e w' ⟨he, h1⟩ => ⟨he, ⟨below_step hb h1.out⟩⟩
set_option maxHeartbeats 1600000 in
theorem markedYes (h : IsCh base w s) (hbase : base ≤ w.heap.size) (hd : s.dark = false) (ho : s.ops < 1000000) (f : F) (ok : Bool) (hf : lookF s.F s.ops = (f, ok)) (hf2 : f.2.1 ≠ 2) (i : Nat) (hi : i < s.Bn) :
    Calls Try.prog 21 #[ptr s.c, .int .i64 (i : Int)] w fun e w' => e = .returned (.tuple #[.bool (s.bl i).marked, .int .i64 0]) ∧ Aside0 (IsCh base w' (tick s)) ∧ Aside0 (Fm base s.own w w') := by
  have HB := Aside0.mk (blockC h i hi)
  have HL := Aside0.mk (lookYes h hbase hd ho f ok hf hf2 44 en44 quiet44)
  have HQ := Aside0.mk (fun W' (hI : IsCh base W' (tick s)) => (hI.bcells i hi).2.1)
  unfold thereW at HL
  generalize hc : s.c = c at HB HL ⊢
  dsimp only at HQ
  generalize (s.bl i).q = q at HB HQ ⊢
  generalize (s.bl i).marked = mk at HQ ⊢
  clear h hbase hd ho hf hf2 hi hc
  go_enter Try.func21, Try.ntmps21
  go_wp2_with (first
    | (go_at_call 30; (refine HB.out.mono ?_); rintro e w2 ⟨rfl, hw⟩; obtain rfl := hw.symm)
    | (go_at_call 40; (refine (thereC true _).mono ?_); rintro e w3 ⟨rfl, rfl⟩)
    | (go_at_call 32; (refine HL.out.mono ?_); rintro e w4 ⟨rfl, HI, HF⟩; have hq := HQ.out _ HI.out))
  go_ret2
  exact ⟨rfl, HI, HF⟩
set_option maxHeartbeats 1600000 in
theorem markedDark (h : IsCh base w s) (hd : s.dark = true) (i : Nat) (hi : i < s.Bn) :
    Calls Try.prog 21 #[ptr s.c, .int .i64 (i : Int)] w fun e w' => e = .returned (.tuple #[.bool false, .int .i64 8]) ∧ Aside0 (Below w.heap.size w w') := by
  have HB := Aside0.mk (blockC h i hi)
  have HL := Aside0.mk (fun v1 v2 => lookDark h hd true v1 v2)
  unfold thereW at HL
  generalize hc : s.c = c at HB HL ⊢
  generalize (s.bl i).q = q at HB ⊢
  clear h hd hi hc
  go_enter Try.func21, Try.ntmps21
  go_wp2_with (first
    | (go_at_call 30; (refine HB.out.mono ?_); rintro e w2 ⟨rfl, hw⟩; obtain rfl := hw.symm)
    | (go_at_call 40; (refine (thereC true _).mono ?_); rintro e w3 ⟨rfl, rfl⟩)
    | (go_at_call 32; (refine (HL.out _ _).mono ?_); rintro e w4 ⟨rfl, HI⟩))
  go_ret2
  exact ⟨rfl, HI⟩
set_option maxHeartbeats 1600000 in
theorem senseYes (h : IsCh base w s) (hbase : base ≤ w.heap.size) (hd : s.dark = false) (ho : s.ops < 1000000) (f : F) (ok : Bool) (hf : lookF s.F s.ops = (f, ok)) (hf2 : f.2.1 ≠ 2) (i j : Nat) (hi : i < s.Bn) (hj : j < s.Pn) :
    Calls Try.prog 17 #[ptr s.c, .int .i64 (i : Int), .int .i64 (j : Int)] w fun e w' => ∃ q c, e = .returned (.tuple #[.slice (some ⟨q, 0, none⟩) s.n c, .int .i64 0]) ∧ s.n ≤ c ∧ Aside0 (s.own q = .out) ∧ Aside0 (w.heap.size ≤ q) ∧ Aside0 (Vec w' q ((s.bl i).pg j).P) ∧ Aside0 (IsCh base w' (tick s)) ∧ Aside0 (Fm base s.own w w') := by
  have HB := Aside0.mk (pageC h i j hi hj)
  have HL := Aside0.mk (lookYes h hbase hd ho f ok hf hf2 41 en41 quiet41)
  have HS := Aside0.mk (fun W' (hI : IsCh base W' (tick s)) => senseC (hI.pg i j hi hj).is.choose_spec.1 (by rw [(hI.pg i j hi hj).len]; exact Nat.lt_of_lt_of_le (by decide) h.bn.2.2.2.2.2.2.2.2.1))
  have HLen : Aside0 (((s.bl i).pg j).P.length = s.n) := ⟨(h.pg i j hi hj).len⟩
  have HNew := Aside0.mk h.new
  have HBase := Aside0.mk hbase
  unfold thereW at HL
  generalize hc : s.c = c at HB HL ⊢
  dsimp only at HS
  generalize ((s.bl i).pg j).g = g at HB HS ⊢
  generalize ((s.bl i).pg j).P = P at HLen HS ⊢
  generalize hn : s.n = n at HLen ⊢
  clear h hd ho hf hf2 hi hj hc hbase hn
  obtain ⟨rfl⟩ := HLen
  go_enter Try.func17, Try.ntmps17
  go_wp2_with (first
    | (go_at_call 38; (refine HB.out.mono ?_); rintro e w2 ⟨rfl, hw⟩; obtain rfl := hw.symm)
    | (go_at_call 40; (refine (thereC true _).mono ?_); rintro e w3 ⟨rfl, rfl⟩)
    | (go_at_call 32; (refine HL.out.mono ?_); rintro e w4 ⟨rfl, HI, HF⟩; have HSS := Aside0.mk (HS.out _ HI.out); have HFz := HF.out.bel.size)
    | (go_at_call 42; (refine HSS.out.mono ?_); rintro e w5 ⟨q, c5, rfl, hc5, hq5, HV, HB5⟩))
  go_ret2
  exact ⟨q, c5, rfl, hc5, ⟨HNew.out _ (Nat.le_trans HFz hq5)⟩, ⟨Nat.le_trans HFz hq5⟩, HV, ⟨HI.out.below HB5.out⟩, ⟨HF.out.trans (Fm.below HB5.out (Nat.le_trans HBase.out HFz))⟩⟩
set_option maxHeartbeats 1600000 in
theorem senseDark (h : IsCh base w s) (hd : s.dark = true) (i j : Nat) (hi : i < s.Bn) (hj : j < s.Pn) :
    Calls Try.prog 17 #[ptr s.c, .int .i64 (i : Int), .int .i64 (j : Int)] w fun e w' => e = .returned (.tuple #[.slice none 0 0, .int .i64 8]) ∧ Aside0 (Below w.heap.size w w') := by
  have HB := Aside0.mk (pageC h i j hi hj)
  have HL := Aside0.mk (fun v1 v2 => lookDark h hd true v1 v2)
  unfold thereW at HL
  generalize hc : s.c = c at HB HL ⊢
  generalize ((s.bl i).pg j).g = g at HB ⊢
  clear h hd hi hj hc
  go_enter Try.func17, Try.ntmps17
  go_wp2_with (first
    | (go_at_call 38; (refine HB.out.mono ?_); rintro e w2 ⟨rfl, hw⟩; obtain rfl := hw.symm)
    | (go_at_call 40; (refine (thereC true _).mono ?_); rintro e w3 ⟨rfl, rfl⟩)
    | (go_at_call 32; (refine (HL.out _ _).mono ?_); rintro e w4 ⟨rfl, HI⟩))
  go_ret2
  exact ⟨rfl, HI⟩
set_option maxHeartbeats 1600000 in
theorem senseCut (h : IsCh base w s) (hbase : base ≤ w.heap.size) (hd : s.dark = false) (ho : s.ops < 1000000) (f : F) (ok : Bool) (hf : lookF s.F s.ops = (f, ok)) (hf2 : f.2.1 = 2) (i j : Nat) (hi : i < s.Bn) (hj : j < s.Pn) :
    Calls Try.prog 17 #[ptr s.c, .int .i64 (i : Int), .int .i64 (j : Int)] w fun e w' => e = .returned (.tuple #[.slice none 0 0, .int .i64 8]) ∧ Aside0 (IsCh base w' { s with ops := s.ops + 1, refused := s.refused, dark := true }) ∧ Aside0 (Fm base s.own w w') := by
  have HB := Aside0.mk (pageC h i j hi hj)
  have HL := Aside0.mk (lookCut h hbase hd ho f ok hf hf2 41 en41 quiet41)
  unfold thereW at HL
  generalize hc : s.c = c at HB HL ⊢
  generalize ((s.bl i).pg j).g = g at HB ⊢
  clear h hd ho hf hf2 hi hj hc hbase
  go_enter Try.func17, Try.ntmps17
  go_wp2_with (first
    | (go_at_call 38; (refine HB.out.mono ?_); rintro e w2 ⟨rfl, hw⟩; obtain rfl := hw.symm)
    | (go_at_call 40; (refine (thereC true _).mono ?_); rintro e w3 ⟨rfl, rfl⟩)
    | (go_at_call 32; (refine HL.out.mono ?_); rintro e w4 ⟨rfl, HI, HF⟩))
  go_ret2
  exact ⟨rfl, HI, HF⟩
set_option maxHeartbeats 1600000 in
theorem senseOut (h : IsCh base w s) (hbase : base ≤ w.heap.size) (hd : s.dark = false) (ho : s.ops < 1000000) (i j : Int) (hi : i < 0 ∨ (s.Bn : Int) ≤ i) :
    Calls Try.prog 17 #[ptr s.c, .int .i64 i, .int .i64 j] w fun e w' => e = .returned (.tuple #[.slice none 0 0, .int .i64 1]) ∧ Aside0 (IsCh base w' { s with ops := s.ops + 1, refused := s.refused + 1, dark := s.dark }) ∧ Aside0 (Fm base s.own w w') := by
  have HB := Aside0.mk (pageOut h i j hi)
  have HL := Aside0.mk (fun k2 c2 => lookNo h hbase hd ho k2 c2)
  unfold thereW at HL
  generalize hc : s.c = c at HB HL ⊢
  clear h hd ho hi hc hbase
  go_enter Try.func17, Try.ntmps17
  go_wp2_with (first
    | (go_at_call 38; (refine HB.out.mono ?_); rintro e w2 ⟨rfl, hw⟩; obtain rfl := hw.symm)
    | (go_at_call 40; (refine (thereC false _).mono ?_); rintro e w3 ⟨rfl, rfl⟩)
    | (go_at_call 32; (refine (HL.out _ _).mono ?_); rintro e w4 ⟨rfl, HI, HF⟩))
  go_ret2
  exact ⟨rfl, HI, HF⟩
end
end Go.Proofs.Ytmddafefdleimaa.M
