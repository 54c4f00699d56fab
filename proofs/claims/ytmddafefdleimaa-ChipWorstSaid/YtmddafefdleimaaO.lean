/- A chip: Program, Erase; by hand. -/
import Derived.Test.YtmddafefdleimaaL
namespace Go.Proofs.Ytmddafefdleimaa.M
open Go.RowKit Go.Proofs.YtmddafefdleimaaW.PrintWords Go.Proofs.YtmddafefdleimaaW.PrintLast Go.Proofs.YtmddafefdleimaaW.PrintMore Go.Proofs.Ytmddafefdleimaa.Rw Go.Proofs.Ytmddafefdleimaa.Fl Go.Maps
set_option linter.unusedVariables false
set_option linter.unusedSimpArgs false
section
variable {base : Nat} {w W W1 : World} {s : Ch} {xs : List Int}
/-- a page is programmed -/
theorem progCh (h : IsCh base w s) (hbase : base ≤ w.heap.size) (i j : Nat) (hi : i < s.Bn) (hj : j < s.Pn) (hst : ((s.bl i).pg j).st = 0) (A : Option Addr) (c : Nat) (hC : Kd.C (Kd.int .u16) w A xs.length xs) (hcl : xs.length ≤ c) (hn : xs.length = s.n)
    (hx : ∀ y, y < xs.length → 0 ≤ xs.getD y 0 ∧ xs.getD y 0 < 1024) (hap : ∀ ad, A = some ad → s.own ad.block = .out) (keep : Int) (km : Nat) (st' : Int)
    (hkm : (if (if keep < 0 then 0 else keep) ≤ (s.n : Int) then (if keep < 0 then 0 else keep) else (s.n : Int)) = (km : Int)) (hst' : (if keep ≤ 0 then 0 else if (s.n : Int) ≤ keep then 1 else 2) = st') :
    Calls Try.prog 39 #[ptr ((s.bl i).pg j).g, .slice A xs.length c, .int .i64 keep] w fun e w' => e = .returned (.int .i64 0) ∧
      ∃ own', Aside0 (IsCh base w' (setP s i j ⟨((s.bl i).pg j).g, ((s.bl i).pg j).b, progL ((s.bl i).pg j).P xs km, xs, st'⟩ own')) ∧ Aside0 (Fm base s.own w w') ∧ Aside0 (∀ k, k < w.heap.size → own' k = s.own k) := by
  obtain ⟨⟨sv, hI, hsv⟩, hlen, og, ob⟩ := h.pg i j hi hj
  have hb := h.bn
  rw [hst] at hI
  refine (progOK hI A c hC hcl (hn.trans hlen.symm) (by omega) hx (fun ad e => ⟨fun e2 => ?_, fun e2 => ?_⟩) keep km (by rw [hlen]; exact hkm)).mono ?_
  · have := hap ad e; rw [e2, ob] at this; cases this
  · have := hap ad e; rw [e2, og] at this; cases this
  · rintro e w' ⟨rfl, ⟨sv', hI'⟩, hB, hF, hQ⟩
    refine ⟨rfl, fun k => if w.heap.size ≤ k ∧ k < w'.heap.size then .page i j else s.own k, ⟨?_⟩, ⟨⟨hB.out, fun k hk ho => hF.out k hk (fun e => ?_) (fun e => ?_)⟩⟩, ⟨fun k hk => if_neg (fun hh => by omega)⟩⟩
    · rw [hlen, hst'] at hI'
      refine h.page i j hi hj _ _ rfl rfl hB.out.size (fun k hk h1 h2 => hF.out k (h.lt hk) h1 h2) (fun k hk => if_neg (fun hh => by omega)) (fun k hk => by

        rw [if_neg (fun hh => by omega)]
        exact h.new k (Nat.le_trans hB.out.size hk)) hbase ⟨sv', hI'.out, fun k hk => ?_⟩ ?_
      · have h1 : w.heap.size ≤ k := by
          rcases Nat.lt_or_ge k w.heap.size with h1 | h1
          · exact absurd hk (hQ.out k h1 _ _ _ hI'.out.hg)
          · exact h1
        have h2 : k < w'.heap.size := by
          rcases hI'.out.sv with q | ⟨_, _, q⟩
          · rw [q.2] at hk; cases hk
          · exact Kd.R_lt q k hk
        exact if_pos ⟨h1, h2⟩
      · show (progL _ _ _).length = s.n
        have hk2 : km ≤ s.n := by split at hkm <;> omega
        rw [progL_len (hn.trans hlen.symm) (by rw [hlen]; exact hk2)]; exact hlen
    · rw [e, og] at ho; cases ho
    · rw [e, ob] at ho; cases ho
/-- .. erased -/
theorem eraseCh (h : IsCh base w s) (hbase : base ≤ w.heap.size) (i j : Nat) (hi : i < s.Bn) (hj : j < s.Pn) :
    Calls Try.prog 34 #[ptr ((s.bl i).pg j).g] w fun e w' => e = .returned (.tuple #[]) ∧ Aside0 (IsCh base w' (setP s i j ⟨((s.bl i).pg j).g, ((s.bl i).pg j).b, List.replicate s.n (0, 0), [], 0⟩ s.own)) ∧ Aside0 (Fm base s.own w w') := by
  obtain ⟨⟨sv, hI, hsv⟩, hlen, og, ob⟩ := h.pg i j hi hj
  have hb := h.bn
  refine (eraseC hI (by omega)).mono ?_
  rintro e w' ⟨rfl, hI', hB, hF⟩
  refine ⟨rfl, ⟨?_⟩, ⟨⟨hB.out, fun k hk ho => hF.out k hk (fun e => ?_) (fun e => ?_)⟩⟩⟩
  · rw [hlen] at hI'
    exact h.page i j hi hj _ _ rfl rfl hB.out.size (fun k hk h1 h2 => hF.out k (h.lt hk) h1 h2) (fun k hk => rfl) (fun k hk => h.new k (Nat.le_trans hB.out.size hk)) hbase ⟨_, hI'.out, fun k hk => by cases hk⟩ (List.length_replicate ..)
  · rw [e, og] at ho; cases ho
  · rw [e, ob] at ho; cases ho
/-- the boxes of Program -/
def Boxes (W : World) (p1 p2 p3 p4 : Nat) (c : Nat) (i j : Nat) (v : Value) : Prop :=
  W.cell? ⟨p1, 0, none⟩ = some (ptr c) ∧ W.cell? ⟨p2, 0, none⟩ = some (.int .i64 (i : Int)) ∧ W.cell? ⟨p3, 0, none⟩ = some (.int .i64 (j : Int)) ∧ W.cell? ⟨p4, 0, none⟩ = some v
set_option maxHeartbeats 1600000 in
theorem mayP {m : Int} (p1 p2 p3 p4 c : Nat) (i j : Nat) (A : Option Addr) (n q : Nat) (hB : Boxes w p1 p2 p3 p4 c i j (.slice A n q))
    (HF : Aside0 (Calls Try.prog 36 #[ptr c, .int .i64 (i : Int), .int .i64 (j : Int), .slice A n q] w fun e w' => e = .returned (.int .i64 m) ∧ Aside0 (Below w.heap.size w w'))) :
    Calls Try.prog 35 #[ptr p1, ptr p2, ptr p3, ptr p4] w fun e w' => e = .returned (.int .i64 m) ∧ Aside0 (Below w.heap.size w w') := by
  obtain ⟨h1, h2, h3, h4⟩ := hB
  go_enter Try.func35, Try.ntmps35
  go_wp2_with (first | (go_at_call 36; (refine HF.out.mono ?_); rintro e w2 ⟨rfl, HB2⟩))
  go_ret
  exact ⟨rfl, HB2⟩
set_option maxHeartbeats 1600000 in
theorem doP0 (p1 p2 p3 p4 c g : Nat) (i j : Nat) (A : Option Addr) (n q : Nat) (f0 f2 : Int) (hB : Boxes w p1 p2 p3 p4 c i j (.slice A n q)) (R : World → World → Prop)
    (HP : Aside0 (Calls Try.prog 38 #[ptr c, .int .i64 (i : Int), .int .i64 (j : Int)] (w.alloc (.cells #[.int .i64 f0, .int .i64 0, .int .i64 f2] 42 (0, 0))) fun e w' => e = .returned (ptr g) ∧ w' = (w.alloc (.cells #[.int .i64 f0, .int .i64 0, .int .i64 f2] 42 (0, 0)))))
    (HC : Aside0 (Calls Try.prog 39 #[ptr g, .slice A n q, .int .i64 (n : Int)] (w.alloc (.cells #[.int .i64 f0, .int .i64 0, .int .i64 f2] 42 (0, 0))) fun e w' => e = .returned (.int .i64 0) ∧ R w w')) :
    Calls Try.prog 37 #[.agg #[.int .i64 f0, .int .i64 0, .int .i64 f2], ptr p1, ptr p2, ptr p3, ptr p4] w fun e w' => e = .returned (.int .i64 0) ∧ R w w' := by
  obtain ⟨h1, h2, h3, h4⟩ := hB
  have l1 := World.block_lt_of_cell? w _ h1
  have l2 := World.block_lt_of_cell? w _ h2
  have l3 := World.block_lt_of_cell? w _ h3
  have l4 := World.block_lt_of_cell? w _ h4
  go_enter Try.func37, Try.ntmps37
  go_wp2_with (first
    | (go_at_call 38; (refine HP.out.mono ?_); rintro e w2 ⟨rfl, hw⟩; obtain rfl := hw.symm)
    | (go_at_call 39; (refine HC.out.mono ?_); rintro e w3 ⟨rfl, HR⟩))
  go_ret
  exact ⟨rfl, HR⟩
theorem en35 (p1 p2 p3 p4 : Nat) (W : World) : Sem.run Try.prog (callFunc 35 #[ptr p1, ptr p2, ptr p3, ptr p4]) W = .ok (.enter 35 #[ptr p1, ptr p2, ptr p3, ptr p4]) W := by kernel_rfl
theorem en37 (p1 p2 p3 p4 : Nat) (v : Value) (W : World) : Sem.run Try.prog (callFunc 37 (#[v] ++ #[ptr p1, ptr p2, ptr p3, ptr p4])) W = .ok (.enter 37 (#[v] ++ #[ptr p1, ptr p2, ptr p3, ptr p4])) W := by kernel_rfl
theorem en31 (p1 : Nat) (W : World) : Sem.run Try.prog (callFunc 31 #[ptr p1]) W = .ok (.enter 31 #[ptr p1]) W := by kernel_rfl
theorem en33 (p1 : Nat) (v : Value) (W : World) : Sem.run Try.prog (callFunc 33 (#[v] ++ #[ptr p1])) W = .ok (.enter 33 (#[v] ++ #[ptr p1])) W := by kernel_rfl
/-- the four boxes as Program lays them -/
theorem four_boxes (w : World) (c : Nat) (i j : Nat) (v : Value) : ∃ W4, W4 = (((w.alloc (.cells #[ptr c] 28 (0, 0))).alloc (.cells #[.int .i64 (i : Int)] 3 (0, 0))).alloc (.cells #[.int .i64 (j : Int)] 3 (0, 0))).alloc (.cells #[v] 32 (0, 0)) ∧ Below w.heap.size w W4 ∧
    W4.heap[w.heap.size]? = some (.cells #[ptr c] 28 (0, 0)) ∧ W4.heap[w.heap.size + 1]? = some (.cells #[.int .i64 (i : Int)] 3 (0, 0)) ∧ W4.heap[w.heap.size + 2]? = some (.cells #[.int .i64 (j : Int)] 3 (0, 0)) ∧ W4.heap[w.heap.size + 3]? = some (.cells #[v] 32 (0, 0)) := by
  refine ⟨_, rfl, below_alloc (below_alloc (below_alloc (below_alloc (Below.refl _ _) _) _) _) _, ?_, ?_, ?_, ?_⟩
  · exact blk_alloc (blk_alloc (blk_alloc (blk_new w _) _) _) _
  · have h := blk_new (w.alloc (.cells #[ptr c] 28 (0, 0))) (.cells #[.int .i64 (i : Int)] 3 (0, 0))
    rw [World.size_alloc] at h
    exact blk_alloc (blk_alloc h _) _
  · have h := blk_new ((w.alloc (.cells #[ptr c] 28 (0, 0))).alloc (.cells #[.int .i64 (i : Int)] 3 (0, 0))) (.cells #[.int .i64 (j : Int)] 3 (0, 0))
    rw [World.size_alloc, World.size_alloc] at h
    exact blk_alloc h _
  · have h := blk_new (((w.alloc (.cells #[ptr c] 28 (0, 0))).alloc (.cells #[.int .i64 (i : Int)] 3 (0, 0))).alloc (.cells #[.int .i64 (j : Int)] 3 (0, 0))) (.cells #[v] 32 (0, 0))
    rw [World.size_alloc, World.size_alloc, World.size_alloc] at h
    exact h
theorem Boxes.of {w W : World} {q c i j : Nat} {v : Value} (h1 : W.heap[q]? = some (.cells #[ptr c] 28 (0, 0))) (h2 : W.heap[q + 1]? = some (.cells #[.int .i64 (i : Int)] 3 (0, 0))) (h3 : W.heap[q + 2]? = some (.cells #[.int .i64 (j : Int)] 3 (0, 0))) (h4 : W.heap[q + 3]? = some (.cells #[v] 32 (0, 0))) : Boxes W q (q + 1) (q + 2) (q + 3) c i j v :=
  ⟨(blk_cell h1 0).trans rfl, (blk_cell h2 0).trans rfl, (blk_cell h3 0).trans rfl, (blk_cell h4 0).trans rfl⟩
/-- Program walks to operate -/
theorem progTo (c i j : Nat) (A : Option Addr) (n q : Nat) (R : Ending → World → Prop) (H : ∀ W4, Below w.heap.size w W4 → (∀ W, (∀ k, w.heap.size ≤ k → k < w.heap.size + 4 → W.heap[k]? = W4.heap[k]?) → Boxes W w.heap.size (w.heap.size + 1) (w.heap.size + 2) (w.heap.size + 3) c i j (.slice A n q)) → w.heap.size + 4 ≤ W4.heap.size →
    Calls Try.prog 32 #[ptr c, .func (.func 35) #[] #[ptr w.heap.size, ptr (w.heap.size + 1), ptr (w.heap.size + 2), ptr (w.heap.size + 3)], .func (.func 37) #[] #[ptr w.heap.size, ptr (w.heap.size + 1), ptr (w.heap.size + 2), ptr (w.heap.size + 3)]] W4 fun e w' => (∃ m, e = .returned (.int .i64 m)) ∧ R e w') :
    Calls Try.prog 14 #[ptr c, .int .i64 (i : Int), .int .i64 (j : Int), .slice A n q] w R := by
  obtain ⟨W4, hW4, hb, b1, b2, b3, b4⟩ := four_boxes w c i j (.slice A n q)
  have hH := H W4 hb (fun W hW => Boxes.of (w := w) ((hW _ (Nat.le_refl _) (by omega)).trans b1) ((hW _ (by omega) (by omega)).trans b2) ((hW _ (by omega) (by omega)).trans b3) ((hW _ (by omega) (by omega)).trans b4)) (by have := blk_lt b4; omega)
  have HH := Aside0.mk hH
  have c1 := (blk_cell b1 0).trans rfl
  rw [hW4] at HH c1
  clear H hH hb b1 b2 b3 b4
  go_enter Try.func14, Try.ntmps14
  go_wp2_with (first | (go_at_call 32; (refine HH.out.mono ?_); rintro e w3 ⟨⟨m, rfl⟩, HR⟩))
  exact HR
theorem IsCh.tick_pg (s : Ch) : (tick s).own = s.own := rfl
theorem own_lt {A : Option Addr} (hC : Kd.C (Kd.int .u16) w A xs.length xs) (hp : 0 < xs.length) {ad : Addr} (e : A = some ad) : ad.block < w.heap.size := by
  obtain ⟨ad', e1, hx⟩ := at_num hC 0 hp
  rw [e] at e1; cases e1
  have := World.block_lt_of_cell? w _ hx
  rwa [add_block] at this
/-- Program, refused or failing ahead of all -/
theorem progNo (h : IsCh base w s) (hbase : base ≤ w.heap.size) (hd : s.dark = false) (ho : s.ops < 1000000) (i j : Nat) (hi : i < s.Bn) (hj : j < s.Pn) (A : Option Addr) (c : Nat) (hC : Kd.C (Kd.int .u16) w A xs.length xs) (hcl : xs.length ≤ c) (hx : ∀ y, y < xs.length → 0 ≤ xs.getD y 0 ∧ xs.getD y 0 < 1024) (hn : xs.length = s.n) (hap : ∀ ad, A = some ad → s.own ad.block = .out)
    (m : Int) (r : Bool) (hr : Ord s i j ↔ r = true) (hm : (if (s.bl i).marked then 9 else if r then (if (s.bl i).broken then 6 else 0) else 5) = m) (hm0 : m ≠ 0) :
    Calls Try.prog 14 #[ptr s.c, .int .i64 (i : Int), .int .i64 (j : Int), .slice A xs.length c] w fun e w' => e = .returned (.int .i64 m) ∧ Aside0 (IsCh base w' { s with ops := s.ops + 1, refused := s.refused + (if Refuses m then 1 else 0), dark := s.dark }) ∧ Aside0 (Fm base s.own w w') := by
  have hbn := h.bn
  refine progTo s.c i j A xs.length c _ (fun W4 hb4 hbox h4 => ?_)
  have hlow : base ≤ W4.heap.size := Nat.le_trans hbase hb4.size
  refine (operateNo (h.below hb4) hlow hd ho 35 37 _ _ m hm0 (fun W => en35 _ _ _ _ W) (fun W hF hI => ?_)).mono (fun e w' ⟨h1, h2, h3⟩ => ⟨⟨m, h1⟩, h1, h2, ⟨(Fm.below hb4 hbase).trans h3.out⟩⟩)
  have hbx := hbox W (fun k hk1 hk2 => hF.out k (by omega) (h.new k hk1))
  refine mayP _ _ _ _ s.c i j A xs.length c hbx ⟨fitsC hI i j hi hj A c xs ?_ hcl (fun y hy => (hx y hy).2) hn m r hr hm⟩
  exact C_blk hC (fun ad e => (hF.out _ (Nat.lt_of_lt_of_le (own_lt hC (by omega) e) hb4.size) (hap ad e)).trans (hb4.block _ (own_lt hC (by omega) e)))
/-- Program as it goes -/
theorem progYes (h : IsCh base w s) (hbase : base ≤ w.heap.size) (hd : s.dark = false) (ho : s.ops < 1000000) (i j : Nat) (hi : i < s.Bn) (hj : j < s.Pn) (A : Option Addr) (c : Nat) (hC : Kd.C (Kd.int .u16) w A xs.length xs) (hcl : xs.length ≤ c) (hx : ∀ y, y < xs.length → 0 ≤ xs.getD y 0 ∧ xs.getD y 0 < 1024) (hn : xs.length = s.n) (hap : ∀ ad, A = some ad → s.own ad.block = .out)
    (hr : Ord s i j) (hm : (s.bl i).marked = false) (hk : (s.bl i).broken = false) (f0 f2 : Int) (ok : Bool) (hf : lookF s.F s.ops = ((f0, 0, f2), ok)) :
    Calls Try.prog 14 #[ptr s.c, .int .i64 (i : Int), .int .i64 (j : Int), .slice A xs.length c] w fun e w' => e = .returned (.int .i64 0) ∧
      ∃ own', Aside0 (IsCh base w' (setP (tick s) i j ⟨((s.bl i).pg j).g, ((s.bl i).pg j).b, progL ((s.bl i).pg j).P xs s.n, xs, 1⟩ own')) ∧ Aside0 (Fm base s.own w w') ∧ Aside0 (∀ k, k < w.heap.size → own' k = s.own k) := by
  have hbn := h.bn
  refine progTo s.c i j A xs.length c _ (fun W4 hb4 hbox h4 => ?_)
  have hlow : base ≤ W4.heap.size := Nat.le_trans hbase hb4.size
  refine (operateYes (h.below hb4) hlow hd ho 35 37 _ _ (f0, 0, f2) ok hf 0 (.inl rfl) (.inl (by show (0 : Int) ≠ 2; decide)) (fun s2 => ∃ own', s2 = setP (tick s) i j ⟨((s.bl i).pg j).g, ((s.bl i).pg j).b, progL ((s.bl i).pg j).P xs s.n, xs, 1⟩ own' ∧ ∀ k, k < w.heap.size → own' k = s.own k) (fun W => en35 _ _ _ _ W) (fun v W => en37 _ _ _ _ v W) (fun W hF hI => ?_) (fun W hF hI => ?_)).mono (fun e w' hpost => ?_)
  · have hbx := hbox W (fun k hk1 hk2 => hF.out k (by omega) (h.new k hk1))
    refine mayP _ _ _ _ s.c i j A xs.length c hbx ⟨fitsC hI i j hi hj A c xs ?_ hcl (fun y hy => (hx y hy).2) hn 0 true ⟨fun _ => rfl, fun _ => hr⟩ (by show (if (s.bl i).marked then (9 : Int) else if true then (if (s.bl i).broken then 6 else 0) else 5) = 0; rw [hm, hk]; rfl)⟩
    exact C_blk hC (fun ad e => (hF.out _ (Nat.lt_of_lt_of_le (own_lt hC (by omega) e) hb4.size) (hap ad e)).trans (hb4.block _ (own_lt hC (by omega) e)))
  · have hbx := hbox W (fun k hk1 hk2 => hF.out k (by omega) (h.new k hk1))
    have hal := below_alloc (Below.refl W.heap.size W) (.cells #[.int .i64 f0, .int .i64 0, .int .i64 f2] 42 (0, 0))
    have hI2 := hI.below hal
    have hCW : Kd.C (Kd.int .u16) (W.alloc (.cells #[.int .i64 f0, .int .i64 0, .int .i64 f2] 42 (0, 0))) A xs.length xs := by
      refine C_blk hC (fun ad e => ?_)
      have hl := own_lt hC (by omega) e
      have hl4 := Nat.lt_of_lt_of_le hl hb4.size
      have hlW := Nat.lt_of_lt_of_le hl4 hF.bel.size
      exact (hal.block _ hlW).trans ((hF.out _ hl4 (hap ad e)).trans (hb4.block _ hl))
    have hsz : w.heap.size ≤ W.heap.size := Nat.le_trans hb4.size hF.bel.size
    refine (doP0 _ _ _ _ s.c ((s.bl i).pg j).g i j A xs.length c f0 f2 hbx (fun W w' => ∃ s2, (∃ own', s2 = setP (tick s) i j ⟨((s.bl i).pg j).g, ((s.bl i).pg j).b, progL ((s.bl i).pg j).P xs s.n, xs, 1⟩ own' ∧ ∀ k, k < w.heap.size → own' k = s.own k) ∧ Aside0 (IsCh base w' s2) ∧ Aside0 (Fm base s.own W w')) ⟨pageC hI2 i j hi hj⟩ ⟨?_⟩).mono (fun e w' hh => hh)
    refine (progCh hI2 (Nat.le_trans hlow (Nat.le_trans hF.bel.size hal.size)) i j hi hj (hr.1 j (Nat.le_refl _) hj) A c hCW hcl hn hx hap (xs.length : Int) s.n 1 (by show (if (if (xs.length : Int) < 0 then 0 else (xs.length : Int)) ≤ (s.n : Int) then _ else _) = _; rw [hn]; split <;> (try split) <;> omega) (by show (if (xs.length : Int) ≤ 0 then (0 : Int) else if (s.n : Int) ≤ (xs.length : Int) then 1 else 2) = 1; rw [hn]; split <;> (try split) <;> omega)).mono ?_
    rintro e w' ⟨rfl, own', h1, h2, h3⟩
    exact ⟨rfl, _, ⟨own', rfl, fun k hk => h3.out k (Nat.lt_of_lt_of_le hk (Nat.le_trans hsz hal.size))⟩, h1, ⟨(Fm.below hal (Nat.le_trans hlow hF.bel.size)).trans h2.out⟩⟩
  · obtain ⟨h1, s2, ⟨own', rfl, h2⟩, h3, h4⟩ := hpost
    exact ⟨⟨0, h1⟩, h1, own', h3, ⟨(Fm.below hb4 hbase).trans h4.out⟩, ⟨h2⟩⟩
end
end Go.Proofs.Ytmddafefdleimaa.M
