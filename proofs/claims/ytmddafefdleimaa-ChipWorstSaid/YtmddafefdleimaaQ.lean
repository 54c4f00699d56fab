/- A chip: Erase; by hand. -/
import Derived.Test.YtmddafefdleimaaO
namespace Go.Proofs.Ytmddafefdleimaa.M
open Go.RowKit Go.Proofs.YtmddafefdleimaaW.PrintWords Go.Proofs.YtmddafefdleimaaW.PrintLast Go.Proofs.YtmddafefdleimaaW.PrintMore Go.Proofs.Ytmddafefdleimaa.Rw Go.Proofs.Ytmddafefdleimaa.Fl Go.Maps
set_option linter.unusedVariables false
set_option linter.unusedSimpArgs false
abbrev blank (s : Ch) (i j : Nat) : Pg := ⟨((s.bl i).pg j).g, ((s.bl i).pg j).b, List.replicate s.n (0, 0), [], 0⟩
/-- the first k pages of block i are blank -/
def eraseUp (s : Ch) (i k : Nat) : Ch := { s with bl := fun x => if x = i then { s.bl i with pg := fun y => if y < k then blank s i y else (s.bl i).pg y } else s.bl x }
theorem eraseUp_zero (s : Ch) (i : Nat) : eraseUp s i 0 = s := by
  have : (fun x => if x = i then { s.bl i with pg := fun y => if y < 0 then blank s i y else (s.bl i).pg y } else s.bl x) = s.bl := by
    funext x
    by_cases e : x = i
    · subst e; simp
    · simp [e]
  unfold eraseUp
  rw [this]
theorem eraseUp_succ (s : Ch) (i k : Nat) : setP (eraseUp s i k) i k ⟨(((eraseUp s i k).bl i).pg k).g, (((eraseUp s i k).bl i).pg k).b, List.replicate (eraseUp s i k).n (0, 0), [], 0⟩ (eraseUp s i k).own = eraseUp s i (k + 1) := by
  unfold setP eraseUp
  congr 1
  funext x
  by_cases e : x = i
  · subst e
    simp only [if_true]
    congr 1
    funext y
    by_cases e2 : y = k
    · subst e2; simp
    · by_cases e3 : y < k
      · have : y < k + 1 := by omega
        simp [e2, e3, this]
      · have : ¬ y < k + 1 := by omega
        simp [e2, e3, this]
  · simp [e]
section
variable {base : Nat} {w W W1 : World} {s : Ch}
theorem eraseUp_q (s : Ch) (i k x : Nat) : ((eraseUp s i k).bl x).q = (s.bl x).q := by by_cases e : x = i <;> simp [eraseUp, e]
theorem eraseUp_pa (s : Ch) (i k x : Nat) : ((eraseUp s i k).bl x).pa = (s.bl x).pa := by by_cases e : x = i <;> simp [eraseUp, e]
theorem eraseUp_cap (s : Ch) (i k x : Nat) : ((eraseUp s i k).bl x).cap = (s.bl x).cap := by by_cases e : x = i <;> simp [eraseUp, e]
theorem eraseUp_g (s : Ch) (i k x y : Nat) : (((eraseUp s i k).bl x).pg y).g = ((s.bl x).pg y).g := by
  by_cases e : x = i
  · subst e
    by_cases e2 : y < k <;> simp [eraseUp, e2]
  · simp [eraseUp, e]
/-- why a block may not be erased -/
theorem mayE (h : IsCh base w s) (i : Nat) (hi : i < s.Bn) (p : Nat) (hp : w.cell? ⟨p, 0, none⟩ = some (ptr (s.bl i).q)) (m : Int) (hm : (if (s.bl i).marked then 9 else if (s.bl i).broken then 7 else 0) = m) :
    Calls Try.prog 31 #[ptr p] w fun e w' => e = .returned (.int .i64 m) ∧ w' = w := by
  obtain ⟨b0, b1, b2, -⟩ := h.bcells i hi
  generalize (s.bl i).q = q at *
  generalize (s.bl i).marked = mk at *
  generalize (s.bl i).broken = bk at *
  clear h b0
  cases mk <;> cases bk
  all_goals (
    simp at hm
    subst hm
    go_enter Try.func31, Try.ntmps31
    go_wp2
    go_ret
    exact ⟨rfl, rfl⟩)
/-- a block that is erased -/
abbrev worn (s : Ch) (i : Nat) : Ch := setB s i { s.bl i with marked := (s.bl i).marked, broken := (s.bl i).broken, erases := (s.bl i).erases + 1 }
set_option maxHeartbeats 1600000 in
theorem doE0 (h : IsCh base w s) (hbase : base ≤ w.heap.size) (i : Nat) (hi : i < s.Bn) (p : Nat) (hp : w.cell? ⟨p, 0, none⟩ = some (ptr (s.bl i).q)) (hpo : s.own p = .out) (he : (s.bl i).erases + 1 ≤ s.ops) (f0 f2 : Int) :
    Calls Try.prog 33 #[.agg #[.int .i64 f0, .int .i64 0, .int .i64 f2], ptr p] w fun e w' => e = .returned (.int .i64 0) ∧ Aside0 (IsCh base w' (eraseUp (worn s i) i s.Pn)) ∧ Aside0 (Fm base s.own w w') := by
  have hl := World.block_lt_of_cell? w _ hp
  have hbn := h.bn
  have hops := h.bops
  have her := h.ber i hi
  have hal := below_alloc (Below.refl w.heap.size w) (.cells #[.int .i64 f0, .int .i64 0, .int .i64 f2] 42 (0, 0))
  have hI1 := h.below hal
  obtain ⟨b0, -, -, b3, bf⟩ := h.bcells i hi
  have hql : (s.bl i).q < w.heap.size := blk_lt (h.hb i hi)
  -- the world behind 'erases++'
  have hI2 : IsCh base ((w.alloc (.cells #[.int .i64 f0, .int .i64 0, .int .i64 f2] 42 (0, 0))).setCell ⟨(s.bl i).q, 3, none⟩ (.int .i64 ((s.bl i).erases + 1))) (worn s i) :=
    hI1.blk i hi (s.bl i).marked (s.bl i).broken ((s.bl i).erases + 1) ⟨by omega, he⟩ (Nat.le_of_eq (by simp [World.setCell])) (fun k _ hk => Below.heap_setCell _ ⟨(s.bl i).q, 3, none⟩ _ k hk) (blk_put (hI1.hb i hi) 3 _ rfl)
  have hF2 : Fm base s.own w ((w.alloc (.cells #[.int .i64 f0, .int .i64 0, .int .i64 f2] 42 (0, 0))).setCell ⟨(s.bl i).q, 3, none⟩ (.int .i64 ((s.bl i).erases + 1))) :=
    (Fm.below hal hbase).put (p := ⟨(s.bl i).q, 3, none⟩) (by show s.own (s.bl i).q ≠ .out; rw [h.oq i hi]; intro e; cases e) (h.low _ (by rw [h.oq i hi]; intro e; cases e)) _
  rw [World.setCell_alloc_past _ _ _ _ hql] at hI2 hF2
  have HI2 := Aside0.mk hI2
  have HF2 := Aside0.mk hF2
  have HP := Aside0.mk hp
  have HPo := Aside0.mk hpo
  have HBase := Aside0.mk hbase

  have hBi : i < (worn s i).Bn := hi
  have HBi := Aside0.mk hBi
  have hpc := h.pc i hi
  have hqp : ¬ p = (s.bl i).q := fun e => by have := h.oq i hi; rw [← e, hpo] at this; cases this
  have hqp' : ¬ (s.bl i).q = p := fun e => hqp e.symm
  have HWn : Aside0 ((worn s i).own = s.own ∧ (worn s i).Pn = s.Pn ∧ ((worn s i).bl i).q = (s.bl i).q ∧ ((worn s i).bl i).pa = (s.bl i).pa ∧ ((worn s i).bl i).cap = (s.bl i).cap) := ⟨by simp [worn, setB]⟩
  generalize hS : worn s i = S at *
  clear hS
  obtain ⟨B, hB⟩ : ∃ B, s.Pn = B := ⟨_, rfl⟩
  obtain ⟨q, hq⟩ : ∃ q, (s.bl i).q = q := ⟨_, rfl⟩
  obtain ⟨pa, hpa⟩ : ∃ q, (s.bl i).pa = q := ⟨_, rfl⟩
  obtain ⟨cap, hcap⟩ : ∃ q, (s.bl i).cap = q := ⟨_, rfl⟩
  obtain ⟨er, her2⟩ : ∃ q, (s.bl i).erases = q := ⟨_, rfl⟩
  rw [hB] at b0 hbn hpc HWn ⊢
  rw [hq] at b0 b3 bf hql hp HP hqp hqp' HWn HI2 HF2
  rw [hpa] at b0 HWn
  rw [hcap] at b0 hpc HWn
  rw [her2] at b3 HI2 HF2 her he
  clear h hal hI1 hI2 hF2 hpo hbase hBi hB hq hpa hcap her2 hi
  have hE1 : er + 1 ≤ 1000000 := by omega
  go_enter Try.func33, Try.ntmps33
  go_upto_region 9 with (fail)
  generalize ((w.setCell ⟨q, 3, none⟩ (.int .i64 (er + 1))).alloc (.cells #[.int .i64 f0, .int .i64 0, .int .i64 f2] 42 (0, 0))) = W2 at *
  have hp2 := (HF2.out.out p hl HPo.out)
  have c1 : W2.cell? ⟨p, 0, none⟩ = some (ptr q) := (World.cell?_of_block (w := w) (a := ⟨p, 0, none⟩) hp2).trans hp
  obtain ⟨d0, -⟩ := HI2.out.bcells i HBi.out
  rw [HWn.out.2.2.1, HWn.out.2.2.2.1, HWn.out.2.1, HWn.out.2.2.2.2] at d0
  clear hp hp2 b0 b3 bf
  go_wp2
  clear c1 d0
  go_loopw [6, 39] (fun v6 v39 wr => ∃ k : Nat, k ≤ B ∧ v39 = .int .i64 (k : Int) ∧ Aside0 (IsCh base wr (eraseUp S i k)) ∧ Aside0 (Fm base s.own w wr)) (fun _ v39 _ => B - (intOf v39).toNat)
  case atStart => exact ⟨0, Nat.zero_le _, rfl, by rw [eraseUp_zero]; exact HI2, HF2⟩
  case round =>
    clear HI2 HF2
    obtain ⟨k, hk, rfl, HI, HF⟩ := hrel
    by_cases ck : k < B
    · have ckk : (k : Int) < (B : Int) := by omega
      have hiE : i < (eraseUp S i k).Bn := HBi.out
      have hkE : k < (eraseUp S i k).Pn := by show k < S.Pn; rw [HWn.out.2.1]; exact ck
      have hc := (HI.out.hp i hiE).cell hkE
      rw [eraseUp_pa, HWn.out.2.2.2.1] at hc
      have HC := Aside0.mk (eraseCh HI.out (Nat.le_trans HBase.out HF.out.bel.size) i k hiE hkE)
      rw [eraseUp_succ] at HC
      have hO : (eraseUp S i k).own = s.own := HWn.out.1
      rw [hO] at HC
      generalize (((eraseUp S i k).bl i).pg k).g = g at *
      clear hiE hkE hO
      go_wp2_with (first | (go_at_call 34; (refine HC.out.mono ?_); rintro e w3 ⟨rfl, HI3, HF3⟩))
      go_roundw
      case rel => exact ⟨k + 1, ck, rfl, HI3, ⟨HF.out.trans HF3.out⟩⟩
      case measure => simp [intOf]; omega
    · obtain rfl : k = B := by omega
      go_wp2
      go_ret
      exact ⟨rfl, HI, HF⟩
/-- the box of Erase -/
theorem eraseTo (c q : Nat) (i : Int) (R : Ending → World → Prop) (HQ : Calls Try.prog 30 #[ptr c, .int .i64 i] w fun e w' => e = .returned (ptr q) ∧ w' = w)
    (H : ∀ W4, Below w.heap.size w W4 → W4.heap[w.heap.size]? = some (.cells #[ptr q] 68 (0, 0)) →
    Calls Try.prog 32 #[ptr c, .func (.func 31) #[] #[ptr w.heap.size], .func (.func 33) #[] #[ptr w.heap.size]] W4 fun e w' => (∃ m, e = .returned (.int .i64 m)) ∧ R e w') :
    Calls Try.prog 13 #[ptr c, .int .i64 i] w R := by
  have hb := below_alloc (Below.refl w.heap.size w) (.cells #[ptr q] 68 (0, 0))
  have hn := blk_new w (.cells #[ptr q] 68 (0, 0))
  have HH := Aside0.mk (H _ hb hn)
  have HHQ := Aside0.mk HQ
  clear H HQ hb hn
  go_enter Try.func13, Try.ntmps13
  go_wp2_with (first
    | (go_at_call 30; (refine HHQ.out.mono ?_); rintro e w2 ⟨rfl, hw⟩; obtain rfl := hw.symm)
    | (go_at_call 32; (refine HH.out.mono ?_); rintro e w3 ⟨⟨m, rfl⟩, HR⟩))
  exact HR
theorem eraseYes (h : IsCh base w s) (hbase : base ≤ w.heap.size) (hd : s.dark = false) (ho : s.ops < 1000000) (i : Nat) (hi : i < s.Bn) (hm : (s.bl i).marked = false) (hk : (s.bl i).broken = false) (f0 f2 : Int) (ok : Bool) (hf : lookF s.F s.ops = ((f0, 0, f2), ok)) :
    Calls Try.prog 13 #[ptr s.c, .int .i64 (i : Int)] w fun e w' => e = .returned (.int .i64 0) ∧ Aside0 (IsCh base w' (eraseUp (worn (tick s) i) i s.Pn)) ∧ Aside0 (Fm base s.own w w') := by
  refine eraseTo s.c (s.bl i).q i _ (blockC h i hi) (fun W4 hb4 hbox => ?_)
  have hlow : base ≤ W4.heap.size := Nat.le_trans hbase hb4.size
  have hnew := h.new _ (Nat.le_refl w.heap.size)
  refine (operateYes (h.below hb4) hlow hd ho 31 33 _ _ (f0, 0, f2) ok hf 0 (.inl rfl) (.inl (by show (0 : Int) ≠ 2; decide)) (fun s2 => s2 = eraseUp (worn (tick s) i) i s.Pn) (fun W => en31 _ W) (fun v W => en33 _ v W) (fun W hF hI => ?_) (fun W hF hI => ?_)).mono (fun e w' ⟨h1, s2, h2, h3, h4⟩ => ⟨⟨0, h1⟩, h1, h2 ▸ h3, ⟨(Fm.below hb4 hbase).trans h4.out⟩⟩)
  · have hp := (blk_cell ((hF.out _ (blk_lt hbox) hnew).trans hbox) 0).trans rfl
    exact (mayE hI i hi w.heap.size hp 0 (by show (if (s.bl i).marked then (9 : Int) else if (s.bl i).broken then 7 else 0) = 0; rw [hm, hk]; rfl)).mono fun e w' ⟨h1, h2⟩ => ⟨h1, ⟨h2 ▸ Below.refl _ _⟩⟩
  · have hp := (blk_cell ((hF.out _ (blk_lt hbox) hnew).trans hbox) 0).trans rfl
    refine (doE0 hI (Nat.le_trans hlow hF.bel.size) i hi w.heap.size hp hnew (by show (s.bl i).erases + 1 ≤ s.ops + 1; have := (h.ber i hi).2; omega) f0 f2).mono fun e w' ⟨h1, h2, h3⟩ => ⟨h1, _, rfl, h2, h3⟩
theorem eraseNo (h : IsCh base w s) (hbase : base ≤ w.heap.size) (hd : s.dark = false) (ho : s.ops < 1000000) (i : Nat) (hi : i < s.Bn) (m : Int) (hm : (if (s.bl i).marked then 9 else if (s.bl i).broken then 7 else 0) = m) (hm0 : m ≠ 0) :
    Calls Try.prog 13 #[ptr s.c, .int .i64 (i : Int)] w fun e w' => e = .returned (.int .i64 m) ∧ Aside0 (IsCh base w' { s with ops := s.ops + 1, refused := s.refused + (if Refuses m then 1 else 0), dark := s.dark }) ∧ Aside0 (Fm base s.own w w') := by
  refine eraseTo s.c (s.bl i).q i _ (blockC h i hi) (fun W4 hb4 hbox => ?_)
  have hlow : base ≤ W4.heap.size := Nat.le_trans hbase hb4.size
  have hnew := h.new _ (Nat.le_refl w.heap.size)
  refine (operateNo (h.below hb4) hlow hd ho 31 33 _ _ m hm0 (fun W => en31 _ W) (fun W hF hI => ?_)).mono (fun e w' ⟨h1, h2, h3⟩ => ⟨⟨m, h1⟩, h1, h2, ⟨(Fm.below hb4 hbase).trans h3.out⟩⟩)
  have hp := (blk_cell ((hF.out _ (blk_lt hbox) hnew).trans hbox) 0).trans rfl
  exact (mayE hI i hi w.heap.size hp m hm).mono fun e w' ⟨h1, h2⟩ => ⟨h1, ⟨h2 ▸ Below.refl _ _⟩⟩
end
end Go.Proofs.Ytmddafefdleimaa.M
