/- A page: Drift, Wrong; by hand. -/
import Derived.Test.YtmddafefdleimaaS
namespace Go.Proofs.Ytmddafefdleimaa.M
open Go.RowKit Go.Proofs.YtmddafefdleimaaW.PrintWords Go.Proofs.YtmddafefdleimaaW.PrintLast Go.Proofs.YtmddafefdleimaaW.PrintMore Go.Proofs.Ytmddafefdleimaa.Rw Go.Proofs.Ytmddafefdleimaa.Fl
set_option linter.unusedVariables false
set_option linter.unusedSimpArgs false
theorem run_store_complex {P : Program} {w : World} {a : Addr} {m : Mode} (k : FloatKind) (x y : Nat) : (store a (.complex k x y) m).run P w = stored P w a (.complex k x y) m := run_store P w a _ m rfl
section
attribute [local go_sem] run_store_complex
variable {w W W1 : World} {base g b : Nat} {P : Pts} {S : List Int} {st : Int} {sv : Value}
theorem IsC.put (h : IsC W base g b P S st sv) (i : Nat) (p : Int × Int) : IsC (W.setCell ⟨b, i, none⟩ (ptV p)) base g b (P.set i p) S st sv := by
  have hfar : ∀ k, k ≠ b → (W.setCell ⟨b, i, none⟩ (ptV p)).heap[k]? = W.heap[k]? := fun k hk => Below.heap_setCell W ⟨b, i, none⟩ (ptV p) k hk
  refine ⟨by rw [hfar g h.gb, List.length_set]; exact h.hg, h.hb.set i p, h.bg, h.bb, h.gb, by rw [List.length_set]; exact h.le, ?_⟩
  rcases h.sv with h1 | ⟨h1, h2, h3⟩
  · exact .inl h1
  · exact .inr ⟨h1, by rw [List.length_set]; exact h2, row_move h3 fun k hk => hfar k (h3.1 k hk).2⟩
theorem driftYes (h : IsC w base g b P S 1 sv) (i : Nat) (hi : i < P.length) (u v : Int) (hu : u.natAbs ≤ 2000) (hv : v.natAbs ≤ 2000) (hx : (P.getD i (0, 0)).1.natAbs ≤ 2000) (hy : (P.getD i (0, 0)).2.natAbs ≤ 2000)
    (m1 : mayMove (P.getD i (0, 0)).1 u = true) (m2 : mayMove (P.getD i (0, 0)).2 v = true) :
    Calls Try.prog 45 #[.pointer (some ⟨g, 0, none⟩), .int .i64 (i : Int), .complex .f64 (fd u 0) (fd v 0)] w fun e w' => e = .returned (.bool true) ∧
      Aside0 (IsC w' base g b (P.set i ((P.getD i (0, 0)).1 + u, (P.getD i (0, 0)).2 + v)) S 1 sv) ∧ Aside0 (w' = w.setCell ⟨b, i, none⟩ (ptV ((P.getD i (0, 0)).1 + u, (P.getD i (0, 0)).2 + v))) := by
  obtain ⟨c0, c1, c2⟩ := h.cells
  have cp := h.hb.cell hi
  have cf := h.hb.frozen i
  have hle := h.le
  generalize hp : P.getD i (0, 0) = p at *
  obtain ⟨x, y⟩ := p
  have HM1 := Aside0.mk (movedC hx hu)
  have HM2 := Aside0.mk (movedC hy hv)
  have HP := Aside0.mk (h.put i (x + u, y + v))
  simp only at m1 m2
  rw [m1] at HM1
  rw [m2] at HM2
  have hil : (i : Int) < (P.length : Int) := by omega
  clear h hp hx hy hu hv m1 m2
  unfold ptV at *
  simp only at *
  generalize fd (x + u) 0 = xu at *
  generalize fd (y + v) 0 = yv at *
  generalize fd x 0 = xx at *
  generalize fd y 0 = yy at *
  generalize fd u 0 = uu at *
  generalize fd v 0 = vv at *
  generalize P.length = n at *
  go_enter Try.func45, Try.ntmps45
  go_wp2_with (first | (go_at_call 57; (first | (with_reducible refine (HM1.out _).mono ?_; rintro o w2 ⟨rfl, hw⟩; obtain rfl := hw.symm; clear HM1) | (with_reducible refine (HM2.out _).mono ?_; rintro o w2 ⟨rfl, hw⟩; obtain rfl := hw.symm))))
  go_ret
  exact ⟨rfl, HP, ⟨rfl⟩⟩
theorem driftNo (h : IsC w base g b P S 1 sv) (i : Nat) (hi : i < P.length) (u v : Int) (hu : u.natAbs ≤ 2000) (hv : v.natAbs ≤ 2000) (hx : (P.getD i (0, 0)).1.natAbs ≤ 2000) (hy : (P.getD i (0, 0)).2.natAbs ≤ 2000)
    (m : (mayMove (P.getD i (0, 0)).1 u && mayMove (P.getD i (0, 0)).2 v) = false) :
    Calls Try.prog 45 #[.pointer (some ⟨g, 0, none⟩), .int .i64 (i : Int), .complex .f64 (fd u 0) (fd v 0)] w fun e w' => e = .returned (.bool false) ∧ w' = w := by
  obtain ⟨c0, c1, c2⟩ := h.cells
  have cp := h.hb.cell hi
  have cf := h.hb.frozen i
  have hle := h.le
  generalize hp : P.getD i (0, 0) = p at *
  obtain ⟨x, y⟩ := p
  have HM1 := Aside0.mk (movedC hx hu)
  have HM2 := Aside0.mk (movedC hy hv)
  simp only at m
  have hil : (i : Int) < (P.length : Int) := by omega
  clear h hp hx hy hu hv
  unfold ptV at *
  simp only at *
  generalize mayMove x u = a1 at *
  generalize mayMove y v = a2 at *
  generalize fd (x + u) 0 = xu at *
  generalize fd (y + v) 0 = yv at *
  generalize fd x 0 = xx at *
  generalize fd y 0 = yy at *
  generalize fd u 0 = uu at *
  generalize fd v 0 = vv at *
  generalize P.length = n at *
  cases a1 <;> cases a2
  case true.true => cases m
  all_goals (
    go_enter Try.func45, Try.ntmps45
    go_wp2_with (first | (go_at_call 57; (first | (with_reducible refine (HM1.out _).mono ?_; rintro o w2 ⟨rfl, hw⟩; obtain rfl := hw.symm; clear HM1) | (with_reducible refine (HM2.out _).mono ?_; rintro o w2 ⟨rfl, hw⟩; obtain rfl := hw.symm))))
    go_ret
    exact ⟨rfl, rfl⟩)
theorem driftOut (h : IsC w base g b P S st sv) (i : Int) (hi : st ≠ 1 ∨ i < 0 ∨ (P.length : Int) ≤ i) (x y : Nat) :
    Calls Try.prog 45 #[.pointer (some ⟨g, 0, none⟩), .int .i64 i, .complex .f64 x y] w fun e w' => e = .returned (.bool false) ∧ w' = w := by
  obtain ⟨c0, c1, c2⟩ := h.cells
  have hle := h.le
  generalize P.length = n at *
  clear h
  by_cases h1 : st = 1
  · subst h1
    by_cases h2 : i < 0
    · have h2b : decide (i < 0) = true := decide_eq_true h2
      go_enter Try.func45, Try.ntmps45
      go_wp2
      go_ret
      exact ⟨rfl, rfl⟩
    · have h2b : decide (i < 0) = false := decide_eq_false h2
      have h3 : (n : Int) ≤ i := by omega
      have h3b : decide ((n : Int) ≤ i) = true := decide_eq_true h3
      clear hi
      go_enter Try.func45, Try.ntmps45
      go_wp2
      go_ret
      exact ⟨rfl, rfl⟩
  · have h1b : (st != 1) = true := bne_iff_ne.2 h1
    clear hi
    go_enter Try.func45, Try.ntmps45
    go_wp2
    go_ret
    exact ⟨rfl, rfl⟩
end
/-- the symbol that a point of whole numbers is nearest -/
def symP (p : Int × Int) : Int := lv ((p.1 + 32) / 2) * 32 + lv ((p.2 + 32) / 2)
/-- is a place wrong? -/
def bad (P : Pts) (S : List Int) (j : Nat) : Bool := (decide ((P.getD j (0, 0)).1 = 0) && decide ((P.getD j (0, 0)).2 = 0)) || symP (P.getD j (0, 0)) != S.getD j 0
def wrongL (P : Pts) (S : List Int) (n : Nat) : List Int := ((List.range n).filter (bad P S)).map fun (j : Nat) => (j : Int)
theorem wrongL_succ (P : Pts) (S : List Int) (n : Nat) : wrongL P S (n + 1) = wrongL P S n ++ if bad P S n then [(n : Int)] else [] := by
  unfold wrongL
  rw [List.range_succ, List.filter_append, List.map_append]
  by_cases h : bad P S n = true
  · simp [h]
  · simp [h]
theorem wrongL_len (P : Pts) (S : List Int) (n : Nat) : (wrongL P S n).length ≤ n := by
  unfold wrongL
  rw [List.length_map]
  exact Nat.le_trans (List.length_filter_le _ _) (by simp)
theorem info3 : (Try.prog.info? 3).map (fun i => (i.zero, i.size, i.bytes)) = some (some (.int .i64 0), 1, 8) := by kernel_rfl
section
variable {w W W1 : World} {base g b : Nat} {P : Pts} {S : List Int} {st : Int} {sv : Value}
set_option maxHeartbeats 3200000 in
set_option maxRecDepth 100000 in
theorem wrongC (h : IsC w base g b P S 1 sv) (hP : ∀ j, j < P.length → (P.getD j (0, 0)).1.natAbs ≤ 2000 ∧ (P.getD j (0, 0)).2.natAbs ≤ 2000) : Calls Try.prog 58 #[.pointer (some ⟨g, 0, none⟩)] w fun e w' =>
    ∃ v, e = .returned v ∧ Aside0 (Kd.R (Kd.int .i64) 3 w' w.heap.size (fun _ => True) v (wrongL P S P.length)) ∧ Aside0 (Below w.heap.size w w') := by
  obtain ⟨c0, c1, c2⟩ := h.cells
  have hle := h.le
  obtain ⟨hSl, hS⟩ : S.length = P.length ∧ Kd.R (Kd.int .u16) 40 w base (fun k => k ≠ g ∧ k ≠ b) sv S := by
    rcases h.sv with h1 | ⟨_, h2, h3⟩
    · exact absurd rfl h1.1
    · exact ⟨h2, h3⟩
  obtain ⟨A, c, e⟩ := Kd.R_slice hS
  subst e
  have HS := Aside0.mk (Kd.R_reads' hS).2.2
  have HV := Aside0.mk h.hb
  have HSl := Aside0.mk hSl
  have HP := Aside0.mk hP
  have hgl : g < w.heap.size := blk_lt h.hg
  rw [hSl] at c1
  clear h hS hSl hP
  obtain ⟨n, hn⟩ : ∃ n, P.length = n := ⟨_, rfl⟩
  have HN := Aside0.mk hn
  rw [hn] at c0 c1 hle ⊢
  clear hn
  go_enter Try.func58, Try.ntmps58
  go_wp2
  go_loopw [3, 4, 5, 20] (fun v3 v4 v5 v20 wr => ∃ i : Nat, i ≤ n ∧ v20 = .int .i64 (i : Int) ∧ Aside0 (Kd.R (Kd.int .i64) 3 wr w.heap.size (fun _ => True) v3 (wrongL P S i)) ∧ Aside0 (Below w.heap.size w wr)) (fun _ _ _ v20 _ => n - (intOf v20).toNat)
  case atStart => exact ⟨0, Nat.zero_le _, rfl, ⟨Kd.R_nil _ _ _ _ _⟩, ⟨Below.refl _ _⟩⟩
  case round =>
    obtain ⟨i, hi, rfl, HR, HB⟩ := hrel
    by_cases ci : i < n
    · have cii : (i : Int) < (n : Int) := by omega
      have hx := HV.out.cell (by rw [HN.out]; exact ci)
      replace hx := (HB.out.cell (World.block_lt_of_cell? w _ hx)).trans hx
      obtain ⟨ad, e1, hs⟩ := at_num HS.out i (by rw [HSl.out, HN.out]; exact ci)
      cases e1
      replace hs := (HB.out.cell (World.block_lt_of_cell? w _ hs)).trans hs
      have d1 := (HB.out.cell (p := ⟨g, 1, none⟩) hgl).trans c1
      obtain ⟨b1, b2⟩ := HP.out i (by rw [HN.out]; exact ci)
      have HW := Aside0.mk (wrongL_succ P S i)
      obtain ⟨bd, hbd⟩ : ∃ bd, bad P S i = bd := ⟨_, rfl⟩
      rw [hbd] at HW
      unfold bad symP at hbd
      generalize P.getD i (0, 0) = p at *
      generalize S.getD i 0 = s at *
      obtain ⟨x, y⟩ := p
      simp only at hbd b1 b2
      unfold ptV at hx
      simp only at hx
      have HSl2 := Aside0.mk (sliceI (V := x) (W := y) (by omega) (by omega))
      generalize lv ((x + 32) / 2) * 32 + lv ((y + 32) / 2) = sy at *
      have e1 := ord_eqb (ord_int (a := x) (b := 0) (by omega) (by decide))
      have e2 := ord_eqb (ord_int (a := y) (b := 0) (by omega) (by decide))
      rw [fd_zero] at e1 e2
      generalize fd x 0 = xx at *
      generalize fd y 0 = yy at *
      generalize decide (x = 0) = zx at *
      generalize decide (y = 0) = zy at *
      have e3 : (sy != s) = (!(sy == s)) := rfl
      generalize hq : (sy == s) = qq at *
      rw [e3] at hbd
      have HBd := Aside0.mk hbd
      clear hbd b1 b2 e3
      have hLen := wrongL_len P S i
      cases zx <;> cases zy <;> cases qq <;> cases bd
      all_goals (try (exact absurd HBd.out (by decide)))
      all_goals (
        clear HBd
        have hne : (sy != s) = !(sy == s) := rfl
        rw [hq] at hne
        go_upto_region 7 with (fail)
        go_quiet ((go_at_call 64; with_reducible exact Calls.quiet_of_same (HSl2.out _)))
        have HB2 := Aside0.mk (Below.trans HB.out (⟨rfl, rfl, rfl, Nat.le_refl _, fun _ _ => rfl⟩ : Below w.heap.size wr (wr.drewN nq)))
        have HR2 := Aside0.mk (row_move (W1 := wr.drewN nq) HR.out (fun _ _ => rfl))
        generalize wr.drewN nq = w8 at *
        clear HB HR hx hs d1 e1 e2 hne hq HSl2
        go_wp2_with (first | ((with_reducible refine gate_builtin (b := .append) (xs := #[.tmp 39, .tmp 41]) rfl ?_); at_builtin; refine Kd.R_append (Kd.int .i64) (w0 := w) w.heap.size rfl (.tmp 39) (.tmp 41) 34 3 (.int .i64 0) 8 rfl Try.underlying34 info3 rfl (by decide) (by omega) u3 (wrongL P S i) (i : Int) [.int .i64 (i : Int)] (fun _ => True) (fun _ => False) rfl rfl ?aP (fun _ hk => hk.elim) ?aF ?aO ?aB ?aS ?aL ?_; (case aP => exact rfl); (case aB => exact HB2.out); (case aF => exact (fun _ _ => trivial)); (case aO => exact HR2.out); (case aS => exact HB2.out.size); (case aL => omega); intro v9 w9 ho hb hg hat; have HB3 := Aside0.mk hb; have HR3 := Aside0.mk ho; clear ho hb hg hat HB2 HR2))
        go_roundw
        case rel => first | exact ⟨i + 1, ci, rfl, ⟨by rw [HW.out]; exact HR3.out⟩, HB3⟩ | exact ⟨i + 1, ci, rfl, ⟨by rw [HW.out]; simpa using HR2.out⟩, HB2⟩
        case measure => simp [intOf]; omega)
    · obtain rfl : i = n := by omega
      go_wp2
      go_ret
      exact ⟨_, rfl, HR, HB⟩
end
end Go.Proofs.Ytmddafefdleimaa.M
