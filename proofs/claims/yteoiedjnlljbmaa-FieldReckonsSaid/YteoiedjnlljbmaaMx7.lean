/- Printed for this seat by a program of this session (over the kit's print), with contracts of its own laid in. -/
import Derived.Test.YteoiedjnlljbmaaMx0
import Derived.Test.YteoiedjnlljbmaaMx2
import Derived.Test.YteoiedjnlljbmaaMx6
namespace Go.Proofs.Yteoiedjnlljbmaa.M
open Go.RowKit Go.Proofs.YteoiedjnlljbmaaW.PrintWords Go.Proofs.YteoiedjnlljbmaaW.PrintLast Go.Proofs.YteoiedjnlljbmaaW.PrintMore
attribute [local go_sem] max2_int min2_int max_two min_two max_three min_three max_four min_four   -- for this text's walks alone
set_option linter.unusedVariables false
set_option linter.unusedSimpArgs false

/-! ### blackboardref1_Pow: function 22 -/
def blackboardref1_Pow.f (k : Nat) (a0 : Int) (a1 : Int) : Option (Int) := if a1 = 0 then (some 1) else (if (Go.bits .and .u16 a0 1023) = 0 then (some 0) else ((blackboardref1_power.f k (Go.bits .and .u16 a0 1023) (Int.tmod (wrap64 ((Int.tmod a1 1023) + 1023)) 1023)).bind fun t229 => (some t229)))
theorem blackboardref1_Pow.mono : ∀ a0 a1 k, LeO (blackboardref1_Pow.f k a0 a1) (blackboardref1_Pow.f (k + 1) a0 a1) := by
  intro a0 a1 k
  unfold blackboardref1_Pow.f
  repeat' first
      | (with_reducible exact blackboardref1_power.mono _ _ _)
      | (with_reducible exact LeO.refl _)
      | (with_reducible exact LeO.none _)
      | (with_reducible refine LeO.ite ?_ ?_)
      | (with_reducible refine LeO.bind ?_ (fun _ => ?_))
      | exact blackboardref1_power.mono _ _ _
      | exact LeO.none _
      | refine LeO.ite ?_ ?_
      | refine LeO.bind ?_ (fun _ => ?_)
set_option maxHeartbeats 8000000 in
set_option maxRecDepth 100000 in
theorem blackboardref1_Pow.calls (k : Nat) (a0 : Int) (a1 : Int) (r : Int) (w : World) (h : blackboardref1_Pow.f k a0 a1 = some r) :
    Calls Try.prog 22 #[.int .u16 a0, .int .i64 a1] w fun e w' => e = .returned (.int .u16 r) ∧ Drawn0 w w' := by
  have H : (if a1 = 0 then (some 1) else (if (Go.bits .and .u16 a0 1023) = 0 then (some 0) else ((blackboardref1_power.f k (Go.bits .and .u16 a0 1023) (Int.tmod (wrap64 ((Int.tmod a1 1023) + 1023)) 1023)).bind fun t229 => (some t229)))) = some r := h
  clear h
  by_cases c3 : a1 = 0
  · rw [if_pos c3] at H
    have c3b0 : (a1 == 0) = true := beq_iff_eq.mpr c3
    have c3b1 : (a1 != 0) = false := bne_eq_false_iff_eq.mpr c3
    clear c3
    obtain rfl := Option.some.inj H
    go_enter Try.func22, Try.ntmps22
    go_wp2
    go_ret
    exact ⟨by first | rfl | (simp; done) | (simp [*]; done), by repeat (first | exact Drawn0.refl _ | apply Drawn0.step)⟩
  · rw [if_neg c3] at H
    have c3b0 : (a1 == 0) = false := beq_eq_false_iff_ne.mpr c3
    have c3b1 : (a1 != 0) = true := bne_iff_ne.mpr c3
    by_cases c4 : (Go.bits .and .u16 a0 1023) = 0
    · rw [if_pos c4] at H
      have c4b0 : ((Go.bits .and .u16 a0 1023) == 0) = true := beq_iff_eq.mpr c4
      have c4b1 : ((Go.bits .and .u16 a0 1023) != 0) = false := bne_eq_false_iff_eq.mpr c4
      clear c4
      obtain rfl := Option.some.inj H
      go_enter Try.func22, Try.ntmps22
      go_wp2
      go_ret
      exact ⟨by first | rfl | (simp; done) | (simp [*]; done), by repeat (first | exact Drawn0.refl _ | apply Drawn0.step)⟩
    · rw [if_neg c4] at H
      have c4b0 : ((Go.bits .and .u16 a0 1023) == 0) = false := beq_eq_false_iff_ne.mpr c4
      have c4b1 : ((Go.bits .and .u16 a0 1023) != 0) = true := bne_iff_ne.mpr c4
      replace H := Option.bind_eq_some_iff.mp H
      obtain ⟨t229, A50, H⟩ := H
      replace H : (some t229) = some r := H
      have A5 := Aside0.mk A50
      clear A50
      obtain rfl := Option.some.inj H
      go_enter Try.func22, Try.ntmps22
      go_wp2_with (first | ((with_reducible refine gate_callee (f := 23) rfl ?_); refine goesL_ (some 16) rfl rfl Try.func23 (by kernel_rfl) rfl #[.int .u16 (Go.bits .and .u16 a0 1023), .int .i64 (Int.tmod (wrap64 ((Int.tmod a1 1023) + 1023)) 1023)] rfl (by (try simp only [List.map_toArray, List.map_cons, List.map_nil]); first | done | rfl | (simp only [List.length_drop, List.length_take]; rfl)) ?_; (with_reducible refine (blackboardref1_power.calls k (Go.bits .and .u16 a0 1023) (Int.tmod (wrap64 ((Int.tmod a1 1023) + 1023)) 1023) t229 _ A5.out).mono ?_); rintro e w' ⟨rfl, ⟨nd, rfl⟩⟩; refine ⟨_, rfl, ?_⟩))
      go_ret
      exact ⟨by first | rfl | (simp; done) | (simp [*]; done), by repeat (first | exact Drawn0.refl _ | apply Drawn0.step)⟩

/-! ### blackboardlaw2_reckons: function 14 -/
def blackboardlaw2_reckons.j0 : Nat → Int → Int → Int → Int → Bool → Int → Bool → Bool → List Int → List Int → Option (Bool)
  | 0, _, _, _, _, _, _, _, _, _, _ => none
  | k + 1, x1, x2, x3, x9, x10, x11, x12, x62, x231000, x231001 => if x62 = true then (some false) else ((field_Add.f x1 x2).bind fun t238 => (if t238 = (Go.bits .and .u16 (Go.bits .xor .u16 x1 x2) 1023) then ((field_Tables_Mul.f k x231000 x231001 x1 x2).bind fun t239 => ((blackboardref1_Mul.f k x1 x2).bind fun t240 => (if t239 = t240 then (if x9 = x11 then (if (x10 == x12) = true then ((field_Tables_Pow.f k x231000 x231001 x1 x3).bind fun t241 => ((blackboardref1_Pow.f k x1 x3).bind fun t242 => (if t241 = t242 then ((field_Tables_Exp.f k x231000 x231001 x3).bind fun t243 => ((blackboardref1_Exp.f k x3).bind fun t244 => (some (t243 == t244)))) else (some false)))) else (some false)) else (some false)) else (some false)))) else (some false)))
def blackboardlaw2_reckons.f (k : Nat) (l0_0 : List Int) (l0_1 : List Int) (a1 : Int) (a2 : Int) (a3 : Int) : Option (Bool) := (field_Tables_Inv.f k l0_0 l0_1 a1).bind fun bt231 => ((blackboardref1_Inv.f k a1).bind fun bt233 => ((field_Tables_Log.f k l0_0 l0_1 a1).bind fun bt235 => (if (bt235.2 != ((Go.bits .and .u16 a1 1023) != 0)) = true then (blackboardlaw2_reckons.j0 k a1 a2 a3 bt231.1 bt231.2 bt233.1 bt233.2 true l0_0 l0_1) else (if bt235.2 = true then (if bt235.1 < 0 then (blackboardlaw2_reckons.j0 k a1 a2 a3 bt231.1 bt231.2 bt233.1 bt233.2 true l0_0 l0_1) else (if bt235.1 > 1022 then (blackboardlaw2_reckons.j0 k a1 a2 a3 bt231.1 bt231.2 bt233.1 bt233.2 true l0_0 l0_1) else ((blackboardref1_Exp.f k bt235.1).bind fun t237 => (if t237 = (Go.bits .and .u16 a1 1023) then (blackboardlaw2_reckons.j0 k a1 a2 a3 bt231.1 bt231.2 bt233.1 bt233.2 false l0_0 l0_1) else (blackboardlaw2_reckons.j0 k a1 a2 a3 bt231.1 bt231.2 bt233.1 bt233.2 true l0_0 l0_1))))) else (blackboardlaw2_reckons.j0 k a1 a2 a3 bt231.1 bt231.2 bt233.1 bt233.2 (bt235.1 != 0) l0_0 l0_1)))))
theorem blackboardlaw2_reckons.mono_l : ∀ k, (∀ y0 y1 y2 y3 y4 y5 y6 y7 y8 y9, LeO (blackboardlaw2_reckons.j0 k y0 y1 y2 y3 y4 y5 y6 y7 y8 y9) (blackboardlaw2_reckons.j0 (k + 1) y0 y1 y2 y3 y4 y5 y6 y7 y8 y9))
  | 0 => fun _ _ _ _ _ _ _ _ _ _ r h => by simp [blackboardlaw2_reckons.j0] at h
  | k + 1 => by
    have ih0 := blackboardlaw2_reckons.mono_l k
    · intro y0 y1 y2 y3 y4 y5 y6 y7 y8 y9
      unfold blackboardlaw2_reckons.j0
      repeat' first
      | (with_reducible exact ih0 _ _ _ _ _ _ _ _ _ _)
      | (with_reducible exact blackboardref1_Exp.mono _ _)
      | (with_reducible exact blackboardref1_Inv.mono _ _)
      | (with_reducible exact blackboardref1_Mul.mono _ _ _)
      | (with_reducible exact blackboardref1_Pow.mono _ _ _)
      | (with_reducible exact field_Tables_Exp.mono _ _ _ _)
      | (with_reducible exact field_Tables_Inv.mono _ _ _ _)
      | (with_reducible exact field_Tables_Log.mono _ _ _ _)
      | (with_reducible exact field_Tables_Mul.mono _ _ _ _ _)
      | (with_reducible exact field_Tables_Pow.mono _ _ _ _ _)
      | (with_reducible exact LeO.refl _)
      | (with_reducible exact LeO.none _)
      | (with_reducible refine LeO.ite ?_ ?_)
      | (with_reducible refine LeO.bind ?_ (fun _ => ?_))
      | exact ih0 _ _ _ _ _ _ _ _ _ _
      | exact blackboardref1_Exp.mono _ _
      | exact blackboardref1_Inv.mono _ _
      | exact blackboardref1_Mul.mono _ _ _
      | exact blackboardref1_Pow.mono _ _ _
      | exact field_Tables_Exp.mono _ _ _ _
      | exact field_Tables_Inv.mono _ _ _ _
      | exact field_Tables_Log.mono _ _ _ _
      | exact field_Tables_Mul.mono _ _ _ _ _
      | exact field_Tables_Pow.mono _ _ _ _ _
      | exact LeO.none _
      | refine LeO.ite ?_ ?_
      | refine LeO.bind ?_ (fun _ => ?_)
theorem blackboardlaw2_reckons.mono : ∀ a0 a1 a2 a3 a4 k, LeO (blackboardlaw2_reckons.f k a0 a1 a2 a3 a4) (blackboardlaw2_reckons.f (k + 1) a0 a1 a2 a3 a4) := by
  intro a0 a1 a2 a3 a4 k
  have ih0 := blackboardlaw2_reckons.mono_l k
  unfold blackboardlaw2_reckons.f
  repeat' first
      | (with_reducible exact ih0 _ _ _ _ _ _ _ _ _ _)
      | (with_reducible exact blackboardref1_Exp.mono _ _)
      | (with_reducible exact blackboardref1_Inv.mono _ _)
      | (with_reducible exact blackboardref1_Mul.mono _ _ _)
      | (with_reducible exact blackboardref1_Pow.mono _ _ _)
      | (with_reducible exact field_Tables_Exp.mono _ _ _ _)
      | (with_reducible exact field_Tables_Inv.mono _ _ _ _)
      | (with_reducible exact field_Tables_Log.mono _ _ _ _)
      | (with_reducible exact field_Tables_Mul.mono _ _ _ _ _)
      | (with_reducible exact field_Tables_Pow.mono _ _ _ _ _)
      | (with_reducible exact LeO.refl _)
      | (with_reducible exact LeO.none _)
      | (with_reducible refine LeO.ite ?_ ?_)
      | (with_reducible refine LeO.bind ?_ (fun _ => ?_))
      | exact ih0 _ _ _ _ _ _ _ _ _ _
      | exact blackboardref1_Exp.mono _ _
      | exact blackboardref1_Inv.mono _ _
      | exact blackboardref1_Mul.mono _ _ _
      | exact blackboardref1_Pow.mono _ _ _
      | exact field_Tables_Exp.mono _ _ _ _
      | exact field_Tables_Inv.mono _ _ _ _
      | exact field_Tables_Log.mono _ _ _ _
      | exact field_Tables_Mul.mono _ _ _ _ _
      | exact field_Tables_Pow.mono _ _ _ _ _
      | exact LeO.none _
      | refine LeO.ite ?_ ?_
      | refine LeO.bind ?_ (fun _ => ?_)
set_option maxHeartbeats 8000000 in
set_option maxRecDepth 100000 in
theorem blackboardlaw2_reckons.calls (k : Nat) (A0_0 : Option Addr) (c0_0 : Nat) (l0_0 : List Int) (A0_1 : Option Addr) (c0_1 : Nat) (l0_1 : List Int) (a1 : Int) (a2 : Int) (a3 : Int) (r : Bool) (w : World) (hr0_0 : Kd.C (Kd.int .u16) w A0_0 l0_0.length l0_0) (hc0_0 : l0_0.length ≤ c0_0) (hr0_1 : Kd.C (Kd.int .i64) w A0_1 l0_1.length l0_1) (hc0_1 : l0_1.length ≤ c0_1) (h : blackboardlaw2_reckons.f k l0_0 l0_1 a1 a2 a3 = some r) :
    Calls Try.prog 14 #[.agg #[.slice A0_0 l0_0.length c0_0, .slice A0_1 l0_1.length c0_1], .int .u16 a1, .int .u16 a2, .int .i64 a3] w fun e w' => e = .returned (.bool r) ∧ Below w.heap.size w w' := by
  have hu27 := Try.underlying27
  have hfd0 : ∀ (v x : Value) (w : World), (Instr.field 27 (.agg #[v, x]) 0).run Try.prog w = .ok v w := fun _ _ _ => by kernel_rfl
  have hfd1 : ∀ (v x : Value) (w : World), (Instr.field 27 (.agg #[v, x]) 1).run Try.prog w = .ok x w := fun _ _ _ => by kernel_rfl
  have HR0_0 := Aside0.mk hr0_0
  have HC0_0 := Aside0.mk hc0_0
  clear hr0_0 hc0_0
  have HR0_1 := Aside0.mk hr0_1
  have HC0_1 := Aside0.mk hc0_1
  clear hr0_1 hc0_1
  have HB := Aside0.mk (Below.refl w.heap.size w)
  have H : ((field_Tables_Inv.f k l0_0 l0_1 a1).bind fun bt231 => ((blackboardref1_Inv.f k a1).bind fun bt233 => ((field_Tables_Log.f k l0_0 l0_1 a1).bind fun bt235 => (if (bt235.2 != ((Go.bits .and .u16 a1 1023) != 0)) = true then (blackboardlaw2_reckons.j0 k a1 a2 a3 bt231.1 bt231.2 bt233.1 bt233.2 true l0_0 l0_1) else (if bt235.2 = true then (if bt235.1 < 0 then (blackboardlaw2_reckons.j0 k a1 a2 a3 bt231.1 bt231.2 bt233.1 bt233.2 true l0_0 l0_1) else (if bt235.1 > 1022 then (blackboardlaw2_reckons.j0 k a1 a2 a3 bt231.1 bt231.2 bt233.1 bt233.2 true l0_0 l0_1) else ((blackboardref1_Exp.f k bt235.1).bind fun t237 => (if t237 = (Go.bits .and .u16 a1 1023) then (blackboardlaw2_reckons.j0 k a1 a2 a3 bt231.1 bt231.2 bt233.1 bt233.2 false l0_0 l0_1) else (blackboardlaw2_reckons.j0 k a1 a2 a3 bt231.1 bt231.2 bt233.1 bt233.2 true l0_0 l0_1))))) else (blackboardlaw2_reckons.j0 k a1 a2 a3 bt231.1 bt231.2 bt233.1 bt233.2 (bt235.1 != 0) l0_0 l0_1)))))) = some r := h
  clear h
  replace H := Option.bind_eq_some_iff.mp H
  obtain ⟨⟨t231, t232⟩, A50, H⟩ := H
  replace H : ((blackboardref1_Inv.f k a1).bind fun bt233 => ((field_Tables_Log.f k l0_0 l0_1 a1).bind fun bt235 => (if (bt235.2 != ((Go.bits .and .u16 a1 1023) != 0)) = true then (blackboardlaw2_reckons.j0 k a1 a2 a3 t231 t232 bt233.1 bt233.2 true l0_0 l0_1) else (if bt235.2 = true then (if bt235.1 < 0 then (blackboardlaw2_reckons.j0 k a1 a2 a3 t231 t232 bt233.1 bt233.2 true l0_0 l0_1) else (if bt235.1 > 1022 then (blackboardlaw2_reckons.j0 k a1 a2 a3 t231 t232 bt233.1 bt233.2 true l0_0 l0_1) else ((blackboardref1_Exp.f k bt235.1).bind fun t237 => (if t237 = (Go.bits .and .u16 a1 1023) then (blackboardlaw2_reckons.j0 k a1 a2 a3 t231 t232 bt233.1 bt233.2 false l0_0 l0_1) else (blackboardlaw2_reckons.j0 k a1 a2 a3 t231 t232 bt233.1 bt233.2 true l0_0 l0_1))))) else (blackboardlaw2_reckons.j0 k a1 a2 a3 t231 t232 bt233.1 bt233.2 (bt235.1 != 0) l0_0 l0_1))))) = some r := H
  have A5 := Aside0.mk A50
  clear A50
  replace H := Option.bind_eq_some_iff.mp H
  obtain ⟨⟨t233, t234⟩, A60, H⟩ := H
  replace H : ((field_Tables_Log.f k l0_0 l0_1 a1).bind fun bt235 => (if (bt235.2 != ((Go.bits .and .u16 a1 1023) != 0)) = true then (blackboardlaw2_reckons.j0 k a1 a2 a3 t231 t232 t233 t234 true l0_0 l0_1) else (if bt235.2 = true then (if bt235.1 < 0 then (blackboardlaw2_reckons.j0 k a1 a2 a3 t231 t232 t233 t234 true l0_0 l0_1) else (if bt235.1 > 1022 then (blackboardlaw2_reckons.j0 k a1 a2 a3 t231 t232 t233 t234 true l0_0 l0_1) else ((blackboardref1_Exp.f k bt235.1).bind fun t237 => (if t237 = (Go.bits .and .u16 a1 1023) then (blackboardlaw2_reckons.j0 k a1 a2 a3 t231 t232 t233 t234 false l0_0 l0_1) else (blackboardlaw2_reckons.j0 k a1 a2 a3 t231 t232 t233 t234 true l0_0 l0_1))))) else (blackboardlaw2_reckons.j0 k a1 a2 a3 t231 t232 t233 t234 (bt235.1 != 0) l0_0 l0_1)))) = some r := H
  have A6 := Aside0.mk A60
  clear A60
  replace H := Option.bind_eq_some_iff.mp H
  obtain ⟨⟨t235, t236⟩, A70, H⟩ := H
  replace H : (if (t236 != ((Go.bits .and .u16 a1 1023) != 0)) = true then (blackboardlaw2_reckons.j0 k a1 a2 a3 t231 t232 t233 t234 true l0_0 l0_1) else (if t236 = true then (if t235 < 0 then (blackboardlaw2_reckons.j0 k a1 a2 a3 t231 t232 t233 t234 true l0_0 l0_1) else (if t235 > 1022 then (blackboardlaw2_reckons.j0 k a1 a2 a3 t231 t232 t233 t234 true l0_0 l0_1) else ((blackboardref1_Exp.f k t235).bind fun t237 => (if t237 = (Go.bits .and .u16 a1 1023) then (blackboardlaw2_reckons.j0 k a1 a2 a3 t231 t232 t233 t234 false l0_0 l0_1) else (blackboardlaw2_reckons.j0 k a1 a2 a3 t231 t232 t233 t234 true l0_0 l0_1))))) else (blackboardlaw2_reckons.j0 k a1 a2 a3 t231 t232 t233 t234 (t235 != 0) l0_0 l0_1))) = some r := H
  have A7 := Aside0.mk A70
  clear A70
  have HC8 := Aside0.mk H
  clear H
  go_enter Try.func14, Try.ntmps14
  go_upto_region 4 with (first | ((with_reducible refine gate_dst (N := 4) rfl ?_); refine box_event ?hg (N := 4) ?hd (cs := #[.slice A0_0 l0_0.length c0_0, .slice A0_1 l0_1.length c0_1]) (t := 27) ?hr ?_; (case hd => rfl); (case hg => rfl); (case hr => first | (go_simp; done) | (go_simp; rfl)); intro gb230 hg w9 hbox hb; have n0_ := Aside0.mk (below_step (by repeat (first | (with_reducible first | exact HB.out | apply below_alloc | apply pw_below_drewN | apply below_drew1) | exact HB.out)) hb); have n1_ := Aside0.mk (hbox); have n2_ := Aside0.mk ((by rw [hg]; exact (below_size (by repeat (first | (with_reducible first | exact HB.out | apply below_alloc | apply pw_below_drewN | apply below_drew1) | exact HB.out))) : w.heap.size ≤ gb230)); have n3_ := Aside0.mk ((by rw [hg]; exact (below_size (by repeat (first | (with_reducible first | exact HB.out | apply below_alloc | apply pw_below_drewN | apply below_drew1) | exact HB.out))) : w.heap.size ≤ gb230)); clear HB; have HB := n0_; have BK230 := n1_; have GW230 := n2_; have GE230 := n3_; clear n0_ n1_ n2_ n3_; clear hb hbox hg; have hcz10_0 : w9.cell? ⟨gb230, 0, none⟩ = some (.slice A0_0 l0_0.length c0_0) := (blk_cell BK230.out 0).trans rfl; have hcz10_1 : w9.cell? ⟨gb230, 1, none⟩ = some (.slice A0_1 l0_1.length c0_1) := (blk_cell BK230.out 1).trans rfl; have hfz10_0 := blk_frozen BK230.out 0; have hfz10_1 := blk_frozen BK230.out 1) | ((with_reducible refine gate_callee (f := 11) rfl ?_); refine goesL_ (some 18) rfl rfl Try.func11 (by kernel_rfl) rfl #[.agg #[.slice A0_0 l0_0.length c0_0, .slice A0_1 l0_1.length c0_1], .int .u16 a1] rfl (by (try simp only [List.map_toArray, List.map_cons, List.map_nil]); first | done | rfl | (simp only [List.length_drop, List.length_take]; rfl)) ?_; (with_reducible refine (field_Tables_Inv.calls k _ _ l0_0 _ _ l0_1 a1 t231 t232 _ ?side1 ?side2 ?side3 ?side4 A5.out).mono ?_); (case side1 => repeat (first | exact (Kd.C_below HR0_0.out HB.out) | (with_reducible refine Kd.C_alloc ?_ _) | (with_reducible refine Kd.C_drewN ?_ _) | (with_reducible refine Kd.C_drew ?_))); (case side2 => exact HC0_0.out); (case side3 => repeat (first | exact (Kd.C_below HR0_1.out HB.out) | (with_reducible refine Kd.C_alloc ?_ _) | (with_reducible refine Kd.C_drewN ?_ _) | (with_reducible refine Kd.C_drew ?_))); (case side4 => exact HC0_1.out); rintro e w11 ⟨rfl, hb⟩; refine ⟨_, rfl, ?_⟩; have n0_ := Aside0.mk (blk_below (g := gb230) (o := .cells #[.slice A0_0 l0_0.length c0_0, .slice A0_1 l0_1.length c0_1] 27 (0, 0)) (by (with_reducible repeat (first | refine blk_drewN ?_ _ | refine blk_drew ?_ | refine blk_alloc ?_ _)); exact BK230.out) hb); have n1_ := Aside0.mk (below_step (by repeat (first | (with_reducible first | exact HB.out | apply below_alloc | apply pw_below_drewN | apply below_drew1 | refine below_set ?_ GE230.out) | exact HB.out)) hb); clear BK230; clear HB; have BK230 := n0_; have HB := n1_; clear n0_ n1_; (try clear hb); (try clear hb2); (try clear hk); (try clear hi)) | ((with_reducible refine gate_callee (f := 19) rfl ?_); refine goesL_ (some 23) rfl rfl Try.func19 (by kernel_rfl) rfl #[.int .u16 a1] rfl (by (try simp only [List.map_toArray, List.map_cons, List.map_nil]); first | done | rfl | (simp only [List.length_drop, List.length_take]; rfl)) ?_; (with_reducible refine (blackboardref1_Inv.calls k a1 t233 t234 _ A6.out).mono ?_); rintro e w' ⟨rfl, ⟨nd, rfl⟩⟩; refine ⟨_, rfl, ?_⟩; have hcz12_0 : w11.cell? ⟨gb230, 0, none⟩ = some (.slice A0_0 l0_0.length c0_0) := (blk_cell BK230.out 0).trans rfl; have hcz12_1 : w11.cell? ⟨gb230, 1, none⟩ = some (.slice A0_1 l0_1.length c0_1) := (blk_cell BK230.out 1).trans rfl; have hfz12_0 := blk_frozen BK230.out 0; have hfz12_1 := blk_frozen BK230.out 1) | ((with_reducible refine gate_callee (f := 15) rfl ?_); refine goesL_ (some 29) rfl rfl Try.func15 (by kernel_rfl) rfl #[.agg #[.slice A0_0 l0_0.length c0_0, .slice A0_1 l0_1.length c0_1], .int .u16 a1] rfl (by (try simp only [List.map_toArray, List.map_cons, List.map_nil]); first | done | rfl | (simp only [List.length_drop, List.length_take]; rfl)) ?_; (with_reducible refine (field_Tables_Log.calls k _ _ l0_0 _ _ l0_1 a1 t235 t236 _ ?side1 ?side2 ?side3 ?side4 A7.out).mono ?_); (case side1 => repeat (first | exact (Kd.C_below HR0_0.out (by repeat (first | (with_reducible first | exact HB.out | apply below_alloc | apply pw_below_drewN | apply below_drew1 | refine below_set ?_ GE230.out) | exact HB.out))) | (with_reducible refine Kd.C_alloc ?_ _) | (with_reducible refine Kd.C_drewN ?_ _) | (with_reducible refine Kd.C_drew ?_))); (case side2 => exact HC0_0.out); (case side3 => repeat (first | exact (Kd.C_below HR0_1.out (by repeat (first | (with_reducible first | exact HB.out | apply below_alloc | apply pw_below_drewN | apply below_drew1 | refine below_set ?_ GE230.out) | exact HB.out))) | (with_reducible refine Kd.C_alloc ?_ _) | (with_reducible refine Kd.C_drewN ?_ _) | (with_reducible refine Kd.C_drew ?_))); (case side4 => exact HC0_1.out); rintro e w13 ⟨rfl, hb⟩; refine ⟨_, rfl, ?_⟩; have n0_ := Aside0.mk (blk_below (g := gb230) (o := .cells #[.slice A0_0 l0_0.length c0_0, .slice A0_1 l0_1.length c0_1] 27 (0, 0)) (by (with_reducible repeat (first | refine blk_drewN ?_ _ | refine blk_drew ?_ | refine blk_alloc ?_ _)); exact BK230.out) hb); have n1_ := Aside0.mk (below_step (by repeat (first | (with_reducible first | exact HB.out | apply below_alloc | apply pw_below_drewN | apply below_drew1 | refine below_set ?_ GE230.out) | exact HB.out)) hb); clear BK230; clear HB; have BK230 := n0_; have HB := n1_; clear n0_ n1_; (try clear hb); (try clear hb2); (try clear hk); (try clear hi)))
  (try simp only [Act.put, List.setIfInBounds_toArray, List.set_cons_zero, List.set_cons_succ])
  go_cut [62] (fun v62 wc => ∃ (kq : Nat) (x62_7 : Bool), v62 = .bool x62_7 ∧ Aside0 (blackboardlaw2_reckons.j0 kq a1 a2 a3 t231 t232 t233 t234 x62_7 l0_0 l0_1 = some r) ∧ Aside0 (kq ≤ k) ∧ Aside0 (wc.heap[gb230]? = some (.cells #[(.slice A0_0 l0_0.length c0_0), (.slice A0_1 l0_1.length c0_1)] 27 (0, 0))) ∧ Aside0 (Below w.heap.size w wc))
  case first =>
    have H := HC8.out
    clear HC8
    by_cases c14 : (t236 != ((Go.bits .and .u16 a1 1023) != 0)) = true
    · rw [if_pos c14] at H
      have c14b0 : (t236 != ((Go.bits .and .u16 a1 1023) != 0)) = true := c14
      (try (have c14b1 : decide (t236 = ((Go.bits .and .u16 a1 1023) != 0)) = false := by simpa using c14))
      (try (have c14b2 : (t236 == ((Go.bits .and .u16 a1 1023) != 0)) = false := by simpa using c14))
      (try (have c14b3 : ¬ (t236 = ((Go.bits .and .u16 a1 1023) != 0)) := by simpa using c14))
      clear c14
      (first | rw [c14b0] | (simp only [i64_w, i32_w]; rw [c14b0]) | skip)
      have H' := Aside0.mk H
      clear H
      go_wp2
      go_meet
      case rel => exact ⟨_, (true), (by first | rfl | (simp; done) | (simp [*]; done)), H', ⟨by first | omega | exact Nat.le_refl _⟩, ⟨by (with_reducible repeat (first | refine blk_drewN ?_ _ | refine blk_drew ?_ | refine blk_alloc ?_ _)); exact BK230.out⟩, ⟨by repeat (first | (with_reducible first | exact HB.out | apply below_alloc | apply pw_below_drewN | apply below_drew1 | refine below_set ?_ GE230.out) | exact HB.out)⟩⟩
    · rw [if_neg c14] at H
      have c14b0 : (t236 != ((Go.bits .and .u16 a1 1023) != 0)) = false := by simpa using c14
      (try (have c14b1 : decide (t236 = ((Go.bits .and .u16 a1 1023) != 0)) = true := by simpa using c14))
      (try (have c14b2 : (t236 == ((Go.bits .and .u16 a1 1023) != 0)) = true := by simpa using c14))
      clear c14
      (first | rw [c14b0] | (simp only [i64_w, i32_w]; rw [c14b0]) | skip)
      by_cases c15 : t236 = true
      · subst c15
        have H1 : (if t235 < 0 then (blackboardlaw2_reckons.j0 k a1 a2 a3 t231 t232 t233 t234 true l0_0 l0_1) else (if t235 > 1022 then (blackboardlaw2_reckons.j0 k a1 a2 a3 t231 t232 t233 t234 true l0_0 l0_1) else ((blackboardref1_Exp.f k t235).bind fun t237 => (if t237 = (Go.bits .and .u16 a1 1023) then (blackboardlaw2_reckons.j0 k a1 a2 a3 t231 t232 t233 t234 false l0_0 l0_1) else (blackboardlaw2_reckons.j0 k a1 a2 a3 t231 t232 t233 t234 true l0_0 l0_1))))) = some r := by rw [if_pos rfl] at H; exact H
        clear H
        have H := H1
        clear H1
        by_cases c16 : t235 < 0
        · rw [if_pos c16] at H
          have c16b0 : decide (t235 < 0) = true := decide_eq_true c16
          clear c16
          have H' := Aside0.mk H
          clear H
          go_wp2
          go_meet
          case rel => exact ⟨_, (true), (by first | rfl | (simp; done) | (simp [*]; done)), H', ⟨by first | omega | exact Nat.le_refl _⟩, ⟨by (with_reducible repeat (first | refine blk_drewN ?_ _ | refine blk_drew ?_ | refine blk_alloc ?_ _)); exact BK230.out⟩, ⟨by repeat (first | (with_reducible first | exact HB.out | apply below_alloc | apply pw_below_drewN | apply below_drew1 | refine below_set ?_ GE230.out) | exact HB.out)⟩⟩
        · rw [if_neg c16] at H
          have c16b0 : decide (t235 < 0) = false := decide_eq_false c16
          clear c16
          by_cases c17 : t235 > 1022
          · rw [if_pos c17] at H
            have c17b0 : decide (1022 < t235) = true := decide_eq_true c17
            clear c17
            have H' := Aside0.mk H
            clear H
            go_wp2
            go_meet
            case rel => exact ⟨_, (true), (by first | rfl | (simp; done) | (simp [*]; done)), H', ⟨by first | omega | exact Nat.le_refl _⟩, ⟨by (with_reducible repeat (first | refine blk_drewN ?_ _ | refine blk_drew ?_ | refine blk_alloc ?_ _)); exact BK230.out⟩, ⟨by repeat (first | (with_reducible first | exact HB.out | apply below_alloc | apply pw_below_drewN | apply below_drew1 | refine below_set ?_ GE230.out) | exact HB.out)⟩⟩
          · rw [if_neg c17] at H
            have c17b0 : decide (1022 < t235) = false := decide_eq_false c17
            clear c17
            replace H := Option.bind_eq_some_iff.mp H
            obtain ⟨t237, A180, H⟩ := H
            replace H : (if t237 = (Go.bits .and .u16 a1 1023) then (blackboardlaw2_reckons.j0 k a1 a2 a3 t231 t232 t233 t234 false l0_0 l0_1) else (blackboardlaw2_reckons.j0 k a1 a2 a3 t231 t232 t233 t234 true l0_0 l0_1)) = some r := H
            have A18 := Aside0.mk A180
            clear A180
            by_cases c19 : t237 = (Go.bits .and .u16 a1 1023)
            · rw [if_pos c19] at H
              have c19b0 : (t237 == (Go.bits .and .u16 a1 1023)) = true := beq_iff_eq.mpr c19
              have c19b1 : (t237 != (Go.bits .and .u16 a1 1023)) = false := bne_eq_false_iff_eq.mpr c19
              clear c19
              have H' := Aside0.mk H
              clear H
              go_wp2_with (first | (go_at_call 20; (with_reducible refine (blackboardref1_Exp.calls k t235 t237 _ A18.out).mono ?_); rintro e w' ⟨rfl, ⟨nd, rfl⟩⟩))
              go_meet
              case rel => exact ⟨_, (false), (by first | rfl | (simp; done) | (simp [*]; done)), H', ⟨by first | omega | exact Nat.le_refl _⟩, ⟨by (with_reducible repeat (first | refine blk_drewN ?_ _ | refine blk_drew ?_ | refine blk_alloc ?_ _)); exact BK230.out⟩, ⟨by repeat (first | (with_reducible first | exact HB.out | apply below_alloc | apply pw_below_drewN | apply below_drew1 | refine below_set ?_ GE230.out) | exact HB.out)⟩⟩
            · rw [if_neg c19] at H
              have c19b0 : (t237 == (Go.bits .and .u16 a1 1023)) = false := beq_eq_false_iff_ne.mpr c19
              have c19b1 : (t237 != (Go.bits .and .u16 a1 1023)) = true := bne_iff_ne.mpr c19
              have H' := Aside0.mk H
              clear H
              go_wp2_with (first | (go_at_call 20; (with_reducible refine (blackboardref1_Exp.calls k t235 t237 _ A18.out).mono ?_); rintro e w' ⟨rfl, ⟨nd, rfl⟩⟩))
              go_meet
              case rel => exact ⟨_, (true), (by first | rfl | (simp; done) | (simp [*]; done)), H', ⟨by first | omega | exact Nat.le_refl _⟩, ⟨by (with_reducible repeat (first | refine blk_drewN ?_ _ | refine blk_drew ?_ | refine blk_alloc ?_ _)); exact BK230.out⟩, ⟨by repeat (first | (with_reducible first | exact HB.out | apply below_alloc | apply pw_below_drewN | apply below_drew1 | refine below_set ?_ GE230.out) | exact HB.out)⟩⟩
      · replace c15 := Bool.eq_false_iff.mpr c15
        subst c15
        have H1 : (blackboardlaw2_reckons.j0 k a1 a2 a3 t231 t232 t233 t234 (t235 != 0) l0_0 l0_1) = some r := by rw [if_neg (show ¬ (false = true) by decide)] at H; exact H
        clear H
        have H := H1
        clear H1
        have H' := Aside0.mk H
        clear H
        go_wp2
        go_meet
        case rel => exact ⟨_, ((t235 != 0)), (by first | rfl | (simp; done) | (simp [*]; done)), H', ⟨by first | omega | exact Nat.le_refl _⟩, ⟨by (with_reducible repeat (first | refine blk_drewN ?_ _ | refine blk_drew ?_ | refine blk_alloc ?_ _)); exact BK230.out⟩, ⟨by repeat (first | (with_reducible first | exact HB.out | apply below_alloc | apply pw_below_drewN | apply below_drew1 | refine below_set ?_ GE230.out) | exact HB.out)⟩⟩
  case rest =>
    clear HC8
    try clear c1
    try clear p2
    try clear c11
    try clear c14
    try clear c14b0
    try clear c14b1
    try clear c14b2
    try clear c15
    try clear c16
    try clear c16b0
    try clear c17
    try clear c17b0
    try clear c19
    try clear c19b0
    try clear c19b1
    try clear hcz10_0
    try clear hcz10_1
    try clear hcz12_0
    try clear hcz12_1
    try clear hfz10_0
    try clear hfz10_1
    try clear hfz12_0
    try clear hfz12_1
    obtain ⟨kq, x62_7, rfl, HA, HJ7, BK230, HB⟩ := hcut
    cases kq with
    | zero => exact absurd HA.out (by simp [blackboardlaw2_reckons.j0])
    | succ kj7 =>
      have H := HA.out
      clear HA
      simp only [blackboardlaw2_reckons.j0] at H
      by_cases c20 : x62_7 = true
      · subst c20
        have H1 : (some false) = some r := by rw [if_pos rfl] at H; exact H
        clear H
        have H := H1
        clear H1
        obtain rfl := Option.some.inj H
        go_wp2
        go_ret
        exact ⟨by first | rfl | (simp [errW_none, errW_some] <;> rfl) | (simp [*, errW_none, errW_some] <;> rfl), by repeat (first | (with_reducible first | exact HB.out | apply below_alloc | apply pw_below_drewN | apply below_drew1 | refine below_set ?_ GE230.out) | exact HB.out)⟩
      · replace c20 := Bool.eq_false_iff.mpr c20
        subst c20
        have H1 : ((field_Add.f a1 a2).bind fun t238 => (if t238 = (Go.bits .and .u16 (Go.bits .xor .u16 a1 a2) 1023) then ((field_Tables_Mul.f kj7 l0_0 l0_1 a1 a2).bind fun t239 => ((blackboardref1_Mul.f kj7 a1 a2).bind fun t240 => (if t239 = t240 then (if t231 = t233 then (if (t232 == t234) = true then ((field_Tables_Pow.f kj7 l0_0 l0_1 a1 a3).bind fun t241 => ((blackboardref1_Pow.f kj7 a1 a3).bind fun t242 => (if t241 = t242 then ((field_Tables_Exp.f kj7 l0_0 l0_1 a3).bind fun t243 => ((blackboardref1_Exp.f kj7 a3).bind fun t244 => (some (t243 == t244)))) else (some false)))) else (some false)) else (some false)) else (some false)))) else (some false))) = some r := by rw [if_neg (show ¬ (false = true) by decide)] at H; exact H
        clear H
        have H := H1
        clear H1
        replace H := Option.bind_eq_some_iff.mp H
        obtain ⟨t238, A210, H⟩ := H
        replace H : (if t238 = (Go.bits .and .u16 (Go.bits .xor .u16 a1 a2) 1023) then ((field_Tables_Mul.f kj7 l0_0 l0_1 a1 a2).bind fun t239 => ((blackboardref1_Mul.f kj7 a1 a2).bind fun t240 => (if t239 = t240 then (if t231 = t233 then (if (t232 == t234) = true then ((field_Tables_Pow.f kj7 l0_0 l0_1 a1 a3).bind fun t241 => ((blackboardref1_Pow.f kj7 a1 a3).bind fun t242 => (if t241 = t242 then ((field_Tables_Exp.f kj7 l0_0 l0_1 a3).bind fun t243 => ((blackboardref1_Exp.f kj7 a3).bind fun t244 => (some (t243 == t244)))) else (some false)))) else (some false)) else (some false)) else (some false)))) else (some false)) = some r := H
        have A21 := Aside0.mk A210
        clear A210
        by_cases c22 : t238 = (Go.bits .and .u16 (Go.bits .xor .u16 a1 a2) 1023)
        · rw [if_pos c22] at H
          have c22b0 : (t238 == (Go.bits .and .u16 (Go.bits .xor .u16 a1 a2) 1023)) = true := beq_iff_eq.mpr c22
          have c22b1 : (t238 != (Go.bits .and .u16 (Go.bits .xor .u16 a1 a2) 1023)) = false := bne_eq_false_iff_eq.mpr c22
          clear c22
          replace H := Option.bind_eq_some_iff.mp H
          obtain ⟨t239, A230, H⟩ := H
          replace H : ((blackboardref1_Mul.f kj7 a1 a2).bind fun t240 => (if t239 = t240 then (if t231 = t233 then (if (t232 == t234) = true then ((field_Tables_Pow.f kj7 l0_0 l0_1 a1 a3).bind fun t241 => ((blackboardref1_Pow.f kj7 a1 a3).bind fun t242 => (if t241 = t242 then ((field_Tables_Exp.f kj7 l0_0 l0_1 a3).bind fun t243 => ((blackboardref1_Exp.f kj7 a3).bind fun t244 => (some (t243 == t244)))) else (some false)))) else (some false)) else (some false)) else (some false))) = some r := H
          have A23 := Aside0.mk A230
          clear A230
          replace H := Option.bind_eq_some_iff.mp H
          obtain ⟨t240, A240, H⟩ := H
          replace H : (if t239 = t240 then (if t231 = t233 then (if (t232 == t234) = true then ((field_Tables_Pow.f kj7 l0_0 l0_1 a1 a3).bind fun t241 => ((blackboardref1_Pow.f kj7 a1 a3).bind fun t242 => (if t241 = t242 then ((field_Tables_Exp.f kj7 l0_0 l0_1 a3).bind fun t243 => ((blackboardref1_Exp.f kj7 a3).bind fun t244 => (some (t243 == t244)))) else (some false)))) else (some false)) else (some false)) else (some false)) = some r := H
          have A24 := Aside0.mk A240
          clear A240
          by_cases c25 : t239 = t240
          · rw [if_pos c25] at H
            have c25b0 : (t239 == t240) = true := beq_iff_eq.mpr c25
            have c25b1 : (t239 != t240) = false := bne_eq_false_iff_eq.mpr c25
            clear c25
            by_cases c26 : t231 = t233
            · rw [if_pos c26] at H
              have c26b0 : (t231 == t233) = true := beq_iff_eq.mpr c26
              have c26b1 : (t231 != t233) = false := bne_eq_false_iff_eq.mpr c26
              clear c26
              by_cases c27 : (t232 == t234) = true
              · rw [if_pos c27] at H
                have c27b0 : (t232 == t234) = true := c27
                (try (have c27b1 : decide (t232 = t234) = true := by simpa using c27))
                (try (have c27b2 : (t232 == t234) = true := by simpa using c27))
                clear c27
                replace H := Option.bind_eq_some_iff.mp H
                obtain ⟨t241, A280, H⟩ := H
                replace H : ((blackboardref1_Pow.f kj7 a1 a3).bind fun t242 => (if t241 = t242 then ((field_Tables_Exp.f kj7 l0_0 l0_1 a3).bind fun t243 => ((blackboardref1_Exp.f kj7 a3).bind fun t244 => (some (t243 == t244)))) else (some false))) = some r := H
                have A28 := Aside0.mk A280
                clear A280
                replace H := Option.bind_eq_some_iff.mp H
                obtain ⟨t242, A290, H⟩ := H
                replace H : (if t241 = t242 then ((field_Tables_Exp.f kj7 l0_0 l0_1 a3).bind fun t243 => ((blackboardref1_Exp.f kj7 a3).bind fun t244 => (some (t243 == t244)))) else (some false)) = some r := H
                have A29 := Aside0.mk A290
                clear A290
                by_cases c30 : t241 = t242
                · rw [if_pos c30] at H
                  have c30b0 : (t241 == t242) = true := beq_iff_eq.mpr c30
                  have c30b1 : (t241 != t242) = false := bne_eq_false_iff_eq.mpr c30
                  clear c30
                  replace H := Option.bind_eq_some_iff.mp H
                  obtain ⟨t243, A310, H⟩ := H
                  replace H : ((blackboardref1_Exp.f kj7 a3).bind fun t244 => (some (t243 == t244))) = some r := H
                  have A31 := Aside0.mk A310
                  clear A310
                  replace H := Option.bind_eq_some_iff.mp H
                  obtain ⟨t244, A320, H⟩ := H
                  replace H : (some (t243 == t244)) = some r := H
                  have A32 := Aside0.mk A320
                  clear A320
                  obtain rfl := Option.some.inj H
                  go_wp2_with (first | ((with_reducible refine gate_callee (f := 13) rfl ?_); refine goesL_ (some 65) rfl rfl Try.func13 (by kernel_rfl) rfl #[.int .u16 a1, .int .u16 a2] rfl (by (try simp only [List.map_toArray, List.map_cons, List.map_nil]); first | done | rfl | (simp only [List.length_drop, List.length_take]; rfl)) ?_; (with_reducible refine (field_Add.calls a1 a2 t238 _ A21.out).mono ?_); rintro e w' ⟨rfl, ⟨nd, rfl⟩⟩; refine ⟨_, rfl, ?_⟩; have hcz33_0 : wc.cell? ⟨gb230, 0, none⟩ = some (.slice A0_0 l0_0.length c0_0) := (blk_cell BK230.out 0).trans rfl; have hcz33_1 : wc.cell? ⟨gb230, 1, none⟩ = some (.slice A0_1 l0_1.length c0_1) := (blk_cell BK230.out 1).trans rfl; have hfz33_0 := blk_frozen BK230.out 0; have hfz33_1 := blk_frozen BK230.out 1) | (go_at_call 12; (with_reducible refine (field_Tables_Mul.calls kj7 _ _ l0_0 _ _ l0_1 a1 a2 t239 _ ?side1 ?side2 ?side3 ?side4 A23.out).mono ?_); (case side1 => repeat (first | exact (Kd.C_below HR0_0.out (by repeat (first | (with_reducible first | exact HB.out | apply below_alloc | apply pw_below_drewN | apply below_drew1 | refine below_set ?_ GE230.out) | exact HB.out))) | (with_reducible refine Kd.C_alloc ?_ _) | (with_reducible refine Kd.C_drewN ?_ _) | (with_reducible refine Kd.C_drew ?_))); (case side2 => exact HC0_0.out); (case side3 => repeat (first | exact (Kd.C_below HR0_1.out (by repeat (first | (with_reducible first | exact HB.out | apply below_alloc | apply pw_below_drewN | apply below_drew1 | refine below_set ?_ GE230.out) | exact HB.out))) | (with_reducible refine Kd.C_alloc ?_ _) | (with_reducible refine Kd.C_drewN ?_ _) | (with_reducible refine Kd.C_drew ?_))); (case side4 => exact HC0_1.out); rintro e w34 ⟨rfl, hb⟩; have n0_ := Aside0.mk (blk_below (g := gb230) (o := .cells #[.slice A0_0 l0_0.length c0_0, .slice A0_1 l0_1.length c0_1] 27 (0, 0)) (by (with_reducible repeat (first | refine blk_drewN ?_ _ | refine blk_drew ?_ | refine blk_alloc ?_ _)); exact BK230.out) hb); have n1_ := Aside0.mk (below_step (by repeat (first | (with_reducible first | exact HB.out | apply below_alloc | apply pw_below_drewN | apply below_drew1 | refine below_set ?_ GE230.out) | exact HB.out)) hb); clear BK230; clear HB; have BK230 := n0_; have HB := n1_; clear n0_ n1_; (try clear hb); (try clear hb2); (try clear hk); (try clear hi)) | (go_at_call 21; (with_reducible refine (blackboardref1_Mul.calls kj7 a1 a2 t240 _ A24.out).mono ?_); rintro e w' ⟨rfl, ⟨nd, rfl⟩⟩; have hcz35_0 : w34.cell? ⟨gb230, 0, none⟩ = some (.slice A0_0 l0_0.length c0_0) := (blk_cell BK230.out 0).trans rfl; have hcz35_1 : w34.cell? ⟨gb230, 1, none⟩ = some (.slice A0_1 l0_1.length c0_1) := (blk_cell BK230.out 1).trans rfl; have hfz35_0 := blk_frozen BK230.out 0; have hfz35_1 := blk_frozen BK230.out 1) | (go_at_call 17; (with_reducible refine (field_Tables_Pow.calls kj7 _ _ l0_0 _ _ l0_1 a1 a3 t241 _ ?side1 ?side2 ?side3 ?side4 A28.out).mono ?_); (case side1 => repeat (first | exact (Kd.C_below HR0_0.out (by repeat (first | (with_reducible first | exact HB.out | apply below_alloc | apply pw_below_drewN | apply below_drew1 | refine below_set ?_ GE230.out) | exact HB.out))) | (with_reducible refine Kd.C_alloc ?_ _) | (with_reducible refine Kd.C_drewN ?_ _) | (with_reducible refine Kd.C_drew ?_))); (case side2 => exact HC0_0.out); (case side3 => repeat (first | exact (Kd.C_below HR0_1.out (by repeat (first | (with_reducible first | exact HB.out | apply below_alloc | apply pw_below_drewN | apply below_drew1 | refine below_set ?_ GE230.out) | exact HB.out))) | (with_reducible refine Kd.C_alloc ?_ _) | (with_reducible refine Kd.C_drewN ?_ _) | (with_reducible refine Kd.C_drew ?_))); (case side4 => exact HC0_1.out); rintro e w36 ⟨rfl, hb⟩; have n0_ := Aside0.mk (blk_below (g := gb230) (o := .cells #[.slice A0_0 l0_0.length c0_0, .slice A0_1 l0_1.length c0_1] 27 (0, 0)) (by (with_reducible repeat (first | refine blk_drewN ?_ _ | refine blk_drew ?_ | refine blk_alloc ?_ _)); exact BK230.out) hb); have n1_ := Aside0.mk (below_step (by repeat (first | (with_reducible first | exact HB.out | apply below_alloc | apply pw_below_drewN | apply below_drew1 | refine below_set ?_ GE230.out) | exact HB.out)) hb); clear BK230; clear HB; have BK230 := n0_; have HB := n1_; clear n0_ n1_; (try clear hb); (try clear hb2); (try clear hk); (try clear hi)) | (go_at_call 22; (with_reducible refine (blackboardref1_Pow.calls kj7 a1 a3 t242 _ A29.out).mono ?_); rintro e w' ⟨rfl, ⟨nd, rfl⟩⟩; have hcz37_0 : w36.cell? ⟨gb230, 0, none⟩ = some (.slice A0_0 l0_0.length c0_0) := (blk_cell BK230.out 0).trans rfl; have hcz37_1 : w36.cell? ⟨gb230, 1, none⟩ = some (.slice A0_1 l0_1.length c0_1) := (blk_cell BK230.out 1).trans rfl; have hfz37_0 := blk_frozen BK230.out 0; have hfz37_1 := blk_frozen BK230.out 1) | (go_at_call 16; (with_reducible refine (field_Tables_Exp.calls kj7 _ _ l0_0 _ _ l0_1 a3 t243 _ ?side1 ?side2 ?side3 ?side4 A31.out).mono ?_); (case side1 => repeat (first | exact (Kd.C_below HR0_0.out (by repeat (first | (with_reducible first | exact HB.out | apply below_alloc | apply pw_below_drewN | apply below_drew1 | refine below_set ?_ GE230.out) | exact HB.out))) | (with_reducible refine Kd.C_alloc ?_ _) | (with_reducible refine Kd.C_drewN ?_ _) | (with_reducible refine Kd.C_drew ?_))); (case side2 => exact HC0_0.out); (case side3 => repeat (first | exact (Kd.C_below HR0_1.out (by repeat (first | (with_reducible first | exact HB.out | apply below_alloc | apply pw_below_drewN | apply below_drew1 | refine below_set ?_ GE230.out) | exact HB.out))) | (with_reducible refine Kd.C_alloc ?_ _) | (with_reducible refine Kd.C_drewN ?_ _) | (with_reducible refine Kd.C_drew ?_))); (case side4 => exact HC0_1.out); rintro e w38 ⟨rfl, hb⟩; have n0_ := Aside0.mk (blk_below (g := gb230) (o := .cells #[.slice A0_0 l0_0.length c0_0, .slice A0_1 l0_1.length c0_1] 27 (0, 0)) (by (with_reducible repeat (first | refine blk_drewN ?_ _ | refine blk_drew ?_ | refine blk_alloc ?_ _)); exact BK230.out) hb); have n1_ := Aside0.mk (below_step (by repeat (first | (with_reducible first | exact HB.out | apply below_alloc | apply pw_below_drewN | apply below_drew1 | refine below_set ?_ GE230.out) | exact HB.out)) hb); clear BK230; clear HB; have BK230 := n0_; have HB := n1_; clear n0_ n1_; (try clear hb); (try clear hb2); (try clear hk); (try clear hi)) | (go_at_call 20; (with_reducible refine (blackboardref1_Exp.calls kj7 a3 t244 _ A32.out).mono ?_); rintro e w' ⟨rfl, ⟨nd, rfl⟩⟩))
                  go_ret
                  exact ⟨by first | rfl | (simp [errW_none, errW_some] <;> rfl) | (simp [*, errW_none, errW_some] <;> rfl), by repeat (first | (with_reducible first | exact HB.out | apply below_alloc | apply pw_below_drewN | apply below_drew1 | refine below_set ?_ GE230.out) | exact HB.out)⟩
                · rw [if_neg c30] at H
                  have c30b0 : (t241 == t242) = false := beq_eq_false_iff_ne.mpr c30
                  have c30b1 : (t241 != t242) = true := bne_iff_ne.mpr c30
                  obtain rfl := Option.some.inj H
                  go_wp2_with (first | ((with_reducible refine gate_callee (f := 13) rfl ?_); refine goesL_ (some 65) rfl rfl Try.func13 (by kernel_rfl) rfl #[.int .u16 a1, .int .u16 a2] rfl (by (try simp only [List.map_toArray, List.map_cons, List.map_nil]); first | done | rfl | (simp only [List.length_drop, List.length_take]; rfl)) ?_; (with_reducible refine (field_Add.calls a1 a2 t238 _ A21.out).mono ?_); rintro e w' ⟨rfl, ⟨nd, rfl⟩⟩; refine ⟨_, rfl, ?_⟩; have hcz39_0 : wc.cell? ⟨gb230, 0, none⟩ = some (.slice A0_0 l0_0.length c0_0) := (blk_cell BK230.out 0).trans rfl; have hcz39_1 : wc.cell? ⟨gb230, 1, none⟩ = some (.slice A0_1 l0_1.length c0_1) := (blk_cell BK230.out 1).trans rfl; have hfz39_0 := blk_frozen BK230.out 0; have hfz39_1 := blk_frozen BK230.out 1) | (go_at_call 12; (with_reducible refine (field_Tables_Mul.calls kj7 _ _ l0_0 _ _ l0_1 a1 a2 t239 _ ?side1 ?side2 ?side3 ?side4 A23.out).mono ?_); (case side1 => repeat (first | exact (Kd.C_below HR0_0.out (by repeat (first | (with_reducible first | exact HB.out | apply below_alloc | apply pw_below_drewN | apply below_drew1 | refine below_set ?_ GE230.out) | exact HB.out))) | (with_reducible refine Kd.C_alloc ?_ _) | (with_reducible refine Kd.C_drewN ?_ _) | (with_reducible refine Kd.C_drew ?_))); (case side2 => exact HC0_0.out); (case side3 => repeat (first | exact (Kd.C_below HR0_1.out (by repeat (first | (with_reducible first | exact HB.out | apply below_alloc | apply pw_below_drewN | apply below_drew1 | refine below_set ?_ GE230.out) | exact HB.out))) | (with_reducible refine Kd.C_alloc ?_ _) | (with_reducible refine Kd.C_drewN ?_ _) | (with_reducible refine Kd.C_drew ?_))); (case side4 => exact HC0_1.out); rintro e w40 ⟨rfl, hb⟩; have n0_ := Aside0.mk (blk_below (g := gb230) (o := .cells #[.slice A0_0 l0_0.length c0_0, .slice A0_1 l0_1.length c0_1] 27 (0, 0)) (by (with_reducible repeat (first | refine blk_drewN ?_ _ | refine blk_drew ?_ | refine blk_alloc ?_ _)); exact BK230.out) hb); have n1_ := Aside0.mk (below_step (by repeat (first | (with_reducible first | exact HB.out | apply below_alloc | apply pw_below_drewN | apply below_drew1 | refine below_set ?_ GE230.out) | exact HB.out)) hb); clear BK230; clear HB; have BK230 := n0_; have HB := n1_; clear n0_ n1_; (try clear hb); (try clear hb2); (try clear hk); (try clear hi)) | (go_at_call 21; (with_reducible refine (blackboardref1_Mul.calls kj7 a1 a2 t240 _ A24.out).mono ?_); rintro e w' ⟨rfl, ⟨nd, rfl⟩⟩; have hcz41_0 : w40.cell? ⟨gb230, 0, none⟩ = some (.slice A0_0 l0_0.length c0_0) := (blk_cell BK230.out 0).trans rfl; have hcz41_1 : w40.cell? ⟨gb230, 1, none⟩ = some (.slice A0_1 l0_1.length c0_1) := (blk_cell BK230.out 1).trans rfl; have hfz41_0 := blk_frozen BK230.out 0; have hfz41_1 := blk_frozen BK230.out 1) | (go_at_call 17; (with_reducible refine (field_Tables_Pow.calls kj7 _ _ l0_0 _ _ l0_1 a1 a3 t241 _ ?side1 ?side2 ?side3 ?side4 A28.out).mono ?_); (case side1 => repeat (first | exact (Kd.C_below HR0_0.out (by repeat (first | (with_reducible first | exact HB.out | apply below_alloc | apply pw_below_drewN | apply below_drew1 | refine below_set ?_ GE230.out) | exact HB.out))) | (with_reducible refine Kd.C_alloc ?_ _) | (with_reducible refine Kd.C_drewN ?_ _) | (with_reducible refine Kd.C_drew ?_))); (case side2 => exact HC0_0.out); (case side3 => repeat (first | exact (Kd.C_below HR0_1.out (by repeat (first | (with_reducible first | exact HB.out | apply below_alloc | apply pw_below_drewN | apply below_drew1 | refine below_set ?_ GE230.out) | exact HB.out))) | (with_reducible refine Kd.C_alloc ?_ _) | (with_reducible refine Kd.C_drewN ?_ _) | (with_reducible refine Kd.C_drew ?_))); (case side4 => exact HC0_1.out); rintro e w42 ⟨rfl, hb⟩; have n0_ := Aside0.mk (blk_below (g := gb230) (o := .cells #[.slice A0_0 l0_0.length c0_0, .slice A0_1 l0_1.length c0_1] 27 (0, 0)) (by (with_reducible repeat (first | refine blk_drewN ?_ _ | refine blk_drew ?_ | refine blk_alloc ?_ _)); exact BK230.out) hb); have n1_ := Aside0.mk (below_step (by repeat (first | (with_reducible first | exact HB.out | apply below_alloc | apply pw_below_drewN | apply below_drew1 | refine below_set ?_ GE230.out) | exact HB.out)) hb); clear BK230; clear HB; have BK230 := n0_; have HB := n1_; clear n0_ n1_; (try clear hb); (try clear hb2); (try clear hk); (try clear hi)) | (go_at_call 22; (with_reducible refine (blackboardref1_Pow.calls kj7 a1 a3 t242 _ A29.out).mono ?_); rintro e w' ⟨rfl, ⟨nd, rfl⟩⟩))
                  go_ret
                  exact ⟨by first | rfl | (simp [errW_none, errW_some] <;> rfl) | (simp [*, errW_none, errW_some] <;> rfl), by repeat (first | (with_reducible first | exact HB.out | apply below_alloc | apply pw_below_drewN | apply below_drew1 | refine below_set ?_ GE230.out) | exact HB.out)⟩
              · rw [if_neg c27] at H
                have c27b0 : (t232 == t234) = false := by simpa using c27
                (try (have c27b1 : decide (t232 = t234) = false := by simpa using c27))
                (try (have c27b2 : (t232 == t234) = false := by simpa using c27))
                (try (have c27b3 : ¬ (t232 = t234) := by simpa using c27))
                clear c27
                obtain rfl := Option.some.inj H
                go_wp2_with (first | ((with_reducible refine gate_callee (f := 13) rfl ?_); refine goesL_ (some 65) rfl rfl Try.func13 (by kernel_rfl) rfl #[.int .u16 a1, .int .u16 a2] rfl (by (try simp only [List.map_toArray, List.map_cons, List.map_nil]); first | done | rfl | (simp only [List.length_drop, List.length_take]; rfl)) ?_; (with_reducible refine (field_Add.calls a1 a2 t238 _ A21.out).mono ?_); rintro e w' ⟨rfl, ⟨nd, rfl⟩⟩; refine ⟨_, rfl, ?_⟩; have hcz43_0 : wc.cell? ⟨gb230, 0, none⟩ = some (.slice A0_0 l0_0.length c0_0) := (blk_cell BK230.out 0).trans rfl; have hcz43_1 : wc.cell? ⟨gb230, 1, none⟩ = some (.slice A0_1 l0_1.length c0_1) := (blk_cell BK230.out 1).trans rfl; have hfz43_0 := blk_frozen BK230.out 0; have hfz43_1 := blk_frozen BK230.out 1) | (go_at_call 12; (with_reducible refine (field_Tables_Mul.calls kj7 _ _ l0_0 _ _ l0_1 a1 a2 t239 _ ?side1 ?side2 ?side3 ?side4 A23.out).mono ?_); (case side1 => repeat (first | exact (Kd.C_below HR0_0.out (by repeat (first | (with_reducible first | exact HB.out | apply below_alloc | apply pw_below_drewN | apply below_drew1 | refine below_set ?_ GE230.out) | exact HB.out))) | (with_reducible refine Kd.C_alloc ?_ _) | (with_reducible refine Kd.C_drewN ?_ _) | (with_reducible refine Kd.C_drew ?_))); (case side2 => exact HC0_0.out); (case side3 => repeat (first | exact (Kd.C_below HR0_1.out (by repeat (first | (with_reducible first | exact HB.out | apply below_alloc | apply pw_below_drewN | apply below_drew1 | refine below_set ?_ GE230.out) | exact HB.out))) | (with_reducible refine Kd.C_alloc ?_ _) | (with_reducible refine Kd.C_drewN ?_ _) | (with_reducible refine Kd.C_drew ?_))); (case side4 => exact HC0_1.out); rintro e w44 ⟨rfl, hb⟩; have n0_ := Aside0.mk (blk_below (g := gb230) (o := .cells #[.slice A0_0 l0_0.length c0_0, .slice A0_1 l0_1.length c0_1] 27 (0, 0)) (by (with_reducible repeat (first | refine blk_drewN ?_ _ | refine blk_drew ?_ | refine blk_alloc ?_ _)); exact BK230.out) hb); have n1_ := Aside0.mk (below_step (by repeat (first | (with_reducible first | exact HB.out | apply below_alloc | apply pw_below_drewN | apply below_drew1 | refine below_set ?_ GE230.out) | exact HB.out)) hb); clear BK230; clear HB; have BK230 := n0_; have HB := n1_; clear n0_ n1_; (try clear hb); (try clear hb2); (try clear hk); (try clear hi)) | (go_at_call 21; (with_reducible refine (blackboardref1_Mul.calls kj7 a1 a2 t240 _ A24.out).mono ?_); rintro e w' ⟨rfl, ⟨nd, rfl⟩⟩))
                go_ret
                exact ⟨by first | rfl | (simp [errW_none, errW_some] <;> rfl) | (simp [*, errW_none, errW_some] <;> rfl), by repeat (first | (with_reducible first | exact HB.out | apply below_alloc | apply pw_below_drewN | apply below_drew1 | refine below_set ?_ GE230.out) | exact HB.out)⟩
            · rw [if_neg c26] at H
              have c26b0 : (t231 == t233) = false := beq_eq_false_iff_ne.mpr c26
              have c26b1 : (t231 != t233) = true := bne_iff_ne.mpr c26
              obtain rfl := Option.some.inj H
              go_wp2_with (first | ((with_reducible refine gate_callee (f := 13) rfl ?_); refine goesL_ (some 65) rfl rfl Try.func13 (by kernel_rfl) rfl #[.int .u16 a1, .int .u16 a2] rfl (by (try simp only [List.map_toArray, List.map_cons, List.map_nil]); first | done | rfl | (simp only [List.length_drop, List.length_take]; rfl)) ?_; (with_reducible refine (field_Add.calls a1 a2 t238 _ A21.out).mono ?_); rintro e w' ⟨rfl, ⟨nd, rfl⟩⟩; refine ⟨_, rfl, ?_⟩; have hcz45_0 : wc.cell? ⟨gb230, 0, none⟩ = some (.slice A0_0 l0_0.length c0_0) := (blk_cell BK230.out 0).trans rfl; have hcz45_1 : wc.cell? ⟨gb230, 1, none⟩ = some (.slice A0_1 l0_1.length c0_1) := (blk_cell BK230.out 1).trans rfl; have hfz45_0 := blk_frozen BK230.out 0; have hfz45_1 := blk_frozen BK230.out 1) | (go_at_call 12; (with_reducible refine (field_Tables_Mul.calls kj7 _ _ l0_0 _ _ l0_1 a1 a2 t239 _ ?side1 ?side2 ?side3 ?side4 A23.out).mono ?_); (case side1 => repeat (first | exact (Kd.C_below HR0_0.out (by repeat (first | (with_reducible first | exact HB.out | apply below_alloc | apply pw_below_drewN | apply below_drew1 | refine below_set ?_ GE230.out) | exact HB.out))) | (with_reducible refine Kd.C_alloc ?_ _) | (with_reducible refine Kd.C_drewN ?_ _) | (with_reducible refine Kd.C_drew ?_))); (case side2 => exact HC0_0.out); (case side3 => repeat (first | exact (Kd.C_below HR0_1.out (by repeat (first | (with_reducible first | exact HB.out | apply below_alloc | apply pw_below_drewN | apply below_drew1 | refine below_set ?_ GE230.out) | exact HB.out))) | (with_reducible refine Kd.C_alloc ?_ _) | (with_reducible refine Kd.C_drewN ?_ _) | (with_reducible refine Kd.C_drew ?_))); (case side4 => exact HC0_1.out); rintro e w46 ⟨rfl, hb⟩; have n0_ := Aside0.mk (blk_below (g := gb230) (o := .cells #[.slice A0_0 l0_0.length c0_0, .slice A0_1 l0_1.length c0_1] 27 (0, 0)) (by (with_reducible repeat (first | refine blk_drewN ?_ _ | refine blk_drew ?_ | refine blk_alloc ?_ _)); exact BK230.out) hb); have n1_ := Aside0.mk (below_step (by repeat (first | (with_reducible first | exact HB.out | apply below_alloc | apply pw_below_drewN | apply below_drew1 | refine below_set ?_ GE230.out) | exact HB.out)) hb); clear BK230; clear HB; have BK230 := n0_; have HB := n1_; clear n0_ n1_; (try clear hb); (try clear hb2); (try clear hk); (try clear hi)) | (go_at_call 21; (with_reducible refine (blackboardref1_Mul.calls kj7 a1 a2 t240 _ A24.out).mono ?_); rintro e w' ⟨rfl, ⟨nd, rfl⟩⟩))
              go_ret
              exact ⟨by first | rfl | (simp [errW_none, errW_some] <;> rfl) | (simp [*, errW_none, errW_some] <;> rfl), by repeat (first | (with_reducible first | exact HB.out | apply below_alloc | apply pw_below_drewN | apply below_drew1 | refine below_set ?_ GE230.out) | exact HB.out)⟩
          · rw [if_neg c25] at H
            have c25b0 : (t239 == t240) = false := beq_eq_false_iff_ne.mpr c25
            have c25b1 : (t239 != t240) = true := bne_iff_ne.mpr c25
            obtain rfl := Option.some.inj H
            go_wp2_with (first | ((with_reducible refine gate_callee (f := 13) rfl ?_); refine goesL_ (some 65) rfl rfl Try.func13 (by kernel_rfl) rfl #[.int .u16 a1, .int .u16 a2] rfl (by (try simp only [List.map_toArray, List.map_cons, List.map_nil]); first | done | rfl | (simp only [List.length_drop, List.length_take]; rfl)) ?_; (with_reducible refine (field_Add.calls a1 a2 t238 _ A21.out).mono ?_); rintro e w' ⟨rfl, ⟨nd, rfl⟩⟩; refine ⟨_, rfl, ?_⟩; have hcz47_0 : wc.cell? ⟨gb230, 0, none⟩ = some (.slice A0_0 l0_0.length c0_0) := (blk_cell BK230.out 0).trans rfl; have hcz47_1 : wc.cell? ⟨gb230, 1, none⟩ = some (.slice A0_1 l0_1.length c0_1) := (blk_cell BK230.out 1).trans rfl; have hfz47_0 := blk_frozen BK230.out 0; have hfz47_1 := blk_frozen BK230.out 1) | (go_at_call 12; (with_reducible refine (field_Tables_Mul.calls kj7 _ _ l0_0 _ _ l0_1 a1 a2 t239 _ ?side1 ?side2 ?side3 ?side4 A23.out).mono ?_); (case side1 => repeat (first | exact (Kd.C_below HR0_0.out (by repeat (first | (with_reducible first | exact HB.out | apply below_alloc | apply pw_below_drewN | apply below_drew1 | refine below_set ?_ GE230.out) | exact HB.out))) | (with_reducible refine Kd.C_alloc ?_ _) | (with_reducible refine Kd.C_drewN ?_ _) | (with_reducible refine Kd.C_drew ?_))); (case side2 => exact HC0_0.out); (case side3 => repeat (first | exact (Kd.C_below HR0_1.out (by repeat (first | (with_reducible first | exact HB.out | apply below_alloc | apply pw_below_drewN | apply below_drew1 | refine below_set ?_ GE230.out) | exact HB.out))) | (with_reducible refine Kd.C_alloc ?_ _) | (with_reducible refine Kd.C_drewN ?_ _) | (with_reducible refine Kd.C_drew ?_))); (case side4 => exact HC0_1.out); rintro e w48 ⟨rfl, hb⟩; have n0_ := Aside0.mk (blk_below (g := gb230) (o := .cells #[.slice A0_0 l0_0.length c0_0, .slice A0_1 l0_1.length c0_1] 27 (0, 0)) (by (with_reducible repeat (first | refine blk_drewN ?_ _ | refine blk_drew ?_ | refine blk_alloc ?_ _)); exact BK230.out) hb); have n1_ := Aside0.mk (below_step (by repeat (first | (with_reducible first | exact HB.out | apply below_alloc | apply pw_below_drewN | apply below_drew1 | refine below_set ?_ GE230.out) | exact HB.out)) hb); clear BK230; clear HB; have BK230 := n0_; have HB := n1_; clear n0_ n1_; (try clear hb); (try clear hb2); (try clear hk); (try clear hi)) | (go_at_call 21; (with_reducible refine (blackboardref1_Mul.calls kj7 a1 a2 t240 _ A24.out).mono ?_); rintro e w' ⟨rfl, ⟨nd, rfl⟩⟩))
            go_ret
            exact ⟨by first | rfl | (simp [errW_none, errW_some] <;> rfl) | (simp [*, errW_none, errW_some] <;> rfl), by repeat (first | (with_reducible first | exact HB.out | apply below_alloc | apply pw_below_drewN | apply below_drew1 | refine below_set ?_ GE230.out) | exact HB.out)⟩
        · rw [if_neg c22] at H
          have c22b0 : (t238 == (Go.bits .and .u16 (Go.bits .xor .u16 a1 a2) 1023)) = false := beq_eq_false_iff_ne.mpr c22
          have c22b1 : (t238 != (Go.bits .and .u16 (Go.bits .xor .u16 a1 a2) 1023)) = true := bne_iff_ne.mpr c22
          obtain rfl := Option.some.inj H
          go_wp2_with (first | ((with_reducible refine gate_callee (f := 13) rfl ?_); refine goesL_ (some 65) rfl rfl Try.func13 (by kernel_rfl) rfl #[.int .u16 a1, .int .u16 a2] rfl (by (try simp only [List.map_toArray, List.map_cons, List.map_nil]); first | done | rfl | (simp only [List.length_drop, List.length_take]; rfl)) ?_; (with_reducible refine (field_Add.calls a1 a2 t238 _ A21.out).mono ?_); rintro e w' ⟨rfl, ⟨nd, rfl⟩⟩; refine ⟨_, rfl, ?_⟩))
          go_ret
          exact ⟨by first | rfl | (simp [errW_none, errW_some] <;> rfl) | (simp [*, errW_none, errW_some] <;> rfl), by repeat (first | (with_reducible first | exact HB.out | apply below_alloc | apply pw_below_drewN | apply below_drew1 | refine below_set ?_ GE230.out) | exact HB.out)⟩

end Go.Proofs.Yteoiedjnlljbmaa.M
