/- Printed for this seat by a program of this session (over the kit's print), with contracts of its own laid in. -/
import Derived.Test.YtkmdefelepmfiaaVx0
import Derived.Test.YtkmdefelepmfiaaVx3
import Derived.BigQuiet
import Derived.Test.YtkmdefelepmfiaaVx4a
namespace Go.Proofs.Ytkmdefelepmfiaa.V
open Go.RowKit Go.Proofs.YtkmdefelepmfiaaW.PrintWords Go.Proofs.YtkmdefelepmfiaaW.PrintLast Go.Proofs.YtkmdefelepmfiaaW.PrintMore
attribute [local go_sem] max2_int min2_int max_two min_two max_three min_three max_four min_four   -- for this text's walks alone
set_option linter.unusedVariables false
set_option linter.unusedSimpArgs false

/-! ### blackboardlaw13_WearVictims: the walk -/
set_option maxHeartbeats 8000000 in
set_option maxRecDepth 100000 in
theorem blackboardlaw13_WearVictims.calls (k : Nat) (A0 : Option Addr) (c0 : Nat) (l0 : List (S35)) (r : Bool) (w : World) (hr0 : Kd.C k35 w A0 l0.length l0) (hc0 : l0.length ≤ c0) (h : blackboardlaw13_WearVictims.f k l0 = some r) (hrt_ : r = true := by rfl) :
  Calls Try.prog 7 #[.slice A0 l0.length c0] w fun e w' => e = .returned (.bool r) ∧ Below w.heap.size w w' := by
 have HRT_ := Aside0.mk hrt_
 clear hrt_
 have HR0 := Aside0.mk hr0
 have HC0 := Aside0.mk hc0
 clear hr0 hc0
 have HB := Aside0.mk (Below.refl w.heap.size w)
 have H : ((blackboardlaw13_awake.f k).bind fun t141 => (if t141 = true then (if (l0.length : Int) > 200 then (some true) else (blackboardlaw13_WearVictims.l0 k l0 ([] : List Int) ([] : List Int) ([] : List Int) ([] : List Bool) 0)) else (some false))) = some r := h
 clear h
 replace H := Option.bind_eq_some_iff.mp H
 obtain ⟨t141, A20, H⟩ := H
 replace H : (if t141 = true then (if (l0.length : Int) > 200 then (some true) else (blackboardlaw13_WearVictims.l0 k l0 ([] : List Int) ([] : List Int) ([] : List Int) ([] : List Bool) 0)) else (some false)) = some r := H
 have A2 := Aside0.mk A20
 clear A20
 by_cases c3 : t141 = true
 ·
  subst c3
  have H1 : (if (l0.length : Int) > 200 then (some true) else (blackboardlaw13_WearVictims.l0 k l0 ([] : List Int) ([] : List Int) ([] : List Int) ([] : List Bool) 0)) = some r := by rw [if_pos rfl] at H; exact H
  clear H
  have H := H1
  clear H1
  by_cases c4 : (l0.length : Int) > 200
  ·
   rw [if_pos c4] at H
   have c4b0 : decide (200 < (l0.length : Int)) = true := decide_eq_true c4
   have c4b1 : decide (200 < l0.length) = true := decide_eq_true (by omega)
   clear c4
   obtain rfl := Option.some.inj H
   go_enter Try.func7, Try.ntmps7
   go_wp2_with (first | ((with_reducible refine gate_callee (f := 8) rfl ?_); refine goesL_ (some 14) rfl rfl Try.func8 (by kernel_rfl) rfl #[] rfl (by (try simp only [List.map_toArray, List.map_cons, List.map_nil]); first | done | rfl | (simp only [List.length_drop, List.length_take]; rfl)) ?_; (with_reducible refine (blackboardlaw13_awake.calls k  true _ A2.out).mono ?_); rintro e w5 ⟨rfl, hb⟩; refine ⟨_, rfl, ?_⟩; have n0_ := Aside0.mk (below_step (by repeat (first | (with_reducible first | exact HB.out | apply b1 | apply b2 | apply b3) | exact HB.out)) hb); clear HB; have HB := n0_; clear n0_; (try clear hb); (try clear hb2); (try clear hk); (try clear hi)))
   go_ret
   exact ⟨by first | rfl | (simp [errW_none, errW_some] <;> rfl) | (simp [*, errW_none, errW_some] <;> rfl), by repeat (first | (with_reducible first | exact HB.out | apply b1 | apply b2 | apply b3) | exact HB.out)⟩
  ·
   rw [if_neg c4] at H
   have c4b0 : decide (200 < (l0.length : Int)) = false := decide_eq_false c4
   have c4b1 : decide (200 < l0.length) = false := decide_eq_false (by omega)
   clear c4
   have H' := Aside0.mk H
   clear H
   go_enter Try.func7, Try.ntmps7
   go_wp2_with (first | ((with_reducible refine gate_callee (f := 8) rfl ?_); refine goesL_ (some 14) rfl rfl Try.func8 (by kernel_rfl) rfl #[] rfl (by (try simp only [List.map_toArray, List.map_cons, List.map_nil]); first | done | rfl | (simp only [List.length_drop, List.length_take]; rfl)) ?_; (with_reducible refine (blackboardlaw13_awake.calls k  true _ A2.out).mono ?_); rintro e w6 ⟨rfl, hb⟩; refine ⟨_, rfl, ?_⟩; have n0_ := Aside0.mk (below_step (by repeat (first | (with_reducible first | exact HB.out | apply b1 | apply b2 | apply b3) | exact HB.out)) hb); clear HB; have HB := n0_; clear n0_; (try clear hb); (try clear hb2); (try clear hk); (try clear hi)))
   go_loopg [3, 4, 5, 6, 7] k (fun kq v3 v4 v5 v6 v7 w' => ∃ (x3_1 : List Int) (x4_1 : List Int) (x5_1 : List Int) (x6_1 : List Bool) (x7_1 : Int), v7 = .int .i64 x7_1 ∧ Aside0 (blackboardlaw13_WearVictims.l0 kq l0 x3_1 x4_1 x5_1 x6_1 x7_1 = some r) ∧ Aside0 (kq ≤ k) ∧ Aside0 (Kd.R (Kd.int .i64) 3 w' w.heap.size (fun k_ => some k_ ≠ (v4 : Value).ownBlock ∧ some k_ ≠ (v5 : Value).ownBlock) v3 x3_1) ∧ Aside0 (Kd.R (Kd.int .i64) 3 w' w.heap.size (fun k_ => some k_ ≠ (v3 : Value).ownBlock ∧ some k_ ≠ (v5 : Value).ownBlock) v4 x4_1) ∧ Aside0 (Kd.R (Kd.int .i64) 3 w' w.heap.size (fun k_ => some k_ ≠ (v3 : Value).ownBlock ∧ some k_ ≠ (v4 : Value).ownBlock) v5 x5_1) ∧ Aside0 (Kd.R Kd.bool 4 w' w.heap.size (fun _ => True) v6 x6_1) ∧ Aside0 (Below w.heap.size w w'))
   case atStart => exact ⟨(([] : List Int)), (([] : List Int)), (([] : List Int)), (([] : List Bool)), (0), (by first | rfl | (simp; done) | (simp [*]; done)), H', ⟨Nat.le_refl _⟩, ⟨by first | exact Kd.R_nil _ _ _ _ _ | exact Kd.N_nil _ _ _ _ _ | exact Kd.V_nil _ _ _ _ _ | exact Kd.Q_nil _ _ _ _ _ | exact Kd.S_nil _ _ _ _ _⟩, ⟨by first | exact Kd.R_nil _ _ _ _ _ | exact Kd.N_nil _ _ _ _ _ | exact Kd.V_nil _ _ _ _ _ | exact Kd.Q_nil _ _ _ _ _ | exact Kd.S_nil _ _ _ _ _⟩, ⟨by first | exact Kd.R_nil _ _ _ _ _ | exact Kd.N_nil _ _ _ _ _ | exact Kd.V_nil _ _ _ _ _ | exact Kd.Q_nil _ _ _ _ _ | exact Kd.S_nil _ _ _ _ _⟩, ⟨by first | exact Kd.R_nil _ _ _ _ _ | exact Kd.N_nil _ _ _ _ _ | exact Kd.V_nil _ _ _ _ _ | exact Kd.Q_nil _ _ _ _ _ | exact Kd.S_nil _ _ _ _ _⟩, ⟨by repeat (first | (with_reducible first | exact HB.out | apply b1 | apply b2 | apply b3) | exact HB.out)⟩⟩
   case round =>
    clear H'
    try clear p2
    try clear c3
    try clear c4
    try clear c4b0
    try clear c4b1
    obtain ⟨x3_1, x4_1, x5_1, x6_1, x7_1, rfl, HA, HK1, HO_3, HO_4, HO_5, HO_6, HB⟩ := hrel
    cases gk with
    | zero => exact absurd HA.out (by simp [blackboardlaw13_WearVictims.l0])
    | succ k1 =>
     have H := HA.out
     clear HA
     simp only [blackboardlaw13_WearVictims.l0] at H
     by_cases c7 : x7_1 < (l0.length : Int)
     ·
      rw [if_pos c7] at H
      have c7b0 : decide (x7_1 < (l0.length : Int)) = true := decide_eq_true c7
      clear c7
      by_cases c8 : 0 ≤ x7_1
      ·
       rw [if_pos c8] at H
       have c8b0 : decide (0 ≤ x7_1) = true := decide_eq_true c8
       clear c8
       obtain ⟨y143, hy143⟩ : ∃ y_ : List Int, y_ = (([wrap64 ((rd_T35 l0 x7_1).f0)] : List Int)) := ⟨_, rfl⟩
       replace H : (if x3_1.length + y143.length < 17592186044416 then ((some (x3_1 ++ y143 : List Int)).bind fun y146 => ((some (([wrap64 ((rd_T35 l0 x7_1).f1)] : List Int) : List Int)).bind fun y150 => (if x4_1.length + y150.length < 17592186044416 then ((some (x4_1 ++ y150 : List Int)).bind fun y153 => ((some (([((Go.bits .and .u8 ((rd_T35 l0 x7_1).f2) 1) == 1)] : List Bool) : List Bool)).bind fun y157 => (if x6_1.length + y157.length < 140737488355328 then ((some (x6_1 ++ y157 : List Bool)).bind fun y160 => (if (Go.bits .and .u8 ((rd_T35 l0 x7_1).f2) 1) = 0 then (blackboardlaw13_WearVictims.j1 k1 l0 y146 y153 x5_1 y160 x7_1 0) else (blackboardlaw13_WearVictims.j1 k1 l0 y146 y153 x5_1 y160 x7_1 (wrap64 ((rd_T35 l0 x7_1).f0))))) else (none)))) else (none)))) else (none)) = some r := by first | (rw [hy143]; with_reducible exact H) | (have H2_ := (Option.bind_some _ _).symm.trans H; rw [hy143]; with_reducible exact H2_) | (have H2_ := (Option.bind_some _ _).symm.trans H; with_reducible exact H2_) | with_reducible exact H | (rw [hy143]; exact H) | exact H
       have Ny143 := Aside0.mk hy143
       clear hy143
       by_cases c9 : x3_1.length + y143.length < 17592186044416
       ·
        rw [if_pos c9] at H
        have LMc9 := Aside0.mk c9
        clear c9
        obtain ⟨y146, hy146⟩ : ∃ y_ : List Int, y_ = (x3_1 ++ y143) := ⟨_, rfl⟩
        replace H : ((some (([wrap64 ((rd_T35 l0 x7_1).f1)] : List Int) : List Int)).bind fun y150 => (if x4_1.length + y150.length < 17592186044416 then ((some (x4_1 ++ y150 : List Int)).bind fun y153 => ((some (([((Go.bits .and .u8 ((rd_T35 l0 x7_1).f2) 1) == 1)] : List Bool) : List Bool)).bind fun y157 => (if x6_1.length + y157.length < 140737488355328 then ((some (x6_1 ++ y157 : List Bool)).bind fun y160 => (if (Go.bits .and .u8 ((rd_T35 l0 x7_1).f2) 1) = 0 then (blackboardlaw13_WearVictims.j1 k1 l0 y146 y153 x5_1 y160 x7_1 0) else (blackboardlaw13_WearVictims.j1 k1 l0 y146 y153 x5_1 y160 x7_1 (wrap64 ((rd_T35 l0 x7_1).f0))))) else (none)))) else (none))) = some r := by first | (rw [hy146]; with_reducible exact H) | (have H2_ := (Option.bind_some _ _).symm.trans H; rw [hy146]; with_reducible exact H2_) | (have H2_ := (Option.bind_some _ _).symm.trans H; with_reducible exact H2_) | with_reducible exact H | (rw [hy146]; exact H) | exact H
        have Ny146 := Aside0.mk hy146
        clear hy146
        obtain ⟨y150, hy150⟩ : ∃ y_ : List Int, y_ = (([wrap64 ((rd_T35 l0 x7_1).f1)] : List Int)) := ⟨_, rfl⟩
        replace H : (if x4_1.length + y150.length < 17592186044416 then ((some (x4_1 ++ y150 : List Int)).bind fun y153 => ((some (([((Go.bits .and .u8 ((rd_T35 l0 x7_1).f2) 1) == 1)] : List Bool) : List Bool)).bind fun y157 => (if x6_1.length + y157.length < 140737488355328 then ((some (x6_1 ++ y157 : List Bool)).bind fun y160 => (if (Go.bits .and .u8 ((rd_T35 l0 x7_1).f2) 1) = 0 then (blackboardlaw13_WearVictims.j1 k1 l0 y146 y153 x5_1 y160 x7_1 0) else (blackboardlaw13_WearVictims.j1 k1 l0 y146 y153 x5_1 y160 x7_1 (wrap64 ((rd_T35 l0 x7_1).f0))))) else (none)))) else (none)) = some r := by first | (rw [hy150]; with_reducible exact H) | (have H2_ := (Option.bind_some _ _).symm.trans H; rw [hy150]; with_reducible exact H2_) | (have H2_ := (Option.bind_some _ _).symm.trans H; with_reducible exact H2_) | with_reducible exact H | (rw [hy150]; exact H) | exact H
        have Ny150 := Aside0.mk hy150
        clear hy150
        by_cases c10 : x4_1.length + y150.length < 17592186044416
        ·
         rw [if_pos c10] at H
         have LMc10 := Aside0.mk c10
         clear c10
         obtain ⟨y153, hy153⟩ : ∃ y_ : List Int, y_ = (x4_1 ++ y150) := ⟨_, rfl⟩
         replace H : ((some (([((Go.bits .and .u8 ((rd_T35 l0 x7_1).f2) 1) == 1)] : List Bool) : List Bool)).bind fun y157 => (if x6_1.length + y157.length < 140737488355328 then ((some (x6_1 ++ y157 : List Bool)).bind fun y160 => (if (Go.bits .and .u8 ((rd_T35 l0 x7_1).f2) 1) = 0 then (blackboardlaw13_WearVictims.j1 k1 l0 y146 y153 x5_1 y160 x7_1 0) else (blackboardlaw13_WearVictims.j1 k1 l0 y146 y153 x5_1 y160 x7_1 (wrap64 ((rd_T35 l0 x7_1).f0))))) else (none))) = some r := by first | (rw [hy153]; with_reducible exact H) | (have H2_ := (Option.bind_some _ _).symm.trans H; rw [hy153]; with_reducible exact H2_) | (have H2_ := (Option.bind_some _ _).symm.trans H; with_reducible exact H2_) | with_reducible exact H | (rw [hy153]; exact H) | exact H
         have Ny153 := Aside0.mk hy153
         clear hy153
         obtain ⟨y157, hy157⟩ : ∃ y_ : List Bool, y_ = (([((Go.bits .and .u8 ((rd_T35 l0 x7_1).f2) 1) == 1)] : List Bool)) := ⟨_, rfl⟩
         replace H : (if x6_1.length + y157.length < 140737488355328 then ((some (x6_1 ++ y157 : List Bool)).bind fun y160 => (if (Go.bits .and .u8 ((rd_T35 l0 x7_1).f2) 1) = 0 then (blackboardlaw13_WearVictims.j1 k1 l0 y146 y153 x5_1 y160 x7_1 0) else (blackboardlaw13_WearVictims.j1 k1 l0 y146 y153 x5_1 y160 x7_1 (wrap64 ((rd_T35 l0 x7_1).f0))))) else (none)) = some r := by first | (rw [hy157]; with_reducible exact H) | (have H2_ := (Option.bind_some _ _).symm.trans H; rw [hy157]; with_reducible exact H2_) | (have H2_ := (Option.bind_some _ _).symm.trans H; with_reducible exact H2_) | with_reducible exact H | (rw [hy157]; exact H) | exact H
         have Ny157 := Aside0.mk hy157
         clear hy157
         by_cases c11 : x6_1.length + y157.length < 140737488355328
         ·
          rw [if_pos c11] at H
          have LMc11 := Aside0.mk c11
          clear c11
          obtain ⟨y160, hy160⟩ : ∃ y_ : List Bool, y_ = (x6_1 ++ y157) := ⟨_, rfl⟩
          replace H : (if (Go.bits .and .u8 ((rd_T35 l0 x7_1).f2) 1) = 0 then (blackboardlaw13_WearVictims.j1 k1 l0 y146 y153 x5_1 y160 x7_1 0) else (blackboardlaw13_WearVictims.j1 k1 l0 y146 y153 x5_1 y160 x7_1 (wrap64 ((rd_T35 l0 x7_1).f0)))) = some r := by first | (rw [hy160]; with_reducible exact H) | (have H2_ := (Option.bind_some _ _).symm.trans H; rw [hy160]; with_reducible exact H2_) | (have H2_ := (Option.bind_some _ _).symm.trans H; with_reducible exact H2_) | with_reducible exact H | (rw [hy160]; exact H) | exact H
          have Ny160 := Aside0.mk hy160
          clear hy160
          have HC12 := Aside0.mk H
          clear H
          obtain ⟨Ao13, co13, eo13⟩ := Kd.R_slice HO_3.out
          subst eo13
          obtain ⟨Ao14, co14, eo14⟩ := Kd.R_slice HO_4.out
          subst eo14
          obtain ⟨Ao15, co15, eo15⟩ := Kd.R_slice HO_6.out
          subst eo15
          try go_wp2
          (repeat (go_quiet (fail); try go_wp2))
          have n0_ := Aside0.mk (Kd.R_drew HO_3.out)
          have n1_ := Aside0.mk (Kd.R_drew HO_4.out)
          have n2_ := Aside0.mk (Kd.R_drew HO_5.out)
          have n3_ := Aside0.mk (Kd.R_drew HO_6.out)
          have n4_ := Aside0.mk (below_drew1 HB.out)
          clear HO_3
          clear HO_4
          clear HO_5
          clear HO_6
          clear HB
          have HO_3 := n0_
          have HO_4 := n1_
          have HO_5 := n2_
          have HO_6 := n3_
          have HB := n4_
          clear n0_ n1_ n2_ n3_ n4_
          have p142 : 0 ≤ (x7_1 : Int) := of_decide_eq_true (by first | (with_reducible assumption) | assumption)
          have q142 : x7_1 < (l0.length : Int) := of_decide_eq_true (by first | (with_reducible assumption) | assumption)
          obtain ⟨ad142, e142, hx142_0, hx142_1, hx142_2⟩ := at_T35 HR0.out x7_1 p142 q142
          have hw142_2 := hx142_2
          have hw142_1 := hx142_1
          have hw142_0 := hx142_0
          cases e142
          replace hx142_0 := (HB.out.cell (World.block_lt_of_cell? w _ hx142_0)).trans hx142_0
          replace hx142_1 := (HB.out.cell (World.block_lt_of_cell? w _ hx142_1)).trans hx142_1
          replace hx142_2 := (HB.out.cell (World.block_lt_of_cell? w _ hx142_2)).trans hx142_2
          replace p142 := eq_true p142
          replace q142 := eq_true q142
          have p149 : 0 ≤ (x7_1 : Int) := of_decide_eq_true (by first | (with_reducible assumption) | assumption)
          have q149 : x7_1 < (l0.length : Int) := of_decide_eq_true (by first | (with_reducible assumption) | assumption)
          obtain ⟨ad149, e149, hx149_0, hx149_1, hx149_2⟩ := at_T35 HR0.out x7_1 p149 q149
          have hw149_2 := hx149_2
          have hw149_1 := hx149_1
          have hw149_0 := hx149_0
          obtain rfl : ad142 = ad149 := (by injection e149)
          replace hx149_0 := (HB.out.cell (World.block_lt_of_cell? w _ hx149_0)).trans hx149_0
          replace hx149_1 := (HB.out.cell (World.block_lt_of_cell? w _ hx149_1)).trans hx149_1
          replace hx149_2 := (HB.out.cell (World.block_lt_of_cell? w _ hx149_2)).trans hx149_2
          replace p149 := eq_true p149
          replace q149 := eq_true q149
          have p156 : 0 ≤ (x7_1 : Int) := of_decide_eq_true (by first | (with_reducible assumption) | assumption)
          have q156 : x7_1 < (l0.length : Int) := of_decide_eq_true (by first | (with_reducible assumption) | assumption)
          obtain ⟨ad156, e156, hx156_0, hx156_1, hx156_2⟩ := at_T35 HR0.out x7_1 p156 q156
          have hw156_2 := hx156_2
          have hw156_1 := hx156_1
          have hw156_0 := hx156_0
          obtain rfl : ad142 = ad156 := (by injection e156)
          replace hx156_0 := (HB.out.cell (World.block_lt_of_cell? w _ hx156_0)).trans hx156_0
          replace hx156_1 := (HB.out.cell (World.block_lt_of_cell? w _ hx156_1)).trans hx156_1
          replace hx156_2 := (HB.out.cell (World.block_lt_of_cell? w _ hx156_2)).trans hx156_2
          replace p156 := eq_true p156
          replace q156 := eq_true q156
          refine start_ (n := 31) (S := fun w' => w'.cell? (ad142.add ((x7_1).toNat * 3)) = some (.int .u8 ((rd_T35 l0 x7_1).f0)) ∧ w'.cell? ⟨(ad142.add ((x7_1).toNat * 3)).block, (ad142.add ((x7_1).toNat * 3)).off + 1, none⟩ = some (.int .u8 ((rd_T35 l0 x7_1).f1)) ∧ w'.cell? ⟨(ad142.add ((x7_1).toNat * 3)).block, (ad142.add ((x7_1).toNat * 3)).off + 2, none⟩ = some (.int .u8 ((rd_T35 l0 x7_1).f2)) ∧ w'.cell? (ad142.add ((x7_1).toNat * 3)) = some (.int .u8 ((rd_T35 l0 x7_1).f0)) ∧ w'.cell? ⟨(ad142.add ((x7_1).toNat * 3)).block, (ad142.add ((x7_1).toNat * 3)).off + 1, none⟩ = some (.int .u8 ((rd_T35 l0 x7_1).f1)) ∧ w'.cell? ⟨(ad142.add ((x7_1).toNat * 3)).block, (ad142.add ((x7_1).toNat * 3)).off + 2, none⟩ = some (.int .u8 ((rd_T35 l0 x7_1).f2)) ∧ w'.cell? (ad142.add ((x7_1).toNat * 3)) = some (.int .u8 ((rd_T35 l0 x7_1).f0)) ∧ w'.cell? ⟨(ad142.add ((x7_1).toNat * 3)).block, (ad142.add ((x7_1).toNat * 3)).off + 1, none⟩ = some (.int .u8 ((rd_T35 l0 x7_1).f1)) ∧ w'.cell? ⟨(ad142.add ((x7_1).toNat * 3)).block, (ad142.add ((x7_1).toNat * 3)).off + 2, none⟩ = some (.int .u8 ((rd_T35 l0 x7_1).f2))) (ds := []) #[false, false, false, false, false, false, false, false, false, false, false, false, false, false, false, false, false, false, false, false, false, false, false, false, false, false, false, false, false, false, false] (by kernel_rfl) rfl rfl ⟨(cl_ HB.out hw142_0), (cl_ HB.out hw142_1), (cl_ HB.out hw142_2), (cl_ HB.out hw149_0), (cl_ HB.out hw149_1), (cl_ HB.out hw149_2), (cl_ HB.out hw156_0), (cl_ HB.out hw156_1), (cl_ HB.out hw156_2)⟩ (fun hHeld => ?_); refine with_tabW blackboardlaw13_WearVictims.tab10 blackboardlaw13_WearVictims.bits10 (fun HT_ HW_ => ?_)
          generalize wr.drew = w16 at HO_3 HO_4 HO_5 HO_6 HB hx142_0 hx142_1 hx142_2 hx149_0 hx149_1 hx149_2 hx156_0 hx156_1 hx156_2 hHeld ⊢
          refine pure_ (i := 0) (N := some 25) (v := ?_) (a' := ?_) #[true, false, false, false, false, false, false, false, false, false, false, false, false, false, false, false, false, false, false, false, false, false, false, false, false, false, false, false, false, false, false] rfl rfl (any_of HT_.out (by kernel_rfl)) (fun _ _ _ h => h) (Or.inl ⟨by rfl, ?_⟩) ?_ ?_
          rotate_left; (focus (intro w'; go_simp; with_reducible rfl)); rotate_left; (focus (simp only [Act.put, p1, p2, p3, i64_w, i32_w]; rfl))
          refine pure_ (i := 1) (N := some 26) (v := ?_) (a' := ?_) #[true, true, false, false, false, false, false, false, false, false, false, false, false, false, false, false, false, false, false, false, false, false, false, false, false, false, false, false, false, false, false] rfl rfl (any_of HT_.out (by kernel_rfl)) (fun _ _ _ h => h) (Or.inl ⟨by rfl, ?_⟩) ?_ ?_
          rotate_left; (focus (intro w'; go_simp; with_reducible rfl)); rotate_left; (focus (simp only [Act.put, p1, p2, p3, i64_w, i32_w]; rfl))
          refine pure_ (i := 2) (N := some 27) (v := ?_) (a' := ?_) #[true, true, true, false, false, false, false, false, false, false, false, false, false, false, false, false, false, false, false, false, false, false, false, false, false, false, false, false, false, false, false] rfl rfl (any_of HT_.out (by kernel_rfl)) (fun _ _ _ h => h) (Or.inl ⟨by rfl, ?_⟩) ?_ ?_
          rotate_left; (focus (intro w'; go_simp; with_reducible rfl)); rotate_left; (focus (simp only [Act.put, p1, p2, p3, i64_w, i32_w]; rfl))
          refine pure_ (i := 3) (N := some 28) (v := ?_) (a' := ?_) #[true, true, true, true, false, false, false, false, false, false, false, false, false, false, false, false, false, false, false, false, false, false, false, false, false, false, false, false, false, false, false] rfl rfl (any_of HT_.out (by kernel_rfl)) (fun _ _ _ h => h) (Or.inl ⟨by rfl, ?_⟩) ?_ ?_
          rotate_left; (focus (intro w'; go_simp; with_reducible rfl)); rotate_left; (focus (simp only [Act.put, p1, p2, p3, i64_w, i32_w]; rfl))
          refine pure_ (i := 4) (N := some 29) (v := ?_) (a' := ?_) #[true, true, true, true, true, false, false, false, false, false, false, false, false, false, false, false, false, false, false, false, false, false, false, false, false, false, false, false, false, false, false] rfl rfl (any_of HT_.out (by kernel_rfl)) (fun _ _ _ h => h) (Or.inl ⟨by rfl, ?_⟩) ?_ ?_
          rotate_left; (focus (intro w'; go_simp; with_reducible rfl)); rotate_left; (focus (simp only [Act.put, p1, p2, p3, i64_w, i32_w]; rfl))
          refine pure_ (i := 9) (N := some 34) (v := ?_) (a' := ?_) #[true, true, true, true, true, false, false, false, false, true, false, false, false, false, false, false, false, false, false, false, false, false, false, false, false, false, false, false, false, false, false] rfl rfl (any_of HT_.out (by kernel_rfl)) (fun _ _ _ h => h) (Or.inl ⟨by rfl, ?_⟩) ?_ ?_
          rotate_left; (focus (intro w'; go_simp; with_reducible rfl)); rotate_left; (focus (simp only [Act.put, p1, p2, p3, i64_w, i32_w]; rfl))
          refine pure_ (i := 10) (N := some 35) (v := ?_) (a' := ?_) #[true, true, true, true, true, false, false, false, false, true, true, false, false, false, false, false, false, false, false, false, false, false, false, false, false, false, false, false, false, false, false] rfl rfl (any_of HT_.out (by kernel_rfl)) (fun _ _ _ h => h) (Or.inl ⟨by rfl, ?_⟩) ?_ ?_
          rotate_left; (focus (intro w'; go_simp; with_reducible rfl)); rotate_left; (focus (simp only [Act.put, p1, p2, p3, i64_w, i32_w]; rfl))
          refine pure_ (i := 11) (N := some 36) (v := ?_) (a' := ?_) #[true, true, true, true, true, false, false, false, false, true, true, true, false, false, false, false, false, false, false, false, false, false, false, false, false, false, false, false, false, false, false] rfl rfl (any_of HT_.out (by kernel_rfl)) (fun _ _ _ h => h) (Or.inl ⟨by rfl, ?_⟩) ?_ ?_
          rotate_left; (focus (intro w'; go_simp; with_reducible rfl)); rotate_left; (focus (simp only [Act.put, p1, p2, p3, i64_w, i32_w]; rfl))
          refine pure_ (i := 12) (N := some 37) (v := ?_) (a' := ?_) #[true, true, true, true, true, false, false, false, false, true, true, true, true, false, false, false, false, false, false, false, false, false, false, false, false, false, false, false, false, false, false] rfl rfl (any_of HT_.out (by kernel_rfl)) (fun _ _ _ h => h) (Or.inl ⟨by rfl, ?_⟩) ?_ ?_
          rotate_left; (focus (intro w'; go_simp; with_reducible rfl)); rotate_left; (focus (simp only [Act.put, p1, p2, p3, i64_w, i32_w]; rfl))
          refine pure_ (i := 13) (N := some 38) (v := ?_) (a' := ?_) #[true, true, true, true, true, false, false, false, false, true, true, true, true, true, false, false, false, false, false, false, false, false, false, false, false, false, false, false, false, false, false] rfl rfl (any_of HT_.out (by kernel_rfl)) (fun _ _ _ h => h) (Or.inl ⟨by rfl, ?_⟩) ?_ ?_
          rotate_left; (focus (intro w'; go_simp; with_reducible rfl)); rotate_left; (focus (simp only [Act.put, p1, p2, p3, i64_w, i32_w]; rfl))
          refine pure_ (i := 18) (N := some 43) (v := ?_) (a' := ?_) #[true, true, true, true, true, false, false, false, false, true, true, true, true, true, false, false, false, false, true, false, false, false, false, false, false, false, false, false, false, false, false] rfl rfl (any_of HT_.out (by kernel_rfl)) (fun _ _ _ h => h) (Or.inl ⟨by rfl, ?_⟩) ?_ ?_
          rotate_left; (focus (intro w'; go_simp; with_reducible rfl)); rotate_left; (focus (simp only [Act.put, p1, p2, p3, i64_w, i32_w]; rfl))
          refine pure_ (i := 19) (N := some 44) (v := ?_) (a' := ?_) #[true, true, true, true, true, false, false, false, false, true, true, true, true, true, false, false, false, false, true, true, false, false, false, false, false, false, false, false, false, false, false] rfl rfl (any_of HT_.out (by kernel_rfl)) (fun _ _ _ h => h) (Or.inl ⟨by rfl, ?_⟩) ?_ ?_
          rotate_left; (focus (intro w'; go_simp; with_reducible rfl)); rotate_left; (focus (simp only [Act.put, p1, p2, p3, i64_w, i32_w]; rfl))
          refine pure_ (i := 20) (N := some 45) (v := ?_) (a' := ?_) #[true, true, true, true, true, false, false, false, false, true, true, true, true, true, false, false, false, false, true, true, true, false, false, false, false, false, false, false, false, false, false] rfl rfl (any_of HT_.out (by kernel_rfl)) (fun _ _ _ h => h) (Or.inl ⟨by rfl, ?_⟩) ?_ ?_
          rotate_left; (focus (intro w'; go_simp; with_reducible rfl)); rotate_left; (focus (simp only [Act.put, p1, p2, p3, i64_w, i32_w]; rfl))
          refine pure_ (i := 21) (N := some 46) (v := ?_) (a' := ?_) #[true, true, true, true, true, false, false, false, false, true, true, true, true, true, false, false, false, false, true, true, true, true, false, false, false, false, false, false, false, false, false] rfl rfl (any_of HT_.out (by kernel_rfl)) (fun _ _ _ h => h) (Or.inl ⟨by rfl, ?_⟩) ?_ ?_
          rotate_left; (focus (intro w'; go_simp; with_reducible rfl)); rotate_left; (focus (simp only [Act.put, p1, p2, p3, i64_w, i32_w]; rfl))
          refine pure_ (i := 22) (N := some 47) (v := ?_) (a' := ?_) #[true, true, true, true, true, false, false, false, false, true, true, true, true, true, false, false, false, false, true, true, true, true, true, false, false, false, false, false, false, false, false] rfl rfl (any_of HT_.out (by kernel_rfl)) (fun _ _ _ h => h) (Or.inl ⟨by rfl, ?_⟩) ?_ ?_
          rotate_left; (focus (intro w'; go_simp; with_reducible rfl)); rotate_left; (focus (simp only [Act.put, p1, p2, p3, i64_w, i32_w]; rfl))
          refine take_ (i := 5) (N := some 30) (v := ?_) (a' := ?_) #[true, true, true, true, true, true, false, false, false, true, true, true, true, true, false, false, false, false, true, true, true, true, true, false, false, false, false, false, false, false, false] rfl rfl (take_ofW HT_.out HW_.out (by kernel_rfl)) (fun _ _ _ h => h) (Or.inl ⟨by rfl, ?_⟩) hHeld ?_ ?_
          rotate_left
          ·
           rintro w' ⟨s0, s1, s2, s3, s4, s5, s6, s7, s8⟩
           go_simp
           with_reducible rfl
          rotate_left
          ·
           simp only [Act.put, p1, p2, p3, i64_w, i32_w]
           rfl
          refine pure_ (i := 6) (N := some 31) (v := ?_) (a' := ?_) #[true, true, true, true, true, true, true, false, false, true, true, true, true, true, false, false, false, false, true, true, true, true, true, false, false, false, false, false, false, false, false] rfl rfl (any_of HT_.out (by kernel_rfl)) (fun _ _ _ h => h) (Or.inl ⟨by rfl, ?_⟩) ?_ ?_
          rotate_left; (focus (intro w'; go_simp; with_reducible rfl)); rotate_left; (focus (simp only [Act.put, p1, p2, p3, i64_w, i32_w]; rfl))
          refine take_ (i := 14) (N := some 39) (v := ?_) (a' := ?_) #[true, true, true, true, true, true, true, false, false, true, true, true, true, true, true, false, false, false, true, true, true, true, true, false, false, false, false, false, false, false, false] rfl rfl (take_ofW HT_.out HW_.out (by kernel_rfl)) (fun _ _ _ h => h) (Or.inl ⟨by rfl, ?_⟩) hHeld ?_ ?_
          rotate_left
          ·
           rintro w' ⟨s0, s1, s2, s3, s4, s5, s6, s7, s8⟩
           go_simp
           with_reducible rfl
          rotate_left
          ·
           simp only [Act.put, p1, p2, p3, i64_w, i32_w]
           rfl
          refine pure_ (i := 15) (N := some 40) (v := ?_) (a' := ?_) #[true, true, true, true, true, true, true, false, false, true, true, true, true, true, true, true, false, false, true, true, true, true, true, false, false, false, false, false, false, false, false] rfl rfl (any_of HT_.out (by kernel_rfl)) (fun _ _ _ h => h) (Or.inl ⟨by rfl, ?_⟩) ?_ ?_
          rotate_left; (focus (intro w'; go_simp; with_reducible rfl)); rotate_left; (focus (simp only [Act.put, p1, p2, p3, i64_w, i32_w]; rfl))
          refine take_ (i := 23) (N := some 48) (v := ?_) (a' := ?_) #[true, true, true, true, true, true, true, false, false, true, true, true, true, true, true, true, false, false, true, true, true, true, true, true, false, false, false, false, false, false, false] rfl rfl (take_ofW HT_.out HW_.out (by kernel_rfl)) (fun _ _ _ h => h) (Or.inl ⟨by rfl, ?_⟩) hHeld ?_ ?_
          rotate_left
          ·
           rintro w' ⟨s0, s1, s2, s3, s4, s5, s6, s7, s8⟩
           go_simp
           with_reducible rfl
          rotate_left
          ·
           simp only [Act.put, p1, p2, p3, i64_w, i32_w]
           rfl
          refine pure_ (i := 24) (N := some 49) (v := ?_) (a' := ?_) #[true, true, true, true, true, true, true, false, false, true, true, true, true, true, true, true, false, false, true, true, true, true, true, true, true, false, false, false, false, false, false] rfl rfl (any_of HT_.out (by kernel_rfl)) (fun _ _ _ h => h) (Or.inl ⟨by rfl, ?_⟩) ?_ ?_
          rotate_left; (focus (intro w'; go_simp; with_reducible rfl)); rotate_left; (focus (simp only [Act.put, p1, p2, p3, i64_w, i32_w]; rfl))
          refine pure_ (i := 25) (N := some 50) (v := ?_) (a' := ?_) #[true, true, true, true, true, true, true, false, false, true, true, true, true, true, true, true, false, false, true, true, true, true, true, true, true, true, false, false, false, false, false] rfl rfl (any_of HT_.out (by kernel_rfl)) (fun _ _ _ h => h) (Or.inl ⟨by rfl, ?_⟩) ?_ ?_
          rotate_left; (focus (intro w'; go_simp; with_reducible rfl)); rotate_left; (focus (simp only [Act.put, p1, p2, p3, i64_w, i32_w]; rfl))
          refine join_ (σ := Value × Value × Value × Value × Value) 4 WearVictims.q0 (fun s_ => [(32, s_.1), (33, s_.2.1), (41, s_.2.2.1), (42, s_.2.2.2.1), (51, s_.2.2.2.2)]) (fun s_ w' => (w'.cell? (ad142.add ((x7_1).toNat * 3)) = some (.int .u8 ((rd_T35 l0 x7_1).f0)) ∧ w'.cell? ⟨(ad142.add ((x7_1).toNat * 3)).block, (ad142.add ((x7_1).toNat * 3)).off + 1, none⟩ = some (.int .u8 ((rd_T35 l0 x7_1).f1)) ∧ w'.cell? ⟨(ad142.add ((x7_1).toNat * 3)).block, (ad142.add ((x7_1).toNat * 3)).off + 2, none⟩ = some (.int .u8 ((rd_T35 l0 x7_1).f2)) ∧ w'.cell? (ad142.add ((x7_1).toNat * 3)) = some (.int .u8 ((rd_T35 l0 x7_1).f0)) ∧ w'.cell? ⟨(ad142.add ((x7_1).toNat * 3)).block, (ad142.add ((x7_1).toNat * 3)).off + 1, none⟩ = some (.int .u8 ((rd_T35 l0 x7_1).f1)) ∧ w'.cell? ⟨(ad142.add ((x7_1).toNat * 3)).block, (ad142.add ((x7_1).toNat * 3)).off + 2, none⟩ = some (.int .u8 ((rd_T35 l0 x7_1).f2)) ∧ w'.cell? (ad142.add ((x7_1).toNat * 3)) = some (.int .u8 ((rd_T35 l0 x7_1).f0)) ∧ w'.cell? ⟨(ad142.add ((x7_1).toNat * 3)).block, (ad142.add ((x7_1).toNat * 3)).off + 1, none⟩ = some (.int .u8 ((rd_T35 l0 x7_1).f1)) ∧ w'.cell? ⟨(ad142.add ((x7_1).toNat * 3)).block, (ad142.add ((x7_1).toNat * 3)).off + 2, none⟩ = some (.int .u8 ((rd_T35 l0 x7_1).f2))) ∧ (Kd.R (Kd.int .i64) 3 w' w.heap.size (fun k_ => some k_ ≠ (s_.2.1 : Value).ownBlock ∧ some k_ ≠ (s_.2.2.1 : Value).ownBlock ∧ some k_ ≠ (s_.2.2.2.1 : Value).ownBlock ∧ some k_ ≠ (u5 : Value).ownBlock) s_.1 y143) ∧ (Kd.R (Kd.int .i64) 3 w' w.heap.size (fun k_ => some k_ ≠ (s_.1 : Value).ownBlock ∧ some k_ ≠ (s_.2.2.1 : Value).ownBlock ∧ some k_ ≠ (s_.2.2.2.1 : Value).ownBlock ∧ some k_ ≠ (u5 : Value).ownBlock) s_.2.1 y146) ∧ (Kd.R (Kd.int .i64) 3 w' w.heap.size (fun k_ => some k_ ≠ (s_.1 : Value).ownBlock ∧ some k_ ≠ (s_.2.1 : Value).ownBlock ∧ some k_ ≠ (s_.2.2.2.1 : Value).ownBlock ∧ some k_ ≠ (u5 : Value).ownBlock) s_.2.2.1 y150) ∧ (Kd.R (Kd.int .i64) 3 w' w.heap.size (fun k_ => some k_ ≠ (s_.1 : Value).ownBlock ∧ some k_ ≠ (s_.2.1 : Value).ownBlock ∧ some k_ ≠ (s_.2.2.1 : Value).ownBlock ∧ some k_ ≠ (u5 : Value).ownBlock) s_.2.2.2.1 y153) ∧ (Kd.R Kd.bool 4 w' w.heap.size (fun k_ => some k_ ≠ (.slice Ao15 x6_1.length co15 : Value).ownBlock) s_.2.2.2.2 y157) ∧ (Kd.R (Kd.int .i64) 3 w' w.heap.size (fun k_ => some k_ ≠ (s_.1 : Value).ownBlock ∧ some k_ ≠ (s_.2.1 : Value).ownBlock ∧ some k_ ≠ (s_.2.2.1 : Value).ownBlock ∧ some k_ ≠ (s_.2.2.2.1 : Value).ownBlock) u5 x5_1) ∧ (Kd.R Kd.bool 4 w' w.heap.size (fun k_ => some k_ ≠ (s_.2.2.2.2 : Value).ownBlock) (.slice Ao15 x6_1.length co15) x6_1) ∧ (Below w.heap.size w w')) ?_ ?_
          rotate_left
          ·
           intro hJ7_8_16_17_26
           refine join_ (σ := Value × Value × Value × Value) 5 WearVictims.q1 (fun s_ => [(32, s_.1), (33, s_.2.1), (41, s_.2.2.1), (42, s_.2.2.2)]) (fun s_ w' => (w'.cell? (ad142.add ((x7_1).toNat * 3)) = some (.int .u8 ((rd_T35 l0 x7_1).f0)) ∧ w'.cell? ⟨(ad142.add ((x7_1).toNat * 3)).block, (ad142.add ((x7_1).toNat * 3)).off + 1, none⟩ = some (.int .u8 ((rd_T35 l0 x7_1).f1)) ∧ w'.cell? ⟨(ad142.add ((x7_1).toNat * 3)).block, (ad142.add ((x7_1).toNat * 3)).off + 2, none⟩ = some (.int .u8 ((rd_T35 l0 x7_1).f2)) ∧ w'.cell? (ad142.add ((x7_1).toNat * 3)) = some (.int .u8 ((rd_T35 l0 x7_1).f0)) ∧ w'.cell? ⟨(ad142.add ((x7_1).toNat * 3)).block, (ad142.add ((x7_1).toNat * 3)).off + 1, none⟩ = some (.int .u8 ((rd_T35 l0 x7_1).f1)) ∧ w'.cell? ⟨(ad142.add ((x7_1).toNat * 3)).block, (ad142.add ((x7_1).toNat * 3)).off + 2, none⟩ = some (.int .u8 ((rd_T35 l0 x7_1).f2)) ∧ w'.cell? (ad142.add ((x7_1).toNat * 3)) = some (.int .u8 ((rd_T35 l0 x7_1).f0)) ∧ w'.cell? ⟨(ad142.add ((x7_1).toNat * 3)).block, (ad142.add ((x7_1).toNat * 3)).off + 1, none⟩ = some (.int .u8 ((rd_T35 l0 x7_1).f1)) ∧ w'.cell? ⟨(ad142.add ((x7_1).toNat * 3)).block, (ad142.add ((x7_1).toNat * 3)).off + 2, none⟩ = some (.int .u8 ((rd_T35 l0 x7_1).f2))) ∧ (Kd.R (Kd.int .i64) 3 w' w.heap.size (fun k_ => some k_ ≠ (s_.2.1 : Value).ownBlock ∧ some k_ ≠ (s_.2.2.1 : Value).ownBlock ∧ some k_ ≠ (s_.2.2.2 : Value).ownBlock ∧ some k_ ≠ (u5 : Value).ownBlock) s_.1 y143) ∧ (Kd.R (Kd.int .i64) 3 w' w.heap.size (fun k_ => some k_ ≠ (s_.1 : Value).ownBlock ∧ some k_ ≠ (s_.2.2.1 : Value).ownBlock ∧ some k_ ≠ (s_.2.2.2 : Value).ownBlock ∧ some k_ ≠ (u5 : Value).ownBlock) s_.2.1 y146) ∧ (Kd.R (Kd.int .i64) 3 w' w.heap.size (fun k_ => some k_ ≠ (s_.1 : Value).ownBlock ∧ some k_ ≠ (s_.2.1 : Value).ownBlock ∧ some k_ ≠ (s_.2.2.2 : Value).ownBlock ∧ some k_ ≠ (u5 : Value).ownBlock) s_.2.2.1 y150) ∧ (Kd.R (Kd.int .i64) 3 w' w.heap.size (fun k_ => some k_ ≠ (s_.1 : Value).ownBlock ∧ some k_ ≠ (s_.2.1 : Value).ownBlock ∧ some k_ ≠ (s_.2.2.1 : Value).ownBlock ∧ some k_ ≠ (u5 : Value).ownBlock) s_.2.2.2 y153) ∧ (Kd.R (Kd.int .i64) 3 w' w.heap.size (fun k_ => some k_ ≠ (s_.1 : Value).ownBlock ∧ some k_ ≠ (s_.2.1 : Value).ownBlock ∧ some k_ ≠ (s_.2.2.1 : Value).ownBlock ∧ some k_ ≠ (s_.2.2.2 : Value).ownBlock) u5 x5_1) ∧ (Kd.R Kd.bool 4 w' w.heap.size (fun _ => True) (.slice Ao15 x6_1.length co15) x6_1) ∧ (Below w.heap.size w w')) ?_ ?_
           rotate_left
           ·
            intro hJ7_8_16_17
            refine join_ (σ := Value × Value × Value × Value) 5 WearVictims.q2 (fun s_ => [(32, s_.1), (33, s_.2.1), (41, s_.2.2.1), (51, s_.2.2.2)]) (fun s_ w' => (w'.cell? (ad142.add ((x7_1).toNat * 3)) = some (.int .u8 ((rd_T35 l0 x7_1).f0)) ∧ w'.cell? ⟨(ad142.add ((x7_1).toNat * 3)).block, (ad142.add ((x7_1).toNat * 3)).off + 1, none⟩ = some (.int .u8 ((rd_T35 l0 x7_1).f1)) ∧ w'.cell? ⟨(ad142.add ((x7_1).toNat * 3)).block, (ad142.add ((x7_1).toNat * 3)).off + 2, none⟩ = some (.int .u8 ((rd_T35 l0 x7_1).f2)) ∧ w'.cell? (ad142.add ((x7_1).toNat * 3)) = some (.int .u8 ((rd_T35 l0 x7_1).f0)) ∧ w'.cell? ⟨(ad142.add ((x7_1).toNat * 3)).block, (ad142.add ((x7_1).toNat * 3)).off + 1, none⟩ = some (.int .u8 ((rd_T35 l0 x7_1).f1)) ∧ w'.cell? ⟨(ad142.add ((x7_1).toNat * 3)).block, (ad142.add ((x7_1).toNat * 3)).off + 2, none⟩ = some (.int .u8 ((rd_T35 l0 x7_1).f2)) ∧ w'.cell? (ad142.add ((x7_1).toNat * 3)) = some (.int .u8 ((rd_T35 l0 x7_1).f0)) ∧ w'.cell? ⟨(ad142.add ((x7_1).toNat * 3)).block, (ad142.add ((x7_1).toNat * 3)).off + 1, none⟩ = some (.int .u8 ((rd_T35 l0 x7_1).f1)) ∧ w'.cell? ⟨(ad142.add ((x7_1).toNat * 3)).block, (ad142.add ((x7_1).toNat * 3)).off + 2, none⟩ = some (.int .u8 ((rd_T35 l0 x7_1).f2))) ∧ (Kd.R (Kd.int .i64) 3 w' w.heap.size (fun k_ => some k_ ≠ (s_.2.1 : Value).ownBlock ∧ some k_ ≠ (s_.2.2.1 : Value).ownBlock ∧ some k_ ≠ (.slice Ao14 x4_1.length co14 : Value).ownBlock ∧ some k_ ≠ (u5 : Value).ownBlock) s_.1 y143) ∧ (Kd.R (Kd.int .i64) 3 w' w.heap.size (fun k_ => some k_ ≠ (s_.1 : Value).ownBlock ∧ some k_ ≠ (s_.2.2.1 : Value).ownBlock ∧ some k_ ≠ (.slice Ao14 x4_1.length co14 : Value).ownBlock ∧ some k_ ≠ (u5 : Value).ownBlock) s_.2.1 y146) ∧ (Kd.R (Kd.int .i64) 3 w' w.heap.size (fun k_ => some k_ ≠ (s_.1 : Value).ownBlock ∧ some k_ ≠ (s_.2.1 : Value).ownBlock ∧ some k_ ≠ (.slice Ao14 x4_1.length co14 : Value).ownBlock ∧ some k_ ≠ (u5 : Value).ownBlock) s_.2.2.1 y150) ∧ (Kd.R Kd.bool 4 w' w.heap.size (fun k_ => some k_ ≠ (.slice Ao15 x6_1.length co15 : Value).ownBlock) s_.2.2.2 y157) ∧ (Kd.R (Kd.int .i64) 3 w' w.heap.size (fun k_ => some k_ ≠ (s_.1 : Value).ownBlock ∧ some k_ ≠ (s_.2.1 : Value).ownBlock ∧ some k_ ≠ (s_.2.2.1 : Value).ownBlock ∧ some k_ ≠ (u5 : Value).ownBlock) (.slice Ao14 x4_1.length co14) x4_1) ∧ (Kd.R (Kd.int .i64) 3 w' w.heap.size (fun k_ => some k_ ≠ (s_.1 : Value).ownBlock ∧ some k_ ≠ (s_.2.1 : Value).ownBlock ∧ some k_ ≠ (s_.2.2.1 : Value).ownBlock ∧ some k_ ≠ (.slice Ao14 x4_1.length co14 : Value).ownBlock) u5 x5_1) ∧ (Kd.R Kd.bool 4 w' w.heap.size (fun k_ => some k_ ≠ (s_.2.2.2 : Value).ownBlock) (.slice Ao15 x6_1.length co15) x6_1) ∧ (Below w.heap.size w w')) ?_ ?_
            rotate_left
            ·
             intro hJ7_8_16_26
             refine join_ (σ := Value × Value × Value) 6 WearVictims.q3 (fun s_ => [(32, s_.1), (33, s_.2.1), (41, s_.2.2)]) (fun s_ w' => (w'.cell? (ad142.add ((x7_1).toNat * 3)) = some (.int .u8 ((rd_T35 l0 x7_1).f0)) ∧ w'.cell? ⟨(ad142.add ((x7_1).toNat * 3)).block, (ad142.add ((x7_1).toNat * 3)).off + 1, none⟩ = some (.int .u8 ((rd_T35 l0 x7_1).f1)) ∧ w'.cell? ⟨(ad142.add ((x7_1).toNat * 3)).block, (ad142.add ((x7_1).toNat * 3)).off + 2, none⟩ = some (.int .u8 ((rd_T35 l0 x7_1).f2)) ∧ w'.cell? (ad142.add ((x7_1).toNat * 3)) = some (.int .u8 ((rd_T35 l0 x7_1).f0)) ∧ w'.cell? ⟨(ad142.add ((x7_1).toNat * 3)).block, (ad142.add ((x7_1).toNat * 3)).off + 1, none⟩ = some (.int .u8 ((rd_T35 l0 x7_1).f1)) ∧ w'.cell? ⟨(ad142.add ((x7_1).toNat * 3)).block, (ad142.add ((x7_1).toNat * 3)).off + 2, none⟩ = some (.int .u8 ((rd_T35 l0 x7_1).f2)) ∧ w'.cell? (ad142.add ((x7_1).toNat * 3)) = some (.int .u8 ((rd_T35 l0 x7_1).f0)) ∧ w'.cell? ⟨(ad142.add ((x7_1).toNat * 3)).block, (ad142.add ((x7_1).toNat * 3)).off + 1, none⟩ = some (.int .u8 ((rd_T35 l0 x7_1).f1)) ∧ w'.cell? ⟨(ad142.add ((x7_1).toNat * 3)).block, (ad142.add ((x7_1).toNat * 3)).off + 2, none⟩ = some (.int .u8 ((rd_T35 l0 x7_1).f2))) ∧ (Kd.R (Kd.int .i64) 3 w' w.heap.size (fun k_ => some k_ ≠ (s_.2.1 : Value).ownBlock ∧ some k_ ≠ (s_.2.2 : Value).ownBlock ∧ some k_ ≠ (.slice Ao14 x4_1.length co14 : Value).ownBlock ∧ some k_ ≠ (u5 : Value).ownBlock) s_.1 y143) ∧ (Kd.R (Kd.int .i64) 3 w' w.heap.size (fun k_ => some k_ ≠ (s_.1 : Value).ownBlock ∧ some k_ ≠ (s_.2.2 : Value).ownBlock ∧ some k_ ≠ (.slice Ao14 x4_1.length co14 : Value).ownBlock ∧ some k_ ≠ (u5 : Value).ownBlock) s_.2.1 y146) ∧ (Kd.R (Kd.int .i64) 3 w' w.heap.size (fun k_ => some k_ ≠ (s_.1 : Value).ownBlock ∧ some k_ ≠ (s_.2.1 : Value).ownBlock ∧ some k_ ≠ (.slice Ao14 x4_1.length co14 : Value).ownBlock ∧ some k_ ≠ (u5 : Value).ownBlock) s_.2.2 y150) ∧ (Kd.R (Kd.int .i64) 3 w' w.heap.size (fun k_ => some k_ ≠ (s_.1 : Value).ownBlock ∧ some k_ ≠ (s_.2.1 : Value).ownBlock ∧ some k_ ≠ (s_.2.2 : Value).ownBlock ∧ some k_ ≠ (u5 : Value).ownBlock) (.slice Ao14 x4_1.length co14) x4_1) ∧ (Kd.R (Kd.int .i64) 3 w' w.heap.size (fun k_ => some k_ ≠ (s_.1 : Value).ownBlock ∧ some k_ ≠ (s_.2.1 : Value).ownBlock ∧ some k_ ≠ (s_.2.2 : Value).ownBlock ∧ some k_ ≠ (.slice Ao14 x4_1.length co14 : Value).ownBlock) u5 x5_1) ∧ (Kd.R Kd.bool 4 w' w.heap.size (fun _ => True) (.slice Ao15 x6_1.length co15) x6_1) ∧ (Below w.heap.size w w')) ?_ ?_
             rotate_left
             ·
              intro hJ7_8_16
              refine join_ (σ := Value × Value × Value) 6 WearVictims.q4 (fun s_ => [(32, s_.1), (33, s_.2.1), (51, s_.2.2)]) (fun s_ w' => (w'.cell? (ad142.add ((x7_1).toNat * 3)) = some (.int .u8 ((rd_T35 l0 x7_1).f0)) ∧ w'.cell? ⟨(ad142.add ((x7_1).toNat * 3)).block, (ad142.add ((x7_1).toNat * 3)).off + 1, none⟩ = some (.int .u8 ((rd_T35 l0 x7_1).f1)) ∧ w'.cell? ⟨(ad142.add ((x7_1).toNat * 3)).block, (ad142.add ((x7_1).toNat * 3)).off + 2, none⟩ = some (.int .u8 ((rd_T35 l0 x7_1).f2)) ∧ w'.cell? (ad142.add ((x7_1).toNat * 3)) = some (.int .u8 ((rd_T35 l0 x7_1).f0)) ∧ w'.cell? ⟨(ad142.add ((x7_1).toNat * 3)).block, (ad142.add ((x7_1).toNat * 3)).off + 1, none⟩ = some (.int .u8 ((rd_T35 l0 x7_1).f1)) ∧ w'.cell? ⟨(ad142.add ((x7_1).toNat * 3)).block, (ad142.add ((x7_1).toNat * 3)).off + 2, none⟩ = some (.int .u8 ((rd_T35 l0 x7_1).f2)) ∧ w'.cell? (ad142.add ((x7_1).toNat * 3)) = some (.int .u8 ((rd_T35 l0 x7_1).f0)) ∧ w'.cell? ⟨(ad142.add ((x7_1).toNat * 3)).block, (ad142.add ((x7_1).toNat * 3)).off + 1, none⟩ = some (.int .u8 ((rd_T35 l0 x7_1).f1)) ∧ w'.cell? ⟨(ad142.add ((x7_1).toNat * 3)).block, (ad142.add ((x7_1).toNat * 3)).off + 2, none⟩ = some (.int .u8 ((rd_T35 l0 x7_1).f2))) ∧ (Kd.R (Kd.int .i64) 3 w' w.heap.size (fun k_ => some k_ ≠ (s_.2.1 : Value).ownBlock ∧ some k_ ≠ (.slice Ao14 x4_1.length co14 : Value).ownBlock ∧ some k_ ≠ (u5 : Value).ownBlock) s_.1 y143) ∧ (Kd.R (Kd.int .i64) 3 w' w.heap.size (fun k_ => some k_ ≠ (s_.1 : Value).ownBlock ∧ some k_ ≠ (.slice Ao14 x4_1.length co14 : Value).ownBlock ∧ some k_ ≠ (u5 : Value).ownBlock) s_.2.1 y146) ∧ (Kd.R Kd.bool 4 w' w.heap.size (fun k_ => some k_ ≠ (.slice Ao15 x6_1.length co15 : Value).ownBlock) s_.2.2 y157) ∧ (Kd.R (Kd.int .i64) 3 w' w.heap.size (fun k_ => some k_ ≠ (s_.1 : Value).ownBlock ∧ some k_ ≠ (s_.2.1 : Value).ownBlock ∧ some k_ ≠ (u5 : Value).ownBlock) (.slice Ao14 x4_1.length co14) x4_1) ∧ (Kd.R (Kd.int .i64) 3 w' w.heap.size (fun k_ => some k_ ≠ (s_.1 : Value).ownBlock ∧ some k_ ≠ (s_.2.1 : Value).ownBlock ∧ some k_ ≠ (.slice Ao14 x4_1.length co14 : Value).ownBlock) u5 x5_1) ∧ (Kd.R Kd.bool 4 w' w.heap.size (fun k_ => some k_ ≠ (s_.2.2 : Value).ownBlock) (.slice Ao15 x6_1.length co15) x6_1) ∧ (Below w.heap.size w w')) ?_ ?_
              rotate_left
              ·
               intro hJ7_8_26
               refine join_ (σ := Value × Value × Value) 6 WearVictims.q5 (fun s_ => [(32, s_.1), (41, s_.2.1), (51, s_.2.2)]) (fun s_ w' => (w'.cell? (ad142.add ((x7_1).toNat * 3)) = some (.int .u8 ((rd_T35 l0 x7_1).f0)) ∧ w'.cell? ⟨(ad142.add ((x7_1).toNat * 3)).block, (ad142.add ((x7_1).toNat * 3)).off + 1, none⟩ = some (.int .u8 ((rd_T35 l0 x7_1).f1)) ∧ w'.cell? ⟨(ad142.add ((x7_1).toNat * 3)).block, (ad142.add ((x7_1).toNat * 3)).off + 2, none⟩ = some (.int .u8 ((rd_T35 l0 x7_1).f2)) ∧ w'.cell? (ad142.add ((x7_1).toNat * 3)) = some (.int .u8 ((rd_T35 l0 x7_1).f0)) ∧ w'.cell? ⟨(ad142.add ((x7_1).toNat * 3)).block, (ad142.add ((x7_1).toNat * 3)).off + 1, none⟩ = some (.int .u8 ((rd_T35 l0 x7_1).f1)) ∧ w'.cell? ⟨(ad142.add ((x7_1).toNat * 3)).block, (ad142.add ((x7_1).toNat * 3)).off + 2, none⟩ = some (.int .u8 ((rd_T35 l0 x7_1).f2)) ∧ w'.cell? (ad142.add ((x7_1).toNat * 3)) = some (.int .u8 ((rd_T35 l0 x7_1).f0)) ∧ w'.cell? ⟨(ad142.add ((x7_1).toNat * 3)).block, (ad142.add ((x7_1).toNat * 3)).off + 1, none⟩ = some (.int .u8 ((rd_T35 l0 x7_1).f1)) ∧ w'.cell? ⟨(ad142.add ((x7_1).toNat * 3)).block, (ad142.add ((x7_1).toNat * 3)).off + 2, none⟩ = some (.int .u8 ((rd_T35 l0 x7_1).f2))) ∧ (Kd.R (Kd.int .i64) 3 w' w.heap.size (fun k_ => some k_ ≠ (s_.2.1 : Value).ownBlock ∧ some k_ ≠ (.slice Ao13 x3_1.length co13 : Value).ownBlock ∧ some k_ ≠ (.slice Ao14 x4_1.length co14 : Value).ownBlock ∧ some k_ ≠ (u5 : Value).ownBlock) s_.1 y143) ∧ (Kd.R (Kd.int .i64) 3 w' w.heap.size (fun k_ => some k_ ≠ (s_.1 : Value).ownBlock ∧ some k_ ≠ (.slice Ao13 x3_1.length co13 : Value).ownBlock ∧ some k_ ≠ (.slice Ao14 x4_1.length co14 : Value).ownBlock ∧ some k_ ≠ (u5 : Value).ownBlock) s_.2.1 y150) ∧ (Kd.R Kd.bool 4 w' w.heap.size (fun k_ => some k_ ≠ (.slice Ao15 x6_1.length co15 : Value).ownBlock) s_.2.2 y157) ∧ (Kd.R (Kd.int .i64) 3 w' w.heap.size (fun k_ => some k_ ≠ (s_.1 : Value).ownBlock ∧ some k_ ≠ (s_.2.1 : Value).ownBlock ∧ some k_ ≠ (.slice Ao14 x4_1.length co14 : Value).ownBlock ∧ some k_ ≠ (u5 : Value).ownBlock) (.slice Ao13 x3_1.length co13) x3_1) ∧ (Kd.R (Kd.int .i64) 3 w' w.heap.size (fun k_ => some k_ ≠ (s_.1 : Value).ownBlock ∧ some k_ ≠ (s_.2.1 : Value).ownBlock ∧ some k_ ≠ (.slice Ao13 x3_1.length co13 : Value).ownBlock ∧ some k_ ≠ (u5 : Value).ownBlock) (.slice Ao14 x4_1.length co14) x4_1) ∧ (Kd.R (Kd.int .i64) 3 w' w.heap.size (fun k_ => some k_ ≠ (s_.1 : Value).ownBlock ∧ some k_ ≠ (s_.2.1 : Value).ownBlock ∧ some k_ ≠ (.slice Ao13 x3_1.length co13 : Value).ownBlock ∧ some k_ ≠ (.slice Ao14 x4_1.length co14 : Value).ownBlock) u5 x5_1) ∧ (Kd.R Kd.bool 4 w' w.heap.size (fun k_ => some k_ ≠ (s_.2.2 : Value).ownBlock) (.slice Ao15 x6_1.length co15) x6_1) ∧ (Below w.heap.size w w')) ?_ ?_
               rotate_left
               ·
                intro hJ7_16_26
                refine join_ (σ := Value × Value) 7 WearVictims.q6 (fun s_ => [(32, s_.1), (33, s_.2)]) (fun s_ w' => (w'.cell? (ad142.add ((x7_1).toNat * 3)) = some (.int .u8 ((rd_T35 l0 x7_1).f0)) ∧ w'.cell? ⟨(ad142.add ((x7_1).toNat * 3)).block, (ad142.add ((x7_1).toNat * 3)).off + 1, none⟩ = some (.int .u8 ((rd_T35 l0 x7_1).f1)) ∧ w'.cell? ⟨(ad142.add ((x7_1).toNat * 3)).block, (ad142.add ((x7_1).toNat * 3)).off + 2, none⟩ = some (.int .u8 ((rd_T35 l0 x7_1).f2)) ∧ w'.cell? (ad142.add ((x7_1).toNat * 3)) = some (.int .u8 ((rd_T35 l0 x7_1).f0)) ∧ w'.cell? ⟨(ad142.add ((x7_1).toNat * 3)).block, (ad142.add ((x7_1).toNat * 3)).off + 1, none⟩ = some (.int .u8 ((rd_T35 l0 x7_1).f1)) ∧ w'.cell? ⟨(ad142.add ((x7_1).toNat * 3)).block, (ad142.add ((x7_1).toNat * 3)).off + 2, none⟩ = some (.int .u8 ((rd_T35 l0 x7_1).f2)) ∧ w'.cell? (ad142.add ((x7_1).toNat * 3)) = some (.int .u8 ((rd_T35 l0 x7_1).f0)) ∧ w'.cell? ⟨(ad142.add ((x7_1).toNat * 3)).block, (ad142.add ((x7_1).toNat * 3)).off + 1, none⟩ = some (.int .u8 ((rd_T35 l0 x7_1).f1)) ∧ w'.cell? ⟨(ad142.add ((x7_1).toNat * 3)).block, (ad142.add ((x7_1).toNat * 3)).off + 2, none⟩ = some (.int .u8 ((rd_T35 l0 x7_1).f2))) ∧ (Kd.R (Kd.int .i64) 3 w' w.heap.size (fun k_ => some k_ ≠ (s_.2 : Value).ownBlock ∧ some k_ ≠ (.slice Ao14 x4_1.length co14 : Value).ownBlock ∧ some k_ ≠ (u5 : Value).ownBlock) s_.1 y143) ∧ (Kd.R (Kd.int .i64) 3 w' w.heap.size (fun k_ => some k_ ≠ (s_.1 : Value).ownBlock ∧ some k_ ≠ (.slice Ao14 x4_1.length co14 : Value).ownBlock ∧ some k_ ≠ (u5 : Value).ownBlock) s_.2 y146) ∧ (Kd.R (Kd.int .i64) 3 w' w.heap.size (fun k_ => some k_ ≠ (s_.1 : Value).ownBlock ∧ some k_ ≠ (s_.2 : Value).ownBlock ∧ some k_ ≠ (u5 : Value).ownBlock) (.slice Ao14 x4_1.length co14) x4_1) ∧ (Kd.R (Kd.int .i64) 3 w' w.heap.size (fun k_ => some k_ ≠ (s_.1 : Value).ownBlock ∧ some k_ ≠ (s_.2 : Value).ownBlock ∧ some k_ ≠ (.slice Ao14 x4_1.length co14 : Value).ownBlock) u5 x5_1) ∧ (Kd.R Kd.bool 4 w' w.heap.size (fun _ => True) (.slice Ao15 x6_1.length co15) x6_1) ∧ (Below w.heap.size w w')) ?_ ?_
                rotate_left
                ·
                 intro hJ7_8
                 refine join_ (σ := Value × Value) 7 WearVictims.q7 (fun s_ => [(32, s_.1), (41, s_.2)]) (fun s_ w' => (w'.cell? (ad142.add ((x7_1).toNat * 3)) = some (.int .u8 ((rd_T35 l0 x7_1).f0)) ∧ w'.cell? ⟨(ad142.add ((x7_1).toNat * 3)).block, (ad142.add ((x7_1).toNat * 3)).off + 1, none⟩ = some (.int .u8 ((rd_T35 l0 x7_1).f1)) ∧ w'.cell? ⟨(ad142.add ((x7_1).toNat * 3)).block, (ad142.add ((x7_1).toNat * 3)).off + 2, none⟩ = some (.int .u8 ((rd_T35 l0 x7_1).f2)) ∧ w'.cell? (ad142.add ((x7_1).toNat * 3)) = some (.int .u8 ((rd_T35 l0 x7_1).f0)) ∧ w'.cell? ⟨(ad142.add ((x7_1).toNat * 3)).block, (ad142.add ((x7_1).toNat * 3)).off + 1, none⟩ = some (.int .u8 ((rd_T35 l0 x7_1).f1)) ∧ w'.cell? ⟨(ad142.add ((x7_1).toNat * 3)).block, (ad142.add ((x7_1).toNat * 3)).off + 2, none⟩ = some (.int .u8 ((rd_T35 l0 x7_1).f2)) ∧ w'.cell? (ad142.add ((x7_1).toNat * 3)) = some (.int .u8 ((rd_T35 l0 x7_1).f0)) ∧ w'.cell? ⟨(ad142.add ((x7_1).toNat * 3)).block, (ad142.add ((x7_1).toNat * 3)).off + 1, none⟩ = some (.int .u8 ((rd_T35 l0 x7_1).f1)) ∧ w'.cell? ⟨(ad142.add ((x7_1).toNat * 3)).block, (ad142.add ((x7_1).toNat * 3)).off + 2, none⟩ = some (.int .u8 ((rd_T35 l0 x7_1).f2))) ∧ (Kd.R (Kd.int .i64) 3 w' w.heap.size (fun k_ => some k_ ≠ (s_.2 : Value).ownBlock ∧ some k_ ≠ (.slice Ao13 x3_1.length co13 : Value).ownBlock ∧ some k_ ≠ (.slice Ao14 x4_1.length co14 : Value).ownBlock ∧ some k_ ≠ (u5 : Value).ownBlock) s_.1 y143) ∧ (Kd.R (Kd.int .i64) 3 w' w.heap.size (fun k_ => some k_ ≠ (s_.1 : Value).ownBlock ∧ some k_ ≠ (.slice Ao13 x3_1.length co13 : Value).ownBlock ∧ some k_ ≠ (.slice Ao14 x4_1.length co14 : Value).ownBlock ∧ some k_ ≠ (u5 : Value).ownBlock) s_.2 y150) ∧ (Kd.R (Kd.int .i64) 3 w' w.heap.size (fun k_ => some k_ ≠ (s_.1 : Value).ownBlock ∧ some k_ ≠ (s_.2 : Value).ownBlock ∧ some k_ ≠ (.slice Ao14 x4_1.length co14 : Value).ownBlock ∧ some k_ ≠ (u5 : Value).ownBlock) (.slice Ao13 x3_1.length co13) x3_1) ∧ (Kd.R (Kd.int .i64) 3 w' w.heap.size (fun k_ => some k_ ≠ (s_.1 : Value).ownBlock ∧ some k_ ≠ (s_.2 : Value).ownBlock ∧ some k_ ≠ (.slice Ao13 x3_1.length co13 : Value).ownBlock ∧ some k_ ≠ (u5 : Value).ownBlock) (.slice Ao14 x4_1.length co14) x4_1) ∧ (Kd.R (Kd.int .i64) 3 w' w.heap.size (fun k_ => some k_ ≠ (s_.1 : Value).ownBlock ∧ some k_ ≠ (s_.2 : Value).ownBlock ∧ some k_ ≠ (.slice Ao13 x3_1.length co13 : Value).ownBlock ∧ some k_ ≠ (.slice Ao14 x4_1.length co14 : Value).ownBlock) u5 x5_1) ∧ (Kd.R Kd.bool 4 w' w.heap.size (fun _ => True) (.slice Ao15 x6_1.length co15) x6_1) ∧ (Below w.heap.size w w')) ?_ ?_
                 rotate_left
                 ·
                  intro hJ7_16
                  refine join_ (σ := Value × Value) 7 WearVictims.q8 (fun s_ => [(32, s_.1), (51, s_.2)]) (fun s_ w' => (w'.cell? (ad142.add ((x7_1).toNat * 3)) = some (.int .u8 ((rd_T35 l0 x7_1).f0)) ∧ w'.cell? ⟨(ad142.add ((x7_1).toNat * 3)).block, (ad142.add ((x7_1).toNat * 3)).off + 1, none⟩ = some (.int .u8 ((rd_T35 l0 x7_1).f1)) ∧ w'.cell? ⟨(ad142.add ((x7_1).toNat * 3)).block, (ad142.add ((x7_1).toNat * 3)).off + 2, none⟩ = some (.int .u8 ((rd_T35 l0 x7_1).f2)) ∧ w'.cell? (ad142.add ((x7_1).toNat * 3)) = some (.int .u8 ((rd_T35 l0 x7_1).f0)) ∧ w'.cell? ⟨(ad142.add ((x7_1).toNat * 3)).block, (ad142.add ((x7_1).toNat * 3)).off + 1, none⟩ = some (.int .u8 ((rd_T35 l0 x7_1).f1)) ∧ w'.cell? ⟨(ad142.add ((x7_1).toNat * 3)).block, (ad142.add ((x7_1).toNat * 3)).off + 2, none⟩ = some (.int .u8 ((rd_T35 l0 x7_1).f2)) ∧ w'.cell? (ad142.add ((x7_1).toNat * 3)) = some (.int .u8 ((rd_T35 l0 x7_1).f0)) ∧ w'.cell? ⟨(ad142.add ((x7_1).toNat * 3)).block, (ad142.add ((x7_1).toNat * 3)).off + 1, none⟩ = some (.int .u8 ((rd_T35 l0 x7_1).f1)) ∧ w'.cell? ⟨(ad142.add ((x7_1).toNat * 3)).block, (ad142.add ((x7_1).toNat * 3)).off + 2, none⟩ = some (.int .u8 ((rd_T35 l0 x7_1).f2))) ∧ (Kd.R (Kd.int .i64) 3 w' w.heap.size (fun k_ => some k_ ≠ (.slice Ao13 x3_1.length co13 : Value).ownBlock ∧ some k_ ≠ (.slice Ao14 x4_1.length co14 : Value).ownBlock ∧ some k_ ≠ (u5 : Value).ownBlock) s_.1 y143) ∧ (Kd.R Kd.bool 4 w' w.heap.size (fun k_ => some k_ ≠ (.slice Ao15 x6_1.length co15 : Value).ownBlock) s_.2 y157) ∧ (Kd.R (Kd.int .i64) 3 w' w.heap.size (fun k_ => some k_ ≠ (s_.1 : Value).ownBlock ∧ some k_ ≠ (.slice Ao14 x4_1.length co14 : Value).ownBlock ∧ some k_ ≠ (u5 : Value).ownBlock) (.slice Ao13 x3_1.length co13) x3_1) ∧ (Kd.R (Kd.int .i64) 3 w' w.heap.size (fun k_ => some k_ ≠ (s_.1 : Value).ownBlock ∧ some k_ ≠ (.slice Ao13 x3_1.length co13 : Value).ownBlock ∧ some k_ ≠ (u5 : Value).ownBlock) (.slice Ao14 x4_1.length co14) x4_1) ∧ (Kd.R (Kd.int .i64) 3 w' w.heap.size (fun k_ => some k_ ≠ (s_.1 : Value).ownBlock ∧ some k_ ≠ (.slice Ao13 x3_1.length co13 : Value).ownBlock ∧ some k_ ≠ (.slice Ao14 x4_1.length co14 : Value).ownBlock) u5 x5_1) ∧ (Kd.R Kd.bool 4 w' w.heap.size (fun k_ => some k_ ≠ (s_.2 : Value).ownBlock) (.slice Ao15 x6_1.length co15) x6_1) ∧ (Below w.heap.size w w')) ?_ ?_
                  rotate_left
                  ·
                   intro hJ7_26
                   refine join_ (σ := Value × Value) 7 WearVictims.q9 (fun s_ => [(41, s_.1), (51, s_.2)]) (fun s_ w' => (w'.cell? (ad142.add ((x7_1).toNat * 3)) = some (.int .u8 ((rd_T35 l0 x7_1).f0)) ∧ w'.cell? ⟨(ad142.add ((x7_1).toNat * 3)).block, (ad142.add ((x7_1).toNat * 3)).off + 1, none⟩ = some (.int .u8 ((rd_T35 l0 x7_1).f1)) ∧ w'.cell? ⟨(ad142.add ((x7_1).toNat * 3)).block, (ad142.add ((x7_1).toNat * 3)).off + 2, none⟩ = some (.int .u8 ((rd_T35 l0 x7_1).f2)) ∧ w'.cell? (ad142.add ((x7_1).toNat * 3)) = some (.int .u8 ((rd_T35 l0 x7_1).f0)) ∧ w'.cell? ⟨(ad142.add ((x7_1).toNat * 3)).block, (ad142.add ((x7_1).toNat * 3)).off + 1, none⟩ = some (.int .u8 ((rd_T35 l0 x7_1).f1)) ∧ w'.cell? ⟨(ad142.add ((x7_1).toNat * 3)).block, (ad142.add ((x7_1).toNat * 3)).off + 2, none⟩ = some (.int .u8 ((rd_T35 l0 x7_1).f2)) ∧ w'.cell? (ad142.add ((x7_1).toNat * 3)) = some (.int .u8 ((rd_T35 l0 x7_1).f0)) ∧ w'.cell? ⟨(ad142.add ((x7_1).toNat * 3)).block, (ad142.add ((x7_1).toNat * 3)).off + 1, none⟩ = some (.int .u8 ((rd_T35 l0 x7_1).f1)) ∧ w'.cell? ⟨(ad142.add ((x7_1).toNat * 3)).block, (ad142.add ((x7_1).toNat * 3)).off + 2, none⟩ = some (.int .u8 ((rd_T35 l0 x7_1).f2))) ∧ (Kd.R (Kd.int .i64) 3 w' w.heap.size (fun k_ => some k_ ≠ (.slice Ao13 x3_1.length co13 : Value).ownBlock ∧ some k_ ≠ (.slice Ao14 x4_1.length co14 : Value).ownBlock ∧ some k_ ≠ (u5 : Value).ownBlock) s_.1 y150) ∧ (Kd.R Kd.bool 4 w' w.heap.size (fun k_ => some k_ ≠ (.slice Ao15 x6_1.length co15 : Value).ownBlock) s_.2 y157) ∧ (Kd.R (Kd.int .i64) 3 w' w.heap.size (fun k_ => some k_ ≠ (s_.1 : Value).ownBlock ∧ some k_ ≠ (.slice Ao14 x4_1.length co14 : Value).ownBlock ∧ some k_ ≠ (u5 : Value).ownBlock) (.slice Ao13 x3_1.length co13) x3_1) ∧ (Kd.R (Kd.int .i64) 3 w' w.heap.size (fun k_ => some k_ ≠ (s_.1 : Value).ownBlock ∧ some k_ ≠ (.slice Ao13 x3_1.length co13 : Value).ownBlock ∧ some k_ ≠ (u5 : Value).ownBlock) (.slice Ao14 x4_1.length co14) x4_1) ∧ (Kd.R (Kd.int .i64) 3 w' w.heap.size (fun k_ => some k_ ≠ (s_.1 : Value).ownBlock ∧ some k_ ≠ (.slice Ao13 x3_1.length co13 : Value).ownBlock ∧ some k_ ≠ (.slice Ao14 x4_1.length co14 : Value).ownBlock) u5 x5_1) ∧ (Kd.R Kd.bool 4 w' w.heap.size (fun k_ => some k_ ≠ (s_.2 : Value).ownBlock) (.slice Ao15 x6_1.length co15) x6_1) ∧ (Below w.heap.size w w')) ?_ ?_
                   rotate_left
                   ·
                    intro hJ16_26
                    refine join_ (σ := Value) 8 WearVictims.q10 (fun s_ => [(32, s_)]) (fun s_ w' => (w'.cell? (ad142.add ((x7_1).toNat * 3)) = some (.int .u8 ((rd_T35 l0 x7_1).f0)) ∧ w'.cell? ⟨(ad142.add ((x7_1).toNat * 3)).block, (ad142.add ((x7_1).toNat * 3)).off + 1, none⟩ = some (.int .u8 ((rd_T35 l0 x7_1).f1)) ∧ w'.cell? ⟨(ad142.add ((x7_1).toNat * 3)).block, (ad142.add ((x7_1).toNat * 3)).off + 2, none⟩ = some (.int .u8 ((rd_T35 l0 x7_1).f2)) ∧ w'.cell? (ad142.add ((x7_1).toNat * 3)) = some (.int .u8 ((rd_T35 l0 x7_1).f0)) ∧ w'.cell? ⟨(ad142.add ((x7_1).toNat * 3)).block, (ad142.add ((x7_1).toNat * 3)).off + 1, none⟩ = some (.int .u8 ((rd_T35 l0 x7_1).f1)) ∧ w'.cell? ⟨(ad142.add ((x7_1).toNat * 3)).block, (ad142.add ((x7_1).toNat * 3)).off + 2, none⟩ = some (.int .u8 ((rd_T35 l0 x7_1).f2)) ∧ w'.cell? (ad142.add ((x7_1).toNat * 3)) = some (.int .u8 ((rd_T35 l0 x7_1).f0)) ∧ w'.cell? ⟨(ad142.add ((x7_1).toNat * 3)).block, (ad142.add ((x7_1).toNat * 3)).off + 1, none⟩ = some (.int .u8 ((rd_T35 l0 x7_1).f1)) ∧ w'.cell? ⟨(ad142.add ((x7_1).toNat * 3)).block, (ad142.add ((x7_1).toNat * 3)).off + 2, none⟩ = some (.int .u8 ((rd_T35 l0 x7_1).f2))) ∧ (Kd.R (Kd.int .i64) 3 w' w.heap.size (fun k_ => some k_ ≠ (.slice Ao13 x3_1.length co13 : Value).ownBlock ∧ some k_ ≠ (.slice Ao14 x4_1.length co14 : Value).ownBlock ∧ some k_ ≠ (u5 : Value).ownBlock) s_ y143) ∧ (Kd.R (Kd.int .i64) 3 w' w.heap.size (fun k_ => some k_ ≠ (s_ : Value).ownBlock ∧ some k_ ≠ (.slice Ao14 x4_1.length co14 : Value).ownBlock ∧ some k_ ≠ (u5 : Value).ownBlock) (.slice Ao13 x3_1.length co13) x3_1) ∧ (Kd.R (Kd.int .i64) 3 w' w.heap.size (fun k_ => some k_ ≠ (s_ : Value).ownBlock ∧ some k_ ≠ (.slice Ao13 x3_1.length co13 : Value).ownBlock ∧ some k_ ≠ (u5 : Value).ownBlock) (.slice Ao14 x4_1.length co14) x4_1) ∧ (Kd.R (Kd.int .i64) 3 w' w.heap.size (fun k_ => some k_ ≠ (s_ : Value).ownBlock ∧ some k_ ≠ (.slice Ao13 x3_1.length co13 : Value).ownBlock ∧ some k_ ≠ (.slice Ao14 x4_1.length co14 : Value).ownBlock) u5 x5_1) ∧ (Kd.R Kd.bool 4 w' w.heap.size (fun _ => True) (.slice Ao15 x6_1.length co15) x6_1) ∧ (Below w.heap.size w w')) ?_ ?_
                    rotate_left
                    ·
                     intro hJ7
                     refine join_ (σ := Value) 8 WearVictims.q11 (fun s_ => [(41, s_)]) (fun s_ w' => (w'.cell? (ad142.add ((x7_1).toNat * 3)) = some (.int .u8 ((rd_T35 l0 x7_1).f0)) ∧ w'.cell? ⟨(ad142.add ((x7_1).toNat * 3)).block, (ad142.add ((x7_1).toNat * 3)).off + 1, none⟩ = some (.int .u8 ((rd_T35 l0 x7_1).f1)) ∧ w'.cell? ⟨(ad142.add ((x7_1).toNat * 3)).block, (ad142.add ((x7_1).toNat * 3)).off + 2, none⟩ = some (.int .u8 ((rd_T35 l0 x7_1).f2)) ∧ w'.cell? (ad142.add ((x7_1).toNat * 3)) = some (.int .u8 ((rd_T35 l0 x7_1).f0)) ∧ w'.cell? ⟨(ad142.add ((x7_1).toNat * 3)).block, (ad142.add ((x7_1).toNat * 3)).off + 1, none⟩ = some (.int .u8 ((rd_T35 l0 x7_1).f1)) ∧ w'.cell? ⟨(ad142.add ((x7_1).toNat * 3)).block, (ad142.add ((x7_1).toNat * 3)).off + 2, none⟩ = some (.int .u8 ((rd_T35 l0 x7_1).f2)) ∧ w'.cell? (ad142.add ((x7_1).toNat * 3)) = some (.int .u8 ((rd_T35 l0 x7_1).f0)) ∧ w'.cell? ⟨(ad142.add ((x7_1).toNat * 3)).block, (ad142.add ((x7_1).toNat * 3)).off + 1, none⟩ = some (.int .u8 ((rd_T35 l0 x7_1).f1)) ∧ w'.cell? ⟨(ad142.add ((x7_1).toNat * 3)).block, (ad142.add ((x7_1).toNat * 3)).off + 2, none⟩ = some (.int .u8 ((rd_T35 l0 x7_1).f2))) ∧ (Kd.R (Kd.int .i64) 3 w' w.heap.size (fun k_ => some k_ ≠ (.slice Ao13 x3_1.length co13 : Value).ownBlock ∧ some k_ ≠ (.slice Ao14 x4_1.length co14 : Value).ownBlock ∧ some k_ ≠ (u5 : Value).ownBlock) s_ y150) ∧ (Kd.R (Kd.int .i64) 3 w' w.heap.size (fun k_ => some k_ ≠ (s_ : Value).ownBlock ∧ some k_ ≠ (.slice Ao14 x4_1.length co14 : Value).ownBlock ∧ some k_ ≠ (u5 : Value).ownBlock) (.slice Ao13 x3_1.length co13) x3_1) ∧ (Kd.R (Kd.int .i64) 3 w' w.heap.size (fun k_ => some k_ ≠ (s_ : Value).ownBlock ∧ some k_ ≠ (.slice Ao13 x3_1.length co13 : Value).ownBlock ∧ some k_ ≠ (u5 : Value).ownBlock) (.slice Ao14 x4_1.length co14) x4_1) ∧ (Kd.R (Kd.int .i64) 3 w' w.heap.size (fun k_ => some k_ ≠ (s_ : Value).ownBlock ∧ some k_ ≠ (.slice Ao13 x3_1.length co13 : Value).ownBlock ∧ some k_ ≠ (.slice Ao14 x4_1.length co14 : Value).ownBlock) u5 x5_1) ∧ (Kd.R Kd.bool 4 w' w.heap.size (fun _ => True) (.slice Ao15 x6_1.length co15) x6_1) ∧ (Below w.heap.size w w')) ?_ ?_
                     rotate_left
                     ·
                      intro hJ16
                      refine join_ (σ := Value) 8 WearVictims.q12 (fun s_ => [(51, s_)]) (fun s_ w' => (w'.cell? (ad142.add ((x7_1).toNat * 3)) = some (.int .u8 ((rd_T35 l0 x7_1).f0)) ∧ w'.cell? ⟨(ad142.add ((x7_1).toNat * 3)).block, (ad142.add ((x7_1).toNat * 3)).off + 1, none⟩ = some (.int .u8 ((rd_T35 l0 x7_1).f1)) ∧ w'.cell? ⟨(ad142.add ((x7_1).toNat * 3)).block, (ad142.add ((x7_1).toNat * 3)).off + 2, none⟩ = some (.int .u8 ((rd_T35 l0 x7_1).f2)) ∧ w'.cell? (ad142.add ((x7_1).toNat * 3)) = some (.int .u8 ((rd_T35 l0 x7_1).f0)) ∧ w'.cell? ⟨(ad142.add ((x7_1).toNat * 3)).block, (ad142.add ((x7_1).toNat * 3)).off + 1, none⟩ = some (.int .u8 ((rd_T35 l0 x7_1).f1)) ∧ w'.cell? ⟨(ad142.add ((x7_1).toNat * 3)).block, (ad142.add ((x7_1).toNat * 3)).off + 2, none⟩ = some (.int .u8 ((rd_T35 l0 x7_1).f2)) ∧ w'.cell? (ad142.add ((x7_1).toNat * 3)) = some (.int .u8 ((rd_T35 l0 x7_1).f0)) ∧ w'.cell? ⟨(ad142.add ((x7_1).toNat * 3)).block, (ad142.add ((x7_1).toNat * 3)).off + 1, none⟩ = some (.int .u8 ((rd_T35 l0 x7_1).f1)) ∧ w'.cell? ⟨(ad142.add ((x7_1).toNat * 3)).block, (ad142.add ((x7_1).toNat * 3)).off + 2, none⟩ = some (.int .u8 ((rd_T35 l0 x7_1).f2))) ∧ (Kd.R Kd.bool 4 w' w.heap.size (fun k_ => some k_ ≠ (.slice Ao15 x6_1.length co15 : Value).ownBlock) s_ y157) ∧ (Kd.R (Kd.int .i64) 3 w' w.heap.size (fun k_ => some k_ ≠ (.slice Ao14 x4_1.length co14 : Value).ownBlock ∧ some k_ ≠ (u5 : Value).ownBlock) (.slice Ao13 x3_1.length co13) x3_1) ∧ (Kd.R (Kd.int .i64) 3 w' w.heap.size (fun k_ => some k_ ≠ (.slice Ao13 x3_1.length co13 : Value).ownBlock ∧ some k_ ≠ (u5 : Value).ownBlock) (.slice Ao14 x4_1.length co14) x4_1) ∧ (Kd.R (Kd.int .i64) 3 w' w.heap.size (fun k_ => some k_ ≠ (.slice Ao13 x3_1.length co13 : Value).ownBlock ∧ some k_ ≠ (.slice Ao14 x4_1.length co14 : Value).ownBlock) u5 x5_1) ∧ (Kd.R Kd.bool 4 w' w.heap.size (fun k_ => some k_ ≠ (s_ : Value).ownBlock) (.slice Ao15 x6_1.length co15) x6_1) ∧ (Below w.heap.size w w')) ?_ ?_
                      rotate_left
                      ·
                       intro hJ26
                       refine three_ (i := 7) (j := 16) (k := 26) (Ni := some 32) (Nj := some 41) (Nk := some 51) WearVictims.q10 WearVictims.q11 WearVictims.q12 rfl rfl rfl rfl rfl rfl (three_of HT_.out (by kernel_rfl)) (by decide) (by decide) (by decide) (fun K hK => ?_) (fun K hK => ?_) (fun K hK => ?_)
                       ·
                        skip
                        refine Kd.R_lit_step (Kd.int .i64) _ 3 ?hg (N := 32) ?hd (xs := ([wrap64 ((rd_T35 l0 x7_1).f0)] : List Int)) (inner := [.int .i64 (wrap64 ((rd_T35 l0 x7_1).f0))]) (ok := fun _ => True) (okp := fun _ => True) ?hr ?hp (fun _ hk => hk) trivial (Below.refl _ _) (Nat.le_refl _) (by simp) ?_; (case hd => rfl); (case hg => rfl); (case hr => first | (go_simp; done) | (go_simp; rfl)); (case hp => exact (Reps.one (show Kd.M (Kd.int .i64) _ _ _ (wrap64 ((rd_T35 l0 x7_1).f0)) [.int .i64 (wrap64 ((rd_T35 l0 x7_1).f0))] from rfl) (Reps.none _ _)))
                        intro v144 w17 ho18 hb hg_ hnew_
                        clear hg_ hnew_
                        (first | rw [← Ny143.out] at ho18 | (simp only [Int.reduceToNat] at ho18; rw [← Ny143.out] at ho18))
                        have n0_ := Aside0.mk (Kd.R_elder' (by (with_reducible repeat (first | apply r1 | apply r2 | apply r3)); exact HO_3.out) (Kd.R_base ho18) hb)
                        have n1_ := Aside0.mk (Kd.R_elder' (by (with_reducible repeat (first | apply r1 | apply r2 | apply r3)); exact HO_4.out) (Kd.R_base ho18) hb)
                        have n2_ := Aside0.mk (Kd.R_elder' (by (with_reducible repeat (first | apply r1 | apply r2 | apply r3)); exact HO_5.out) (Kd.R_base ho18) hb)
                        have n3_ := Aside0.mk (Kd.R_below (by (with_reducible repeat (first | apply r1 | apply r2 | apply r3)); exact HO_6.out) hb)
                        have n4_ := Aside0.mk (Kd.R_lower (Kd.R_new' (Kd.R_new' (Kd.R_new' ho18 (Kd.R_lt (by (with_reducible repeat (first | apply r1 | apply r2 | apply r3)); exact HO_3.out))) (Kd.R_lt (by (with_reducible repeat (first | apply r1 | apply r2 | apply r3)); exact HO_4.out))) (Kd.R_lt (by (with_reducible repeat (first | apply r1 | apply r2 | apply r3)); exact HO_5.out))) (below_size (by repeat (first | (with_reducible first | exact HB.out | apply b1 | apply b2 | apply b3) | exact HB.out))))
                        have n5_ := Aside0.mk (below_step (by repeat (first | (with_reducible first | exact HB.out | apply b1 | apply b2 | apply b3) | exact HB.out)) hb)
                        clear HO_3
                        clear HO_4
                        clear HO_5
                        clear HO_6
                        clear HB
                        have HO_3 := n0_
                        have HO_4 := n1_
                        have HO_5 := n2_
                        have HO_6 := n3_
                        have HO145 := n4_
                        have HB := n5_
                        clear n0_ n1_ n2_ n3_ n4_ n5_
                        clear hb ho18
                        refine hK.out _ _ ⟨(cl_ HB.out hw142_0), (cl_ HB.out hw142_1), (cl_ HB.out hw142_2), (cl_ HB.out hw149_0), (cl_ HB.out hw149_1), (cl_ HB.out hw149_2), (cl_ HB.out hw156_0), (cl_ HB.out hw156_1), (cl_ HB.out hw156_2)⟩ (fun hHeld => ?_)
                        clear hK K
                        refine norm_ (a' := ?_) ?_ ?_
                        rotate_left
                        ·
                         show Act.put _ (some 32) _ = _
                         simp only [Act.put, p1, p2, p3, i64_w, i32_w]
                         rfl
                        exact norm_ (by simp only [putAll, Act.put, p1, p2, p3]; try rfl) (hJ7 (v144) _ ⟨hHeld, (by (with_reducible repeat (first | apply r1 | apply r2 | apply r3)); exact Kd.R_mono HO145.out (fun _ hk => ⟨hk.1.1.2, ⟨hk.1.2, hk.2⟩⟩)), (by (with_reducible repeat (first | apply r1 | apply r2 | apply r3)); exact Kd.R_mono HO_3.out (fun _ hk => ⟨hk.2, ⟨hk.1.1, hk.1.2⟩⟩)), (by (with_reducible repeat (first | apply r1 | apply r2 | apply r3)); exact Kd.R_mono HO_4.out (fun _ hk => ⟨hk.2, ⟨hk.1.1, hk.1.2⟩⟩)), (by (with_reducible repeat (first | apply r1 | apply r2 | apply r3)); exact Kd.R_mono HO_5.out (fun _ hk => ⟨hk.2, ⟨hk.1.1, hk.1.2⟩⟩)), (by (with_reducible repeat (first | apply r1 | apply r2 | apply r3)); exact HO_6.out), (by repeat (first | (with_reducible first | exact HB.out | apply b1 | apply b2 | apply b3) | exact HB.out))⟩)
                       ·
                        skip
                        refine Kd.R_lit_step (Kd.int .i64) _ 3 ?hg (N := 41) ?hd (xs := ([wrap64 ((rd_T35 l0 x7_1).f1)] : List Int)) (inner := [.int .i64 (wrap64 ((rd_T35 l0 x7_1).f1))]) (ok := fun _ => True) (okp := fun _ => True) ?hr ?hp (fun _ hk => hk) trivial (Below.refl _ _) (Nat.le_refl _) (by simp) ?_; (case hd => rfl); (case hg => rfl); (case hr => first | (go_simp; done) | (go_simp; rfl)); (case hp => exact (Reps.one (show Kd.M (Kd.int .i64) _ _ _ (wrap64 ((rd_T35 l0 x7_1).f1)) [.int .i64 (wrap64 ((rd_T35 l0 x7_1).f1))] from rfl) (Reps.none _ _)))
                        intro v151 w17 ho18 hb hg_ hnew_
                        clear hg_ hnew_
                        (first | rw [← Ny150.out] at ho18 | (simp only [Int.reduceToNat] at ho18; rw [← Ny150.out] at ho18))
                        have n0_ := Aside0.mk (Kd.R_elder' (by (with_reducible repeat (first | apply r1 | apply r2 | apply r3)); exact HO_3.out) (Kd.R_base ho18) hb)
                        have n1_ := Aside0.mk (Kd.R_elder' (by (with_reducible repeat (first | apply r1 | apply r2 | apply r3)); exact HO_4.out) (Kd.R_base ho18) hb)
                        have n2_ := Aside0.mk (Kd.R_elder' (by (with_reducible repeat (first | apply r1 | apply r2 | apply r3)); exact HO_5.out) (Kd.R_base ho18) hb)
                        have n3_ := Aside0.mk (Kd.R_below (by (with_reducible repeat (first | apply r1 | apply r2 | apply r3)); exact HO_6.out) hb)
                        have n4_ := Aside0.mk (Kd.R_lower (Kd.R_new' (Kd.R_new' (Kd.R_new' ho18 (Kd.R_lt (by (with_reducible repeat (first | apply r1 | apply r2 | apply r3)); exact HO_3.out))) (Kd.R_lt (by (with_reducible repeat (first | apply r1 | apply r2 | apply r3)); exact HO_4.out))) (Kd.R_lt (by (with_reducible repeat (first | apply r1 | apply r2 | apply r3)); exact HO_5.out))) (below_size (by repeat (first | (with_reducible first | exact HB.out | apply b1 | apply b2 | apply b3) | exact HB.out))))
                        have n5_ := Aside0.mk (below_step (by repeat (first | (with_reducible first | exact HB.out | apply b1 | apply b2 | apply b3) | exact HB.out)) hb)
                        clear HO_3
                        clear HO_4
                        clear HO_5
                        clear HO_6
                        clear HB
                        have HO_3 := n0_
                        have HO_4 := n1_
                        have HO_5 := n2_
                        have HO_6 := n3_
                        have HO152 := n4_
                        have HB := n5_
                        clear n0_ n1_ n2_ n3_ n4_ n5_
                        clear hb ho18
                        refine hK.out _ _ ⟨(cl_ HB.out hw142_0), (cl_ HB.out hw142_1), (cl_ HB.out hw142_2), (cl_ HB.out hw149_0), (cl_ HB.out hw149_1), (cl_ HB.out hw149_2), (cl_ HB.out hw156_0), (cl_ HB.out hw156_1), (cl_ HB.out hw156_2)⟩ (fun hHeld => ?_)
                        clear hK K
                        refine norm_ (a' := ?_) ?_ ?_
                        rotate_left
                        ·
                         show Act.put _ (some 41) _ = _
                         simp only [Act.put, p1, p2, p3, i64_w, i32_w]
                         rfl
                        exact norm_ (by simp only [putAll, Act.put, p1, p2, p3]; try rfl) (hJ16 (v151) _ ⟨hHeld, (by (with_reducible repeat (first | apply r1 | apply r2 | apply r3)); exact Kd.R_mono HO152.out (fun _ hk => ⟨hk.1.1.2, ⟨hk.1.2, hk.2⟩⟩)), (by (with_reducible repeat (first | apply r1 | apply r2 | apply r3)); exact Kd.R_mono HO_3.out (fun _ hk => ⟨hk.2, ⟨hk.1.1, hk.1.2⟩⟩)), (by (with_reducible repeat (first | apply r1 | apply r2 | apply r3)); exact Kd.R_mono HO_4.out (fun _ hk => ⟨hk.2, ⟨hk.1.1, hk.1.2⟩⟩)), (by (with_reducible repeat (first | apply r1 | apply r2 | apply r3)); exact Kd.R_mono HO_5.out (fun _ hk => ⟨hk.2, ⟨hk.1.1, hk.1.2⟩⟩)), (by (with_reducible repeat (first | apply r1 | apply r2 | apply r3)); exact HO_6.out), (by repeat (first | (with_reducible first | exact HB.out | apply b1 | apply b2 | apply b3) | exact HB.out))⟩)
                       ·
                        skip
                        refine Kd.R_lit_step Kd.bool _ 4 ?hg (N := 51) ?hd (xs := ([((Go.bits .and .u8 ((rd_T35 l0 x7_1).f2) 1) == 1)] : List Bool)) (inner := [.bool ((Go.bits .and .u8 ((rd_T35 l0 x7_1).f2) 1) == 1)]) (ok := fun _ => True) (okp := fun _ => True) ?hr ?hp (fun _ hk => hk) trivial (Below.refl _ _) (Nat.le_refl _) (by simp) ?_; (case hd => rfl); (case hg => rfl); (case hr => first | (go_simp; done) | (go_simp; rfl)); (case hp => exact (Reps.one (show Kd.M Kd.bool _ _ _ ((Go.bits .and .u8 ((rd_T35 l0 x7_1).f2) 1) == 1) [.bool ((Go.bits .and .u8 ((rd_T35 l0 x7_1).f2) 1) == 1)] from rfl) (Reps.none _ _)))
                        intro v158 w17 ho18 hb hg_ hnew_
                        clear hg_ hnew_
                        (first | rw [← Ny157.out] at ho18 | (simp only [Int.reduceToNat] at ho18; rw [← Ny157.out] at ho18))
                        have n0_ := Aside0.mk (Kd.R_below (by (with_reducible repeat (first | apply r1 | apply r2 | apply r3)); exact HO_3.out) hb)
                        have n1_ := Aside0.mk (Kd.R_below (by (with_reducible repeat (first | apply r1 | apply r2 | apply r3)); exact HO_4.out) hb)
                        have n2_ := Aside0.mk (Kd.R_below (by (with_reducible repeat (first | apply r1 | apply r2 | apply r3)); exact HO_5.out) hb)
                        have n3_ := Aside0.mk (Kd.R_elder' (by (with_reducible repeat (first | apply r1 | apply r2 | apply r3)); exact HO_6.out) (Kd.R_base ho18) hb)
                        have n4_ := Aside0.mk (Kd.R_lower (Kd.R_new' ho18 (Kd.R_lt (by (with_reducible repeat (first | apply r1 | apply r2 | apply r3)); exact HO_6.out))) (below_size (by repeat (first | (with_reducible first | exact HB.out | apply b1 | apply b2 | apply b3) | exact HB.out))))
                        have n5_ := Aside0.mk (below_step (by repeat (first | (with_reducible first | exact HB.out | apply b1 | apply b2 | apply b3) | exact HB.out)) hb)
                        clear HO_3
                        clear HO_4
                        clear HO_5
                        clear HO_6
                        clear HB
                        have HO_3 := n0_
                        have HO_4 := n1_
                        have HO_5 := n2_
                        have HO_6 := n3_
                        have HO159 := n4_
                        have HB := n5_
                        clear n0_ n1_ n2_ n3_ n4_ n5_
                        clear hb ho18
                        refine hK.out _ _ ⟨(cl_ HB.out hw142_0), (cl_ HB.out hw142_1), (cl_ HB.out hw142_2), (cl_ HB.out hw149_0), (cl_ HB.out hw149_1), (cl_ HB.out hw149_2), (cl_ HB.out hw156_0), (cl_ HB.out hw156_1), (cl_ HB.out hw156_2)⟩ (fun hHeld => ?_)
                        clear hK K
                        refine norm_ (a' := ?_) ?_ ?_
                        rotate_left
                        ·
                         show Act.put _ (some 51) _ = _
                         simp only [Act.put, p1, p2, p3, i64_w, i32_w]
                         rfl
                        exact norm_ (by simp only [putAll, Act.put, p1, p2, p3]; try rfl) (hJ26 (v158) _ ⟨hHeld, (by (with_reducible repeat (first | apply r1 | apply r2 | apply r3)); exact Kd.R_mono HO159.out (fun _ hk => hk.2)), (by (with_reducible repeat (first | apply r1 | apply r2 | apply r3)); exact HO_3.out), (by (with_reducible repeat (first | apply r1 | apply r2 | apply r3)); exact HO_4.out), (by (with_reducible repeat (first | apply r1 | apply r2 | apply r3)); exact HO_5.out), (by (with_reducible repeat (first | apply r1 | apply r2 | apply r3)); exact Kd.R_mono HO_6.out (fun _ hk => hk.2)), (by repeat (first | (with_reducible first | exact HB.out | apply b1 | apply b2 | apply b3) | exact HB.out))⟩)
                      ·
                       skip
                       rintro v158 w19 ⟨hS_, h0_, h1_, h2_, h3_, h4_, h5_⟩
                       have n0_ : Aside0 (Kd.R Kd.bool 4 w19 w.heap.size (fun k_ => some k_ ≠ (.slice Ao15 x6_1.length co15 : Value).ownBlock) v158 y157) := ⟨h0_⟩
                       have n1_ : Aside0 (Kd.R (Kd.int .i64) 3 w19 w.heap.size (fun k_ => some k_ ≠ (.slice Ao14 x4_1.length co14 : Value).ownBlock ∧ some k_ ≠ (u5 : Value).ownBlock) (.slice Ao13 x3_1.length co13) x3_1) := ⟨h1_⟩
                       have n2_ : Aside0 (Kd.R (Kd.int .i64) 3 w19 w.heap.size (fun k_ => some k_ ≠ (.slice Ao13 x3_1.length co13 : Value).ownBlock ∧ some k_ ≠ (u5 : Value).ownBlock) (.slice Ao14 x4_1.length co14) x4_1) := ⟨h2_⟩
                       have n3_ : Aside0 (Kd.R (Kd.int .i64) 3 w19 w.heap.size (fun k_ => some k_ ≠ (.slice Ao13 x3_1.length co13 : Value).ownBlock ∧ some k_ ≠ (.slice Ao14 x4_1.length co14 : Value).ownBlock) u5 x5_1) := ⟨h3_⟩
                       have n4_ : Aside0 (Kd.R Kd.bool 4 w19 w.heap.size (fun k_ => some k_ ≠ (v158 : Value).ownBlock) (.slice Ao15 x6_1.length co15) x6_1) := ⟨h4_⟩
                       have n5_ : Aside0 (Below w.heap.size w w19) := ⟨h5_⟩
                       clear HO_3
                       clear HO_4
                       clear HO_5
                       clear HO_6
                       clear HB
                       clear h0_ h1_ h2_ h3_ h4_ h5_
                       have HO159 := n0_
                       have HO_3 := n1_
                       have HO_4 := n2_
                       have HO_5 := n3_
                       have HO_6 := n4_
                       have HB := n5_
                       clear n0_ n1_ n2_ n3_ n4_ n5_
                       have hHeld : w19.cell? (ad142.add ((x7_1).toNat * 3)) = some (.int .u8 ((rd_T35 l0 x7_1).f0)) ∧ w19.cell? ⟨(ad142.add ((x7_1).toNat * 3)).block, (ad142.add ((x7_1).toNat * 3)).off + 1, none⟩ = some (.int .u8 ((rd_T35 l0 x7_1).f1)) ∧ w19.cell? ⟨(ad142.add ((x7_1).toNat * 3)).block, (ad142.add ((x7_1).toNat * 3)).off + 2, none⟩ = some (.int .u8 ((rd_T35 l0 x7_1).f2)) ∧ w19.cell? (ad142.add ((x7_1).toNat * 3)) = some (.int .u8 ((rd_T35 l0 x7_1).f0)) ∧ w19.cell? ⟨(ad142.add ((x7_1).toNat * 3)).block, (ad142.add ((x7_1).toNat * 3)).off + 1, none⟩ = some (.int .u8 ((rd_T35 l0 x7_1).f1)) ∧ w19.cell? ⟨(ad142.add ((x7_1).toNat * 3)).block, (ad142.add ((x7_1).toNat * 3)).off + 2, none⟩ = some (.int .u8 ((rd_T35 l0 x7_1).f2)) ∧ w19.cell? (ad142.add ((x7_1).toNat * 3)) = some (.int .u8 ((rd_T35 l0 x7_1).f0)) ∧ w19.cell? ⟨(ad142.add ((x7_1).toNat * 3)).block, (ad142.add ((x7_1).toNat * 3)).off + 1, none⟩ = some (.int .u8 ((rd_T35 l0 x7_1).f1)) ∧ w19.cell? ⟨(ad142.add ((x7_1).toNat * 3)).block, (ad142.add ((x7_1).toNat * 3)).off + 2, none⟩ = some (.int .u8 ((rd_T35 l0 x7_1).f2)) := hS_
                       refine norm_ (a' := ?_) ?_ ?_
                       rotate_left
                       ·
                        simp only [putAll, Act.put, p1, p2, p3]
                        rfl
                       refine two_ (i := 7) (j := 16) (Ni := some 32) (Nj := some 41) WearVictims.q8 WearVictims.q9 rfl rfl rfl rfl (two_of HT_.out (by kernel_rfl)) (by decide) (by decide) (fun K hK => ?_) (fun K hK => ?_)
                       ·
                        skip
                        refine Kd.R_lit_step (Kd.int .i64) _ 3 ?hg (N := 32) ?hd (xs := ([wrap64 ((rd_T35 l0 x7_1).f0)] : List Int)) (inner := [.int .i64 (wrap64 ((rd_T35 l0 x7_1).f0))]) (ok := fun _ => True) (okp := fun _ => True) ?hr ?hp (fun _ hk => hk) trivial (Below.refl _ _) (Nat.le_refl _) (by simp) ?_; (case hd => rfl); (case hg => rfl); (case hr => first | (go_simp; done) | (go_simp; rfl)); (case hp => exact (Reps.one (show Kd.M (Kd.int .i64) _ _ _ (wrap64 ((rd_T35 l0 x7_1).f0)) [.int .i64 (wrap64 ((rd_T35 l0 x7_1).f0))] from rfl) (Reps.none _ _)))
                        intro v144 w20 ho21 hb hg_ hnew_
                        clear hg_ hnew_
                        (first | rw [← Ny143.out] at ho21 | (simp only [Int.reduceToNat] at ho21; rw [← Ny143.out] at ho21))
                        have n0_ := Aside0.mk (Kd.R_elder' (by (with_reducible repeat (first | apply r1 | apply r2 | apply r3)); exact HO_3.out) (Kd.R_base ho21) hb)
                        have n1_ := Aside0.mk (Kd.R_elder' (by (with_reducible repeat (first | apply r1 | apply r2 | apply r3)); exact HO_4.out) (Kd.R_base ho21) hb)
                        have n2_ := Aside0.mk (Kd.R_elder' (by (with_reducible repeat (first | apply r1 | apply r2 | apply r3)); exact HO_5.out) (Kd.R_base ho21) hb)
                        have n3_ := Aside0.mk (Kd.R_below (by (with_reducible repeat (first | apply r1 | apply r2 | apply r3)); exact HO_6.out) hb)
                        have n4_ := Aside0.mk (Kd.R_below (by (with_reducible repeat (first | apply r1 | apply r2 | apply r3)); exact HO159.out) hb)
                        have n5_ := Aside0.mk (Kd.R_lower (Kd.R_new' (Kd.R_new' (Kd.R_new' ho21 (Kd.R_lt (by (with_reducible repeat (first | apply r1 | apply r2 | apply r3)); exact HO_3.out))) (Kd.R_lt (by (with_reducible repeat (first | apply r1 | apply r2 | apply r3)); exact HO_4.out))) (Kd.R_lt (by (with_reducible repeat (first | apply r1 | apply r2 | apply r3)); exact HO_5.out))) (below_size (by repeat (first | (with_reducible first | exact HB.out | apply b1 | apply b2 | apply b3) | exact HB.out))))
                        have n6_ := Aside0.mk (below_step (by repeat (first | (with_reducible first | exact HB.out | apply b1 | apply b2 | apply b3) | exact HB.out)) hb)
                        clear HO_3
                        clear HO_4
                        clear HO_5
                        clear HO_6
                        clear HO159
                        clear HB
                        have HO_3 := n0_
                        have HO_4 := n1_
                        have HO_5 := n2_
                        have HO_6 := n3_
                        have HO159 := n4_
                        have HO145 := n5_
                        have HB := n6_
                        clear n0_ n1_ n2_ n3_ n4_ n5_ n6_
                        clear hb ho21
                        refine hK.out _ _ ⟨(cl_ HB.out hw142_0), (cl_ HB.out hw142_1), (cl_ HB.out hw142_2), (cl_ HB.out hw149_0), (cl_ HB.out hw149_1), (cl_ HB.out hw149_2), (cl_ HB.out hw156_0), (cl_ HB.out hw156_1), (cl_ HB.out hw156_2)⟩ (fun hHeld => ?_)
                        clear hK K
                        refine norm_ (a' := ?_) ?_ ?_
                        rotate_left
                        ·
                         show Act.put _ (some 32) _ = _
                         simp only [Act.put, p1, p2, p3, i64_w, i32_w]
                         rfl
                        exact norm_ (by simp only [putAll, Act.put, p1, p2, p3]; try rfl) (hJ7_26 (v144, v158) _ ⟨hHeld, (by (with_reducible repeat (first | apply r1 | apply r2 | apply r3)); exact Kd.R_mono HO145.out (fun _ hk => ⟨hk.1.1.2, ⟨hk.1.2, hk.2⟩⟩)), (by (with_reducible repeat (first | apply r1 | apply r2 | apply r3)); exact HO159.out), (by (with_reducible repeat (first | apply r1 | apply r2 | apply r3)); exact Kd.R_mono HO_3.out (fun _ hk => ⟨hk.2, ⟨hk.1.1, hk.1.2⟩⟩)), (by (with_reducible repeat (first | apply r1 | apply r2 | apply r3)); exact Kd.R_mono HO_4.out (fun _ hk => ⟨hk.2, ⟨hk.1.1, hk.1.2⟩⟩)), (by (with_reducible repeat (first | apply r1 | apply r2 | apply r3)); exact Kd.R_mono HO_5.out (fun _ hk => ⟨hk.2, ⟨hk.1.1, hk.1.2⟩⟩)), (by (with_reducible repeat (first | apply r1 | apply r2 | apply r3)); exact HO_6.out), (by repeat (first | (with_reducible first | exact HB.out | apply b1 | apply b2 | apply b3) | exact HB.out))⟩)
                       ·
                        skip
                        refine Kd.R_lit_step (Kd.int .i64) _ 3 ?hg (N := 41) ?hd (xs := ([wrap64 ((rd_T35 l0 x7_1).f1)] : List Int)) (inner := [.int .i64 (wrap64 ((rd_T35 l0 x7_1).f1))]) (ok := fun _ => True) (okp := fun _ => True) ?hr ?hp (fun _ hk => hk) trivial (Below.refl _ _) (Nat.le_refl _) (by simp) ?_; (case hd => rfl); (case hg => rfl); (case hr => first | (go_simp; done) | (go_simp; rfl)); (case hp => exact (Reps.one (show Kd.M (Kd.int .i64) _ _ _ (wrap64 ((rd_T35 l0 x7_1).f1)) [.int .i64 (wrap64 ((rd_T35 l0 x7_1).f1))] from rfl) (Reps.none _ _)))
                        intro v151 w20 ho21 hb hg_ hnew_
                        clear hg_ hnew_
                        (first | rw [← Ny150.out] at ho21 | (simp only [Int.reduceToNat] at ho21; rw [← Ny150.out] at ho21))
                        have n0_ := Aside0.mk (Kd.R_elder' (by (with_reducible repeat (first | apply r1 | apply r2 | apply r3)); exact HO_3.out) (Kd.R_base ho21) hb)
                        have n1_ := Aside0.mk (Kd.R_elder' (by (with_reducible repeat (first | apply r1 | apply r2 | apply r3)); exact HO_4.out) (Kd.R_base ho21) hb)
                        have n2_ := Aside0.mk (Kd.R_elder' (by (with_reducible repeat (first | apply r1 | apply r2 | apply r3)); exact HO_5.out) (Kd.R_base ho21) hb)
                        have n3_ := Aside0.mk (Kd.R_below (by (with_reducible repeat (first | apply r1 | apply r2 | apply r3)); exact HO_6.out) hb)
                        have n4_ := Aside0.mk (Kd.R_below (by (with_reducible repeat (first | apply r1 | apply r2 | apply r3)); exact HO159.out) hb)
                        have n5_ := Aside0.mk (Kd.R_lower (Kd.R_new' (Kd.R_new' (Kd.R_new' ho21 (Kd.R_lt (by (with_reducible repeat (first | apply r1 | apply r2 | apply r3)); exact HO_3.out))) (Kd.R_lt (by (with_reducible repeat (first | apply r1 | apply r2 | apply r3)); exact HO_4.out))) (Kd.R_lt (by (with_reducible repeat (first | apply r1 | apply r2 | apply r3)); exact HO_5.out))) (below_size (by repeat (first | (with_reducible first | exact HB.out | apply b1 | apply b2 | apply b3) | exact HB.out))))
                        have n6_ := Aside0.mk (below_step (by repeat (first | (with_reducible first | exact HB.out | apply b1 | apply b2 | apply b3) | exact HB.out)) hb)
                        clear HO_3
                        clear HO_4
                        clear HO_5
                        clear HO_6
                        clear HO159
                        clear HB
                        have HO_3 := n0_
                        have HO_4 := n1_
                        have HO_5 := n2_
                        have HO_6 := n3_
                        have HO159 := n4_
                        have HO152 := n5_
                        have HB := n6_
                        clear n0_ n1_ n2_ n3_ n4_ n5_ n6_
                        clear hb ho21
                        refine hK.out _ _ ⟨(cl_ HB.out hw142_0), (cl_ HB.out hw142_1), (cl_ HB.out hw142_2), (cl_ HB.out hw149_0), (cl_ HB.out hw149_1), (cl_ HB.out hw149_2), (cl_ HB.out hw156_0), (cl_ HB.out hw156_1), (cl_ HB.out hw156_2)⟩ (fun hHeld => ?_)
                        clear hK K
                        refine norm_ (a' := ?_) ?_ ?_
                        rotate_left
                        ·
                         show Act.put _ (some 41) _ = _
                         simp only [Act.put, p1, p2, p3, i64_w, i32_w]
                         rfl
                        exact norm_ (by simp only [putAll, Act.put, p1, p2, p3]; try rfl) (hJ16_26 (v151, v158) _ ⟨hHeld, (by (with_reducible repeat (first | apply r1 | apply r2 | apply r3)); exact Kd.R_mono HO152.out (fun _ hk => ⟨hk.1.1.2, ⟨hk.1.2, hk.2⟩⟩)), (by (with_reducible repeat (first | apply r1 | apply r2 | apply r3)); exact HO159.out), (by (with_reducible repeat (first | apply r1 | apply r2 | apply r3)); exact Kd.R_mono HO_3.out (fun _ hk => ⟨hk.2, ⟨hk.1.1, hk.1.2⟩⟩)), (by (with_reducible repeat (first | apply r1 | apply r2 | apply r3)); exact Kd.R_mono HO_4.out (fun _ hk => ⟨hk.2, ⟨hk.1.1, hk.1.2⟩⟩)), (by (with_reducible repeat (first | apply r1 | apply r2 | apply r3)); exact Kd.R_mono HO_5.out (fun _ hk => ⟨hk.2, ⟨hk.1.1, hk.1.2⟩⟩)), (by (with_reducible repeat (first | apply r1 | apply r2 | apply r3)); exact HO_6.out), (by repeat (first | (with_reducible first | exact HB.out | apply b1 | apply b2 | apply b3) | exact HB.out))⟩)
                     ·
                      skip
                      rintro v151 w19 ⟨hS_, h0_, h1_, h2_, h3_, h4_, h5_⟩
                      have n0_ : Aside0 (Kd.R (Kd.int .i64) 3 w19 w.heap.size (fun k_ => some k_ ≠ (.slice Ao13 x3_1.length co13 : Value).ownBlock ∧ some k_ ≠ (.slice Ao14 x4_1.length co14 : Value).ownBlock ∧ some k_ ≠ (u5 : Value).ownBlock) v151 y150) := ⟨h0_⟩
                      have n1_ : Aside0 (Kd.R (Kd.int .i64) 3 w19 w.heap.size (fun k_ => some k_ ≠ (v151 : Value).ownBlock ∧ some k_ ≠ (.slice Ao14 x4_1.length co14 : Value).ownBlock ∧ some k_ ≠ (u5 : Value).ownBlock) (.slice Ao13 x3_1.length co13) x3_1) := ⟨h1_⟩
                      have n2_ : Aside0 (Kd.R (Kd.int .i64) 3 w19 w.heap.size (fun k_ => some k_ ≠ (v151 : Value).ownBlock ∧ some k_ ≠ (.slice Ao13 x3_1.length co13 : Value).ownBlock ∧ some k_ ≠ (u5 : Value).ownBlock) (.slice Ao14 x4_1.length co14) x4_1) := ⟨h2_⟩
                      have n3_ : Aside0 (Kd.R (Kd.int .i64) 3 w19 w.heap.size (fun k_ => some k_ ≠ (v151 : Value).ownBlock ∧ some k_ ≠ (.slice Ao13 x3_1.length co13 : Value).ownBlock ∧ some k_ ≠ (.slice Ao14 x4_1.length co14 : Value).ownBlock) u5 x5_1) := ⟨h3_⟩
                      have n4_ : Aside0 (Kd.R Kd.bool 4 w19 w.heap.size (fun _ => True) (.slice Ao15 x6_1.length co15) x6_1) := ⟨h4_⟩
                      have n5_ : Aside0 (Below w.heap.size w w19) := ⟨h5_⟩
                      clear HO_3
                      clear HO_4
                      clear HO_5
                      clear HO_6
                      clear HB
                      clear h0_ h1_ h2_ h3_ h4_ h5_
                      have HO152 := n0_
                      have HO_3 := n1_
                      have HO_4 := n2_
                      have HO_5 := n3_
                      have HO_6 := n4_
                      have HB := n5_
                      clear n0_ n1_ n2_ n3_ n4_ n5_
                      have hHeld : w19.cell? (ad142.add ((x7_1).toNat * 3)) = some (.int .u8 ((rd_T35 l0 x7_1).f0)) ∧ w19.cell? ⟨(ad142.add ((x7_1).toNat * 3)).block, (ad142.add ((x7_1).toNat * 3)).off + 1, none⟩ = some (.int .u8 ((rd_T35 l0 x7_1).f1)) ∧ w19.cell? ⟨(ad142.add ((x7_1).toNat * 3)).block, (ad142.add ((x7_1).toNat * 3)).off + 2, none⟩ = some (.int .u8 ((rd_T35 l0 x7_1).f2)) ∧ w19.cell? (ad142.add ((x7_1).toNat * 3)) = some (.int .u8 ((rd_T35 l0 x7_1).f0)) ∧ w19.cell? ⟨(ad142.add ((x7_1).toNat * 3)).block, (ad142.add ((x7_1).toNat * 3)).off + 1, none⟩ = some (.int .u8 ((rd_T35 l0 x7_1).f1)) ∧ w19.cell? ⟨(ad142.add ((x7_1).toNat * 3)).block, (ad142.add ((x7_1).toNat * 3)).off + 2, none⟩ = some (.int .u8 ((rd_T35 l0 x7_1).f2)) ∧ w19.cell? (ad142.add ((x7_1).toNat * 3)) = some (.int .u8 ((rd_T35 l0 x7_1).f0)) ∧ w19.cell? ⟨(ad142.add ((x7_1).toNat * 3)).block, (ad142.add ((x7_1).toNat * 3)).off + 1, none⟩ = some (.int .u8 ((rd_T35 l0 x7_1).f1)) ∧ w19.cell? ⟨(ad142.add ((x7_1).toNat * 3)).block, (ad142.add ((x7_1).toNat * 3)).off + 2, none⟩ = some (.int .u8 ((rd_T35 l0 x7_1).f2)) := hS_
                      refine norm_ (a' := ?_) ?_ ?_
                      rotate_left
                      ·
                       simp only [putAll, Act.put, p1, p2, p3]
                       rfl
                      refine two_ (i := 7) (j := 26) (Ni := some 32) (Nj := some 51) WearVictims.q7 WearVictims.q9 rfl rfl rfl rfl (two_of HT_.out (by kernel_rfl)) (by decide) (by decide) (fun K hK => ?_) (fun K hK => ?_)
                      ·
                       skip
                       refine Kd.R_lit_step (Kd.int .i64) _ 3 ?hg (N := 32) ?hd (xs := ([wrap64 ((rd_T35 l0 x7_1).f0)] : List Int)) (inner := [.int .i64 (wrap64 ((rd_T35 l0 x7_1).f0))]) (ok := fun _ => True) (okp := fun _ => True) ?hr ?hp (fun _ hk => hk) trivial (Below.refl _ _) (Nat.le_refl _) (by simp) ?_; (case hd => rfl); (case hg => rfl); (case hr => first | (go_simp; done) | (go_simp; rfl)); (case hp => exact (Reps.one (show Kd.M (Kd.int .i64) _ _ _ (wrap64 ((rd_T35 l0 x7_1).f0)) [.int .i64 (wrap64 ((rd_T35 l0 x7_1).f0))] from rfl) (Reps.none _ _)))
                       intro v144 w20 ho21 hb hg_ hnew_
                       clear hg_ hnew_
                       (first | rw [← Ny143.out] at ho21 | (simp only [Int.reduceToNat] at ho21; rw [← Ny143.out] at ho21))
                       have n0_ := Aside0.mk (Kd.R_elder' (by (with_reducible repeat (first | apply r1 | apply r2 | apply r3)); exact HO_3.out) (Kd.R_base ho21) hb)
                       have n1_ := Aside0.mk (Kd.R_elder' (by (with_reducible repeat (first | apply r1 | apply r2 | apply r3)); exact HO_4.out) (Kd.R_base ho21) hb)
                       have n2_ := Aside0.mk (Kd.R_elder' (by (with_reducible repeat (first | apply r1 | apply r2 | apply r3)); exact HO_5.out) (Kd.R_base ho21) hb)
                       have n3_ := Aside0.mk (Kd.R_below (by (with_reducible repeat (first | apply r1 | apply r2 | apply r3)); exact HO_6.out) hb)
                       have n4_ := Aside0.mk (Kd.R_elder' (by (with_reducible repeat (first | apply r1 | apply r2 | apply r3)); exact HO152.out) (Kd.R_base ho21) hb)
                       have n5_ := Aside0.mk (Kd.R_lower (Kd.R_new' (Kd.R_new' (Kd.R_new' (Kd.R_new' ho21 (Kd.R_lt (by (with_reducible repeat (first | apply r1 | apply r2 | apply r3)); exact HO_3.out))) (Kd.R_lt (by (with_reducible repeat (first | apply r1 | apply r2 | apply r3)); exact HO_4.out))) (Kd.R_lt (by (with_reducible repeat (first | apply r1 | apply r2 | apply r3)); exact HO_5.out))) (Kd.R_lt (by (with_reducible repeat (first | apply r1 | apply r2 | apply r3)); exact HO152.out))) (below_size (by repeat (first | (with_reducible first | exact HB.out | apply b1 | apply b2 | apply b3) | exact HB.out))))
                       have n6_ := Aside0.mk (below_step (by repeat (first | (with_reducible first | exact HB.out | apply b1 | apply b2 | apply b3) | exact HB.out)) hb)
                       clear HO_3
                       clear HO_4
                       clear HO_5
                       clear HO_6
                       clear HO152
                       clear HB
                       have HO_3 := n0_
                       have HO_4 := n1_
                       have HO_5 := n2_
                       have HO_6 := n3_
                       have HO152 := n4_
                       have HO145 := n5_
                       have HB := n6_
                       clear n0_ n1_ n2_ n3_ n4_ n5_ n6_
                       clear hb ho21
                       refine hK.out _ _ ⟨(cl_ HB.out hw142_0), (cl_ HB.out hw142_1), (cl_ HB.out hw142_2), (cl_ HB.out hw149_0), (cl_ HB.out hw149_1), (cl_ HB.out hw149_2), (cl_ HB.out hw156_0), (cl_ HB.out hw156_1), (cl_ HB.out hw156_2)⟩ (fun hHeld => ?_)
                       clear hK K
                       refine norm_ (a' := ?_) ?_ ?_
                       rotate_left
                       ·
                        show Act.put _ (some 32) _ = _
                        simp only [Act.put, p1, p2, p3, i64_w, i32_w]
                        rfl
                       exact norm_ (by simp only [putAll, Act.put, p1, p2, p3]; try rfl) (hJ7_16 (v144, v151) _ ⟨hHeld, (by (with_reducible repeat (first | apply r1 | apply r2 | apply r3)); exact Kd.R_mono HO145.out (fun _ hk => ⟨hk.2, ⟨hk.1.1.1.2, ⟨hk.1.1.2, hk.1.2⟩⟩⟩)), (by (with_reducible repeat (first | apply r1 | apply r2 | apply r3)); exact Kd.R_mono HO152.out (fun _ hk => ⟨hk.2, ⟨hk.1.1, ⟨hk.1.2.1, hk.1.2.2⟩⟩⟩)), (by (with_reducible repeat (first | apply r1 | apply r2 | apply r3)); exact Kd.R_mono HO_3.out (fun _ hk => ⟨hk.2, ⟨hk.1.1, ⟨hk.1.2.1, hk.1.2.2⟩⟩⟩)), (by (with_reducible repeat (first | apply r1 | apply r2 | apply r3)); exact Kd.R_mono HO_4.out (fun _ hk => ⟨hk.2, ⟨hk.1.1, ⟨hk.1.2.1, hk.1.2.2⟩⟩⟩)), (by (with_reducible repeat (first | apply r1 | apply r2 | apply r3)); exact Kd.R_mono HO_5.out (fun _ hk => ⟨hk.2, ⟨hk.1.1, ⟨hk.1.2.1, hk.1.2.2⟩⟩⟩)), (by (with_reducible repeat (first | apply r1 | apply r2 | apply r3)); exact HO_6.out), (by repeat (first | (with_reducible first | exact HB.out | apply b1 | apply b2 | apply b3) | exact HB.out))⟩)
                      ·
                       skip
                       refine Kd.R_lit_step Kd.bool _ 4 ?hg (N := 51) ?hd (xs := ([((Go.bits .and .u8 ((rd_T35 l0 x7_1).f2) 1) == 1)] : List Bool)) (inner := [.bool ((Go.bits .and .u8 ((rd_T35 l0 x7_1).f2) 1) == 1)]) (ok := fun _ => True) (okp := fun _ => True) ?hr ?hp (fun _ hk => hk) trivial (Below.refl _ _) (Nat.le_refl _) (by simp) ?_; (case hd => rfl); (case hg => rfl); (case hr => first | (go_simp; done) | (go_simp; rfl)); (case hp => exact (Reps.one (show Kd.M Kd.bool _ _ _ ((Go.bits .and .u8 ((rd_T35 l0 x7_1).f2) 1) == 1) [.bool ((Go.bits .and .u8 ((rd_T35 l0 x7_1).f2) 1) == 1)] from rfl) (Reps.none _ _)))
                       intro v158 w20 ho21 hb hg_ hnew_
                       clear hg_ hnew_
                       (first | rw [← Ny157.out] at ho21 | (simp only [Int.reduceToNat] at ho21; rw [← Ny157.out] at ho21))
                       have n0_ := Aside0.mk (Kd.R_below (by (with_reducible repeat (first | apply r1 | apply r2 | apply r3)); exact HO_3.out) hb)
                       have n1_ := Aside0.mk (Kd.R_below (by (with_reducible repeat (first | apply r1 | apply r2 | apply r3)); exact HO_4.out) hb)
                       have n2_ := Aside0.mk (Kd.R_below (by (with_reducible repeat (first | apply r1 | apply r2 | apply r3)); exact HO_5.out) hb)
                       have n3_ := Aside0.mk (Kd.R_elder' (by (with_reducible repeat (first | apply r1 | apply r2 | apply r3)); exact HO_6.out) (Kd.R_base ho21) hb)
                       have n4_ := Aside0.mk (Kd.R_below (by (with_reducible repeat (first | apply r1 | apply r2 | apply r3)); exact HO152.out) hb)
                       have n5_ := Aside0.mk (Kd.R_lower (Kd.R_new' ho21 (Kd.R_lt (by (with_reducible repeat (first | apply r1 | apply r2 | apply r3)); exact HO_6.out))) (below_size (by repeat (first | (with_reducible first | exact HB.out | apply b1 | apply b2 | apply b3) | exact HB.out))))
                       have n6_ := Aside0.mk (below_step (by repeat (first | (with_reducible first | exact HB.out | apply b1 | apply b2 | apply b3) | exact HB.out)) hb)
                       clear HO_3
                       clear HO_4
                       clear HO_5
                       clear HO_6
                       clear HO152
                       clear HB
                       have HO_3 := n0_
                       have HO_4 := n1_
                       have HO_5 := n2_
                       have HO_6 := n3_
                       have HO152 := n4_
                       have HO159 := n5_
                       have HB := n6_
                       clear n0_ n1_ n2_ n3_ n4_ n5_ n6_
                       clear hb ho21
                       refine hK.out _ _ ⟨(cl_ HB.out hw142_0), (cl_ HB.out hw142_1), (cl_ HB.out hw142_2), (cl_ HB.out hw149_0), (cl_ HB.out hw149_1), (cl_ HB.out hw149_2), (cl_ HB.out hw156_0), (cl_ HB.out hw156_1), (cl_ HB.out hw156_2)⟩ (fun hHeld => ?_)
                       clear hK K
                       refine norm_ (a' := ?_) ?_ ?_
                       rotate_left
                       ·
                        show Act.put _ (some 51) _ = _
                        simp only [Act.put, p1, p2, p3, i64_w, i32_w]
                        rfl
                       exact norm_ (by simp only [putAll, Act.put, p1, p2, p3]; try rfl) (hJ16_26 (v151, v158) _ ⟨hHeld, (by (with_reducible repeat (first | apply r1 | apply r2 | apply r3)); exact HO152.out), (by (with_reducible repeat (first | apply r1 | apply r2 | apply r3)); exact Kd.R_mono HO159.out (fun _ hk => hk.2)), (by (with_reducible repeat (first | apply r1 | apply r2 | apply r3)); exact HO_3.out), (by (with_reducible repeat (first | apply r1 | apply r2 | apply r3)); exact HO_4.out), (by (with_reducible repeat (first | apply r1 | apply r2 | apply r3)); exact HO_5.out), (by (with_reducible repeat (first | apply r1 | apply r2 | apply r3)); exact Kd.R_mono HO_6.out (fun _ hk => hk.2)), (by repeat (first | (with_reducible first | exact HB.out | apply b1 | apply b2 | apply b3) | exact HB.out))⟩)
                    ·
                     skip
                     rintro v144 w19 ⟨hS_, h0_, h1_, h2_, h3_, h4_, h5_⟩
                     have n0_ : Aside0 (Kd.R (Kd.int .i64) 3 w19 w.heap.size (fun k_ => some k_ ≠ (.slice Ao13 x3_1.length co13 : Value).ownBlock ∧ some k_ ≠ (.slice Ao14 x4_1.length co14 : Value).ownBlock ∧ some k_ ≠ (u5 : Value).ownBlock) v144 y143) := ⟨h0_⟩
                     have n1_ : Aside0 (Kd.R (Kd.int .i64) 3 w19 w.heap.size (fun k_ => some k_ ≠ (v144 : Value).ownBlock ∧ some k_ ≠ (.slice Ao14 x4_1.length co14 : Value).ownBlock ∧ some k_ ≠ (u5 : Value).ownBlock) (.slice Ao13 x3_1.length co13) x3_1) := ⟨h1_⟩
                     have n2_ : Aside0 (Kd.R (Kd.int .i64) 3 w19 w.heap.size (fun k_ => some k_ ≠ (v144 : Value).ownBlock ∧ some k_ ≠ (.slice Ao13 x3_1.length co13 : Value).ownBlock ∧ some k_ ≠ (u5 : Value).ownBlock) (.slice Ao14 x4_1.length co14) x4_1) := ⟨h2_⟩
                     have n3_ : Aside0 (Kd.R (Kd.int .i64) 3 w19 w.heap.size (fun k_ => some k_ ≠ (v144 : Value).ownBlock ∧ some k_ ≠ (.slice Ao13 x3_1.length co13 : Value).ownBlock ∧ some k_ ≠ (.slice Ao14 x4_1.length co14 : Value).ownBlock) u5 x5_1) := ⟨h3_⟩
                     have n4_ : Aside0 (Kd.R Kd.bool 4 w19 w.heap.size (fun _ => True) (.slice Ao15 x6_1.length co15) x6_1) := ⟨h4_⟩
                     have n5_ : Aside0 (Below w.heap.size w w19) := ⟨h5_⟩
                     clear HO_3
                     clear HO_4
                     clear HO_5
                     clear HO_6
                     clear HB
                     clear h0_ h1_ h2_ h3_ h4_ h5_
                     have HO145 := n0_
                     have HO_3 := n1_
                     have HO_4 := n2_
                     have HO_5 := n3_
                     have HO_6 := n4_
                     have HB := n5_
                     clear n0_ n1_ n2_ n3_ n4_ n5_
                     have hHeld : w19.cell? (ad142.add ((x7_1).toNat * 3)) = some (.int .u8 ((rd_T35 l0 x7_1).f0)) ∧ w19.cell? ⟨(ad142.add ((x7_1).toNat * 3)).block, (ad142.add ((x7_1).toNat * 3)).off + 1, none⟩ = some (.int .u8 ((rd_T35 l0 x7_1).f1)) ∧ w19.cell? ⟨(ad142.add ((x7_1).toNat * 3)).block, (ad142.add ((x7_1).toNat * 3)).off + 2, none⟩ = some (.int .u8 ((rd_T35 l0 x7_1).f2)) ∧ w19.cell? (ad142.add ((x7_1).toNat * 3)) = some (.int .u8 ((rd_T35 l0 x7_1).f0)) ∧ w19.cell? ⟨(ad142.add ((x7_1).toNat * 3)).block, (ad142.add ((x7_1).toNat * 3)).off + 1, none⟩ = some (.int .u8 ((rd_T35 l0 x7_1).f1)) ∧ w19.cell? ⟨(ad142.add ((x7_1).toNat * 3)).block, (ad142.add ((x7_1).toNat * 3)).off + 2, none⟩ = some (.int .u8 ((rd_T35 l0 x7_1).f2)) ∧ w19.cell? (ad142.add ((x7_1).toNat * 3)) = some (.int .u8 ((rd_T35 l0 x7_1).f0)) ∧ w19.cell? ⟨(ad142.add ((x7_1).toNat * 3)).block, (ad142.add ((x7_1).toNat * 3)).off + 1, none⟩ = some (.int .u8 ((rd_T35 l0 x7_1).f1)) ∧ w19.cell? ⟨(ad142.add ((x7_1).toNat * 3)).block, (ad142.add ((x7_1).toNat * 3)).off + 2, none⟩ = some (.int .u8 ((rd_T35 l0 x7_1).f2)) := hS_
                     obtain ⟨Ao21, co21, eo21⟩ := Kd.R_slice HO145.out
                     (first | subst eo21 | (injection eo21 with f1_ f2_ f3_; have f4_ := f1_.symm; have f5_ := f3_.symm; clear f1_ f2_ f3_; subst f4_; subst f5_))
                     refine norm_ (a' := ?_) ?_ ?_
                     rotate_left
                     ·
                      simp only [putAll, Act.put, p1, p2, p3]
                      rfl
                     refine three_ (i := 8) (j := 16) (k := 26) (Ni := some 33) (Nj := some 41) (Nk := some 51) WearVictims.q6 WearVictims.q7 WearVictims.q8 rfl rfl rfl rfl rfl rfl (three_of HT_.out (by kernel_rfl)) (by decide) (by decide) (by decide) (fun K hK => ?_) (fun K hK => ?_) (fun K hK => ?_)
                     ·
                      skip
                      refine Kd.R_append_rows_step (Kd.int .i64) (w0 := w) w.heap.size (by rfl) (.tmp 25) (.tmp 32) 23 3 (.int .i64 0) 8 rfl Try.underlying23 info3 rfl (by decide) (by omega) (.slice Ao13 x3_1.length co13) x3_1 y143 _ _ _ (fun k_ => some k_ ≠ (.slice Ao14 x4_1.length co14 : Value).ownBlock ∧ some k_ ≠ (u5 : Value).ownBlock ∧ some k_ ≠ (.slice Ao21 y143.length co21 : Value).ownBlock) (fun _ => False) rfl rfl ?aO ?aR (fun _ _ h => h) (fun _ h => h.elim) ?aF ?aB ?aS ?aL ?_
                      (case aR => repeat (first | exact (Kd.R_reads' HO145.out).2.2 | (with_reducible refine Kd.C_alloc ?_ _) | (with_reducible refine Kd.C_drewN ?_ _) | (with_reducible refine Kd.C_drew ?_)))
                      (case aB => exact (by repeat (first | (with_reducible first | exact HB.out | apply b1 | apply b2 | apply b3) | exact HB.out)))
                      (case aF => exact (fun k_ hk => ⟨Kd.fresh' (Kd.R_lt (by (with_reducible repeat (first | apply r1 | apply r2 | apply r3)); exact HO_4.out)) k_ hk, Kd.fresh' (Kd.R_lt (by (with_reducible repeat (first | apply r1 | apply r2 | apply r3)); exact HO_5.out)) k_ hk, Kd.fresh' (Kd.R_lt (by (with_reducible repeat (first | apply r1 | apply r2 | apply r3)); exact HO145.out)) k_ hk⟩))
                      (case aO => exact (by (with_reducible repeat (first | apply r1 | apply r2 | apply r3)); exact Kd.R_mono HO_3.out (fun _ hk => ⟨hk.2.1, ⟨hk.2.2, hk.1⟩⟩)))
                      (case aS => exact (below_size (by repeat (first | (with_reducible first | exact HB.out | apply b1 | apply b2 | apply b3) | exact HB.out))))
                      (case aL => have := LMc9.out; omega)
                      intro v147 w20 ho hb hg hat
                      rw [← Ny146.out] at ho
                      have n0_ := Aside0.mk (Kd.R_after (ok := (fun k_ => some k_ ≠ (u5 : Value).ownBlock ∧ some k_ ≠ (.slice Ao21 y143.length co21 : Value).ownBlock)) (by (with_reducible repeat (first | apply r1 | apply r2 | apply r3)); exact Kd.R_mono HO_4.out (fun _ hk => ⟨⟨hk.2.2, hk.1⟩, hk.2.1⟩)) hg hat)
                      have n1_ := Aside0.mk (Kd.R_after (ok := (fun k_ => some k_ ≠ (.slice Ao14 x4_1.length co14 : Value).ownBlock ∧ some k_ ≠ (.slice Ao21 y143.length co21 : Value).ownBlock)) (by (with_reducible repeat (first | apply r1 | apply r2 | apply r3)); exact Kd.R_mono HO_5.out (fun _ hk => ⟨⟨hk.2.2, hk.1⟩, hk.2.1⟩)) hg hat)
                      have n2_ := Aside0.mk (Kd.R_over' (by (with_reducible repeat (first | apply r1 | apply r2 | apply r3)); exact HO_6.out) (Kd.R_typed (by (with_reducible repeat (first | apply r1 | apply r2 | apply r3)); exact HO_3.out)) (by decide) hg)
                      have n3_ := Aside0.mk (Kd.R_after (ok := (fun k_ => some k_ ≠ (.slice Ao14 x4_1.length co14 : Value).ownBlock ∧ some k_ ≠ (u5 : Value).ownBlock)) (by (with_reducible repeat (first | apply r1 | apply r2 | apply r3)); exact Kd.R_mono HO145.out (fun _ hk => ⟨⟨hk.2.1, hk.2.2⟩, hk.1⟩)) hg hat)
                      have n4_ := Aside0.mk (hb)
                      have n5_ := Aside0.mk (ho)
                      clear HO_4
                      clear HO_5
                      clear HO_6
                      clear HO145
                      clear HB
                      clear HO_3
                      have HO_4 := n0_
                      have HO_5 := n1_
                      have HO_6 := n2_
                      have HO145 := n3_
                      have HB := n4_
                      have HO148 := n5_
                      clear n0_ n1_ n2_ n3_ n4_ n5_
                      clear ho hb hg hat
                      refine hK.out _ _ ⟨(cl_ HB.out hw142_0), (cl_ HB.out hw142_1), (cl_ HB.out hw142_2), (cl_ HB.out hw149_0), (cl_ HB.out hw149_1), (cl_ HB.out hw149_2), (cl_ HB.out hw156_0), (cl_ HB.out hw156_1), (cl_ HB.out hw156_2)⟩ (fun hHeld => ?_)
                      clear hK K
                      refine norm_ (a' := ?_) ?_ ?_
                      rotate_left
                      ·
                       show Act.put _ (some 33) _ = _
                       simp only [Act.put, p1, p2, p3, i64_w, i32_w]
                       rfl
                      exact norm_ (by simp only [putAll, Act.put, p1, p2, p3]; try rfl) (hJ7_8 (.slice Ao21 y143.length co21, v147) _ ⟨hHeld, (by (with_reducible repeat (first | apply r1 | apply r2 | apply r3)); exact Kd.R_mono HO145.out (fun _ hk => ⟨hk.2, ⟨hk.1.1, hk.1.2⟩⟩)), (by (with_reducible repeat (first | apply r1 | apply r2 | apply r3)); exact Kd.R_mono HO148.out (fun _ hk => ⟨hk.2.2, ⟨hk.1, hk.2.1⟩⟩)), (by (with_reducible repeat (first | apply r1 | apply r2 | apply r3)); exact Kd.R_mono HO_4.out (fun _ hk => ⟨hk.1.2, ⟨hk.2, hk.1.1⟩⟩)), (by (with_reducible repeat (first | apply r1 | apply r2 | apply r3)); exact Kd.R_mono HO_5.out (fun _ hk => ⟨hk.1.2, ⟨hk.2, hk.1.1⟩⟩)), (by (with_reducible repeat (first | apply r1 | apply r2 | apply r3)); exact HO_6.out), (by repeat (first | (with_reducible first | exact HB.out | apply b1 | apply b2 | apply b3) | exact HB.out))⟩)
                     ·
                      skip
                      refine Kd.R_lit_step (Kd.int .i64) _ 3 ?hg (N := 41) ?hd (xs := ([wrap64 ((rd_T35 l0 x7_1).f1)] : List Int)) (inner := [.int .i64 (wrap64 ((rd_T35 l0 x7_1).f1))]) (ok := fun _ => True) (okp := fun _ => True) ?hr ?hp (fun _ hk => hk) trivial (Below.refl _ _) (Nat.le_refl _) (by simp) ?_; (case hd => rfl); (case hg => rfl); (case hr => first | (go_simp; done) | (go_simp; rfl)); (case hp => exact (Reps.one (show Kd.M (Kd.int .i64) _ _ _ (wrap64 ((rd_T35 l0 x7_1).f1)) [.int .i64 (wrap64 ((rd_T35 l0 x7_1).f1))] from rfl) (Reps.none _ _)))
                      intro v151 w20 ho21 hb hg_ hnew_
                      clear hg_ hnew_
                      (first | rw [← Ny150.out] at ho21 | (simp only [Int.reduceToNat] at ho21; rw [← Ny150.out] at ho21))
                      have n0_ := Aside0.mk (Kd.R_elder' (by (with_reducible repeat (first | apply r1 | apply r2 | apply r3)); exact HO_3.out) (Kd.R_base ho21) hb)
                      have n1_ := Aside0.mk (Kd.R_elder' (by (with_reducible repeat (first | apply r1 | apply r2 | apply r3)); exact HO_4.out) (Kd.R_base ho21) hb)
                      have n2_ := Aside0.mk (Kd.R_elder' (by (with_reducible repeat (first | apply r1 | apply r2 | apply r3)); exact HO_5.out) (Kd.R_base ho21) hb)
                      have n3_ := Aside0.mk (Kd.R_below (by (with_reducible repeat (first | apply r1 | apply r2 | apply r3)); exact HO_6.out) hb)
                      have n4_ := Aside0.mk (Kd.R_elder' (by (with_reducible repeat (first | apply r1 | apply r2 | apply r3)); exact HO145.out) (Kd.R_base ho21) hb)
                      have n5_ := Aside0.mk (Kd.R_lower (Kd.R_new' (Kd.R_new' (Kd.R_new' (Kd.R_new' ho21 (Kd.R_lt (by (with_reducible repeat (first | apply r1 | apply r2 | apply r3)); exact HO_3.out))) (Kd.R_lt (by (with_reducible repeat (first | apply r1 | apply r2 | apply r3)); exact HO_4.out))) (Kd.R_lt (by (with_reducible repeat (first | apply r1 | apply r2 | apply r3)); exact HO_5.out))) (Kd.R_lt (by (with_reducible repeat (first | apply r1 | apply r2 | apply r3)); exact HO145.out))) (below_size (by repeat (first | (with_reducible first | exact HB.out | apply b1 | apply b2 | apply b3) | exact HB.out))))
                      have n6_ := Aside0.mk (below_step (by repeat (first | (with_reducible first | exact HB.out | apply b1 | apply b2 | apply b3) | exact HB.out)) hb)
                      clear HO_3
                      clear HO_4
                      clear HO_5
                      clear HO_6
                      clear HO145
                      clear HB
                      have HO_3 := n0_
                      have HO_4 := n1_
                      have HO_5 := n2_
                      have HO_6 := n3_
                      have HO145 := n4_
                      have HO152 := n5_
                      have HB := n6_
                      clear n0_ n1_ n2_ n3_ n4_ n5_ n6_
                      clear hb ho21
                      refine hK.out _ _ ⟨(cl_ HB.out hw142_0), (cl_ HB.out hw142_1), (cl_ HB.out hw142_2), (cl_ HB.out hw149_0), (cl_ HB.out hw149_1), (cl_ HB.out hw149_2), (cl_ HB.out hw156_0), (cl_ HB.out hw156_1), (cl_ HB.out hw156_2)⟩ (fun hHeld => ?_)
                      clear hK K
                      refine norm_ (a' := ?_) ?_ ?_
                      rotate_left
                      ·
                       show Act.put _ (some 41) _ = _
                       simp only [Act.put, p1, p2, p3, i64_w, i32_w]
                       rfl
                      exact norm_ (by simp only [putAll, Act.put, p1, p2, p3]; try rfl) (hJ7_16 (.slice Ao21 y143.length co21, v151) _ ⟨hHeld, (by (with_reducible repeat (first | apply r1 | apply r2 | apply r3)); exact Kd.R_mono HO145.out (fun _ hk => ⟨hk.2, ⟨hk.1.1, ⟨hk.1.2.1, hk.1.2.2⟩⟩⟩)), (by (with_reducible repeat (first | apply r1 | apply r2 | apply r3)); exact Kd.R_mono HO152.out (fun _ hk => ⟨hk.2, ⟨hk.1.1.1.2, ⟨hk.1.1.2, hk.1.2⟩⟩⟩)), (by (with_reducible repeat (first | apply r1 | apply r2 | apply r3)); exact Kd.R_mono HO_3.out (fun _ hk => ⟨hk.1.1, ⟨hk.2, ⟨hk.1.2.1, hk.1.2.2⟩⟩⟩)), (by (with_reducible repeat (first | apply r1 | apply r2 | apply r3)); exact Kd.R_mono HO_4.out (fun _ hk => ⟨hk.1.1, ⟨hk.2, ⟨hk.1.2.1, hk.1.2.2⟩⟩⟩)), (by (with_reducible repeat (first | apply r1 | apply r2 | apply r3)); exact Kd.R_mono HO_5.out (fun _ hk => ⟨hk.1.1, ⟨hk.2, ⟨hk.1.2.1, hk.1.2.2⟩⟩⟩)), (by (with_reducible repeat (first | apply r1 | apply r2 | apply r3)); exact HO_6.out), (by repeat (first | (with_reducible first | exact HB.out | apply b1 | apply b2 | apply b3) | exact HB.out))⟩)
                     ·
                      skip
                      refine Kd.R_lit_step Kd.bool _ 4 ?hg (N := 51) ?hd (xs := ([((Go.bits .and .u8 ((rd_T35 l0 x7_1).f2) 1) == 1)] : List Bool)) (inner := [.bool ((Go.bits .and .u8 ((rd_T35 l0 x7_1).f2) 1) == 1)]) (ok := fun _ => True) (okp := fun _ => True) ?hr ?hp (fun _ hk => hk) trivial (Below.refl _ _) (Nat.le_refl _) (by simp) ?_; (case hd => rfl); (case hg => rfl); (case hr => first | (go_simp; done) | (go_simp; rfl)); (case hp => exact (Reps.one (show Kd.M Kd.bool _ _ _ ((Go.bits .and .u8 ((rd_T35 l0 x7_1).f2) 1) == 1) [.bool ((Go.bits .and .u8 ((rd_T35 l0 x7_1).f2) 1) == 1)] from rfl) (Reps.none _ _)))
                      intro v158 w20 ho21 hb hg_ hnew_
                      clear hg_ hnew_
                      (first | rw [← Ny157.out] at ho21 | (simp only [Int.reduceToNat] at ho21; rw [← Ny157.out] at ho21))
                      have n0_ := Aside0.mk (Kd.R_below (by (with_reducible repeat (first | apply r1 | apply r2 | apply r3)); exact HO_3.out) hb)
                      have n1_ := Aside0.mk (Kd.R_below (by (with_reducible repeat (first | apply r1 | apply r2 | apply r3)); exact HO_4.out) hb)
                      have n2_ := Aside0.mk (Kd.R_below (by (with_reducible repeat (first | apply r1 | apply r2 | apply r3)); exact HO_5.out) hb)
                      have n3_ := Aside0.mk (Kd.R_elder' (by (with_reducible repeat (first | apply r1 | apply r2 | apply r3)); exact HO_6.out) (Kd.R_base ho21) hb)
                      have n4_ := Aside0.mk (Kd.R_below (by (with_reducible repeat (first | apply r1 | apply r2 | apply r3)); exact HO145.out) hb)
                      have n5_ := Aside0.mk (Kd.R_lower (Kd.R_new' ho21 (Kd.R_lt (by (with_reducible repeat (first | apply r1 | apply r2 | apply r3)); exact HO_6.out))) (below_size (by repeat (first | (with_reducible first | exact HB.out | apply b1 | apply b2 | apply b3) | exact HB.out))))
                      have n6_ := Aside0.mk (below_step (by repeat (first | (with_reducible first | exact HB.out | apply b1 | apply b2 | apply b3) | exact HB.out)) hb)
                      clear HO_3
                      clear HO_4
                      clear HO_5
                      clear HO_6
                      clear HO145
                      clear HB
                      have HO_3 := n0_
                      have HO_4 := n1_
                      have HO_5 := n2_
                      have HO_6 := n3_
                      have HO145 := n4_
                      have HO159 := n5_
                      have HB := n6_
                      clear n0_ n1_ n2_ n3_ n4_ n5_ n6_
                      clear hb ho21
                      refine hK.out _ _ ⟨(cl_ HB.out hw142_0), (cl_ HB.out hw142_1), (cl_ HB.out hw142_2), (cl_ HB.out hw149_0), (cl_ HB.out hw149_1), (cl_ HB.out hw149_2), (cl_ HB.out hw156_0), (cl_ HB.out hw156_1), (cl_ HB.out hw156_2)⟩ (fun hHeld => ?_)
                      clear hK K
                      refine norm_ (a' := ?_) ?_ ?_
                      rotate_left
                      ·
                       show Act.put _ (some 51) _ = _
                       simp only [Act.put, p1, p2, p3, i64_w, i32_w]
                       rfl
                      exact norm_ (by simp only [putAll, Act.put, p1, p2, p3]; try rfl) (hJ7_26 (.slice Ao21 y143.length co21, v158) _ ⟨hHeld, (by (with_reducible repeat (first | apply r1 | apply r2 | apply r3)); exact HO145.out), (by (with_reducible repeat (first | apply r1 | apply r2 | apply r3)); exact Kd.R_mono HO159.out (fun _ hk => hk.2)), (by (with_reducible repeat (first | apply r1 | apply r2 | apply r3)); exact HO_3.out), (by (with_reducible repeat (first | apply r1 | apply r2 | apply r3)); exact HO_4.out), (by (with_reducible repeat (first | apply r1 | apply r2 | apply r3)); exact HO_5.out), (by (with_reducible repeat (first | apply r1 | apply r2 | apply r3)); exact Kd.R_mono HO_6.out (fun _ hk => hk.2)), (by repeat (first | (with_reducible first | exact HB.out | apply b1 | apply b2 | apply b3) | exact HB.out))⟩)
                   ·
                    skip
                    rintro ⟨v151, v158⟩ w21 ⟨hS_, h0_, h1_, h2_, h3_, h4_, h5_, h6_⟩
                    have n0_ : Aside0 (Kd.R (Kd.int .i64) 3 w21 w.heap.size (fun k_ => some k_ ≠ (.slice Ao13 x3_1.length co13 : Value).ownBlock ∧ some k_ ≠ (.slice Ao14 x4_1.length co14 : Value).ownBlock ∧ some k_ ≠ (u5 : Value).ownBlock) v151 y150) := ⟨h0_⟩
                    have n1_ : Aside0 (Kd.R Kd.bool 4 w21 w.heap.size (fun k_ => some k_ ≠ (.slice Ao15 x6_1.length co15 : Value).ownBlock) v158 y157) := ⟨h1_⟩
                    have n2_ : Aside0 (Kd.R (Kd.int .i64) 3 w21 w.heap.size (fun k_ => some k_ ≠ (v151 : Value).ownBlock ∧ some k_ ≠ (.slice Ao14 x4_1.length co14 : Value).ownBlock ∧ some k_ ≠ (u5 : Value).ownBlock) (.slice Ao13 x3_1.length co13) x3_1) := ⟨h2_⟩
                    have n3_ : Aside0 (Kd.R (Kd.int .i64) 3 w21 w.heap.size (fun k_ => some k_ ≠ (v151 : Value).ownBlock ∧ some k_ ≠ (.slice Ao13 x3_1.length co13 : Value).ownBlock ∧ some k_ ≠ (u5 : Value).ownBlock) (.slice Ao14 x4_1.length co14) x4_1) := ⟨h3_⟩
                    have n4_ : Aside0 (Kd.R (Kd.int .i64) 3 w21 w.heap.size (fun k_ => some k_ ≠ (v151 : Value).ownBlock ∧ some k_ ≠ (.slice Ao13 x3_1.length co13 : Value).ownBlock ∧ some k_ ≠ (.slice Ao14 x4_1.length co14 : Value).ownBlock) u5 x5_1) := ⟨h4_⟩
                    have n5_ : Aside0 (Kd.R Kd.bool 4 w21 w.heap.size (fun k_ => some k_ ≠ (v158 : Value).ownBlock) (.slice Ao15 x6_1.length co15) x6_1) := ⟨h5_⟩
                    have n6_ : Aside0 (Below w.heap.size w w21) := ⟨h6_⟩
                    clear HO_3
                    clear HO_4
                    clear HO_5
                    clear HO_6
                    clear HB
                    clear h0_ h1_ h2_ h3_ h4_ h5_ h6_
                    have HO152 := n0_
                    have HO159 := n1_
                    have HO_3 := n2_
                    have HO_4 := n3_
                    have HO_5 := n4_
                    have HO_6 := n5_
                    have HB := n6_
                    clear n0_ n1_ n2_ n3_ n4_ n5_ n6_
                    have hHeld : w21.cell? (ad142.add ((x7_1).toNat * 3)) = some (.int .u8 ((rd_T35 l0 x7_1).f0)) ∧ w21.cell? ⟨(ad142.add ((x7_1).toNat * 3)).block, (ad142.add ((x7_1).toNat * 3)).off + 1, none⟩ = some (.int .u8 ((rd_T35 l0 x7_1).f1)) ∧ w21.cell? ⟨(ad142.add ((x7_1).toNat * 3)).block, (ad142.add ((x7_1).toNat * 3)).off + 2, none⟩ = some (.int .u8 ((rd_T35 l0 x7_1).f2)) ∧ w21.cell? (ad142.add ((x7_1).toNat * 3)) = some (.int .u8 ((rd_T35 l0 x7_1).f0)) ∧ w21.cell? ⟨(ad142.add ((x7_1).toNat * 3)).block, (ad142.add ((x7_1).toNat * 3)).off + 1, none⟩ = some (.int .u8 ((rd_T35 l0 x7_1).f1)) ∧ w21.cell? ⟨(ad142.add ((x7_1).toNat * 3)).block, (ad142.add ((x7_1).toNat * 3)).off + 2, none⟩ = some (.int .u8 ((rd_T35 l0 x7_1).f2)) ∧ w21.cell? (ad142.add ((x7_1).toNat * 3)) = some (.int .u8 ((rd_T35 l0 x7_1).f0)) ∧ w21.cell? ⟨(ad142.add ((x7_1).toNat * 3)).block, (ad142.add ((x7_1).toNat * 3)).off + 1, none⟩ = some (.int .u8 ((rd_T35 l0 x7_1).f1)) ∧ w21.cell? ⟨(ad142.add ((x7_1).toNat * 3)).block, (ad142.add ((x7_1).toNat * 3)).off + 2, none⟩ = some (.int .u8 ((rd_T35 l0 x7_1).f2)) := hS_
                    refine norm_ (a' := ?_) ?_ ?_
                    rotate_left
                    ·
                     simp only [putAll, Act.put, p1, p2, p3]
                     rfl
                    refine one_ (i := 7) (N := some 32) WearVictims.q5 rfl rfl (one_of HT_.out (by kernel_rfl)) (by decide) (fun K hK => ?_)
                    refine Kd.R_lit_step (Kd.int .i64) _ 3 ?hg (N := 32) ?hd (xs := ([wrap64 ((rd_T35 l0 x7_1).f0)] : List Int)) (inner := [.int .i64 (wrap64 ((rd_T35 l0 x7_1).f0))]) (ok := fun _ => True) (okp := fun _ => True) ?hr ?hp (fun _ hk => hk) trivial (Below.refl _ _) (Nat.le_refl _) (by simp) ?_; (case hd => rfl); (case hg => rfl); (case hr => first | (go_simp; done) | (go_simp; rfl)); (case hp => exact (Reps.one (show Kd.M (Kd.int .i64) _ _ _ (wrap64 ((rd_T35 l0 x7_1).f0)) [.int .i64 (wrap64 ((rd_T35 l0 x7_1).f0))] from rfl) (Reps.none _ _)))
                    intro v144 w22 ho23 hb hg_ hnew_
                    clear hg_ hnew_
                    (first | rw [← Ny143.out] at ho23 | (simp only [Int.reduceToNat] at ho23; rw [← Ny143.out] at ho23))
                    have n0_ := Aside0.mk (Kd.R_elder' (by (with_reducible repeat (first | apply r1 | apply r2 | apply r3)); exact HO_3.out) (Kd.R_base ho23) hb)
                    have n1_ := Aside0.mk (Kd.R_elder' (by (with_reducible repeat (first | apply r1 | apply r2 | apply r3)); exact HO_4.out) (Kd.R_base ho23) hb)
                    have n2_ := Aside0.mk (Kd.R_elder' (by (with_reducible repeat (first | apply r1 | apply r2 | apply r3)); exact HO_5.out) (Kd.R_base ho23) hb)
                    have n3_ := Aside0.mk (Kd.R_below (by (with_reducible repeat (first | apply r1 | apply r2 | apply r3)); exact HO_6.out) hb)
                    have n4_ := Aside0.mk (Kd.R_elder' (by (with_reducible repeat (first | apply r1 | apply r2 | apply r3)); exact HO152.out) (Kd.R_base ho23) hb)
                    have n5_ := Aside0.mk (Kd.R_below (by (with_reducible repeat (first | apply r1 | apply r2 | apply r3)); exact HO159.out) hb)
                    have n6_ := Aside0.mk (Kd.R_lower (Kd.R_new' (Kd.R_new' (Kd.R_new' (Kd.R_new' ho23 (Kd.R_lt (by (with_reducible repeat (first | apply r1 | apply r2 | apply r3)); exact HO_3.out))) (Kd.R_lt (by (with_reducible repeat (first | apply r1 | apply r2 | apply r3)); exact HO_4.out))) (Kd.R_lt (by (with_reducible repeat (first | apply r1 | apply r2 | apply r3)); exact HO_5.out))) (Kd.R_lt (by (with_reducible repeat (first | apply r1 | apply r2 | apply r3)); exact HO152.out))) (below_size (by repeat (first | (with_reducible first | exact HB.out | apply b1 | apply b2 | apply b3) | exact HB.out))))
                    have n7_ := Aside0.mk (below_step (by repeat (first | (with_reducible first | exact HB.out | apply b1 | apply b2 | apply b3) | exact HB.out)) hb)
                    clear HO_3
                    clear HO_4
                    clear HO_5
                    clear HO_6
                    clear HO152
                    clear HO159
                    clear HB
                    have HO_3 := n0_
                    have HO_4 := n1_
                    have HO_5 := n2_
                    have HO_6 := n3_
                    have HO152 := n4_
                    have HO159 := n5_
                    have HO145 := n6_
                    have HB := n7_
                    clear n0_ n1_ n2_ n3_ n4_ n5_ n6_ n7_
                    clear hb ho23
                    refine hK.out _ _ ⟨(cl_ HB.out hw142_0), (cl_ HB.out hw142_1), (cl_ HB.out hw142_2), (cl_ HB.out hw149_0), (cl_ HB.out hw149_1), (cl_ HB.out hw149_2), (cl_ HB.out hw156_0), (cl_ HB.out hw156_1), (cl_ HB.out hw156_2)⟩ (fun hHeld => ?_)
                    clear hK K
                    refine norm_ (a' := ?_) ?_ ?_
                    rotate_left
                    ·
                     show Act.put _ (some 32) _ = _
                     simp only [Act.put, p1, p2, p3, i64_w, i32_w]
                     rfl
                    exact norm_ (by simp only [putAll, Act.put, p1, p2, p3]; try rfl) (hJ7_16_26 (v144, v151, v158) _ ⟨hHeld, (by (with_reducible repeat (first | apply r1 | apply r2 | apply r3)); exact Kd.R_mono HO145.out (fun _ hk => ⟨hk.2, ⟨hk.1.1.1.2, ⟨hk.1.1.2, hk.1.2⟩⟩⟩)), (by (with_reducible repeat (first | apply r1 | apply r2 | apply r3)); exact Kd.R_mono HO152.out (fun _ hk => ⟨hk.2, ⟨hk.1.1, ⟨hk.1.2.1, hk.1.2.2⟩⟩⟩)), (by (with_reducible repeat (first | apply r1 | apply r2 | apply r3)); exact HO159.out), (by (with_reducible repeat (first | apply r1 | apply r2 | apply r3)); exact Kd.R_mono HO_3.out (fun _ hk => ⟨hk.2, ⟨hk.1.1, ⟨hk.1.2.1, hk.1.2.2⟩⟩⟩)), (by (with_reducible repeat (first | apply r1 | apply r2 | apply r3)); exact Kd.R_mono HO_4.out (fun _ hk => ⟨hk.2, ⟨hk.1.1, ⟨hk.1.2.1, hk.1.2.2⟩⟩⟩)), (by (with_reducible repeat (first | apply r1 | apply r2 | apply r3)); exact Kd.R_mono HO_5.out (fun _ hk => ⟨hk.2, ⟨hk.1.1, ⟨hk.1.2.1, hk.1.2.2⟩⟩⟩)), (by (with_reducible repeat (first | apply r1 | apply r2 | apply r3)); exact HO_6.out), (by repeat (first | (with_reducible first | exact HB.out | apply b1 | apply b2 | apply b3) | exact HB.out))⟩)
                  ·
                   skip
                   rintro ⟨v144, v158⟩ w21 ⟨hS_, h0_, h1_, h2_, h3_, h4_, h5_, h6_⟩
                   have n0_ : Aside0 (Kd.R (Kd.int .i64) 3 w21 w.heap.size (fun k_ => some k_ ≠ (.slice Ao13 x3_1.length co13 : Value).ownBlock ∧ some k_ ≠ (.slice Ao14 x4_1.length co14 : Value).ownBlock ∧ some k_ ≠ (u5 : Value).ownBlock) v144 y143) := ⟨h0_⟩
                   have n1_ : Aside0 (Kd.R Kd.bool 4 w21 w.heap.size (fun k_ => some k_ ≠ (.slice Ao15 x6_1.length co15 : Value).ownBlock) v158 y157) := ⟨h1_⟩
                   have n2_ : Aside0 (Kd.R (Kd.int .i64) 3 w21 w.heap.size (fun k_ => some k_ ≠ (v144 : Value).ownBlock ∧ some k_ ≠ (.slice Ao14 x4_1.length co14 : Value).ownBlock ∧ some k_ ≠ (u5 : Value).ownBlock) (.slice Ao13 x3_1.length co13) x3_1) := ⟨h2_⟩
                   have n3_ : Aside0 (Kd.R (Kd.int .i64) 3 w21 w.heap.size (fun k_ => some k_ ≠ (v144 : Value).ownBlock ∧ some k_ ≠ (.slice Ao13 x3_1.length co13 : Value).ownBlock ∧ some k_ ≠ (u5 : Value).ownBlock) (.slice Ao14 x4_1.length co14) x4_1) := ⟨h3_⟩
                   have n4_ : Aside0 (Kd.R (Kd.int .i64) 3 w21 w.heap.size (fun k_ => some k_ ≠ (v144 : Value).ownBlock ∧ some k_ ≠ (.slice Ao13 x3_1.length co13 : Value).ownBlock ∧ some k_ ≠ (.slice Ao14 x4_1.length co14 : Value).ownBlock) u5 x5_1) := ⟨h4_⟩
                   have n5_ : Aside0 (Kd.R Kd.bool 4 w21 w.heap.size (fun k_ => some k_ ≠ (v158 : Value).ownBlock) (.slice Ao15 x6_1.length co15) x6_1) := ⟨h5_⟩
                   have n6_ : Aside0 (Below w.heap.size w w21) := ⟨h6_⟩
                   clear HO_3
                   clear HO_4
                   clear HO_5
                   clear HO_6
                   clear HB
                   clear h0_ h1_ h2_ h3_ h4_ h5_ h6_
                   have HO145 := n0_
                   have HO159 := n1_
                   have HO_3 := n2_
                   have HO_4 := n3_
                   have HO_5 := n4_
                   have HO_6 := n5_
                   have HB := n6_
                   clear n0_ n1_ n2_ n3_ n4_ n5_ n6_
                   have hHeld : w21.cell? (ad142.add ((x7_1).toNat * 3)) = some (.int .u8 ((rd_T35 l0 x7_1).f0)) ∧ w21.cell? ⟨(ad142.add ((x7_1).toNat * 3)).block, (ad142.add ((x7_1).toNat * 3)).off + 1, none⟩ = some (.int .u8 ((rd_T35 l0 x7_1).f1)) ∧ w21.cell? ⟨(ad142.add ((x7_1).toNat * 3)).block, (ad142.add ((x7_1).toNat * 3)).off + 2, none⟩ = some (.int .u8 ((rd_T35 l0 x7_1).f2)) ∧ w21.cell? (ad142.add ((x7_1).toNat * 3)) = some (.int .u8 ((rd_T35 l0 x7_1).f0)) ∧ w21.cell? ⟨(ad142.add ((x7_1).toNat * 3)).block, (ad142.add ((x7_1).toNat * 3)).off + 1, none⟩ = some (.int .u8 ((rd_T35 l0 x7_1).f1)) ∧ w21.cell? ⟨(ad142.add ((x7_1).toNat * 3)).block, (ad142.add ((x7_1).toNat * 3)).off + 2, none⟩ = some (.int .u8 ((rd_T35 l0 x7_1).f2)) ∧ w21.cell? (ad142.add ((x7_1).toNat * 3)) = some (.int .u8 ((rd_T35 l0 x7_1).f0)) ∧ w21.cell? ⟨(ad142.add ((x7_1).toNat * 3)).block, (ad142.add ((x7_1).toNat * 3)).off + 1, none⟩ = some (.int .u8 ((rd_T35 l0 x7_1).f1)) ∧ w21.cell? ⟨(ad142.add ((x7_1).toNat * 3)).block, (ad142.add ((x7_1).toNat * 3)).off + 2, none⟩ = some (.int .u8 ((rd_T35 l0 x7_1).f2)) := hS_
                   obtain ⟨Ao23, co23, eo23⟩ := Kd.R_slice HO145.out
                   (first | subst eo23 | (injection eo23 with f1_ f2_ f3_; have f4_ := f1_.symm; have f5_ := f3_.symm; clear f1_ f2_ f3_; subst f4_; subst f5_))
                   refine norm_ (a' := ?_) ?_ ?_
                   rotate_left
                   ·
                    simp only [putAll, Act.put, p1, p2, p3]
                    rfl
                   refine two_ (i := 8) (j := 16) (Ni := some 33) (Nj := some 41) WearVictims.q4 WearVictims.q5 rfl rfl rfl rfl (two_of HT_.out (by kernel_rfl)) (by decide) (by decide) (fun K hK => ?_) (fun K hK => ?_)
                   ·
                    skip
                    refine Kd.R_append_rows_step (Kd.int .i64) (w0 := w) w.heap.size (by rfl) (.tmp 25) (.tmp 32) 23 3 (.int .i64 0) 8 rfl Try.underlying23 info3 rfl (by decide) (by omega) (.slice Ao13 x3_1.length co13) x3_1 y143 _ _ _ (fun k_ => some k_ ≠ (.slice Ao14 x4_1.length co14 : Value).ownBlock ∧ some k_ ≠ (u5 : Value).ownBlock ∧ some k_ ≠ (.slice Ao23 y143.length co23 : Value).ownBlock) (fun _ => False) rfl rfl ?aO ?aR (fun _ _ h => h) (fun _ h => h.elim) ?aF ?aB ?aS ?aL ?_
                    (case aR => repeat (first | exact (Kd.R_reads' HO145.out).2.2 | (with_reducible refine Kd.C_alloc ?_ _) | (with_reducible refine Kd.C_drewN ?_ _) | (with_reducible refine Kd.C_drew ?_)))
                    (case aB => exact (by repeat (first | (with_reducible first | exact HB.out | apply b1 | apply b2 | apply b3) | exact HB.out)))
                    (case aF => exact (fun k_ hk => ⟨Kd.fresh' (Kd.R_lt (by (with_reducible repeat (first | apply r1 | apply r2 | apply r3)); exact HO_4.out)) k_ hk, Kd.fresh' (Kd.R_lt (by (with_reducible repeat (first | apply r1 | apply r2 | apply r3)); exact HO_5.out)) k_ hk, Kd.fresh' (Kd.R_lt (by (with_reducible repeat (first | apply r1 | apply r2 | apply r3)); exact HO145.out)) k_ hk⟩))
                    (case aO => exact (by (with_reducible repeat (first | apply r1 | apply r2 | apply r3)); exact Kd.R_mono HO_3.out (fun _ hk => ⟨hk.2.1, ⟨hk.2.2, hk.1⟩⟩)))
                    (case aS => exact (below_size (by repeat (first | (with_reducible first | exact HB.out | apply b1 | apply b2 | apply b3) | exact HB.out))))
                    (case aL => have := LMc9.out; omega)
                    intro v147 w22 ho hb hg hat
                    rw [← Ny146.out] at ho
                    have n0_ := Aside0.mk (Kd.R_after (ok := (fun k_ => some k_ ≠ (u5 : Value).ownBlock ∧ some k_ ≠ (.slice Ao23 y143.length co23 : Value).ownBlock)) (by (with_reducible repeat (first | apply r1 | apply r2 | apply r3)); exact Kd.R_mono HO_4.out (fun _ hk => ⟨⟨hk.2.2, hk.1⟩, hk.2.1⟩)) hg hat)
                    have n1_ := Aside0.mk (Kd.R_after (ok := (fun k_ => some k_ ≠ (.slice Ao14 x4_1.length co14 : Value).ownBlock ∧ some k_ ≠ (.slice Ao23 y143.length co23 : Value).ownBlock)) (by (with_reducible repeat (first | apply r1 | apply r2 | apply r3)); exact Kd.R_mono HO_5.out (fun _ hk => ⟨⟨hk.2.2, hk.1⟩, hk.2.1⟩)) hg hat)
                    have n2_ := Aside0.mk (Kd.R_over' (by (with_reducible repeat (first | apply r1 | apply r2 | apply r3)); exact HO_6.out) (Kd.R_typed (by (with_reducible repeat (first | apply r1 | apply r2 | apply r3)); exact HO_3.out)) (by decide) hg)
                    have n3_ := Aside0.mk (Kd.R_after (ok := (fun k_ => some k_ ≠ (.slice Ao14 x4_1.length co14 : Value).ownBlock ∧ some k_ ≠ (u5 : Value).ownBlock)) (by (with_reducible repeat (first | apply r1 | apply r2 | apply r3)); exact Kd.R_mono HO145.out (fun _ hk => ⟨⟨hk.2.1, hk.2.2⟩, hk.1⟩)) hg hat)
                    have n4_ := Aside0.mk (Kd.R_over' (by (with_reducible repeat (first | apply r1 | apply r2 | apply r3)); exact HO159.out) (Kd.R_typed (by (with_reducible repeat (first | apply r1 | apply r2 | apply r3)); exact HO_3.out)) (by decide) hg)
                    have n5_ := Aside0.mk (hb)
                    have n6_ := Aside0.mk (ho)
                    clear HO_4
                    clear HO_5
                    clear HO_6
                    clear HO145
                    clear HO159
                    clear HB
                    clear HO_3
                    have HO_4 := n0_
                    have HO_5 := n1_
                    have HO_6 := n2_
                    have HO145 := n3_
                    have HO159 := n4_
                    have HB := n5_
                    have HO148 := n6_
                    clear n0_ n1_ n2_ n3_ n4_ n5_ n6_
                    clear ho hb hg hat
                    refine hK.out _ _ ⟨(cl_ HB.out hw142_0), (cl_ HB.out hw142_1), (cl_ HB.out hw142_2), (cl_ HB.out hw149_0), (cl_ HB.out hw149_1), (cl_ HB.out hw149_2), (cl_ HB.out hw156_0), (cl_ HB.out hw156_1), (cl_ HB.out hw156_2)⟩ (fun hHeld => ?_)
                    clear hK K
                    refine norm_ (a' := ?_) ?_ ?_
                    rotate_left
                    ·
                     show Act.put _ (some 33) _ = _
                     simp only [Act.put, p1, p2, p3, i64_w, i32_w]
                     rfl
                    exact norm_ (by simp only [putAll, Act.put, p1, p2, p3]; try rfl) (hJ7_8_26 (.slice Ao23 y143.length co23, v147, v158) _ ⟨hHeld, (by (with_reducible repeat (first | apply r1 | apply r2 | apply r3)); exact Kd.R_mono HO145.out (fun _ hk => ⟨hk.2, ⟨hk.1.1, hk.1.2⟩⟩)), (by (with_reducible repeat (first | apply r1 | apply r2 | apply r3)); exact Kd.R_mono HO148.out (fun _ hk => ⟨hk.2.2, ⟨hk.1, hk.2.1⟩⟩)), (by (with_reducible repeat (first | apply r1 | apply r2 | apply r3)); exact HO159.out), (by (with_reducible repeat (first | apply r1 | apply r2 | apply r3)); exact Kd.R_mono HO_4.out (fun _ hk => ⟨hk.1.2, ⟨hk.2, hk.1.1⟩⟩)), (by (with_reducible repeat (first | apply r1 | apply r2 | apply r3)); exact Kd.R_mono HO_5.out (fun _ hk => ⟨hk.1.2, ⟨hk.2, hk.1.1⟩⟩)), (by (with_reducible repeat (first | apply r1 | apply r2 | apply r3)); exact HO_6.out), (by repeat (first | (with_reducible first | exact HB.out | apply b1 | apply b2 | apply b3) | exact HB.out))⟩)
                   ·
                    skip
                    refine Kd.R_lit_step (Kd.int .i64) _ 3 ?hg (N := 41) ?hd (xs := ([wrap64 ((rd_T35 l0 x7_1).f1)] : List Int)) (inner := [.int .i64 (wrap64 ((rd_T35 l0 x7_1).f1))]) (ok := fun _ => True) (okp := fun _ => True) ?hr ?hp (fun _ hk => hk) trivial (Below.refl _ _) (Nat.le_refl _) (by simp) ?_; (case hd => rfl); (case hg => rfl); (case hr => first | (go_simp; done) | (go_simp; rfl)); (case hp => exact (Reps.one (show Kd.M (Kd.int .i64) _ _ _ (wrap64 ((rd_T35 l0 x7_1).f1)) [.int .i64 (wrap64 ((rd_T35 l0 x7_1).f1))] from rfl) (Reps.none _ _)))
                    intro v151 w22 ho23 hb hg_ hnew_
                    clear hg_ hnew_
                    (first | rw [← Ny150.out] at ho23 | (simp only [Int.reduceToNat] at ho23; rw [← Ny150.out] at ho23))
                    have n0_ := Aside0.mk (Kd.R_elder' (by (with_reducible repeat (first | apply r1 | apply r2 | apply r3)); exact HO_3.out) (Kd.R_base ho23) hb)
                    have n1_ := Aside0.mk (Kd.R_elder' (by (with_reducible repeat (first | apply r1 | apply r2 | apply r3)); exact HO_4.out) (Kd.R_base ho23) hb)
                    have n2_ := Aside0.mk (Kd.R_elder' (by (with_reducible repeat (first | apply r1 | apply r2 | apply r3)); exact HO_5.out) (Kd.R_base ho23) hb)
                    have n3_ := Aside0.mk (Kd.R_below (by (with_reducible repeat (first | apply r1 | apply r2 | apply r3)); exact HO_6.out) hb)
                    have n4_ := Aside0.mk (Kd.R_elder' (by (with_reducible repeat (first | apply r1 | apply r2 | apply r3)); exact HO145.out) (Kd.R_base ho23) hb)
                    have n5_ := Aside0.mk (Kd.R_below (by (with_reducible repeat (first | apply r1 | apply r2 | apply r3)); exact HO159.out) hb)
                    have n6_ := Aside0.mk (Kd.R_lower (Kd.R_new' (Kd.R_new' (Kd.R_new' (Kd.R_new' ho23 (Kd.R_lt (by (with_reducible repeat (first | apply r1 | apply r2 | apply r3)); exact HO_3.out))) (Kd.R_lt (by (with_reducible repeat (first | apply r1 | apply r2 | apply r3)); exact HO_4.out))) (Kd.R_lt (by (with_reducible repeat (first | apply r1 | apply r2 | apply r3)); exact HO_5.out))) (Kd.R_lt (by (with_reducible repeat (first | apply r1 | apply r2 | apply r3)); exact HO145.out))) (below_size (by repeat (first | (with_reducible first | exact HB.out | apply b1 | apply b2 | apply b3) | exact HB.out))))
                    have n7_ := Aside0.mk (below_step (by repeat (first | (with_reducible first | exact HB.out | apply b1 | apply b2 | apply b3) | exact HB.out)) hb)
                    clear HO_3
                    clear HO_4
                    clear HO_5
                    clear HO_6
                    clear HO145
                    clear HO159
                    clear HB
                    have HO_3 := n0_
                    have HO_4 := n1_
                    have HO_5 := n2_
                    have HO_6 := n3_
                    have HO145 := n4_
                    have HO159 := n5_
                    have HO152 := n6_
                    have HB := n7_
                    clear n0_ n1_ n2_ n3_ n4_ n5_ n6_ n7_
                    clear hb ho23
                    refine hK.out _ _ ⟨(cl_ HB.out hw142_0), (cl_ HB.out hw142_1), (cl_ HB.out hw142_2), (cl_ HB.out hw149_0), (cl_ HB.out hw149_1), (cl_ HB.out hw149_2), (cl_ HB.out hw156_0), (cl_ HB.out hw156_1), (cl_ HB.out hw156_2)⟩ (fun hHeld => ?_)
                    clear hK K
                    refine norm_ (a' := ?_) ?_ ?_
                    rotate_left
                    ·
                     show Act.put _ (some 41) _ = _
                     simp only [Act.put, p1, p2, p3, i64_w, i32_w]
                     rfl
                    exact norm_ (by simp only [putAll, Act.put, p1, p2, p3]; try rfl) (hJ7_16_26 (.slice Ao23 y143.length co23, v151, v158) _ ⟨hHeld, (by (with_reducible repeat (first | apply r1 | apply r2 | apply r3)); exact Kd.R_mono HO145.out (fun _ hk => ⟨hk.2, ⟨hk.1.1, ⟨hk.1.2.1, hk.1.2.2⟩⟩⟩)), (by (with_reducible repeat (first | apply r1 | apply r2 | apply r3)); exact Kd.R_mono HO152.out (fun _ hk => ⟨hk.2, ⟨hk.1.1.1.2, ⟨hk.1.1.2, hk.1.2⟩⟩⟩)), (by (with_reducible repeat (first | apply r1 | apply r2 | apply r3)); exact HO159.out), (by (with_reducible repeat (first | apply r1 | apply r2 | apply r3)); exact Kd.R_mono HO_3.out (fun _ hk => ⟨hk.1.1, ⟨hk.2, ⟨hk.1.2.1, hk.1.2.2⟩⟩⟩)), (by (with_reducible repeat (first | apply r1 | apply r2 | apply r3)); exact Kd.R_mono HO_4.out (fun _ hk => ⟨hk.1.1, ⟨hk.2, ⟨hk.1.2.1, hk.1.2.2⟩⟩⟩)), (by (with_reducible repeat (first | apply r1 | apply r2 | apply r3)); exact Kd.R_mono HO_5.out (fun _ hk => ⟨hk.1.1, ⟨hk.2, ⟨hk.1.2.1, hk.1.2.2⟩⟩⟩)), (by (with_reducible repeat (first | apply r1 | apply r2 | apply r3)); exact HO_6.out), (by repeat (first | (with_reducible first | exact HB.out | apply b1 | apply b2 | apply b3) | exact HB.out))⟩)
                 ·
                  skip
                  rintro ⟨v144, v151⟩ w21 ⟨hS_, h0_, h1_, h2_, h3_, h4_, h5_, h6_⟩
                  have n0_ : Aside0 (Kd.R (Kd.int .i64) 3 w21 w.heap.size (fun k_ => some k_ ≠ (v151 : Value).ownBlock ∧ some k_ ≠ (.slice Ao13 x3_1.length co13 : Value).ownBlock ∧ some k_ ≠ (.slice Ao14 x4_1.length co14 : Value).ownBlock ∧ some k_ ≠ (u5 : Value).ownBlock) v144 y143) := ⟨h0_⟩
                  have n1_ : Aside0 (Kd.R (Kd.int .i64) 3 w21 w.heap.size (fun k_ => some k_ ≠ (v144 : Value).ownBlock ∧ some k_ ≠ (.slice Ao13 x3_1.length co13 : Value).ownBlock ∧ some k_ ≠ (.slice Ao14 x4_1.length co14 : Value).ownBlock ∧ some k_ ≠ (u5 : Value).ownBlock) v151 y150) := ⟨h1_⟩
                  have n2_ : Aside0 (Kd.R (Kd.int .i64) 3 w21 w.heap.size (fun k_ => some k_ ≠ (v144 : Value).ownBlock ∧ some k_ ≠ (v151 : Value).ownBlock ∧ some k_ ≠ (.slice Ao14 x4_1.length co14 : Value).ownBlock ∧ some k_ ≠ (u5 : Value).ownBlock) (.slice Ao13 x3_1.length co13) x3_1) := ⟨h2_⟩
                  have n3_ : Aside0 (Kd.R (Kd.int .i64) 3 w21 w.heap.size (fun k_ => some k_ ≠ (v144 : Value).ownBlock ∧ some k_ ≠ (v151 : Value).ownBlock ∧ some k_ ≠ (.slice Ao13 x3_1.length co13 : Value).ownBlock ∧ some k_ ≠ (u5 : Value).ownBlock) (.slice Ao14 x4_1.length co14) x4_1) := ⟨h3_⟩
                  have n4_ : Aside0 (Kd.R (Kd.int .i64) 3 w21 w.heap.size (fun k_ => some k_ ≠ (v144 : Value).ownBlock ∧ some k_ ≠ (v151 : Value).ownBlock ∧ some k_ ≠ (.slice Ao13 x3_1.length co13 : Value).ownBlock ∧ some k_ ≠ (.slice Ao14 x4_1.length co14 : Value).ownBlock) u5 x5_1) := ⟨h4_⟩
                  have n5_ : Aside0 (Kd.R Kd.bool 4 w21 w.heap.size (fun _ => True) (.slice Ao15 x6_1.length co15) x6_1) := ⟨h5_⟩
                  have n6_ : Aside0 (Below w.heap.size w w21) := ⟨h6_⟩
                  clear HO_3
                  clear HO_4
                  clear HO_5
                  clear HO_6
                  clear HB
                  clear h0_ h1_ h2_ h3_ h4_ h5_ h6_
                  have HO145 := n0_
                  have HO152 := n1_
                  have HO_3 := n2_
                  have HO_4 := n3_
                  have HO_5 := n4_
                  have HO_6 := n5_
                  have HB := n6_
                  clear n0_ n1_ n2_ n3_ n4_ n5_ n6_
                  have hHeld : w21.cell? (ad142.add ((x7_1).toNat * 3)) = some (.int .u8 ((rd_T35 l0 x7_1).f0)) ∧ w21.cell? ⟨(ad142.add ((x7_1).toNat * 3)).block, (ad142.add ((x7_1).toNat * 3)).off + 1, none⟩ = some (.int .u8 ((rd_T35 l0 x7_1).f1)) ∧ w21.cell? ⟨(ad142.add ((x7_1).toNat * 3)).block, (ad142.add ((x7_1).toNat * 3)).off + 2, none⟩ = some (.int .u8 ((rd_T35 l0 x7_1).f2)) ∧ w21.cell? (ad142.add ((x7_1).toNat * 3)) = some (.int .u8 ((rd_T35 l0 x7_1).f0)) ∧ w21.cell? ⟨(ad142.add ((x7_1).toNat * 3)).block, (ad142.add ((x7_1).toNat * 3)).off + 1, none⟩ = some (.int .u8 ((rd_T35 l0 x7_1).f1)) ∧ w21.cell? ⟨(ad142.add ((x7_1).toNat * 3)).block, (ad142.add ((x7_1).toNat * 3)).off + 2, none⟩ = some (.int .u8 ((rd_T35 l0 x7_1).f2)) ∧ w21.cell? (ad142.add ((x7_1).toNat * 3)) = some (.int .u8 ((rd_T35 l0 x7_1).f0)) ∧ w21.cell? ⟨(ad142.add ((x7_1).toNat * 3)).block, (ad142.add ((x7_1).toNat * 3)).off + 1, none⟩ = some (.int .u8 ((rd_T35 l0 x7_1).f1)) ∧ w21.cell? ⟨(ad142.add ((x7_1).toNat * 3)).block, (ad142.add ((x7_1).toNat * 3)).off + 2, none⟩ = some (.int .u8 ((rd_T35 l0 x7_1).f2)) := hS_
                  obtain ⟨Ao23, co23, eo23⟩ := Kd.R_slice HO145.out
                  (first | subst eo23 | (injection eo23 with f1_ f2_ f3_; have f4_ := f1_.symm; have f5_ := f3_.symm; clear f1_ f2_ f3_; subst f4_; subst f5_))
                  refine norm_ (a' := ?_) ?_ ?_
                  rotate_left
                  ·
                   simp only [putAll, Act.put, p1, p2, p3]
                   rfl
                  refine two_ (i := 8) (j := 26) (Ni := some 33) (Nj := some 51) WearVictims.q3 WearVictims.q5 rfl rfl rfl rfl (two_of HT_.out (by kernel_rfl)) (by decide) (by decide) (fun K hK => ?_) (fun K hK => ?_)
                  ·
                   skip
                   refine Kd.R_append_rows_step (Kd.int .i64) (w0 := w) w.heap.size (by rfl) (.tmp 25) (.tmp 32) 23 3 (.int .i64 0) 8 rfl Try.underlying23 info3 rfl (by decide) (by omega) (.slice Ao13 x3_1.length co13) x3_1 y143 _ _ _ (fun k_ => some k_ ≠ (.slice Ao14 x4_1.length co14 : Value).ownBlock ∧ some k_ ≠ (u5 : Value).ownBlock ∧ some k_ ≠ (.slice Ao23 y143.length co23 : Value).ownBlock ∧ some k_ ≠ (v151 : Value).ownBlock) (fun _ => False) rfl rfl ?aO ?aR (fun _ _ h => h) (fun _ h => h.elim) ?aF ?aB ?aS ?aL ?_
                   (case aR => repeat (first | exact (Kd.R_reads' HO145.out).2.2 | (with_reducible refine Kd.C_alloc ?_ _) | (with_reducible refine Kd.C_drewN ?_ _) | (with_reducible refine Kd.C_drew ?_)))
                   (case aB => exact (by repeat (first | (with_reducible first | exact HB.out | apply b1 | apply b2 | apply b3) | exact HB.out)))
                   (case aF => exact (fun k_ hk => ⟨Kd.fresh' (Kd.R_lt (by (with_reducible repeat (first | apply r1 | apply r2 | apply r3)); exact HO_4.out)) k_ hk, Kd.fresh' (Kd.R_lt (by (with_reducible repeat (first | apply r1 | apply r2 | apply r3)); exact HO_5.out)) k_ hk, Kd.fresh' (Kd.R_lt (by (with_reducible repeat (first | apply r1 | apply r2 | apply r3)); exact HO145.out)) k_ hk, Kd.fresh' (Kd.R_lt (by (with_reducible repeat (first | apply r1 | apply r2 | apply r3)); exact HO152.out)) k_ hk⟩))
                   (case aO => exact (by (with_reducible repeat (first | apply r1 | apply r2 | apply r3)); exact Kd.R_mono HO_3.out (fun _ hk => ⟨hk.2.2.1, ⟨hk.2.2.2, ⟨hk.1, hk.2.1⟩⟩⟩)))
                   (case aS => exact (below_size (by repeat (first | (with_reducible first | exact HB.out | apply b1 | apply b2 | apply b3) | exact HB.out))))
                   (case aL => have := LMc9.out; omega)
                   intro v147 w22 ho hb hg hat
                   rw [← Ny146.out] at ho
                   have n0_ := Aside0.mk (Kd.R_after (ok := (fun k_ => some k_ ≠ (u5 : Value).ownBlock ∧ some k_ ≠ (.slice Ao23 y143.length co23 : Value).ownBlock ∧ some k_ ≠ (v151 : Value).ownBlock)) (by (with_reducible repeat (first | apply r1 | apply r2 | apply r3)); exact Kd.R_mono HO_4.out (fun _ hk => ⟨⟨hk.2.2.2, ⟨hk.1, hk.2.1⟩⟩, hk.2.2.1⟩)) hg hat)
                   have n1_ := Aside0.mk (Kd.R_after (ok := (fun k_ => some k_ ≠ (.slice Ao14 x4_1.length co14 : Value).ownBlock ∧ some k_ ≠ (.slice Ao23 y143.length co23 : Value).ownBlock ∧ some k_ ≠ (v151 : Value).ownBlock)) (by (with_reducible repeat (first | apply r1 | apply r2 | apply r3)); exact Kd.R_mono HO_5.out (fun _ hk => ⟨⟨hk.2.2.2, ⟨hk.1, hk.2.1⟩⟩, hk.2.2.1⟩)) hg hat)
                   have n2_ := Aside0.mk (Kd.R_over' (by (with_reducible repeat (first | apply r1 | apply r2 | apply r3)); exact HO_6.out) (Kd.R_typed (by (with_reducible repeat (first | apply r1 | apply r2 | apply r3)); exact HO_3.out)) (by decide) hg)
                   have n3_ := Aside0.mk (Kd.R_after (ok := (fun k_ => some k_ ≠ (.slice Ao14 x4_1.length co14 : Value).ownBlock ∧ some k_ ≠ (u5 : Value).ownBlock ∧ some k_ ≠ (v151 : Value).ownBlock)) (by (with_reducible repeat (first | apply r1 | apply r2 | apply r3)); exact Kd.R_mono HO145.out (fun _ hk => ⟨⟨hk.2.2.1, ⟨hk.2.2.2, hk.1⟩⟩, hk.2.1⟩)) hg hat)
                   have n4_ := Aside0.mk (Kd.R_after (ok := (fun k_ => some k_ ≠ (.slice Ao14 x4_1.length co14 : Value).ownBlock ∧ some k_ ≠ (u5 : Value).ownBlock ∧ some k_ ≠ (.slice Ao23 y143.length co23 : Value).ownBlock)) (by (with_reducible repeat (first | apply r1 | apply r2 | apply r3)); exact Kd.R_mono HO152.out (fun _ hk => ⟨⟨hk.2.2.1, ⟨hk.2.2.2, hk.1⟩⟩, hk.2.1⟩)) hg hat)
                   have n5_ := Aside0.mk (hb)
                   have n6_ := Aside0.mk (ho)
                   clear HO_4
                   clear HO_5
                   clear HO_6
                   clear HO145
                   clear HO152
                   clear HB
                   clear HO_3
                   have HO_4 := n0_
                   have HO_5 := n1_
                   have HO_6 := n2_
                   have HO145 := n3_
                   have HO152 := n4_
                   have HB := n5_
                   have HO148 := n6_
                   clear n0_ n1_ n2_ n3_ n4_ n5_ n6_
                   clear ho hb hg hat
                   refine hK.out _ _ ⟨(cl_ HB.out hw142_0), (cl_ HB.out hw142_1), (cl_ HB.out hw142_2), (cl_ HB.out hw149_0), (cl_ HB.out hw149_1), (cl_ HB.out hw149_2), (cl_ HB.out hw156_0), (cl_ HB.out hw156_1), (cl_ HB.out hw156_2)⟩ (fun hHeld => ?_)
                   clear hK K
                   refine norm_ (a' := ?_) ?_ ?_
                   rotate_left
                   ·
                    show Act.put _ (some 33) _ = _
                    simp only [Act.put, p1, p2, p3, i64_w, i32_w]
                    rfl
                   exact norm_ (by simp only [putAll, Act.put, p1, p2, p3]; try rfl) (hJ7_8_16 (.slice Ao23 y143.length co23, v147, v151) _ ⟨hHeld, (by (with_reducible repeat (first | apply r1 | apply r2 | apply r3)); exact Kd.R_mono HO145.out (fun _ hk => ⟨hk.2, ⟨hk.1.2.2, ⟨hk.1.1, hk.1.2.1⟩⟩⟩)), (by (with_reducible repeat (first | apply r1 | apply r2 | apply r3)); exact Kd.R_mono HO148.out (fun _ hk => ⟨hk.2.2.1, ⟨hk.2.2.2, ⟨hk.1, hk.2.1⟩⟩⟩)), (by (with_reducible repeat (first | apply r1 | apply r2 | apply r3)); exact Kd.R_mono HO152.out (fun _ hk => ⟨hk.1.2.2, ⟨hk.2, ⟨hk.1.1, hk.1.2.1⟩⟩⟩)), (by (with_reducible repeat (first | apply r1 | apply r2 | apply r3)); exact Kd.R_mono HO_4.out (fun _ hk => ⟨hk.1.2.1, ⟨hk.2, ⟨hk.1.2.2, hk.1.1⟩⟩⟩)), (by (with_reducible repeat (first | apply r1 | apply r2 | apply r3)); exact Kd.R_mono HO_5.out (fun _ hk => ⟨hk.1.2.1, ⟨hk.2, ⟨hk.1.2.2, hk.1.1⟩⟩⟩)), (by (with_reducible repeat (first | apply r1 | apply r2 | apply r3)); exact HO_6.out), (by repeat (first | (with_reducible first | exact HB.out | apply b1 | apply b2 | apply b3) | exact HB.out))⟩)
                  ·
                   skip
                   refine Kd.R_lit_step Kd.bool _ 4 ?hg (N := 51) ?hd (xs := ([((Go.bits .and .u8 ((rd_T35 l0 x7_1).f2) 1) == 1)] : List Bool)) (inner := [.bool ((Go.bits .and .u8 ((rd_T35 l0 x7_1).f2) 1) == 1)]) (ok := fun _ => True) (okp := fun _ => True) ?hr ?hp (fun _ hk => hk) trivial (Below.refl _ _) (Nat.le_refl _) (by simp) ?_; (case hd => rfl); (case hg => rfl); (case hr => first | (go_simp; done) | (go_simp; rfl)); (case hp => exact (Reps.one (show Kd.M Kd.bool _ _ _ ((Go.bits .and .u8 ((rd_T35 l0 x7_1).f2) 1) == 1) [.bool ((Go.bits .and .u8 ((rd_T35 l0 x7_1).f2) 1) == 1)] from rfl) (Reps.none _ _)))
                   intro v158 w22 ho23 hb hg_ hnew_
                   clear hg_ hnew_
                   (first | rw [← Ny157.out] at ho23 | (simp only [Int.reduceToNat] at ho23; rw [← Ny157.out] at ho23))
                   have n0_ := Aside0.mk (Kd.R_below (by (with_reducible repeat (first | apply r1 | apply r2 | apply r3)); exact HO_3.out) hb)
                   have n1_ := Aside0.mk (Kd.R_below (by (with_reducible repeat (first | apply r1 | apply r2 | apply r3)); exact HO_4.out) hb)
                   have n2_ := Aside0.mk (Kd.R_below (by (with_reducible repeat (first | apply r1 | apply r2 | apply r3)); exact HO_5.out) hb)
                   have n3_ := Aside0.mk (Kd.R_elder' (by (with_reducible repeat (first | apply r1 | apply r2 | apply r3)); exact HO_6.out) (Kd.R_base ho23) hb)
                   have n4_ := Aside0.mk (Kd.R_below (by (with_reducible repeat (first | apply r1 | apply r2 | apply r3)); exact HO145.out) hb)
                   have n5_ := Aside0.mk (Kd.R_below (by (with_reducible repeat (first | apply r1 | apply r2 | apply r3)); exact HO152.out) hb)
                   have n6_ := Aside0.mk (Kd.R_lower (Kd.R_new' ho23 (Kd.R_lt (by (with_reducible repeat (first | apply r1 | apply r2 | apply r3)); exact HO_6.out))) (below_size (by repeat (first | (with_reducible first | exact HB.out | apply b1 | apply b2 | apply b3) | exact HB.out))))
                   have n7_ := Aside0.mk (below_step (by repeat (first | (with_reducible first | exact HB.out | apply b1 | apply b2 | apply b3) | exact HB.out)) hb)
                   clear HO_3
                   clear HO_4
                   clear HO_5
                   clear HO_6
                   clear HO145
                   clear HO152
                   clear HB
                   have HO_3 := n0_
                   have HO_4 := n1_
                   have HO_5 := n2_
                   have HO_6 := n3_
                   have HO145 := n4_
                   have HO152 := n5_
                   have HO159 := n6_
                   have HB := n7_
                   clear n0_ n1_ n2_ n3_ n4_ n5_ n6_ n7_
                   clear hb ho23
                   refine hK.out _ _ ⟨(cl_ HB.out hw142_0), (cl_ HB.out hw142_1), (cl_ HB.out hw142_2), (cl_ HB.out hw149_0), (cl_ HB.out hw149_1), (cl_ HB.out hw149_2), (cl_ HB.out hw156_0), (cl_ HB.out hw156_1), (cl_ HB.out hw156_2)⟩ (fun hHeld => ?_)
                   clear hK K
                   refine norm_ (a' := ?_) ?_ ?_
                   rotate_left
                   ·
                    show Act.put _ (some 51) _ = _
                    simp only [Act.put, p1, p2, p3, i64_w, i32_w]
                    rfl
                   exact norm_ (by simp only [putAll, Act.put, p1, p2, p3]; try rfl) (hJ7_16_26 (.slice Ao23 y143.length co23, v151, v158) _ ⟨hHeld, (by (with_reducible repeat (first | apply r1 | apply r2 | apply r3)); exact HO145.out), (by (with_reducible repeat (first | apply r1 | apply r2 | apply r3)); exact HO152.out), (by (with_reducible repeat (first | apply r1 | apply r2 | apply r3)); exact Kd.R_mono HO159.out (fun _ hk => hk.2)), (by (with_reducible repeat (first | apply r1 | apply r2 | apply r3)); exact HO_3.out), (by (with_reducible repeat (first | apply r1 | apply r2 | apply r3)); exact HO_4.out), (by (with_reducible repeat (first | apply r1 | apply r2 | apply r3)); exact HO_5.out), (by (with_reducible repeat (first | apply r1 | apply r2 | apply r3)); exact Kd.R_mono HO_6.out (fun _ hk => hk.2)), (by repeat (first | (with_reducible first | exact HB.out | apply b1 | apply b2 | apply b3) | exact HB.out))⟩)
                ·
                 skip
                 rintro ⟨v144, v147⟩ w21 ⟨hS_, h0_, h1_, h2_, h3_, h4_, h5_⟩
                 have n0_ : Aside0 (Kd.R (Kd.int .i64) 3 w21 w.heap.size (fun k_ => some k_ ≠ (v147 : Value).ownBlock ∧ some k_ ≠ (.slice Ao14 x4_1.length co14 : Value).ownBlock ∧ some k_ ≠ (u5 : Value).ownBlock) v144 y143) := ⟨h0_⟩
                 have n1_ : Aside0 (Kd.R (Kd.int .i64) 3 w21 w.heap.size (fun k_ => some k_ ≠ (v144 : Value).ownBlock ∧ some k_ ≠ (.slice Ao14 x4_1.length co14 : Value).ownBlock ∧ some k_ ≠ (u5 : Value).ownBlock) v147 y146) := ⟨h1_⟩
                 have n2_ : Aside0 (Kd.R (Kd.int .i64) 3 w21 w.heap.size (fun k_ => some k_ ≠ (v144 : Value).ownBlock ∧ some k_ ≠ (v147 : Value).ownBlock ∧ some k_ ≠ (u5 : Value).ownBlock) (.slice Ao14 x4_1.length co14) x4_1) := ⟨h2_⟩
                 have n3_ : Aside0 (Kd.R (Kd.int .i64) 3 w21 w.heap.size (fun k_ => some k_ ≠ (v144 : Value).ownBlock ∧ some k_ ≠ (v147 : Value).ownBlock ∧ some k_ ≠ (.slice Ao14 x4_1.length co14 : Value).ownBlock) u5 x5_1) := ⟨h3_⟩
                 have n4_ : Aside0 (Kd.R Kd.bool 4 w21 w.heap.size (fun _ => True) (.slice Ao15 x6_1.length co15) x6_1) := ⟨h4_⟩
                 have n5_ : Aside0 (Below w.heap.size w w21) := ⟨h5_⟩
                 clear HO_3
                 clear HO_4
                 clear HO_5
                 clear HO_6
                 clear HB
                 clear h0_ h1_ h2_ h3_ h4_ h5_
                 have HO145 := n0_
                 have HO148 := n1_
                 have HO_4 := n2_
                 have HO_5 := n3_
                 have HO_6 := n4_
                 have HB := n5_
                 clear n0_ n1_ n2_ n3_ n4_ n5_
                 have hHeld : w21.cell? (ad142.add ((x7_1).toNat * 3)) = some (.int .u8 ((rd_T35 l0 x7_1).f0)) ∧ w21.cell? ⟨(ad142.add ((x7_1).toNat * 3)).block, (ad142.add ((x7_1).toNat * 3)).off + 1, none⟩ = some (.int .u8 ((rd_T35 l0 x7_1).f1)) ∧ w21.cell? ⟨(ad142.add ((x7_1).toNat * 3)).block, (ad142.add ((x7_1).toNat * 3)).off + 2, none⟩ = some (.int .u8 ((rd_T35 l0 x7_1).f2)) ∧ w21.cell? (ad142.add ((x7_1).toNat * 3)) = some (.int .u8 ((rd_T35 l0 x7_1).f0)) ∧ w21.cell? ⟨(ad142.add ((x7_1).toNat * 3)).block, (ad142.add ((x7_1).toNat * 3)).off + 1, none⟩ = some (.int .u8 ((rd_T35 l0 x7_1).f1)) ∧ w21.cell? ⟨(ad142.add ((x7_1).toNat * 3)).block, (ad142.add ((x7_1).toNat * 3)).off + 2, none⟩ = some (.int .u8 ((rd_T35 l0 x7_1).f2)) ∧ w21.cell? (ad142.add ((x7_1).toNat * 3)) = some (.int .u8 ((rd_T35 l0 x7_1).f0)) ∧ w21.cell? ⟨(ad142.add ((x7_1).toNat * 3)).block, (ad142.add ((x7_1).toNat * 3)).off + 1, none⟩ = some (.int .u8 ((rd_T35 l0 x7_1).f1)) ∧ w21.cell? ⟨(ad142.add ((x7_1).toNat * 3)).block, (ad142.add ((x7_1).toNat * 3)).off + 2, none⟩ = some (.int .u8 ((rd_T35 l0 x7_1).f2)) := hS_
                 refine norm_ (a' := ?_) ?_ ?_
                 rotate_left
                 ·
                  simp only [putAll, Act.put, p1, p2, p3]
                  rfl
                 refine two_ (i := 16) (j := 26) (Ni := some 41) (Nj := some 51) WearVictims.q3 WearVictims.q4 rfl rfl rfl rfl (two_of HT_.out (by kernel_rfl)) (by decide) (by decide) (fun K hK => ?_) (fun K hK => ?_)
                 ·
                  skip
                  refine Kd.R_lit_step (Kd.int .i64) _ 3 ?hg (N := 41) ?hd (xs := ([wrap64 ((rd_T35 l0 x7_1).f1)] : List Int)) (inner := [.int .i64 (wrap64 ((rd_T35 l0 x7_1).f1))]) (ok := fun _ => True) (okp := fun _ => True) ?hr ?hp (fun _ hk => hk) trivial (Below.refl _ _) (Nat.le_refl _) (by simp) ?_; (case hd => rfl); (case hg => rfl); (case hr => first | (go_simp; done) | (go_simp; rfl)); (case hp => exact (Reps.one (show Kd.M (Kd.int .i64) _ _ _ (wrap64 ((rd_T35 l0 x7_1).f1)) [.int .i64 (wrap64 ((rd_T35 l0 x7_1).f1))] from rfl) (Reps.none _ _)))
                  intro v151 w22 ho23 hb hg_ hnew_
                  clear hg_ hnew_
                  (first | rw [← Ny150.out] at ho23 | (simp only [Int.reduceToNat] at ho23; rw [← Ny150.out] at ho23))
                  have n0_ := Aside0.mk (Kd.R_elder' (by (with_reducible repeat (first | apply r1 | apply r2 | apply r3)); exact HO_4.out) (Kd.R_base ho23) hb)
                  have n1_ := Aside0.mk (Kd.R_elder' (by (with_reducible repeat (first | apply r1 | apply r2 | apply r3)); exact HO_5.out) (Kd.R_base ho23) hb)
                  have n2_ := Aside0.mk (Kd.R_below (by (with_reducible repeat (first | apply r1 | apply r2 | apply r3)); exact HO_6.out) hb)
                  have n3_ := Aside0.mk (Kd.R_elder' (by (with_reducible repeat (first | apply r1 | apply r2 | apply r3)); exact HO145.out) (Kd.R_base ho23) hb)
                  have n4_ := Aside0.mk (Kd.R_elder' (by (with_reducible repeat (first | apply r1 | apply r2 | apply r3)); exact HO148.out) (Kd.R_base ho23) hb)
                  have n5_ := Aside0.mk (Kd.R_lower (Kd.R_new' (Kd.R_new' (Kd.R_new' (Kd.R_new' ho23 (Kd.R_lt (by (with_reducible repeat (first | apply r1 | apply r2 | apply r3)); exact HO_4.out))) (Kd.R_lt (by (with_reducible repeat (first | apply r1 | apply r2 | apply r3)); exact HO_5.out))) (Kd.R_lt (by (with_reducible repeat (first | apply r1 | apply r2 | apply r3)); exact HO145.out))) (Kd.R_lt (by (with_reducible repeat (first | apply r1 | apply r2 | apply r3)); exact HO148.out))) (below_size (by repeat (first | (with_reducible first | exact HB.out | apply b1 | apply b2 | apply b3) | exact HB.out))))
                  have n6_ := Aside0.mk (below_step (by repeat (first | (with_reducible first | exact HB.out | apply b1 | apply b2 | apply b3) | exact HB.out)) hb)
                  clear HO_4
                  clear HO_5
                  clear HO_6
                  clear HO145
                  clear HO148
                  clear HB
                  have HO_4 := n0_
                  have HO_5 := n1_
                  have HO_6 := n2_
                  have HO145 := n3_
                  have HO148 := n4_
                  have HO152 := n5_
                  have HB := n6_
                  clear n0_ n1_ n2_ n3_ n4_ n5_ n6_
                  clear hb ho23
                  refine hK.out _ _ ⟨(cl_ HB.out hw142_0), (cl_ HB.out hw142_1), (cl_ HB.out hw142_2), (cl_ HB.out hw149_0), (cl_ HB.out hw149_1), (cl_ HB.out hw149_2), (cl_ HB.out hw156_0), (cl_ HB.out hw156_1), (cl_ HB.out hw156_2)⟩ (fun hHeld => ?_)
                  clear hK K
                  refine norm_ (a' := ?_) ?_ ?_
                  rotate_left
                  ·
                   show Act.put _ (some 41) _ = _
                   simp only [Act.put, p1, p2, p3, i64_w, i32_w]
                   rfl
                  exact norm_ (by simp only [putAll, Act.put, p1, p2, p3]; try rfl) (hJ7_8_16 (v144, v147, v151) _ ⟨hHeld, (by (with_reducible repeat (first | apply r1 | apply r2 | apply r3)); exact Kd.R_mono HO145.out (fun _ hk => ⟨hk.1.1, ⟨hk.2, ⟨hk.1.2.1, hk.1.2.2⟩⟩⟩)), (by (with_reducible repeat (first | apply r1 | apply r2 | apply r3)); exact Kd.R_mono HO148.out (fun _ hk => ⟨hk.1.1, ⟨hk.2, ⟨hk.1.2.1, hk.1.2.2⟩⟩⟩)), (by (with_reducible repeat (first | apply r1 | apply r2 | apply r3)); exact Kd.R_mono HO152.out (fun _ hk => ⟨hk.1.2, ⟨hk.2, ⟨hk.1.1.1.2, hk.1.1.2⟩⟩⟩)), (by (with_reducible repeat (first | apply r1 | apply r2 | apply r3)); exact Kd.R_mono HO_4.out (fun _ hk => ⟨hk.1.1, ⟨hk.1.2.1, ⟨hk.2, hk.1.2.2⟩⟩⟩)), (by (with_reducible repeat (first | apply r1 | apply r2 | apply r3)); exact Kd.R_mono HO_5.out (fun _ hk => ⟨hk.1.1, ⟨hk.1.2.1, ⟨hk.2, hk.1.2.2⟩⟩⟩)), (by (with_reducible repeat (first | apply r1 | apply r2 | apply r3)); exact HO_6.out), (by repeat (first | (with_reducible first | exact HB.out | apply b1 | apply b2 | apply b3) | exact HB.out))⟩)
                 ·
                  skip
                  refine Kd.R_lit_step Kd.bool _ 4 ?hg (N := 51) ?hd (xs := ([((Go.bits .and .u8 ((rd_T35 l0 x7_1).f2) 1) == 1)] : List Bool)) (inner := [.bool ((Go.bits .and .u8 ((rd_T35 l0 x7_1).f2) 1) == 1)]) (ok := fun _ => True) (okp := fun _ => True) ?hr ?hp (fun _ hk => hk) trivial (Below.refl _ _) (Nat.le_refl _) (by simp) ?_; (case hd => rfl); (case hg => rfl); (case hr => first | (go_simp; done) | (go_simp; rfl)); (case hp => exact (Reps.one (show Kd.M Kd.bool _ _ _ ((Go.bits .and .u8 ((rd_T35 l0 x7_1).f2) 1) == 1) [.bool ((Go.bits .and .u8 ((rd_T35 l0 x7_1).f2) 1) == 1)] from rfl) (Reps.none _ _)))
                  intro v158 w22 ho23 hb hg_ hnew_
                  clear hg_ hnew_
                  (first | rw [← Ny157.out] at ho23 | (simp only [Int.reduceToNat] at ho23; rw [← Ny157.out] at ho23))
                  have n0_ := Aside0.mk (Kd.R_below (by (with_reducible repeat (first | apply r1 | apply r2 | apply r3)); exact HO_4.out) hb)
                  have n1_ := Aside0.mk (Kd.R_below (by (with_reducible repeat (first | apply r1 | apply r2 | apply r3)); exact HO_5.out) hb)
                  have n2_ := Aside0.mk (Kd.R_elder' (by (with_reducible repeat (first | apply r1 | apply r2 | apply r3)); exact HO_6.out) (Kd.R_base ho23) hb)
                  have n3_ := Aside0.mk (Kd.R_below (by (with_reducible repeat (first | apply r1 | apply r2 | apply r3)); exact HO145.out) hb)
                  have n4_ := Aside0.mk (Kd.R_below (by (with_reducible repeat (first | apply r1 | apply r2 | apply r3)); exact HO148.out) hb)
                  have n5_ := Aside0.mk (Kd.R_lower (Kd.R_new' ho23 (Kd.R_lt (by (with_reducible repeat (first | apply r1 | apply r2 | apply r3)); exact HO_6.out))) (below_size (by repeat (first | (with_reducible first | exact HB.out | apply b1 | apply b2 | apply b3) | exact HB.out))))
                  have n6_ := Aside0.mk (below_step (by repeat (first | (with_reducible first | exact HB.out | apply b1 | apply b2 | apply b3) | exact HB.out)) hb)
                  clear HO_4
                  clear HO_5
                  clear HO_6
                  clear HO145
                  clear HO148
                  clear HB
                  have HO_4 := n0_
                  have HO_5 := n1_
                  have HO_6 := n2_
                  have HO145 := n3_
                  have HO148 := n4_
                  have HO159 := n5_
                  have HB := n6_
                  clear n0_ n1_ n2_ n3_ n4_ n5_ n6_
                  clear hb ho23
                  refine hK.out _ _ ⟨(cl_ HB.out hw142_0), (cl_ HB.out hw142_1), (cl_ HB.out hw142_2), (cl_ HB.out hw149_0), (cl_ HB.out hw149_1), (cl_ HB.out hw149_2), (cl_ HB.out hw156_0), (cl_ HB.out hw156_1), (cl_ HB.out hw156_2)⟩ (fun hHeld => ?_)
                  clear hK K
                  refine norm_ (a' := ?_) ?_ ?_
                  rotate_left
                  ·
                   show Act.put _ (some 51) _ = _
                   simp only [Act.put, p1, p2, p3, i64_w, i32_w]
                   rfl
                  exact norm_ (by simp only [putAll, Act.put, p1, p2, p3]; try rfl) (hJ7_8_26 (v144, v147, v158) _ ⟨hHeld, (by (with_reducible repeat (first | apply r1 | apply r2 | apply r3)); exact HO145.out), (by (with_reducible repeat (first | apply r1 | apply r2 | apply r3)); exact HO148.out), (by (with_reducible repeat (first | apply r1 | apply r2 | apply r3)); exact Kd.R_mono HO159.out (fun _ hk => hk.2)), (by (with_reducible repeat (first | apply r1 | apply r2 | apply r3)); exact HO_4.out), (by (with_reducible repeat (first | apply r1 | apply r2 | apply r3)); exact HO_5.out), (by (with_reducible repeat (first | apply r1 | apply r2 | apply r3)); exact Kd.R_mono HO_6.out (fun _ hk => hk.2)), (by repeat (first | (with_reducible first | exact HB.out | apply b1 | apply b2 | apply b3) | exact HB.out))⟩)
               ·
                skip
                rintro ⟨v144, v151, v158⟩ w23 ⟨hS_, h0_, h1_, h2_, h3_, h4_, h5_, h6_, h7_⟩
                have n0_ : Aside0 (Kd.R (Kd.int .i64) 3 w23 w.heap.size (fun k_ => some k_ ≠ (v151 : Value).ownBlock ∧ some k_ ≠ (.slice Ao13 x3_1.length co13 : Value).ownBlock ∧ some k_ ≠ (.slice Ao14 x4_1.length co14 : Value).ownBlock ∧ some k_ ≠ (u5 : Value).ownBlock) v144 y143) := ⟨h0_⟩
                have n1_ : Aside0 (Kd.R (Kd.int .i64) 3 w23 w.heap.size (fun k_ => some k_ ≠ (v144 : Value).ownBlock ∧ some k_ ≠ (.slice Ao13 x3_1.length co13 : Value).ownBlock ∧ some k_ ≠ (.slice Ao14 x4_1.length co14 : Value).ownBlock ∧ some k_ ≠ (u5 : Value).ownBlock) v151 y150) := ⟨h1_⟩
                have n2_ : Aside0 (Kd.R Kd.bool 4 w23 w.heap.size (fun k_ => some k_ ≠ (.slice Ao15 x6_1.length co15 : Value).ownBlock) v158 y157) := ⟨h2_⟩
                have n3_ : Aside0 (Kd.R (Kd.int .i64) 3 w23 w.heap.size (fun k_ => some k_ ≠ (v144 : Value).ownBlock ∧ some k_ ≠ (v151 : Value).ownBlock ∧ some k_ ≠ (.slice Ao14 x4_1.length co14 : Value).ownBlock ∧ some k_ ≠ (u5 : Value).ownBlock) (.slice Ao13 x3_1.length co13) x3_1) := ⟨h3_⟩
                have n4_ : Aside0 (Kd.R (Kd.int .i64) 3 w23 w.heap.size (fun k_ => some k_ ≠ (v144 : Value).ownBlock ∧ some k_ ≠ (v151 : Value).ownBlock ∧ some k_ ≠ (.slice Ao13 x3_1.length co13 : Value).ownBlock ∧ some k_ ≠ (u5 : Value).ownBlock) (.slice Ao14 x4_1.length co14) x4_1) := ⟨h4_⟩
                have n5_ : Aside0 (Kd.R (Kd.int .i64) 3 w23 w.heap.size (fun k_ => some k_ ≠ (v144 : Value).ownBlock ∧ some k_ ≠ (v151 : Value).ownBlock ∧ some k_ ≠ (.slice Ao13 x3_1.length co13 : Value).ownBlock ∧ some k_ ≠ (.slice Ao14 x4_1.length co14 : Value).ownBlock) u5 x5_1) := ⟨h5_⟩
                have n6_ : Aside0 (Kd.R Kd.bool 4 w23 w.heap.size (fun k_ => some k_ ≠ (v158 : Value).ownBlock) (.slice Ao15 x6_1.length co15) x6_1) := ⟨h6_⟩
                have n7_ : Aside0 (Below w.heap.size w w23) := ⟨h7_⟩
                clear HO_3
                clear HO_4
                clear HO_5
                clear HO_6
                clear HB
                clear h0_ h1_ h2_ h3_ h4_ h5_ h6_ h7_
                have HO145 := n0_
                have HO152 := n1_
                have HO159 := n2_
                have HO_3 := n3_
                have HO_4 := n4_
                have HO_5 := n5_
                have HO_6 := n6_
                have HB := n7_
                clear n0_ n1_ n2_ n3_ n4_ n5_ n6_ n7_
                have hHeld : w23.cell? (ad142.add ((x7_1).toNat * 3)) = some (.int .u8 ((rd_T35 l0 x7_1).f0)) ∧ w23.cell? ⟨(ad142.add ((x7_1).toNat * 3)).block, (ad142.add ((x7_1).toNat * 3)).off + 1, none⟩ = some (.int .u8 ((rd_T35 l0 x7_1).f1)) ∧ w23.cell? ⟨(ad142.add ((x7_1).toNat * 3)).block, (ad142.add ((x7_1).toNat * 3)).off + 2, none⟩ = some (.int .u8 ((rd_T35 l0 x7_1).f2)) ∧ w23.cell? (ad142.add ((x7_1).toNat * 3)) = some (.int .u8 ((rd_T35 l0 x7_1).f0)) ∧ w23.cell? ⟨(ad142.add ((x7_1).toNat * 3)).block, (ad142.add ((x7_1).toNat * 3)).off + 1, none⟩ = some (.int .u8 ((rd_T35 l0 x7_1).f1)) ∧ w23.cell? ⟨(ad142.add ((x7_1).toNat * 3)).block, (ad142.add ((x7_1).toNat * 3)).off + 2, none⟩ = some (.int .u8 ((rd_T35 l0 x7_1).f2)) ∧ w23.cell? (ad142.add ((x7_1).toNat * 3)) = some (.int .u8 ((rd_T35 l0 x7_1).f0)) ∧ w23.cell? ⟨(ad142.add ((x7_1).toNat * 3)).block, (ad142.add ((x7_1).toNat * 3)).off + 1, none⟩ = some (.int .u8 ((rd_T35 l0 x7_1).f1)) ∧ w23.cell? ⟨(ad142.add ((x7_1).toNat * 3)).block, (ad142.add ((x7_1).toNat * 3)).off + 2, none⟩ = some (.int .u8 ((rd_T35 l0 x7_1).f2)) := hS_
                obtain ⟨Ao25, co25, eo25⟩ := Kd.R_slice HO145.out
                (first | subst eo25 | (injection eo25 with f1_ f2_ f3_; have f4_ := f1_.symm; have f5_ := f3_.symm; clear f1_ f2_ f3_; subst f4_; subst f5_))
                refine norm_ (a' := ?_) ?_ ?_
                rotate_left
                ·
                 simp only [putAll, Act.put, p1, p2, p3]
                 rfl
                refine one_ (i := 8) (N := some 33) WearVictims.q2 rfl rfl (one_of HT_.out (by kernel_rfl)) (by decide) (fun K hK => ?_)
                refine Kd.R_append_rows_step (Kd.int .i64) (w0 := w) w.heap.size (by rfl) (.tmp 25) (.tmp 32) 23 3 (.int .i64 0) 8 rfl Try.underlying23 info3 rfl (by decide) (by omega) (.slice Ao13 x3_1.length co13) x3_1 y143 _ _ _ (fun k_ => some k_ ≠ (.slice Ao14 x4_1.length co14 : Value).ownBlock ∧ some k_ ≠ (u5 : Value).ownBlock ∧ some k_ ≠ (.slice Ao25 y143.length co25 : Value).ownBlock ∧ some k_ ≠ (v151 : Value).ownBlock) (fun _ => False) rfl rfl ?aO ?aR (fun _ _ h => h) (fun _ h => h.elim) ?aF ?aB ?aS ?aL ?_
                (case aR => repeat (first | exact (Kd.R_reads' HO145.out).2.2 | (with_reducible refine Kd.C_alloc ?_ _) | (with_reducible refine Kd.C_drewN ?_ _) | (with_reducible refine Kd.C_drew ?_)))
                (case aB => exact (by repeat (first | (with_reducible first | exact HB.out | apply b1 | apply b2 | apply b3) | exact HB.out)))
                (case aF => exact (fun k_ hk => ⟨Kd.fresh' (Kd.R_lt (by (with_reducible repeat (first | apply r1 | apply r2 | apply r3)); exact HO_4.out)) k_ hk, Kd.fresh' (Kd.R_lt (by (with_reducible repeat (first | apply r1 | apply r2 | apply r3)); exact HO_5.out)) k_ hk, Kd.fresh' (Kd.R_lt (by (with_reducible repeat (first | apply r1 | apply r2 | apply r3)); exact HO145.out)) k_ hk, Kd.fresh' (Kd.R_lt (by (with_reducible repeat (first | apply r1 | apply r2 | apply r3)); exact HO152.out)) k_ hk⟩))
                (case aO => exact (by (with_reducible repeat (first | apply r1 | apply r2 | apply r3)); exact Kd.R_mono HO_3.out (fun _ hk => ⟨hk.2.2.1, ⟨hk.2.2.2, ⟨hk.1, hk.2.1⟩⟩⟩)))
                (case aS => exact (below_size (by repeat (first | (with_reducible first | exact HB.out | apply b1 | apply b2 | apply b3) | exact HB.out))))
                (case aL => have := LMc9.out; omega)
                intro v147 w24 ho hb hg hat
                rw [← Ny146.out] at ho
                have n0_ := Aside0.mk (Kd.R_after (ok := (fun k_ => some k_ ≠ (u5 : Value).ownBlock ∧ some k_ ≠ (.slice Ao25 y143.length co25 : Value).ownBlock ∧ some k_ ≠ (v151 : Value).ownBlock)) (by (with_reducible repeat (first | apply r1 | apply r2 | apply r3)); exact Kd.R_mono HO_4.out (fun _ hk => ⟨⟨hk.2.2.2, ⟨hk.1, hk.2.1⟩⟩, hk.2.2.1⟩)) hg hat)
                have n1_ := Aside0.mk (Kd.R_after (ok := (fun k_ => some k_ ≠ (.slice Ao14 x4_1.length co14 : Value).ownBlock ∧ some k_ ≠ (.slice Ao25 y143.length co25 : Value).ownBlock ∧ some k_ ≠ (v151 : Value).ownBlock)) (by (with_reducible repeat (first | apply r1 | apply r2 | apply r3)); exact Kd.R_mono HO_5.out (fun _ hk => ⟨⟨hk.2.2.2, ⟨hk.1, hk.2.1⟩⟩, hk.2.2.1⟩)) hg hat)
                have n2_ := Aside0.mk (Kd.R_over' (by (with_reducible repeat (first | apply r1 | apply r2 | apply r3)); exact HO_6.out) (Kd.R_typed (by (with_reducible repeat (first | apply r1 | apply r2 | apply r3)); exact HO_3.out)) (by decide) hg)
                have n3_ := Aside0.mk (Kd.R_after (ok := (fun k_ => some k_ ≠ (.slice Ao14 x4_1.length co14 : Value).ownBlock ∧ some k_ ≠ (u5 : Value).ownBlock ∧ some k_ ≠ (v151 : Value).ownBlock)) (by (with_reducible repeat (first | apply r1 | apply r2 | apply r3)); exact Kd.R_mono HO145.out (fun _ hk => ⟨⟨hk.2.2.1, ⟨hk.2.2.2, hk.1⟩⟩, hk.2.1⟩)) hg hat)
                have n4_ := Aside0.mk (Kd.R_after (ok := (fun k_ => some k_ ≠ (.slice Ao14 x4_1.length co14 : Value).ownBlock ∧ some k_ ≠ (u5 : Value).ownBlock ∧ some k_ ≠ (.slice Ao25 y143.length co25 : Value).ownBlock)) (by (with_reducible repeat (first | apply r1 | apply r2 | apply r3)); exact Kd.R_mono HO152.out (fun _ hk => ⟨⟨hk.2.2.1, ⟨hk.2.2.2, hk.1⟩⟩, hk.2.1⟩)) hg hat)
                have n5_ := Aside0.mk (Kd.R_over' (by (with_reducible repeat (first | apply r1 | apply r2 | apply r3)); exact HO159.out) (Kd.R_typed (by (with_reducible repeat (first | apply r1 | apply r2 | apply r3)); exact HO_3.out)) (by decide) hg)
                have n6_ := Aside0.mk (hb)
                have n7_ := Aside0.mk (ho)
                clear HO_4
                clear HO_5
                clear HO_6
                clear HO145
                clear HO152
                clear HO159
                clear HB
                clear HO_3
                have HO_4 := n0_
                have HO_5 := n1_
                have HO_6 := n2_
                have HO145 := n3_
                have HO152 := n4_
                have HO159 := n5_
                have HB := n6_
                have HO148 := n7_
                clear n0_ n1_ n2_ n3_ n4_ n5_ n6_ n7_
                clear ho hb hg hat
                refine hK.out _ _ ⟨(cl_ HB.out hw142_0), (cl_ HB.out hw142_1), (cl_ HB.out hw142_2), (cl_ HB.out hw149_0), (cl_ HB.out hw149_1), (cl_ HB.out hw149_2), (cl_ HB.out hw156_0), (cl_ HB.out hw156_1), (cl_ HB.out hw156_2)⟩ (fun hHeld => ?_)
                clear hK K
                refine norm_ (a' := ?_) ?_ ?_
                rotate_left
                ·
                 show Act.put _ (some 33) _ = _
                 simp only [Act.put, p1, p2, p3, i64_w, i32_w]
                 rfl
                exact norm_ (by simp only [putAll, Act.put, p1, p2, p3]; try rfl) (hJ7_8_16_26 (.slice Ao25 y143.length co25, v147, v151, v158) _ ⟨hHeld, (by (with_reducible repeat (first | apply r1 | apply r2 | apply r3)); exact Kd.R_mono HO145.out (fun _ hk => ⟨hk.2, ⟨hk.1.2.2, ⟨hk.1.1, hk.1.2.1⟩⟩⟩)), (by (with_reducible repeat (first | apply r1 | apply r2 | apply r3)); exact Kd.R_mono HO148.out (fun _ hk => ⟨hk.2.2.1, ⟨hk.2.2.2, ⟨hk.1, hk.2.1⟩⟩⟩)), (by (with_reducible repeat (first | apply r1 | apply r2 | apply r3)); exact Kd.R_mono HO152.out (fun _ hk => ⟨hk.1.2.2, ⟨hk.2, ⟨hk.1.1, hk.1.2.1⟩⟩⟩)), (by (with_reducible repeat (first | apply r1 | apply r2 | apply r3)); exact HO159.out), (by (with_reducible repeat (first | apply r1 | apply r2 | apply r3)); exact Kd.R_mono HO_4.out (fun _ hk => ⟨hk.1.2.1, ⟨hk.2, ⟨hk.1.2.2, hk.1.1⟩⟩⟩)), (by (with_reducible repeat (first | apply r1 | apply r2 | apply r3)); exact Kd.R_mono HO_5.out (fun _ hk => ⟨hk.1.2.1, ⟨hk.2, ⟨hk.1.2.2, hk.1.1⟩⟩⟩)), (by (with_reducible repeat (first | apply r1 | apply r2 | apply r3)); exact HO_6.out), (by repeat (first | (with_reducible first | exact HB.out | apply b1 | apply b2 | apply b3) | exact HB.out))⟩)
              ·
               skip
               rintro ⟨v144, v147, v158⟩ w23 ⟨hS_, h0_, h1_, h2_, h3_, h4_, h5_, h6_⟩
               have n0_ : Aside0 (Kd.R (Kd.int .i64) 3 w23 w.heap.size (fun k_ => some k_ ≠ (v147 : Value).ownBlock ∧ some k_ ≠ (.slice Ao14 x4_1.length co14 : Value).ownBlock ∧ some k_ ≠ (u5 : Value).ownBlock) v144 y143) := ⟨h0_⟩
               have n1_ : Aside0 (Kd.R (Kd.int .i64) 3 w23 w.heap.size (fun k_ => some k_ ≠ (v144 : Value).ownBlock ∧ some k_ ≠ (.slice Ao14 x4_1.length co14 : Value).ownBlock ∧ some k_ ≠ (u5 : Value).ownBlock) v147 y146) := ⟨h1_⟩
               have n2_ : Aside0 (Kd.R Kd.bool 4 w23 w.heap.size (fun k_ => some k_ ≠ (.slice Ao15 x6_1.length co15 : Value).ownBlock) v158 y157) := ⟨h2_⟩
               have n3_ : Aside0 (Kd.R (Kd.int .i64) 3 w23 w.heap.size (fun k_ => some k_ ≠ (v144 : Value).ownBlock ∧ some k_ ≠ (v147 : Value).ownBlock ∧ some k_ ≠ (u5 : Value).ownBlock) (.slice Ao14 x4_1.length co14) x4_1) := ⟨h3_⟩
               have n4_ : Aside0 (Kd.R (Kd.int .i64) 3 w23 w.heap.size (fun k_ => some k_ ≠ (v144 : Value).ownBlock ∧ some k_ ≠ (v147 : Value).ownBlock ∧ some k_ ≠ (.slice Ao14 x4_1.length co14 : Value).ownBlock) u5 x5_1) := ⟨h4_⟩
               have n5_ : Aside0 (Kd.R Kd.bool 4 w23 w.heap.size (fun k_ => some k_ ≠ (v158 : Value).ownBlock) (.slice Ao15 x6_1.length co15) x6_1) := ⟨h5_⟩
               have n6_ : Aside0 (Below w.heap.size w w23) := ⟨h6_⟩
               clear HO_3
               clear HO_4
               clear HO_5
               clear HO_6
               clear HB
               clear h0_ h1_ h2_ h3_ h4_ h5_ h6_
               have HO145 := n0_
               have HO148 := n1_
               have HO159 := n2_
               have HO_4 := n3_
               have HO_5 := n4_
               have HO_6 := n5_
               have HB := n6_
               clear n0_ n1_ n2_ n3_ n4_ n5_ n6_
               have hHeld : w23.cell? (ad142.add ((x7_1).toNat * 3)) = some (.int .u8 ((rd_T35 l0 x7_1).f0)) ∧ w23.cell? ⟨(ad142.add ((x7_1).toNat * 3)).block, (ad142.add ((x7_1).toNat * 3)).off + 1, none⟩ = some (.int .u8 ((rd_T35 l0 x7_1).f1)) ∧ w23.cell? ⟨(ad142.add ((x7_1).toNat * 3)).block, (ad142.add ((x7_1).toNat * 3)).off + 2, none⟩ = some (.int .u8 ((rd_T35 l0 x7_1).f2)) ∧ w23.cell? (ad142.add ((x7_1).toNat * 3)) = some (.int .u8 ((rd_T35 l0 x7_1).f0)) ∧ w23.cell? ⟨(ad142.add ((x7_1).toNat * 3)).block, (ad142.add ((x7_1).toNat * 3)).off + 1, none⟩ = some (.int .u8 ((rd_T35 l0 x7_1).f1)) ∧ w23.cell? ⟨(ad142.add ((x7_1).toNat * 3)).block, (ad142.add ((x7_1).toNat * 3)).off + 2, none⟩ = some (.int .u8 ((rd_T35 l0 x7_1).f2)) ∧ w23.cell? (ad142.add ((x7_1).toNat * 3)) = some (.int .u8 ((rd_T35 l0 x7_1).f0)) ∧ w23.cell? ⟨(ad142.add ((x7_1).toNat * 3)).block, (ad142.add ((x7_1).toNat * 3)).off + 1, none⟩ = some (.int .u8 ((rd_T35 l0 x7_1).f1)) ∧ w23.cell? ⟨(ad142.add ((x7_1).toNat * 3)).block, (ad142.add ((x7_1).toNat * 3)).off + 2, none⟩ = some (.int .u8 ((rd_T35 l0 x7_1).f2)) := hS_
               refine norm_ (a' := ?_) ?_ ?_
               rotate_left
               ·
                simp only [putAll, Act.put, p1, p2, p3]
                rfl
               refine one_ (i := 16) (N := some 41) WearVictims.q2 rfl rfl (one_of HT_.out (by kernel_rfl)) (by decide) (fun K hK => ?_)
               refine Kd.R_lit_step (Kd.int .i64) _ 3 ?hg (N := 41) ?hd (xs := ([wrap64 ((rd_T35 l0 x7_1).f1)] : List Int)) (inner := [.int .i64 (wrap64 ((rd_T35 l0 x7_1).f1))]) (ok := fun _ => True) (okp := fun _ => True) ?hr ?hp (fun _ hk => hk) trivial (Below.refl _ _) (Nat.le_refl _) (by simp) ?_; (case hd => rfl); (case hg => rfl); (case hr => first | (go_simp; done) | (go_simp; rfl)); (case hp => exact (Reps.one (show Kd.M (Kd.int .i64) _ _ _ (wrap64 ((rd_T35 l0 x7_1).f1)) [.int .i64 (wrap64 ((rd_T35 l0 x7_1).f1))] from rfl) (Reps.none _ _)))
               intro v151 w24 ho25 hb hg_ hnew_
               clear hg_ hnew_
               (first | rw [← Ny150.out] at ho25 | (simp only [Int.reduceToNat] at ho25; rw [← Ny150.out] at ho25))
               have n0_ := Aside0.mk (Kd.R_elder' (by (with_reducible repeat (first | apply r1 | apply r2 | apply r3)); exact HO_4.out) (Kd.R_base ho25) hb)
               have n1_ := Aside0.mk (Kd.R_elder' (by (with_reducible repeat (first | apply r1 | apply r2 | apply r3)); exact HO_5.out) (Kd.R_base ho25) hb)
               have n2_ := Aside0.mk (Kd.R_below (by (with_reducible repeat (first | apply r1 | apply r2 | apply r3)); exact HO_6.out) hb)
               have n3_ := Aside0.mk (Kd.R_elder' (by (with_reducible repeat (first | apply r1 | apply r2 | apply r3)); exact HO145.out) (Kd.R_base ho25) hb)
               have n4_ := Aside0.mk (Kd.R_elder' (by (with_reducible repeat (first | apply r1 | apply r2 | apply r3)); exact HO148.out) (Kd.R_base ho25) hb)
               have n5_ := Aside0.mk (Kd.R_below (by (with_reducible repeat (first | apply r1 | apply r2 | apply r3)); exact HO159.out) hb)
               have n6_ := Aside0.mk (Kd.R_lower (Kd.R_new' (Kd.R_new' (Kd.R_new' (Kd.R_new' ho25 (Kd.R_lt (by (with_reducible repeat (first | apply r1 | apply r2 | apply r3)); exact HO_4.out))) (Kd.R_lt (by (with_reducible repeat (first | apply r1 | apply r2 | apply r3)); exact HO_5.out))) (Kd.R_lt (by (with_reducible repeat (first | apply r1 | apply r2 | apply r3)); exact HO145.out))) (Kd.R_lt (by (with_reducible repeat (first | apply r1 | apply r2 | apply r3)); exact HO148.out))) (below_size (by repeat (first | (with_reducible first | exact HB.out | apply b1 | apply b2 | apply b3) | exact HB.out))))
               have n7_ := Aside0.mk (below_step (by repeat (first | (with_reducible first | exact HB.out | apply b1 | apply b2 | apply b3) | exact HB.out)) hb)
               clear HO_4
               clear HO_5
               clear HO_6
               clear HO145
               clear HO148
               clear HO159
               clear HB
               have HO_4 := n0_
               have HO_5 := n1_
               have HO_6 := n2_
               have HO145 := n3_
               have HO148 := n4_
               have HO159 := n5_
               have HO152 := n6_
               have HB := n7_
               clear n0_ n1_ n2_ n3_ n4_ n5_ n6_ n7_
               clear hb ho25
               refine hK.out _ _ ⟨(cl_ HB.out hw142_0), (cl_ HB.out hw142_1), (cl_ HB.out hw142_2), (cl_ HB.out hw149_0), (cl_ HB.out hw149_1), (cl_ HB.out hw149_2), (cl_ HB.out hw156_0), (cl_ HB.out hw156_1), (cl_ HB.out hw156_2)⟩ (fun hHeld => ?_)
               clear hK K
               refine norm_ (a' := ?_) ?_ ?_
               rotate_left
               ·
                show Act.put _ (some 41) _ = _
                simp only [Act.put, p1, p2, p3, i64_w, i32_w]
                rfl
               exact norm_ (by simp only [putAll, Act.put, p1, p2, p3]; try rfl) (hJ7_8_16_26 (v144, v147, v151, v158) _ ⟨hHeld, (by (with_reducible repeat (first | apply r1 | apply r2 | apply r3)); exact Kd.R_mono HO145.out (fun _ hk => ⟨hk.1.1, ⟨hk.2, ⟨hk.1.2.1, hk.1.2.2⟩⟩⟩)), (by (with_reducible repeat (first | apply r1 | apply r2 | apply r3)); exact Kd.R_mono HO148.out (fun _ hk => ⟨hk.1.1, ⟨hk.2, ⟨hk.1.2.1, hk.1.2.2⟩⟩⟩)), (by (with_reducible repeat (first | apply r1 | apply r2 | apply r3)); exact Kd.R_mono HO152.out (fun _ hk => ⟨hk.1.2, ⟨hk.2, ⟨hk.1.1.1.2, hk.1.1.2⟩⟩⟩)), (by (with_reducible repeat (first | apply r1 | apply r2 | apply r3)); exact HO159.out), (by (with_reducible repeat (first | apply r1 | apply r2 | apply r3)); exact Kd.R_mono HO_4.out (fun _ hk => ⟨hk.1.1, ⟨hk.1.2.1, ⟨hk.2, hk.1.2.2⟩⟩⟩)), (by (with_reducible repeat (first | apply r1 | apply r2 | apply r3)); exact Kd.R_mono HO_5.out (fun _ hk => ⟨hk.1.1, ⟨hk.1.2.1, ⟨hk.2, hk.1.2.2⟩⟩⟩)), (by (with_reducible repeat (first | apply r1 | apply r2 | apply r3)); exact HO_6.out), (by repeat (first | (with_reducible first | exact HB.out | apply b1 | apply b2 | apply b3) | exact HB.out))⟩)
             ·
              skip
              rintro ⟨v144, v147, v151⟩ w23 ⟨hS_, h0_, h1_, h2_, h3_, h4_, h5_, h6_⟩
              have n0_ : Aside0 (Kd.R (Kd.int .i64) 3 w23 w.heap.size (fun k_ => some k_ ≠ (v147 : Value).ownBlock ∧ some k_ ≠ (v151 : Value).ownBlock ∧ some k_ ≠ (.slice Ao14 x4_1.length co14 : Value).ownBlock ∧ some k_ ≠ (u5 : Value).ownBlock) v144 y143) := ⟨h0_⟩
              have n1_ : Aside0 (Kd.R (Kd.int .i64) 3 w23 w.heap.size (fun k_ => some k_ ≠ (v144 : Value).ownBlock ∧ some k_ ≠ (v151 : Value).ownBlock ∧ some k_ ≠ (.slice Ao14 x4_1.length co14 : Value).ownBlock ∧ some k_ ≠ (u5 : Value).ownBlock) v147 y146) := ⟨h1_⟩
              have n2_ : Aside0 (Kd.R (Kd.int .i64) 3 w23 w.heap.size (fun k_ => some k_ ≠ (v144 : Value).ownBlock ∧ some k_ ≠ (v147 : Value).ownBlock ∧ some k_ ≠ (.slice Ao14 x4_1.length co14 : Value).ownBlock ∧ some k_ ≠ (u5 : Value).ownBlock) v151 y150) := ⟨h2_⟩
              have n3_ : Aside0 (Kd.R (Kd.int .i64) 3 w23 w.heap.size (fun k_ => some k_ ≠ (v144 : Value).ownBlock ∧ some k_ ≠ (v147 : Value).ownBlock ∧ some k_ ≠ (v151 : Value).ownBlock ∧ some k_ ≠ (u5 : Value).ownBlock) (.slice Ao14 x4_1.length co14) x4_1) := ⟨h3_⟩
              have n4_ : Aside0 (Kd.R (Kd.int .i64) 3 w23 w.heap.size (fun k_ => some k_ ≠ (v144 : Value).ownBlock ∧ some k_ ≠ (v147 : Value).ownBlock ∧ some k_ ≠ (v151 : Value).ownBlock ∧ some k_ ≠ (.slice Ao14 x4_1.length co14 : Value).ownBlock) u5 x5_1) := ⟨h4_⟩
              have n5_ : Aside0 (Kd.R Kd.bool 4 w23 w.heap.size (fun _ => True) (.slice Ao15 x6_1.length co15) x6_1) := ⟨h5_⟩
              have n6_ : Aside0 (Below w.heap.size w w23) := ⟨h6_⟩
              clear HO_3
              clear HO_4
              clear HO_5
              clear HO_6
              clear HB
              clear h0_ h1_ h2_ h3_ h4_ h5_ h6_
              have HO145 := n0_
              have HO148 := n1_
              have HO152 := n2_
              have HO_4 := n3_
              have HO_5 := n4_
              have HO_6 := n5_
              have HB := n6_
              clear n0_ n1_ n2_ n3_ n4_ n5_ n6_
              have hHeld : w23.cell? (ad142.add ((x7_1).toNat * 3)) = some (.int .u8 ((rd_T35 l0 x7_1).f0)) ∧ w23.cell? ⟨(ad142.add ((x7_1).toNat * 3)).block, (ad142.add ((x7_1).toNat * 3)).off + 1, none⟩ = some (.int .u8 ((rd_T35 l0 x7_1).f1)) ∧ w23.cell? ⟨(ad142.add ((x7_1).toNat * 3)).block, (ad142.add ((x7_1).toNat * 3)).off + 2, none⟩ = some (.int .u8 ((rd_T35 l0 x7_1).f2)) ∧ w23.cell? (ad142.add ((x7_1).toNat * 3)) = some (.int .u8 ((rd_T35 l0 x7_1).f0)) ∧ w23.cell? ⟨(ad142.add ((x7_1).toNat * 3)).block, (ad142.add ((x7_1).toNat * 3)).off + 1, none⟩ = some (.int .u8 ((rd_T35 l0 x7_1).f1)) ∧ w23.cell? ⟨(ad142.add ((x7_1).toNat * 3)).block, (ad142.add ((x7_1).toNat * 3)).off + 2, none⟩ = some (.int .u8 ((rd_T35 l0 x7_1).f2)) ∧ w23.cell? (ad142.add ((x7_1).toNat * 3)) = some (.int .u8 ((rd_T35 l0 x7_1).f0)) ∧ w23.cell? ⟨(ad142.add ((x7_1).toNat * 3)).block, (ad142.add ((x7_1).toNat * 3)).off + 1, none⟩ = some (.int .u8 ((rd_T35 l0 x7_1).f1)) ∧ w23.cell? ⟨(ad142.add ((x7_1).toNat * 3)).block, (ad142.add ((x7_1).toNat * 3)).off + 2, none⟩ = some (.int .u8 ((rd_T35 l0 x7_1).f2)) := hS_
              obtain ⟨Ao25, co25, eo25⟩ := Kd.R_slice HO152.out
              (first | subst eo25 | (injection eo25 with f1_ f2_ f3_; have f4_ := f1_.symm; have f5_ := f3_.symm; clear f1_ f2_ f3_; subst f4_; subst f5_))
              refine norm_ (a' := ?_) ?_ ?_
              rotate_left
              ·
               simp only [putAll, Act.put, p1, p2, p3]
               rfl
              refine two_ (i := 17) (j := 26) (Ni := some 42) (Nj := some 51) WearVictims.q1 WearVictims.q2 rfl rfl rfl rfl (two_of HT_.out (by kernel_rfl)) (by decide) (by decide) (fun K hK => ?_) (fun K hK => ?_)
              ·
               skip
               refine Kd.R_append_rows_step (Kd.int .i64) (w0 := w) w.heap.size (by rfl) (.tmp 34) (.tmp 41) 23 3 (.int .i64 0) 8 rfl Try.underlying23 info3 rfl (by decide) (by omega) (.slice Ao14 x4_1.length co14) x4_1 y150 _ _ _ (fun k_ => some k_ ≠ (u5 : Value).ownBlock ∧ some k_ ≠ (v144 : Value).ownBlock ∧ some k_ ≠ (v147 : Value).ownBlock ∧ some k_ ≠ (.slice Ao25 y150.length co25 : Value).ownBlock) (fun _ => False) rfl rfl ?aO ?aR (fun _ _ h => h) (fun _ h => h.elim) ?aF ?aB ?aS ?aL ?_
               (case aR => repeat (first | exact (Kd.R_reads' HO152.out).2.2 | (with_reducible refine Kd.C_alloc ?_ _) | (with_reducible refine Kd.C_drewN ?_ _) | (with_reducible refine Kd.C_drew ?_)))
               (case aB => exact (by repeat (first | (with_reducible first | exact HB.out | apply b1 | apply b2 | apply b3) | exact HB.out)))
               (case aF => exact (fun k_ hk => ⟨Kd.fresh' (Kd.R_lt (by (with_reducible repeat (first | apply r1 | apply r2 | apply r3)); exact HO_5.out)) k_ hk, Kd.fresh' (Kd.R_lt (by (with_reducible repeat (first | apply r1 | apply r2 | apply r3)); exact HO145.out)) k_ hk, Kd.fresh' (Kd.R_lt (by (with_reducible repeat (first | apply r1 | apply r2 | apply r3)); exact HO148.out)) k_ hk, Kd.fresh' (Kd.R_lt (by (with_reducible repeat (first | apply r1 | apply r2 | apply r3)); exact HO152.out)) k_ hk⟩))
               (case aO => exact (by (with_reducible repeat (first | apply r1 | apply r2 | apply r3)); exact Kd.R_mono HO_4.out (fun _ hk => ⟨hk.2.2.2, ⟨hk.1, ⟨hk.2.1, hk.2.2.1⟩⟩⟩)))
               (case aS => exact (below_size (by repeat (first | (with_reducible first | exact HB.out | apply b1 | apply b2 | apply b3) | exact HB.out))))
               (case aL => have := LMc10.out; omega)
               intro v154 w24 ho hb hg hat
               rw [← Ny153.out] at ho
               have n0_ := Aside0.mk (Kd.R_after (ok := (fun k_ => some k_ ≠ (v144 : Value).ownBlock ∧ some k_ ≠ (v147 : Value).ownBlock ∧ some k_ ≠ (.slice Ao25 y150.length co25 : Value).ownBlock)) (by (with_reducible repeat (first | apply r1 | apply r2 | apply r3)); exact Kd.R_mono HO_5.out (fun _ hk => ⟨⟨hk.1, ⟨hk.2.1, hk.2.2.1⟩⟩, hk.2.2.2⟩)) hg hat)
               have n1_ := Aside0.mk (Kd.R_over' (by (with_reducible repeat (first | apply r1 | apply r2 | apply r3)); exact HO_6.out) (Kd.R_typed (by (with_reducible repeat (first | apply r1 | apply r2 | apply r3)); exact HO_4.out)) (by decide) hg)
               have n2_ := Aside0.mk (Kd.R_after (ok := (fun k_ => some k_ ≠ (u5 : Value).ownBlock ∧ some k_ ≠ (v147 : Value).ownBlock ∧ some k_ ≠ (.slice Ao25 y150.length co25 : Value).ownBlock)) (by (with_reducible repeat (first | apply r1 | apply r2 | apply r3)); exact Kd.R_mono HO145.out (fun _ hk => ⟨⟨hk.2.2.2, ⟨hk.1, hk.2.1⟩⟩, hk.2.2.1⟩)) hg hat)
               have n3_ := Aside0.mk (Kd.R_after (ok := (fun k_ => some k_ ≠ (u5 : Value).ownBlock ∧ some k_ ≠ (v144 : Value).ownBlock ∧ some k_ ≠ (.slice Ao25 y150.length co25 : Value).ownBlock)) (by (with_reducible repeat (first | apply r1 | apply r2 | apply r3)); exact Kd.R_mono HO148.out (fun _ hk => ⟨⟨hk.2.2.2, ⟨hk.1, hk.2.1⟩⟩, hk.2.2.1⟩)) hg hat)
               have n4_ := Aside0.mk (Kd.R_after (ok := (fun k_ => some k_ ≠ (u5 : Value).ownBlock ∧ some k_ ≠ (v144 : Value).ownBlock ∧ some k_ ≠ (v147 : Value).ownBlock)) (by (with_reducible repeat (first | apply r1 | apply r2 | apply r3)); exact Kd.R_mono HO152.out (fun _ hk => ⟨⟨hk.2.2.2, ⟨hk.1, hk.2.1⟩⟩, hk.2.2.1⟩)) hg hat)
               have n5_ := Aside0.mk (hb)
               have n6_ := Aside0.mk (ho)
               clear HO_5
               clear HO_6
               clear HO145
               clear HO148
               clear HO152
               clear HB
               clear HO_4
               have HO_5 := n0_
               have HO_6 := n1_
               have HO145 := n2_
               have HO148 := n3_
               have HO152 := n4_
               have HB := n5_
               have HO155 := n6_
               clear n0_ n1_ n2_ n3_ n4_ n5_ n6_
               clear ho hb hg hat
               refine hK.out _ _ ⟨(cl_ HB.out hw142_0), (cl_ HB.out hw142_1), (cl_ HB.out hw142_2), (cl_ HB.out hw149_0), (cl_ HB.out hw149_1), (cl_ HB.out hw149_2), (cl_ HB.out hw156_0), (cl_ HB.out hw156_1), (cl_ HB.out hw156_2)⟩ (fun hHeld => ?_)
               clear hK K
               refine norm_ (a' := ?_) ?_ ?_
               rotate_left
               ·
                show Act.put _ (some 42) _ = _
                simp only [Act.put, p1, p2, p3, i64_w, i32_w]
                rfl
               exact norm_ (by simp only [putAll, Act.put, p1, p2, p3]; try rfl) (hJ7_8_16_17 (v144, v147, .slice Ao25 y150.length co25, v154) _ ⟨hHeld, (by (with_reducible repeat (first | apply r1 | apply r2 | apply r3)); exact Kd.R_mono HO145.out (fun _ hk => ⟨hk.1.2.1, ⟨hk.1.2.2, ⟨hk.2, hk.1.1⟩⟩⟩)), (by (with_reducible repeat (first | apply r1 | apply r2 | apply r3)); exact Kd.R_mono HO148.out (fun _ hk => ⟨hk.1.2.1, ⟨hk.1.2.2, ⟨hk.2, hk.1.1⟩⟩⟩)), (by (with_reducible repeat (first | apply r1 | apply r2 | apply r3)); exact Kd.R_mono HO152.out (fun _ hk => ⟨hk.1.2.1, ⟨hk.1.2.2, ⟨hk.2, hk.1.1⟩⟩⟩)), (by (with_reducible repeat (first | apply r1 | apply r2 | apply r3)); exact Kd.R_mono HO155.out (fun _ hk => ⟨hk.2.1, ⟨hk.2.2.1, ⟨hk.2.2.2, hk.1⟩⟩⟩)), (by (with_reducible repeat (first | apply r1 | apply r2 | apply r3)); exact Kd.R_mono HO_5.out (fun _ hk => ⟨hk.1.1, ⟨hk.1.2.1, ⟨hk.1.2.2, hk.2⟩⟩⟩)), (by (with_reducible repeat (first | apply r1 | apply r2 | apply r3)); exact HO_6.out), (by repeat (first | (with_reducible first | exact HB.out | apply b1 | apply b2 | apply b3) | exact HB.out))⟩)
              ·
               skip
               refine Kd.R_lit_step Kd.bool _ 4 ?hg (N := 51) ?hd (xs := ([((Go.bits .and .u8 ((rd_T35 l0 x7_1).f2) 1) == 1)] : List Bool)) (inner := [.bool ((Go.bits .and .u8 ((rd_T35 l0 x7_1).f2) 1) == 1)]) (ok := fun _ => True) (okp := fun _ => True) ?hr ?hp (fun _ hk => hk) trivial (Below.refl _ _) (Nat.le_refl _) (by simp) ?_; (case hd => rfl); (case hg => rfl); (case hr => first | (go_simp; done) | (go_simp; rfl)); (case hp => exact (Reps.one (show Kd.M Kd.bool _ _ _ ((Go.bits .and .u8 ((rd_T35 l0 x7_1).f2) 1) == 1) [.bool ((Go.bits .and .u8 ((rd_T35 l0 x7_1).f2) 1) == 1)] from rfl) (Reps.none _ _)))
               intro v158 w24 ho25 hb hg_ hnew_
               clear hg_ hnew_
               (first | rw [← Ny157.out] at ho25 | (simp only [Int.reduceToNat] at ho25; rw [← Ny157.out] at ho25))
               have n0_ := Aside0.mk (Kd.R_below (by (with_reducible repeat (first | apply r1 | apply r2 | apply r3)); exact HO_4.out) hb)
               have n1_ := Aside0.mk (Kd.R_below (by (with_reducible repeat (first | apply r1 | apply r2 | apply r3)); exact HO_5.out) hb)
               have n2_ := Aside0.mk (Kd.R_elder' (by (with_reducible repeat (first | apply r1 | apply r2 | apply r3)); exact HO_6.out) (Kd.R_base ho25) hb)
               have n3_ := Aside0.mk (Kd.R_below (by (with_reducible repeat (first | apply r1 | apply r2 | apply r3)); exact HO145.out) hb)
               have n4_ := Aside0.mk (Kd.R_below (by (with_reducible repeat (first | apply r1 | apply r2 | apply r3)); exact HO148.out) hb)
               have n5_ := Aside0.mk (Kd.R_below (by (with_reducible repeat (first | apply r1 | apply r2 | apply r3)); exact HO152.out) hb)
               have n6_ := Aside0.mk (Kd.R_lower (Kd.R_new' ho25 (Kd.R_lt (by (with_reducible repeat (first | apply r1 | apply r2 | apply r3)); exact HO_6.out))) (below_size (by repeat (first | (with_reducible first | exact HB.out | apply b1 | apply b2 | apply b3) | exact HB.out))))
               have n7_ := Aside0.mk (below_step (by repeat (first | (with_reducible first | exact HB.out | apply b1 | apply b2 | apply b3) | exact HB.out)) hb)
               clear HO_4
               clear HO_5
               clear HO_6
               clear HO145
               clear HO148
               clear HO152
               clear HB
               have HO_4 := n0_
               have HO_5 := n1_
               have HO_6 := n2_
               have HO145 := n3_
               have HO148 := n4_
               have HO152 := n5_
               have HO159 := n6_
               have HB := n7_
               clear n0_ n1_ n2_ n3_ n4_ n5_ n6_ n7_
               clear hb ho25
               refine hK.out _ _ ⟨(cl_ HB.out hw142_0), (cl_ HB.out hw142_1), (cl_ HB.out hw142_2), (cl_ HB.out hw149_0), (cl_ HB.out hw149_1), (cl_ HB.out hw149_2), (cl_ HB.out hw156_0), (cl_ HB.out hw156_1), (cl_ HB.out hw156_2)⟩ (fun hHeld => ?_)
               clear hK K
               refine norm_ (a' := ?_) ?_ ?_
               rotate_left
               ·
                show Act.put _ (some 51) _ = _
                simp only [Act.put, p1, p2, p3, i64_w, i32_w]
                rfl
               exact norm_ (by simp only [putAll, Act.put, p1, p2, p3]; try rfl) (hJ7_8_16_26 (v144, v147, .slice Ao25 y150.length co25, v158) _ ⟨hHeld, (by (with_reducible repeat (first | apply r1 | apply r2 | apply r3)); exact HO145.out), (by (with_reducible repeat (first | apply r1 | apply r2 | apply r3)); exact HO148.out), (by (with_reducible repeat (first | apply r1 | apply r2 | apply r3)); exact HO152.out), (by (with_reducible repeat (first | apply r1 | apply r2 | apply r3)); exact Kd.R_mono HO159.out (fun _ hk => hk.2)), (by (with_reducible repeat (first | apply r1 | apply r2 | apply r3)); exact HO_4.out), (by (with_reducible repeat (first | apply r1 | apply r2 | apply r3)); exact HO_5.out), (by (with_reducible repeat (first | apply r1 | apply r2 | apply r3)); exact Kd.R_mono HO_6.out (fun _ hk => hk.2)), (by repeat (first | (with_reducible first | exact HB.out | apply b1 | apply b2 | apply b3) | exact HB.out))⟩)
            ·
             skip
             rintro ⟨v144, v147, v151, v158⟩ w25 ⟨hS_, h0_, h1_, h2_, h3_, h4_, h5_, h6_, h7_⟩
             have n0_ : Aside0 (Kd.R (Kd.int .i64) 3 w25 w.heap.size (fun k_ => some k_ ≠ (v147 : Value).ownBlock ∧ some k_ ≠ (v151 : Value).ownBlock ∧ some k_ ≠ (.slice Ao14 x4_1.length co14 : Value).ownBlock ∧ some k_ ≠ (u5 : Value).ownBlock) v144 y143) := ⟨h0_⟩
             have n1_ : Aside0 (Kd.R (Kd.int .i64) 3 w25 w.heap.size (fun k_ => some k_ ≠ (v144 : Value).ownBlock ∧ some k_ ≠ (v151 : Value).ownBlock ∧ some k_ ≠ (.slice Ao14 x4_1.length co14 : Value).ownBlock ∧ some k_ ≠ (u5 : Value).ownBlock) v147 y146) := ⟨h1_⟩
             have n2_ : Aside0 (Kd.R (Kd.int .i64) 3 w25 w.heap.size (fun k_ => some k_ ≠ (v144 : Value).ownBlock ∧ some k_ ≠ (v147 : Value).ownBlock ∧ some k_ ≠ (.slice Ao14 x4_1.length co14 : Value).ownBlock ∧ some k_ ≠ (u5 : Value).ownBlock) v151 y150) := ⟨h2_⟩
             have n3_ : Aside0 (Kd.R Kd.bool 4 w25 w.heap.size (fun k_ => some k_ ≠ (.slice Ao15 x6_1.length co15 : Value).ownBlock) v158 y157) := ⟨h3_⟩
             have n4_ : Aside0 (Kd.R (Kd.int .i64) 3 w25 w.heap.size (fun k_ => some k_ ≠ (v144 : Value).ownBlock ∧ some k_ ≠ (v147 : Value).ownBlock ∧ some k_ ≠ (v151 : Value).ownBlock ∧ some k_ ≠ (u5 : Value).ownBlock) (.slice Ao14 x4_1.length co14) x4_1) := ⟨h4_⟩
             have n5_ : Aside0 (Kd.R (Kd.int .i64) 3 w25 w.heap.size (fun k_ => some k_ ≠ (v144 : Value).ownBlock ∧ some k_ ≠ (v147 : Value).ownBlock ∧ some k_ ≠ (v151 : Value).ownBlock ∧ some k_ ≠ (.slice Ao14 x4_1.length co14 : Value).ownBlock) u5 x5_1) := ⟨h5_⟩
             have n6_ : Aside0 (Kd.R Kd.bool 4 w25 w.heap.size (fun k_ => some k_ ≠ (v158 : Value).ownBlock) (.slice Ao15 x6_1.length co15) x6_1) := ⟨h6_⟩
             have n7_ : Aside0 (Below w.heap.size w w25) := ⟨h7_⟩
             clear HO_3
             clear HO_4
             clear HO_5
             clear HO_6
             clear HB
             clear h0_ h1_ h2_ h3_ h4_ h5_ h6_ h7_
             have HO145 := n0_
             have HO148 := n1_
             have HO152 := n2_
             have HO159 := n3_
             have HO_4 := n4_
             have HO_5 := n5_
             have HO_6 := n6_
             have HB := n7_
             clear n0_ n1_ n2_ n3_ n4_ n5_ n6_ n7_
             have hHeld : w25.cell? (ad142.add ((x7_1).toNat * 3)) = some (.int .u8 ((rd_T35 l0 x7_1).f0)) ∧ w25.cell? ⟨(ad142.add ((x7_1).toNat * 3)).block, (ad142.add ((x7_1).toNat * 3)).off + 1, none⟩ = some (.int .u8 ((rd_T35 l0 x7_1).f1)) ∧ w25.cell? ⟨(ad142.add ((x7_1).toNat * 3)).block, (ad142.add ((x7_1).toNat * 3)).off + 2, none⟩ = some (.int .u8 ((rd_T35 l0 x7_1).f2)) ∧ w25.cell? (ad142.add ((x7_1).toNat * 3)) = some (.int .u8 ((rd_T35 l0 x7_1).f0)) ∧ w25.cell? ⟨(ad142.add ((x7_1).toNat * 3)).block, (ad142.add ((x7_1).toNat * 3)).off + 1, none⟩ = some (.int .u8 ((rd_T35 l0 x7_1).f1)) ∧ w25.cell? ⟨(ad142.add ((x7_1).toNat * 3)).block, (ad142.add ((x7_1).toNat * 3)).off + 2, none⟩ = some (.int .u8 ((rd_T35 l0 x7_1).f2)) ∧ w25.cell? (ad142.add ((x7_1).toNat * 3)) = some (.int .u8 ((rd_T35 l0 x7_1).f0)) ∧ w25.cell? ⟨(ad142.add ((x7_1).toNat * 3)).block, (ad142.add ((x7_1).toNat * 3)).off + 1, none⟩ = some (.int .u8 ((rd_T35 l0 x7_1).f1)) ∧ w25.cell? ⟨(ad142.add ((x7_1).toNat * 3)).block, (ad142.add ((x7_1).toNat * 3)).off + 2, none⟩ = some (.int .u8 ((rd_T35 l0 x7_1).f2)) := hS_
             obtain ⟨Ao27, co27, eo27⟩ := Kd.R_slice HO152.out
             (first | subst eo27 | (injection eo27 with f1_ f2_ f3_; have f4_ := f1_.symm; have f5_ := f3_.symm; clear f1_ f2_ f3_; subst f4_; subst f5_))
             refine norm_ (a' := ?_) ?_ ?_
             rotate_left
             ·
              simp only [putAll, Act.put, p1, p2, p3]
              rfl
             refine one_ (i := 17) (N := some 42) WearVictims.q0 rfl rfl (one_of HT_.out (by kernel_rfl)) (by decide) (fun K hK => ?_)
             refine Kd.R_append_rows_step (Kd.int .i64) (w0 := w) w.heap.size (by rfl) (.tmp 34) (.tmp 41) 23 3 (.int .i64 0) 8 rfl Try.underlying23 info3 rfl (by decide) (by omega) (.slice Ao14 x4_1.length co14) x4_1 y150 _ _ _ (fun k_ => some k_ ≠ (u5 : Value).ownBlock ∧ some k_ ≠ (v144 : Value).ownBlock ∧ some k_ ≠ (v147 : Value).ownBlock ∧ some k_ ≠ (.slice Ao27 y150.length co27 : Value).ownBlock) (fun _ => False) rfl rfl ?aO ?aR (fun _ _ h => h) (fun _ h => h.elim) ?aF ?aB ?aS ?aL ?_
             (case aR => repeat (first | exact (Kd.R_reads' HO152.out).2.2 | (with_reducible refine Kd.C_alloc ?_ _) | (with_reducible refine Kd.C_drewN ?_ _) | (with_reducible refine Kd.C_drew ?_)))
             (case aB => exact (by repeat (first | (with_reducible first | exact HB.out | apply b1 | apply b2 | apply b3) | exact HB.out)))
             (case aF => exact (fun k_ hk => ⟨Kd.fresh' (Kd.R_lt (by (with_reducible repeat (first | apply r1 | apply r2 | apply r3)); exact HO_5.out)) k_ hk, Kd.fresh' (Kd.R_lt (by (with_reducible repeat (first | apply r1 | apply r2 | apply r3)); exact HO145.out)) k_ hk, Kd.fresh' (Kd.R_lt (by (with_reducible repeat (first | apply r1 | apply r2 | apply r3)); exact HO148.out)) k_ hk, Kd.fresh' (Kd.R_lt (by (with_reducible repeat (first | apply r1 | apply r2 | apply r3)); exact HO152.out)) k_ hk⟩))
             (case aO => exact (by (with_reducible repeat (first | apply r1 | apply r2 | apply r3)); exact Kd.R_mono HO_4.out (fun _ hk => ⟨hk.2.2.2, ⟨hk.1, ⟨hk.2.1, hk.2.2.1⟩⟩⟩)))
             (case aS => exact (below_size (by repeat (first | (with_reducible first | exact HB.out | apply b1 | apply b2 | apply b3) | exact HB.out))))
             (case aL => have := LMc10.out; omega)
             intro v154 w26 ho hb hg hat
             rw [← Ny153.out] at ho
             have n0_ := Aside0.mk (Kd.R_after (ok := (fun k_ => some k_ ≠ (v144 : Value).ownBlock ∧ some k_ ≠ (v147 : Value).ownBlock ∧ some k_ ≠ (.slice Ao27 y150.length co27 : Value).ownBlock)) (by (with_reducible repeat (first | apply r1 | apply r2 | apply r3)); exact Kd.R_mono HO_5.out (fun _ hk => ⟨⟨hk.1, ⟨hk.2.1, hk.2.2.1⟩⟩, hk.2.2.2⟩)) hg hat)
             have n1_ := Aside0.mk (Kd.R_over' (by (with_reducible repeat (first | apply r1 | apply r2 | apply r3)); exact HO_6.out) (Kd.R_typed (by (with_reducible repeat (first | apply r1 | apply r2 | apply r3)); exact HO_4.out)) (by decide) hg)
             have n2_ := Aside0.mk (Kd.R_after (ok := (fun k_ => some k_ ≠ (u5 : Value).ownBlock ∧ some k_ ≠ (v147 : Value).ownBlock ∧ some k_ ≠ (.slice Ao27 y150.length co27 : Value).ownBlock)) (by (with_reducible repeat (first | apply r1 | apply r2 | apply r3)); exact Kd.R_mono HO145.out (fun _ hk => ⟨⟨hk.2.2.2, ⟨hk.1, hk.2.1⟩⟩, hk.2.2.1⟩)) hg hat)
             have n3_ := Aside0.mk (Kd.R_after (ok := (fun k_ => some k_ ≠ (u5 : Value).ownBlock ∧ some k_ ≠ (v144 : Value).ownBlock ∧ some k_ ≠ (.slice Ao27 y150.length co27 : Value).ownBlock)) (by (with_reducible repeat (first | apply r1 | apply r2 | apply r3)); exact Kd.R_mono HO148.out (fun _ hk => ⟨⟨hk.2.2.2, ⟨hk.1, hk.2.1⟩⟩, hk.2.2.1⟩)) hg hat)
             have n4_ := Aside0.mk (Kd.R_after (ok := (fun k_ => some k_ ≠ (u5 : Value).ownBlock ∧ some k_ ≠ (v144 : Value).ownBlock ∧ some k_ ≠ (v147 : Value).ownBlock)) (by (with_reducible repeat (first | apply r1 | apply r2 | apply r3)); exact Kd.R_mono HO152.out (fun _ hk => ⟨⟨hk.2.2.2, ⟨hk.1, hk.2.1⟩⟩, hk.2.2.1⟩)) hg hat)
             have n5_ := Aside0.mk (Kd.R_over' (by (with_reducible repeat (first | apply r1 | apply r2 | apply r3)); exact HO159.out) (Kd.R_typed (by (with_reducible repeat (first | apply r1 | apply r2 | apply r3)); exact HO_4.out)) (by decide) hg)
             have n6_ := Aside0.mk (hb)
             have n7_ := Aside0.mk (ho)
             clear HO_5
             clear HO_6
             clear HO145
             clear HO148
             clear HO152
             clear HO159
             clear HB
             clear HO_4
             have HO_5 := n0_
             have HO_6 := n1_
             have HO145 := n2_
             have HO148 := n3_
             have HO152 := n4_
             have HO159 := n5_
             have HB := n6_
             have HO155 := n7_
             clear n0_ n1_ n2_ n3_ n4_ n5_ n6_ n7_
             clear ho hb hg hat
             refine hK.out _ _ ⟨(cl_ HB.out hw142_0), (cl_ HB.out hw142_1), (cl_ HB.out hw142_2), (cl_ HB.out hw149_0), (cl_ HB.out hw149_1), (cl_ HB.out hw149_2), (cl_ HB.out hw156_0), (cl_ HB.out hw156_1), (cl_ HB.out hw156_2)⟩ (fun hHeld => ?_)
             clear hK K
             refine norm_ (a' := ?_) ?_ ?_
             rotate_left
             ·
              show Act.put _ (some 42) _ = _
              simp only [Act.put, p1, p2, p3, i64_w, i32_w]
              rfl
             exact norm_ (by simp only [putAll, Act.put, p1, p2, p3]; try rfl) (hJ7_8_16_17_26 (v144, v147, .slice Ao27 y150.length co27, v154, v158) _ ⟨hHeld, (by (with_reducible repeat (first | apply r1 | apply r2 | apply r3)); exact Kd.R_mono HO145.out (fun _ hk => ⟨hk.1.2.1, ⟨hk.1.2.2, ⟨hk.2, hk.1.1⟩⟩⟩)), (by (with_reducible repeat (first | apply r1 | apply r2 | apply r3)); exact Kd.R_mono HO148.out (fun _ hk => ⟨hk.1.2.1, ⟨hk.1.2.2, ⟨hk.2, hk.1.1⟩⟩⟩)), (by (with_reducible repeat (first | apply r1 | apply r2 | apply r3)); exact Kd.R_mono HO152.out (fun _ hk => ⟨hk.1.2.1, ⟨hk.1.2.2, ⟨hk.2, hk.1.1⟩⟩⟩)), (by (with_reducible repeat (first | apply r1 | apply r2 | apply r3)); exact Kd.R_mono HO155.out (fun _ hk => ⟨hk.2.1, ⟨hk.2.2.1, ⟨hk.2.2.2, hk.1⟩⟩⟩)), (by (with_reducible repeat (first | apply r1 | apply r2 | apply r3)); exact HO159.out), (by (with_reducible repeat (first | apply r1 | apply r2 | apply r3)); exact Kd.R_mono HO_5.out (fun _ hk => ⟨hk.1.1, ⟨hk.1.2.1, ⟨hk.1.2.2, hk.2⟩⟩⟩)), (by (with_reducible repeat (first | apply r1 | apply r2 | apply r3)); exact HO_6.out), (by repeat (first | (with_reducible first | exact HB.out | apply b1 | apply b2 | apply b3) | exact HB.out))⟩)
           ·
            skip
            rintro ⟨v144, v147, v151, v154⟩ w25 ⟨hS_, h0_, h1_, h2_, h3_, h4_, h5_, h6_⟩
            have n0_ : Aside0 (Kd.R (Kd.int .i64) 3 w25 w.heap.size (fun k_ => some k_ ≠ (v147 : Value).ownBlock ∧ some k_ ≠ (v151 : Value).ownBlock ∧ some k_ ≠ (v154 : Value).ownBlock ∧ some k_ ≠ (u5 : Value).ownBlock) v144 y143) := ⟨h0_⟩
            have n1_ : Aside0 (Kd.R (Kd.int .i64) 3 w25 w.heap.size (fun k_ => some k_ ≠ (v144 : Value).ownBlock ∧ some k_ ≠ (v151 : Value).ownBlock ∧ some k_ ≠ (v154 : Value).ownBlock ∧ some k_ ≠ (u5 : Value).ownBlock) v147 y146) := ⟨h1_⟩
            have n2_ : Aside0 (Kd.R (Kd.int .i64) 3 w25 w.heap.size (fun k_ => some k_ ≠ (v144 : Value).ownBlock ∧ some k_ ≠ (v147 : Value).ownBlock ∧ some k_ ≠ (v154 : Value).ownBlock ∧ some k_ ≠ (u5 : Value).ownBlock) v151 y150) := ⟨h2_⟩
            have n3_ : Aside0 (Kd.R (Kd.int .i64) 3 w25 w.heap.size (fun k_ => some k_ ≠ (v144 : Value).ownBlock ∧ some k_ ≠ (v147 : Value).ownBlock ∧ some k_ ≠ (v151 : Value).ownBlock ∧ some k_ ≠ (u5 : Value).ownBlock) v154 y153) := ⟨h3_⟩
            have n4_ : Aside0 (Kd.R (Kd.int .i64) 3 w25 w.heap.size (fun k_ => some k_ ≠ (v144 : Value).ownBlock ∧ some k_ ≠ (v147 : Value).ownBlock ∧ some k_ ≠ (v151 : Value).ownBlock ∧ some k_ ≠ (v154 : Value).ownBlock) u5 x5_1) := ⟨h4_⟩
            have n5_ : Aside0 (Kd.R Kd.bool 4 w25 w.heap.size (fun _ => True) (.slice Ao15 x6_1.length co15) x6_1) := ⟨h5_⟩
            have n6_ : Aside0 (Below w.heap.size w w25) := ⟨h6_⟩
            clear HO_3
            clear HO_4
            clear HO_5
            clear HO_6
            clear HB
            clear h0_ h1_ h2_ h3_ h4_ h5_ h6_
            have HO145 := n0_
            have HO148 := n1_
            have HO152 := n2_
            have HO155 := n3_
            have HO_5 := n4_
            have HO_6 := n5_
            have HB := n6_
            clear n0_ n1_ n2_ n3_ n4_ n5_ n6_
            have hHeld : w25.cell? (ad142.add ((x7_1).toNat * 3)) = some (.int .u8 ((rd_T35 l0 x7_1).f0)) ∧ w25.cell? ⟨(ad142.add ((x7_1).toNat * 3)).block, (ad142.add ((x7_1).toNat * 3)).off + 1, none⟩ = some (.int .u8 ((rd_T35 l0 x7_1).f1)) ∧ w25.cell? ⟨(ad142.add ((x7_1).toNat * 3)).block, (ad142.add ((x7_1).toNat * 3)).off + 2, none⟩ = some (.int .u8 ((rd_T35 l0 x7_1).f2)) ∧ w25.cell? (ad142.add ((x7_1).toNat * 3)) = some (.int .u8 ((rd_T35 l0 x7_1).f0)) ∧ w25.cell? ⟨(ad142.add ((x7_1).toNat * 3)).block, (ad142.add ((x7_1).toNat * 3)).off + 1, none⟩ = some (.int .u8 ((rd_T35 l0 x7_1).f1)) ∧ w25.cell? ⟨(ad142.add ((x7_1).toNat * 3)).block, (ad142.add ((x7_1).toNat * 3)).off + 2, none⟩ = some (.int .u8 ((rd_T35 l0 x7_1).f2)) ∧ w25.cell? (ad142.add ((x7_1).toNat * 3)) = some (.int .u8 ((rd_T35 l0 x7_1).f0)) ∧ w25.cell? ⟨(ad142.add ((x7_1).toNat * 3)).block, (ad142.add ((x7_1).toNat * 3)).off + 1, none⟩ = some (.int .u8 ((rd_T35 l0 x7_1).f1)) ∧ w25.cell? ⟨(ad142.add ((x7_1).toNat * 3)).block, (ad142.add ((x7_1).toNat * 3)).off + 2, none⟩ = some (.int .u8 ((rd_T35 l0 x7_1).f2)) := hS_
            refine norm_ (a' := ?_) ?_ ?_
            rotate_left
            ·
             simp only [putAll, Act.put, p1, p2, p3]
             rfl
            refine one_ (i := 26) (N := some 51) WearVictims.q0 rfl rfl (one_of HT_.out (by kernel_rfl)) (by decide) (fun K hK => ?_)
            refine Kd.R_lit_step Kd.bool _ 4 ?hg (N := 51) ?hd (xs := ([((Go.bits .and .u8 ((rd_T35 l0 x7_1).f2) 1) == 1)] : List Bool)) (inner := [.bool ((Go.bits .and .u8 ((rd_T35 l0 x7_1).f2) 1) == 1)]) (ok := fun _ => True) (okp := fun _ => True) ?hr ?hp (fun _ hk => hk) trivial (Below.refl _ _) (Nat.le_refl _) (by simp) ?_; (case hd => rfl); (case hg => rfl); (case hr => first | (go_simp; done) | (go_simp; rfl)); (case hp => exact (Reps.one (show Kd.M Kd.bool _ _ _ ((Go.bits .and .u8 ((rd_T35 l0 x7_1).f2) 1) == 1) [.bool ((Go.bits .and .u8 ((rd_T35 l0 x7_1).f2) 1) == 1)] from rfl) (Reps.none _ _)))
            intro v158 w26 ho27 hb hg_ hnew_
            clear hg_ hnew_
            (first | rw [← Ny157.out] at ho27 | (simp only [Int.reduceToNat] at ho27; rw [← Ny157.out] at ho27))
            have n0_ := Aside0.mk (Kd.R_below (by (with_reducible repeat (first | apply r1 | apply r2 | apply r3)); exact HO_5.out) hb)
            have n1_ := Aside0.mk (Kd.R_elder' (by (with_reducible repeat (first | apply r1 | apply r2 | apply r3)); exact HO_6.out) (Kd.R_base ho27) hb)
            have n2_ := Aside0.mk (Kd.R_below (by (with_reducible repeat (first | apply r1 | apply r2 | apply r3)); exact HO145.out) hb)
            have n3_ := Aside0.mk (Kd.R_below (by (with_reducible repeat (first | apply r1 | apply r2 | apply r3)); exact HO148.out) hb)
            have n4_ := Aside0.mk (Kd.R_below (by (with_reducible repeat (first | apply r1 | apply r2 | apply r3)); exact HO152.out) hb)
            have n5_ := Aside0.mk (Kd.R_below (by (with_reducible repeat (first | apply r1 | apply r2 | apply r3)); exact HO155.out) hb)
            have n6_ := Aside0.mk (Kd.R_lower (Kd.R_new' ho27 (Kd.R_lt (by (with_reducible repeat (first | apply r1 | apply r2 | apply r3)); exact HO_6.out))) (below_size (by repeat (first | (with_reducible first | exact HB.out | apply b1 | apply b2 | apply b3) | exact HB.out))))
            have n7_ := Aside0.mk (below_step (by repeat (first | (with_reducible first | exact HB.out | apply b1 | apply b2 | apply b3) | exact HB.out)) hb)
            clear HO_5
            clear HO_6
            clear HO145
            clear HO148
            clear HO152
            clear HO155
            clear HB
            have HO_5 := n0_
            have HO_6 := n1_
            have HO145 := n2_
            have HO148 := n3_
            have HO152 := n4_
            have HO155 := n5_
            have HO159 := n6_
            have HB := n7_
            clear n0_ n1_ n2_ n3_ n4_ n5_ n6_ n7_
            clear hb ho27
            refine hK.out _ _ ⟨(cl_ HB.out hw142_0), (cl_ HB.out hw142_1), (cl_ HB.out hw142_2), (cl_ HB.out hw149_0), (cl_ HB.out hw149_1), (cl_ HB.out hw149_2), (cl_ HB.out hw156_0), (cl_ HB.out hw156_1), (cl_ HB.out hw156_2)⟩ (fun hHeld => ?_)
            clear hK K
            refine norm_ (a' := ?_) ?_ ?_
            rotate_left
            ·
             show Act.put _ (some 51) _ = _
             simp only [Act.put, p1, p2, p3, i64_w, i32_w]
             rfl
            exact norm_ (by simp only [putAll, Act.put, p1, p2, p3]; try rfl) (hJ7_8_16_17_26 (v144, v147, v151, v154, v158) _ ⟨hHeld, (by (with_reducible repeat (first | apply r1 | apply r2 | apply r3)); exact HO145.out), (by (with_reducible repeat (first | apply r1 | apply r2 | apply r3)); exact HO148.out), (by (with_reducible repeat (first | apply r1 | apply r2 | apply r3)); exact HO152.out), (by (with_reducible repeat (first | apply r1 | apply r2 | apply r3)); exact HO155.out), (by (with_reducible repeat (first | apply r1 | apply r2 | apply r3)); exact Kd.R_mono HO159.out (fun _ hk => hk.2)), (by (with_reducible repeat (first | apply r1 | apply r2 | apply r3)); exact HO_5.out), (by (with_reducible repeat (first | apply r1 | apply r2 | apply r3)); exact Kd.R_mono HO_6.out (fun _ hk => hk.2)), (by repeat (first | (with_reducible first | exact HB.out | apply b1 | apply b2 | apply b3) | exact HB.out))⟩)
          rintro ⟨v144, v147, v151, v154, v158⟩ w27 ⟨hS_, h0_, h1_, h2_, h3_, h4_, h5_, h6_, h7_⟩
          have n0_ : Aside0 (Kd.R (Kd.int .i64) 3 w27 w.heap.size (fun k_ => some k_ ≠ (v147 : Value).ownBlock ∧ some k_ ≠ (v151 : Value).ownBlock ∧ some k_ ≠ (v154 : Value).ownBlock ∧ some k_ ≠ (u5 : Value).ownBlock) v144 y143) := ⟨h0_⟩
          have n1_ : Aside0 (Kd.R (Kd.int .i64) 3 w27 w.heap.size (fun k_ => some k_ ≠ (v144 : Value).ownBlock ∧ some k_ ≠ (v151 : Value).ownBlock ∧ some k_ ≠ (v154 : Value).ownBlock ∧ some k_ ≠ (u5 : Value).ownBlock) v147 y146) := ⟨h1_⟩
          have n2_ : Aside0 (Kd.R (Kd.int .i64) 3 w27 w.heap.size (fun k_ => some k_ ≠ (v144 : Value).ownBlock ∧ some k_ ≠ (v147 : Value).ownBlock ∧ some k_ ≠ (v154 : Value).ownBlock ∧ some k_ ≠ (u5 : Value).ownBlock) v151 y150) := ⟨h2_⟩
          have n3_ : Aside0 (Kd.R (Kd.int .i64) 3 w27 w.heap.size (fun k_ => some k_ ≠ (v144 : Value).ownBlock ∧ some k_ ≠ (v147 : Value).ownBlock ∧ some k_ ≠ (v151 : Value).ownBlock ∧ some k_ ≠ (u5 : Value).ownBlock) v154 y153) := ⟨h3_⟩
          have n4_ : Aside0 (Kd.R Kd.bool 4 w27 w.heap.size (fun k_ => some k_ ≠ (.slice Ao15 x6_1.length co15 : Value).ownBlock) v158 y157) := ⟨h4_⟩
          have n5_ : Aside0 (Kd.R (Kd.int .i64) 3 w27 w.heap.size (fun k_ => some k_ ≠ (v144 : Value).ownBlock ∧ some k_ ≠ (v147 : Value).ownBlock ∧ some k_ ≠ (v151 : Value).ownBlock ∧ some k_ ≠ (v154 : Value).ownBlock) u5 x5_1) := ⟨h5_⟩
          have n6_ : Aside0 (Kd.R Kd.bool 4 w27 w.heap.size (fun k_ => some k_ ≠ (v158 : Value).ownBlock) (.slice Ao15 x6_1.length co15) x6_1) := ⟨h6_⟩
          have n7_ : Aside0 (Below w.heap.size w w27) := ⟨h7_⟩
          clear HO_3
          clear HO_4
          clear HO_5
          clear HO_6
          clear HB
          clear h0_ h1_ h2_ h3_ h4_ h5_ h6_ h7_
          have HO145 := n0_
          have HO148 := n1_
          have HO152 := n2_
          have HO155 := n3_
          have HO159 := n4_
          have HO_5 := n5_
          have HO_6 := n6_
          have HB := n7_
          clear n0_ n1_ n2_ n3_ n4_ n5_ n6_ n7_
          have hHeld : w27.cell? (ad142.add ((x7_1).toNat * 3)) = some (.int .u8 ((rd_T35 l0 x7_1).f0)) ∧ w27.cell? ⟨(ad142.add ((x7_1).toNat * 3)).block, (ad142.add ((x7_1).toNat * 3)).off + 1, none⟩ = some (.int .u8 ((rd_T35 l0 x7_1).f1)) ∧ w27.cell? ⟨(ad142.add ((x7_1).toNat * 3)).block, (ad142.add ((x7_1).toNat * 3)).off + 2, none⟩ = some (.int .u8 ((rd_T35 l0 x7_1).f2)) ∧ w27.cell? (ad142.add ((x7_1).toNat * 3)) = some (.int .u8 ((rd_T35 l0 x7_1).f0)) ∧ w27.cell? ⟨(ad142.add ((x7_1).toNat * 3)).block, (ad142.add ((x7_1).toNat * 3)).off + 1, none⟩ = some (.int .u8 ((rd_T35 l0 x7_1).f1)) ∧ w27.cell? ⟨(ad142.add ((x7_1).toNat * 3)).block, (ad142.add ((x7_1).toNat * 3)).off + 2, none⟩ = some (.int .u8 ((rd_T35 l0 x7_1).f2)) ∧ w27.cell? (ad142.add ((x7_1).toNat * 3)) = some (.int .u8 ((rd_T35 l0 x7_1).f0)) ∧ w27.cell? ⟨(ad142.add ((x7_1).toNat * 3)).block, (ad142.add ((x7_1).toNat * 3)).off + 1, none⟩ = some (.int .u8 ((rd_T35 l0 x7_1).f1)) ∧ w27.cell? ⟨(ad142.add ((x7_1).toNat * 3)).block, (ad142.add ((x7_1).toNat * 3)).off + 2, none⟩ = some (.int .u8 ((rd_T35 l0 x7_1).f2)) := hS_
          obtain ⟨Ao29, co29, eo29⟩ := Kd.R_slice HO159.out
          (first | subst eo29 | (injection eo29 with f1_ f2_ f3_; have f4_ := f1_.symm; have f5_ := f3_.symm; clear f1_ f2_ f3_; subst f4_; subst f5_))
          refine norm_ (a' := ?_) ?_ ?_
          rotate_left
          ·
           simp only [putAll, Act.put, p1, p2, p3]
           rfl
          refine one_ (i := 27) (N := some 52) #[true, true, true, true, true, true, true, true, true, true, true, true, true, true, true, true, true, true, true, true, true, true, true, true, true, true, true, true, false, false, false] rfl rfl (one_of HT_.out (by kernel_rfl)) (by decide) (fun K hK => ?_)
          refine Kd.R_append_rows_step Kd.bool (w0 := w) w.heap.size (by rfl) (.tmp 43) (.tmp 51) 24 4 (.bool false) 1 rfl Try.underlying24 info4 rfl (by decide) (by omega) (.slice Ao15 x6_1.length co15) x6_1 y157 _ _ _ (fun k_ => some k_ ≠ (.slice Ao29 y157.length co29 : Value).ownBlock) (fun _ => False) rfl rfl ?aO ?aR (fun _ _ h => h) (fun _ h => h.elim) ?aF ?aB ?aS ?aL ?_
          (case aR => repeat (first | exact (Kd.R_reads' HO159.out).2.2 | (with_reducible refine Kd.C_alloc ?_ _) | (with_reducible refine Kd.C_drewN ?_ _) | (with_reducible refine Kd.C_drew ?_)))
          (case aB => exact (by repeat (first | (with_reducible first | exact HB.out | apply b1 | apply b2 | apply b3) | exact HB.out)))
          (case aF => exact (fun k_ hk => Kd.fresh' (Kd.R_lt (by (with_reducible repeat (first | apply r1 | apply r2 | apply r3)); exact HO159.out)) k_ hk))
          (case aO => exact (by (with_reducible repeat (first | apply r1 | apply r2 | apply r3)); exact HO_6.out))
          (case aS => exact (below_size (by repeat (first | (with_reducible first | exact HB.out | apply b1 | apply b2 | apply b3) | exact HB.out))))
          (case aL => have := LMc11.out; omega)
          intro v161 w28 ho hb hg hat
          rw [← Ny160.out] at ho
          have n0_ := Aside0.mk (Kd.R_over' (by (with_reducible repeat (first | apply r1 | apply r2 | apply r3)); exact HO_5.out) (Kd.R_typed (by (with_reducible repeat (first | apply r1 | apply r2 | apply r3)); exact HO_6.out)) (by decide) hg)
          have n1_ := Aside0.mk (Kd.R_over' (by (with_reducible repeat (first | apply r1 | apply r2 | apply r3)); exact HO145.out) (Kd.R_typed (by (with_reducible repeat (first | apply r1 | apply r2 | apply r3)); exact HO_6.out)) (by decide) hg)
          have n2_ := Aside0.mk (Kd.R_over' (by (with_reducible repeat (first | apply r1 | apply r2 | apply r3)); exact HO148.out) (Kd.R_typed (by (with_reducible repeat (first | apply r1 | apply r2 | apply r3)); exact HO_6.out)) (by decide) hg)
          have n3_ := Aside0.mk (Kd.R_over' (by (with_reducible repeat (first | apply r1 | apply r2 | apply r3)); exact HO152.out) (Kd.R_typed (by (with_reducible repeat (first | apply r1 | apply r2 | apply r3)); exact HO_6.out)) (by decide) hg)
          have n4_ := Aside0.mk (Kd.R_over' (by (with_reducible repeat (first | apply r1 | apply r2 | apply r3)); exact HO155.out) (Kd.R_typed (by (with_reducible repeat (first | apply r1 | apply r2 | apply r3)); exact HO_6.out)) (by decide) hg)
          have n5_ := Aside0.mk (Kd.R_after (ok := (fun _ => True)) (by (with_reducible repeat (first | apply r1 | apply r2 | apply r3)); exact Kd.R_mono HO159.out (fun _ hk => ⟨trivial, hk⟩)) hg hat)
          have n6_ := Aside0.mk (hb)
          have n7_ := Aside0.mk (ho)
          clear HO_5
          clear HO145
          clear HO148
          clear HO152
          clear HO155
          clear HO159
          clear HB
          clear HO_6
          have HO_5 := n0_
          have HO145 := n1_
          have HO148 := n2_
          have HO152 := n3_
          have HO155 := n4_
          have HO159 := n5_
          have HB := n6_
          have HO162 := n7_
          clear n0_ n1_ n2_ n3_ n4_ n5_ n6_ n7_
          clear ho hb hg hat
          refine hK.out _ _ ⟨(cl_ HB.out hw142_0), (cl_ HB.out hw142_1), (cl_ HB.out hw142_2), (cl_ HB.out hw149_0), (cl_ HB.out hw149_1), (cl_ HB.out hw149_2), (cl_ HB.out hw156_0), (cl_ HB.out hw156_1), (cl_ HB.out hw156_2)⟩ (fun hHeld => ?_)
          clear hK K
          refine norm_ (a' := ?_) ?_ ?_
          rotate_left
          ·
           show Act.put _ (some 52) _ = _
           simp only [Act.put, p1, p2, p3, i64_w, i32_w]
           rfl
          refine pure_ (i := 28) (N := some 3) (v := ?_) (a' := ?_) #[true, true, true, true, true, true, true, true, true, true, true, true, true, true, true, true, true, true, true, true, true, true, true, true, true, true, true, true, true, false, false] rfl rfl (any_of HT_.out (by kernel_rfl)) (fun _ _ _ h => h) (Or.inl ⟨by rfl, ?_⟩) ?_ ?_
          rotate_left; (focus (intro w'; go_simp; with_reducible rfl)); rotate_left; (focus (simp only [Act.put, p1, p2, p3, i64_w, i32_w]; rfl))
          refine pure_ (i := 29) (N := some 4) (v := ?_) (a' := ?_) #[true, true, true, true, true, true, true, true, true, true, true, true, true, true, true, true, true, true, true, true, true, true, true, true, true, true, true, true, true, true, false] rfl rfl (any_of HT_.out (by kernel_rfl)) (fun _ _ _ h => h) (Or.inl ⟨by rfl, ?_⟩) ?_ ?_
          rotate_left; (focus (intro w'; go_simp; with_reducible rfl)); rotate_left; (focus (simp only [Act.put, p1, p2, p3, i64_w, i32_w]; rfl))
          refine pure_ (i := 30) (N := some 6) (v := ?_) (a' := ?_) #[true, true, true, true, true, true, true, true, true, true, true, true, true, true, true, true, true, true, true, true, true, true, true, true, true, true, true, true, true, true, true] rfl rfl (any_of HT_.out (by kernel_rfl)) (fun _ _ _ h => h) (Or.inl ⟨by rfl, ?_⟩) ?_ ?_
          rotate_left; (focus (intro w'; go_simp; with_reducible rfl)); rotate_left; (focus (simp only [Act.put, p1, p2, p3, i64_w, i32_w]; rfl))
          refine done_ (done_of HT_.out (by kernel_rfl)) ?_
          have p163 : 0 ≤ (x7_1 : Int) := of_decide_eq_true (by first | (with_reducible assumption) | assumption)
          have q163 : x7_1 < (l0.length : Int) := of_decide_eq_true (by first | (with_reducible assumption) | assumption)
          obtain ⟨ad163, e163, hx163_0, hx163_1, hx163_2⟩ := at_T35 HR0.out x7_1 p163 q163
          obtain rfl : ad142 = ad163 := (by injection e163)
          replace hx163_0 := (HB.out.cell (World.block_lt_of_cell? w _ hx163_0)).trans hx163_0
          replace hx163_1 := (HB.out.cell (World.block_lt_of_cell? w _ hx163_1)).trans hx163_1
          replace hx163_2 := (HB.out.cell (World.block_lt_of_cell? w _ hx163_2)).trans hx163_2
          replace p163 := eq_true p163
          replace q163 := eq_true q163
          have p164 : 0 ≤ (x7_1 : Int) := of_decide_eq_true (by first | (with_reducible assumption) | assumption)
          have q164 : x7_1 < (l0.length : Int) := of_decide_eq_true (by first | (with_reducible assumption) | assumption)
          obtain ⟨ad164, e164, hx164_0, hx164_1, hx164_2⟩ := at_T35 HR0.out x7_1 p164 q164
          obtain rfl : ad142 = ad164 := (by injection e164)
          replace hx164_0 := (HB.out.cell (World.block_lt_of_cell? w _ hx164_0)).trans hx164_0
          replace hx164_1 := (HB.out.cell (World.block_lt_of_cell? w _ hx164_1)).trans hx164_1
          replace hx164_2 := (HB.out.cell (World.block_lt_of_cell? w _ hx164_2)).trans hx164_2
          replace p164 := eq_true p164
          replace q164 := eq_true q164
          go_upto_if 65 with (fail)
          go_cut [8] (fun v8 wc => ∃ (kq : Nat) (x8_11 : Int), v8 = .int .i64 x8_11 ∧ Aside0 (blackboardlaw13_WearVictims.j1 kq l0 y146 y153 x5_1 y160 x7_1 x8_11 = some r) ∧ Aside0 (kq ≤ k1) ∧ Aside0 (Kd.R (Kd.int .i64) 3 wc w.heap.size (fun k_ => some k_ ≠ (v154 : Value).ownBlock ∧ some k_ ≠ (u5 : Value).ownBlock) v147 y146) ∧ Aside0 (Kd.R (Kd.int .i64) 3 wc w.heap.size (fun k_ => some k_ ≠ (v147 : Value).ownBlock ∧ some k_ ≠ (u5 : Value).ownBlock) v154 y153) ∧ Aside0 (Kd.R (Kd.int .i64) 3 wc w.heap.size (fun k_ => some k_ ≠ (v147 : Value).ownBlock ∧ some k_ ≠ (v154 : Value).ownBlock) u5 x5_1) ∧ Aside0 (Kd.R Kd.bool 4 wc w.heap.size (fun _ => True) v161 y160) ∧ Aside0 (Below w.heap.size w wc))
          case first =>
           have H := HC12.out
           clear HC12
           by_cases c30 : (Go.bits .and .u8 ((rd_T35 l0 x7_1).f2) 1) = 0
           ·
            rw [if_pos c30] at H
            have c30b0 : ((Go.bits .and .u8 ((rd_T35 l0 x7_1).f2) 1) == 0) = true := beq_iff_eq.mpr c30
            have c30b1 : ((Go.bits .and .u8 ((rd_T35 l0 x7_1).f2) 1) != 0) = false := bne_eq_false_iff_eq.mpr c30
            clear c30
            (first | rw [c30b0] | (simp only [i64_w, i32_w]; rw [c30b0]) | skip)
            have H' := Aside0.mk H
            clear H
            go_wp2
            (repeat (go_quiet (fail); try go_wp2))
            go_meet
            case rel => exact ⟨_, (0), (by first | rfl | (simp; done) | (simp [*]; done)), H', ⟨by have := HK1.out; first | omega | exact Nat.le_refl _⟩, ⟨by (with_reducible repeat (first | apply r1 | apply r2 | apply r3)); exact Kd.R_mono HO148.out (fun _ hk => ⟨hk.2.2.1, hk.2.2.2⟩)⟩, ⟨by (with_reducible repeat (first | apply r1 | apply r2 | apply r3)); exact Kd.R_mono HO155.out (fun _ hk => ⟨hk.2.1, hk.2.2.2⟩)⟩, ⟨by (with_reducible repeat (first | apply r1 | apply r2 | apply r3)); exact Kd.R_mono HO_5.out (fun _ hk => ⟨hk.2.1, hk.2.2.2⟩)⟩, ⟨by (with_reducible repeat (first | apply r1 | apply r2 | apply r3)); exact Kd.R_mono HO162.out (fun _ hk => trivial)⟩, ⟨by repeat (first | (with_reducible first | exact HB.out | apply b1 | apply b2 | apply b3) | exact HB.out)⟩⟩
           ·
            rw [if_neg c30] at H
            have c30b0 : ((Go.bits .and .u8 ((rd_T35 l0 x7_1).f2) 1) == 0) = false := beq_eq_false_iff_ne.mpr c30
            have c30b1 : ((Go.bits .and .u8 ((rd_T35 l0 x7_1).f2) 1) != 0) = true := bne_iff_ne.mpr c30
            (first | rw [c30b0] | (simp only [i64_w, i32_w]; rw [c30b0]) | skip)
            have H' := Aside0.mk H
            clear H
            go_wp2
            (repeat (go_quiet (fail); try go_wp2))
            go_meet
            case rel => exact ⟨_, (wrap64 ((rd_T35 l0 x7_1).f0)), (by first | rfl | (simp; done) | (simp [*]; done)), H', ⟨by have := HK1.out; first | omega | exact Nat.le_refl _⟩, ⟨by (with_reducible repeat (first | apply r1 | apply r2 | apply r3)); exact Kd.R_mono HO148.out (fun _ hk => ⟨hk.2.2.1, hk.2.2.2⟩)⟩, ⟨by (with_reducible repeat (first | apply r1 | apply r2 | apply r3)); exact Kd.R_mono HO155.out (fun _ hk => ⟨hk.2.1, hk.2.2.2⟩)⟩, ⟨by (with_reducible repeat (first | apply r1 | apply r2 | apply r3)); exact Kd.R_mono HO_5.out (fun _ hk => ⟨hk.2.1, hk.2.2.2⟩)⟩, ⟨by (with_reducible repeat (first | apply r1 | apply r2 | apply r3)); exact Kd.R_mono HO162.out (fun _ hk => trivial)⟩, ⟨by repeat (first | (with_reducible first | exact HB.out | apply b1 | apply b2 | apply b3) | exact HB.out)⟩⟩
          case rest =>
           clear HC12
           try clear c1
           try clear p1
           try clear q1
           try clear hx1
           try clear p2
           try clear c3
           try clear p6
           try clear c9
           try clear c10
           try clear c11
           try clear p16
           try clear q16
           try clear hx16
           try clear c30
           try clear c30b0
           try clear c30b1
           try clear hx163_0
           try clear hx163_1
           try clear hx163_2
           try clear hx164_0
           try clear hx164_1
           try clear hx164_2
           try clear p163
           try clear p164
           try clear q163
           try clear q164
           obtain ⟨kq, x8_11, rfl, HA, HJ11, HO_3, HO_4, HO_5, HO_6, HB⟩ := hcut
           cases kq with
           | zero => exact absurd HA.out (by simp [blackboardlaw13_WearVictims.j1])
           | succ kj11 =>
            have H := HA.out
            clear HA
            simp only [blackboardlaw13_WearVictims.j1] at H
            obtain ⟨y165, hy165⟩ : ∃ y_ : List Int, y_ = (([x8_11] : List Int)) := ⟨_, rfl⟩
            replace H : (if x5_1.length + y165.length < 17592186044416 then (blackboardlaw13_WearVictims.l0 kj11 l0 y146 y153 (x5_1 ++ y165) y160 (wrap64 (x7_1 + 1))) else (none)) = some r := by first | (rw [hy165]; with_reducible exact H) | (have H2_ := (Option.bind_some _ _).symm.trans H; rw [hy165]; with_reducible exact H2_) | (have H2_ := (Option.bind_some _ _).symm.trans H; with_reducible exact H2_) | with_reducible exact H | (rw [hy165]; exact H) | exact H
            have Ny165 := Aside0.mk hy165
            clear hy165
            by_cases c31 : x5_1.length + y165.length < 17592186044416
            ·
             rw [if_pos c31] at H
             have LMc31 := Aside0.mk c31
             clear c31
             obtain ⟨y168, hy168⟩ : ∃ y_ : List Int, y_ = (x5_1 ++ y165) := ⟨_, rfl⟩
             replace H : (blackboardlaw13_WearVictims.l0 kj11 l0 y146 y153 y168 y160 (wrap64 (x7_1 + 1))) = some r := by first | (rw [hy168]; with_reducible exact H) | (have H2_ := (Option.bind_some _ _).symm.trans H; rw [hy168]; with_reducible exact H2_) | (have H2_ := (Option.bind_some _ _).symm.trans H; with_reducible exact H2_) | with_reducible exact H | (rw [hy168]; exact H) | exact H
             have Ny168 := Aside0.mk hy168
             clear hy168
             have H' := Aside0.mk H
             clear H
             go_wp2_with (first | ((with_reducible refine gate_dst (N := 68) rfl ?_); refine Kd.R_lit (Kd.int .i64) _ 3 ?hg (N := 68) ?hd (xs := ([x8_11] : List Int)) (inner := [.int .i64 x8_11]) (ok := fun _ => True) (okp := fun _ => True) ?hr ?hp (fun _ hk => hk) trivial (Below.refl _ _) (Nat.le_refl _) (by simp) ?_; (case hd => rfl); (case hg => rfl); (case hr => first | (go_simp; done) | (go_simp; rfl)); (case hp => exact (Reps.one (show Kd.M (Kd.int .i64) _ _ _ x8_11 [.int .i64 x8_11] from rfl) (Reps.none _ _))); intro v166 w32 ho33 hb hg_ hnew_; clear hg_ hnew_; (first | rw [← Ny165.out] at ho33 | (simp only [Int.reduceToNat] at ho33; rw [← Ny165.out] at ho33)); have n0_ := Aside0.mk (Kd.R_elder' (by (with_reducible repeat (first | apply r1 | apply r2 | apply r3)); exact HO_3.out) (Kd.R_base ho33) hb); have n1_ := Aside0.mk (Kd.R_elder' (by (with_reducible repeat (first | apply r1 | apply r2 | apply r3)); exact HO_4.out) (Kd.R_base ho33) hb); have n2_ := Aside0.mk (Kd.R_elder' (by (with_reducible repeat (first | apply r1 | apply r2 | apply r3)); exact HO_5.out) (Kd.R_base ho33) hb); have n3_ := Aside0.mk (Kd.R_below (by (with_reducible repeat (first | apply r1 | apply r2 | apply r3)); exact HO_6.out) hb); have n4_ := Aside0.mk (Kd.R_lower (Kd.R_new' (Kd.R_new' (Kd.R_new' ho33 (Kd.R_lt (by (with_reducible repeat (first | apply r1 | apply r2 | apply r3)); exact HO_3.out))) (Kd.R_lt (by (with_reducible repeat (first | apply r1 | apply r2 | apply r3)); exact HO_4.out))) (Kd.R_lt (by (with_reducible repeat (first | apply r1 | apply r2 | apply r3)); exact HO_5.out))) (below_size (by repeat (first | (with_reducible first | exact HB.out | apply b1 | apply b2 | apply b3) | exact HB.out)))); have n5_ := Aside0.mk (below_step (by repeat (first | (with_reducible first | exact HB.out | apply b1 | apply b2 | apply b3) | exact HB.out)) hb); clear HO_3; clear HO_4; clear HO_5; clear HO_6; clear HB; have HO_3 := n0_; have HO_4 := n1_; have HO_5 := n2_; have HO_6 := n3_; have HO167 := n4_; have HB := n5_; clear n0_ n1_ n2_ n3_ n4_ n5_; clear hb ho33; obtain ⟨Ao35, co35, eo35⟩ := Kd.R_slice HO167.out; subst eo35) | ((with_reducible refine gate_builtin (b := .append) (xs := #[.tmp 66, .tmp 68]) rfl ?_); at_builtin; refine Kd.R_append_rows (Kd.int .i64) (w0 := w) w.heap.size rfl (.tmp 66) (.tmp 68) 23 3 (.int .i64 0) 8 rfl Try.underlying23 info3 rfl (by decide) (by omega) u5 x5_1 y165 _ _ _ (fun k_ => some k_ ≠ (v147 : Value).ownBlock ∧ some k_ ≠ (v154 : Value).ownBlock ∧ some k_ ≠ (.slice Ao35 y165.length co35 : Value).ownBlock) (fun _ => False) rfl rfl ?aO ?aR (fun _ _ h => h) (fun _ h => h.elim) ?aF ?aB ?aS ?aL ?_; (case aR => repeat (first | exact (Kd.R_reads' HO167.out).2.2 | (with_reducible refine Kd.C_alloc ?_ _) | (with_reducible refine Kd.C_drewN ?_ _) | (with_reducible refine Kd.C_drew ?_))); (case aB => exact (by repeat (first | (with_reducible first | exact HB.out | apply b1 | apply b2 | apply b3) | exact HB.out))); (case aF => exact (fun k_ hk => ⟨Kd.fresh' (Kd.R_lt (by (with_reducible repeat (first | apply r1 | apply r2 | apply r3)); exact HO_3.out)) k_ hk, Kd.fresh' (Kd.R_lt (by (with_reducible repeat (first | apply r1 | apply r2 | apply r3)); exact HO_4.out)) k_ hk, Kd.fresh' (Kd.R_lt (by (with_reducible repeat (first | apply r1 | apply r2 | apply r3)); exact HO167.out)) k_ hk⟩)); (case aO => exact (by (with_reducible repeat (first | apply r1 | apply r2 | apply r3)); exact Kd.R_mono HO_5.out (fun _ hk => ⟨hk.1.1, ⟨hk.1.2, hk.2⟩⟩))); (case aS => exact (below_size (by repeat (first | (with_reducible first | exact HB.out | apply b1 | apply b2 | apply b3) | exact HB.out)))); (case aL => have := LMc31.out; omega); intro v169 w34 ho hb hg hat; rw [← Ny168.out] at ho; have n0_ := Aside0.mk (Kd.R_after (ok := (fun k_ => some k_ ≠ (v154 : Value).ownBlock ∧ some k_ ≠ (.slice Ao35 y165.length co35 : Value).ownBlock)) (by (with_reducible repeat (first | apply r1 | apply r2 | apply r3)); exact Kd.R_mono HO_3.out (fun _ hk => ⟨⟨hk.1.1, hk.2⟩, hk.1.2⟩)) hg hat); have n1_ := Aside0.mk (Kd.R_after (ok := (fun k_ => some k_ ≠ (v147 : Value).ownBlock ∧ some k_ ≠ (.slice Ao35 y165.length co35 : Value).ownBlock)) (by (with_reducible repeat (first | apply r1 | apply r2 | apply r3)); exact Kd.R_mono HO_4.out (fun _ hk => ⟨⟨hk.1.1, hk.2⟩, hk.1.2⟩)) hg hat); have n2_ := Aside0.mk (Kd.R_over' (by (with_reducible repeat (first | apply r1 | apply r2 | apply r3)); exact HO_6.out) (Kd.R_typed (by (with_reducible repeat (first | apply r1 | apply r2 | apply r3)); exact HO_5.out)) (by decide) hg); have n3_ := Aside0.mk (Kd.R_after (ok := (fun k_ => some k_ ≠ (v147 : Value).ownBlock ∧ some k_ ≠ (v154 : Value).ownBlock)) (by (with_reducible repeat (first | apply r1 | apply r2 | apply r3)); exact Kd.R_mono HO167.out (fun _ hk => ⟨⟨hk.1.1.2, hk.1.2⟩, hk.2⟩)) hg hat); have n4_ := Aside0.mk (hb); have n5_ := Aside0.mk (ho); clear HO_3; clear HO_4; clear HO_6; clear HO167; clear HB; clear HO_5; have HO_3 := n0_; have HO_4 := n1_; have HO_6 := n2_; have HO167 := n3_; have HB := n4_; have HO170 := n5_; clear n0_ n1_ n2_ n3_ n4_ n5_; clear ho hb hg hat))
             go_roundg kj11
             case measure => have := HK1.out; have := HJ11.out; omega
             case rel => exact ⟨(y146), (y153), (y168), (y160), (wrap64 (x7_1 + 1)), (by first | rfl | (simp; done) | (simp [*]; done)), H', ⟨by have := HK1.out; have := HJ11.out; omega⟩, ⟨by (with_reducible repeat (first | apply r1 | apply r2 | apply r3)); exact Kd.R_mono HO_3.out (fun _ hk => ⟨hk.1.1, hk.2⟩)⟩, ⟨by (with_reducible repeat (first | apply r1 | apply r2 | apply r3)); exact Kd.R_mono HO_4.out (fun _ hk => ⟨hk.1.1, hk.2⟩)⟩, ⟨by (with_reducible repeat (first | apply r1 | apply r2 | apply r3)); exact Kd.R_mono HO170.out (fun _ hk => ⟨hk.1, hk.2.1⟩)⟩, ⟨by (with_reducible repeat (first | apply r1 | apply r2 | apply r3)); exact HO_6.out⟩, ⟨by repeat (first | (with_reducible first | exact HB.out | apply b1 | apply b2 | apply b3) | exact HB.out)⟩⟩
            ·
             rw [if_neg c31] at H
             exact absurd H (by simp)
         ·
          rw [if_neg c11] at H
          exact absurd H (by simp)
        ·
         rw [if_neg c10] at H
         exact absurd H (by simp)
       ·
        rw [if_neg c9] at H
        exact absurd H (by simp)
      ·
       rw [if_neg c8] at H
       exact absurd H (by simp)
     ·
      rw [if_neg c7] at H
      have c7b0 : decide (x7_1 < (l0.length : Int)) = false := decide_eq_false c7
      clear c7
      replace H := Option.bind_eq_some_iff.mp H
      obtain ⟨⟨t171, t172⟩, A360, H⟩ := H
      replace H : ((wear_Victim.f k1 x5_1 x4_1 x6_1).bind fun bt173 => (if t171 = bt173.1 then (blackboardlaw13_WearVictims.j2 k1 l0 x3_1 x4_1 x6_1 t171 t172 (t172 != bt173.2)) else (blackboardlaw13_WearVictims.j2 k1 l0 x3_1 x4_1 x6_1 t171 t172 true))) = some r := H
      have A36 := Aside0.mk A360
      clear A360
      replace H := Option.bind_eq_some_iff.mp H
      obtain ⟨⟨t173, t174⟩, A370, H⟩ := H
      replace H : (if t171 = t173 then (blackboardlaw13_WearVictims.j2 k1 l0 x3_1 x4_1 x6_1 t171 t172 (t172 != t174)) else (blackboardlaw13_WearVictims.j2 k1 l0 x3_1 x4_1 x6_1 t171 t172 true)) = some r := H
      have A37 := Aside0.mk A370
      clear A370
      have HC38 := Aside0.mk H
      clear H
      obtain ⟨Ao39, co39, eo39⟩ := Kd.R_slice HO_3.out
      subst eo39
      obtain ⟨Ao40, co40, eo40⟩ := Kd.R_slice HO_4.out
      subst eo40
      obtain ⟨Ao41, co41, eo41⟩ := Kd.R_slice HO_6.out
      subst eo41
      go_upto_region 17 with (first | ((with_reducible refine gate_callee (f := 12) rfl ?_); refine goesL_ (some 74) rfl rfl Try.func12 (by kernel_rfl) rfl #[.slice Ao39 x3_1.length co39, .slice Ao40 x4_1.length co40, .slice Ao41 x6_1.length co41] rfl (by (try simp only [List.map_toArray, List.map_cons, List.map_nil]); first | done | rfl | (simp only [List.length_drop, List.length_take]; rfl)) ?_; (with_reducible refine (wear_Victim.calls k1 (fun k_ => some k_ = (.slice Ao39 x3_1.length co39 : Value).ownBlock) _ _ x3_1 (fun k_ => some k_ = (.slice Ao40 x4_1.length co40 : Value).ownBlock) _ _ x4_1 _ _ x6_1 t171 t172 _ ?side1 ?side2 ?side3 ?side4 A36.out).mono ?_); (case side1 => exact Kd.R_V (Kd.R_tight rfl (Kd.R_apart' (HO_3.out) (Kd.R_typed HO_6.out) (by decide)))); (case side2 => exact Kd.R_V (Kd.R_tight rfl (Kd.R_apart' (HO_4.out) (Kd.R_typed HO_6.out) (by decide)))); (case side3 => repeat (first | exact (Kd.R_reads' HO_6.out).2.2 | (with_reducible refine Kd.C_alloc ?_ _) | (with_reducible refine Kd.C_drewN ?_ _) | (with_reducible refine Kd.C_drew ?_))); (case side4 => exact (Kd.R_reads' HO_6.out).2.1); rintro e w42 ⟨rfl, hb⟩; refine ⟨_, rfl, ?_⟩; have n0_ := Aside0.mk (Kd.R_below (by (with_reducible repeat (first | apply r1 | apply r2 | apply r3)); exact HO_3.out) hb); have n1_ := Aside0.mk (Kd.R_below (by (with_reducible repeat (first | apply r1 | apply r2 | apply r3)); exact HO_4.out) hb); have n2_ := Aside0.mk (Kd.R_below (by (with_reducible repeat (first | apply r1 | apply r2 | apply r3)); exact HO_5.out) hb); have n3_ := Aside0.mk (Kd.R_below (by (with_reducible repeat (first | apply r1 | apply r2 | apply r3)); exact HO_6.out) hb); have n4_ := Aside0.mk (below_step (by repeat (first | (with_reducible first | exact HB.out | apply b1 | apply b2 | apply b3) | exact HB.out)) hb); clear HO_3; clear HO_4; clear HO_5; clear HO_6; clear HB; have HO_3 := n0_; have HO_4 := n1_; have HO_5 := n2_; have HO_6 := n3_; have HB := n4_; clear n0_ n1_ n2_ n3_ n4_; (try clear hb); (try clear hb2); (try clear hk); (try clear hi); obtain ⟨Ao43, co43, eo43⟩ := Kd.R_slice HO_5.out; subst eo43) | ((with_reducible refine gate_callee (f := 12) rfl ?_); refine goesL_ (some 81) rfl rfl Try.func12 (by kernel_rfl) rfl #[.slice Ao43 x5_1.length co43, .slice Ao40 x4_1.length co40, .slice Ao41 x6_1.length co41] rfl (by (try simp only [List.map_toArray, List.map_cons, List.map_nil]); first | done | rfl | (simp only [List.length_drop, List.length_take]; rfl)) ?_; (with_reducible refine (wear_Victim.calls k1 (fun k_ => some k_ = (.slice Ao43 x5_1.length co43 : Value).ownBlock) _ _ x5_1 (fun k_ => some k_ = (.slice Ao40 x4_1.length co40 : Value).ownBlock) _ _ x4_1 _ _ x6_1 t173 t174 _ ?side1 ?side2 ?side3 ?side4 A37.out).mono ?_); (case side1 => exact Kd.R_V (Kd.R_tight rfl (Kd.R_apart' (HO_5.out) (Kd.R_typed HO_6.out) (by decide)))); (case side2 => exact Kd.R_V (Kd.R_tight rfl (Kd.R_apart' (HO_4.out) (Kd.R_typed HO_6.out) (by decide)))); (case side3 => repeat (first | exact (Kd.R_reads' HO_6.out).2.2 | (with_reducible refine Kd.C_alloc ?_ _) | (with_reducible refine Kd.C_drewN ?_ _) | (with_reducible refine Kd.C_drew ?_))); (case side4 => exact (Kd.R_reads' HO_6.out).2.1); rintro e w44 ⟨rfl, hb⟩; refine ⟨_, rfl, ?_⟩; have n0_ := Aside0.mk (Kd.R_below (by (with_reducible repeat (first | apply r1 | apply r2 | apply r3)); exact HO_3.out) hb); have n1_ := Aside0.mk (Kd.R_below (by (with_reducible repeat (first | apply r1 | apply r2 | apply r3)); exact HO_4.out) hb); have n2_ := Aside0.mk (Kd.R_below (by (with_reducible repeat (first | apply r1 | apply r2 | apply r3)); exact HO_5.out) hb); have n3_ := Aside0.mk (Kd.R_below (by (with_reducible repeat (first | apply r1 | apply r2 | apply r3)); exact HO_6.out) hb); have n4_ := Aside0.mk (below_step (by repeat (first | (with_reducible first | exact HB.out | apply b1 | apply b2 | apply b3) | exact HB.out)) hb); clear HO_3; clear HO_4; clear HO_5; clear HO_6; clear HB; have HO_3 := n0_; have HO_4 := n1_; have HO_5 := n2_; have HO_6 := n3_; have HB := n4_; clear n0_ n1_ n2_ n3_ n4_; (try clear hb); (try clear hb2); (try clear hk); (try clear hi)))
      (try simp only [Act.put, p1, p2, p3])
      go_cut [91] (fun v91 wc => ∃ (kq : Nat) (x91_37 : Bool), v91 = .bool x91_37 ∧ Aside0 (blackboardlaw13_WearVictims.j2 kq l0 x3_1 x4_1 x6_1 t171 t172 x91_37 = some r) ∧ Aside0 (kq ≤ k1) ∧ Aside0 (Kd.R (Kd.int .i64) 3 wc w.heap.size (fun k_ => some k_ ≠ ((.slice Ao40 x4_1.length co40) : Value).ownBlock) (.slice Ao39 x3_1.length co39) x3_1) ∧ Aside0 (Kd.R (Kd.int .i64) 3 wc w.heap.size (fun k_ => some k_ ≠ ((.slice Ao39 x3_1.length co39) : Value).ownBlock) (.slice Ao40 x4_1.length co40) x4_1) ∧ Aside0 (Kd.R Kd.bool 4 wc w.heap.size (fun _ => True) (.slice Ao41 x6_1.length co41) x6_1) ∧ Aside0 (Below w.heap.size w wc))
      case first =>
       have H := HC38.out
       clear HC38
       by_cases c45 : t171 = t173
       ·
        rw [if_pos c45] at H
        have c45b0 : (t171 == t173) = true := beq_iff_eq.mpr c45
        have c45b1 : (t171 != t173) = false := bne_eq_false_iff_eq.mpr c45
        clear c45
        (first | rw [c45b0] | (simp only [i64_w, i32_w]; rw [c45b0]) | skip)
        have H' := Aside0.mk H
        clear H
        go_wp2
        (repeat (go_quiet (fail); try go_wp2))
        go_meet
        case rel => exact ⟨_, ((t172 != t174)), (by first | rfl | (simp; done) | (simp [*]; done)), H', ⟨by have := HK1.out; first | omega | exact Nat.le_refl _⟩, ⟨by (with_reducible repeat (first | apply r1 | apply r2 | apply r3)); exact Kd.R_mono HO_3.out (fun _ hk => hk.1)⟩, ⟨by (with_reducible repeat (first | apply r1 | apply r2 | apply r3)); exact Kd.R_mono HO_4.out (fun _ hk => hk.1)⟩, ⟨by (with_reducible repeat (first | apply r1 | apply r2 | apply r3)); exact HO_6.out⟩, ⟨by repeat (first | (with_reducible first | exact HB.out | apply b1 | apply b2 | apply b3) | exact HB.out)⟩⟩
       ·
        rw [if_neg c45] at H
        have c45b0 : (t171 == t173) = false := beq_eq_false_iff_ne.mpr c45
        have c45b1 : (t171 != t173) = true := bne_iff_ne.mpr c45
        (first | rw [c45b0] | (simp only [i64_w, i32_w]; rw [c45b0]) | skip)
        rw [HRT_.out] at H
        exact absurd H (blackboardlaw13_WearVictims.j2_no _ _ _ _ _ _ _)
      case rest =>
       clear HC38
       try clear c1
       try clear p1
       try clear q1
       try clear hx1
       try clear p2
       try clear c3
       try clear c4
       try clear p6
       try clear c7
       try clear c7b0
       try clear c8
       try clear c9
       try clear c10
       try clear c11
       try clear c12
       try clear p16
       try clear q16
       try clear hx16
       try clear c30
       try clear c30b0
       try clear c30b1
       try clear c31
       try clear c45
       try clear c45b0
       try clear c45b1
       try clear hx163_0
       try clear hx163_1
       try clear hx163_2
       try clear hx164_0
       try clear hx164_1
       try clear hx164_2
       try clear p1
       try clear p16
       try clear p163
       try clear p164
       try clear p2
       try clear p6
       try clear q1
       try clear q16
       try clear q163
       try clear q164
       obtain ⟨kq, x91_37, rfl, HA, HJ37, HO_3, HO_4, HO_6, HB⟩ := hcut
       cases kq with
       | zero => exact absurd HA.out (by simp [blackboardlaw13_WearVictims.j2])
       | succ kj37 =>
        have H := HA.out
        clear HA
        simp only [blackboardlaw13_WearVictims.j2] at H
        by_cases c46 : x91_37 = true
        ·
         subst c46
         have H1 : (some false) = some r := by rw [if_pos rfl] at H; exact H
         clear H
         have H := H1
         clear H1
         obtain rfl := Option.some.inj H
         exact absurd HRT_.out (by simp)
        ·
         replace c46 := Bool.eq_false_iff.mpr c46
         subst c46
         have H1 : (blackboardlaw13_WearVictims.l1 kj37 l0 x3_1 x4_1 x6_1 t171 t172 0) = some r := by rw [if_neg (show ¬ (false = true) by decide)] at H; exact H
         clear H
         have H := H1
         clear H1
         have H' := Aside0.mk H
         clear H
         go_wp2
         (repeat (go_quiet (fail); try go_wp2))
         go_loopg [13] kj37 (fun kq v13 w' => ∃ (x13_3 : Int), v13 = .int .i64 x13_3 ∧ Aside0 (blackboardlaw13_WearVictims.l1 kq l0 x3_1 x4_1 x6_1 t171 t172 x13_3 = some r) ∧ Aside0 (kq ≤ kj37) ∧ Aside0 (Kd.R (Kd.int .i64) 3 w' w.heap.size (fun k_ => some k_ ≠ ((.slice Ao40 x4_1.length co40) : Value).ownBlock) (.slice Ao39 x3_1.length co39) x3_1) ∧ Aside0 (Kd.R (Kd.int .i64) 3 w' w.heap.size (fun k_ => some k_ ≠ ((.slice Ao39 x3_1.length co39) : Value).ownBlock) (.slice Ao40 x4_1.length co40) x4_1) ∧ Aside0 (Kd.R Kd.bool 4 w' w.heap.size (fun _ => True) (.slice Ao41 x6_1.length co41) x6_1) ∧ Aside0 (Below w.heap.size w w'))
         case atStart => exact ⟨(0), (by first | rfl | (simp; done) | (simp [*]; done)), H', ⟨Nat.le_refl _⟩, ⟨by (with_reducible repeat (first | apply r1 | apply r2 | apply r3)); exact HO_3.out⟩, ⟨by (with_reducible repeat (first | apply r1 | apply r2 | apply r3)); exact HO_4.out⟩, ⟨by (with_reducible repeat (first | apply r1 | apply r2 | apply r3)); exact HO_6.out⟩, ⟨by repeat (first | (with_reducible first | exact HB.out | apply b1 | apply b2 | apply b3) | exact HB.out)⟩⟩
         case round =>
          clear H'
          try clear c1
          try clear p1
          try clear q1
          try clear hx1
          try clear p2
          try clear c3
          try clear c4
          try clear p6
          try clear c7
          try clear c7b0
          try clear c8
          try clear c9
          try clear c10
          try clear c11
          try clear c12
          try clear p16
          try clear q16
          try clear hx16
          try clear c30
          try clear c30b0
          try clear c30b1
          try clear c31
          try clear c45
          try clear c45b0
          try clear c45b1
          try clear c46
          try clear hx163_0
          try clear hx163_1
          try clear hx163_2
          try clear hx164_0
          try clear hx164_1
          try clear hx164_2
          try clear p1
          try clear p16
          try clear p163
          try clear p164
          try clear p2
          try clear p6
          try clear q1
          try clear q16
          try clear q163
          try clear q164
          obtain ⟨x13_3, rfl, HA, HK3, HO_3, HO_4, HO_6, HB⟩ := hrel
          cases gk with
          | zero => exact absurd HA.out (by simp [blackboardlaw13_WearVictims.l1])
          | succ k3 =>
           have H := HA.out
           clear HA
           simp only [blackboardlaw13_WearVictims.l1] at H
           by_cases c47 : x13_3 < (l0.length : Int)
           ·
            rw [if_pos c47] at H
            have c47b0 : decide (x13_3 < (l0.length : Int)) = true := decide_eq_true c47
            clear c47
            have HC48 := Aside0.mk H
            clear H
            go_upto_region 22 with (fail)
            go_cut [154] (fun v154 wc => ∃ (kq : Nat) (x154_47 : Bool), v154 = .bool x154_47 ∧ Aside0 (blackboardlaw13_WearVictims.j4 kq l0 x3_1 x4_1 x6_1 t171 t172 x13_3 x154_47 = some r) ∧ Aside0 (kq ≤ k3) ∧ Aside0 (Kd.R (Kd.int .i64) 3 wc w.heap.size (fun k_ => some k_ ≠ ((.slice Ao40 x4_1.length co40) : Value).ownBlock) (.slice Ao39 x3_1.length co39) x3_1) ∧ Aside0 (Kd.R (Kd.int .i64) 3 wc w.heap.size (fun k_ => some k_ ≠ ((.slice Ao39 x3_1.length co39) : Value).ownBlock) (.slice Ao40 x4_1.length co40) x4_1) ∧ Aside0 (Kd.R Kd.bool 4 wc w.heap.size (fun _ => True) (.slice Ao41 x6_1.length co41) x6_1) ∧ Aside0 (Below w.heap.size w wc))
            case first =>
             have H := HC48.out
             clear HC48
             by_cases c49 : 0 ≤ x13_3
             ·
              rw [if_pos c49] at H
              have c49b0 : decide (0 ≤ x13_3) = true := decide_eq_true c49
              clear c49
              (first | rw [c49b0] | (simp only [i64_w, i32_w]; rw [c49b0]) | skip)
              by_cases c50 : x13_3 < (x6_1.length : Int)
              ·
               rw [if_pos c50] at H
               have c50b0 : decide (x13_3 < (x6_1.length : Int)) = true := decide_eq_true c50
               clear c50
               obtain ⟨bq51, hbq51⟩ : ∃ b_ : Bool, b_ = (rdOf false x6_1 x13_3) := ⟨_, rfl⟩
               replace H : (if bq51 = true then (if t172 = true then (if x13_3 < (x3_1.length : Int) then (if 0 ≤ t171 then (if t171 < (x3_1.length : Int) then (if (rd x3_1 x13_3) < (rd x3_1 t171) then (blackboardlaw13_WearVictims.j4 k3 l0 x3_1 x4_1 x6_1 t171 t172 x13_3 true) else (if (rd x3_1 x13_3) = (rd x3_1 t171) then (if x13_3 < (x4_1.length : Int) then (if t171 < (x4_1.length : Int) then (if (rd x4_1 x13_3) < (rd x4_1 t171) then (blackboardlaw13_WearVictims.j4 k3 l0 x3_1 x4_1 x6_1 t171 t172 x13_3 true) else (if (rd x4_1 x13_3) = (rd x4_1 t171) then (blackboardlaw13_WearVictims.j4 k3 l0 x3_1 x4_1 x6_1 t171 t172 x13_3 (decide (x13_3 < t171))) else (blackboardlaw13_WearVictims.j4 k3 l0 x3_1 x4_1 x6_1 t171 t172 x13_3 false))) else (none)) else (none)) else (blackboardlaw13_WearVictims.j4 k3 l0 x3_1 x4_1 x6_1 t171 t172 x13_3 false))) else (none)) else (none)) else (none)) else (blackboardlaw13_WearVictims.j4 k3 l0 x3_1 x4_1 x6_1 t171 t172 x13_3 true)) else (blackboardlaw13_WearVictims.j4 k3 l0 x3_1 x4_1 x6_1 t171 t172 x13_3 false)) = some r := by rw [← hbq51] at H; exact H
               have Nbq51 := Aside0.mk hbq51
               clear hbq51
               by_cases c52 : bq51 = true
               ·
                subst c52
                have H1 : (if t172 = true then (if x13_3 < (x3_1.length : Int) then (if 0 ≤ t171 then (if t171 < (x3_1.length : Int) then (if (rd x3_1 x13_3) < (rd x3_1 t171) then (blackboardlaw13_WearVictims.j4 k3 l0 x3_1 x4_1 x6_1 t171 t172 x13_3 true) else (if (rd x3_1 x13_3) = (rd x3_1 t171) then (if x13_3 < (x4_1.length : Int) then (if t171 < (x4_1.length : Int) then (if (rd x4_1 x13_3) < (rd x4_1 t171) then (blackboardlaw13_WearVictims.j4 k3 l0 x3_1 x4_1 x6_1 t171 t172 x13_3 true) else (if (rd x4_1 x13_3) = (rd x4_1 t171) then (blackboardlaw13_WearVictims.j4 k3 l0 x3_1 x4_1 x6_1 t171 t172 x13_3 (decide (x13_3 < t171))) else (blackboardlaw13_WearVictims.j4 k3 l0 x3_1 x4_1 x6_1 t171 t172 x13_3 false))) else (none)) else (none)) else (blackboardlaw13_WearVictims.j4 k3 l0 x3_1 x4_1 x6_1 t171 t172 x13_3 false))) else (none)) else (none)) else (none)) else (blackboardlaw13_WearVictims.j4 k3 l0 x3_1 x4_1 x6_1 t171 t172 x13_3 true)) = some r := by rw [if_pos rfl] at H; exact H
                clear H
                have H := H1
                clear H1
                by_cases c53 : t172 = true
                ·
                 subst c53
                 have H1 : (if x13_3 < (x3_1.length : Int) then (if 0 ≤ t171 then (if t171 < (x3_1.length : Int) then (if (rd x3_1 x13_3) < (rd x3_1 t171) then (blackboardlaw13_WearVictims.j4 k3 l0 x3_1 x4_1 x6_1 t171 true x13_3 true) else (if (rd x3_1 x13_3) = (rd x3_1 t171) then (if x13_3 < (x4_1.length : Int) then (if t171 < (x4_1.length : Int) then (if (rd x4_1 x13_3) < (rd x4_1 t171) then (blackboardlaw13_WearVictims.j4 k3 l0 x3_1 x4_1 x6_1 t171 true x13_3 true) else (if (rd x4_1 x13_3) = (rd x4_1 t171) then (blackboardlaw13_WearVictims.j4 k3 l0 x3_1 x4_1 x6_1 t171 true x13_3 (decide (x13_3 < t171))) else (blackboardlaw13_WearVictims.j4 k3 l0 x3_1 x4_1 x6_1 t171 true x13_3 false))) else (none)) else (none)) else (blackboardlaw13_WearVictims.j4 k3 l0 x3_1 x4_1 x6_1 t171 true x13_3 false))) else (none)) else (none)) else (none)) = some r := by rw [if_pos rfl] at H; exact H
                 clear H
                 have H := H1
                 clear H1
                 by_cases c54 : x13_3 < (x3_1.length : Int)
                 ·
                  rw [if_pos c54] at H
                  have c54b0 : decide (x13_3 < (x3_1.length : Int)) = true := decide_eq_true c54
                  clear c54
                  by_cases c55 : 0 ≤ t171
                  ·
                   rw [if_pos c55] at H
                   have c55b0 : decide (0 ≤ t171) = true := decide_eq_true c55
                   clear c55
                   by_cases c56 : t171 < (x3_1.length : Int)
                   ·
                    rw [if_pos c56] at H
                    have c56b0 : decide (t171 < (x3_1.length : Int)) = true := decide_eq_true c56
                    clear c56
                    by_cases c57 : (rd x3_1 x13_3) < (rd x3_1 t171)
                    ·
                     rw [if_pos c57] at H
                     have c57b0 : decide ((rd x3_1 x13_3) < (rd x3_1 t171)) = true := decide_eq_true c57
                     clear c57
                     rw [HRT_.out] at H
                     exact absurd H (blackboardlaw13_WearVictims.j4_no _ _ _ _ _ _ _ _)
                    ·
                     rw [if_neg c57] at H
                     have c57b0 : decide ((rd x3_1 x13_3) < (rd x3_1 t171)) = false := decide_eq_false c57
                     clear c57
                     by_cases c58 : (rd x3_1 x13_3) = (rd x3_1 t171)
                     ·
                      rw [if_pos c58] at H
                      have c58b0 : ((rd x3_1 x13_3) == (rd x3_1 t171)) = true := beq_iff_eq.mpr c58
                      have c58b1 : ((rd x3_1 x13_3) != (rd x3_1 t171)) = false := bne_eq_false_iff_eq.mpr c58
                      clear c58
                      by_cases c59 : x13_3 < (x4_1.length : Int)
                      ·
                       rw [if_pos c59] at H
                       have c59b0 : decide (x13_3 < (x4_1.length : Int)) = true := decide_eq_true c59
                       clear c59
                       by_cases c60 : t171 < (x4_1.length : Int)
                       ·
                        rw [if_pos c60] at H
                        have c60b0 : decide (t171 < (x4_1.length : Int)) = true := decide_eq_true c60
                        clear c60
                        by_cases c61 : (rd x4_1 x13_3) < (rd x4_1 t171)
                        ·
                         rw [if_pos c61] at H
                         have c61b0 : decide ((rd x4_1 x13_3) < (rd x4_1 t171)) = true := decide_eq_true c61
                         clear c61
                         rw [HRT_.out] at H
                         exact absurd H (blackboardlaw13_WearVictims.j4_no _ _ _ _ _ _ _ _)
                        ·
                         rw [if_neg c61] at H
                         have c61b0 : decide ((rd x4_1 x13_3) < (rd x4_1 t171)) = false := decide_eq_false c61
                         clear c61
                         by_cases c62 : (rd x4_1 x13_3) = (rd x4_1 t171)
                         ·
                          rw [if_pos c62] at H
                          have c62b0 : ((rd x4_1 x13_3) == (rd x4_1 t171)) = true := beq_iff_eq.mpr c62
                          have c62b1 : ((rd x4_1 x13_3) != (rd x4_1 t171)) = false := bne_eq_false_iff_eq.mpr c62
                          clear c62
                          have H' := Aside0.mk H
                          clear H
                          have p175 : 0 ≤ (x13_3 : Int) := of_decide_eq_true (by first | (with_reducible assumption) | assumption)
                          have q175 : x13_3 < (x6_1.length : Int) := of_decide_eq_true (by first | (with_reducible assumption) | assumption)
                          obtain ⟨ad175, e175, hx175_0⟩ := Kd.at_bool (Kd.R_reads' HO_6.out).2.2 x13_3 p175 q175
                          (try rw [← Nbq51.out] at hx175_0)
                          cases e175
                          replace p175 := eq_true p175
                          replace q175 := eq_true q175
                          have p176 : 0 ≤ (x13_3 : Int) := of_decide_eq_true (by first | (with_reducible assumption) | assumption)
                          have q176 : x13_3 < (x3_1.length : Int) := of_decide_eq_true (by first | (with_reducible assumption) | assumption)
                          obtain ⟨ad176, e176, hx176_0⟩ := Kd.at_int (Kd.R_reads' HO_3.out).2.2 x13_3 p176 q176
                          cases e176
                          replace p176 := eq_true p176
                          replace q176 := eq_true q176
                          have p177 : 0 ≤ (t171 : Int) := of_decide_eq_true (by first | (with_reducible assumption) | assumption)
                          have q177 : t171 < (x3_1.length : Int) := of_decide_eq_true (by first | (with_reducible assumption) | assumption)
                          obtain ⟨ad177, e177, hx177_0⟩ := Kd.at_int (Kd.R_reads' HO_3.out).2.2 t171 p177 q177
                          obtain rfl : ad176 = ad177 := (by injection e177)
                          replace p177 := eq_true p177
                          replace q177 := eq_true q177
                          have p178 : 0 ≤ (x13_3 : Int) := of_decide_eq_true (by first | (with_reducible assumption) | assumption)
                          have q178 : x13_3 < (x3_1.length : Int) := of_decide_eq_true (by first | (with_reducible assumption) | assumption)
                          obtain ⟨ad178, e178, hx178_0⟩ := Kd.at_int (Kd.R_reads' HO_3.out).2.2 x13_3 p178 q178
                          obtain rfl : ad176 = ad178 := (by injection e178)
                          replace p178 := eq_true p178
                          replace q178 := eq_true q178
                          have p179 : 0 ≤ (t171 : Int) := of_decide_eq_true (by first | (with_reducible assumption) | assumption)
                          have q179 : t171 < (x3_1.length : Int) := of_decide_eq_true (by first | (with_reducible assumption) | assumption)
                          obtain ⟨ad179, e179, hx179_0⟩ := Kd.at_int (Kd.R_reads' HO_3.out).2.2 t171 p179 q179
                          obtain rfl : ad176 = ad179 := (by injection e179)
                          replace p179 := eq_true p179
                          replace q179 := eq_true q179
                          have p180 : 0 ≤ (x13_3 : Int) := of_decide_eq_true (by first | (with_reducible assumption) | assumption)
                          have q180 : x13_3 < (x4_1.length : Int) := of_decide_eq_true (by first | (with_reducible assumption) | assumption)
                          obtain ⟨ad180, e180, hx180_0⟩ := Kd.at_int (Kd.R_reads' HO_4.out).2.2 x13_3 p180 q180
                          cases e180
                          replace p180 := eq_true p180
                          replace q180 := eq_true q180
                          have p181 : 0 ≤ (t171 : Int) := of_decide_eq_true (by first | (with_reducible assumption) | assumption)
                          have q181 : t171 < (x4_1.length : Int) := of_decide_eq_true (by first | (with_reducible assumption) | assumption)
                          obtain ⟨ad181, e181, hx181_0⟩ := Kd.at_int (Kd.R_reads' HO_4.out).2.2 t171 p181 q181
                          obtain rfl : ad180 = ad181 := (by injection e181)
                          replace p181 := eq_true p181
                          replace q181 := eq_true q181
                          have p182 : 0 ≤ (x13_3 : Int) := of_decide_eq_true (by first | (with_reducible assumption) | assumption)
                          have q182 : x13_3 < (x4_1.length : Int) := of_decide_eq_true (by first | (with_reducible assumption) | assumption)
                          obtain ⟨ad182, e182, hx182_0⟩ := Kd.at_int (Kd.R_reads' HO_4.out).2.2 x13_3 p182 q182
                          obtain rfl : ad180 = ad182 := (by injection e182)
                          replace p182 := eq_true p182
                          replace q182 := eq_true q182
                          have p183 : 0 ≤ (t171 : Int) := of_decide_eq_true (by first | (with_reducible assumption) | assumption)
                          have q183 : t171 < (x4_1.length : Int) := of_decide_eq_true (by first | (with_reducible assumption) | assumption)
                          obtain ⟨ad183, e183, hx183_0⟩ := Kd.at_int (Kd.R_reads' HO_4.out).2.2 t171 p183 q183
                          obtain rfl : ad180 = ad183 := (by injection e183)
                          replace p183 := eq_true p183
                          replace q183 := eq_true q183
                          go_wp2
                          (repeat (go_quiet (fail); try go_wp2))
                          go_meet
                          case rel => exact ⟨_, (decide (x13_3 < t171)), (by first | rfl | (simp; done) | (simp [*]; done)), H', ⟨by have := HK1.out; have := HJ37.out; have := HK3.out; first | omega | exact Nat.le_refl _⟩, ⟨by (with_reducible repeat (first | apply r1 | apply r2 | apply r3)); exact HO_3.out⟩, ⟨by (with_reducible repeat (first | apply r1 | apply r2 | apply r3)); exact HO_4.out⟩, ⟨by (with_reducible repeat (first | apply r1 | apply r2 | apply r3)); exact HO_6.out⟩, ⟨by repeat (first | (with_reducible first | exact HB.out | apply b1 | apply b2 | apply b3) | exact HB.out)⟩⟩
                         ·
                          rw [if_neg c62] at H
                          have c62b0 : ((rd x4_1 x13_3) == (rd x4_1 t171)) = false := beq_eq_false_iff_ne.mpr c62
                          have c62b1 : ((rd x4_1 x13_3) != (rd x4_1 t171)) = true := bne_iff_ne.mpr c62
                          have H' := Aside0.mk H
                          clear H
                          have p175 : 0 ≤ (x13_3 : Int) := of_decide_eq_true (by first | (with_reducible assumption) | assumption)
                          have q175 : x13_3 < (x6_1.length : Int) := of_decide_eq_true (by first | (with_reducible assumption) | assumption)
                          obtain ⟨ad175, e175, hx175_0⟩ := Kd.at_bool (Kd.R_reads' HO_6.out).2.2 x13_3 p175 q175
                          (try rw [← Nbq51.out] at hx175_0)
                          cases e175
                          replace p175 := eq_true p175
                          replace q175 := eq_true q175
                          have p176 : 0 ≤ (x13_3 : Int) := of_decide_eq_true (by first | (with_reducible assumption) | assumption)
                          have q176 : x13_3 < (x3_1.length : Int) := of_decide_eq_true (by first | (with_reducible assumption) | assumption)
                          obtain ⟨ad176, e176, hx176_0⟩ := Kd.at_int (Kd.R_reads' HO_3.out).2.2 x13_3 p176 q176
                          cases e176
                          replace p176 := eq_true p176
                          replace q176 := eq_true q176
                          have p177 : 0 ≤ (t171 : Int) := of_decide_eq_true (by first | (with_reducible assumption) | assumption)
                          have q177 : t171 < (x3_1.length : Int) := of_decide_eq_true (by first | (with_reducible assumption) | assumption)
                          obtain ⟨ad177, e177, hx177_0⟩ := Kd.at_int (Kd.R_reads' HO_3.out).2.2 t171 p177 q177
                          obtain rfl : ad176 = ad177 := (by injection e177)
                          replace p177 := eq_true p177
                          replace q177 := eq_true q177
                          have p178 : 0 ≤ (x13_3 : Int) := of_decide_eq_true (by first | (with_reducible assumption) | assumption)
                          have q178 : x13_3 < (x3_1.length : Int) := of_decide_eq_true (by first | (with_reducible assumption) | assumption)
                          obtain ⟨ad178, e178, hx178_0⟩ := Kd.at_int (Kd.R_reads' HO_3.out).2.2 x13_3 p178 q178
                          obtain rfl : ad176 = ad178 := (by injection e178)
                          replace p178 := eq_true p178
                          replace q178 := eq_true q178
                          have p179 : 0 ≤ (t171 : Int) := of_decide_eq_true (by first | (with_reducible assumption) | assumption)
                          have q179 : t171 < (x3_1.length : Int) := of_decide_eq_true (by first | (with_reducible assumption) | assumption)
                          obtain ⟨ad179, e179, hx179_0⟩ := Kd.at_int (Kd.R_reads' HO_3.out).2.2 t171 p179 q179
                          obtain rfl : ad176 = ad179 := (by injection e179)
                          replace p179 := eq_true p179
                          replace q179 := eq_true q179
                          have p180 : 0 ≤ (x13_3 : Int) := of_decide_eq_true (by first | (with_reducible assumption) | assumption)
                          have q180 : x13_3 < (x4_1.length : Int) := of_decide_eq_true (by first | (with_reducible assumption) | assumption)
                          obtain ⟨ad180, e180, hx180_0⟩ := Kd.at_int (Kd.R_reads' HO_4.out).2.2 x13_3 p180 q180
                          cases e180
                          replace p180 := eq_true p180
                          replace q180 := eq_true q180
                          have p181 : 0 ≤ (t171 : Int) := of_decide_eq_true (by first | (with_reducible assumption) | assumption)
                          have q181 : t171 < (x4_1.length : Int) := of_decide_eq_true (by first | (with_reducible assumption) | assumption)
                          obtain ⟨ad181, e181, hx181_0⟩ := Kd.at_int (Kd.R_reads' HO_4.out).2.2 t171 p181 q181
                          obtain rfl : ad180 = ad181 := (by injection e181)
                          replace p181 := eq_true p181
                          replace q181 := eq_true q181
                          have p182 : 0 ≤ (x13_3 : Int) := of_decide_eq_true (by first | (with_reducible assumption) | assumption)
                          have q182 : x13_3 < (x4_1.length : Int) := of_decide_eq_true (by first | (with_reducible assumption) | assumption)
                          obtain ⟨ad182, e182, hx182_0⟩ := Kd.at_int (Kd.R_reads' HO_4.out).2.2 x13_3 p182 q182
                          obtain rfl : ad180 = ad182 := (by injection e182)
                          replace p182 := eq_true p182
                          replace q182 := eq_true q182
                          have p183 : 0 ≤ (t171 : Int) := of_decide_eq_true (by first | (with_reducible assumption) | assumption)
                          have q183 : t171 < (x4_1.length : Int) := of_decide_eq_true (by first | (with_reducible assumption) | assumption)
                          obtain ⟨ad183, e183, hx183_0⟩ := Kd.at_int (Kd.R_reads' HO_4.out).2.2 t171 p183 q183
                          obtain rfl : ad180 = ad183 := (by injection e183)
                          replace p183 := eq_true p183
                          replace q183 := eq_true q183
                          go_wp2
                          (repeat (go_quiet (fail); try go_wp2))
                          go_meet
                          case rel => exact ⟨_, (false), (by first | rfl | (simp; done) | (simp [*]; done)), H', ⟨by have := HK1.out; have := HJ37.out; have := HK3.out; first | omega | exact Nat.le_refl _⟩, ⟨by (with_reducible repeat (first | apply r1 | apply r2 | apply r3)); exact HO_3.out⟩, ⟨by (with_reducible repeat (first | apply r1 | apply r2 | apply r3)); exact HO_4.out⟩, ⟨by (with_reducible repeat (first | apply r1 | apply r2 | apply r3)); exact HO_6.out⟩, ⟨by repeat (first | (with_reducible first | exact HB.out | apply b1 | apply b2 | apply b3) | exact HB.out)⟩⟩
                       ·
                        rw [if_neg c60] at H
                        exact absurd H (by simp)
                      ·
                       rw [if_neg c59] at H
                       exact absurd H (by simp)
                     ·
                      rw [if_neg c58] at H
                      have c58b0 : ((rd x3_1 x13_3) == (rd x3_1 t171)) = false := beq_eq_false_iff_ne.mpr c58
                      have c58b1 : ((rd x3_1 x13_3) != (rd x3_1 t171)) = true := bne_iff_ne.mpr c58
                      have H' := Aside0.mk H
                      clear H
                      have p175 : 0 ≤ (x13_3 : Int) := of_decide_eq_true (by first | (with_reducible assumption) | assumption)
                      have q175 : x13_3 < (x6_1.length : Int) := of_decide_eq_true (by first | (with_reducible assumption) | assumption)
                      obtain ⟨ad175, e175, hx175_0⟩ := Kd.at_bool (Kd.R_reads' HO_6.out).2.2 x13_3 p175 q175
                      (try rw [← Nbq51.out] at hx175_0)
                      cases e175
                      replace p175 := eq_true p175
                      replace q175 := eq_true q175
                      have p176 : 0 ≤ (x13_3 : Int) := of_decide_eq_true (by first | (with_reducible assumption) | assumption)
                      have q176 : x13_3 < (x3_1.length : Int) := of_decide_eq_true (by first | (with_reducible assumption) | assumption)
                      obtain ⟨ad176, e176, hx176_0⟩ := Kd.at_int (Kd.R_reads' HO_3.out).2.2 x13_3 p176 q176
                      cases e176
                      replace p176 := eq_true p176
                      replace q176 := eq_true q176
                      have p177 : 0 ≤ (t171 : Int) := of_decide_eq_true (by first | (with_reducible assumption) | assumption)
                      have q177 : t171 < (x3_1.length : Int) := of_decide_eq_true (by first | (with_reducible assumption) | assumption)
                      obtain ⟨ad177, e177, hx177_0⟩ := Kd.at_int (Kd.R_reads' HO_3.out).2.2 t171 p177 q177
                      obtain rfl : ad176 = ad177 := (by injection e177)
                      replace p177 := eq_true p177
                      replace q177 := eq_true q177
                      have p178 : 0 ≤ (x13_3 : Int) := of_decide_eq_true (by first | (with_reducible assumption) | assumption)
                      have q178 : x13_3 < (x3_1.length : Int) := of_decide_eq_true (by first | (with_reducible assumption) | assumption)
                      obtain ⟨ad178, e178, hx178_0⟩ := Kd.at_int (Kd.R_reads' HO_3.out).2.2 x13_3 p178 q178
                      obtain rfl : ad176 = ad178 := (by injection e178)
                      replace p178 := eq_true p178
                      replace q178 := eq_true q178
                      have p179 : 0 ≤ (t171 : Int) := of_decide_eq_true (by first | (with_reducible assumption) | assumption)
                      have q179 : t171 < (x3_1.length : Int) := of_decide_eq_true (by first | (with_reducible assumption) | assumption)
                      obtain ⟨ad179, e179, hx179_0⟩ := Kd.at_int (Kd.R_reads' HO_3.out).2.2 t171 p179 q179
                      obtain rfl : ad176 = ad179 := (by injection e179)
                      replace p179 := eq_true p179
                      replace q179 := eq_true q179
                      go_wp2
                      (repeat (go_quiet (fail); try go_wp2))
                      go_meet
                      case rel => exact ⟨_, (false), (by first | rfl | (simp; done) | (simp [*]; done)), H', ⟨by have := HK1.out; have := HJ37.out; have := HK3.out; first | omega | exact Nat.le_refl _⟩, ⟨by (with_reducible repeat (first | apply r1 | apply r2 | apply r3)); exact HO_3.out⟩, ⟨by (with_reducible repeat (first | apply r1 | apply r2 | apply r3)); exact HO_4.out⟩, ⟨by (with_reducible repeat (first | apply r1 | apply r2 | apply r3)); exact HO_6.out⟩, ⟨by repeat (first | (with_reducible first | exact HB.out | apply b1 | apply b2 | apply b3) | exact HB.out)⟩⟩
                   ·
                    rw [if_neg c56] at H
                    exact absurd H (by simp)
                  ·
                   rw [if_neg c55] at H
                   exact absurd H (by simp)
                 ·
                  rw [if_neg c54] at H
                  exact absurd H (by simp)
                ·
                 replace c53 := Bool.eq_false_iff.mpr c53
                 subst c53
                 have H1 : (blackboardlaw13_WearVictims.j4 k3 l0 x3_1 x4_1 x6_1 t171 false x13_3 true) = some r := by rw [if_neg (show ¬ (false = true) by decide)] at H; exact H
                 clear H
                 have H := H1
                 clear H1
                 rw [HRT_.out] at H
                 exact absurd H (blackboardlaw13_WearVictims.j4_no _ _ _ _ _ _ _ _)
               ·
                replace c52 := Bool.eq_false_iff.mpr c52
                subst c52
                have H1 : (blackboardlaw13_WearVictims.j4 k3 l0 x3_1 x4_1 x6_1 t171 t172 x13_3 false) = some r := by rw [if_neg (show ¬ (false = true) by decide)] at H; exact H
                clear H
                have H := H1
                clear H1
                have H' := Aside0.mk H
                clear H
                have p175 : 0 ≤ (x13_3 : Int) := of_decide_eq_true (by first | (with_reducible assumption) | assumption)
                have q175 : x13_3 < (x6_1.length : Int) := of_decide_eq_true (by first | (with_reducible assumption) | assumption)
                obtain ⟨ad175, e175, hx175_0⟩ := Kd.at_bool (Kd.R_reads' HO_6.out).2.2 x13_3 p175 q175
                (try rw [← Nbq51.out] at hx175_0)
                cases e175
                replace p175 := eq_true p175
                replace q175 := eq_true q175
                go_wp2
                (repeat (go_quiet (fail); try go_wp2))
                go_meet
                case rel => exact ⟨_, (false), (by first | rfl | (simp; done) | (simp [*]; done)), H', ⟨by have := HK1.out; have := HJ37.out; have := HK3.out; first | omega | exact Nat.le_refl _⟩, ⟨by (with_reducible repeat (first | apply r1 | apply r2 | apply r3)); exact HO_3.out⟩, ⟨by (with_reducible repeat (first | apply r1 | apply r2 | apply r3)); exact HO_4.out⟩, ⟨by (with_reducible repeat (first | apply r1 | apply r2 | apply r3)); exact HO_6.out⟩, ⟨by repeat (first | (with_reducible first | exact HB.out | apply b1 | apply b2 | apply b3) | exact HB.out)⟩⟩
              ·
               rw [if_neg c50] at H
               exact absurd H (by simp)
             ·
              rw [if_neg c49] at H
              exact absurd H (by simp)
            case rest =>
             clear HC48
             try clear c1
             try clear p1
             try clear q1
             try clear hx1
             try clear p2
             try clear c3
             try clear c4
             try clear c5
             try clear q5
             try clear c6
             try clear p6
             try clear c7
             try clear c7b0
             try clear c8
             try clear c9
             try clear c10
             try clear c11
             try clear c12
             try clear p16
             try clear q16
             try clear hx16
             try clear p17
             try clear q17
             try clear hx17
             try clear p18
             try clear q18
             try clear hx18
             try clear c30
             try clear c30b0
             try clear c30b1
             try clear c31
             try clear c45
             try clear c45b0
             try clear c45b1
             try clear c46
             try clear c47
             try clear c47b0
             try clear c49
             try clear c49b0
             try clear c50
             try clear c50b0
             try clear q51
             try clear c52
             try clear c53
             try clear c54
             try clear c54b0
             try clear c55
             try clear c55b0
             try clear c56
             try clear c56b0
             try clear c57
             try clear c57b0
             try clear c58
             try clear c58b0
             try clear c58b1
             try clear c59
             try clear c59b0
             try clear c60
             try clear c60b0
             try clear c61
             try clear c61b0
             try clear c62
             try clear c62b0
             try clear c62b1
             try clear hx163_0
             try clear hx163_1
             try clear hx163_2
             try clear hx164_0
             try clear hx164_1
             try clear hx164_2
             try clear hx175_0
             try clear hx176_0
             try clear hx177_0
             try clear hx178_0
             try clear hx179_0
             try clear hx180_0
             try clear hx181_0
             try clear hx182_0
             try clear hx183_0
             try clear p1
             try clear p16
             try clear p163
             try clear p164
             try clear p175
             try clear p176
             try clear p177
             try clear p178
             try clear p179
             try clear p180
             try clear p181
             try clear p182
             try clear p183
             try clear p2
             try clear p6
             try clear q1
             try clear q16
             try clear q163
             try clear q164
             try clear q175
             try clear q176
             try clear q177
             try clear q178
             try clear q179
             try clear q180
             try clear q181
             try clear q182
             try clear q183
             obtain ⟨kq, x154_47, rfl, HA, HJ47, HO_3, HO_4, HO_6, HB⟩ := hcut
             cases kq with
             | zero => exact absurd HA.out (by simp [blackboardlaw13_WearVictims.j4])
             | succ kj47 =>
              have H := HA.out
              clear HA
              simp only [blackboardlaw13_WearVictims.j4] at H
              by_cases c63 : x154_47 = true
              ·
               subst c63
               have H1 : (some false) = some r := by rw [if_pos rfl] at H; exact H
               clear H
               have H := H1
               clear H1
               obtain rfl := Option.some.inj H
               exact absurd HRT_.out (by simp)
              ·
               replace c63 := Bool.eq_false_iff.mpr c63
               subst c63
               have H1 : (blackboardlaw13_WearVictims.l1 kj47 l0 x3_1 x4_1 x6_1 t171 t172 (wrap64 (x13_3 + 1))) = some r := by rw [if_neg (show ¬ (false = true) by decide)] at H; exact H
               clear H
               have H := H1
               clear H1
               have H' := Aside0.mk H
               clear H
               go_wp2
               (repeat (go_quiet (fail); try go_wp2))
               go_roundg kj47
               case measure => have := HK1.out; have := HJ37.out; have := HK3.out; have := HJ47.out; omega
               case rel => exact ⟨(wrap64 (x13_3 + 1)), (by first | rfl | (simp; done) | (simp [*]; done)), H', ⟨by have := HK1.out; have := HJ37.out; have := HK3.out; have := HJ47.out; omega⟩, ⟨by (with_reducible repeat (first | apply r1 | apply r2 | apply r3)); exact HO_3.out⟩, ⟨by (with_reducible repeat (first | apply r1 | apply r2 | apply r3)); exact HO_4.out⟩, ⟨by (with_reducible repeat (first | apply r1 | apply r2 | apply r3)); exact HO_6.out⟩, ⟨by repeat (first | (with_reducible first | exact HB.out | apply b1 | apply b2 | apply b3) | exact HB.out)⟩⟩
           ·
            rw [if_neg c47] at H
            have c47b0 : decide (x13_3 < (l0.length : Int)) = false := decide_eq_false c47
            clear c47
            have HC64 := Aside0.mk H
            clear H
            go_upto_region 24 with (fail)
            go_cut [2] (fun v2 wc => ∃ (kq : Nat) (x2_63 : Bool), v2 = .bool x2_63 ∧ Aside0 (blackboardlaw13_WearVictims.j5 kq x2_63 = some r) ∧ Aside0 (kq ≤ k3) ∧ Aside0 (Below w.heap.size w wc))
            case first =>
             have H := HC64.out
             clear HC64
             by_cases c65 : t172 = true
             ·
              subst c65
              have H1 : (if 0 ≤ t171 then (if t171 < (x6_1.length : Int) then (blackboardlaw13_WearVictims.j5 k3 (rdOf false x6_1 t171)) else (none)) else (none)) = some r := by rw [if_pos rfl] at H; exact H
              clear H
              have H := H1
              clear H1
              by_cases c66 : 0 ≤ t171
              ·
               rw [if_pos c66] at H
               have c66b0 : decide (0 ≤ t171) = true := decide_eq_true c66
               clear c66
               (first | rw [c66b0] | (simp only [i64_w, i32_w]; rw [c66b0]) | skip)
               by_cases c67 : t171 < (x6_1.length : Int)
               ·
                rw [if_pos c67] at H
                have c67b0 : decide (t171 < (x6_1.length : Int)) = true := decide_eq_true c67
                clear c67
                have H' := Aside0.mk H
                clear H
                have p184 : 0 ≤ (t171 : Int) := of_decide_eq_true (by first | (with_reducible assumption) | assumption)
                have q184 : t171 < (x6_1.length : Int) := of_decide_eq_true (by first | (with_reducible assumption) | assumption)
                obtain ⟨ad184, e184, hx184_0⟩ := Kd.at_bool (Kd.R_reads' HO_6.out).2.2 t171 p184 q184
                cases e184
                replace p184 := eq_true p184
                replace q184 := eq_true q184
                go_wp2
                (repeat (go_quiet (fail); try go_wp2))
                go_meet
                case rel => exact ⟨_, (rdOf false x6_1 t171), (by first | rfl | (simp; done) | (simp [*]; done)), H', ⟨by have := HK1.out; have := HJ37.out; have := HK3.out; first | omega | exact Nat.le_refl _⟩, ⟨by repeat (first | (with_reducible first | exact HB.out | apply b1 | apply b2 | apply b3) | exact HB.out)⟩⟩
               ·
                rw [if_neg c67] at H
                exact absurd H (by simp)
              ·
               rw [if_neg c66] at H
               exact absurd H (by simp)
             ·
              replace c65 := Bool.eq_false_iff.mpr c65
              subst c65
              have H1 : (blackboardlaw13_WearVictims.j5 k3 true) = some r := by rw [if_neg (show ¬ (false = true) by decide)] at H; exact H
              clear H
              have H := H1
              clear H1
              have H' := Aside0.mk H
              clear H
              go_wp2
              (repeat (go_quiet (fail); try go_wp2))
              go_meet
              case rel => exact ⟨_, (true), (by first | rfl | (simp; done) | (simp [*]; done)), H', ⟨by have := HK1.out; have := HJ37.out; have := HK3.out; first | omega | exact Nat.le_refl _⟩, ⟨by repeat (first | (with_reducible first | exact HB.out | apply b1 | apply b2 | apply b3) | exact HB.out)⟩⟩
            case rest =>
             clear HC64
             try clear c1
             try clear p1
             try clear q1
             try clear hx1
             try clear p2
             try clear c3
             try clear c4
             try clear c5
             try clear q5
             try clear c6
             try clear p6
             try clear c7
             try clear c7b0
             try clear c8
             try clear c9
             try clear c10
             try clear c11
             try clear c12
             try clear p16
             try clear q16
             try clear hx16
             try clear p17
             try clear q17
             try clear hx17
             try clear p18
             try clear q18
             try clear hx18
             try clear c30
             try clear c30b0
             try clear c30b1
             try clear c31
             try clear c45
             try clear c45b0
             try clear c45b1
             try clear c46
             try clear c47
             try clear c47b0
             try clear c49
             try clear c49b0
             try clear c50
             try clear c50b0
             try clear q51
             try clear c52
             try clear c53
             try clear c54
             try clear c54b0
             try clear c55
             try clear c55b0
             try clear c56
             try clear c56b0
             try clear c57
             try clear c57b0
             try clear c58
             try clear c58b0
             try clear c58b1
             try clear c59
             try clear c59b0
             try clear c60
             try clear c60b0
             try clear c61
             try clear c61b0
             try clear c62
             try clear c62b0
             try clear c62b1
             try clear c63
             try clear p64
             try clear c65
             try clear c66
             try clear c66b0
             try clear c67
             try clear c67b0
             try clear hx163_0
             try clear hx163_1
             try clear hx163_2
             try clear hx164_0
             try clear hx164_1
             try clear hx164_2
             try clear hx175_0
             try clear hx176_0
             try clear hx177_0
             try clear hx178_0
             try clear hx179_0
             try clear hx180_0
             try clear hx181_0
             try clear hx182_0
             try clear hx183_0
             try clear hx184_0
             try clear p1
             try clear p16
             try clear p163
             try clear p164
             try clear p17
             try clear p175
             try clear p176
             try clear p177
             try clear p178
             try clear p179
             try clear p18
             try clear p180
             try clear p181
             try clear p182
             try clear p183
             try clear p184
             try clear p2
             try clear p6
             try clear q1
             try clear q16
             try clear q163
             try clear q164
             try clear q17
             try clear q175
             try clear q176
             try clear q177
             try clear q178
             try clear q179
             try clear q18
             try clear q180
             try clear q181
             try clear q182
             try clear q183
             try clear q184
             try clear q5
             try clear q51
             obtain ⟨kq, x2_63, rfl, HA, HJ63, HB⟩ := hcut
             cases kq with
             | zero => exact absurd HA.out (by simp [blackboardlaw13_WearVictims.j5])
             | succ kj63 =>
              have H := HA.out
              clear HA
              simp only [blackboardlaw13_WearVictims.j5] at H
              obtain rfl := Option.some.inj H
              go_wp2
              (repeat (go_quiet (fail); try go_wp2))
              go_ret
              exact ⟨by first | rfl | (simp [errW_none, errW_some] <;> rfl) | (simp [*, errW_none, errW_some] <;> rfl), by repeat (first | (with_reducible first | exact HB.out | apply b1 | apply b2 | apply b3) | exact HB.out)⟩
 ·
  replace c3 := Bool.eq_false_iff.mpr c3
  subst c3
  have H1 : (some false) = some r := by rw [if_neg (show ¬ (false = true) by decide)] at H; exact H
  clear H
  have H := H1
  clear H1
  obtain rfl := Option.some.inj H
  exact absurd HRT_.out (by simp)
end Go.Proofs.Ytkmdefelepmfiaa.V
