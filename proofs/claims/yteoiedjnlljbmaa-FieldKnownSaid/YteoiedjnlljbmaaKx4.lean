/- Printed for this seat by a program of this session (over the kit's print), with contracts of its own laid in. -/
import Derived.Test.YteoiedjnlljbmaaKx0
import Derived.Test.YteoiedjnlljbmaaKx1
import Derived.Test.YteoiedjnlljbmaaKx2
import Derived.Test.YteoiedjnlljbmaaKx3
namespace Go.Proofs.Yteoiedjnlljbmaa.K
open Go.RowKit Go.Proofs.YteoiedjnlljbmaaW.PrintWords Go.Proofs.YteoiedjnlljbmaaW.PrintLast Go.Proofs.YteoiedjnlljbmaaW.PrintMore
attribute [local go_sem] max2_int min2_int max_two min_two max_three min_three max_four min_four   -- for this text's walks alone
set_option linter.unusedVariables false
set_option linter.unusedSimpArgs false

/-! ### blackboardlaw2_FieldKnown: function 6 -/
theorem arr_row {w : World} {g n : Nat} (h : w.heap[g]? = some (.cells (Array.replicate 1024 (.bool false)) 36 (0, 0))) (hn : n ≤ g) :
    Kd.R Kd.bool 36 w n (fun _ => True) (.slice (some ⟨g, 0, none⟩) 1024 1024) (List.replicate 1024 false) := by
  refine ⟨fun _ _ => trivial, List.replicate 1024 (.bool false), ⟨?_, .inr ⟨g, 1024, _, ?_, hn, h, ?_, ?_, ?_, ?_⟩⟩, ⟨?_, fun j p hp => ?_⟩⟩
  · rw [List.length_replicate, List.length_replicate]; rfl
  · rw [List.length_replicate]
  · rw [List.length_replicate]; exact Nat.le_refl _
  · unfold maxLen; decide
  · rw [Array.size_replicate]; rfl
  · rw [List.length_replicate, Array.toList_replicate]
    exact List.take_of_length_le (by rw [List.length_replicate]; exact Nat.le_refl _)
  · rw [List.length_replicate, List.length_replicate]; rfl
  · rw [List.getElem?_replicate] at hp
    split at hp
    · rename_i hj
      cases hp
      have e : ((List.replicate 1024 (Value.bool false)).drop (j * Kd.bool.sz)).take Kd.bool.sz = [Value.bool false] := by
        show ((List.replicate 1024 (Value.bool false)).drop (j * 1)).take 1 = [Value.bool false]
        rw [Nat.mul_one, List.drop_replicate, List.take_replicate, Nat.min_eq_left (by omega)]; rfl
      rw [e]; rfl
    · cases hp
def blackboardlaw2_FieldKnown.l0 : Nat → List Bool → Int → Int → List Int → List Int → Option (Bool)
  | 0, _, _, _, _, _ => none
  | k + 1, x2, x3, x4, x188000, x188001 => if x4 < 1023 then ((field_Tables_Log.f k x188000 x188001 x3).bind fun bt191 => (if 0 ≤ x3 then (if x3 < (x2.length : Int) then (if rdOf false x2 x3 = true then (some false) else (if bt191.2 = true then (if bt191.1 = x4 then ((field_Tables_Exp.f k x188000 x188001 x4).bind fun t194 => (if t194 = x3 then ((field_Tables_Exp.f k x188000 x188001 (wrap64 (x4 - 1023))).bind fun t195 => (if t195 = x3 then ((field_Tables_Exp.f k x188000 x188001 (wrap64 (x4 + 5115))).bind fun t196 => (if t196 = x3 then ((field_Tables_Mul.f k x188000 x188001 x3 2).bind fun t198 => (blackboardlaw2_FieldKnown.l0 k (x2.set (x3 : Int).toNat true) t198 (wrap64 (x4 + 1)) x188000 x188001)) else (some false))) else (some false))) else (some false))) else (some false)) else (some false))) else (none)) else (none))) else ((field_Tables_Inv.f k x188000 x188001 0).bind fun bt199 => ((field_Tables_Log.f k x188000 x188001 1024).bind fun bt201 => ((field_Tables_Inv.f k x188000 x188001 7).bind fun bt203 => (if x3 = 1 then (if bt199.2 = true then (some false) else (if bt201.2 = true then (some false) else ((field_Tables_Pow.f k x188000 x188001 0 0).bind fun t205 => (if t205 = 1 then ((field_Tables_Pow.f k x188000 x188001 0 5).bind fun t206 => (if t206 = 0 then ((field_Tables_Pow.f k x188000 x188001 0 (-5)).bind fun t207 => (if t207 = 0 then ((field_Tables_Pow.f k x188000 x188001 7 (-1)).bind fun t208 => (if t208 = bt203.1 then ((field_Tables_Pow.f k x188000 x188001 7 1023).bind fun t209 => (if t209 = 1 then ((field_Tables_Mul.f k x188000 x188001 1025 5).bind fun t210 => (if t210 = 5 then ((field_Add.f 1023 1024).bind fun t211 => (if t211 = 1023 then ((field_Tables_Mul.f k x188000 x188001 512 512).bind fun t212 => ((field_Tables_Exp.f k x188000 x188001 18).bind fun t213 => (some (t212 == t213)))) else (some false))) else (some false))) else (some false))) else (some false))) else (some false))) else (some false))) else (some false))))) else (some false)))))
def blackboardlaw2_FieldKnown.f (k : Nat)  : Option (Bool) := (blackboardlaw2_awake.f k).bind fun t180 => (if t180 = true then ((field_Make.f k).bind fun bt181 => (if 1024 ≤ 281474976710656 then (blackboardlaw2_FieldKnown.l0 k (List.replicate 1024 false) 1 0 bt181.1 bt181.2) else (none))) else (some false))
theorem blackboardlaw2_FieldKnown.mono_l : ∀ k, (∀ y0 y1 y2 y3 y4, LeO (blackboardlaw2_FieldKnown.l0 k y0 y1 y2 y3 y4) (blackboardlaw2_FieldKnown.l0 (k + 1) y0 y1 y2 y3 y4))
  | 0 => fun _ _ _ _ _ r h => by simp [blackboardlaw2_FieldKnown.l0] at h
  | k + 1 => by
    have ih0 := blackboardlaw2_FieldKnown.mono_l k
    · intro y0 y1 y2 y3 y4
      unfold blackboardlaw2_FieldKnown.l0
      repeat' first
      | (with_reducible exact ih0 _ _ _ _ _)
      | (with_reducible exact blackboardlaw2_awake.mono _)
      | (with_reducible exact field_Make.mono _)
      | (with_reducible exact field_Tables_Exp.mono _ _ _ _)
      | (with_reducible exact field_Tables_Inv.mono _ _ _ _)
      | (with_reducible exact field_Tables_Log.mono _ _ _ _)
      | (with_reducible exact field_Tables_Mul.mono _ _ _ _ _)
      | (with_reducible exact field_Tables_Pow.mono _ _ _ _ _)
      | (with_reducible exact LeO.refl _)
      | (with_reducible exact LeO.none _)
      | (with_reducible refine LeO.ite ?_ ?_)
      | (with_reducible refine LeO.bind ?_ (fun _ => ?_))
      | exact ih0 _ _ _ _ _
      | exact blackboardlaw2_awake.mono _
      | exact field_Make.mono _
      | exact field_Tables_Exp.mono _ _ _ _
      | exact field_Tables_Inv.mono _ _ _ _
      | exact field_Tables_Log.mono _ _ _ _
      | exact field_Tables_Mul.mono _ _ _ _ _
      | exact field_Tables_Pow.mono _ _ _ _ _
      | exact LeO.none _
      | refine LeO.ite ?_ ?_
      | refine LeO.bind ?_ (fun _ => ?_)
theorem blackboardlaw2_FieldKnown.mono : ∀ k, LeO (blackboardlaw2_FieldKnown.f k ) (blackboardlaw2_FieldKnown.f (k + 1) ) := by
  intro  k
  have ih0 := blackboardlaw2_FieldKnown.mono_l k
  unfold blackboardlaw2_FieldKnown.f
  repeat' first
      | (with_reducible exact ih0 _ _ _ _ _)
      | (with_reducible exact blackboardlaw2_awake.mono _)
      | (with_reducible exact field_Make.mono _)
      | (with_reducible exact field_Tables_Exp.mono _ _ _ _)
      | (with_reducible exact field_Tables_Inv.mono _ _ _ _)
      | (with_reducible exact field_Tables_Log.mono _ _ _ _)
      | (with_reducible exact field_Tables_Mul.mono _ _ _ _ _)
      | (with_reducible exact field_Tables_Pow.mono _ _ _ _ _)
      | (with_reducible exact LeO.refl _)
      | (with_reducible exact LeO.none _)
      | (with_reducible refine LeO.ite ?_ ?_)
      | (with_reducible refine LeO.bind ?_ (fun _ => ?_))
      | exact ih0 _ _ _ _ _
      | exact blackboardlaw2_awake.mono _
      | exact field_Make.mono _
      | exact field_Tables_Exp.mono _ _ _ _
      | exact field_Tables_Inv.mono _ _ _ _
      | exact field_Tables_Log.mono _ _ _ _
      | exact field_Tables_Mul.mono _ _ _ _ _
      | exact field_Tables_Pow.mono _ _ _ _ _
      | exact LeO.none _
      | refine LeO.ite ?_ ?_
      | refine LeO.bind ?_ (fun _ => ?_)
def blackboardlaw2_FieldKnown.T17 : Bool × List (List Nat × List Nat) := (true, [([], []), ([0], [0]), ([1], [1]), ([2], [2]), ([3, 2], [2, 3]), ([2, 4], [2, 4]), ([5, 2], [5]), ([6], [6]), ([7, 6], [6, 7]), ([6, 8], [6, 8]), ([9, 6], [9]), ([10], [10]), ([11, 10, 10], [10, 11]), ([12, 10], [10, 12]), ([10, 13], [10, 13]), ([14, 12], [14]), ([15], [15]), ([16, 15, 15], [15, 16]), ([17, 15], [15, 17]), ([15, 18], [15, 18]), ([19, 17], [19]), ([20], [20]), ([21, 20, 20], [20, 21]), ([22, 20], [20, 22]), ([20, 23], [20, 23]), ([24, 22], [24]), ([25], [25]), ([26, 25, 25], [25, 26]), ([25], [25]), ([27, 28, 25], [25, 27, 28]), ([25, 29], [25, 29]), ([30, 27], [30]), ([31], [31]), ([32, 31, 31], [31, 32]), ([33, 31], [31, 33]), ([31, 34], [31, 34]), ([35, 33], [35]), ([36], [36]), ([37, 36, 36], [36, 37]), ([38, 36], [36, 38]), ([36, 39], [36, 39]), ([40, 38], [40]), ([41, 41], [41]), ([42, 41], [41, 42]), ([41, 43], [41, 43]), ([44, 42], [44]), ([45], [45]), ([46, 45, 45], [45, 46]), ([45], [45]), ([48, 47, 45], [45, 48]), ([47, 49, 45], [45, 47, 49]), ([45, 50], [45, 50]), ([51, 49, 0, 1, 2, 3, 4, 5, 6, 7, 8, 9, 10, 11, 12, 13, 14, 15, 16, 17, 18, 19, 20, 21, 22, 23, 24, 25, 26, 27, 28, 29, 30, 31, 32, 33, 34, 35, 36, 37, 38, 39, 40, 41, 42, 43, 44, 45, 46, 47, 48, 49, 50, 51], [51])])
def blackboardlaw2_FieldKnown.B17 : List Nat := [0, 1, 3, 7, 15, 31, 63, 127, 255, 511, 1023, 2047, 4095, 8191, 16383, 32767, 65535, 131071, 262143, 524287, 1048575, 2097151, 4194303, 8388607, 16777215, 33554431, 67108863, 134217727, 67108863, 536870911, 1073741823, 2147483647, 4294967295, 8589934591, 17179869183, 34359738367, 68719476735, 137438953471, 274877906943, 549755813887, 1099511627775, 2199023255551, 4398046511103, 8796093022207, 17592186044415, 35184372088831, 70368744177663, 140737488355327, 70368744177663, 562949953421311, 1125899906842623, 2251799813685247, 4503599627370495]
theorem blackboardlaw2_FieldKnown.tab17 : rtab .any (opsOf Try.f6 17) = blackboardlaw2_FieldKnown.T17 := by kernel_rfl
theorem blackboardlaw2_FieldKnown.bits17 : waitsOk blackboardlaw2_FieldKnown.T17.2 blackboardlaw2_FieldKnown.B17 = true := by kernel_rfl
theorem r1 {α : Type} {d : Kd α} {e : Nat} {w : World} {base : Nat} {ok : Nat → Prop} {v : Value} {xs : List α} (h : Kd.R d e w base ok v xs) (o : Obj) : Kd.R d e (w.alloc o) base ok v xs := Kd.R_alloc h o
theorem r2 {α : Type} {d : Kd α} {e : Nat} {w : World} {base : Nat} {ok : Nat → Prop} {v : Value} {xs : List α} (h : Kd.R d e w base ok v xs) (m : Nat) : Kd.R d e (w.drewN m) base ok v xs := Kd.R_drewN h m
theorem r3 {α : Type} {d : Kd α} {e : Nat} {w : World} {base : Nat} {ok : Nat → Prop} {v : Value} {xs : List α} (h : Kd.R d e w base ok v xs) : Kd.R d e w.drew base ok v xs := Kd.R_drew h
theorem p1 {α : Type} (l : List α) (i : Nat) (a : α) : l.toArray.setIfInBounds i a = (l.set i a).toArray := List.setIfInBounds_toArray l i a
theorem p2 {α : Type} (x : α) (xs : List α) (a : α) : (x :: xs).set 0 a = a :: xs := List.set_cons_zero
theorem p3 {α : Type} (x : α) (xs : List α) (n : Nat) (a : α) : (x :: xs).set (n + 1) a = x :: xs.set n a := List.set_cons_succ
set_option maxHeartbeats 8000000 in
set_option maxRecDepth 100000 in
theorem blackboardlaw2_FieldKnown.calls (k : Nat)  (r : Bool) (w : World) (h : blackboardlaw2_FieldKnown.f k  = some r) (hrt_ : r = true := by rfl) :
    Calls Try.prog 6 #[] w fun e w' => e = .returned (.bool r) ∧ Below w.heap.size w w' := by
  have HRT_ := Aside0.mk hrt_
  clear hrt_
  have hu36 := Try.underlying36
  have hu27 := Try.underlying27
  have hfd0 : ∀ (v x : Value) (w : World), (Instr.field 27 (.agg #[v, x]) 0).run Try.prog w = .ok v w := fun _ _ _ => by kernel_rfl
  have hfd1 : ∀ (v x : Value) (w : World), (Instr.field 27 (.agg #[v, x]) 1).run Try.prog w = .ok x w := fun _ _ _ => by kernel_rfl
  have HB := Aside0.mk (Below.refl w.heap.size w)
  have H : ((blackboardlaw2_awake.f k).bind fun t180 => (if t180 = true then ((field_Make.f k).bind fun bt181 => (if 1024 ≤ 281474976710656 then (blackboardlaw2_FieldKnown.l0 k (List.replicate 1024 false) 1 0 bt181.1 bt181.2) else (none))) else (some false))) = some r := h
  clear h
  replace H := Option.bind_eq_some_iff.mp H
  obtain ⟨t180, A10, H⟩ := H
  replace H : (if t180 = true then ((field_Make.f k).bind fun bt181 => (if 1024 ≤ 281474976710656 then (blackboardlaw2_FieldKnown.l0 k (List.replicate 1024 false) 1 0 bt181.1 bt181.2) else (none))) else (some false)) = some r := H
  have A1 := Aside0.mk A10
  clear A10
  by_cases c2 : t180 = true
  · subst c2
    have H1 : ((field_Make.f k).bind fun bt181 => (if 1024 ≤ 281474976710656 then (blackboardlaw2_FieldKnown.l0 k (List.replicate 1024 false) 1 0 bt181.1 bt181.2) else (none))) = some r := by rw [if_pos rfl] at H; exact H
    clear H
    have H := H1
    clear H1
    replace H := Option.bind_eq_some_iff.mp H
    obtain ⟨⟨t181, t184⟩, A30, H⟩ := H
    replace H : (if 1024 ≤ 281474976710656 then (blackboardlaw2_FieldKnown.l0 k (List.replicate 1024 false) 1 0 t181 t184) else (none)) = some r := H
    have A3 := Aside0.mk A30
    clear A30
    by_cases c4 : 1024 ≤ 281474976710656
    · rw [if_pos c4] at H
      have c4b0 := eq_true c4
      have c4b1 : decide (1024 ≤ 281474976710656) = true := decide_eq_true c4
      clear c4
      obtain ⟨y188, hy188⟩ : ∃ y_ : List Bool, y_ = (List.replicate 1024 false) := ⟨_, rfl⟩
      replace H : (blackboardlaw2_FieldKnown.l0 k y188 1 0 t181 t184) = some r := by first | (rw [hy188]; with_reducible exact H) | (have H2_ := (Option.bind_some _ _).symm.trans H; rw [hy188]; with_reducible exact H2_) | (have H2_ := (Option.bind_some _ _).symm.trans H; with_reducible exact H2_) | with_reducible exact H | (rw [hy188]; exact H) | exact H
      have Ny188 := Aside0.mk hy188
      clear hy188
      have H' := Aside0.mk H
      clear H
      go_enter Try.func6, Try.ntmps6
      go_wp2_with (first | ((with_reducible refine gate_callee (f := 9) rfl ?_); refine goesL_ (some 13) rfl rfl Try.func9 (by kernel_rfl) rfl #[] rfl (by (try simp only [List.map_toArray, List.map_cons, List.map_nil]); first | done | rfl | (simp only [List.length_drop, List.length_take]; rfl)) ?_; (with_reducible refine (blackboardlaw2_awake.calls k  true _ A1.out).mono ?_); rintro e w5 ⟨rfl, hb⟩; refine ⟨_, rfl, ?_⟩; have n0_ := Aside0.mk (below_step (by repeat (first | (with_reducible first | exact HB.out | apply below_alloc | apply pw_below_drewN | apply below_drew1) | exact HB.out)) hb); clear HB; have HB := n0_; clear n0_; (try clear hb); (try clear hb2); (try clear hk); (try clear hi)) | ((with_reducible refine gate_callee (f := 10) rfl ?_); refine goesL_ (some 15) rfl rfl Try.func10 (by kernel_rfl) rfl #[] rfl (by (try simp only [List.map_toArray, List.map_cons, List.map_nil]); first | done | rfl | (simp only [List.length_drop, List.length_take]; rfl)) ?_; (with_reducible refine (field_Make.calls k  t181 t184 _ A3.out).mono ?_); rintro e w6 ⟨v182, v185, rfl, ho0, ho1, hb⟩; refine ⟨_, rfl, ?_⟩; have n0_ := Aside0.mk (Kd.R_lower ho0 (below_size (by repeat (first | (with_reducible first | exact HB.out | apply below_alloc | apply pw_below_drewN | apply below_drew1) | exact HB.out)))); have n1_ := Aside0.mk (Kd.R_lower ho1 (below_size (by repeat (first | (with_reducible first | exact HB.out | apply below_alloc | apply pw_below_drewN | apply below_drew1) | exact HB.out)))); have n2_ := Aside0.mk (below_step (by repeat (first | (with_reducible first | exact HB.out | apply below_alloc | apply pw_below_drewN | apply below_drew1) | exact HB.out)) hb); clear HB; have HO183 := n0_; have HO186 := n1_; have HB := n2_; clear n0_ n1_ n2_; (try clear hb); (try clear hb2); (try clear hk); (try clear hi); (try clear ho0); (try clear ho1)) | ((with_reducible refine gate_dst (N := 1) rfl ?_); refine box_event ?hg (N := 1) ?hd (cs := #[.slice none 0 0, .slice none 0 0]) (t := 27) ?hr ?_; (case hd => rfl); (case hg => rfl); (case hr => first | (go_simp; done) | (go_simp; rfl)); intro gb187 hg w7 hbox hb; have n0_ := Aside0.mk (Kd.R_below (by (with_reducible repeat (first | apply r1 | apply r2 | apply r3)); exact HO183.out) hb); have n1_ := Aside0.mk (Kd.R_below (by (with_reducible repeat (first | apply r1 | apply r2 | apply r3)); exact HO186.out) hb); have n2_ := Aside0.mk (below_step (by repeat (first | (with_reducible first | exact HB.out | apply below_alloc | apply pw_below_drewN | apply below_drew1) | exact HB.out)) hb); have n3_ := Aside0.mk (hbox); have n4_ := Aside0.mk ((by rw [hg]; exact (below_size (by repeat (first | (with_reducible first | exact HB.out | apply below_alloc | apply pw_below_drewN | apply below_drew1) | exact HB.out))) : w.heap.size ≤ gb187)); have n5_ := Aside0.mk ((by rw [hg]; exact (below_size (by repeat (first | (with_reducible first | exact HB.out | apply below_alloc | apply pw_below_drewN | apply below_drew1) | exact HB.out))) : w.heap.size ≤ gb187)); clear HO183; clear HO186; clear HB; have HO183 := n0_; have HO186 := n1_; have HB := n2_; have BK187 := n3_; have GW187 := n4_; have GE187 := n5_; clear n0_ n1_ n2_ n3_ n4_ n5_; clear hb hbox hg; obtain ⟨Ao8, co8, eo8⟩ := Kd.R_slice HO183.out; subst eo8; have hcz9_0 : w7.cell? ⟨gb187, 0, none⟩ = some (.slice none 0 0) := (blk_cell BK187.out 0).trans rfl; have hcz9_1 : w7.cell? ⟨gb187, 1, none⟩ = some (.slice none 0 0) := (blk_cell BK187.out 1).trans rfl; have hfz9_0 := blk_frozen BK187.out 0; have hfz9_1 := blk_frozen BK187.out 1; obtain ⟨Ao10, co10, eo10⟩ := Kd.R_slice HO186.out; subst eo10) | ((with_reducible refine gate_dst (N := 2) rfl ?_); refine box_event ?hg (N := 2) ?hd (cs := Array.replicate 1024 (.bool false)) (t := 36) ?hr ?_; (case hd => rfl); (case hg => rfl); (case hr => first | kernel_rfl | (go_simp; done) | (go_simp; rfl)); intro gs hgs w11 hbox hb; obtain ⟨v189, hv189⟩ : ∃ v : Value, v = .slice (some ⟨gs, 0, none⟩) 1024 1024 := ⟨_, rfl⟩; have ho12 := arr_row hbox (Nat.le_of_eq hgs.symm); rw [← hv189] at ho12; have HV := Aside0.mk hv189; clear hv189 hbox hgs; (first | rw [← Ny188.out] at ho12 | (simp only [Int.reduceToNat] at ho12; rw [← Ny188.out] at ho12)); have n0_ := Aside0.mk (Kd.R_below (by (with_reducible repeat (first | apply r1 | apply r2 | apply r3)); exact (Kd.R_mono (Kd.R_far (p := ⟨gb187, 1, none⟩) (Kd.R_far (p := ⟨gb187, 0, none⟩) (Kd.R_types HO183.out BK187.out (by decide)) (fun _ hk => hk.2) (.slice Ao8 t181.length co8)) (fun _ hk => hk.2) (.slice Ao10 t184.length co10)) (fun _ h_ => h_.1))) hb); have n1_ := Aside0.mk (Kd.R_below (by (with_reducible repeat (first | apply r1 | apply r2 | apply r3)); exact (Kd.R_mono (Kd.R_far (p := ⟨gb187, 1, none⟩) (Kd.R_far (p := ⟨gb187, 0, none⟩) (Kd.R_types HO186.out BK187.out (by decide)) (fun _ hk => hk.2) (.slice Ao8 t181.length co8)) (fun _ hk => hk.2) (.slice Ao10 t184.length co10)) (fun _ h_ => h_.1))) hb); have n2_ := Aside0.mk (Kd.R_lower ho12 (below_size (by repeat (first | (with_reducible first | exact HB.out | apply below_alloc | apply pw_below_drewN | apply below_drew1 | refine below_set ?_ GE187.out) | exact HB.out)))); have n3_ := Aside0.mk (blk_below (g := gb187) (o := .cells #[.slice Ao8 t181.length co8, .slice Ao10 t184.length co10] 27 (0, 0)) (by (with_reducible repeat (first | refine blk_drewN ?_ _ | refine blk_drew ?_ | refine blk_alloc ?_ _)); refine blk_put (cs := #[.slice Ao8 t181.length co8, .slice none 0 0]) ?_ 1 _ rfl; (with_reducible repeat (first | refine blk_drewN ?_ _ | refine blk_drew ?_ | refine blk_alloc ?_ _)); refine blk_put (cs := #[.slice none 0 0, .slice none 0 0]) ?_ 0 _ rfl; (with_reducible repeat (first | refine blk_drewN ?_ _ | refine blk_drew ?_ | refine blk_alloc ?_ _)); exact BK187.out) hb); have n4_ := Aside0.mk (below_step (by repeat (first | (with_reducible first | exact HB.out | apply below_alloc | apply pw_below_drewN | apply below_drew1 | refine below_set ?_ GE187.out) | exact HB.out)) hb); clear HO183; clear HO186; clear BK187; clear HB; have HO183 := n0_; have HO186 := n1_; have HO190 := n2_; have BK187 := n3_; have HB := n4_; clear n0_ n1_ n2_ n3_ n4_; clear hb ho12))
      go_loopg [3, 4] k (fun kq v3 v4 w' => ∃ (x2_1 : List Bool) (x3_1 : Int) (x4_1 : Int), v3 = .int .u16 x3_1 ∧ v4 = .int .i64 x4_1 ∧ Aside0 (blackboardlaw2_FieldKnown.l0 kq x2_1 x3_1 x4_1 t181 t184 = some r) ∧ Aside0 (kq ≤ k) ∧ Aside0 (Kd.R Kd.bool 36 w' w.heap.size (fun _ => True) v189 x2_1) ∧ Aside0 (Kd.R (Kd.int .u16) 22 w' w.heap.size (fun _ => True) (.slice Ao8 t181.length co8) t181) ∧ Aside0 (Kd.R (Kd.int .i64) 3 w' w.heap.size (fun _ => True) (.slice Ao10 t184.length co10) t184) ∧ Aside0 (w'.heap[gb187]? = some (.cells #[(.slice Ao8 t181.length co8), (.slice Ao10 t184.length co10)] 27 (0, 0))) ∧ Aside0 (Below w.heap.size w w'))
      case atStart => exact ⟨(y188), (1), (0), (by first | rfl | (simp; done) | (simp [*]; done)), (by first | rfl | (simp; done) | (simp [*]; done)), H', ⟨Nat.le_refl _⟩, ⟨by (with_reducible repeat (first | apply r1 | apply r2 | apply r3)); exact HO190.out⟩, ⟨by (with_reducible repeat (first | apply r1 | apply r2 | apply r3)); exact HO183.out⟩, ⟨by (with_reducible repeat (first | apply r1 | apply r2 | apply r3)); exact HO186.out⟩, ⟨by (with_reducible repeat (first | refine blk_drewN ?_ _ | refine blk_drew ?_ | refine blk_alloc ?_ _)); exact BK187.out⟩, ⟨by repeat (first | (with_reducible first | exact HB.out | apply below_alloc | apply pw_below_drewN | apply below_drew1 | refine below_set ?_ GE187.out) | exact HB.out)⟩⟩
      case round =>
        clear H'
        try clear c1
        try clear c2
        try clear p2
        try clear c4
        try clear c4b0
        try clear c4b1
        try clear c6
        try clear c9
        try clear c10
        try clear hcz9_0
        try clear hcz9_1
        try clear hfz9_0
        try clear hfz9_1
        obtain ⟨x2_1, x3_1, x4_1, rfl, rfl, HA, HK1, HO_2, HO_188000, HO_188001, BK187, HB⟩ := hrel
        cases gk with
        | zero => exact absurd HA.out (by simp [blackboardlaw2_FieldKnown.l0])
        | succ k1 =>
          have H := HA.out
          clear HA
          simp only [blackboardlaw2_FieldKnown.l0] at H
          by_cases c13 : x4_1 < 1023
          · rw [if_pos c13] at H
            have c13b0 : decide (x4_1 < 1023) = true := decide_eq_true c13
            clear c13
            replace H := Option.bind_eq_some_iff.mp H
            obtain ⟨⟨t191, t192⟩, A140, H⟩ := H
            replace H : (if 0 ≤ x3_1 then (if x3_1 < (x2_1.length : Int) then (if rdOf false x2_1 x3_1 = true then (some false) else (if t192 = true then (if t191 = x4_1 then ((field_Tables_Exp.f k1 t181 t184 x4_1).bind fun t194 => (if t194 = x3_1 then ((field_Tables_Exp.f k1 t181 t184 (wrap64 (x4_1 - 1023))).bind fun t195 => (if t195 = x3_1 then ((field_Tables_Exp.f k1 t181 t184 (wrap64 (x4_1 + 5115))).bind fun t196 => (if t196 = x3_1 then ((field_Tables_Mul.f k1 t181 t184 x3_1 2).bind fun t198 => (blackboardlaw2_FieldKnown.l0 k1 (x2_1.set (x3_1 : Int).toNat true) t198 (wrap64 (x4_1 + 1)) t181 t184)) else (some false))) else (some false))) else (some false))) else (some false)) else (some false))) else (none)) else (none)) = some r := H
            have A14 := Aside0.mk A140
            clear A140
            by_cases c15 : 0 ≤ x3_1
            · rw [if_pos c15] at H
              have c15b0 : decide (0 ≤ x3_1) = true := decide_eq_true c15
              clear c15
              by_cases c16 : x3_1 < (x2_1.length : Int)
              · rw [if_pos c16] at H
                have c16b0 : decide (x3_1 < (x2_1.length : Int)) = true := decide_eq_true c16
                clear c16
                obtain ⟨bq17, hbq17⟩ : ∃ b_ : Bool, b_ = (rdOf false x2_1 x3_1) := ⟨_, rfl⟩
                replace H : (if bq17 = true then (some false) else (if t192 = true then (if t191 = x4_1 then ((field_Tables_Exp.f k1 t181 t184 x4_1).bind fun t194 => (if t194 = x3_1 then ((field_Tables_Exp.f k1 t181 t184 (wrap64 (x4_1 - 1023))).bind fun t195 => (if t195 = x3_1 then ((field_Tables_Exp.f k1 t181 t184 (wrap64 (x4_1 + 5115))).bind fun t196 => (if t196 = x3_1 then ((field_Tables_Mul.f k1 t181 t184 x3_1 2).bind fun t198 => (blackboardlaw2_FieldKnown.l0 k1 (x2_1.set (x3_1 : Int).toNat true) t198 (wrap64 (x4_1 + 1)) t181 t184)) else (some false))) else (some false))) else (some false))) else (some false)) else (some false))) = some r := by rw [← hbq17] at H; exact H
                have Nbq17 := Aside0.mk hbq17
                clear hbq17
                by_cases c18 : bq17 = true
                · subst c18
                  have H1 : (some false) = some r := by rw [if_pos rfl] at H; exact H
                  clear H
                  have H := H1
                  clear H1
                  obtain rfl := Option.some.inj H
                  exact absurd HRT_.out (by simp)
                · replace c18 := Bool.eq_false_iff.mpr c18
                  subst c18
                  have H1 : (if t192 = true then (if t191 = x4_1 then ((field_Tables_Exp.f k1 t181 t184 x4_1).bind fun t194 => (if t194 = x3_1 then ((field_Tables_Exp.f k1 t181 t184 (wrap64 (x4_1 - 1023))).bind fun t195 => (if t195 = x3_1 then ((field_Tables_Exp.f k1 t181 t184 (wrap64 (x4_1 + 5115))).bind fun t196 => (if t196 = x3_1 then ((field_Tables_Mul.f k1 t181 t184 x3_1 2).bind fun t198 => (blackboardlaw2_FieldKnown.l0 k1 (x2_1.set (x3_1 : Int).toNat true) t198 (wrap64 (x4_1 + 1)) t181 t184)) else (some false))) else (some false))) else (some false))) else (some false)) else (some false)) = some r := by rw [if_neg (show ¬ (false = true) by decide)] at H; exact H
                  clear H
                  have H := H1
                  clear H1
                  by_cases c22 : t192 = true
                  · subst c22
                    have H1 : (if t191 = x4_1 then ((field_Tables_Exp.f k1 t181 t184 x4_1).bind fun t194 => (if t194 = x3_1 then ((field_Tables_Exp.f k1 t181 t184 (wrap64 (x4_1 - 1023))).bind fun t195 => (if t195 = x3_1 then ((field_Tables_Exp.f k1 t181 t184 (wrap64 (x4_1 + 5115))).bind fun t196 => (if t196 = x3_1 then ((field_Tables_Mul.f k1 t181 t184 x3_1 2).bind fun t198 => (blackboardlaw2_FieldKnown.l0 k1 (x2_1.set (x3_1 : Int).toNat true) t198 (wrap64 (x4_1 + 1)) t181 t184)) else (some false))) else (some false))) else (some false))) else (some false)) = some r := by rw [if_pos rfl] at H; exact H
                    clear H
                    have H := H1
                    clear H1
                    by_cases c23 : t191 = x4_1
                    · rw [if_pos c23] at H
                      have c23b0 : (t191 == x4_1) = true := beq_iff_eq.mpr c23
                      have c23b1 : (t191 != x4_1) = false := bne_eq_false_iff_eq.mpr c23
                      clear c23
                      replace H := Option.bind_eq_some_iff.mp H
                      obtain ⟨t194, A240, H⟩ := H
                      replace H : (if t194 = x3_1 then ((field_Tables_Exp.f k1 t181 t184 (wrap64 (x4_1 - 1023))).bind fun t195 => (if t195 = x3_1 then ((field_Tables_Exp.f k1 t181 t184 (wrap64 (x4_1 + 5115))).bind fun t196 => (if t196 = x3_1 then ((field_Tables_Mul.f k1 t181 t184 x3_1 2).bind fun t198 => (blackboardlaw2_FieldKnown.l0 k1 (x2_1.set (x3_1 : Int).toNat true) t198 (wrap64 (x4_1 + 1)) t181 t184)) else (some false))) else (some false))) else (some false)) = some r := H
                      have A24 := Aside0.mk A240
                      clear A240
                      by_cases c25 : t194 = x3_1
                      · rw [if_pos c25] at H
                        have c25b0 : (t194 == x3_1) = true := beq_iff_eq.mpr c25
                        have c25b1 : (t194 != x3_1) = false := bne_eq_false_iff_eq.mpr c25
                        clear c25
                        replace H := Option.bind_eq_some_iff.mp H
                        obtain ⟨t195, A260, H⟩ := H
                        replace H : (if t195 = x3_1 then ((field_Tables_Exp.f k1 t181 t184 (wrap64 (x4_1 + 5115))).bind fun t196 => (if t196 = x3_1 then ((field_Tables_Mul.f k1 t181 t184 x3_1 2).bind fun t198 => (blackboardlaw2_FieldKnown.l0 k1 (x2_1.set (x3_1 : Int).toNat true) t198 (wrap64 (x4_1 + 1)) t181 t184)) else (some false))) else (some false)) = some r := H
                        have A26 := Aside0.mk A260
                        clear A260
                        by_cases c27 : t195 = x3_1
                        · rw [if_pos c27] at H
                          have c27b0 : (t195 == x3_1) = true := beq_iff_eq.mpr c27
                          have c27b1 : (t195 != x3_1) = false := bne_eq_false_iff_eq.mpr c27
                          clear c27
                          replace H := Option.bind_eq_some_iff.mp H
                          obtain ⟨t196, A280, H⟩ := H
                          replace H : (if t196 = x3_1 then ((field_Tables_Mul.f k1 t181 t184 x3_1 2).bind fun t198 => (blackboardlaw2_FieldKnown.l0 k1 (x2_1.set (x3_1 : Int).toNat true) t198 (wrap64 (x4_1 + 1)) t181 t184)) else (some false)) = some r := H
                          have A28 := Aside0.mk A280
                          clear A280
                          by_cases c29 : t196 = x3_1
                          · rw [if_pos c29] at H
                            have c29b0 : (t196 == x3_1) = true := beq_iff_eq.mpr c29
                            have c29b1 : (t196 != x3_1) = false := bne_eq_false_iff_eq.mpr c29
                            clear c29
                            obtain ⟨y197, hy197⟩ : ∃ y_ : List Bool, y_ = (x2_1.set (x3_1 : Int).toNat true) := ⟨_, rfl⟩
                            replace H : ((field_Tables_Mul.f k1 t181 t184 x3_1 2).bind fun t198 => (blackboardlaw2_FieldKnown.l0 k1 y197 t198 (wrap64 (x4_1 + 1)) t181 t184)) = some r := by first | (rw [hy197]; with_reducible exact H) | (have H2_ := (Option.bind_some _ _).symm.trans H; rw [hy197]; with_reducible exact H2_) | (have H2_ := (Option.bind_some _ _).symm.trans H; with_reducible exact H2_) | with_reducible exact H | (rw [hy197]; exact H) | exact H
                            have Ny197 := Aside0.mk hy197
                            clear hy197
                            replace H := Option.bind_eq_some_iff.mp H
                            obtain ⟨t198, A310, H⟩ := H
                            replace H : (blackboardlaw2_FieldKnown.l0 k1 y197 t198 (wrap64 (x4_1 + 1)) t181 t184) = some r := H
                            have A31 := Aside0.mk A310
                            clear A310
                            have H' := Aside0.mk H
                            clear H
                            have hcz32_0 : wr.cell? ⟨gb187, 0, none⟩ = some (.slice Ao8 t181.length co8) := (blk_cell BK187.out 0).trans rfl
                            have hcz32_1 : wr.cell? ⟨gb187, 1, none⟩ = some (.slice Ao10 t184.length co10) := (blk_cell BK187.out 1).trans rfl
                            have hfz32_0 := blk_frozen BK187.out 0
                            have hfz32_1 := blk_frozen BK187.out 1
                            go_wp2_with (first | ((with_reducible refine gate_callee (f := 15) rfl ?_); refine goesL_ (some 23) rfl rfl Try.func15 (by kernel_rfl) rfl #[.agg #[.slice Ao8 t181.length co8, .slice Ao10 t184.length co10], .int .u16 x3_1] rfl (by (try simp only [List.map_toArray, List.map_cons, List.map_nil]); first | done | rfl | (simp only [List.length_drop, List.length_take]; rfl)) ?_; (with_reducible refine (field_Tables_Log.calls k1 _ _ t181 _ _ t184 x3_1 t191 true _ ?side1 ?side2 ?side3 ?side4 A14.out).mono ?_); (case side1 => repeat (first | exact (Kd.R_reads' HO_188000.out).2.2 | (with_reducible refine Kd.C_alloc ?_ _) | (with_reducible refine Kd.C_drewN ?_ _) | (with_reducible refine Kd.C_drew ?_))); (case side2 => exact (Kd.R_reads' HO_188000.out).2.1); (case side3 => repeat (first | exact (Kd.R_reads' HO_188001.out).2.2 | (with_reducible refine Kd.C_alloc ?_ _) | (with_reducible refine Kd.C_drewN ?_ _) | (with_reducible refine Kd.C_drew ?_))); (case side4 => exact (Kd.R_reads' HO_188001.out).2.1); rintro e w33 ⟨rfl, hb⟩; refine ⟨_, rfl, ?_⟩; have n0_ := Aside0.mk (Kd.R_below (by (with_reducible repeat (first | apply r1 | apply r2 | apply r3)); exact HO_2.out) hb); have n1_ := Aside0.mk (Kd.R_below (by (with_reducible repeat (first | apply r1 | apply r2 | apply r3)); exact HO_188000.out) hb); have n2_ := Aside0.mk (Kd.R_below (by (with_reducible repeat (first | apply r1 | apply r2 | apply r3)); exact HO_188001.out) hb); have n3_ := Aside0.mk (blk_below (g := gb187) (o := .cells #[.slice Ao8 t181.length co8, .slice Ao10 t184.length co10] 27 (0, 0)) (by (with_reducible repeat (first | refine blk_drewN ?_ _ | refine blk_drew ?_ | refine blk_alloc ?_ _)); exact BK187.out) hb); have n4_ := Aside0.mk (below_step (by repeat (first | (with_reducible first | exact HB.out | apply below_alloc | apply pw_below_drewN | apply below_drew1 | refine below_set ?_ GE187.out) | exact HB.out)) hb); clear HO_2; clear HO_188000; clear HO_188001; clear BK187; clear HB; have HO_2 := n0_; have HO_188000 := n1_; have HO_188001 := n2_; have BK187 := n3_; have HB := n4_; clear n0_ n1_ n2_ n3_ n4_; (try clear hb); (try clear hb2); (try clear hk); (try clear hi); obtain ⟨Ao34, co34, eo34⟩ := Kd.R_slice HO_2.out; subst eo34; have hv_ := HV.out; injection hv_ with hv1_ hv2_ hv3_; subst hv1_; have p193 : 0 ≤ (x3_1 : Int) := of_decide_eq_true (by first | (with_reducible assumption) | assumption); have q193 : x3_1 < (x2_1.length : Int) := of_decide_eq_true (by first | (with_reducible assumption) | assumption); obtain ⟨ad193, e193, hx193_0⟩ := Kd.at_bool (Kd.R_reads' HO_2.out).2.2 x3_1 p193 q193; (try rw [← Nbq17.out] at hx193_0); cases e193; (first | simp only [add_plain] at hx193_0 | skip); replace p193 := eq_true p193; have q193b : x3_1 < 1024 := (by rw [hv2_] at q193; exact q193); replace q193b := eq_true q193b; replace q193 := eq_true q193; have hcz35_0 : w33.cell? ⟨gb187, 0, none⟩ = some (.slice Ao8 t181.length co8) := (blk_cell BK187.out 0).trans rfl; have hcz35_1 : w33.cell? ⟨gb187, 1, none⟩ = some (.slice Ao10 t184.length co10) := (blk_cell BK187.out 1).trans rfl; have hfz35_0 := blk_frozen BK187.out 0; have hfz35_1 := blk_frozen BK187.out 1) | (go_at_call 16; (with_reducible refine (field_Tables_Exp.calls k1 _ _ t181 _ _ t184 x4_1 t194 _ ?side1 ?side2 ?side3 ?side4 A24.out).mono ?_); (case side1 => repeat (first | exact (Kd.R_reads' HO_188000.out).2.2 | (with_reducible refine Kd.C_alloc ?_ _) | (with_reducible refine Kd.C_drewN ?_ _) | (with_reducible refine Kd.C_drew ?_))); (case side2 => exact (Kd.R_reads' HO_188000.out).2.1); (case side3 => repeat (first | exact (Kd.R_reads' HO_188001.out).2.2 | (with_reducible refine Kd.C_alloc ?_ _) | (with_reducible refine Kd.C_drewN ?_ _) | (with_reducible refine Kd.C_drew ?_))); (case side4 => exact (Kd.R_reads' HO_188001.out).2.1); rintro e w36 ⟨rfl, hb⟩; have n0_ := Aside0.mk (Kd.R_below (by (with_reducible repeat (first | apply r1 | apply r2 | apply r3)); exact HO_2.out) hb); have n1_ := Aside0.mk (Kd.R_below (by (with_reducible repeat (first | apply r1 | apply r2 | apply r3)); exact HO_188000.out) hb); have n2_ := Aside0.mk (Kd.R_below (by (with_reducible repeat (first | apply r1 | apply r2 | apply r3)); exact HO_188001.out) hb); have n3_ := Aside0.mk (blk_below (g := gb187) (o := .cells #[.slice Ao8 t181.length co8, .slice Ao10 t184.length co10] 27 (0, 0)) (by (with_reducible repeat (first | refine blk_drewN ?_ _ | refine blk_drew ?_ | refine blk_alloc ?_ _)); exact BK187.out) hb); have n4_ := Aside0.mk (below_step (by repeat (first | (with_reducible first | exact HB.out | apply below_alloc | apply pw_below_drewN | apply below_drew1 | refine below_set ?_ GE187.out) | exact HB.out)) hb); clear HO_2; clear HO_188000; clear HO_188001; clear BK187; clear HB; have HO_2 := n0_; have HO_188000 := n1_; have HO_188001 := n2_; have BK187 := n3_; have HB := n4_; clear n0_ n1_ n2_ n3_ n4_; (try clear hb); (try clear hb2); (try clear hk); (try clear hi); have hcz37_0 : w36.cell? ⟨gb187, 0, none⟩ = some (.slice Ao8 t181.length co8) := (blk_cell BK187.out 0).trans rfl; have hcz37_1 : w36.cell? ⟨gb187, 1, none⟩ = some (.slice Ao10 t184.length co10) := (blk_cell BK187.out 1).trans rfl; have hfz37_0 := blk_frozen BK187.out 0; have hfz37_1 := blk_frozen BK187.out 1) | (go_at_call 16; (with_reducible refine (field_Tables_Exp.calls k1 _ _ t181 _ _ t184 (wrap64 (x4_1 - 1023)) t195 _ ?side1 ?side2 ?side3 ?side4 A26.out).mono ?_); (case side1 => repeat (first | exact (Kd.R_reads' HO_188000.out).2.2 | (with_reducible refine Kd.C_alloc ?_ _) | (with_reducible refine Kd.C_drewN ?_ _) | (with_reducible refine Kd.C_drew ?_))); (case side2 => exact (Kd.R_reads' HO_188000.out).2.1); (case side3 => repeat (first | exact (Kd.R_reads' HO_188001.out).2.2 | (with_reducible refine Kd.C_alloc ?_ _) | (with_reducible refine Kd.C_drewN ?_ _) | (with_reducible refine Kd.C_drew ?_))); (case side4 => exact (Kd.R_reads' HO_188001.out).2.1); rintro e w38 ⟨rfl, hb⟩; have n0_ := Aside0.mk (Kd.R_below (by (with_reducible repeat (first | apply r1 | apply r2 | apply r3)); exact HO_2.out) hb); have n1_ := Aside0.mk (Kd.R_below (by (with_reducible repeat (first | apply r1 | apply r2 | apply r3)); exact HO_188000.out) hb); have n2_ := Aside0.mk (Kd.R_below (by (with_reducible repeat (first | apply r1 | apply r2 | apply r3)); exact HO_188001.out) hb); have n3_ := Aside0.mk (blk_below (g := gb187) (o := .cells #[.slice Ao8 t181.length co8, .slice Ao10 t184.length co10] 27 (0, 0)) (by (with_reducible repeat (first | refine blk_drewN ?_ _ | refine blk_drew ?_ | refine blk_alloc ?_ _)); exact BK187.out) hb); have n4_ := Aside0.mk (below_step (by repeat (first | (with_reducible first | exact HB.out | apply below_alloc | apply pw_below_drewN | apply below_drew1 | refine below_set ?_ GE187.out) | exact HB.out)) hb); clear HO_2; clear HO_188000; clear HO_188001; clear BK187; clear HB; have HO_2 := n0_; have HO_188000 := n1_; have HO_188001 := n2_; have BK187 := n3_; have HB := n4_; clear n0_ n1_ n2_ n3_ n4_; (try clear hb); (try clear hb2); (try clear hk); (try clear hi); have hcz39_0 : w38.cell? ⟨gb187, 0, none⟩ = some (.slice Ao8 t181.length co8) := (blk_cell BK187.out 0).trans rfl; have hcz39_1 : w38.cell? ⟨gb187, 1, none⟩ = some (.slice Ao10 t184.length co10) := (blk_cell BK187.out 1).trans rfl; have hfz39_0 := blk_frozen BK187.out 0; have hfz39_1 := blk_frozen BK187.out 1) | (go_at_call 16; (with_reducible refine (field_Tables_Exp.calls k1 _ _ t181 _ _ t184 (wrap64 (x4_1 + 5115)) t196 _ ?side1 ?side2 ?side3 ?side4 A28.out).mono ?_); (case side1 => repeat (first | exact (Kd.R_reads' HO_188000.out).2.2 | (with_reducible refine Kd.C_alloc ?_ _) | (with_reducible refine Kd.C_drewN ?_ _) | (with_reducible refine Kd.C_drew ?_))); (case side2 => exact (Kd.R_reads' HO_188000.out).2.1); (case side3 => repeat (first | exact (Kd.R_reads' HO_188001.out).2.2 | (with_reducible refine Kd.C_alloc ?_ _) | (with_reducible refine Kd.C_drewN ?_ _) | (with_reducible refine Kd.C_drew ?_))); (case side4 => exact (Kd.R_reads' HO_188001.out).2.1); rintro e w40 ⟨rfl, hb⟩; have n0_ := Aside0.mk (Kd.R_below (by (with_reducible repeat (first | apply r1 | apply r2 | apply r3)); exact HO_2.out) hb); have n1_ := Aside0.mk (Kd.R_below (by (with_reducible repeat (first | apply r1 | apply r2 | apply r3)); exact HO_188000.out) hb); have n2_ := Aside0.mk (Kd.R_below (by (with_reducible repeat (first | apply r1 | apply r2 | apply r3)); exact HO_188001.out) hb); have n3_ := Aside0.mk (blk_below (g := gb187) (o := .cells #[.slice Ao8 t181.length co8, .slice Ao10 t184.length co10] 27 (0, 0)) (by (with_reducible repeat (first | refine blk_drewN ?_ _ | refine blk_drew ?_ | refine blk_alloc ?_ _)); exact BK187.out) hb); have n4_ := Aside0.mk (below_step (by repeat (first | (with_reducible first | exact HB.out | apply below_alloc | apply pw_below_drewN | apply below_drew1 | refine below_set ?_ GE187.out) | exact HB.out)) hb); clear HO_2; clear HO_188000; clear HO_188001; clear BK187; clear HB; have HO_2 := n0_; have HO_188000 := n1_; have HO_188001 := n2_; have BK187 := n3_; have HB := n4_; clear n0_ n1_ n2_ n3_ n4_; (try clear hb); (try clear hb2); (try clear hk); (try clear hi); have p30 : 0 ≤ (x3_1 : Int) := of_decide_eq_true (by first | (with_reducible assumption) | assumption); have q30 : (x3_1 : Int) < ((x2_1.length : Int) : Int) := of_decide_eq_true (by first | (with_reducible assumption) | assumption); obtain ⟨go30, co30, eo30, gb30, gl30, cl30, HG30⟩ := Kd.R_form HO_2.out (by omega); (first | cases eo30 | (injection eo30 with ea_ en_ ec_; (first | subst ea_ | (injection ea_ with ea_; subst ea_)); subst ec_; clear en_)); have GB30 := Aside0.mk gb30; have GG30 := Aside0.mk HG30; clear gb30 gl30 HG30; (first | simp only [add_plain] at hx193_0 | skip); obtain ⟨hx30_0, hf30_0⟩ := Kd.R_celln false HO_2.out (x3_1 : Int) p30 q30; replace p30 := eq_true p30; replace q30 := eq_true q30; obtain ⟨hy41_, hz41_⟩ := Kd.R_celln false HO_2.out (x3_1 : Int) (of_decide_eq_true (by first | (with_reducible assumption) | assumption)) (of_decide_eq_true (by first | (with_reducible assumption) | assumption)); have HP41 := Kd.R_putg HO_2.out (x3_1 : Int) true) | ((with_reducible refine gate_store (t := 4) (p := 62) rfl ?_); refine store_event (t := 4) (p := 62) (v := ?vo_w42) (w1 := (w40.setCell ⟨gs, (x3_1 : Int).toNat, none⟩ (.bool true))) ?hg ?ho ?hn ?hr ?_; (case ho => rfl); (case hg => rfl); (case hn => rfl); (case hr => first | (go_simp; done) | (go_simp; rfl)); intro w42 hw; have hg : w40.grownBy w42 (some gs) := (by rw [hw]; exact HP41.2); have hp_ : Kd.R Kd.bool 36 w42 w.heap.size (fun _ => True) (.slice (some ⟨gs, 0, none⟩) x2_1.length co34) y197 := (by rw [hw, Ny197.out]; exact HP41.1); clear HP41; have n0_ := Aside0.mk (hp_); have n1_ := Aside0.mk (Kd.R_over' (v := (.slice (some ⟨gs, 0, none⟩) x2_1.length co34)) (by (with_reducible repeat (first | apply r1 | apply r2 | apply r3)); exact HO_188000.out) (Kd.R_typed HO_2.out) (by decide) hg); have n2_ := Aside0.mk (Kd.R_over' (v := (.slice (some ⟨gs, 0, none⟩) x2_1.length co34)) (by (with_reducible repeat (first | apply r1 | apply r2 | apply r3)); exact HO_188001.out) (Kd.R_typed HO_2.out) (by decide) hg); have n3_ := Aside0.mk (blk_grown (g := gb187) (o := .cells #[.slice Ao8 t181.length co8, .slice Ao10 t184.length co10] 27 (0, 0)) (by (with_reducible repeat (first | refine blk_drewN ?_ _ | refine blk_drew ?_ | refine blk_alloc ?_ _)); exact BK187.out) hg (Kd.R_ne HO_2.out BK187.out (by decide))); have n4_ := Aside0.mk ((by rw [hw]; exact below_set (HB.out) GB30.out : Below w.heap.size w w42)); clear HO_2; clear HO_188000; clear HO_188001; clear BK187; clear HB; have HO_2 := n0_; have HO_188000 := n1_; have HO_188001 := n2_; have BK187 := n3_; have HB := n4_; clear n0_ n1_ n2_ n3_ n4_; clear hg hw hp_; have hcz43_0 : w42.cell? ⟨gb187, 0, none⟩ = some (.slice Ao8 t181.length co8) := (blk_cell BK187.out 0).trans rfl; have hcz43_1 : w42.cell? ⟨gb187, 1, none⟩ = some (.slice Ao10 t184.length co10) := (blk_cell BK187.out 1).trans rfl; have hfz43_0 := blk_frozen BK187.out 0; have hfz43_1 := blk_frozen BK187.out 1) | ((with_reducible refine gate_callee (f := 12) rfl ?_); refine goesL_ (some 65) rfl rfl Try.func12 (by kernel_rfl) rfl #[.agg #[.slice Ao8 t181.length co8, .slice Ao10 t184.length co10], .int .u16 x3_1, .int .u16 2] rfl (by (try simp only [List.map_toArray, List.map_cons, List.map_nil]); first | done | rfl | (simp only [List.length_drop, List.length_take]; rfl)) ?_; (with_reducible refine (field_Tables_Mul.calls k1 _ _ t181 _ _ t184 x3_1 2 t198 _ ?side1 ?side2 ?side3 ?side4 A31.out).mono ?_); (case side1 => repeat (first | exact (Kd.R_reads' HO_188000.out).2.2 | (with_reducible refine Kd.C_alloc ?_ _) | (with_reducible refine Kd.C_drewN ?_ _) | (with_reducible refine Kd.C_drew ?_))); (case side2 => exact (Kd.R_reads' HO_188000.out).2.1); (case side3 => repeat (first | exact (Kd.R_reads' HO_188001.out).2.2 | (with_reducible refine Kd.C_alloc ?_ _) | (with_reducible refine Kd.C_drewN ?_ _) | (with_reducible refine Kd.C_drew ?_))); (case side4 => exact (Kd.R_reads' HO_188001.out).2.1); rintro e w44 ⟨rfl, hb⟩; refine ⟨_, rfl, ?_⟩; have n0_ := Aside0.mk (Kd.R_below (by (with_reducible repeat (first | apply r1 | apply r2 | apply r3)); exact HO_2.out) hb); have n1_ := Aside0.mk (Kd.R_below (by (with_reducible repeat (first | apply r1 | apply r2 | apply r3)); exact HO_188000.out) hb); have n2_ := Aside0.mk (Kd.R_below (by (with_reducible repeat (first | apply r1 | apply r2 | apply r3)); exact HO_188001.out) hb); have n3_ := Aside0.mk (blk_below (g := gb187) (o := .cells #[.slice Ao8 t181.length co8, .slice Ao10 t184.length co10] 27 (0, 0)) (by (with_reducible repeat (first | refine blk_drewN ?_ _ | refine blk_drew ?_ | refine blk_alloc ?_ _)); exact BK187.out) hb); have n4_ := Aside0.mk (below_step (by repeat (first | (with_reducible first | exact HB.out | apply below_alloc | apply pw_below_drewN | apply below_drew1 | refine below_set ?_ GE187.out) | exact HB.out)) hb); clear HO_2; clear HO_188000; clear HO_188001; clear BK187; clear HB; have HO_2 := n0_; have HO_188000 := n1_; have HO_188001 := n2_; have BK187 := n3_; have HB := n4_; clear n0_ n1_ n2_ n3_ n4_; (try clear hb); (try clear hb2); (try clear hk); (try clear hi)))
                            go_roundg k1
                            case measure => have := HK1.out; omega
                            case rel => exact ⟨(y197), (t198), (wrap64 (x4_1 + 1)), (by first | rfl | (simp; done) | (simp [*]; done)), (by first | rfl | (simp; done) | (simp [*]; done)), H', ⟨by have := HK1.out; omega⟩, ⟨by (with_reducible repeat (first | apply r1 | apply r2 | apply r3)); exact HO_2.out⟩, ⟨by (with_reducible repeat (first | apply r1 | apply r2 | apply r3)); exact HO_188000.out⟩, ⟨by (with_reducible repeat (first | apply r1 | apply r2 | apply r3)); exact HO_188001.out⟩, ⟨by (with_reducible repeat (first | refine blk_drewN ?_ _ | refine blk_drew ?_ | refine blk_alloc ?_ _)); exact BK187.out⟩, ⟨by repeat (first | (with_reducible first | exact HB.out | apply below_alloc | apply pw_below_drewN | apply below_drew1 | refine below_set ?_ GE187.out) | exact HB.out)⟩⟩
                          · rw [if_neg c29] at H
                            have c29b0 : (t196 == x3_1) = false := beq_eq_false_iff_ne.mpr c29
                            have c29b1 : (t196 != x3_1) = true := bne_iff_ne.mpr c29
                            obtain rfl := Option.some.inj H
                            exact absurd HRT_.out (by simp)
                        · rw [if_neg c27] at H
                          have c27b0 : (t195 == x3_1) = false := beq_eq_false_iff_ne.mpr c27
                          have c27b1 : (t195 != x3_1) = true := bne_iff_ne.mpr c27
                          obtain rfl := Option.some.inj H
                          exact absurd HRT_.out (by simp)
                      · rw [if_neg c25] at H
                        have c25b0 : (t194 == x3_1) = false := beq_eq_false_iff_ne.mpr c25
                        have c25b1 : (t194 != x3_1) = true := bne_iff_ne.mpr c25
                        obtain rfl := Option.some.inj H
                        exact absurd HRT_.out (by simp)
                    · rw [if_neg c23] at H
                      have c23b0 : (t191 == x4_1) = false := beq_eq_false_iff_ne.mpr c23
                      have c23b1 : (t191 != x4_1) = true := bne_iff_ne.mpr c23
                      obtain rfl := Option.some.inj H
                      exact absurd HRT_.out (by simp)
                  · replace c22 := Bool.eq_false_iff.mpr c22
                    subst c22
                    have H1 : (some false) = some r := by rw [if_neg (show ¬ (false = true) by decide)] at H; exact H
                    clear H
                    have H := H1
                    clear H1
                    obtain rfl := Option.some.inj H
                    exact absurd HRT_.out (by simp)
              · rw [if_neg c16] at H
                exact absurd H (by simp)
            · rw [if_neg c15] at H
              exact absurd H (by simp)
          · rw [if_neg c13] at H
            have c13b0 : decide (x4_1 < 1023) = false := decide_eq_false c13
            clear c13
            replace H := Option.bind_eq_some_iff.mp H
            obtain ⟨⟨t199, t200⟩, A720, H⟩ := H
            replace H : ((field_Tables_Log.f k1 t181 t184 1024).bind fun bt201 => ((field_Tables_Inv.f k1 t181 t184 7).bind fun bt203 => (if x3_1 = 1 then (if t200 = true then (some false) else (if bt201.2 = true then (some false) else ((field_Tables_Pow.f k1 t181 t184 0 0).bind fun t205 => (if t205 = 1 then ((field_Tables_Pow.f k1 t181 t184 0 5).bind fun t206 => (if t206 = 0 then ((field_Tables_Pow.f k1 t181 t184 0 (-5)).bind fun t207 => (if t207 = 0 then ((field_Tables_Pow.f k1 t181 t184 7 (-1)).bind fun t208 => (if t208 = bt203.1 then ((field_Tables_Pow.f k1 t181 t184 7 1023).bind fun t209 => (if t209 = 1 then ((field_Tables_Mul.f k1 t181 t184 1025 5).bind fun t210 => (if t210 = 5 then ((field_Add.f 1023 1024).bind fun t211 => (if t211 = 1023 then ((field_Tables_Mul.f k1 t181 t184 512 512).bind fun t212 => ((field_Tables_Exp.f k1 t181 t184 18).bind fun t213 => (some (t212 == t213)))) else (some false))) else (some false))) else (some false))) else (some false))) else (some false))) else (some false))) else (some false))))) else (some false)))) = some r := H
            have A72 := Aside0.mk A720
            clear A720
            replace H := Option.bind_eq_some_iff.mp H
            obtain ⟨⟨t201, t202⟩, A730, H⟩ := H
            replace H : ((field_Tables_Inv.f k1 t181 t184 7).bind fun bt203 => (if x3_1 = 1 then (if t200 = true then (some false) else (if t202 = true then (some false) else ((field_Tables_Pow.f k1 t181 t184 0 0).bind fun t205 => (if t205 = 1 then ((field_Tables_Pow.f k1 t181 t184 0 5).bind fun t206 => (if t206 = 0 then ((field_Tables_Pow.f k1 t181 t184 0 (-5)).bind fun t207 => (if t207 = 0 then ((field_Tables_Pow.f k1 t181 t184 7 (-1)).bind fun t208 => (if t208 = bt203.1 then ((field_Tables_Pow.f k1 t181 t184 7 1023).bind fun t209 => (if t209 = 1 then ((field_Tables_Mul.f k1 t181 t184 1025 5).bind fun t210 => (if t210 = 5 then ((field_Add.f 1023 1024).bind fun t211 => (if t211 = 1023 then ((field_Tables_Mul.f k1 t181 t184 512 512).bind fun t212 => ((field_Tables_Exp.f k1 t181 t184 18).bind fun t213 => (some (t212 == t213)))) else (some false))) else (some false))) else (some false))) else (some false))) else (some false))) else (some false))) else (some false))))) else (some false))) = some r := H
            have A73 := Aside0.mk A730
            clear A730
            replace H := Option.bind_eq_some_iff.mp H
            obtain ⟨⟨t203, t204⟩, A740, H⟩ := H
            replace H : (if x3_1 = 1 then (if t200 = true then (some false) else (if t202 = true then (some false) else ((field_Tables_Pow.f k1 t181 t184 0 0).bind fun t205 => (if t205 = 1 then ((field_Tables_Pow.f k1 t181 t184 0 5).bind fun t206 => (if t206 = 0 then ((field_Tables_Pow.f k1 t181 t184 0 (-5)).bind fun t207 => (if t207 = 0 then ((field_Tables_Pow.f k1 t181 t184 7 (-1)).bind fun t208 => (if t208 = t203 then ((field_Tables_Pow.f k1 t181 t184 7 1023).bind fun t209 => (if t209 = 1 then ((field_Tables_Mul.f k1 t181 t184 1025 5).bind fun t210 => (if t210 = 5 then ((field_Add.f 1023 1024).bind fun t211 => (if t211 = 1023 then ((field_Tables_Mul.f k1 t181 t184 512 512).bind fun t212 => ((field_Tables_Exp.f k1 t181 t184 18).bind fun t213 => (some (t212 == t213)))) else (some false))) else (some false))) else (some false))) else (some false))) else (some false))) else (some false))) else (some false))))) else (some false)) = some r := H
            have A74 := Aside0.mk A740
            clear A740
            by_cases c75 : x3_1 = 1
            · rw [if_pos c75] at H
              have c75b0 : (x3_1 == 1) = true := beq_iff_eq.mpr c75
              have c75b1 : (x3_1 != 1) = false := bne_eq_false_iff_eq.mpr c75
              clear c75
              by_cases c76 : t200 = true
              · subst c76
                have H1 : (some false) = some r := by rw [if_pos rfl] at H; exact H
                clear H
                have H := H1
                clear H1
                obtain rfl := Option.some.inj H
                exact absurd HRT_.out (by simp)
              · replace c76 := Bool.eq_false_iff.mpr c76
                subst c76
                have H1 : (if t202 = true then (some false) else ((field_Tables_Pow.f k1 t181 t184 0 0).bind fun t205 => (if t205 = 1 then ((field_Tables_Pow.f k1 t181 t184 0 5).bind fun t206 => (if t206 = 0 then ((field_Tables_Pow.f k1 t181 t184 0 (-5)).bind fun t207 => (if t207 = 0 then ((field_Tables_Pow.f k1 t181 t184 7 (-1)).bind fun t208 => (if t208 = t203 then ((field_Tables_Pow.f k1 t181 t184 7 1023).bind fun t209 => (if t209 = 1 then ((field_Tables_Mul.f k1 t181 t184 1025 5).bind fun t210 => (if t210 = 5 then ((field_Add.f 1023 1024).bind fun t211 => (if t211 = 1023 then ((field_Tables_Mul.f k1 t181 t184 512 512).bind fun t212 => ((field_Tables_Exp.f k1 t181 t184 18).bind fun t213 => (some (t212 == t213)))) else (some false))) else (some false))) else (some false))) else (some false))) else (some false))) else (some false))) else (some false)))) = some r := by rw [if_neg (show ¬ (false = true) by decide)] at H; exact H
                clear H
                have H := H1
                clear H1
                by_cases c84 : t202 = true
                · subst c84
                  have H1 : (some false) = some r := by rw [if_pos rfl] at H; exact H
                  clear H
                  have H := H1
                  clear H1
                  obtain rfl := Option.some.inj H
                  exact absurd HRT_.out (by simp)
                · replace c84 := Bool.eq_false_iff.mpr c84
                  subst c84
                  have H1 : ((field_Tables_Pow.f k1 t181 t184 0 0).bind fun t205 => (if t205 = 1 then ((field_Tables_Pow.f k1 t181 t184 0 5).bind fun t206 => (if t206 = 0 then ((field_Tables_Pow.f k1 t181 t184 0 (-5)).bind fun t207 => (if t207 = 0 then ((field_Tables_Pow.f k1 t181 t184 7 (-1)).bind fun t208 => (if t208 = t203 then ((field_Tables_Pow.f k1 t181 t184 7 1023).bind fun t209 => (if t209 = 1 then ((field_Tables_Mul.f k1 t181 t184 1025 5).bind fun t210 => (if t210 = 5 then ((field_Add.f 1023 1024).bind fun t211 => (if t211 = 1023 then ((field_Tables_Mul.f k1 t181 t184 512 512).bind fun t212 => ((field_Tables_Exp.f k1 t181 t184 18).bind fun t213 => (some (t212 == t213)))) else (some false))) else (some false))) else (some false))) else (some false))) else (some false))) else (some false))) else (some false))) = some r := by rw [if_neg (show ¬ (false = true) by decide)] at H; exact H
                  clear H
                  have H := H1
                  clear H1
                  replace H := Option.bind_eq_some_iff.mp H
                  obtain ⟨t205, A920, H⟩ := H
                  replace H : (if t205 = 1 then ((field_Tables_Pow.f k1 t181 t184 0 5).bind fun t206 => (if t206 = 0 then ((field_Tables_Pow.f k1 t181 t184 0 (-5)).bind fun t207 => (if t207 = 0 then ((field_Tables_Pow.f k1 t181 t184 7 (-1)).bind fun t208 => (if t208 = t203 then ((field_Tables_Pow.f k1 t181 t184 7 1023).bind fun t209 => (if t209 = 1 then ((field_Tables_Mul.f k1 t181 t184 1025 5).bind fun t210 => (if t210 = 5 then ((field_Add.f 1023 1024).bind fun t211 => (if t211 = 1023 then ((field_Tables_Mul.f k1 t181 t184 512 512).bind fun t212 => ((field_Tables_Exp.f k1 t181 t184 18).bind fun t213 => (some (t212 == t213)))) else (some false))) else (some false))) else (some false))) else (some false))) else (some false))) else (some false))) else (some false)) = some r := H
                  have A92 := Aside0.mk A920
                  clear A920
                  by_cases c93 : t205 = 1
                  · rw [if_pos c93] at H
                    have c93b0 : (t205 == 1) = true := beq_iff_eq.mpr c93
                    have c93b1 : (t205 != 1) = false := bne_eq_false_iff_eq.mpr c93
                    clear c93
                    replace H := Option.bind_eq_some_iff.mp H
                    obtain ⟨t206, A940, H⟩ := H
                    replace H : (if t206 = 0 then ((field_Tables_Pow.f k1 t181 t184 0 (-5)).bind fun t207 => (if t207 = 0 then ((field_Tables_Pow.f k1 t181 t184 7 (-1)).bind fun t208 => (if t208 = t203 then ((field_Tables_Pow.f k1 t181 t184 7 1023).bind fun t209 => (if t209 = 1 then ((field_Tables_Mul.f k1 t181 t184 1025 5).bind fun t210 => (if t210 = 5 then ((field_Add.f 1023 1024).bind fun t211 => (if t211 = 1023 then ((field_Tables_Mul.f k1 t181 t184 512 512).bind fun t212 => ((field_Tables_Exp.f k1 t181 t184 18).bind fun t213 => (some (t212 == t213)))) else (some false))) else (some false))) else (some false))) else (some false))) else (some false))) else (some false)) = some r := H
                    have A94 := Aside0.mk A940
                    clear A940
                    by_cases c95 : t206 = 0
                    · rw [if_pos c95] at H
                      have c95b0 : (t206 == 0) = true := beq_iff_eq.mpr c95
                      have c95b1 : (t206 != 0) = false := bne_eq_false_iff_eq.mpr c95
                      clear c95
                      replace H := Option.bind_eq_some_iff.mp H
                      obtain ⟨t207, A960, H⟩ := H
                      replace H : (if t207 = 0 then ((field_Tables_Pow.f k1 t181 t184 7 (-1)).bind fun t208 => (if t208 = t203 then ((field_Tables_Pow.f k1 t181 t184 7 1023).bind fun t209 => (if t209 = 1 then ((field_Tables_Mul.f k1 t181 t184 1025 5).bind fun t210 => (if t210 = 5 then ((field_Add.f 1023 1024).bind fun t211 => (if t211 = 1023 then ((field_Tables_Mul.f k1 t181 t184 512 512).bind fun t212 => ((field_Tables_Exp.f k1 t181 t184 18).bind fun t213 => (some (t212 == t213)))) else (some false))) else (some false))) else (some false))) else (some false))) else (some false)) = some r := H
                      have A96 := Aside0.mk A960
                      clear A960
                      by_cases c97 : t207 = 0
                      · rw [if_pos c97] at H
                        have c97b0 : (t207 == 0) = true := beq_iff_eq.mpr c97
                        have c97b1 : (t207 != 0) = false := bne_eq_false_iff_eq.mpr c97
                        clear c97
                        replace H := Option.bind_eq_some_iff.mp H
                        obtain ⟨t208, A980, H⟩ := H
                        replace H : (if t208 = t203 then ((field_Tables_Pow.f k1 t181 t184 7 1023).bind fun t209 => (if t209 = 1 then ((field_Tables_Mul.f k1 t181 t184 1025 5).bind fun t210 => (if t210 = 5 then ((field_Add.f 1023 1024).bind fun t211 => (if t211 = 1023 then ((field_Tables_Mul.f k1 t181 t184 512 512).bind fun t212 => ((field_Tables_Exp.f k1 t181 t184 18).bind fun t213 => (some (t212 == t213)))) else (some false))) else (some false))) else (some false))) else (some false)) = some r := H
                        have A98 := Aside0.mk A980
                        clear A980
                        by_cases c99 : t208 = t203
                        · rw [if_pos c99] at H
                          have c99b0 : (t208 == t203) = true := beq_iff_eq.mpr c99
                          have c99b1 : (t208 != t203) = false := bne_eq_false_iff_eq.mpr c99
                          clear c99
                          replace H := Option.bind_eq_some_iff.mp H
                          obtain ⟨t209, A1000, H⟩ := H
                          replace H : (if t209 = 1 then ((field_Tables_Mul.f k1 t181 t184 1025 5).bind fun t210 => (if t210 = 5 then ((field_Add.f 1023 1024).bind fun t211 => (if t211 = 1023 then ((field_Tables_Mul.f k1 t181 t184 512 512).bind fun t212 => ((field_Tables_Exp.f k1 t181 t184 18).bind fun t213 => (some (t212 == t213)))) else (some false))) else (some false))) else (some false)) = some r := H
                          have A100 := Aside0.mk A1000
                          clear A1000
                          by_cases c101 : t209 = 1
                          · rw [if_pos c101] at H
                            have c101b0 : (t209 == 1) = true := beq_iff_eq.mpr c101
                            have c101b1 : (t209 != 1) = false := bne_eq_false_iff_eq.mpr c101
                            clear c101
                            replace H := Option.bind_eq_some_iff.mp H
                            obtain ⟨t210, A1020, H⟩ := H
                            replace H : (if t210 = 5 then ((field_Add.f 1023 1024).bind fun t211 => (if t211 = 1023 then ((field_Tables_Mul.f k1 t181 t184 512 512).bind fun t212 => ((field_Tables_Exp.f k1 t181 t184 18).bind fun t213 => (some (t212 == t213)))) else (some false))) else (some false)) = some r := H
                            have A102 := Aside0.mk A1020
                            clear A1020
                            by_cases c103 : t210 = 5
                            · rw [if_pos c103] at H
                              have c103b0 : (t210 == 5) = true := beq_iff_eq.mpr c103
                              have c103b1 : (t210 != 5) = false := bne_eq_false_iff_eq.mpr c103
                              clear c103
                              replace H := Option.bind_eq_some_iff.mp H
                              obtain ⟨t211, A1040, H⟩ := H
                              replace H : (if t211 = 1023 then ((field_Tables_Mul.f k1 t181 t184 512 512).bind fun t212 => ((field_Tables_Exp.f k1 t181 t184 18).bind fun t213 => (some (t212 == t213)))) else (some false)) = some r := H
                              have A104 := Aside0.mk A1040
                              clear A1040
                              by_cases c105 : t211 = 1023
                              · rw [if_pos c105] at H
                                have c105b0 : (t211 == 1023) = true := beq_iff_eq.mpr c105
                                have c105b1 : (t211 != 1023) = false := bne_eq_false_iff_eq.mpr c105
                                clear c105
                                replace H := Option.bind_eq_some_iff.mp H
                                obtain ⟨t212, A1060, H⟩ := H
                                replace H : ((field_Tables_Exp.f k1 t181 t184 18).bind fun t213 => (some (t212 == t213))) = some r := H
                                have A106 := Aside0.mk A1060
                                clear A1060
                                replace H := Option.bind_eq_some_iff.mp H
                                obtain ⟨t213, A1070, H⟩ := H
                                replace H : (some (t212 == t213)) = some r := H
                                have A107 := Aside0.mk A1070
                                clear A1070
                                obtain rfl := Option.some.inj H
                                have hcz108_0 : wr.cell? ⟨gb187, 0, none⟩ = some (.slice Ao8 t181.length co8) := (blk_cell BK187.out 0).trans rfl
                                have hcz108_1 : wr.cell? ⟨gb187, 1, none⟩ = some (.slice Ao10 t184.length co10) := (blk_cell BK187.out 1).trans rfl
                                have hfz108_0 := blk_frozen BK187.out 0
                                have hfz108_1 := blk_frozen BK187.out 1
                                try go_wp2_with (first | ((with_reducible refine gate_callee (f := 11) rfl ?_); refine goesL_ (some 68) rfl rfl Try.func11 (by kernel_rfl) rfl #[.agg #[.slice Ao8 t181.length co8, .slice Ao10 t184.length co10], .int .u16 0] rfl (by (try simp only [List.map_toArray, List.map_cons, List.map_nil]); first | done | rfl | (simp only [List.length_drop, List.length_take]; rfl)) ?_; (with_reducible refine (field_Tables_Inv.calls k1 _ _ t181 _ _ t184 0 t199 false _ ?side1 ?side2 ?side3 ?side4 A72.out).mono ?_); (case side1 => repeat (first | exact (Kd.R_reads' HO_188000.out).2.2 | (with_reducible refine Kd.C_alloc ?_ _) | (with_reducible refine Kd.C_drewN ?_ _) | (with_reducible refine Kd.C_drew ?_))); (case side2 => exact (Kd.R_reads' HO_188000.out).2.1); (case side3 => repeat (first | exact (Kd.R_reads' HO_188001.out).2.2 | (with_reducible refine Kd.C_alloc ?_ _) | (with_reducible refine Kd.C_drewN ?_ _) | (with_reducible refine Kd.C_drew ?_))); (case side4 => exact (Kd.R_reads' HO_188001.out).2.1); rintro e w109 ⟨rfl, hb⟩; refine ⟨_, rfl, ?_⟩; have n0_ := Aside0.mk (Kd.R_below (by (with_reducible repeat (first | apply r1 | apply r2 | apply r3)); exact HO_2.out) hb); have n1_ := Aside0.mk (Kd.R_below (by (with_reducible repeat (first | apply r1 | apply r2 | apply r3)); exact HO_188000.out) hb); have n2_ := Aside0.mk (Kd.R_below (by (with_reducible repeat (first | apply r1 | apply r2 | apply r3)); exact HO_188001.out) hb); have n3_ := Aside0.mk (blk_below (g := gb187) (o := .cells #[.slice Ao8 t181.length co8, .slice Ao10 t184.length co10] 27 (0, 0)) (by (with_reducible repeat (first | refine blk_drewN ?_ _ | refine blk_drew ?_ | refine blk_alloc ?_ _)); exact BK187.out) hb); have n4_ := Aside0.mk (below_step (by repeat (first | (with_reducible first | exact HB.out | apply below_alloc | apply pw_below_drewN | apply below_drew1 | refine below_set ?_ GE187.out) | exact HB.out)) hb); clear HO_2; clear HO_188000; clear HO_188001; clear BK187; clear HB; have HO_2 := n0_; have HO_188000 := n1_; have HO_188001 := n2_; have BK187 := n3_; have HB := n4_; clear n0_ n1_ n2_ n3_ n4_; (try clear hb); (try clear hb2); (try clear hk); (try clear hi); have hcz110_0 : w109.cell? ⟨gb187, 0, none⟩ = some (.slice Ao8 t181.length co8) := (blk_cell BK187.out 0).trans rfl; have hcz110_1 : w109.cell? ⟨gb187, 1, none⟩ = some (.slice Ao10 t184.length co10) := (blk_cell BK187.out 1).trans rfl; have hfz110_0 := blk_frozen BK187.out 0; have hfz110_1 := blk_frozen BK187.out 1) | ((with_reducible refine gate_callee (f := 15) rfl ?_); refine goesL_ (some 73) rfl rfl Try.func15 (by kernel_rfl) rfl #[.agg #[.slice Ao8 t181.length co8, .slice Ao10 t184.length co10], .int .u16 1024] rfl (by (try simp only [List.map_toArray, List.map_cons, List.map_nil]); first | done | rfl | (simp only [List.length_drop, List.length_take]; rfl)) ?_; (with_reducible refine (field_Tables_Log.calls k1 _ _ t181 _ _ t184 1024 t201 false _ ?side1 ?side2 ?side3 ?side4 A73.out).mono ?_); (case side1 => repeat (first | exact (Kd.R_reads' HO_188000.out).2.2 | (with_reducible refine Kd.C_alloc ?_ _) | (with_reducible refine Kd.C_drewN ?_ _) | (with_reducible refine Kd.C_drew ?_))); (case side2 => exact (Kd.R_reads' HO_188000.out).2.1); (case side3 => repeat (first | exact (Kd.R_reads' HO_188001.out).2.2 | (with_reducible refine Kd.C_alloc ?_ _) | (with_reducible refine Kd.C_drewN ?_ _) | (with_reducible refine Kd.C_drew ?_))); (case side4 => exact (Kd.R_reads' HO_188001.out).2.1); rintro e w111 ⟨rfl, hb⟩; refine ⟨_, rfl, ?_⟩; have n0_ := Aside0.mk (Kd.R_below (by (with_reducible repeat (first | apply r1 | apply r2 | apply r3)); exact HO_2.out) hb); have n1_ := Aside0.mk (Kd.R_below (by (with_reducible repeat (first | apply r1 | apply r2 | apply r3)); exact HO_188000.out) hb); have n2_ := Aside0.mk (Kd.R_below (by (with_reducible repeat (first | apply r1 | apply r2 | apply r3)); exact HO_188001.out) hb); have n3_ := Aside0.mk (blk_below (g := gb187) (o := .cells #[.slice Ao8 t181.length co8, .slice Ao10 t184.length co10] 27 (0, 0)) (by (with_reducible repeat (first | refine blk_drewN ?_ _ | refine blk_drew ?_ | refine blk_alloc ?_ _)); exact BK187.out) hb); have n4_ := Aside0.mk (below_step (by repeat (first | (with_reducible first | exact HB.out | apply below_alloc | apply pw_below_drewN | apply below_drew1 | refine below_set ?_ GE187.out) | exact HB.out)) hb); clear HO_2; clear HO_188000; clear HO_188001; clear BK187; clear HB; have HO_2 := n0_; have HO_188000 := n1_; have HO_188001 := n2_; have BK187 := n3_; have HB := n4_; clear n0_ n1_ n2_ n3_ n4_; (try clear hb); (try clear hb2); (try clear hk); (try clear hi); have hcz112_0 : w111.cell? ⟨gb187, 0, none⟩ = some (.slice Ao8 t181.length co8) := (blk_cell BK187.out 0).trans rfl; have hcz112_1 : w111.cell? ⟨gb187, 1, none⟩ = some (.slice Ao10 t184.length co10) := (blk_cell BK187.out 1).trans rfl; have hfz112_0 := blk_frozen BK187.out 0; have hfz112_1 := blk_frozen BK187.out 1) | ((with_reducible refine gate_callee (f := 11) rfl ?_); refine goesL_ (some 78) rfl rfl Try.func11 (by kernel_rfl) rfl #[.agg #[.slice Ao8 t181.length co8, .slice Ao10 t184.length co10], .int .u16 7] rfl (by (try simp only [List.map_toArray, List.map_cons, List.map_nil]); first | done | rfl | (simp only [List.length_drop, List.length_take]; rfl)) ?_; (with_reducible refine (field_Tables_Inv.calls k1 _ _ t181 _ _ t184 7 t203 t204 _ ?side1 ?side2 ?side3 ?side4 A74.out).mono ?_); (case side1 => repeat (first | exact (Kd.R_reads' HO_188000.out).2.2 | (with_reducible refine Kd.C_alloc ?_ _) | (with_reducible refine Kd.C_drewN ?_ _) | (with_reducible refine Kd.C_drew ?_))); (case side2 => exact (Kd.R_reads' HO_188000.out).2.1); (case side3 => repeat (first | exact (Kd.R_reads' HO_188001.out).2.2 | (with_reducible refine Kd.C_alloc ?_ _) | (with_reducible refine Kd.C_drewN ?_ _) | (with_reducible refine Kd.C_drew ?_))); (case side4 => exact (Kd.R_reads' HO_188001.out).2.1); rintro e w113 ⟨rfl, hb⟩; refine ⟨_, rfl, ?_⟩; have n0_ := Aside0.mk (Kd.R_below (by (with_reducible repeat (first | apply r1 | apply r2 | apply r3)); exact HO_2.out) hb); have n1_ := Aside0.mk (Kd.R_below (by (with_reducible repeat (first | apply r1 | apply r2 | apply r3)); exact HO_188000.out) hb); have n2_ := Aside0.mk (Kd.R_below (by (with_reducible repeat (first | apply r1 | apply r2 | apply r3)); exact HO_188001.out) hb); have n3_ := Aside0.mk (blk_below (g := gb187) (o := .cells #[.slice Ao8 t181.length co8, .slice Ao10 t184.length co10] 27 (0, 0)) (by (with_reducible repeat (first | refine blk_drewN ?_ _ | refine blk_drew ?_ | refine blk_alloc ?_ _)); exact BK187.out) hb); have n4_ := Aside0.mk (below_step (by repeat (first | (with_reducible first | exact HB.out | apply below_alloc | apply pw_below_drewN | apply below_drew1 | refine below_set ?_ GE187.out) | exact HB.out)) hb); clear HO_2; clear HO_188000; clear HO_188001; clear BK187; clear HB; have HO_2 := n0_; have HO_188000 := n1_; have HO_188001 := n2_; have BK187 := n3_; have HB := n4_; clear n0_ n1_ n2_ n3_ n4_; (try clear hb); (try clear hb2); (try clear hk); (try clear hi)))
                                have n0_ := Aside0.mk (Kd.R_drew HO_2.out)
                                have n1_ := Aside0.mk (Kd.R_drew HO_188000.out)
                                have n2_ := Aside0.mk (Kd.R_drew HO_188001.out)
                                have n3_ := Aside0.mk (blk_drew BK187.out)
                                have n4_ := Aside0.mk (below_drew1 HB.out)
                                clear HO_2
                                clear HO_188000
                                clear HO_188001
                                clear BK187
                                clear HB
                                have HO_2 := n0_
                                have HO_188000 := n1_
                                have HO_188001 := n2_
                                have BK187 := n3_
                                have HB := n4_
                                clear n0_ n1_ n2_ n3_ n4_
                                refine start_ (n := 53) (S := fun w' => w'.cell? ⟨gb187, 0, none⟩ = some (.slice Ao8 t181.length co8) ∧ w'.cell? ⟨gb187, 1, none⟩ = some (.slice Ao10 t184.length co10)) (ds := []) #[false, false, false, false, false, false, false, false, false, false, false, false, false, false, false, false, false, false, false, false, false, false, false, false, false, false, false, false, false, false, false, false, false, false, false, false, false, false, false, false, false, false, false, false, false, false, false, false, false, false, false, false, false] (by kernel_rfl) rfl rfl ⟨(blk_cell BK187.out 0).trans rfl, (blk_cell BK187.out 1).trans rfl⟩ (fun hHeld => ?_); refine with_tabW blackboardlaw2_FieldKnown.tab17 blackboardlaw2_FieldKnown.bits17 (fun HT_ HW_ => ?_)
                                generalize w113.drew = w114 at HO_2 HO_188000 HO_188001 BK187 HB hHeld ⊢
                                refine pure_ (i := 0) (N := some 81) (v := ?_) (a' := ?_) #[true, false, false, false, false, false, false, false, false, false, false, false, false, false, false, false, false, false, false, false, false, false, false, false, false, false, false, false, false, false, false, false, false, false, false, false, false, false, false, false, false, false, false, false, false, false, false, false, false, false, false, false, false] rfl rfl (any_of HT_.out (by kernel_rfl)) (fun _ _ _ h => h) (Or.inl ⟨by rfl, ?_⟩) ?_ ?_
                                rotate_left; (focus (intro w'; go_simp; with_reducible rfl)); rotate_left; (focus (simp only [Act.put, p1, p2, p3, i64_w, i32_w]; rfl))
                                refine pure_ (i := 1) (N := some 82) (v := ?_) (a' := ?_) #[true, true, false, false, false, false, false, false, false, false, false, false, false, false, false, false, false, false, false, false, false, false, false, false, false, false, false, false, false, false, false, false, false, false, false, false, false, false, false, false, false, false, false, false, false, false, false, false, false, false, false, false, false] rfl rfl (any_of HT_.out (by kernel_rfl)) (fun _ _ _ h => h) (Or.inl ⟨by rfl, ?_⟩) ?_ ?_
                                rotate_left; (focus (intro w'; go_simp; with_reducible rfl)); rotate_left; (focus (simp only [Act.put, p1, p2, p3, i64_w, i32_w]; rfl))
                                refine pure_ (i := 2) (N := some 83) (v := ?_) (a' := ?_) #[true, true, true, false, false, false, false, false, false, false, false, false, false, false, false, false, false, false, false, false, false, false, false, false, false, false, false, false, false, false, false, false, false, false, false, false, false, false, false, false, false, false, false, false, false, false, false, false, false, false, false, false, false] rfl rfl (any_of HT_.out (by kernel_rfl)) (fun _ _ _ h => h) (Or.inl ⟨by rfl, ?_⟩) ?_ ?_
                                rotate_left; (focus (intro w'; go_simp; with_reducible rfl)); rotate_left; (focus (simp only [Act.put, p1, p2, p3, i64_w, i32_w]; rfl))
                                refine pure_ (i := 3) (N := some 84) (v := ?_) (a' := ?_) #[true, true, true, true, false, false, false, false, false, false, false, false, false, false, false, false, false, false, false, false, false, false, false, false, false, false, false, false, false, false, false, false, false, false, false, false, false, false, false, false, false, false, false, false, false, false, false, false, false, false, false, false, false] rfl rfl (any_of HT_.out (by kernel_rfl)) (fun _ _ _ h => h) (Or.inl ⟨by rfl, ?_⟩) ?_ ?_
                                rotate_left; (focus (intro w'; go_simp; with_reducible rfl)); rotate_left; (focus (simp only [Act.put, p1, p2, p3, i64_w, i32_w]; rfl))
                                refine pure_ (i := 4) (N := some 85) (v := ?_) (a' := ?_) #[true, true, true, true, true, false, false, false, false, false, false, false, false, false, false, false, false, false, false, false, false, false, false, false, false, false, false, false, false, false, false, false, false, false, false, false, false, false, false, false, false, false, false, false, false, false, false, false, false, false, false, false, false] rfl rfl (any_of HT_.out (by kernel_rfl)) (fun _ _ _ h => h) (Or.inl ⟨by rfl, ?_⟩) ?_ ?_
                                rotate_left; (focus (intro w'; go_simp; with_reducible rfl)); rotate_left; (focus (simp only [Act.put, p1, p2, p3, i64_w, i32_w]; rfl))
                                refine pure_ (i := 5) (N := some 86) (v := ?_) (a' := ?_) #[true, true, true, true, true, true, false, false, false, false, false, false, false, false, false, false, false, false, false, false, false, false, false, false, false, false, false, false, false, false, false, false, false, false, false, false, false, false, false, false, false, false, false, false, false, false, false, false, false, false, false, false, false] rfl rfl (any_of HT_.out (by kernel_rfl)) (fun _ _ _ h => h) (Or.inl ⟨by rfl, ?_⟩) ?_ ?_
                                rotate_left; (focus (intro w'; go_simp; with_reducible rfl)); rotate_left; (focus (simp only [Act.put, p1, p2, p3, i64_w, i32_w]; rfl))
                                refine pure_ (i := 6) (N := some 87) (v := ?_) (a' := ?_) #[true, true, true, true, true, true, true, false, false, false, false, false, false, false, false, false, false, false, false, false, false, false, false, false, false, false, false, false, false, false, false, false, false, false, false, false, false, false, false, false, false, false, false, false, false, false, false, false, false, false, false, false, false] rfl rfl (any_of HT_.out (by kernel_rfl)) (fun _ _ _ h => h) (Or.inl ⟨by rfl, ?_⟩) ?_ ?_
                                rotate_left; (focus (intro w'; go_simp; with_reducible rfl)); rotate_left; (focus (simp only [Act.put, p1, p2, p3, i64_w, i32_w]; rfl))
                                refine pure_ (i := 7) (N := some 88) (v := ?_) (a' := ?_) #[true, true, true, true, true, true, true, true, false, false, false, false, false, false, false, false, false, false, false, false, false, false, false, false, false, false, false, false, false, false, false, false, false, false, false, false, false, false, false, false, false, false, false, false, false, false, false, false, false, false, false, false, false] rfl rfl (any_of HT_.out (by kernel_rfl)) (fun _ _ _ h => h) (Or.inl ⟨by rfl, ?_⟩) ?_ ?_
                                rotate_left; (focus (intro w'; go_simp; with_reducible rfl)); rotate_left; (focus (simp only [Act.put, p1, p2, p3, i64_w, i32_w]; rfl))
                                refine pure_ (i := 8) (N := some 89) (v := ?_) (a' := ?_) #[true, true, true, true, true, true, true, true, true, false, false, false, false, false, false, false, false, false, false, false, false, false, false, false, false, false, false, false, false, false, false, false, false, false, false, false, false, false, false, false, false, false, false, false, false, false, false, false, false, false, false, false, false] rfl rfl (any_of HT_.out (by kernel_rfl)) (fun _ _ _ h => h) (Or.inl ⟨by rfl, ?_⟩) ?_ ?_
                                rotate_left; (focus (intro w'; go_simp; with_reducible rfl)); rotate_left; (focus (simp only [Act.put, p1, p2, p3, i64_w, i32_w]; rfl))
                                refine pure_ (i := 9) (N := some 90) (v := ?_) (a' := ?_) #[true, true, true, true, true, true, true, true, true, true, false, false, false, false, false, false, false, false, false, false, false, false, false, false, false, false, false, false, false, false, false, false, false, false, false, false, false, false, false, false, false, false, false, false, false, false, false, false, false, false, false, false, false] rfl rfl (any_of HT_.out (by kernel_rfl)) (fun _ _ _ h => h) (Or.inl ⟨by rfl, ?_⟩) ?_ ?_
                                rotate_left; (focus (intro w'; go_simp; with_reducible rfl)); rotate_left; (focus (simp only [Act.put, p1, p2, p3, i64_w, i32_w]; rfl))
                                refine pure_ (i := 10) (N := some 91) (v := ?_) (a' := ?_) #[true, true, true, true, true, true, true, true, true, true, true, false, false, false, false, false, false, false, false, false, false, false, false, false, false, false, false, false, false, false, false, false, false, false, false, false, false, false, false, false, false, false, false, false, false, false, false, false, false, false, false, false, false] rfl rfl (any_of HT_.out (by kernel_rfl)) (fun _ _ _ h => h) (Or.inl ⟨by rfl, ?_⟩) ?_ ?_
                                rotate_left; (focus (intro w'; go_simp; with_reducible rfl)); rotate_left; (focus (simp only [Act.put, p1, p2, p3, i64_w, i32_w]; rfl))
                                refine take_ (i := 11) (N := some 92) (v := ?_) (a' := ?_) #[true, true, true, true, true, true, true, true, true, true, true, true, false, false, false, false, false, false, false, false, false, false, false, false, false, false, false, false, false, false, false, false, false, false, false, false, false, false, false, false, false, false, false, false, false, false, false, false, false, false, false, false, false] rfl rfl (take_ofW HT_.out HW_.out (by kernel_rfl)) (fun _ _ _ h => h) (Or.inl ⟨by rfl, ?_⟩) hHeld ?_ ?_
                                rotate_left
                                · rintro w' ⟨s0, s1⟩
                                  go_simp
                                  with_reducible rfl
                                rotate_left
                                · simp only [Act.put, p1, p2, p3, i64_w, i32_w]
                                  rfl
                                refine one_ (i := 12) (N := some 93) #[true, true, true, true, true, true, true, true, true, true, true, true, true, false, false, false, false, false, false, false, false, false, false, false, false, false, false, false, false, false, false, false, false, false, false, false, false, false, false, false, false, false, false, false, false, false, false, false, false, false, false, false, false] rfl rfl (one_of HT_.out (by kernel_rfl)) (by decide) (fun K hK => ?_)
                                refine goes_ Try.func17 (by kernel_rfl) rfl #[.agg #[.slice Ao8 t181.length co8, .slice Ao10 t184.length co10], .int .u16 0, .int .i64 0] (by rfl) rfl rfl (by (try simp only [List.map_toArray, List.map_cons, List.map_nil]); first | done | rfl | (simp only [List.length_drop, List.length_take]; rfl)) ?_
                                with_reducible refine (field_Tables_Pow.calls k1 _ _ t181 _ _ t184 0 0 t205 _ ?side1 ?side2 ?side3 ?side4 A92.out).mono ?_
                                (case side1 => repeat (first | exact (Kd.R_reads' HO_188000.out).2.2 | (with_reducible refine Kd.C_alloc ?_ _) | (with_reducible refine Kd.C_drewN ?_ _) | (with_reducible refine Kd.C_drew ?_)))
                                (case side2 => exact (Kd.R_reads' HO_188000.out).2.1)
                                (case side3 => repeat (first | exact (Kd.R_reads' HO_188001.out).2.2 | (with_reducible refine Kd.C_alloc ?_ _) | (with_reducible refine Kd.C_drewN ?_ _) | (with_reducible refine Kd.C_drew ?_)))
                                (case side4 => exact (Kd.R_reads' HO_188001.out).2.1)
                                rintro e w115 ⟨rfl, hb⟩
                                refine ⟨_, rfl, ?_⟩
                                have n0_ := Aside0.mk (Kd.R_below (by (with_reducible repeat (first | apply r1 | apply r2 | apply r3)); exact HO_2.out) hb)
                                have n1_ := Aside0.mk (Kd.R_below (by (with_reducible repeat (first | apply r1 | apply r2 | apply r3)); exact HO_188000.out) hb)
                                have n2_ := Aside0.mk (Kd.R_below (by (with_reducible repeat (first | apply r1 | apply r2 | apply r3)); exact HO_188001.out) hb)
                                have n3_ := Aside0.mk (blk_below (g := gb187) (o := .cells #[.slice Ao8 t181.length co8, .slice Ao10 t184.length co10] 27 (0, 0)) (by (with_reducible repeat (first | refine blk_drewN ?_ _ | refine blk_drew ?_ | refine blk_alloc ?_ _)); exact BK187.out) hb)
                                have n4_ := Aside0.mk (below_step (by repeat (first | (with_reducible first | exact HB.out | apply below_alloc | apply pw_below_drewN | apply below_drew1 | refine below_set ?_ GE187.out) | exact HB.out)) hb)
                                clear HO_2
                                clear HO_188000
                                clear HO_188001
                                clear BK187
                                clear HB
                                have HO_2 := n0_
                                have HO_188000 := n1_
                                have HO_188001 := n2_
                                have BK187 := n3_
                                have HB := n4_
                                clear n0_ n1_ n2_ n3_ n4_
                                (try clear hb)
                                (try clear hb2)
                                (try clear hk)
                                (try clear hi)
                                refine hK.out _ _ ⟨(blk_cell BK187.out 0).trans rfl, (blk_cell BK187.out 1).trans rfl⟩ (fun hHeld => ?_)
                                clear hK K
                                refine norm_ (a' := ?_) ?_ ?_
                                rotate_left
                                · show Act.put _ (some 93) _ = _
                                  simp only [Act.put, p1, p2, p3, i64_w, i32_w]
                                  rfl
                                refine pure_ (i := 13) (N := some 94) (v := ?_) (a' := ?_) #[true, true, true, true, true, true, true, true, true, true, true, true, true, true, false, false, false, false, false, false, false, false, false, false, false, false, false, false, false, false, false, false, false, false, false, false, false, false, false, false, false, false, false, false, false, false, false, false, false, false, false, false, false] rfl rfl (any_of HT_.out (by kernel_rfl)) (fun _ _ _ h => h) (Or.inl ⟨by rfl, ?_⟩) ?_ ?_
                                rotate_left; (focus (intro w'; go_simp; with_reducible rfl)); rotate_left; (focus (simp only [Act.put, p1, p2, p3, i64_w, i32_w]; rfl))
                                refine pure_ (i := 14) (N := some 95) (v := ?_) (a' := ?_) #[true, true, true, true, true, true, true, true, true, true, true, true, true, true, true, false, false, false, false, false, false, false, false, false, false, false, false, false, false, false, false, false, false, false, false, false, false, false, false, false, false, false, false, false, false, false, false, false, false, false, false, false, false] rfl rfl (any_of HT_.out (by kernel_rfl)) (fun _ _ _ h => h) (Or.inl ⟨by rfl, ?_⟩) ?_ ?_
                                rotate_left; (focus (intro w'; go_simp; with_reducible rfl)); rotate_left; (focus (simp only [Act.put, p1, p2, p3, i64_w, i32_w]; rfl))
                                refine pure_ (i := 15) (N := some 96) (v := ?_) (a' := ?_) #[true, true, true, true, true, true, true, true, true, true, true, true, true, true, true, true, false, false, false, false, false, false, false, false, false, false, false, false, false, false, false, false, false, false, false, false, false, false, false, false, false, false, false, false, false, false, false, false, false, false, false, false, false] rfl rfl (any_of HT_.out (by kernel_rfl)) (fun _ _ _ h => h) (Or.inl ⟨by rfl, ?_⟩) ?_ ?_
                                rotate_left; (focus (intro w'; go_simp; with_reducible rfl)); rotate_left; (focus (simp only [Act.put, p1, p2, p3, i64_w, i32_w]; rfl))
                                refine take_ (i := 16) (N := some 97) (v := ?_) (a' := ?_) #[true, true, true, true, true, true, true, true, true, true, true, true, true, true, true, true, true, false, false, false, false, false, false, false, false, false, false, false, false, false, false, false, false, false, false, false, false, false, false, false, false, false, false, false, false, false, false, false, false, false, false, false, false] rfl rfl (take_ofW HT_.out HW_.out (by kernel_rfl)) (fun _ _ _ h => h) (Or.inl ⟨by rfl, ?_⟩) hHeld ?_ ?_
                                rotate_left
                                · rintro w' ⟨s0, s1⟩
                                  go_simp
                                  with_reducible rfl
                                rotate_left
                                · simp only [Act.put, p1, p2, p3, i64_w, i32_w]
                                  rfl
                                refine one_ (i := 17) (N := some 98) #[true, true, true, true, true, true, true, true, true, true, true, true, true, true, true, true, true, true, false, false, false, false, false, false, false, false, false, false, false, false, false, false, false, false, false, false, false, false, false, false, false, false, false, false, false, false, false, false, false, false, false, false, false] rfl rfl (one_of HT_.out (by kernel_rfl)) (by decide) (fun K hK => ?_)
                                refine goes_ Try.func17 (by kernel_rfl) rfl #[.agg #[.slice Ao8 t181.length co8, .slice Ao10 t184.length co10], .int .u16 0, .int .i64 5] (by rfl) rfl rfl (by (try simp only [List.map_toArray, List.map_cons, List.map_nil]); first | done | rfl | (simp only [List.length_drop, List.length_take]; rfl)) ?_
                                with_reducible refine (field_Tables_Pow.calls k1 _ _ t181 _ _ t184 0 5 t206 _ ?side1 ?side2 ?side3 ?side4 A94.out).mono ?_
                                (case side1 => repeat (first | exact (Kd.R_reads' HO_188000.out).2.2 | (with_reducible refine Kd.C_alloc ?_ _) | (with_reducible refine Kd.C_drewN ?_ _) | (with_reducible refine Kd.C_drew ?_)))
                                (case side2 => exact (Kd.R_reads' HO_188000.out).2.1)
                                (case side3 => repeat (first | exact (Kd.R_reads' HO_188001.out).2.2 | (with_reducible refine Kd.C_alloc ?_ _) | (with_reducible refine Kd.C_drewN ?_ _) | (with_reducible refine Kd.C_drew ?_)))
                                (case side4 => exact (Kd.R_reads' HO_188001.out).2.1)
                                rintro e w116 ⟨rfl, hb⟩
                                refine ⟨_, rfl, ?_⟩
                                have n0_ := Aside0.mk (Kd.R_below (by (with_reducible repeat (first | apply r1 | apply r2 | apply r3)); exact HO_2.out) hb)
                                have n1_ := Aside0.mk (Kd.R_below (by (with_reducible repeat (first | apply r1 | apply r2 | apply r3)); exact HO_188000.out) hb)
                                have n2_ := Aside0.mk (Kd.R_below (by (with_reducible repeat (first | apply r1 | apply r2 | apply r3)); exact HO_188001.out) hb)
                                have n3_ := Aside0.mk (blk_below (g := gb187) (o := .cells #[.slice Ao8 t181.length co8, .slice Ao10 t184.length co10] 27 (0, 0)) (by (with_reducible repeat (first | refine blk_drewN ?_ _ | refine blk_drew ?_ | refine blk_alloc ?_ _)); exact BK187.out) hb)
                                have n4_ := Aside0.mk (below_step (by repeat (first | (with_reducible first | exact HB.out | apply below_alloc | apply pw_below_drewN | apply below_drew1 | refine below_set ?_ GE187.out) | exact HB.out)) hb)
                                clear HO_2
                                clear HO_188000
                                clear HO_188001
                                clear BK187
                                clear HB
                                have HO_2 := n0_
                                have HO_188000 := n1_
                                have HO_188001 := n2_
                                have BK187 := n3_
                                have HB := n4_
                                clear n0_ n1_ n2_ n3_ n4_
                                (try clear hb)
                                (try clear hb2)
                                (try clear hk)
                                (try clear hi)
                                refine hK.out _ _ ⟨(blk_cell BK187.out 0).trans rfl, (blk_cell BK187.out 1).trans rfl⟩ (fun hHeld => ?_)
                                clear hK K
                                refine norm_ (a' := ?_) ?_ ?_
                                rotate_left
                                · show Act.put _ (some 98) _ = _
                                  simp only [Act.put, p1, p2, p3, i64_w, i32_w]
                                  rfl
                                refine pure_ (i := 18) (N := some 99) (v := ?_) (a' := ?_) #[true, true, true, true, true, true, true, true, true, true, true, true, true, true, true, true, true, true, true, false, false, false, false, false, false, false, false, false, false, false, false, false, false, false, false, false, false, false, false, false, false, false, false, false, false, false, false, false, false, false, false, false, false] rfl rfl (any_of HT_.out (by kernel_rfl)) (fun _ _ _ h => h) (Or.inl ⟨by rfl, ?_⟩) ?_ ?_
                                rotate_left; (focus (intro w'; go_simp; with_reducible rfl)); rotate_left; (focus (simp only [Act.put, p1, p2, p3, i64_w, i32_w]; rfl))
                                refine pure_ (i := 19) (N := some 100) (v := ?_) (a' := ?_) #[true, true, true, true, true, true, true, true, true, true, true, true, true, true, true, true, true, true, true, true, false, false, false, false, false, false, false, false, false, false, false, false, false, false, false, false, false, false, false, false, false, false, false, false, false, false, false, false, false, false, false, false, false] rfl rfl (any_of HT_.out (by kernel_rfl)) (fun _ _ _ h => h) (Or.inl ⟨by rfl, ?_⟩) ?_ ?_
                                rotate_left; (focus (intro w'; go_simp; with_reducible rfl)); rotate_left; (focus (simp only [Act.put, p1, p2, p3, i64_w, i32_w]; rfl))
                                refine pure_ (i := 20) (N := some 101) (v := ?_) (a' := ?_) #[true, true, true, true, true, true, true, true, true, true, true, true, true, true, true, true, true, true, true, true, true, false, false, false, false, false, false, false, false, false, false, false, false, false, false, false, false, false, false, false, false, false, false, false, false, false, false, false, false, false, false, false, false] rfl rfl (any_of HT_.out (by kernel_rfl)) (fun _ _ _ h => h) (Or.inl ⟨by rfl, ?_⟩) ?_ ?_
                                rotate_left; (focus (intro w'; go_simp; with_reducible rfl)); rotate_left; (focus (simp only [Act.put, p1, p2, p3, i64_w, i32_w]; rfl))
                                refine take_ (i := 21) (N := some 102) (v := ?_) (a' := ?_) #[true, true, true, true, true, true, true, true, true, true, true, true, true, true, true, true, true, true, true, true, true, true, false, false, false, false, false, false, false, false, false, false, false, false, false, false, false, false, false, false, false, false, false, false, false, false, false, false, false, false, false, false, false] rfl rfl (take_ofW HT_.out HW_.out (by kernel_rfl)) (fun _ _ _ h => h) (Or.inl ⟨by rfl, ?_⟩) hHeld ?_ ?_
                                rotate_left
                                · rintro w' ⟨s0, s1⟩
                                  go_simp
                                  with_reducible rfl
                                rotate_left
                                · simp only [Act.put, p1, p2, p3, i64_w, i32_w]
                                  rfl
                                refine one_ (i := 22) (N := some 103) #[true, true, true, true, true, true, true, true, true, true, true, true, true, true, true, true, true, true, true, true, true, true, true, false, false, false, false, false, false, false, false, false, false, false, false, false, false, false, false, false, false, false, false, false, false, false, false, false, false, false, false, false, false] rfl rfl (one_of HT_.out (by kernel_rfl)) (by decide) (fun K hK => ?_)
                                refine goes_ Try.func17 (by kernel_rfl) rfl #[.agg #[.slice Ao8 t181.length co8, .slice Ao10 t184.length co10], .int .u16 0, .int .i64 (-5)] (by rfl) rfl rfl (by (try simp only [List.map_toArray, List.map_cons, List.map_nil]); first | done | rfl | (simp only [List.length_drop, List.length_take]; rfl)) ?_
                                with_reducible refine (field_Tables_Pow.calls k1 _ _ t181 _ _ t184 0 (-5) t207 _ ?side1 ?side2 ?side3 ?side4 A96.out).mono ?_
                                (case side1 => repeat (first | exact (Kd.R_reads' HO_188000.out).2.2 | (with_reducible refine Kd.C_alloc ?_ _) | (with_reducible refine Kd.C_drewN ?_ _) | (with_reducible refine Kd.C_drew ?_)))
                                (case side2 => exact (Kd.R_reads' HO_188000.out).2.1)
                                (case side3 => repeat (first | exact (Kd.R_reads' HO_188001.out).2.2 | (with_reducible refine Kd.C_alloc ?_ _) | (with_reducible refine Kd.C_drewN ?_ _) | (with_reducible refine Kd.C_drew ?_)))
                                (case side4 => exact (Kd.R_reads' HO_188001.out).2.1)
                                rintro e w117 ⟨rfl, hb⟩
                                refine ⟨_, rfl, ?_⟩
                                have n0_ := Aside0.mk (Kd.R_below (by (with_reducible repeat (first | apply r1 | apply r2 | apply r3)); exact HO_2.out) hb)
                                have n1_ := Aside0.mk (Kd.R_below (by (with_reducible repeat (first | apply r1 | apply r2 | apply r3)); exact HO_188000.out) hb)
                                have n2_ := Aside0.mk (Kd.R_below (by (with_reducible repeat (first | apply r1 | apply r2 | apply r3)); exact HO_188001.out) hb)
                                have n3_ := Aside0.mk (blk_below (g := gb187) (o := .cells #[.slice Ao8 t181.length co8, .slice Ao10 t184.length co10] 27 (0, 0)) (by (with_reducible repeat (first | refine blk_drewN ?_ _ | refine blk_drew ?_ | refine blk_alloc ?_ _)); exact BK187.out) hb)
                                have n4_ := Aside0.mk (below_step (by repeat (first | (with_reducible first | exact HB.out | apply below_alloc | apply pw_below_drewN | apply below_drew1 | refine below_set ?_ GE187.out) | exact HB.out)) hb)
                                clear HO_2
                                clear HO_188000
                                clear HO_188001
                                clear BK187
                                clear HB
                                have HO_2 := n0_
                                have HO_188000 := n1_
                                have HO_188001 := n2_
                                have BK187 := n3_
                                have HB := n4_
                                clear n0_ n1_ n2_ n3_ n4_
                                (try clear hb)
                                (try clear hb2)
                                (try clear hk)
                                (try clear hi)
                                refine hK.out _ _ ⟨(blk_cell BK187.out 0).trans rfl, (blk_cell BK187.out 1).trans rfl⟩ (fun hHeld => ?_)
                                clear hK K
                                refine norm_ (a' := ?_) ?_ ?_
                                rotate_left
                                · show Act.put _ (some 103) _ = _
                                  simp only [Act.put, p1, p2, p3, i64_w, i32_w]
                                  rfl
                                refine pure_ (i := 23) (N := some 104) (v := ?_) (a' := ?_) #[true, true, true, true, true, true, true, true, true, true, true, true, true, true, true, true, true, true, true, true, true, true, true, true, false, false, false, false, false, false, false, false, false, false, false, false, false, false, false, false, false, false, false, false, false, false, false, false, false, false, false, false, false] rfl rfl (any_of HT_.out (by kernel_rfl)) (fun _ _ _ h => h) (Or.inl ⟨by rfl, ?_⟩) ?_ ?_
                                rotate_left; (focus (intro w'; go_simp; with_reducible rfl)); rotate_left; (focus (simp only [Act.put, p1, p2, p3, i64_w, i32_w]; rfl))
                                refine pure_ (i := 24) (N := some 105) (v := ?_) (a' := ?_) #[true, true, true, true, true, true, true, true, true, true, true, true, true, true, true, true, true, true, true, true, true, true, true, true, true, false, false, false, false, false, false, false, false, false, false, false, false, false, false, false, false, false, false, false, false, false, false, false, false, false, false, false, false] rfl rfl (any_of HT_.out (by kernel_rfl)) (fun _ _ _ h => h) (Or.inl ⟨by rfl, ?_⟩) ?_ ?_
                                rotate_left; (focus (intro w'; go_simp; with_reducible rfl)); rotate_left; (focus (simp only [Act.put, p1, p2, p3, i64_w, i32_w]; rfl))
                                refine pure_ (i := 25) (N := some 106) (v := ?_) (a' := ?_) #[true, true, true, true, true, true, true, true, true, true, true, true, true, true, true, true, true, true, true, true, true, true, true, true, true, true, false, false, false, false, false, false, false, false, false, false, false, false, false, false, false, false, false, false, false, false, false, false, false, false, false, false, false] rfl rfl (any_of HT_.out (by kernel_rfl)) (fun _ _ _ h => h) (Or.inl ⟨by rfl, ?_⟩) ?_ ?_
                                rotate_left; (focus (intro w'; go_simp; with_reducible rfl)); rotate_left; (focus (simp only [Act.put, p1, p2, p3, i64_w, i32_w]; rfl))
                                refine pure_ (i := 28) (N := some 109) (v := ?_) (a' := ?_) #[true, true, true, true, true, true, true, true, true, true, true, true, true, true, true, true, true, true, true, true, true, true, true, true, true, true, false, false, true, false, false, false, false, false, false, false, false, false, false, false, false, false, false, false, false, false, false, false, false, false, false, false, false] rfl rfl (any_of HT_.out (by kernel_rfl)) (fun _ _ _ h => h) (Or.inl ⟨by rfl, ?_⟩) ?_ ?_
                                rotate_left; (focus (intro w'; go_simp; with_reducible rfl)); rotate_left; (focus (simp only [Act.put, p1, p2, p3, i64_w, i32_w]; rfl))
                                refine take_ (i := 26) (N := some 107) (v := ?_) (a' := ?_) #[true, true, true, true, true, true, true, true, true, true, true, true, true, true, true, true, true, true, true, true, true, true, true, true, true, true, true, false, true, false, false, false, false, false, false, false, false, false, false, false, false, false, false, false, false, false, false, false, false, false, false, false, false] rfl rfl (take_ofW HT_.out HW_.out (by kernel_rfl)) (fun _ _ _ h => h) (Or.inl ⟨by rfl, ?_⟩) hHeld ?_ ?_
                                rotate_left
                                · rintro w' ⟨s0, s1⟩
                                  go_simp
                                  with_reducible rfl
                                rotate_left
                                · simp only [Act.put, p1, p2, p3, i64_w, i32_w]
                                  rfl
                                refine one_ (i := 27) (N := some 108) #[true, true, true, true, true, true, true, true, true, true, true, true, true, true, true, true, true, true, true, true, true, true, true, true, true, true, true, true, true, false, false, false, false, false, false, false, false, false, false, false, false, false, false, false, false, false, false, false, false, false, false, false, false] rfl rfl (one_of HT_.out (by kernel_rfl)) (by decide) (fun K hK => ?_)
                                refine goes_ Try.func17 (by kernel_rfl) rfl #[.agg #[.slice Ao8 t181.length co8, .slice Ao10 t184.length co10], .int .u16 7, .int .i64 (-1)] (by rfl) rfl rfl (by (try simp only [List.map_toArray, List.map_cons, List.map_nil]); first | done | rfl | (simp only [List.length_drop, List.length_take]; rfl)) ?_
                                with_reducible refine (field_Tables_Pow.calls k1 _ _ t181 _ _ t184 7 (-1) t208 _ ?side1 ?side2 ?side3 ?side4 A98.out).mono ?_
                                (case side1 => repeat (first | exact (Kd.R_reads' HO_188000.out).2.2 | (with_reducible refine Kd.C_alloc ?_ _) | (with_reducible refine Kd.C_drewN ?_ _) | (with_reducible refine Kd.C_drew ?_)))
                                (case side2 => exact (Kd.R_reads' HO_188000.out).2.1)
                                (case side3 => repeat (first | exact (Kd.R_reads' HO_188001.out).2.2 | (with_reducible refine Kd.C_alloc ?_ _) | (with_reducible refine Kd.C_drewN ?_ _) | (with_reducible refine Kd.C_drew ?_)))
                                (case side4 => exact (Kd.R_reads' HO_188001.out).2.1)
                                rintro e w118 ⟨rfl, hb⟩
                                refine ⟨_, rfl, ?_⟩
                                have n0_ := Aside0.mk (Kd.R_below (by (with_reducible repeat (first | apply r1 | apply r2 | apply r3)); exact HO_2.out) hb)
                                have n1_ := Aside0.mk (Kd.R_below (by (with_reducible repeat (first | apply r1 | apply r2 | apply r3)); exact HO_188000.out) hb)
                                have n2_ := Aside0.mk (Kd.R_below (by (with_reducible repeat (first | apply r1 | apply r2 | apply r3)); exact HO_188001.out) hb)
                                have n3_ := Aside0.mk (blk_below (g := gb187) (o := .cells #[.slice Ao8 t181.length co8, .slice Ao10 t184.length co10] 27 (0, 0)) (by (with_reducible repeat (first | refine blk_drewN ?_ _ | refine blk_drew ?_ | refine blk_alloc ?_ _)); exact BK187.out) hb)
                                have n4_ := Aside0.mk (below_step (by repeat (first | (with_reducible first | exact HB.out | apply below_alloc | apply pw_below_drewN | apply below_drew1 | refine below_set ?_ GE187.out) | exact HB.out)) hb)
                                clear HO_2
                                clear HO_188000
                                clear HO_188001
                                clear BK187
                                clear HB
                                have HO_2 := n0_
                                have HO_188000 := n1_
                                have HO_188001 := n2_
                                have BK187 := n3_
                                have HB := n4_
                                clear n0_ n1_ n2_ n3_ n4_
                                (try clear hb)
                                (try clear hb2)
                                (try clear hk)
                                (try clear hi)
                                refine hK.out _ _ ⟨(blk_cell BK187.out 0).trans rfl, (blk_cell BK187.out 1).trans rfl⟩ (fun hHeld => ?_)
                                clear hK K
                                refine norm_ (a' := ?_) ?_ ?_
                                rotate_left
                                · show Act.put _ (some 108) _ = _
                                  simp only [Act.put, p1, p2, p3, i64_w, i32_w]
                                  rfl
                                refine pure_ (i := 29) (N := some 110) (v := ?_) (a' := ?_) #[true, true, true, true, true, true, true, true, true, true, true, true, true, true, true, true, true, true, true, true, true, true, true, true, true, true, true, true, true, true, false, false, false, false, false, false, false, false, false, false, false, false, false, false, false, false, false, false, false, false, false, false, false] rfl rfl (any_of HT_.out (by kernel_rfl)) (fun _ _ _ h => h) (Or.inl ⟨by rfl, ?_⟩) ?_ ?_
                                rotate_left; (focus (intro w'; go_simp; with_reducible rfl)); rotate_left; (focus (simp only [Act.put, p1, p2, p3, i64_w, i32_w]; rfl))
                                refine pure_ (i := 30) (N := some 111) (v := ?_) (a' := ?_) #[true, true, true, true, true, true, true, true, true, true, true, true, true, true, true, true, true, true, true, true, true, true, true, true, true, true, true, true, true, true, true, false, false, false, false, false, false, false, false, false, false, false, false, false, false, false, false, false, false, false, false, false, false] rfl rfl (any_of HT_.out (by kernel_rfl)) (fun _ _ _ h => h) (Or.inl ⟨by rfl, ?_⟩) ?_ ?_
                                rotate_left; (focus (intro w'; go_simp; with_reducible rfl)); rotate_left; (focus (simp only [Act.put, p1, p2, p3, i64_w, i32_w]; rfl))
                                refine pure_ (i := 31) (N := some 112) (v := ?_) (a' := ?_) #[true, true, true, true, true, true, true, true, true, true, true, true, true, true, true, true, true, true, true, true, true, true, true, true, true, true, true, true, true, true, true, true, false, false, false, false, false, false, false, false, false, false, false, false, false, false, false, false, false, false, false, false, false] rfl rfl (any_of HT_.out (by kernel_rfl)) (fun _ _ _ h => h) (Or.inl ⟨by rfl, ?_⟩) ?_ ?_
                                rotate_left; (focus (intro w'; go_simp; with_reducible rfl)); rotate_left; (focus (simp only [Act.put, p1, p2, p3, i64_w, i32_w]; rfl))
                                refine take_ (i := 32) (N := some 113) (v := ?_) (a' := ?_) #[true, true, true, true, true, true, true, true, true, true, true, true, true, true, true, true, true, true, true, true, true, true, true, true, true, true, true, true, true, true, true, true, true, false, false, false, false, false, false, false, false, false, false, false, false, false, false, false, false, false, false, false, false] rfl rfl (take_ofW HT_.out HW_.out (by kernel_rfl)) (fun _ _ _ h => h) (Or.inl ⟨by rfl, ?_⟩) hHeld ?_ ?_
                                rotate_left
                                · rintro w' ⟨s0, s1⟩
                                  go_simp
                                  with_reducible rfl
                                rotate_left
                                · simp only [Act.put, p1, p2, p3, i64_w, i32_w]
                                  rfl
                                refine one_ (i := 33) (N := some 114) #[true, true, true, true, true, true, true, true, true, true, true, true, true, true, true, true, true, true, true, true, true, true, true, true, true, true, true, true, true, true, true, true, true, true, false, false, false, false, false, false, false, false, false, false, false, false, false, false, false, false, false, false, false] rfl rfl (one_of HT_.out (by kernel_rfl)) (by decide) (fun K hK => ?_)
                                refine goes_ Try.func17 (by kernel_rfl) rfl #[.agg #[.slice Ao8 t181.length co8, .slice Ao10 t184.length co10], .int .u16 7, .int .i64 1023] (by rfl) rfl rfl (by (try simp only [List.map_toArray, List.map_cons, List.map_nil]); first | done | rfl | (simp only [List.length_drop, List.length_take]; rfl)) ?_
                                with_reducible refine (field_Tables_Pow.calls k1 _ _ t181 _ _ t184 7 1023 t209 _ ?side1 ?side2 ?side3 ?side4 A100.out).mono ?_
                                (case side1 => repeat (first | exact (Kd.R_reads' HO_188000.out).2.2 | (with_reducible refine Kd.C_alloc ?_ _) | (with_reducible refine Kd.C_drewN ?_ _) | (with_reducible refine Kd.C_drew ?_)))
                                (case side2 => exact (Kd.R_reads' HO_188000.out).2.1)
                                (case side3 => repeat (first | exact (Kd.R_reads' HO_188001.out).2.2 | (with_reducible refine Kd.C_alloc ?_ _) | (with_reducible refine Kd.C_drewN ?_ _) | (with_reducible refine Kd.C_drew ?_)))
                                (case side4 => exact (Kd.R_reads' HO_188001.out).2.1)
                                rintro e w119 ⟨rfl, hb⟩
                                refine ⟨_, rfl, ?_⟩
                                have n0_ := Aside0.mk (Kd.R_below (by (with_reducible repeat (first | apply r1 | apply r2 | apply r3)); exact HO_2.out) hb)
                                have n1_ := Aside0.mk (Kd.R_below (by (with_reducible repeat (first | apply r1 | apply r2 | apply r3)); exact HO_188000.out) hb)
                                have n2_ := Aside0.mk (Kd.R_below (by (with_reducible repeat (first | apply r1 | apply r2 | apply r3)); exact HO_188001.out) hb)
                                have n3_ := Aside0.mk (blk_below (g := gb187) (o := .cells #[.slice Ao8 t181.length co8, .slice Ao10 t184.length co10] 27 (0, 0)) (by (with_reducible repeat (first | refine blk_drewN ?_ _ | refine blk_drew ?_ | refine blk_alloc ?_ _)); exact BK187.out) hb)
                                have n4_ := Aside0.mk (below_step (by repeat (first | (with_reducible first | exact HB.out | apply below_alloc | apply pw_below_drewN | apply below_drew1 | refine below_set ?_ GE187.out) | exact HB.out)) hb)
                                clear HO_2
                                clear HO_188000
                                clear HO_188001
                                clear BK187
                                clear HB
                                have HO_2 := n0_
                                have HO_188000 := n1_
                                have HO_188001 := n2_
                                have BK187 := n3_
                                have HB := n4_
                                clear n0_ n1_ n2_ n3_ n4_
                                (try clear hb)
                                (try clear hb2)
                                (try clear hk)
                                (try clear hi)
                                refine hK.out _ _ ⟨(blk_cell BK187.out 0).trans rfl, (blk_cell BK187.out 1).trans rfl⟩ (fun hHeld => ?_)
                                clear hK K
                                refine norm_ (a' := ?_) ?_ ?_
                                rotate_left
                                · show Act.put _ (some 114) _ = _
                                  simp only [Act.put, p1, p2, p3, i64_w, i32_w]
                                  rfl
                                refine pure_ (i := 34) (N := some 115) (v := ?_) (a' := ?_) #[true, true, true, true, true, true, true, true, true, true, true, true, true, true, true, true, true, true, true, true, true, true, true, true, true, true, true, true, true, true, true, true, true, true, true, false, false, false, false, false, false, false, false, false, false, false, false, false, false, false, false, false, false] rfl rfl (any_of HT_.out (by kernel_rfl)) (fun _ _ _ h => h) (Or.inl ⟨by rfl, ?_⟩) ?_ ?_
                                rotate_left; (focus (intro w'; go_simp; with_reducible rfl)); rotate_left; (focus (simp only [Act.put, p1, p2, p3, i64_w, i32_w]; rfl))
                                refine pure_ (i := 35) (N := some 116) (v := ?_) (a' := ?_) #[true, true, true, true, true, true, true, true, true, true, true, true, true, true, true, true, true, true, true, true, true, true, true, true, true, true, true, true, true, true, true, true, true, true, true, true, false, false, false, false, false, false, false, false, false, false, false, false, false, false, false, false, false] rfl rfl (any_of HT_.out (by kernel_rfl)) (fun _ _ _ h => h) (Or.inl ⟨by rfl, ?_⟩) ?_ ?_
                                rotate_left; (focus (intro w'; go_simp; with_reducible rfl)); rotate_left; (focus (simp only [Act.put, p1, p2, p3, i64_w, i32_w]; rfl))
                                refine pure_ (i := 36) (N := some 117) (v := ?_) (a' := ?_) #[true, true, true, true, true, true, true, true, true, true, true, true, true, true, true, true, true, true, true, true, true, true, true, true, true, true, true, true, true, true, true, true, true, true, true, true, true, false, false, false, false, false, false, false, false, false, false, false, false, false, false, false, false] rfl rfl (any_of HT_.out (by kernel_rfl)) (fun _ _ _ h => h) (Or.inl ⟨by rfl, ?_⟩) ?_ ?_
                                rotate_left; (focus (intro w'; go_simp; with_reducible rfl)); rotate_left; (focus (simp only [Act.put, p1, p2, p3, i64_w, i32_w]; rfl))
                                refine take_ (i := 37) (N := some 118) (v := ?_) (a' := ?_) #[true, true, true, true, true, true, true, true, true, true, true, true, true, true, true, true, true, true, true, true, true, true, true, true, true, true, true, true, true, true, true, true, true, true, true, true, true, true, false, false, false, false, false, false, false, false, false, false, false, false, false, false, false] rfl rfl (take_ofW HT_.out HW_.out (by kernel_rfl)) (fun _ _ _ h => h) (Or.inl ⟨by rfl, ?_⟩) hHeld ?_ ?_
                                rotate_left
                                · rintro w' ⟨s0, s1⟩
                                  go_simp
                                  with_reducible rfl
                                rotate_left
                                · simp only [Act.put, p1, p2, p3, i64_w, i32_w]
                                  rfl
                                refine one_ (i := 38) (N := some 119) #[true, true, true, true, true, true, true, true, true, true, true, true, true, true, true, true, true, true, true, true, true, true, true, true, true, true, true, true, true, true, true, true, true, true, true, true, true, true, true, false, false, false, false, false, false, false, false, false, false, false, false, false, false] rfl rfl (one_of HT_.out (by kernel_rfl)) (by decide) (fun K hK => ?_)
                                refine goes_ Try.func12 (by kernel_rfl) rfl #[.agg #[.slice Ao8 t181.length co8, .slice Ao10 t184.length co10], .int .u16 1025, .int .u16 5] (by rfl) rfl rfl (by (try simp only [List.map_toArray, List.map_cons, List.map_nil]); first | done | rfl | (simp only [List.length_drop, List.length_take]; rfl)) ?_
                                with_reducible refine (field_Tables_Mul.calls k1 _ _ t181 _ _ t184 1025 5 t210 _ ?side1 ?side2 ?side3 ?side4 A102.out).mono ?_
                                (case side1 => repeat (first | exact (Kd.R_reads' HO_188000.out).2.2 | (with_reducible refine Kd.C_alloc ?_ _) | (with_reducible refine Kd.C_drewN ?_ _) | (with_reducible refine Kd.C_drew ?_)))
                                (case side2 => exact (Kd.R_reads' HO_188000.out).2.1)
                                (case side3 => repeat (first | exact (Kd.R_reads' HO_188001.out).2.2 | (with_reducible refine Kd.C_alloc ?_ _) | (with_reducible refine Kd.C_drewN ?_ _) | (with_reducible refine Kd.C_drew ?_)))
                                (case side4 => exact (Kd.R_reads' HO_188001.out).2.1)
                                rintro e w120 ⟨rfl, hb⟩
                                refine ⟨_, rfl, ?_⟩
                                have n0_ := Aside0.mk (Kd.R_below (by (with_reducible repeat (first | apply r1 | apply r2 | apply r3)); exact HO_2.out) hb)
                                have n1_ := Aside0.mk (Kd.R_below (by (with_reducible repeat (first | apply r1 | apply r2 | apply r3)); exact HO_188000.out) hb)
                                have n2_ := Aside0.mk (Kd.R_below (by (with_reducible repeat (first | apply r1 | apply r2 | apply r3)); exact HO_188001.out) hb)
                                have n3_ := Aside0.mk (blk_below (g := gb187) (o := .cells #[.slice Ao8 t181.length co8, .slice Ao10 t184.length co10] 27 (0, 0)) (by (with_reducible repeat (first | refine blk_drewN ?_ _ | refine blk_drew ?_ | refine blk_alloc ?_ _)); exact BK187.out) hb)
                                have n4_ := Aside0.mk (below_step (by repeat (first | (with_reducible first | exact HB.out | apply below_alloc | apply pw_below_drewN | apply below_drew1 | refine below_set ?_ GE187.out) | exact HB.out)) hb)
                                clear HO_2
                                clear HO_188000
                                clear HO_188001
                                clear BK187
                                clear HB
                                have HO_2 := n0_
                                have HO_188000 := n1_
                                have HO_188001 := n2_
                                have BK187 := n3_
                                have HB := n4_
                                clear n0_ n1_ n2_ n3_ n4_
                                (try clear hb)
                                (try clear hb2)
                                (try clear hk)
                                (try clear hi)
                                refine hK.out _ _ ⟨(blk_cell BK187.out 0).trans rfl, (blk_cell BK187.out 1).trans rfl⟩ (fun hHeld => ?_)
                                clear hK K
                                refine norm_ (a' := ?_) ?_ ?_
                                rotate_left
                                · show Act.put _ (some 119) _ = _
                                  simp only [Act.put, p1, p2, p3, i64_w, i32_w]
                                  rfl
                                refine pure_ (i := 39) (N := some 120) (v := ?_) (a' := ?_) #[true, true, true, true, true, true, true, true, true, true, true, true, true, true, true, true, true, true, true, true, true, true, true, true, true, true, true, true, true, true, true, true, true, true, true, true, true, true, true, true, false, false, false, false, false, false, false, false, false, false, false, false, false] rfl rfl (any_of HT_.out (by kernel_rfl)) (fun _ _ _ h => h) (Or.inl ⟨by rfl, ?_⟩) ?_ ?_
                                rotate_left; (focus (intro w'; go_simp; with_reducible rfl)); rotate_left; (focus (simp only [Act.put, p1, p2, p3, i64_w, i32_w]; rfl))
                                refine pure_ (i := 40) (N := some 121) (v := ?_) (a' := ?_) #[true, true, true, true, true, true, true, true, true, true, true, true, true, true, true, true, true, true, true, true, true, true, true, true, true, true, true, true, true, true, true, true, true, true, true, true, true, true, true, true, true, false, false, false, false, false, false, false, false, false, false, false, false] rfl rfl (any_of HT_.out (by kernel_rfl)) (fun _ _ _ h => h) (Or.inl ⟨by rfl, ?_⟩) ?_ ?_
                                rotate_left; (focus (intro w'; go_simp; with_reducible rfl)); rotate_left; (focus (simp only [Act.put, p1, p2, p3, i64_w, i32_w]; rfl))
                                refine pure_ (i := 41) (N := some 122) (v := ?_) (a' := ?_) #[true, true, true, true, true, true, true, true, true, true, true, true, true, true, true, true, true, true, true, true, true, true, true, true, true, true, true, true, true, true, true, true, true, true, true, true, true, true, true, true, true, true, false, false, false, false, false, false, false, false, false, false, false] rfl rfl (any_of HT_.out (by kernel_rfl)) (fun _ _ _ h => h) (Or.inl ⟨by rfl, ?_⟩) ?_ ?_
                                rotate_left; (focus (intro w'; go_simp; with_reducible rfl)); rotate_left; (focus (simp only [Act.put, p1, p2, p3, i64_w, i32_w]; rfl))
                                refine one_ (i := 42) (N := some 123) #[true, true, true, true, true, true, true, true, true, true, true, true, true, true, true, true, true, true, true, true, true, true, true, true, true, true, true, true, true, true, true, true, true, true, true, true, true, true, true, true, true, true, true, false, false, false, false, false, false, false, false, false, false] rfl rfl (one_of HT_.out (by kernel_rfl)) (by decide) (fun K hK => ?_)
                                refine goes_ Try.func13 (by kernel_rfl) rfl #[.int .u16 1023, .int .u16 1024] (by rfl) rfl rfl (by (try simp only [List.map_toArray, List.map_cons, List.map_nil]); first | done | rfl | (simp only [List.length_drop, List.length_take]; rfl)) ?_
                                with_reducible refine (field_Add.calls 1023 1024 t211 _ A104.out).mono ?_
                                rintro e w' ⟨rfl, ⟨nd, rfl⟩⟩
                                refine ⟨_, rfl, ?_⟩
                                refine hK.out _ _ ⟨(blk_cell BK187.out 0).trans rfl, (blk_cell BK187.out 1).trans rfl⟩ (fun hHeld => ?_)
                                clear hK K
                                refine norm_ (a' := ?_) ?_ ?_
                                rotate_left
                                · show Act.put _ (some 123) _ = _
                                  simp only [Act.put, p1, p2, p3, i64_w, i32_w]
                                  rfl
                                refine pure_ (i := 43) (N := some 124) (v := ?_) (a' := ?_) #[true, true, true, true, true, true, true, true, true, true, true, true, true, true, true, true, true, true, true, true, true, true, true, true, true, true, true, true, true, true, true, true, true, true, true, true, true, true, true, true, true, true, true, true, false, false, false, false, false, false, false, false, false] rfl rfl (any_of HT_.out (by kernel_rfl)) (fun _ _ _ h => h) (Or.inl ⟨by rfl, ?_⟩) ?_ ?_
                                rotate_left; (focus (intro w'; go_simp; with_reducible rfl)); rotate_left; (focus (simp only [Act.put, p1, p2, p3, i64_w, i32_w]; rfl))
                                refine pure_ (i := 44) (N := some 125) (v := ?_) (a' := ?_) #[true, true, true, true, true, true, true, true, true, true, true, true, true, true, true, true, true, true, true, true, true, true, true, true, true, true, true, true, true, true, true, true, true, true, true, true, true, true, true, true, true, true, true, true, true, false, false, false, false, false, false, false, false] rfl rfl (any_of HT_.out (by kernel_rfl)) (fun _ _ _ h => h) (Or.inl ⟨by rfl, ?_⟩) ?_ ?_
                                rotate_left; (focus (intro w'; go_simp; with_reducible rfl)); rotate_left; (focus (simp only [Act.put, p1, p2, p3, i64_w, i32_w]; rfl))
                                refine pure_ (i := 45) (N := some 126) (v := ?_) (a' := ?_) #[true, true, true, true, true, true, true, true, true, true, true, true, true, true, true, true, true, true, true, true, true, true, true, true, true, true, true, true, true, true, true, true, true, true, true, true, true, true, true, true, true, true, true, true, true, true, false, false, false, false, false, false, false] rfl rfl (any_of HT_.out (by kernel_rfl)) (fun _ _ _ h => h) (Or.inl ⟨by rfl, ?_⟩) ?_ ?_
                                rotate_left; (focus (intro w'; go_simp; with_reducible rfl)); rotate_left; (focus (simp only [Act.put, p1, p2, p3, i64_w, i32_w]; rfl))
                                refine take_ (i := 46) (N := some 127) (v := ?_) (a' := ?_) #[true, true, true, true, true, true, true, true, true, true, true, true, true, true, true, true, true, true, true, true, true, true, true, true, true, true, true, true, true, true, true, true, true, true, true, true, true, true, true, true, true, true, true, true, true, true, true, false, false, false, false, false, false] rfl rfl (take_ofW HT_.out HW_.out (by kernel_rfl)) (fun _ _ _ h => h) (Or.inl ⟨by rfl, ?_⟩) hHeld ?_ ?_
                                rotate_left
                                · rintro w' ⟨s0, s1⟩
                                  go_simp
                                  with_reducible rfl
                                rotate_left
                                · simp only [Act.put, p1, p2, p3, i64_w, i32_w]
                                  rfl
                                refine take_ (i := 48) (N := some 129) (v := ?_) (a' := ?_) #[true, true, true, true, true, true, true, true, true, true, true, true, true, true, true, true, true, true, true, true, true, true, true, true, true, true, true, true, true, true, true, true, true, true, true, true, true, true, true, true, true, true, true, true, true, true, true, false, true, false, false, false, false] rfl rfl (take_ofW HT_.out HW_.out (by kernel_rfl)) (fun _ _ _ h => h) (Or.inl ⟨by rfl, ?_⟩) hHeld ?_ ?_
                                rotate_left
                                · rintro w' ⟨s0, s1⟩
                                  go_simp
                                  with_reducible rfl
                                rotate_left
                                · simp only [Act.put, p1, p2, p3, i64_w, i32_w]
                                  rfl
                                refine one_ (i := 47) (N := some 128) #[true, true, true, true, true, true, true, true, true, true, true, true, true, true, true, true, true, true, true, true, true, true, true, true, true, true, true, true, true, true, true, true, true, true, true, true, true, true, true, true, true, true, true, true, true, true, true, true, true, false, false, false, false] rfl rfl (one_of HT_.out (by kernel_rfl)) (by decide) (fun K hK => ?_)
                                refine goes_ Try.func12 (by kernel_rfl) rfl #[.agg #[.slice Ao8 t181.length co8, .slice Ao10 t184.length co10], .int .u16 512, .int .u16 512] (by rfl) rfl rfl (by (try simp only [List.map_toArray, List.map_cons, List.map_nil]); first | done | rfl | (simp only [List.length_drop, List.length_take]; rfl)) ?_
                                with_reducible refine (field_Tables_Mul.calls k1 _ _ t181 _ _ t184 512 512 t212 _ ?side1 ?side2 ?side3 ?side4 A106.out).mono ?_
                                (case side1 => repeat (first | exact (Kd.R_reads' HO_188000.out).2.2 | (with_reducible refine Kd.C_alloc ?_ _) | (with_reducible refine Kd.C_drewN ?_ _) | (with_reducible refine Kd.C_drew ?_)))
                                (case side2 => exact (Kd.R_reads' HO_188000.out).2.1)
                                (case side3 => repeat (first | exact (Kd.R_reads' HO_188001.out).2.2 | (with_reducible refine Kd.C_alloc ?_ _) | (with_reducible refine Kd.C_drewN ?_ _) | (with_reducible refine Kd.C_drew ?_)))
                                (case side4 => exact (Kd.R_reads' HO_188001.out).2.1)
                                rintro e w121 ⟨rfl, hb⟩
                                refine ⟨_, rfl, ?_⟩
                                have n0_ := Aside0.mk (Kd.R_below (by (with_reducible repeat (first | apply r1 | apply r2 | apply r3)); exact HO_2.out) hb)
                                have n1_ := Aside0.mk (Kd.R_below (by (with_reducible repeat (first | apply r1 | apply r2 | apply r3)); exact HO_188000.out) hb)
                                have n2_ := Aside0.mk (Kd.R_below (by (with_reducible repeat (first | apply r1 | apply r2 | apply r3)); exact HO_188001.out) hb)
                                have n3_ := Aside0.mk (blk_below (g := gb187) (o := .cells #[.slice Ao8 t181.length co8, .slice Ao10 t184.length co10] 27 (0, 0)) (by (with_reducible repeat (first | refine blk_drewN ?_ _ | refine blk_drew ?_ | refine blk_alloc ?_ _)); exact BK187.out) hb)
                                have n4_ := Aside0.mk (below_step (by repeat (first | (with_reducible first | exact HB.out | apply below_alloc | apply pw_below_drewN | apply below_drew1 | refine below_set ?_ GE187.out) | exact HB.out)) hb)
                                clear HO_2
                                clear HO_188000
                                clear HO_188001
                                clear BK187
                                clear HB
                                have HO_2 := n0_
                                have HO_188000 := n1_
                                have HO_188001 := n2_
                                have BK187 := n3_
                                have HB := n4_
                                clear n0_ n1_ n2_ n3_ n4_
                                (try clear hb)
                                (try clear hb2)
                                (try clear hk)
                                (try clear hi)
                                refine hK.out _ _ ⟨(blk_cell BK187.out 0).trans rfl, (blk_cell BK187.out 1).trans rfl⟩ (fun hHeld => ?_)
                                clear hK K
                                refine norm_ (a' := ?_) ?_ ?_
                                rotate_left
                                · show Act.put _ (some 128) _ = _
                                  simp only [Act.put, p1, p2, p3, i64_w, i32_w]
                                  rfl
                                refine one_ (i := 49) (N := some 130) #[true, true, true, true, true, true, true, true, true, true, true, true, true, true, true, true, true, true, true, true, true, true, true, true, true, true, true, true, true, true, true, true, true, true, true, true, true, true, true, true, true, true, true, true, true, true, true, true, true, true, false, false, false] rfl rfl (one_of HT_.out (by kernel_rfl)) (by decide) (fun K hK => ?_)
                                refine goes_ Try.func16 (by kernel_rfl) rfl #[.agg #[.slice Ao8 t181.length co8, .slice Ao10 t184.length co10], .int .i64 18] (by rfl) rfl rfl (by (try simp only [List.map_toArray, List.map_cons, List.map_nil]); first | done | rfl | (simp only [List.length_drop, List.length_take]; rfl)) ?_
                                with_reducible refine (field_Tables_Exp.calls k1 _ _ t181 _ _ t184 18 t213 _ ?side1 ?side2 ?side3 ?side4 A107.out).mono ?_
                                (case side1 => repeat (first | exact (Kd.R_reads' HO_188000.out).2.2 | (with_reducible refine Kd.C_alloc ?_ _) | (with_reducible refine Kd.C_drewN ?_ _) | (with_reducible refine Kd.C_drew ?_)))
                                (case side2 => exact (Kd.R_reads' HO_188000.out).2.1)
                                (case side3 => repeat (first | exact (Kd.R_reads' HO_188001.out).2.2 | (with_reducible refine Kd.C_alloc ?_ _) | (with_reducible refine Kd.C_drewN ?_ _) | (with_reducible refine Kd.C_drew ?_)))
                                (case side4 => exact (Kd.R_reads' HO_188001.out).2.1)
                                rintro e w122 ⟨rfl, hb⟩
                                refine ⟨_, rfl, ?_⟩
                                have n0_ := Aside0.mk (Kd.R_below (by (with_reducible repeat (first | apply r1 | apply r2 | apply r3)); exact HO_2.out) hb)
                                have n1_ := Aside0.mk (Kd.R_below (by (with_reducible repeat (first | apply r1 | apply r2 | apply r3)); exact HO_188000.out) hb)
                                have n2_ := Aside0.mk (Kd.R_below (by (with_reducible repeat (first | apply r1 | apply r2 | apply r3)); exact HO_188001.out) hb)
                                have n3_ := Aside0.mk (blk_below (g := gb187) (o := .cells #[.slice Ao8 t181.length co8, .slice Ao10 t184.length co10] 27 (0, 0)) (by (with_reducible repeat (first | refine blk_drewN ?_ _ | refine blk_drew ?_ | refine blk_alloc ?_ _)); exact BK187.out) hb)
                                have n4_ := Aside0.mk (below_step (by repeat (first | (with_reducible first | exact HB.out | apply below_alloc | apply pw_below_drewN | apply below_drew1 | refine below_set ?_ GE187.out) | exact HB.out)) hb)
                                clear HO_2
                                clear HO_188000
                                clear HO_188001
                                clear BK187
                                clear HB
                                have HO_2 := n0_
                                have HO_188000 := n1_
                                have HO_188001 := n2_
                                have BK187 := n3_
                                have HB := n4_
                                clear n0_ n1_ n2_ n3_ n4_
                                (try clear hb)
                                (try clear hb2)
                                (try clear hk)
                                (try clear hi)
                                refine hK.out _ _ ⟨(blk_cell BK187.out 0).trans rfl, (blk_cell BK187.out 1).trans rfl⟩ (fun hHeld => ?_)
                                clear hK K
                                refine norm_ (a' := ?_) ?_ ?_
                                rotate_left
                                · show Act.put _ (some 130) _ = _
                                  simp only [Act.put, p1, p2, p3, i64_w, i32_w]
                                  rfl
                                refine pure_ (i := 50) (N := some 131) (v := ?_) (a' := ?_) #[true, true, true, true, true, true, true, true, true, true, true, true, true, true, true, true, true, true, true, true, true, true, true, true, true, true, true, true, true, true, true, true, true, true, true, true, true, true, true, true, true, true, true, true, true, true, true, true, true, true, true, false, false] rfl rfl (any_of HT_.out (by kernel_rfl)) (fun _ _ _ h => h) (Or.inl ⟨by rfl, ?_⟩) ?_ ?_
                                rotate_left; (focus (intro w'; go_simp; with_reducible rfl)); rotate_left; (focus (simp only [Act.put, p1, p2, p3, i64_w, i32_w]; rfl))
                                refine pure_ (i := 51) (N := some 132) (v := ?_) (a' := ?_) #[true, true, true, true, true, true, true, true, true, true, true, true, true, true, true, true, true, true, true, true, true, true, true, true, true, true, true, true, true, true, true, true, true, true, true, true, true, true, true, true, true, true, true, true, true, true, true, true, true, true, true, true, false] rfl rfl (any_of HT_.out (by kernel_rfl)) (fun _ _ _ h => h) (Or.inl ⟨by rfl, ?_⟩) ?_ ?_
                                rotate_left; (focus (intro w'; go_simp; with_reducible rfl)); rotate_left; (focus (simp only [Act.put, p1, p2, p3, i64_w, i32_w]; rfl))
                                refine pure_ (i := 52) (N := some 0) (v := ?_) (a' := ?_) #[true, true, true, true, true, true, true, true, true, true, true, true, true, true, true, true, true, true, true, true, true, true, true, true, true, true, true, true, true, true, true, true, true, true, true, true, true, true, true, true, true, true, true, true, true, true, true, true, true, true, true, true, true] rfl rfl (any_of HT_.out (by kernel_rfl)) (fun _ _ _ h => h) (Or.inl ⟨by rfl, ?_⟩) ?_ ?_
                                rotate_left; (focus (intro w'; go_simp; with_reducible rfl)); rotate_left; (focus (simp only [Act.put, p1, p2, p3, i64_w, i32_w]; rfl))
                                refine done_ (done_of HT_.out (by kernel_rfl)) ?_
                                try go_wp2
                                go_ret
                                exact ⟨by first | rfl | (simp [errW_none, errW_some] <;> rfl) | (simp [*, errW_none, errW_some] <;> rfl), by repeat (first | (with_reducible first | exact HB.out | apply below_alloc | apply pw_below_drewN | apply below_drew1 | refine below_set ?_ GE187.out) | exact HB.out)⟩
                              · rw [if_neg c105] at H
                                have c105b0 : (t211 == 1023) = false := beq_eq_false_iff_ne.mpr c105
                                have c105b1 : (t211 != 1023) = true := bne_iff_ne.mpr c105
                                obtain rfl := Option.some.inj H
                                exact absurd HRT_.out (by simp)
                            · rw [if_neg c103] at H
                              have c103b0 : (t210 == 5) = false := beq_eq_false_iff_ne.mpr c103
                              have c103b1 : (t210 != 5) = true := bne_iff_ne.mpr c103
                              obtain rfl := Option.some.inj H
                              exact absurd HRT_.out (by simp)
                          · rw [if_neg c101] at H
                            have c101b0 : (t209 == 1) = false := beq_eq_false_iff_ne.mpr c101
                            have c101b1 : (t209 != 1) = true := bne_iff_ne.mpr c101
                            obtain rfl := Option.some.inj H
                            exact absurd HRT_.out (by simp)
                        · rw [if_neg c99] at H
                          have c99b0 : (t208 == t203) = false := beq_eq_false_iff_ne.mpr c99
                          have c99b1 : (t208 != t203) = true := bne_iff_ne.mpr c99
                          obtain rfl := Option.some.inj H
                          exact absurd HRT_.out (by simp)
                      · rw [if_neg c97] at H
                        have c97b0 : (t207 == 0) = false := beq_eq_false_iff_ne.mpr c97
                        have c97b1 : (t207 != 0) = true := bne_iff_ne.mpr c97
                        obtain rfl := Option.some.inj H
                        exact absurd HRT_.out (by simp)
                    · rw [if_neg c95] at H
                      have c95b0 : (t206 == 0) = false := beq_eq_false_iff_ne.mpr c95
                      have c95b1 : (t206 != 0) = true := bne_iff_ne.mpr c95
                      obtain rfl := Option.some.inj H
                      exact absurd HRT_.out (by simp)
                  · rw [if_neg c93] at H
                    have c93b0 : (t205 == 1) = false := beq_eq_false_iff_ne.mpr c93
                    have c93b1 : (t205 != 1) = true := bne_iff_ne.mpr c93
                    obtain rfl := Option.some.inj H
                    exact absurd HRT_.out (by simp)
            · rw [if_neg c75] at H
              have c75b0 : (x3_1 == 1) = false := beq_eq_false_iff_ne.mpr c75
              have c75b1 : (x3_1 != 1) = true := bne_iff_ne.mpr c75
              obtain rfl := Option.some.inj H
              exact absurd HRT_.out (by simp)
    · rw [if_neg c4] at H
      exact absurd H (by simp)
  · replace c2 := Bool.eq_false_iff.mpr c2
    subst c2
    have H1 : (some false) = some r := by rw [if_neg (show ¬ (false = true) by decide)] at H; exact H
    clear H
    have H := H1
    clear H1
    obtain rfl := Option.some.inj H
    exact absurd HRT_.out (by simp)
/-- THE ONE PURE STATEMENT of blackboardlaw2_FieldKnown: yours. -/
def blackboardlaw2_FieldKnown.Pure : Prop := ∃ k, blackboardlaw2_FieldKnown.f k  = some true
theorem blackboardlaw2_FieldKnown.walk (P : blackboardlaw2_FieldKnown.Pure)  (w : World)  :
    Calls Try.prog 6 #[] w fun e w' => e = .returned (.bool true) ∧ Below w.heap.size w w' := by
  obtain ⟨k, h⟩ := P  
  refine (blackboardlaw2_FieldKnown.calls k  true w h).mono ?_
  rintro e w' ⟨rfl, hd⟩
  exact ⟨rfl, hd⟩

end Go.Proofs.Yteoiedjnlljbmaa.K
