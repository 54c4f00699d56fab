/- Printed for this seat by a program of this session (over the kit's print), with contracts of its own laid in. -/
import Derived.Test.YtobdkncdjofihaaMx0
import Derived.Test.YtobdkncdjofihaaMx1
namespace Go.Proofs.Ytobdkncdjofihaa.M
open Go.RowKit Go.Proofs.YtobdkncdjofihaaW.PrintWords Go.Proofs.YtobdkncdjofihaaW.PrintLast Go.Proofs.YtobdkncdjofihaaW.PrintMore
attribute [local go_sem] max2_int min2_int max_two min_two max_three min_three max_four min_four   -- for this text's walks alone
set_option linter.unusedVariables false
set_option linter.unusedSimpArgs false

/-! ### front_Front_Next: function 11 -/
def front_Front_Next.f (s0_0 : Int) (s0_1 : Int) (s0_2 : Int) (s0_3 : Int) (s0_4 : Int) (s0_5 : Int) : Option (Int × Int × Bool × Int × Int × Int × Int × Int × Int) := if s0_4 = (-1) then (some (0, 0, false, s0_0, s0_1, s0_2, s0_3, s0_4, s0_5)) else (some (s0_4, s0_5, true, s0_0, s0_1, s0_2, s0_3, s0_4, s0_5))
set_option maxHeartbeats 8000000 in
set_option maxRecDepth 100000 in
theorem front_Front_Next.calls (g : Nat) (s0_0 : Int) (s0_1 : Int) (s0_2 : Int) (s0_3 : Int) (s0_4 : Int) (s0_5 : Int) (r1 : Int) (r2 : Int) (r3 : Bool) (r4 : Int) (r5 : Int) (r6 : Int) (r7 : Int) (r8 : Int) (r9 : Int) (w0 w : World) (hI : IsS40 w0 w g s0_0 s0_1 s0_2 s0_3 s0_4 s0_5) (hB : Below w0.heap.size w0 w) (h : front_Front_Next.f s0_0 s0_1 s0_2 s0_3 s0_4 s0_5 = some (r1, r2, r3, r4, r5, r6, r7, r8, r9)) :
    Calls Try.prog 11 #[.pointer (some ⟨g, 0, none⟩)] w fun e w' => e = .returned (.tuple #[.int .i64 r1, .int .i64 r2, .bool r3]) ∧ IsS40 w0 w' g r4 r5 r6 r7 r8 r9 ∧ Below w0.heap.size w0 w' ∧ KeepBut w w' g none := by
  have HI0 := Aside0.mk hI
  have HK := Aside0.mk (KeepBut.refl w g none)
  have HL := Aside0.mk hB.size
  clear hI
  have HW0 := Aside0.mk hB.size
  have HB := Aside0.mk hB
  clear hB
  have H : (if s0_4 = (-1) then (some (0, 0, false, s0_0, s0_1, s0_2, s0_3, s0_4, s0_5)) else (some (s0_4, s0_5, true, s0_0, s0_1, s0_2, s0_3, s0_4, s0_5))) = some (r1, r2, r3, r4, r5, r6, r7, r8, r9) := h
  clear h
  by_cases c2 : s0_4 = (-1)
  · rw [if_pos c2] at H
    have c2b0 : (s0_4 == (-1)) = true := beq_iff_eq.mpr c2
    have c2b1 : (s0_4 != (-1)) = false := bne_eq_false_iff_eq.mpr c2
    clear c2
    simp only [Option.some.injEq, Prod.mk.injEq] at H
    obtain ⟨rfl, rfl, rfl, rfl, rfl, rfl, rfl, rfl, rfl⟩ := H
    obtain ⟨HGz3, hgz3⟩ := HI0.out
    have hcz3_0 := cellS40_0 HGz3
    have hcz3_1 := cellS40_1 HGz3
    have hcz3_2 := cellS40_2 HGz3
    have hcz3_3 := cellS40_3 HGz3
    have hcz3_4 := cellS40_4 HGz3
    have hcz3_5 := cellS40_5 HGz3
    have hfz3_0 := blk_frozen HGz3 0
    have hfz3_1 := blk_frozen HGz3 1
    have hfz3_2 := blk_frozen HGz3 2
    have hfz3_3 := blk_frozen HGz3 3
    have hfz3_4 := blk_frozen HGz3 4
    have hfz3_5 := blk_frozen HGz3 5
    clear HGz3 hgz3
    go_enter Try.func11, Try.ntmps11
    go_wp2
    repeat (go_quiet (fail); try go_wp2)
    go_ret3
    exact ⟨by first | rfl | (simp [errW_none, errW_some] <;> rfl) | (simp [*, errW_none, errW_some] <;> rfl), by repeat (first | (with_reducible first | exact HI0.out | apply IsS40.alloc | apply IsS40.drewN | apply IsS40.drew | apply IsS40.set_0 | apply IsS40.set_1 | apply IsS40.set_2 | apply IsS40.set_3 | apply IsS40.set_4 | apply IsS40.set_5) | exact HI0.out), by repeat (first | (with_reducible first | exact HB.out | apply below_alloc | apply pw_below_drewN | apply below_drew1 | refine below_set ?_ (IsS40.ge HI0.out)) | exact HB.out), by repeat (first | (with_reducible first | exact HK.out | apply KeepBut.set_ | apply keep_drewN | apply keep_drew | apply keep_alloc) | exact HK.out)⟩
  · rw [if_neg c2] at H
    have c2b0 : (s0_4 == (-1)) = false := beq_eq_false_iff_ne.mpr c2
    have c2b1 : (s0_4 != (-1)) = true := bne_iff_ne.mpr c2
    simp only [Option.some.injEq, Prod.mk.injEq] at H
    obtain ⟨rfl, rfl, rfl, rfl, rfl, rfl, rfl, rfl, rfl⟩ := H
    obtain ⟨HGz4, hgz4⟩ := HI0.out
    have hcz4_0 := cellS40_0 HGz4
    have hcz4_1 := cellS40_1 HGz4
    have hcz4_2 := cellS40_2 HGz4
    have hcz4_3 := cellS40_3 HGz4
    have hcz4_4 := cellS40_4 HGz4
    have hcz4_5 := cellS40_5 HGz4
    have hfz4_0 := blk_frozen HGz4 0
    have hfz4_1 := blk_frozen HGz4 1
    have hfz4_2 := blk_frozen HGz4 2
    have hfz4_3 := blk_frozen HGz4 3
    have hfz4_4 := blk_frozen HGz4 4
    have hfz4_5 := blk_frozen HGz4 5
    clear HGz4 hgz4
    go_enter Try.func11, Try.ntmps11
    go_wp2
    repeat (go_quiet (fail); try go_wp2)
    go_ret3
    exact ⟨by first | rfl | (simp [errW_none, errW_some] <;> rfl) | (simp [*, errW_none, errW_some] <;> rfl), by repeat (first | (with_reducible first | exact HI0.out | apply IsS40.alloc | apply IsS40.drewN | apply IsS40.drew | apply IsS40.set_0 | apply IsS40.set_1 | apply IsS40.set_2 | apply IsS40.set_3 | apply IsS40.set_4 | apply IsS40.set_5) | exact HI0.out), by repeat (first | (with_reducible first | exact HB.out | apply below_alloc | apply pw_below_drewN | apply below_drew1 | refine below_set ?_ (IsS40.ge HI0.out)) | exact HB.out), by repeat (first | (with_reducible first | exact HK.out | apply KeepBut.set_ | apply keep_drewN | apply keep_drew | apply keep_alloc) | exact HK.out)⟩

/-! ### front_Front_Shut: function 13 -/
def front_Front_Shut.f (s0_0 : Int) (s0_1 : Int) (s0_2 : Int) (s0_3 : Int) (s0_4 : Int) (s0_5 : Int) : Option (Int × Int × Int × Int × Int × Int × Int) := some (s0_4, s0_0, s0_1, s0_2, s0_3, (-1), 0)
set_option maxHeartbeats 8000000 in
set_option maxRecDepth 100000 in
theorem front_Front_Shut.calls (g : Nat) (s0_0 : Int) (s0_1 : Int) (s0_2 : Int) (s0_3 : Int) (s0_4 : Int) (s0_5 : Int) (r1 : Int) (r2 : Int) (r3 : Int) (r4 : Int) (r5 : Int) (r6 : Int) (r7 : Int) (w0 w : World) (hI : IsS40 w0 w g s0_0 s0_1 s0_2 s0_3 s0_4 s0_5) (hB : Below w0.heap.size w0 w) (h : front_Front_Shut.f s0_0 s0_1 s0_2 s0_3 s0_4 s0_5 = some (r1, r2, r3, r4, r5, r6, r7)) :
    Calls Try.prog 13 #[.pointer (some ⟨g, 0, none⟩)] w fun e w' => e = .returned (.int .i64 r1) ∧ IsS40 w0 w' g r2 r3 r4 r5 r6 r7 ∧ Below w0.heap.size w0 w' ∧ KeepBut w w' g none := by
  have HI0 := Aside0.mk hI
  have HK := Aside0.mk (KeepBut.refl w g none)
  have HL := Aside0.mk hB.size
  clear hI
  have HW0 := Aside0.mk hB.size
  have HB := Aside0.mk hB
  clear hB
  have H : (some (s0_4, s0_0, s0_1, s0_2, s0_3, (-1), 0)) = some (r1, r2, r3, r4, r5, r6, r7) := h
  clear h
  simp only [Option.some.injEq, Prod.mk.injEq] at H
  obtain ⟨rfl, rfl, rfl, rfl, rfl, rfl, rfl⟩ := H
  obtain ⟨HGz2, hgz2⟩ := HI0.out
  have hcz2_0 := cellS40_0 HGz2
  have hcz2_1 := cellS40_1 HGz2
  have hcz2_2 := cellS40_2 HGz2
  have hcz2_3 := cellS40_3 HGz2
  have hcz2_4 := cellS40_4 HGz2
  have hcz2_5 := cellS40_5 HGz2
  have hfz2_0 := blk_frozen HGz2 0
  have hfz2_1 := blk_frozen HGz2 1
  have hfz2_2 := blk_frozen HGz2 2
  have hfz2_3 := blk_frozen HGz2 3
  have hfz2_4 := blk_frozen HGz2 4
  have hfz2_5 := blk_frozen HGz2 5
  clear HGz2 hgz2
  go_enter Try.func13, Try.ntmps13
  go_wp2
  go_ret
  exact ⟨by first | rfl | (simp [errW_none, errW_some] <;> rfl) | (simp [*, errW_none, errW_some] <;> rfl), by repeat (first | (with_reducible first | exact HI0.out | apply IsS40.alloc | apply IsS40.drewN | apply IsS40.drew | apply IsS40.set_0 | apply IsS40.set_1 | apply IsS40.set_2 | apply IsS40.set_3 | apply IsS40.set_4 | apply IsS40.set_5) | exact HI0.out), by repeat (first | (with_reducible first | exact HB.out | apply below_alloc | apply pw_below_drewN | apply below_drew1 | refine below_set ?_ (IsS40.ge HI0.out)) | exact HB.out), by repeat (first | (with_reducible first | exact HK.out | apply KeepBut.set_ | apply keep_drewN | apply keep_drew | apply keep_alloc) | exact HK.out)⟩

/-! ### front_Front_Take: function 12 -/
def front_Front_Take.f (s0_0 : Int) (s0_1 : Int) (s0_2 : Int) (s0_3 : Int) (s0_4 : Int) (s0_5 : Int) : Option (Int × Int × Bool × Int × Int × Int × Int × Int × Int) := (front_Front_Next.f s0_0 s0_1 s0_2 s0_3 s0_4 s0_5).bind fun bt112 => (if bt112.2.2.1 = true then (if (wrap64 (bt112.2.2.2.2.2.2.2.2 + 1)) = bt112.2.2.2.2.1 then ((front_Front_Shut.f bt112.2.2.2.1 bt112.2.2.2.2.1 bt112.2.2.2.2.2.1 bt112.2.2.2.2.2.2.1 bt112.2.2.2.2.2.2.2.1 (wrap64 (bt112.2.2.2.2.2.2.2.2 + 1))).bind fun bt121 => (some (bt112.1, bt112.2.1, true, bt121.2.1, bt121.2.2.1, bt121.2.2.2.1, bt121.2.2.2.2.1, bt121.2.2.2.2.2.1, bt121.2.2.2.2.2.2))) else (some (bt112.1, bt112.2.1, true, bt112.2.2.2.1, bt112.2.2.2.2.1, bt112.2.2.2.2.2.1, bt112.2.2.2.2.2.2.1, bt112.2.2.2.2.2.2.2.1, wrap64 (bt112.2.2.2.2.2.2.2.2 + 1)))) else (some (0, 0, false, bt112.2.2.2.1, bt112.2.2.2.2.1, bt112.2.2.2.2.2.1, bt112.2.2.2.2.2.2.1, bt112.2.2.2.2.2.2.2.1, bt112.2.2.2.2.2.2.2.2)))
set_option maxHeartbeats 8000000 in
set_option maxRecDepth 100000 in
theorem front_Front_Take.calls (g : Nat) (s0_0 : Int) (s0_1 : Int) (s0_2 : Int) (s0_3 : Int) (s0_4 : Int) (s0_5 : Int) (r1 : Int) (r2 : Int) (r3 : Bool) (r4 : Int) (r5 : Int) (r6 : Int) (r7 : Int) (r8 : Int) (r9 : Int) (w0 w : World) (hI : IsS40 w0 w g s0_0 s0_1 s0_2 s0_3 s0_4 s0_5) (hB : Below w0.heap.size w0 w) (h : front_Front_Take.f s0_0 s0_1 s0_2 s0_3 s0_4 s0_5 = some (r1, r2, r3, r4, r5, r6, r7, r8, r9)) :
    Calls Try.prog 12 #[.pointer (some ⟨g, 0, none⟩)] w fun e w' => e = .returned (.tuple #[.int .i64 r1, .int .i64 r2, .bool r3]) ∧ IsS40 w0 w' g r4 r5 r6 r7 r8 r9 ∧ Below w0.heap.size w0 w' ∧ KeepBut w w' g none := by
  have HI0 := Aside0.mk hI
  have HK := Aside0.mk (KeepBut.refl w g none)
  have HL := Aside0.mk hB.size
  clear hI
  have HW0 := Aside0.mk hB.size
  have HB := Aside0.mk hB
  clear hB
  have H : ((front_Front_Next.f s0_0 s0_1 s0_2 s0_3 s0_4 s0_5).bind fun bt112 => (if bt112.2.2.1 = true then (if (wrap64 (bt112.2.2.2.2.2.2.2.2 + 1)) = bt112.2.2.2.2.1 then ((front_Front_Shut.f bt112.2.2.2.1 bt112.2.2.2.2.1 bt112.2.2.2.2.2.1 bt112.2.2.2.2.2.2.1 bt112.2.2.2.2.2.2.2.1 (wrap64 (bt112.2.2.2.2.2.2.2.2 + 1))).bind fun bt121 => (some (bt112.1, bt112.2.1, true, bt121.2.1, bt121.2.2.1, bt121.2.2.2.1, bt121.2.2.2.2.1, bt121.2.2.2.2.2.1, bt121.2.2.2.2.2.2))) else (some (bt112.1, bt112.2.1, true, bt112.2.2.2.1, bt112.2.2.2.2.1, bt112.2.2.2.2.2.1, bt112.2.2.2.2.2.2.1, bt112.2.2.2.2.2.2.2.1, wrap64 (bt112.2.2.2.2.2.2.2.2 + 1)))) else (some (0, 0, false, bt112.2.2.2.1, bt112.2.2.2.2.1, bt112.2.2.2.2.2.1, bt112.2.2.2.2.2.2.1, bt112.2.2.2.2.2.2.2.1, bt112.2.2.2.2.2.2.2.2)))) = some (r1, r2, r3, r4, r5, r6, r7, r8, r9) := h
  clear h
  replace H := Option.bind_eq_some_iff.mp H
  obtain ⟨⟨t112, t113, t114, t115, t116, t117, t118, t119, t120⟩, A20, H⟩ := H
  replace H : (if t114 = true then (if (wrap64 (t120 + 1)) = t116 then ((front_Front_Shut.f t115 t116 t117 t118 t119 (wrap64 (t120 + 1))).bind fun bt121 => (some (t112, t113, true, bt121.2.1, bt121.2.2.1, bt121.2.2.2.1, bt121.2.2.2.2.1, bt121.2.2.2.2.2.1, bt121.2.2.2.2.2.2))) else (some (t112, t113, true, t115, t116, t117, t118, t119, wrap64 (t120 + 1)))) else (some (0, 0, false, t115, t116, t117, t118, t119, t120))) = some (r1, r2, r3, r4, r5, r6, r7, r8, r9) := H
  have A2 := Aside0.mk A20
  clear A20
  by_cases c3 : t114 = true
  · subst c3
    have H1 : (if (wrap64 (t120 + 1)) = t116 then ((front_Front_Shut.f t115 t116 t117 t118 t119 (wrap64 (t120 + 1))).bind fun bt121 => (some (t112, t113, true, bt121.2.1, bt121.2.2.1, bt121.2.2.2.1, bt121.2.2.2.2.1, bt121.2.2.2.2.2.1, bt121.2.2.2.2.2.2))) else (some (t112, t113, true, t115, t116, t117, t118, t119, wrap64 (t120 + 1)))) = some (r1, r2, r3, r4, r5, r6, r7, r8, r9) := by rw [if_pos rfl] at H; exact H
    clear H
    have H := H1
    clear H1
    by_cases c4 : (wrap64 (t120 + 1)) = t116
    · rw [if_pos c4] at H
      have c4b0 : ((wrap64 (t120 + 1)) == t116) = true := beq_iff_eq.mpr c4
      have c4b1 : ((wrap64 (t120 + 1)) != t116) = false := bne_eq_false_iff_eq.mpr c4
      clear c4
      replace H := Option.bind_eq_some_iff.mp H
      obtain ⟨⟨t121, t122, t123, t124, t125, t126, t127⟩, A50, H⟩ := H
      replace H : (some (t112, t113, true, t122, t123, t124, t125, t126, t127)) = some (r1, r2, r3, r4, r5, r6, r7, r8, r9) := H
      have A5 := Aside0.mk A50
      clear A50
      simp only [Option.some.injEq, Prod.mk.injEq] at H
      obtain ⟨rfl, rfl, rfl, rfl, rfl, rfl, rfl, rfl, rfl⟩ := H
      go_enter Try.func12, Try.ntmps12
      go_wp2_with (first | (go_at_call 11; (with_reducible refine (front_Front_Next.calls g s0_0 s0_1 s0_2 s0_3 s0_4 s0_5 t112 t113 true t115 t116 t117 t118 t119 t120 w0 _ ?side1 ?side2 A2.out).mono ?_); (case side1 => repeat (first | (with_reducible first | exact HI0.out | apply IsS40.alloc | apply IsS40.drewN | apply IsS40.drew | apply IsS40.set_0 | apply IsS40.set_1 | apply IsS40.set_2 | apply IsS40.set_3 | apply IsS40.set_4 | apply IsS40.set_5) | exact HI0.out)); (case side2 => repeat (first | (with_reducible first | exact HB.out | apply below_alloc | apply pw_below_drewN | apply below_drew1 | refine below_set ?_ (IsS40.ge HI0.out)) | exact HB.out)); rintro e w6 ⟨rfl, hi, hb, hk⟩; have n0_ := Aside0.mk (KeepBut.trans (by repeat (first | (with_reducible first | exact HK.out | apply KeepBut.set_ | apply keep_drewN | apply keep_drew | apply keep_alloc) | exact HK.out)) hk (.inl rfl)); have n1_ := Aside0.mk (hb); have n2_ := Aside0.mk (hi); clear HK; clear HB; clear HI0; have HK := n0_; have HB := n1_; have HI0 := n2_; clear n0_ n1_ n2_; (try clear hb); (try clear hb2); (try clear hk); (try clear hi); obtain ⟨HGz7, hgz7⟩ := HI0.out; have hcz7_0 := cellS40_0 HGz7; have hcz7_1 := cellS40_1 HGz7; have hcz7_2 := cellS40_2 HGz7; have hcz7_3 := cellS40_3 HGz7; have hcz7_4 := cellS40_4 HGz7; have hcz7_5 := cellS40_5 HGz7; have hfz7_0 := blk_frozen HGz7 0; have hfz7_1 := blk_frozen HGz7 1; have hfz7_2 := blk_frozen HGz7 2; have hfz7_3 := blk_frozen HGz7 3; have hfz7_4 := blk_frozen HGz7 4; have hfz7_5 := blk_frozen HGz7 5; clear HGz7 hgz7) | (go_at_call 13; (with_reducible refine (front_Front_Shut.calls g t115 t116 t117 t118 t119 (wrap64 (t120 + 1)) t121 t122 t123 t124 t125 t126 t127 w0 _ ?side1 ?side2 A5.out).mono ?_); (case side1 => repeat (first | (with_reducible first | exact HI0.out | apply IsS40.alloc | apply IsS40.drewN | apply IsS40.drew | apply IsS40.set_0 | apply IsS40.set_1 | apply IsS40.set_2 | apply IsS40.set_3 | apply IsS40.set_4 | apply IsS40.set_5) | exact HI0.out)); (case side2 => repeat (first | (with_reducible first | exact HB.out | apply below_alloc | apply pw_below_drewN | apply below_drew1 | refine below_set ?_ (IsS40.ge HI0.out)) | exact HB.out)); rintro e w8 ⟨rfl, hi, hb, hk⟩; have n0_ := Aside0.mk (KeepBut.trans (by repeat (first | (with_reducible first | exact HK.out | apply KeepBut.set_ | apply keep_drewN | apply keep_drew | apply keep_alloc) | exact HK.out)) hk (.inl rfl)); have n1_ := Aside0.mk (hb); have n2_ := Aside0.mk (hi); clear HK; clear HB; clear HI0; have HK := n0_; have HB := n1_; have HI0 := n2_; clear n0_ n1_ n2_; (try clear hb); (try clear hb2); (try clear hk); (try clear hi)))
      repeat (go_quiet (first | (go_at_call 11; (with_reducible refine (front_Front_Next.calls g s0_0 s0_1 s0_2 s0_3 s0_4 s0_5 t112 t113 true t115 t116 t117 t118 t119 t120 w0 _ ?side1 ?side2 A2.out).mono ?_); (case side1 => repeat (first | (with_reducible first | exact HI0.out | apply IsS40.alloc | apply IsS40.drewN | apply IsS40.drew | apply IsS40.set_0 | apply IsS40.set_1 | apply IsS40.set_2 | apply IsS40.set_3 | apply IsS40.set_4 | apply IsS40.set_5) | exact HI0.out)); (case side2 => repeat (first | (with_reducible first | exact HB.out | apply below_alloc | apply pw_below_drewN | apply below_drew1 | refine below_set ?_ (IsS40.ge HI0.out)) | exact HB.out)); rintro e w6 ⟨rfl, hi, hb, hk⟩; have n0_ := Aside0.mk (KeepBut.trans (by repeat (first | (with_reducible first | exact HK.out | apply KeepBut.set_ | apply keep_drewN | apply keep_drew | apply keep_alloc) | exact HK.out)) hk (.inl rfl)); have n1_ := Aside0.mk (hb); have n2_ := Aside0.mk (hi); clear HK; clear HB; clear HI0; have HK := n0_; have HB := n1_; have HI0 := n2_; clear n0_ n1_ n2_; (try clear hb); (try clear hb2); (try clear hk); (try clear hi); obtain ⟨HGz7, hgz7⟩ := HI0.out; have hcz7_0 := cellS40_0 HGz7; have hcz7_1 := cellS40_1 HGz7; have hcz7_2 := cellS40_2 HGz7; have hcz7_3 := cellS40_3 HGz7; have hcz7_4 := cellS40_4 HGz7; have hcz7_5 := cellS40_5 HGz7; have hfz7_0 := blk_frozen HGz7 0; have hfz7_1 := blk_frozen HGz7 1; have hfz7_2 := blk_frozen HGz7 2; have hfz7_3 := blk_frozen HGz7 3; have hfz7_4 := blk_frozen HGz7 4; have hfz7_5 := blk_frozen HGz7 5; clear HGz7 hgz7) | (go_at_call 13; (with_reducible refine (front_Front_Shut.calls g t115 t116 t117 t118 t119 (wrap64 (t120 + 1)) t121 t122 t123 t124 t125 t126 t127 w0 _ ?side1 ?side2 A5.out).mono ?_); (case side1 => repeat (first | (with_reducible first | exact HI0.out | apply IsS40.alloc | apply IsS40.drewN | apply IsS40.drew | apply IsS40.set_0 | apply IsS40.set_1 | apply IsS40.set_2 | apply IsS40.set_3 | apply IsS40.set_4 | apply IsS40.set_5) | exact HI0.out)); (case side2 => repeat (first | (with_reducible first | exact HB.out | apply below_alloc | apply pw_below_drewN | apply below_drew1 | refine below_set ?_ (IsS40.ge HI0.out)) | exact HB.out)); rintro e w8 ⟨rfl, hi, hb, hk⟩; have n0_ := Aside0.mk (KeepBut.trans (by repeat (first | (with_reducible first | exact HK.out | apply KeepBut.set_ | apply keep_drewN | apply keep_drew | apply keep_alloc) | exact HK.out)) hk (.inl rfl)); have n1_ := Aside0.mk (hb); have n2_ := Aside0.mk (hi); clear HK; clear HB; clear HI0; have HK := n0_; have HB := n1_; have HI0 := n2_; clear n0_ n1_ n2_; (try clear hb); (try clear hb2); (try clear hk); (try clear hi))); try go_wp2_with (first | (go_at_call 11; (with_reducible refine (front_Front_Next.calls g s0_0 s0_1 s0_2 s0_3 s0_4 s0_5 t112 t113 true t115 t116 t117 t118 t119 t120 w0 _ ?side1 ?side2 A2.out).mono ?_); (case side1 => repeat (first | (with_reducible first | exact HI0.out | apply IsS40.alloc | apply IsS40.drewN | apply IsS40.drew | apply IsS40.set_0 | apply IsS40.set_1 | apply IsS40.set_2 | apply IsS40.set_3 | apply IsS40.set_4 | apply IsS40.set_5) | exact HI0.out)); (case side2 => repeat (first | (with_reducible first | exact HB.out | apply below_alloc | apply pw_below_drewN | apply below_drew1 | refine below_set ?_ (IsS40.ge HI0.out)) | exact HB.out)); rintro e w6 ⟨rfl, hi, hb, hk⟩; have n0_ := Aside0.mk (KeepBut.trans (by repeat (first | (with_reducible first | exact HK.out | apply KeepBut.set_ | apply keep_drewN | apply keep_drew | apply keep_alloc) | exact HK.out)) hk (.inl rfl)); have n1_ := Aside0.mk (hb); have n2_ := Aside0.mk (hi); clear HK; clear HB; clear HI0; have HK := n0_; have HB := n1_; have HI0 := n2_; clear n0_ n1_ n2_; (try clear hb); (try clear hb2); (try clear hk); (try clear hi); obtain ⟨HGz7, hgz7⟩ := HI0.out; have hcz7_0 := cellS40_0 HGz7; have hcz7_1 := cellS40_1 HGz7; have hcz7_2 := cellS40_2 HGz7; have hcz7_3 := cellS40_3 HGz7; have hcz7_4 := cellS40_4 HGz7; have hcz7_5 := cellS40_5 HGz7; have hfz7_0 := blk_frozen HGz7 0; have hfz7_1 := blk_frozen HGz7 1; have hfz7_2 := blk_frozen HGz7 2; have hfz7_3 := blk_frozen HGz7 3; have hfz7_4 := blk_frozen HGz7 4; have hfz7_5 := blk_frozen HGz7 5; clear HGz7 hgz7) | (go_at_call 13; (with_reducible refine (front_Front_Shut.calls g t115 t116 t117 t118 t119 (wrap64 (t120 + 1)) t121 t122 t123 t124 t125 t126 t127 w0 _ ?side1 ?side2 A5.out).mono ?_); (case side1 => repeat (first | (with_reducible first | exact HI0.out | apply IsS40.alloc | apply IsS40.drewN | apply IsS40.drew | apply IsS40.set_0 | apply IsS40.set_1 | apply IsS40.set_2 | apply IsS40.set_3 | apply IsS40.set_4 | apply IsS40.set_5) | exact HI0.out)); (case side2 => repeat (first | (with_reducible first | exact HB.out | apply below_alloc | apply pw_below_drewN | apply below_drew1 | refine below_set ?_ (IsS40.ge HI0.out)) | exact HB.out)); rintro e w8 ⟨rfl, hi, hb, hk⟩; have n0_ := Aside0.mk (KeepBut.trans (by repeat (first | (with_reducible first | exact HK.out | apply KeepBut.set_ | apply keep_drewN | apply keep_drew | apply keep_alloc) | exact HK.out)) hk (.inl rfl)); have n1_ := Aside0.mk (hb); have n2_ := Aside0.mk (hi); clear HK; clear HB; clear HI0; have HK := n0_; have HB := n1_; have HI0 := n2_; clear n0_ n1_ n2_; (try clear hb); (try clear hb2); (try clear hk); (try clear hi))))
      go_ret3
      exact ⟨by first | rfl | (simp [errW_none, errW_some] <;> rfl) | (simp [*, errW_none, errW_some] <;> rfl), by repeat (first | (with_reducible first | exact HI0.out | apply IsS40.alloc | apply IsS40.drewN | apply IsS40.drew | apply IsS40.set_0 | apply IsS40.set_1 | apply IsS40.set_2 | apply IsS40.set_3 | apply IsS40.set_4 | apply IsS40.set_5) | exact HI0.out), by repeat (first | (with_reducible first | exact HB.out | apply below_alloc | apply pw_below_drewN | apply below_drew1 | refine below_set ?_ (IsS40.ge HI0.out)) | exact HB.out), by repeat (first | (with_reducible first | exact HK.out | apply KeepBut.set_ | apply keep_drewN | apply keep_drew | apply keep_alloc) | exact HK.out)⟩
    · rw [if_neg c4] at H
      have c4b0 : ((wrap64 (t120 + 1)) == t116) = false := beq_eq_false_iff_ne.mpr c4
      have c4b1 : ((wrap64 (t120 + 1)) != t116) = true := bne_iff_ne.mpr c4
      simp only [Option.some.injEq, Prod.mk.injEq] at H
      obtain ⟨rfl, rfl, rfl, rfl, rfl, rfl, rfl, rfl, rfl⟩ := H
      go_enter Try.func12, Try.ntmps12
      go_wp2_with (first | (go_at_call 11; (with_reducible refine (front_Front_Next.calls g s0_0 s0_1 s0_2 s0_3 s0_4 s0_5 t112 t113 true t115 t116 t117 t118 t119 t120 w0 _ ?side1 ?side2 A2.out).mono ?_); (case side1 => repeat (first | (with_reducible first | exact HI0.out | apply IsS40.alloc | apply IsS40.drewN | apply IsS40.drew | apply IsS40.set_0 | apply IsS40.set_1 | apply IsS40.set_2 | apply IsS40.set_3 | apply IsS40.set_4 | apply IsS40.set_5) | exact HI0.out)); (case side2 => repeat (first | (with_reducible first | exact HB.out | apply below_alloc | apply pw_below_drewN | apply below_drew1 | refine below_set ?_ (IsS40.ge HI0.out)) | exact HB.out)); rintro e w9 ⟨rfl, hi, hb, hk⟩; have n0_ := Aside0.mk (KeepBut.trans (by repeat (first | (with_reducible first | exact HK.out | apply KeepBut.set_ | apply keep_drewN | apply keep_drew | apply keep_alloc) | exact HK.out)) hk (.inl rfl)); have n1_ := Aside0.mk (hb); have n2_ := Aside0.mk (hi); clear HK; clear HB; clear HI0; have HK := n0_; have HB := n1_; have HI0 := n2_; clear n0_ n1_ n2_; (try clear hb); (try clear hb2); (try clear hk); (try clear hi); obtain ⟨HGz10, hgz10⟩ := HI0.out; have hcz10_0 := cellS40_0 HGz10; have hcz10_1 := cellS40_1 HGz10; have hcz10_2 := cellS40_2 HGz10; have hcz10_3 := cellS40_3 HGz10; have hcz10_4 := cellS40_4 HGz10; have hcz10_5 := cellS40_5 HGz10; have hfz10_0 := blk_frozen HGz10 0; have hfz10_1 := blk_frozen HGz10 1; have hfz10_2 := blk_frozen HGz10 2; have hfz10_3 := blk_frozen HGz10 3; have hfz10_4 := blk_frozen HGz10 4; have hfz10_5 := blk_frozen HGz10 5; clear HGz10 hgz10))
      repeat (go_quiet (first | (go_at_call 11; (with_reducible refine (front_Front_Next.calls g s0_0 s0_1 s0_2 s0_3 s0_4 s0_5 t112 t113 true t115 t116 t117 t118 t119 t120 w0 _ ?side1 ?side2 A2.out).mono ?_); (case side1 => repeat (first | (with_reducible first | exact HI0.out | apply IsS40.alloc | apply IsS40.drewN | apply IsS40.drew | apply IsS40.set_0 | apply IsS40.set_1 | apply IsS40.set_2 | apply IsS40.set_3 | apply IsS40.set_4 | apply IsS40.set_5) | exact HI0.out)); (case side2 => repeat (first | (with_reducible first | exact HB.out | apply below_alloc | apply pw_below_drewN | apply below_drew1 | refine below_set ?_ (IsS40.ge HI0.out)) | exact HB.out)); rintro e w9 ⟨rfl, hi, hb, hk⟩; have n0_ := Aside0.mk (KeepBut.trans (by repeat (first | (with_reducible first | exact HK.out | apply KeepBut.set_ | apply keep_drewN | apply keep_drew | apply keep_alloc) | exact HK.out)) hk (.inl rfl)); have n1_ := Aside0.mk (hb); have n2_ := Aside0.mk (hi); clear HK; clear HB; clear HI0; have HK := n0_; have HB := n1_; have HI0 := n2_; clear n0_ n1_ n2_; (try clear hb); (try clear hb2); (try clear hk); (try clear hi); obtain ⟨HGz10, hgz10⟩ := HI0.out; have hcz10_0 := cellS40_0 HGz10; have hcz10_1 := cellS40_1 HGz10; have hcz10_2 := cellS40_2 HGz10; have hcz10_3 := cellS40_3 HGz10; have hcz10_4 := cellS40_4 HGz10; have hcz10_5 := cellS40_5 HGz10; have hfz10_0 := blk_frozen HGz10 0; have hfz10_1 := blk_frozen HGz10 1; have hfz10_2 := blk_frozen HGz10 2; have hfz10_3 := blk_frozen HGz10 3; have hfz10_4 := blk_frozen HGz10 4; have hfz10_5 := blk_frozen HGz10 5; clear HGz10 hgz10)); try go_wp2_with (first | (go_at_call 11; (with_reducible refine (front_Front_Next.calls g s0_0 s0_1 s0_2 s0_3 s0_4 s0_5 t112 t113 true t115 t116 t117 t118 t119 t120 w0 _ ?side1 ?side2 A2.out).mono ?_); (case side1 => repeat (first | (with_reducible first | exact HI0.out | apply IsS40.alloc | apply IsS40.drewN | apply IsS40.drew | apply IsS40.set_0 | apply IsS40.set_1 | apply IsS40.set_2 | apply IsS40.set_3 | apply IsS40.set_4 | apply IsS40.set_5) | exact HI0.out)); (case side2 => repeat (first | (with_reducible first | exact HB.out | apply below_alloc | apply pw_below_drewN | apply below_drew1 | refine below_set ?_ (IsS40.ge HI0.out)) | exact HB.out)); rintro e w9 ⟨rfl, hi, hb, hk⟩; have n0_ := Aside0.mk (KeepBut.trans (by repeat (first | (with_reducible first | exact HK.out | apply KeepBut.set_ | apply keep_drewN | apply keep_drew | apply keep_alloc) | exact HK.out)) hk (.inl rfl)); have n1_ := Aside0.mk (hb); have n2_ := Aside0.mk (hi); clear HK; clear HB; clear HI0; have HK := n0_; have HB := n1_; have HI0 := n2_; clear n0_ n1_ n2_; (try clear hb); (try clear hb2); (try clear hk); (try clear hi); obtain ⟨HGz10, hgz10⟩ := HI0.out; have hcz10_0 := cellS40_0 HGz10; have hcz10_1 := cellS40_1 HGz10; have hcz10_2 := cellS40_2 HGz10; have hcz10_3 := cellS40_3 HGz10; have hcz10_4 := cellS40_4 HGz10; have hcz10_5 := cellS40_5 HGz10; have hfz10_0 := blk_frozen HGz10 0; have hfz10_1 := blk_frozen HGz10 1; have hfz10_2 := blk_frozen HGz10 2; have hfz10_3 := blk_frozen HGz10 3; have hfz10_4 := blk_frozen HGz10 4; have hfz10_5 := blk_frozen HGz10 5; clear HGz10 hgz10)))
      go_ret3
      exact ⟨by first | rfl | (simp [errW_none, errW_some] <;> rfl) | (simp [*, errW_none, errW_some] <;> rfl), by repeat (first | (with_reducible first | exact HI0.out | apply IsS40.alloc | apply IsS40.drewN | apply IsS40.drew | apply IsS40.set_0 | apply IsS40.set_1 | apply IsS40.set_2 | apply IsS40.set_3 | apply IsS40.set_4 | apply IsS40.set_5) | exact HI0.out), by repeat (first | (with_reducible first | exact HB.out | apply below_alloc | apply pw_below_drewN | apply below_drew1 | refine below_set ?_ (IsS40.ge HI0.out)) | exact HB.out), by repeat (first | (with_reducible first | exact HK.out | apply KeepBut.set_ | apply keep_drewN | apply keep_drew | apply keep_alloc) | exact HK.out)⟩
  · replace c3 := Bool.eq_false_iff.mpr c3
    subst c3
    have H1 : (some (0, 0, false, t115, t116, t117, t118, t119, t120)) = some (r1, r2, r3, r4, r5, r6, r7, r8, r9) := by rw [if_neg (show ¬ (false = true) by decide)] at H; exact H
    clear H
    have H := H1
    clear H1
    simp only [Option.some.injEq, Prod.mk.injEq] at H
    obtain ⟨rfl, rfl, rfl, rfl, rfl, rfl, rfl, rfl, rfl⟩ := H
    go_enter Try.func12, Try.ntmps12
    go_wp2_with (first | (go_at_call 11; (with_reducible refine (front_Front_Next.calls g s0_0 s0_1 s0_2 s0_3 s0_4 s0_5 t112 t113 false t115 t116 t117 t118 t119 t120 w0 _ ?side1 ?side2 A2.out).mono ?_); (case side1 => repeat (first | (with_reducible first | exact HI0.out | apply IsS40.alloc | apply IsS40.drewN | apply IsS40.drew | apply IsS40.set_0 | apply IsS40.set_1 | apply IsS40.set_2 | apply IsS40.set_3 | apply IsS40.set_4 | apply IsS40.set_5) | exact HI0.out)); (case side2 => repeat (first | (with_reducible first | exact HB.out | apply below_alloc | apply pw_below_drewN | apply below_drew1 | refine below_set ?_ (IsS40.ge HI0.out)) | exact HB.out)); rintro e w11 ⟨rfl, hi, hb, hk⟩; have n0_ := Aside0.mk (KeepBut.trans (by repeat (first | (with_reducible first | exact HK.out | apply KeepBut.set_ | apply keep_drewN | apply keep_drew | apply keep_alloc) | exact HK.out)) hk (.inl rfl)); have n1_ := Aside0.mk (hb); have n2_ := Aside0.mk (hi); clear HK; clear HB; clear HI0; have HK := n0_; have HB := n1_; have HI0 := n2_; clear n0_ n1_ n2_; (try clear hb); (try clear hb2); (try clear hk); (try clear hi)))
    repeat (go_quiet (first | (go_at_call 11; (with_reducible refine (front_Front_Next.calls g s0_0 s0_1 s0_2 s0_3 s0_4 s0_5 t112 t113 false t115 t116 t117 t118 t119 t120 w0 _ ?side1 ?side2 A2.out).mono ?_); (case side1 => repeat (first | (with_reducible first | exact HI0.out | apply IsS40.alloc | apply IsS40.drewN | apply IsS40.drew | apply IsS40.set_0 | apply IsS40.set_1 | apply IsS40.set_2 | apply IsS40.set_3 | apply IsS40.set_4 | apply IsS40.set_5) | exact HI0.out)); (case side2 => repeat (first | (with_reducible first | exact HB.out | apply below_alloc | apply pw_below_drewN | apply below_drew1 | refine below_set ?_ (IsS40.ge HI0.out)) | exact HB.out)); rintro e w11 ⟨rfl, hi, hb, hk⟩; have n0_ := Aside0.mk (KeepBut.trans (by repeat (first | (with_reducible first | exact HK.out | apply KeepBut.set_ | apply keep_drewN | apply keep_drew | apply keep_alloc) | exact HK.out)) hk (.inl rfl)); have n1_ := Aside0.mk (hb); have n2_ := Aside0.mk (hi); clear HK; clear HB; clear HI0; have HK := n0_; have HB := n1_; have HI0 := n2_; clear n0_ n1_ n2_; (try clear hb); (try clear hb2); (try clear hk); (try clear hi))); try go_wp2_with (first | (go_at_call 11; (with_reducible refine (front_Front_Next.calls g s0_0 s0_1 s0_2 s0_3 s0_4 s0_5 t112 t113 false t115 t116 t117 t118 t119 t120 w0 _ ?side1 ?side2 A2.out).mono ?_); (case side1 => repeat (first | (with_reducible first | exact HI0.out | apply IsS40.alloc | apply IsS40.drewN | apply IsS40.drew | apply IsS40.set_0 | apply IsS40.set_1 | apply IsS40.set_2 | apply IsS40.set_3 | apply IsS40.set_4 | apply IsS40.set_5) | exact HI0.out)); (case side2 => repeat (first | (with_reducible first | exact HB.out | apply below_alloc | apply pw_below_drewN | apply below_drew1 | refine below_set ?_ (IsS40.ge HI0.out)) | exact HB.out)); rintro e w11 ⟨rfl, hi, hb, hk⟩; have n0_ := Aside0.mk (KeepBut.trans (by repeat (first | (with_reducible first | exact HK.out | apply KeepBut.set_ | apply keep_drewN | apply keep_drew | apply keep_alloc) | exact HK.out)) hk (.inl rfl)); have n1_ := Aside0.mk (hb); have n2_ := Aside0.mk (hi); clear HK; clear HB; clear HI0; have HK := n0_; have HB := n1_; have HI0 := n2_; clear n0_ n1_ n2_; (try clear hb); (try clear hb2); (try clear hk); (try clear hi))))
    go_ret3
    exact ⟨by first | rfl | (simp [errW_none, errW_some] <;> rfl) | (simp [*, errW_none, errW_some] <;> rfl), by repeat (first | (with_reducible first | exact HI0.out | apply IsS40.alloc | apply IsS40.drewN | apply IsS40.drew | apply IsS40.set_0 | apply IsS40.set_1 | apply IsS40.set_2 | apply IsS40.set_3 | apply IsS40.set_4 | apply IsS40.set_5) | exact HI0.out), by repeat (first | (with_reducible first | exact HB.out | apply below_alloc | apply pw_below_drewN | apply below_drew1 | refine below_set ?_ (IsS40.ge HI0.out)) | exact HB.out), by repeat (first | (with_reducible first | exact HK.out | apply KeepBut.set_ | apply keep_drewN | apply keep_drew | apply keep_alloc) | exact HK.out)⟩

/-! ### front_Front_Block: function 14 -/
def front_Front_Block.f (s0_0 : Int) (s0_1 : Int) (s0_2 : Int) (s0_3 : Int) (s0_4 : Int) (s0_5 : Int) : Option (Int × Int × Int × Int × Int × Int × Int) := some (s0_4, s0_0, s0_1, s0_2, s0_3, s0_4, s0_5)
set_option maxHeartbeats 8000000 in
set_option maxRecDepth 100000 in
theorem front_Front_Block.calls (g : Nat) (s0_0 : Int) (s0_1 : Int) (s0_2 : Int) (s0_3 : Int) (s0_4 : Int) (s0_5 : Int) (r1 : Int) (r2 : Int) (r3 : Int) (r4 : Int) (r5 : Int) (r6 : Int) (r7 : Int) (w0 w : World) (hI : IsS40 w0 w g s0_0 s0_1 s0_2 s0_3 s0_4 s0_5) (hB : Below w0.heap.size w0 w) (h : front_Front_Block.f s0_0 s0_1 s0_2 s0_3 s0_4 s0_5 = some (r1, r2, r3, r4, r5, r6, r7)) :
    Calls Try.prog 14 #[.pointer (some ⟨g, 0, none⟩)] w fun e w' => e = .returned (.int .i64 r1) ∧ IsS40 w0 w' g r2 r3 r4 r5 r6 r7 ∧ Below w0.heap.size w0 w' ∧ KeepBut w w' g none := by
  have HI0 := Aside0.mk hI
  have HK := Aside0.mk (KeepBut.refl w g none)
  have HL := Aside0.mk hB.size
  clear hI
  have HW0 := Aside0.mk hB.size
  have HB := Aside0.mk hB
  clear hB
  have H : (some (s0_4, s0_0, s0_1, s0_2, s0_3, s0_4, s0_5)) = some (r1, r2, r3, r4, r5, r6, r7) := h
  clear h
  simp only [Option.some.injEq, Prod.mk.injEq] at H
  obtain ⟨rfl, rfl, rfl, rfl, rfl, rfl, rfl⟩ := H
  obtain ⟨HGz2, hgz2⟩ := HI0.out
  have hcz2_0 := cellS40_0 HGz2
  have hcz2_1 := cellS40_1 HGz2
  have hcz2_2 := cellS40_2 HGz2
  have hcz2_3 := cellS40_3 HGz2
  have hcz2_4 := cellS40_4 HGz2
  have hcz2_5 := cellS40_5 HGz2
  have hfz2_0 := blk_frozen HGz2 0
  have hfz2_1 := blk_frozen HGz2 1
  have hfz2_2 := blk_frozen HGz2 2
  have hfz2_3 := blk_frozen HGz2 3
  have hfz2_4 := blk_frozen HGz2 4
  have hfz2_5 := blk_frozen HGz2 5
  clear HGz2 hgz2
  go_enter Try.func14, Try.ntmps14
  go_wp2
  go_ret
  exact ⟨by first | rfl | (simp [errW_none, errW_some] <;> rfl) | (simp [*, errW_none, errW_some] <;> rfl), by repeat (first | (with_reducible first | exact HI0.out | apply IsS40.alloc | apply IsS40.drewN | apply IsS40.drew | apply IsS40.set_0 | apply IsS40.set_1 | apply IsS40.set_2 | apply IsS40.set_3 | apply IsS40.set_4 | apply IsS40.set_5) | exact HI0.out), by repeat (first | (with_reducible first | exact HB.out | apply below_alloc | apply pw_below_drewN | apply below_drew1 | refine below_set ?_ (IsS40.ge HI0.out)) | exact HB.out), by repeat (first | (with_reducible first | exact HK.out | apply KeepBut.set_ | apply keep_drewN | apply keep_drew | apply keep_alloc) | exact HK.out)⟩

/-! ### front_Front_Left: function 15 -/
def front_Front_Left.f (s0_0 : Int) (s0_1 : Int) (s0_2 : Int) (s0_3 : Int) (s0_4 : Int) (s0_5 : Int) : Option (Int × Int × Int × Int × Int × Int × Int) := if s0_4 = (-1) then (some (0, s0_0, s0_1, s0_2, s0_3, s0_4, s0_5)) else (some (wrap64 (s0_1 - s0_5), s0_0, s0_1, s0_2, s0_3, s0_4, s0_5))
set_option maxHeartbeats 8000000 in
set_option maxRecDepth 100000 in
theorem front_Front_Left.calls (g : Nat) (s0_0 : Int) (s0_1 : Int) (s0_2 : Int) (s0_3 : Int) (s0_4 : Int) (s0_5 : Int) (r1 : Int) (r2 : Int) (r3 : Int) (r4 : Int) (r5 : Int) (r6 : Int) (r7 : Int) (w0 w : World) (hI : IsS40 w0 w g s0_0 s0_1 s0_2 s0_3 s0_4 s0_5) (hB : Below w0.heap.size w0 w) (h : front_Front_Left.f s0_0 s0_1 s0_2 s0_3 s0_4 s0_5 = some (r1, r2, r3, r4, r5, r6, r7)) :
    Calls Try.prog 15 #[.pointer (some ⟨g, 0, none⟩)] w fun e w' => e = .returned (.int .i64 r1) ∧ IsS40 w0 w' g r2 r3 r4 r5 r6 r7 ∧ Below w0.heap.size w0 w' ∧ KeepBut w w' g none := by
  have HI0 := Aside0.mk hI
  have HK := Aside0.mk (KeepBut.refl w g none)
  have HL := Aside0.mk hB.size
  clear hI
  have HW0 := Aside0.mk hB.size
  have HB := Aside0.mk hB
  clear hB
  have H : (if s0_4 = (-1) then (some (0, s0_0, s0_1, s0_2, s0_3, s0_4, s0_5)) else (some (wrap64 (s0_1 - s0_5), s0_0, s0_1, s0_2, s0_3, s0_4, s0_5))) = some (r1, r2, r3, r4, r5, r6, r7) := h
  clear h
  by_cases c2 : s0_4 = (-1)
  · rw [if_pos c2] at H
    have c2b0 : (s0_4 == (-1)) = true := beq_iff_eq.mpr c2
    have c2b1 : (s0_4 != (-1)) = false := bne_eq_false_iff_eq.mpr c2
    clear c2
    simp only [Option.some.injEq, Prod.mk.injEq] at H
    obtain ⟨rfl, rfl, rfl, rfl, rfl, rfl, rfl⟩ := H
    obtain ⟨HGz3, hgz3⟩ := HI0.out
    have hcz3_0 := cellS40_0 HGz3
    have hcz3_1 := cellS40_1 HGz3
    have hcz3_2 := cellS40_2 HGz3
    have hcz3_3 := cellS40_3 HGz3
    have hcz3_4 := cellS40_4 HGz3
    have hcz3_5 := cellS40_5 HGz3
    have hfz3_0 := blk_frozen HGz3 0
    have hfz3_1 := blk_frozen HGz3 1
    have hfz3_2 := blk_frozen HGz3 2
    have hfz3_3 := blk_frozen HGz3 3
    have hfz3_4 := blk_frozen HGz3 4
    have hfz3_5 := blk_frozen HGz3 5
    clear HGz3 hgz3
    go_enter Try.func15, Try.ntmps15
    go_wp2
    repeat (go_quiet (fail); try go_wp2)
    go_ret
    exact ⟨by first | rfl | (simp [errW_none, errW_some] <;> rfl) | (simp [*, errW_none, errW_some] <;> rfl), by repeat (first | (with_reducible first | exact HI0.out | apply IsS40.alloc | apply IsS40.drewN | apply IsS40.drew | apply IsS40.set_0 | apply IsS40.set_1 | apply IsS40.set_2 | apply IsS40.set_3 | apply IsS40.set_4 | apply IsS40.set_5) | exact HI0.out), by repeat (first | (with_reducible first | exact HB.out | apply below_alloc | apply pw_below_drewN | apply below_drew1 | refine below_set ?_ (IsS40.ge HI0.out)) | exact HB.out), by repeat (first | (with_reducible first | exact HK.out | apply KeepBut.set_ | apply keep_drewN | apply keep_drew | apply keep_alloc) | exact HK.out)⟩
  · rw [if_neg c2] at H
    have c2b0 : (s0_4 == (-1)) = false := beq_eq_false_iff_ne.mpr c2
    have c2b1 : (s0_4 != (-1)) = true := bne_iff_ne.mpr c2
    simp only [Option.some.injEq, Prod.mk.injEq] at H
    obtain ⟨rfl, rfl, rfl, rfl, rfl, rfl, rfl⟩ := H
    obtain ⟨HGz4, hgz4⟩ := HI0.out
    have hcz4_0 := cellS40_0 HGz4
    have hcz4_1 := cellS40_1 HGz4
    have hcz4_2 := cellS40_2 HGz4
    have hcz4_3 := cellS40_3 HGz4
    have hcz4_4 := cellS40_4 HGz4
    have hcz4_5 := cellS40_5 HGz4
    have hfz4_0 := blk_frozen HGz4 0
    have hfz4_1 := blk_frozen HGz4 1
    have hfz4_2 := blk_frozen HGz4 2
    have hfz4_3 := blk_frozen HGz4 3
    have hfz4_4 := blk_frozen HGz4 4
    have hfz4_5 := blk_frozen HGz4 5
    clear HGz4 hgz4
    go_enter Try.func15, Try.ntmps15
    go_wp2
    repeat (go_quiet (fail); try go_wp2)
    go_ret
    exact ⟨by first | rfl | (simp [errW_none, errW_some] <;> rfl) | (simp [*, errW_none, errW_some] <;> rfl), by repeat (first | (with_reducible first | exact HI0.out | apply IsS40.alloc | apply IsS40.drewN | apply IsS40.drew | apply IsS40.set_0 | apply IsS40.set_1 | apply IsS40.set_2 | apply IsS40.set_3 | apply IsS40.set_4 | apply IsS40.set_5) | exact HI0.out), by repeat (first | (with_reducible first | exact HB.out | apply below_alloc | apply pw_below_drewN | apply below_drew1 | refine below_set ?_ (IsS40.ge HI0.out)) | exact HB.out), by repeat (first | (with_reducible first | exact HK.out | apply KeepBut.set_ | apply keep_drewN | apply keep_drew | apply keep_alloc) | exact HK.out)⟩

/-! ### blackboardlaw17_awake: function 7 -/
def blackboardlaw17_awake.f  : Option (Bool) := (front_New.f 4 2 1 9).bind fun bt128 => ((front_Front_Block.f bt128.1 bt128.2.1 bt128.2.2.1 bt128.2.2.2.1 bt128.2.2.2.2.1 bt128.2.2.2.2.2).bind fun bt135 => (if bt135.1 = (-1) then ((front_Front_Open.f bt135.2.1 bt135.2.2.1 bt135.2.2.2.1 bt135.2.2.2.2.1 bt135.2.2.2.2.2.1 bt135.2.2.2.2.2.2 2 0).bind fun bt142 => ((front_Front_Take.f bt142.2.1 bt142.2.2.1 bt142.2.2.2.1 bt142.2.2.2.2.1 bt142.2.2.2.2.2.1 bt142.2.2.2.2.2.2).bind fun bt149 => (if bt142.1 = true then (if bt149.2.2.1 = true then (if bt149.1 = 2 then (if bt149.2.1 = 0 then ((front_Front_Left.f bt149.2.2.2.1 bt149.2.2.2.2.1 bt149.2.2.2.2.2.1 bt149.2.2.2.2.2.2.1 bt149.2.2.2.2.2.2.2.1 bt149.2.2.2.2.2.2.2.2).bind fun bt158 => (if bt158.1 = 1 then ((front_Front_Block.f bt158.2.1 bt158.2.2.1 bt158.2.2.2.1 bt158.2.2.2.2.1 bt158.2.2.2.2.2.1 bt158.2.2.2.2.2.2).bind fun bt165 => (some (bt165.1 == 2))) else (some false))) else (some false)) else (some false)) else (some false)) else (some false)))) else (some false)))
set_option maxHeartbeats 8000000 in
set_option maxRecDepth 100000 in
theorem blackboardlaw17_awake.calls  (r : Bool) (w : World) (h : blackboardlaw17_awake.f  = some r) :
    Calls Try.prog 7 #[] w fun e w' => e = .returned (.bool r) ∧ Below w.heap.size w w' := by
  have hu23 := Try.underlying23
  have HB := Aside0.mk (Below.refl w.heap.size w)
  have H : ((front_New.f 4 2 1 9).bind fun bt128 => ((front_Front_Block.f bt128.1 bt128.2.1 bt128.2.2.1 bt128.2.2.2.1 bt128.2.2.2.2.1 bt128.2.2.2.2.2).bind fun bt135 => (if bt135.1 = (-1) then ((front_Front_Open.f bt135.2.1 bt135.2.2.1 bt135.2.2.2.1 bt135.2.2.2.2.1 bt135.2.2.2.2.2.1 bt135.2.2.2.2.2.2 2 0).bind fun bt142 => ((front_Front_Take.f bt142.2.1 bt142.2.2.1 bt142.2.2.2.1 bt142.2.2.2.2.1 bt142.2.2.2.2.2.1 bt142.2.2.2.2.2.2).bind fun bt149 => (if bt142.1 = true then (if bt149.2.2.1 = true then (if bt149.1 = 2 then (if bt149.2.1 = 0 then ((front_Front_Left.f bt149.2.2.2.1 bt149.2.2.2.2.1 bt149.2.2.2.2.2.1 bt149.2.2.2.2.2.2.1 bt149.2.2.2.2.2.2.2.1 bt149.2.2.2.2.2.2.2.2).bind fun bt158 => (if bt158.1 = 1 then ((front_Front_Block.f bt158.2.1 bt158.2.2.1 bt158.2.2.2.1 bt158.2.2.2.2.1 bt158.2.2.2.2.2.1 bt158.2.2.2.2.2.2).bind fun bt165 => (some (bt165.1 == 2))) else (some false))) else (some false)) else (some false)) else (some false)) else (some false)))) else (some false)))) = some r := h
  clear h
  replace H := Option.bind_eq_some_iff.mp H
  obtain ⟨⟨t128, t129, t130, t131, t132, t133⟩, A10, H⟩ := H
  replace H : ((front_Front_Block.f t128 t129 t130 t131 t132 t133).bind fun bt135 => (if bt135.1 = (-1) then ((front_Front_Open.f bt135.2.1 bt135.2.2.1 bt135.2.2.2.1 bt135.2.2.2.2.1 bt135.2.2.2.2.2.1 bt135.2.2.2.2.2.2 2 0).bind fun bt142 => ((front_Front_Take.f bt142.2.1 bt142.2.2.1 bt142.2.2.2.1 bt142.2.2.2.2.1 bt142.2.2.2.2.2.1 bt142.2.2.2.2.2.2).bind fun bt149 => (if bt142.1 = true then (if bt149.2.2.1 = true then (if bt149.1 = 2 then (if bt149.2.1 = 0 then ((front_Front_Left.f bt149.2.2.2.1 bt149.2.2.2.2.1 bt149.2.2.2.2.2.1 bt149.2.2.2.2.2.2.1 bt149.2.2.2.2.2.2.2.1 bt149.2.2.2.2.2.2.2.2).bind fun bt158 => (if bt158.1 = 1 then ((front_Front_Block.f bt158.2.1 bt158.2.2.1 bt158.2.2.2.1 bt158.2.2.2.2.1 bt158.2.2.2.2.2.1 bt158.2.2.2.2.2.2).bind fun bt165 => (some (bt165.1 == 2))) else (some false))) else (some false)) else (some false)) else (some false)) else (some false)))) else (some false))) = some r := H
  have A1 := Aside0.mk A10
  clear A10
  replace H := Option.bind_eq_some_iff.mp H
  obtain ⟨⟨t135, t136, t137, t138, t139, t140, t141⟩, A20, H⟩ := H
  replace H : (if t135 = (-1) then ((front_Front_Open.f t136 t137 t138 t139 t140 t141 2 0).bind fun bt142 => ((front_Front_Take.f bt142.2.1 bt142.2.2.1 bt142.2.2.2.1 bt142.2.2.2.2.1 bt142.2.2.2.2.2.1 bt142.2.2.2.2.2.2).bind fun bt149 => (if bt142.1 = true then (if bt149.2.2.1 = true then (if bt149.1 = 2 then (if bt149.2.1 = 0 then ((front_Front_Left.f bt149.2.2.2.1 bt149.2.2.2.2.1 bt149.2.2.2.2.2.1 bt149.2.2.2.2.2.2.1 bt149.2.2.2.2.2.2.2.1 bt149.2.2.2.2.2.2.2.2).bind fun bt158 => (if bt158.1 = 1 then ((front_Front_Block.f bt158.2.1 bt158.2.2.1 bt158.2.2.2.1 bt158.2.2.2.2.1 bt158.2.2.2.2.2.1 bt158.2.2.2.2.2.2).bind fun bt165 => (some (bt165.1 == 2))) else (some false))) else (some false)) else (some false)) else (some false)) else (some false)))) else (some false)) = some r := H
  have A2 := Aside0.mk A20
  clear A20
  by_cases c3 : t135 = (-1)
  · rw [if_pos c3] at H
    have c3b0 : (t135 == (-1)) = true := beq_iff_eq.mpr c3
    have c3b1 : (t135 != (-1)) = false := bne_eq_false_iff_eq.mpr c3
    clear c3
    replace H := Option.bind_eq_some_iff.mp H
    obtain ⟨⟨t142, t143, t144, t145, t146, t147, t148⟩, A40, H⟩ := H
    replace H : ((front_Front_Take.f t143 t144 t145 t146 t147 t148).bind fun bt149 => (if t142 = true then (if bt149.2.2.1 = true then (if bt149.1 = 2 then (if bt149.2.1 = 0 then ((front_Front_Left.f bt149.2.2.2.1 bt149.2.2.2.2.1 bt149.2.2.2.2.2.1 bt149.2.2.2.2.2.2.1 bt149.2.2.2.2.2.2.2.1 bt149.2.2.2.2.2.2.2.2).bind fun bt158 => (if bt158.1 = 1 then ((front_Front_Block.f bt158.2.1 bt158.2.2.1 bt158.2.2.2.1 bt158.2.2.2.2.1 bt158.2.2.2.2.2.1 bt158.2.2.2.2.2.2).bind fun bt165 => (some (bt165.1 == 2))) else (some false))) else (some false)) else (some false)) else (some false)) else (some false))) = some r := H
    have A4 := Aside0.mk A40
    clear A40
    replace H := Option.bind_eq_some_iff.mp H
    obtain ⟨⟨t149, t150, t151, t152, t153, t154, t155, t156, t157⟩, A50, H⟩ := H
    replace H : (if t142 = true then (if t151 = true then (if t149 = 2 then (if t150 = 0 then ((front_Front_Left.f t152 t153 t154 t155 t156 t157).bind fun bt158 => (if bt158.1 = 1 then ((front_Front_Block.f bt158.2.1 bt158.2.2.1 bt158.2.2.2.1 bt158.2.2.2.2.1 bt158.2.2.2.2.2.1 bt158.2.2.2.2.2.2).bind fun bt165 => (some (bt165.1 == 2))) else (some false))) else (some false)) else (some false)) else (some false)) else (some false)) = some r := H
    have A5 := Aside0.mk A50
    clear A50
    by_cases c6 : t142 = true
    · subst c6
      have H1 : (if t151 = true then (if t149 = 2 then (if t150 = 0 then ((front_Front_Left.f t152 t153 t154 t155 t156 t157).bind fun bt158 => (if bt158.1 = 1 then ((front_Front_Block.f bt158.2.1 bt158.2.2.1 bt158.2.2.2.1 bt158.2.2.2.2.1 bt158.2.2.2.2.2.1 bt158.2.2.2.2.2.2).bind fun bt165 => (some (bt165.1 == 2))) else (some false))) else (some false)) else (some false)) else (some false)) = some r := by rw [if_pos rfl] at H; exact H
      clear H
      have H := H1
      clear H1
      by_cases c7 : t151 = true
      · subst c7
        have H1 : (if t149 = 2 then (if t150 = 0 then ((front_Front_Left.f t152 t153 t154 t155 t156 t157).bind fun bt158 => (if bt158.1 = 1 then ((front_Front_Block.f bt158.2.1 bt158.2.2.1 bt158.2.2.2.1 bt158.2.2.2.2.1 bt158.2.2.2.2.2.1 bt158.2.2.2.2.2.2).bind fun bt165 => (some (bt165.1 == 2))) else (some false))) else (some false)) else (some false)) = some r := by rw [if_pos rfl] at H; exact H
        clear H
        have H := H1
        clear H1
        by_cases c8 : t149 = 2
        · rw [if_pos c8] at H
          have c8b0 : (t149 == 2) = true := beq_iff_eq.mpr c8
          have c8b1 : (t149 != 2) = false := bne_eq_false_iff_eq.mpr c8
          clear c8
          by_cases c9 : t150 = 0
          · rw [if_pos c9] at H
            have c9b0 : (t150 == 0) = true := beq_iff_eq.mpr c9
            have c9b1 : (t150 != 0) = false := bne_eq_false_iff_eq.mpr c9
            clear c9
            replace H := Option.bind_eq_some_iff.mp H
            obtain ⟨⟨t158, t159, t160, t161, t162, t163, t164⟩, A100, H⟩ := H
            replace H : (if t158 = 1 then ((front_Front_Block.f t159 t160 t161 t162 t163 t164).bind fun bt165 => (some (bt165.1 == 2))) else (some false)) = some r := H
            have A10 := Aside0.mk A100
            clear A100
            by_cases c11 : t158 = 1
            · rw [if_pos c11] at H
              have c11b0 : (t158 == 1) = true := beq_iff_eq.mpr c11
              have c11b1 : (t158 != 1) = false := bne_eq_false_iff_eq.mpr c11
              clear c11
              replace H := Option.bind_eq_some_iff.mp H
              obtain ⟨⟨t165, t166, t167, t168, t169, t170, t171⟩, A120, H⟩ := H
              replace H : (some (t165 == 2)) = some r := H
              have A12 := Aside0.mk A120
              clear A120
              obtain rfl := Option.some.inj H
              go_enter Try.func7, Try.ntmps7
              go_wp2_with (first | ((with_reducible refine gate_callee (f := 8) rfl ?_); refine goesL_ (some 7) rfl rfl Try.func8 (by kernel_rfl) rfl #[.agg #[.int .i64 4, .int .i64 2, .int .i64 1, .int .i64 9]] rfl (by (try simp only [List.map_toArray, List.map_cons, List.map_nil]); first | done | rfl | (simp only [List.length_drop, List.length_take]; rfl)) ?_; (with_reducible refine (front_New.calls 4 2 1 9 t128 t129 t130 t131 t132 t133 w _ ?side1 A1.out).mono ?_); (case side1 => repeat (first | (with_reducible first | exact HB.out | apply below_alloc | apply pw_below_drewN | apply below_drew1) | exact HB.out)); rintro e w13 ⟨g134, rfl, hi, hb, hb2⟩; refine ⟨_, rfl, ?_⟩; have n0_ := Aside0.mk (hb); have n1_ := Aside0.mk (hi); clear HB; have HB := n0_; have HI134 := n1_; clear n0_ n1_; (try clear hb); (try clear hb2); (try clear hk); (try clear hi)) | (go_at_call 14; (with_reducible refine (front_Front_Block.calls g134 t128 t129 t130 t131 t132 t133 t135 t136 t137 t138 t139 t140 t141 w _ ?side1 ?side2 A2.out).mono ?_); (case side1 => repeat (first | (with_reducible first | exact HI134.out | apply IsS40.alloc | apply IsS40.drewN | apply IsS40.drew | apply IsS40.set_0 | apply IsS40.set_1 | apply IsS40.set_2 | apply IsS40.set_3 | apply IsS40.set_4 | apply IsS40.set_5) | exact HI134.out)); (case side2 => repeat (first | (with_reducible first | exact HB.out | apply below_alloc | apply pw_below_drewN | apply below_drew1 | refine below_set ?_ (IsS40.ge HI134.out)) | exact HB.out)); rintro e w14 ⟨rfl, hi, hb, hk⟩; have n0_ := Aside0.mk (hb); have n1_ := Aside0.mk (hi); clear HB; clear HI134; have HB := n0_; have HI134 := n1_; clear n0_ n1_; (try clear hb); (try clear hb2); (try clear hk); (try clear hi)) | ((with_reducible refine gate_callee (f := 10) rfl ?_); refine goesL_ (some 16) rfl rfl Try.func10 (by kernel_rfl) rfl #[.pointer (some ⟨g134, 0, none⟩), .int .i64 2, .int .i64 0] rfl (by (try simp only [List.map_toArray, List.map_cons, List.map_nil]); first | done | rfl | (simp only [List.length_drop, List.length_take]; rfl)) ?_; (with_reducible refine (front_Front_Open.calls g134 t136 t137 t138 t139 t140 t141 2 0 true t143 t144 t145 t146 t147 t148 w _ ?side1 ?side2 A4.out).mono ?_); (case side1 => repeat (first | (with_reducible first | exact HI134.out | apply IsS40.alloc | apply IsS40.drewN | apply IsS40.drew | apply IsS40.set_0 | apply IsS40.set_1 | apply IsS40.set_2 | apply IsS40.set_3 | apply IsS40.set_4 | apply IsS40.set_5) | exact HI134.out)); (case side2 => repeat (first | (with_reducible first | exact HB.out | apply below_alloc | apply pw_below_drewN | apply below_drew1 | refine below_set ?_ (IsS40.ge HI134.out)) | exact HB.out)); rintro e w15 ⟨rfl, hi, hb, hk⟩; refine ⟨_, rfl, ?_⟩; have n0_ := Aside0.mk (hb); have n1_ := Aside0.mk (hi); clear HB; clear HI134; have HB := n0_; have HI134 := n1_; clear n0_ n1_; (try clear hb); (try clear hb2); (try clear hk); (try clear hi)) | ((with_reducible refine gate_callee (f := 12) rfl ?_); refine goesL_ (some 19) rfl rfl Try.func12 (by kernel_rfl) rfl #[.pointer (some ⟨g134, 0, none⟩)] rfl (by (try simp only [List.map_toArray, List.map_cons, List.map_nil]); first | done | rfl | (simp only [List.length_drop, List.length_take]; rfl)) ?_; (with_reducible refine (front_Front_Take.calls g134 t143 t144 t145 t146 t147 t148 t149 t150 true t152 t153 t154 t155 t156 t157 w _ ?side1 ?side2 A5.out).mono ?_); (case side1 => repeat (first | (with_reducible first | exact HI134.out | apply IsS40.alloc | apply IsS40.drewN | apply IsS40.drew | apply IsS40.set_0 | apply IsS40.set_1 | apply IsS40.set_2 | apply IsS40.set_3 | apply IsS40.set_4 | apply IsS40.set_5) | exact HI134.out)); (case side2 => repeat (first | (with_reducible first | exact HB.out | apply below_alloc | apply pw_below_drewN | apply below_drew1 | refine below_set ?_ (IsS40.ge HI134.out)) | exact HB.out)); rintro e w16 ⟨rfl, hi, hb, hk⟩; refine ⟨_, rfl, ?_⟩; have n0_ := Aside0.mk (hb); have n1_ := Aside0.mk (hi); clear HB; clear HI134; have HB := n0_; have HI134 := n1_; clear n0_ n1_; (try clear hb); (try clear hb2); (try clear hk); (try clear hi)) | (go_at_call 15; (with_reducible refine (front_Front_Left.calls g134 t152 t153 t154 t155 t156 t157 t158 t159 t160 t161 t162 t163 t164 w _ ?side1 ?side2 A10.out).mono ?_); (case side1 => repeat (first | (with_reducible first | exact HI134.out | apply IsS40.alloc | apply IsS40.drewN | apply IsS40.drew | apply IsS40.set_0 | apply IsS40.set_1 | apply IsS40.set_2 | apply IsS40.set_3 | apply IsS40.set_4 | apply IsS40.set_5) | exact HI134.out)); (case side2 => repeat (first | (with_reducible first | exact HB.out | apply below_alloc | apply pw_below_drewN | apply below_drew1 | refine below_set ?_ (IsS40.ge HI134.out)) | exact HB.out)); rintro e w17 ⟨rfl, hi, hb, hk⟩; have n0_ := Aside0.mk (hb); have n1_ := Aside0.mk (hi); clear HB; clear HI134; have HB := n0_; have HI134 := n1_; clear n0_ n1_; (try clear hb); (try clear hb2); (try clear hk); (try clear hi)) | (go_at_call 14; (with_reducible refine (front_Front_Block.calls g134 t159 t160 t161 t162 t163 t164 t165 t166 t167 t168 t169 t170 t171 w _ ?side1 ?side2 A12.out).mono ?_); (case side1 => repeat (first | (with_reducible first | exact HI134.out | apply IsS40.alloc | apply IsS40.drewN | apply IsS40.drew | apply IsS40.set_0 | apply IsS40.set_1 | apply IsS40.set_2 | apply IsS40.set_3 | apply IsS40.set_4 | apply IsS40.set_5) | exact HI134.out)); (case side2 => repeat (first | (with_reducible first | exact HB.out | apply below_alloc | apply pw_below_drewN | apply below_drew1 | refine below_set ?_ (IsS40.ge HI134.out)) | exact HB.out)); rintro e w18 ⟨rfl, hi, hb, hk⟩; have n0_ := Aside0.mk (hb); have n1_ := Aside0.mk (hi); clear HB; clear HI134; have HB := n0_; have HI134 := n1_; clear n0_ n1_; (try clear hb); (try clear hb2); (try clear hk); (try clear hi)))
              go_ret
              exact ⟨by first | rfl | (simp [errW_none, errW_some] <;> rfl) | (simp [*, errW_none, errW_some] <;> rfl), by repeat (first | (with_reducible first | exact HB.out | apply below_alloc | apply pw_below_drewN | apply below_drew1 | refine below_set ?_ (IsS40.ge HI134.out)) | exact HB.out)⟩
            · rw [if_neg c11] at H
              have c11b0 : (t158 == 1) = false := beq_eq_false_iff_ne.mpr c11
              have c11b1 : (t158 != 1) = true := bne_iff_ne.mpr c11
              obtain rfl := Option.some.inj H
              go_enter Try.func7, Try.ntmps7
              go_wp2_with (first | ((with_reducible refine gate_callee (f := 8) rfl ?_); refine goesL_ (some 7) rfl rfl Try.func8 (by kernel_rfl) rfl #[.agg #[.int .i64 4, .int .i64 2, .int .i64 1, .int .i64 9]] rfl (by (try simp only [List.map_toArray, List.map_cons, List.map_nil]); first | done | rfl | (simp only [List.length_drop, List.length_take]; rfl)) ?_; (with_reducible refine (front_New.calls 4 2 1 9 t128 t129 t130 t131 t132 t133 w _ ?side1 A1.out).mono ?_); (case side1 => repeat (first | (with_reducible first | exact HB.out | apply below_alloc | apply pw_below_drewN | apply below_drew1) | exact HB.out)); rintro e w19 ⟨g134, rfl, hi, hb, hb2⟩; refine ⟨_, rfl, ?_⟩; have n0_ := Aside0.mk (hb); have n1_ := Aside0.mk (hi); clear HB; have HB := n0_; have HI134 := n1_; clear n0_ n1_; (try clear hb); (try clear hb2); (try clear hk); (try clear hi)) | (go_at_call 14; (with_reducible refine (front_Front_Block.calls g134 t128 t129 t130 t131 t132 t133 t135 t136 t137 t138 t139 t140 t141 w _ ?side1 ?side2 A2.out).mono ?_); (case side1 => repeat (first | (with_reducible first | exact HI134.out | apply IsS40.alloc | apply IsS40.drewN | apply IsS40.drew | apply IsS40.set_0 | apply IsS40.set_1 | apply IsS40.set_2 | apply IsS40.set_3 | apply IsS40.set_4 | apply IsS40.set_5) | exact HI134.out)); (case side2 => repeat (first | (with_reducible first | exact HB.out | apply below_alloc | apply pw_below_drewN | apply below_drew1 | refine below_set ?_ (IsS40.ge HI134.out)) | exact HB.out)); rintro e w20 ⟨rfl, hi, hb, hk⟩; have n0_ := Aside0.mk (hb); have n1_ := Aside0.mk (hi); clear HB; clear HI134; have HB := n0_; have HI134 := n1_; clear n0_ n1_; (try clear hb); (try clear hb2); (try clear hk); (try clear hi)) | ((with_reducible refine gate_callee (f := 10) rfl ?_); refine goesL_ (some 16) rfl rfl Try.func10 (by kernel_rfl) rfl #[.pointer (some ⟨g134, 0, none⟩), .int .i64 2, .int .i64 0] rfl (by (try simp only [List.map_toArray, List.map_cons, List.map_nil]); first | done | rfl | (simp only [List.length_drop, List.length_take]; rfl)) ?_; (with_reducible refine (front_Front_Open.calls g134 t136 t137 t138 t139 t140 t141 2 0 true t143 t144 t145 t146 t147 t148 w _ ?side1 ?side2 A4.out).mono ?_); (case side1 => repeat (first | (with_reducible first | exact HI134.out | apply IsS40.alloc | apply IsS40.drewN | apply IsS40.drew | apply IsS40.set_0 | apply IsS40.set_1 | apply IsS40.set_2 | apply IsS40.set_3 | apply IsS40.set_4 | apply IsS40.set_5) | exact HI134.out)); (case side2 => repeat (first | (with_reducible first | exact HB.out | apply below_alloc | apply pw_below_drewN | apply below_drew1 | refine below_set ?_ (IsS40.ge HI134.out)) | exact HB.out)); rintro e w21 ⟨rfl, hi, hb, hk⟩; refine ⟨_, rfl, ?_⟩; have n0_ := Aside0.mk (hb); have n1_ := Aside0.mk (hi); clear HB; clear HI134; have HB := n0_; have HI134 := n1_; clear n0_ n1_; (try clear hb); (try clear hb2); (try clear hk); (try clear hi)) | ((with_reducible refine gate_callee (f := 12) rfl ?_); refine goesL_ (some 19) rfl rfl Try.func12 (by kernel_rfl) rfl #[.pointer (some ⟨g134, 0, none⟩)] rfl (by (try simp only [List.map_toArray, List.map_cons, List.map_nil]); first | done | rfl | (simp only [List.length_drop, List.length_take]; rfl)) ?_; (with_reducible refine (front_Front_Take.calls g134 t143 t144 t145 t146 t147 t148 t149 t150 true t152 t153 t154 t155 t156 t157 w _ ?side1 ?side2 A5.out).mono ?_); (case side1 => repeat (first | (with_reducible first | exact HI134.out | apply IsS40.alloc | apply IsS40.drewN | apply IsS40.drew | apply IsS40.set_0 | apply IsS40.set_1 | apply IsS40.set_2 | apply IsS40.set_3 | apply IsS40.set_4 | apply IsS40.set_5) | exact HI134.out)); (case side2 => repeat (first | (with_reducible first | exact HB.out | apply below_alloc | apply pw_below_drewN | apply below_drew1 | refine below_set ?_ (IsS40.ge HI134.out)) | exact HB.out)); rintro e w22 ⟨rfl, hi, hb, hk⟩; refine ⟨_, rfl, ?_⟩; have n0_ := Aside0.mk (hb); have n1_ := Aside0.mk (hi); clear HB; clear HI134; have HB := n0_; have HI134 := n1_; clear n0_ n1_; (try clear hb); (try clear hb2); (try clear hk); (try clear hi)) | (go_at_call 15; (with_reducible refine (front_Front_Left.calls g134 t152 t153 t154 t155 t156 t157 t158 t159 t160 t161 t162 t163 t164 w _ ?side1 ?side2 A10.out).mono ?_); (case side1 => repeat (first | (with_reducible first | exact HI134.out | apply IsS40.alloc | apply IsS40.drewN | apply IsS40.drew | apply IsS40.set_0 | apply IsS40.set_1 | apply IsS40.set_2 | apply IsS40.set_3 | apply IsS40.set_4 | apply IsS40.set_5) | exact HI134.out)); (case side2 => repeat (first | (with_reducible first | exact HB.out | apply below_alloc | apply pw_below_drewN | apply below_drew1 | refine below_set ?_ (IsS40.ge HI134.out)) | exact HB.out)); rintro e w23 ⟨rfl, hi, hb, hk⟩; have n0_ := Aside0.mk (hb); have n1_ := Aside0.mk (hi); clear HB; clear HI134; have HB := n0_; have HI134 := n1_; clear n0_ n1_; (try clear hb); (try clear hb2); (try clear hk); (try clear hi)))
              go_ret
              exact ⟨by first | rfl | (simp [errW_none, errW_some] <;> rfl) | (simp [*, errW_none, errW_some] <;> rfl), by repeat (first | (with_reducible first | exact HB.out | apply below_alloc | apply pw_below_drewN | apply below_drew1 | refine below_set ?_ (IsS40.ge HI134.out)) | exact HB.out)⟩
          · rw [if_neg c9] at H
            have c9b0 : (t150 == 0) = false := beq_eq_false_iff_ne.mpr c9
            have c9b1 : (t150 != 0) = true := bne_iff_ne.mpr c9
            obtain rfl := Option.some.inj H
            go_enter Try.func7, Try.ntmps7
            go_wp2_with (first | ((with_reducible refine gate_callee (f := 8) rfl ?_); refine goesL_ (some 7) rfl rfl Try.func8 (by kernel_rfl) rfl #[.agg #[.int .i64 4, .int .i64 2, .int .i64 1, .int .i64 9]] rfl (by (try simp only [List.map_toArray, List.map_cons, List.map_nil]); first | done | rfl | (simp only [List.length_drop, List.length_take]; rfl)) ?_; (with_reducible refine (front_New.calls 4 2 1 9 t128 t129 t130 t131 t132 t133 w _ ?side1 A1.out).mono ?_); (case side1 => repeat (first | (with_reducible first | exact HB.out | apply below_alloc | apply pw_below_drewN | apply below_drew1) | exact HB.out)); rintro e w24 ⟨g134, rfl, hi, hb, hb2⟩; refine ⟨_, rfl, ?_⟩; have n0_ := Aside0.mk (hb); have n1_ := Aside0.mk (hi); clear HB; have HB := n0_; have HI134 := n1_; clear n0_ n1_; (try clear hb); (try clear hb2); (try clear hk); (try clear hi)) | (go_at_call 14; (with_reducible refine (front_Front_Block.calls g134 t128 t129 t130 t131 t132 t133 t135 t136 t137 t138 t139 t140 t141 w _ ?side1 ?side2 A2.out).mono ?_); (case side1 => repeat (first | (with_reducible first | exact HI134.out | apply IsS40.alloc | apply IsS40.drewN | apply IsS40.drew | apply IsS40.set_0 | apply IsS40.set_1 | apply IsS40.set_2 | apply IsS40.set_3 | apply IsS40.set_4 | apply IsS40.set_5) | exact HI134.out)); (case side2 => repeat (first | (with_reducible first | exact HB.out | apply below_alloc | apply pw_below_drewN | apply below_drew1 | refine below_set ?_ (IsS40.ge HI134.out)) | exact HB.out)); rintro e w25 ⟨rfl, hi, hb, hk⟩; have n0_ := Aside0.mk (hb); have n1_ := Aside0.mk (hi); clear HB; clear HI134; have HB := n0_; have HI134 := n1_; clear n0_ n1_; (try clear hb); (try clear hb2); (try clear hk); (try clear hi)) | ((with_reducible refine gate_callee (f := 10) rfl ?_); refine goesL_ (some 16) rfl rfl Try.func10 (by kernel_rfl) rfl #[.pointer (some ⟨g134, 0, none⟩), .int .i64 2, .int .i64 0] rfl (by (try simp only [List.map_toArray, List.map_cons, List.map_nil]); first | done | rfl | (simp only [List.length_drop, List.length_take]; rfl)) ?_; (with_reducible refine (front_Front_Open.calls g134 t136 t137 t138 t139 t140 t141 2 0 true t143 t144 t145 t146 t147 t148 w _ ?side1 ?side2 A4.out).mono ?_); (case side1 => repeat (first | (with_reducible first | exact HI134.out | apply IsS40.alloc | apply IsS40.drewN | apply IsS40.drew | apply IsS40.set_0 | apply IsS40.set_1 | apply IsS40.set_2 | apply IsS40.set_3 | apply IsS40.set_4 | apply IsS40.set_5) | exact HI134.out)); (case side2 => repeat (first | (with_reducible first | exact HB.out | apply below_alloc | apply pw_below_drewN | apply below_drew1 | refine below_set ?_ (IsS40.ge HI134.out)) | exact HB.out)); rintro e w26 ⟨rfl, hi, hb, hk⟩; refine ⟨_, rfl, ?_⟩; have n0_ := Aside0.mk (hb); have n1_ := Aside0.mk (hi); clear HB; clear HI134; have HB := n0_; have HI134 := n1_; clear n0_ n1_; (try clear hb); (try clear hb2); (try clear hk); (try clear hi)) | ((with_reducible refine gate_callee (f := 12) rfl ?_); refine goesL_ (some 19) rfl rfl Try.func12 (by kernel_rfl) rfl #[.pointer (some ⟨g134, 0, none⟩)] rfl (by (try simp only [List.map_toArray, List.map_cons, List.map_nil]); first | done | rfl | (simp only [List.length_drop, List.length_take]; rfl)) ?_; (with_reducible refine (front_Front_Take.calls g134 t143 t144 t145 t146 t147 t148 t149 t150 true t152 t153 t154 t155 t156 t157 w _ ?side1 ?side2 A5.out).mono ?_); (case side1 => repeat (first | (with_reducible first | exact HI134.out | apply IsS40.alloc | apply IsS40.drewN | apply IsS40.drew | apply IsS40.set_0 | apply IsS40.set_1 | apply IsS40.set_2 | apply IsS40.set_3 | apply IsS40.set_4 | apply IsS40.set_5) | exact HI134.out)); (case side2 => repeat (first | (with_reducible first | exact HB.out | apply below_alloc | apply pw_below_drewN | apply below_drew1 | refine below_set ?_ (IsS40.ge HI134.out)) | exact HB.out)); rintro e w27 ⟨rfl, hi, hb, hk⟩; refine ⟨_, rfl, ?_⟩; have n0_ := Aside0.mk (hb); have n1_ := Aside0.mk (hi); clear HB; clear HI134; have HB := n0_; have HI134 := n1_; clear n0_ n1_; (try clear hb); (try clear hb2); (try clear hk); (try clear hi)))
            go_ret
            exact ⟨by first | rfl | (simp [errW_none, errW_some] <;> rfl) | (simp [*, errW_none, errW_some] <;> rfl), by repeat (first | (with_reducible first | exact HB.out | apply below_alloc | apply pw_below_drewN | apply below_drew1 | refine below_set ?_ (IsS40.ge HI134.out)) | exact HB.out)⟩
        · rw [if_neg c8] at H
          have c8b0 : (t149 == 2) = false := beq_eq_false_iff_ne.mpr c8
          have c8b1 : (t149 != 2) = true := bne_iff_ne.mpr c8
          obtain rfl := Option.some.inj H
          go_enter Try.func7, Try.ntmps7
          go_wp2_with (first | ((with_reducible refine gate_callee (f := 8) rfl ?_); refine goesL_ (some 7) rfl rfl Try.func8 (by kernel_rfl) rfl #[.agg #[.int .i64 4, .int .i64 2, .int .i64 1, .int .i64 9]] rfl (by (try simp only [List.map_toArray, List.map_cons, List.map_nil]); first | done | rfl | (simp only [List.length_drop, List.length_take]; rfl)) ?_; (with_reducible refine (front_New.calls 4 2 1 9 t128 t129 t130 t131 t132 t133 w _ ?side1 A1.out).mono ?_); (case side1 => repeat (first | (with_reducible first | exact HB.out | apply below_alloc | apply pw_below_drewN | apply below_drew1) | exact HB.out)); rintro e w28 ⟨g134, rfl, hi, hb, hb2⟩; refine ⟨_, rfl, ?_⟩; have n0_ := Aside0.mk (hb); have n1_ := Aside0.mk (hi); clear HB; have HB := n0_; have HI134 := n1_; clear n0_ n1_; (try clear hb); (try clear hb2); (try clear hk); (try clear hi)) | (go_at_call 14; (with_reducible refine (front_Front_Block.calls g134 t128 t129 t130 t131 t132 t133 t135 t136 t137 t138 t139 t140 t141 w _ ?side1 ?side2 A2.out).mono ?_); (case side1 => repeat (first | (with_reducible first | exact HI134.out | apply IsS40.alloc | apply IsS40.drewN | apply IsS40.drew | apply IsS40.set_0 | apply IsS40.set_1 | apply IsS40.set_2 | apply IsS40.set_3 | apply IsS40.set_4 | apply IsS40.set_5) | exact HI134.out)); (case side2 => repeat (first | (with_reducible first | exact HB.out | apply below_alloc | apply pw_below_drewN | apply below_drew1 | refine below_set ?_ (IsS40.ge HI134.out)) | exact HB.out)); rintro e w29 ⟨rfl, hi, hb, hk⟩; have n0_ := Aside0.mk (hb); have n1_ := Aside0.mk (hi); clear HB; clear HI134; have HB := n0_; have HI134 := n1_; clear n0_ n1_; (try clear hb); (try clear hb2); (try clear hk); (try clear hi)) | ((with_reducible refine gate_callee (f := 10) rfl ?_); refine goesL_ (some 16) rfl rfl Try.func10 (by kernel_rfl) rfl #[.pointer (some ⟨g134, 0, none⟩), .int .i64 2, .int .i64 0] rfl (by (try simp only [List.map_toArray, List.map_cons, List.map_nil]); first | done | rfl | (simp only [List.length_drop, List.length_take]; rfl)) ?_; (with_reducible refine (front_Front_Open.calls g134 t136 t137 t138 t139 t140 t141 2 0 true t143 t144 t145 t146 t147 t148 w _ ?side1 ?side2 A4.out).mono ?_); (case side1 => repeat (first | (with_reducible first | exact HI134.out | apply IsS40.alloc | apply IsS40.drewN | apply IsS40.drew | apply IsS40.set_0 | apply IsS40.set_1 | apply IsS40.set_2 | apply IsS40.set_3 | apply IsS40.set_4 | apply IsS40.set_5) | exact HI134.out)); (case side2 => repeat (first | (with_reducible first | exact HB.out | apply below_alloc | apply pw_below_drewN | apply below_drew1 | refine below_set ?_ (IsS40.ge HI134.out)) | exact HB.out)); rintro e w30 ⟨rfl, hi, hb, hk⟩; refine ⟨_, rfl, ?_⟩; have n0_ := Aside0.mk (hb); have n1_ := Aside0.mk (hi); clear HB; clear HI134; have HB := n0_; have HI134 := n1_; clear n0_ n1_; (try clear hb); (try clear hb2); (try clear hk); (try clear hi)) | ((with_reducible refine gate_callee (f := 12) rfl ?_); refine goesL_ (some 19) rfl rfl Try.func12 (by kernel_rfl) rfl #[.pointer (some ⟨g134, 0, none⟩)] rfl (by (try simp only [List.map_toArray, List.map_cons, List.map_nil]); first | done | rfl | (simp only [List.length_drop, List.length_take]; rfl)) ?_; (with_reducible refine (front_Front_Take.calls g134 t143 t144 t145 t146 t147 t148 t149 t150 true t152 t153 t154 t155 t156 t157 w _ ?side1 ?side2 A5.out).mono ?_); (case side1 => repeat (first | (with_reducible first | exact HI134.out | apply IsS40.alloc | apply IsS40.drewN | apply IsS40.drew | apply IsS40.set_0 | apply IsS40.set_1 | apply IsS40.set_2 | apply IsS40.set_3 | apply IsS40.set_4 | apply IsS40.set_5) | exact HI134.out)); (case side2 => repeat (first | (with_reducible first | exact HB.out | apply below_alloc | apply pw_below_drewN | apply below_drew1 | refine below_set ?_ (IsS40.ge HI134.out)) | exact HB.out)); rintro e w31 ⟨rfl, hi, hb, hk⟩; refine ⟨_, rfl, ?_⟩; have n0_ := Aside0.mk (hb); have n1_ := Aside0.mk (hi); clear HB; clear HI134; have HB := n0_; have HI134 := n1_; clear n0_ n1_; (try clear hb); (try clear hb2); (try clear hk); (try clear hi)))
          go_ret
          exact ⟨by first | rfl | (simp [errW_none, errW_some] <;> rfl) | (simp [*, errW_none, errW_some] <;> rfl), by repeat (first | (with_reducible first | exact HB.out | apply below_alloc | apply pw_below_drewN | apply below_drew1 | refine below_set ?_ (IsS40.ge HI134.out)) | exact HB.out)⟩
      · replace c7 := Bool.eq_false_iff.mpr c7
        subst c7
        have H1 : (some false) = some r := by rw [if_neg (show ¬ (false = true) by decide)] at H; exact H
        clear H
        have H := H1
        clear H1
        obtain rfl := Option.some.inj H
        go_enter Try.func7, Try.ntmps7
        go_wp2_with (first | ((with_reducible refine gate_callee (f := 8) rfl ?_); refine goesL_ (some 7) rfl rfl Try.func8 (by kernel_rfl) rfl #[.agg #[.int .i64 4, .int .i64 2, .int .i64 1, .int .i64 9]] rfl (by (try simp only [List.map_toArray, List.map_cons, List.map_nil]); first | done | rfl | (simp only [List.length_drop, List.length_take]; rfl)) ?_; (with_reducible refine (front_New.calls 4 2 1 9 t128 t129 t130 t131 t132 t133 w _ ?side1 A1.out).mono ?_); (case side1 => repeat (first | (with_reducible first | exact HB.out | apply below_alloc | apply pw_below_drewN | apply below_drew1) | exact HB.out)); rintro e w32 ⟨g134, rfl, hi, hb, hb2⟩; refine ⟨_, rfl, ?_⟩; have n0_ := Aside0.mk (hb); have n1_ := Aside0.mk (hi); clear HB; have HB := n0_; have HI134 := n1_; clear n0_ n1_; (try clear hb); (try clear hb2); (try clear hk); (try clear hi)) | (go_at_call 14; (with_reducible refine (front_Front_Block.calls g134 t128 t129 t130 t131 t132 t133 t135 t136 t137 t138 t139 t140 t141 w _ ?side1 ?side2 A2.out).mono ?_); (case side1 => repeat (first | (with_reducible first | exact HI134.out | apply IsS40.alloc | apply IsS40.drewN | apply IsS40.drew | apply IsS40.set_0 | apply IsS40.set_1 | apply IsS40.set_2 | apply IsS40.set_3 | apply IsS40.set_4 | apply IsS40.set_5) | exact HI134.out)); (case side2 => repeat (first | (with_reducible first | exact HB.out | apply below_alloc | apply pw_below_drewN | apply below_drew1 | refine below_set ?_ (IsS40.ge HI134.out)) | exact HB.out)); rintro e w33 ⟨rfl, hi, hb, hk⟩; have n0_ := Aside0.mk (hb); have n1_ := Aside0.mk (hi); clear HB; clear HI134; have HB := n0_; have HI134 := n1_; clear n0_ n1_; (try clear hb); (try clear hb2); (try clear hk); (try clear hi)) | ((with_reducible refine gate_callee (f := 10) rfl ?_); refine goesL_ (some 16) rfl rfl Try.func10 (by kernel_rfl) rfl #[.pointer (some ⟨g134, 0, none⟩), .int .i64 2, .int .i64 0] rfl (by (try simp only [List.map_toArray, List.map_cons, List.map_nil]); first | done | rfl | (simp only [List.length_drop, List.length_take]; rfl)) ?_; (with_reducible refine (front_Front_Open.calls g134 t136 t137 t138 t139 t140 t141 2 0 true t143 t144 t145 t146 t147 t148 w _ ?side1 ?side2 A4.out).mono ?_); (case side1 => repeat (first | (with_reducible first | exact HI134.out | apply IsS40.alloc | apply IsS40.drewN | apply IsS40.drew | apply IsS40.set_0 | apply IsS40.set_1 | apply IsS40.set_2 | apply IsS40.set_3 | apply IsS40.set_4 | apply IsS40.set_5) | exact HI134.out)); (case side2 => repeat (first | (with_reducible first | exact HB.out | apply below_alloc | apply pw_below_drewN | apply below_drew1 | refine below_set ?_ (IsS40.ge HI134.out)) | exact HB.out)); rintro e w34 ⟨rfl, hi, hb, hk⟩; refine ⟨_, rfl, ?_⟩; have n0_ := Aside0.mk (hb); have n1_ := Aside0.mk (hi); clear HB; clear HI134; have HB := n0_; have HI134 := n1_; clear n0_ n1_; (try clear hb); (try clear hb2); (try clear hk); (try clear hi)) | ((with_reducible refine gate_callee (f := 12) rfl ?_); refine goesL_ (some 19) rfl rfl Try.func12 (by kernel_rfl) rfl #[.pointer (some ⟨g134, 0, none⟩)] rfl (by (try simp only [List.map_toArray, List.map_cons, List.map_nil]); first | done | rfl | (simp only [List.length_drop, List.length_take]; rfl)) ?_; (with_reducible refine (front_Front_Take.calls g134 t143 t144 t145 t146 t147 t148 t149 t150 false t152 t153 t154 t155 t156 t157 w _ ?side1 ?side2 A5.out).mono ?_); (case side1 => repeat (first | (with_reducible first | exact HI134.out | apply IsS40.alloc | apply IsS40.drewN | apply IsS40.drew | apply IsS40.set_0 | apply IsS40.set_1 | apply IsS40.set_2 | apply IsS40.set_3 | apply IsS40.set_4 | apply IsS40.set_5) | exact HI134.out)); (case side2 => repeat (first | (with_reducible first | exact HB.out | apply below_alloc | apply pw_below_drewN | apply below_drew1 | refine below_set ?_ (IsS40.ge HI134.out)) | exact HB.out)); rintro e w35 ⟨rfl, hi, hb, hk⟩; refine ⟨_, rfl, ?_⟩; have n0_ := Aside0.mk (hb); have n1_ := Aside0.mk (hi); clear HB; clear HI134; have HB := n0_; have HI134 := n1_; clear n0_ n1_; (try clear hb); (try clear hb2); (try clear hk); (try clear hi)))
        go_ret
        exact ⟨by first | rfl | (simp [errW_none, errW_some] <;> rfl) | (simp [*, errW_none, errW_some] <;> rfl), by repeat (first | (with_reducible first | exact HB.out | apply below_alloc | apply pw_below_drewN | apply below_drew1 | refine below_set ?_ (IsS40.ge HI134.out)) | exact HB.out)⟩
    · replace c6 := Bool.eq_false_iff.mpr c6
      subst c6
      have H1 : (some false) = some r := by rw [if_neg (show ¬ (false = true) by decide)] at H; exact H
      clear H
      have H := H1
      clear H1
      obtain rfl := Option.some.inj H
      go_enter Try.func7, Try.ntmps7
      go_wp2_with (first | ((with_reducible refine gate_callee (f := 8) rfl ?_); refine goesL_ (some 7) rfl rfl Try.func8 (by kernel_rfl) rfl #[.agg #[.int .i64 4, .int .i64 2, .int .i64 1, .int .i64 9]] rfl (by (try simp only [List.map_toArray, List.map_cons, List.map_nil]); first | done | rfl | (simp only [List.length_drop, List.length_take]; rfl)) ?_; (with_reducible refine (front_New.calls 4 2 1 9 t128 t129 t130 t131 t132 t133 w _ ?side1 A1.out).mono ?_); (case side1 => repeat (first | (with_reducible first | exact HB.out | apply below_alloc | apply pw_below_drewN | apply below_drew1) | exact HB.out)); rintro e w36 ⟨g134, rfl, hi, hb, hb2⟩; refine ⟨_, rfl, ?_⟩; have n0_ := Aside0.mk (hb); have n1_ := Aside0.mk (hi); clear HB; have HB := n0_; have HI134 := n1_; clear n0_ n1_; (try clear hb); (try clear hb2); (try clear hk); (try clear hi)) | (go_at_call 14; (with_reducible refine (front_Front_Block.calls g134 t128 t129 t130 t131 t132 t133 t135 t136 t137 t138 t139 t140 t141 w _ ?side1 ?side2 A2.out).mono ?_); (case side1 => repeat (first | (with_reducible first | exact HI134.out | apply IsS40.alloc | apply IsS40.drewN | apply IsS40.drew | apply IsS40.set_0 | apply IsS40.set_1 | apply IsS40.set_2 | apply IsS40.set_3 | apply IsS40.set_4 | apply IsS40.set_5) | exact HI134.out)); (case side2 => repeat (first | (with_reducible first | exact HB.out | apply below_alloc | apply pw_below_drewN | apply below_drew1 | refine below_set ?_ (IsS40.ge HI134.out)) | exact HB.out)); rintro e w37 ⟨rfl, hi, hb, hk⟩; have n0_ := Aside0.mk (hb); have n1_ := Aside0.mk (hi); clear HB; clear HI134; have HB := n0_; have HI134 := n1_; clear n0_ n1_; (try clear hb); (try clear hb2); (try clear hk); (try clear hi)) | ((with_reducible refine gate_callee (f := 10) rfl ?_); refine goesL_ (some 16) rfl rfl Try.func10 (by kernel_rfl) rfl #[.pointer (some ⟨g134, 0, none⟩), .int .i64 2, .int .i64 0] rfl (by (try simp only [List.map_toArray, List.map_cons, List.map_nil]); first | done | rfl | (simp only [List.length_drop, List.length_take]; rfl)) ?_; (with_reducible refine (front_Front_Open.calls g134 t136 t137 t138 t139 t140 t141 2 0 false t143 t144 t145 t146 t147 t148 w _ ?side1 ?side2 A4.out).mono ?_); (case side1 => repeat (first | (with_reducible first | exact HI134.out | apply IsS40.alloc | apply IsS40.drewN | apply IsS40.drew | apply IsS40.set_0 | apply IsS40.set_1 | apply IsS40.set_2 | apply IsS40.set_3 | apply IsS40.set_4 | apply IsS40.set_5) | exact HI134.out)); (case side2 => repeat (first | (with_reducible first | exact HB.out | apply below_alloc | apply pw_below_drewN | apply below_drew1 | refine below_set ?_ (IsS40.ge HI134.out)) | exact HB.out)); rintro e w38 ⟨rfl, hi, hb, hk⟩; refine ⟨_, rfl, ?_⟩; have n0_ := Aside0.mk (hb); have n1_ := Aside0.mk (hi); clear HB; clear HI134; have HB := n0_; have HI134 := n1_; clear n0_ n1_; (try clear hb); (try clear hb2); (try clear hk); (try clear hi)) | ((with_reducible refine gate_callee (f := 12) rfl ?_); refine goesL_ (some 19) rfl rfl Try.func12 (by kernel_rfl) rfl #[.pointer (some ⟨g134, 0, none⟩)] rfl (by (try simp only [List.map_toArray, List.map_cons, List.map_nil]); first | done | rfl | (simp only [List.length_drop, List.length_take]; rfl)) ?_; (with_reducible refine (front_Front_Take.calls g134 t143 t144 t145 t146 t147 t148 t149 t150 t151 t152 t153 t154 t155 t156 t157 w _ ?side1 ?side2 A5.out).mono ?_); (case side1 => repeat (first | (with_reducible first | exact HI134.out | apply IsS40.alloc | apply IsS40.drewN | apply IsS40.drew | apply IsS40.set_0 | apply IsS40.set_1 | apply IsS40.set_2 | apply IsS40.set_3 | apply IsS40.set_4 | apply IsS40.set_5) | exact HI134.out)); (case side2 => repeat (first | (with_reducible first | exact HB.out | apply below_alloc | apply pw_below_drewN | apply below_drew1 | refine below_set ?_ (IsS40.ge HI134.out)) | exact HB.out)); rintro e w39 ⟨rfl, hi, hb, hk⟩; refine ⟨_, rfl, ?_⟩; have n0_ := Aside0.mk (hb); have n1_ := Aside0.mk (hi); clear HB; clear HI134; have HB := n0_; have HI134 := n1_; clear n0_ n1_; (try clear hb); (try clear hb2); (try clear hk); (try clear hi)))
      go_ret
      exact ⟨by first | rfl | (simp [errW_none, errW_some] <;> rfl) | (simp [*, errW_none, errW_some] <;> rfl), by repeat (first | (with_reducible first | exact HB.out | apply below_alloc | apply pw_below_drewN | apply below_drew1 | refine below_set ?_ (IsS40.ge HI134.out)) | exact HB.out)⟩
  · rw [if_neg c3] at H
    have c3b0 : (t135 == (-1)) = false := beq_eq_false_iff_ne.mpr c3
    have c3b1 : (t135 != (-1)) = true := bne_iff_ne.mpr c3
    obtain rfl := Option.some.inj H
    go_enter Try.func7, Try.ntmps7
    go_wp2_with (first | ((with_reducible refine gate_callee (f := 8) rfl ?_); refine goesL_ (some 7) rfl rfl Try.func8 (by kernel_rfl) rfl #[.agg #[.int .i64 4, .int .i64 2, .int .i64 1, .int .i64 9]] rfl (by (try simp only [List.map_toArray, List.map_cons, List.map_nil]); first | done | rfl | (simp only [List.length_drop, List.length_take]; rfl)) ?_; (with_reducible refine (front_New.calls 4 2 1 9 t128 t129 t130 t131 t132 t133 w _ ?side1 A1.out).mono ?_); (case side1 => repeat (first | (with_reducible first | exact HB.out | apply below_alloc | apply pw_below_drewN | apply below_drew1) | exact HB.out)); rintro e w40 ⟨g134, rfl, hi, hb, hb2⟩; refine ⟨_, rfl, ?_⟩; have n0_ := Aside0.mk (hb); have n1_ := Aside0.mk (hi); clear HB; have HB := n0_; have HI134 := n1_; clear n0_ n1_; (try clear hb); (try clear hb2); (try clear hk); (try clear hi)) | (go_at_call 14; (with_reducible refine (front_Front_Block.calls g134 t128 t129 t130 t131 t132 t133 t135 t136 t137 t138 t139 t140 t141 w _ ?side1 ?side2 A2.out).mono ?_); (case side1 => repeat (first | (with_reducible first | exact HI134.out | apply IsS40.alloc | apply IsS40.drewN | apply IsS40.drew | apply IsS40.set_0 | apply IsS40.set_1 | apply IsS40.set_2 | apply IsS40.set_3 | apply IsS40.set_4 | apply IsS40.set_5) | exact HI134.out)); (case side2 => repeat (first | (with_reducible first | exact HB.out | apply below_alloc | apply pw_below_drewN | apply below_drew1 | refine below_set ?_ (IsS40.ge HI134.out)) | exact HB.out)); rintro e w41 ⟨rfl, hi, hb, hk⟩; have n0_ := Aside0.mk (hb); have n1_ := Aside0.mk (hi); clear HB; clear HI134; have HB := n0_; have HI134 := n1_; clear n0_ n1_; (try clear hb); (try clear hb2); (try clear hk); (try clear hi)))
    go_ret
    exact ⟨by first | rfl | (simp [errW_none, errW_some] <;> rfl) | (simp [*, errW_none, errW_some] <;> rfl), by repeat (first | (with_reducible first | exact HB.out | apply below_alloc | apply pw_below_drewN | apply below_drew1 | refine below_set ?_ (IsS40.ge HI134.out)) | exact HB.out)⟩

end Go.Proofs.Ytobdkncdjofihaa.M
