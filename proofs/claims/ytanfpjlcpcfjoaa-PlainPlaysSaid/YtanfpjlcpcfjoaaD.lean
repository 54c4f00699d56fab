/- Plain: the contracts of Read, Write, Trim; by hand. -/
import Derived.Test.YtanfpjlcpcfjoaaC
namespace Go.Proofs.Ytanfpjlcpcfjoaa.M
open Go.RowKit Go.Proofs.YtanfpjlcpcfjoaaW.PrintWords Go.Proofs.YtanfpjlcpcfjoaaW.PrintLast Go.Proofs.YtanfpjlcpcfjoaaW.PrintMore Go.Proofs.Ytanfpjlcpcfjoaa.Rw
set_option linter.unusedVariables false
set_option linter.unusedSimpArgs false
/-- clear of a row of bytes of one's own -/
theorem clear_bytes {W : World} {base : Nat} {ok : Nat → Prop} {u : Value} {r : List Int} (h : Kd.R (Kd.int .u8) 5 W base ok u r) (ty : TypeId) :
    ∃ W1, (Builtin.clear_ #[31] ty #[u]).run Try.prog W = .ok (.tuple #[]) W1 ∧ Kd.R (Kd.int .u8) 5 W1 base ok u (List.replicate r.length 0) ∧ W.grownBy W1 u.ownBlock := by
  obtain ⟨A, c, hu⟩ := Kd.R_slice h
  by_cases h0 : r.length = 0
  · have hr : r = [] := List.eq_nil_of_length_eq_zero h0
    subst hr
    refine ⟨W, ?_, h, World.grownBy.refl W _⟩
    rw [hu]
    cases A <;> simp [Builtin.clear_, run_underlying Try.underlying31]
  · have hp : 0 < r.length := by omega
    have ho := Kd.own_of_R h
    rcases ho.2 with ⟨_, hz⟩ | ⟨q, cap, cur, hv, hb, hh, hnc, hcm, hcs, ht⟩
    · omega
    · have hcs' : cur.size = cap := by rw [hcs, Nat.mul_one]
      have hrun := Lib.run_clear_slice (P := Try.prog) W 31 5 ty (.int .u8 0) Try.underlying31 (fun w => by kernel_rfl) rfl rfl q 0 r.length cap hp
        (fun j hj => by rw [Nat.zero_add, blk_cell hh j]; simp; omega) (fun j hj => blk_frozen hh _)
      refine ⟨_, by rw [hv]; exact hrun, ?_, ?_⟩
      · obtain ⟨cur', h1, h2, h3⟩ := setCells_row (List.replicate r.length (Value.int .u8 0)) 0 W cur hh (by simp; omega)
        refine Kd.R_of_own ⟨by simp [encs], .inr ⟨q, cap, cur', by rw [hv]; simp, hb, h1, by simpa using hnc, hcm, by rw [h2, hcs', Nat.mul_one], ?_⟩⟩ h.1
        rw [h3]
        simp [encs]
      · obtain ⟨s1, s2, s3, s4⟩ := setCells_same q (List.replicate r.length (Value.int .u8 0)) 0 W
        refine ⟨s1, s2, s3, Nat.le_of_eq s4.symm, fun k _ hk => setCells_far _ _ k (fun e => hk (by rw [hv, e]; rfl))⟩
theorem whyP_no {m : Nat} {a : Int} {ok : Bool} (h : ¬ (0 ≤ a ∧ a < (m : Int)) ∨ ok = false) : ∃ r, whyP m a ok = r ∧ (r != 0) = true ∧ (r = 2 ∨ r = 3) := by
  unfold whyP
  by_cases h1 : a < 0 ∨ (m : Int) ≤ a
  · exact ⟨2, if_pos h1, rfl, .inl rfl⟩
  · rcases h with h | h
    · omega
    · subst h; exact ⟨3, by rw [if_neg h1]; rfl, rfl, .inr rfl⟩
theorem whyP_yes {m i : Nat} (h : i < m) : whyP m (i : Int) true = 0 := by unfold whyP; rw [if_neg (by omega)]; rfl
section
variable {w : World} {lo hi g n : Nat} {L : Ln}
set_option maxHeartbeats 1600000 in
theorem readC (hI : IsP w lo hi g L n) (i : Nat) (il : i < L.length) : Calls Try.prog 11 #[.pointer (some ⟨g, 0, none⟩), .int .i64 (i : Int)] w fun e w' => ∃ v, e = .returned (.tuple #[v, .int .i64 0]) ∧ Aside0 (Kd.R (Kd.int .u8) 5 w' w.heap.size (fun _ => True) v (L.getD i [])) ∧ Aside0 (Below w.heap.size w w') := by
  obtain ⟨v, vs, h⟩ := hI
  obtain ⟨qo, c, u, hv, hcl, hc0, hu, hcu, hR⟩ := h.elem il
  obtain ⟨A, cu, eu⟩ := Kd.R_slice hR
  subst eu
  have hrl : (L.getD i []).length = n := h.rl _ (mem_getD _ il)
  have hnl := h.nl
  have HC := Aside0.mk (Kd.R_reads' hR).2.2
  have hcu2 := (Kd.R_reads' hR).2.1
  have il' : (i : Int) < (L.length : Int) := by omega
  have HW := Aside0.mk (whyP_yes il)
  generalize L.getD i [] = r at *
  have HRl := Aside0.mk hrl
  have hrl2 : r.length ≤ 16777216 := by omega
  clear h hu hR hv hrl
  go_enter Try.func11, Try.ntmps11
  go_wp2_with (first
    | (go_at_call 17; (refine (mayC hc0 _ _).mono ?_); rintro e w2 ⟨rfl, rfl⟩; rw [HW.out])
    | (go_at_call 18; (refine (cloneC A cu r w HC.out hcu2 hrl2).mono ?_); rintro e w3 ⟨v3, rfl, HV, HB⟩))
  go_ret2
  exact ⟨_, rfl, HV, HB⟩
set_option maxHeartbeats 1600000 in
theorem readNo (hI : IsP w lo hi g L n) (a : Int) (ha : ¬ (0 ≤ a ∧ a < (L.length : Int))) : Calls Try.prog 11 #[.pointer (some ⟨g, 0, none⟩), .int .i64 a] w fun e w' => e = .returned (.tuple #[.slice none 0 0, .int .i64 2]) ∧ w = w' := by
  obtain ⟨v, vs, h⟩ := hI
  obtain ⟨A, c, hv, hc0, hc1⟩ := h.head
  have HW : Aside0 (whyP L.length a true = 2) := ⟨by unfold whyP; exact if_pos (by omega)⟩
  clear h hv ha
  go_enter Try.func11, Try.ntmps11
  go_wp2_with (go_at_call 17; (refine (mayC hc0 _ _).mono ?_); rintro e w2 ⟨rfl, rfl⟩; rw [HW.out])
  go_ret2
  exact ⟨rfl, rfl⟩
set_option maxHeartbeats 1600000 in
theorem writeC (hI : IsP w lo hi g L n) (i : Nat) (il : i < L.length) (A : Option Addr) (c : Nat) (xs : List Int) (hC : Kd.C (Kd.int .u8) w A xs.length xs) (hc : xs.length ≤ c) (hx : xs.length = n) :
    Calls Try.prog 10 #[.pointer (some ⟨g, 0, none⟩), .int .i64 (i : Int), .slice A xs.length c] w fun e w' => e = .returned (.int .i64 0) ∧ Aside0 (IsP w' lo hi g (L.set i xs) n) ∧ Aside0 (Out w w' lo hi) := by
  obtain ⟨v, vs, h⟩ := hI
  obtain ⟨A0, c0, hv0, hc00, hc1⟩ := h.head
  obtain ⟨qo, co, u, hv, hcl, hc0, hu, hcu, hR⟩ := h.elem il
  have hlo : lo ≤ w.heap.size := Nat.le_trans h.lg (Nat.le_trans (Nat.le_of_lt h.gh) h.hs)
  have hub : ∀ k, u.ownBlock = some k → lo ≤ k ∧ k < hi := fun k hk => ⟨(hR.1 k hk).1, (hR.1 k hk).2.1⟩
  have hrl : (L.getD i []).length = n := h.rl _ (mem_getD _ il)
  have HPut := Aside0.mk (fun (W1 : World) (hg : w.grownBy W1 u.ownBlock) (hR1 : Kd.R (Kd.int .u8) 5 W1 lo (okR lo hi g v) u xs) => IsPd.put h hu il hx hg hR1)
  have HC := Aside0.mk hC
  have HR := Aside0.mk hR
  have il' : (i : Int) < (L.length : Int) := by omega
  have HW := Aside0.mk (whyP_yes il)
  have HU := Aside0.mk hub
  generalize L.getD i [] = r at *
  have HRl := Aside0.mk hrl
  obtain rfl : n = xs.length := hx.symm
  clear h hu hR hv hrl hC hub hc00 hx
  go_enter Try.func10, Try.ntmps10
  go_wp2_with (first
    | (go_at_call 17; (refine (mayC hc0 _ _).mono ?_); rintro e w2 ⟨rfl, rfl⟩; rw [HW.out])
    | ((with_reducible refine gate_builtin (b := .copy) (xs := #[.tmp 31, .tmp 32]) rfl ?_); refine Kd.R_copy (0 : Int) (w0 := w) lo rfl (.tmp 31) (.tmp 32) 31 31 5 rfl Try.underlying31 (by kernel_rfl) u r xs A xs.length c (okR lo hi g v) rfl rfl HR.out HC.out (Below.refl _ _) hlo ?_; intro w3 ho hb hg; rw [HRl.out, Nat.min_self, List.take_length, List.drop_of_length_le (Nat.le_of_eq HRl.out), List.append_nil] at ho; have HP := Aside0.mk (HPut.out w3 hg ho); have HO := Aside0.mk (Out.of_grown (lo := lo) (hi := hi) hg hlo HU.out); clear ho hb hg))
  go_ret
  exact ⟨rfl, ⟨⟨_, _, HP.out⟩⟩, HO⟩
theorem clear_event {P : Program} {ops : Array Oper} {rest : List Oper} {o : Oper} {a : Act} {Q : Exit → Act → World → Prop} {W W1 : World} {u : Value} {t : TypeId} (hgd : o.guard = none) (s : Operand)
    (ho : o.op = .call { callee := .builtin .clear, args := #[s], argTypes := #[t] }) (hs : a.eval s = u) (hrun : (Builtin.clear_ #[t] o.type #[u]).run P W = .ok (.tuple #[]) W1)
    (h : wpList P ops Q rest (a.put o.dst (.tuple #[])) W1) : wpList P ops Q (o :: rest) a W := by
  refine wpList_plain hgd fun K hK => ?_
  unfold Oper.wp execOp
  simp only [ho, resolve, invoke, builtin, Sem.run_bind, Sem.run_pure, Result.andThen_ok, List.map_toArray, List.map_cons, List.map_nil, hs, hrun]
  exact hK _ _ h
set_option maxHeartbeats 1600000 in
theorem writeNo (hI : IsP w lo hi g L n) (a : Int) (A : Option Addr) (c m : Nat) (ha : ¬ (0 ≤ a ∧ a < (L.length : Int)) ∨ m ≠ n) (hm : m ≤ 9223372036854775807) :
    Calls Try.prog 10 #[.pointer (some ⟨g, 0, none⟩), .int .i64 a, .slice A m c] w fun e w' => e = .returned (.int .i64 (whyP L.length a ((m : Int) == (n : Int)))) ∧ w = w' := by
  obtain ⟨v, vs, h⟩ := hI
  obtain ⟨A0, c0, hv0, hc0, hc1⟩ := h.head
  obtain ⟨b, hb⟩ : ∃ b : Bool, ((m : Int) == (n : Int)) = b := ⟨_, rfl⟩
  have hno : ¬ (0 ≤ a ∧ a < (L.length : Int)) ∨ b = false := ha.imp id (fun q => by rw [← hb]; exact beq_eq_false_iff_ne.2 (fun e => q (by omega)))
  obtain ⟨r, hr, hne, -⟩ := whyP_no hno
  have HW := Aside0.mk hr
  rw [hb, hr]
  have hbn : (m == n) = b := by rw [← hb, Bool.eq_iff_iff]; simp; omega
  have hbd : decide (m = n) = b := by rw [← hb, Bool.eq_iff_iff]; simp; omega
  clear h hv0 ha hno hr
  go_enter Try.func10, Try.ntmps10
  go_wp2_with (go_at_call 17; (refine (mayC hc0 _ _).mono ?_); rintro e w2 ⟨rfl, rfl⟩; rw [HW.out])
  go_ret
  exact ⟨rfl, rfl⟩
set_option maxHeartbeats 1600000 in
theorem trimC (hI : IsP w lo hi g L n) (i : Nat) (il : i < L.length) :
    Calls Try.prog 9 #[.pointer (some ⟨g, 0, none⟩), .int .i64 (i : Int)] w fun e w' => e = .returned (.int .i64 0) ∧ Aside0 (IsP w' lo hi g (L.set i (List.replicate n 0)) n) ∧ Aside0 (Out w w' lo hi) := by
  obtain ⟨v, vs, h⟩ := hI
  obtain ⟨qo, co, u, hv, hcl, hc0, hu, hcu, hR⟩ := h.elem il
  have hlo : lo ≤ w.heap.size := Nat.le_trans h.lg (Nat.le_trans (Nat.le_of_lt h.gh) h.hs)
  have hub : ∀ k, u.ownBlock = some k → lo ≤ k ∧ k < hi := fun k hk => ⟨(hR.1 k hk).1, (hR.1 k hk).2.1⟩
  have hrl : (L.getD i []).length = n := h.rl _ (mem_getD _ il)
  obtain ⟨W1, hrun, hR1, hg1⟩ := clear_bytes hR 0
  rw [hrl] at hR1
  have HP := Aside0.mk (⟨v, vs, IsPd.put h hu il (by simp) hg1 hR1⟩ : IsP W1 lo hi g (L.set i (List.replicate n 0)) n)
  have HO := Aside0.mk (Out.of_grown (lo := lo) (hi := hi) hg1 hlo hub)
  have HRun := Aside0.mk hrun
  have il' : (i : Int) < (L.length : Int) := by omega
  have HW := Aside0.mk (whyP_yes il)
  clear h hu hR hv hrl hub hrun hR1 hg1
  go_enter Try.func9, Try.ntmps9
  go_wp2_with (first
    | (go_at_call 17; (refine (mayC hc0 _ _).mono ?_); rintro e w2 ⟨rfl, rfl⟩; rw [HW.out])
    | ((with_reducible refine gate_builtin (b := .clear) (xs := #[.tmp 18]) rfl ?_); refine clear_event (u := u) rfl (.tmp 18) rfl rfl HRun.out ?_))
  go_ret
  exact ⟨rfl, HP, HO⟩
set_option maxHeartbeats 1600000 in
theorem trimNo (hI : IsP w lo hi g L n) (a : Int) (ha : ¬ (0 ≤ a ∧ a < (L.length : Int))) : Calls Try.prog 9 #[.pointer (some ⟨g, 0, none⟩), .int .i64 a] w fun e w' => e = .returned (.int .i64 2) ∧ w = w' := by
  obtain ⟨v, vs, h⟩ := hI
  obtain ⟨A, c, hv, hc0, hc1⟩ := h.head
  have HW : Aside0 (whyP L.length a true = 2) := ⟨by unfold whyP; exact if_pos (by omega)⟩
  clear h hv ha
  go_enter Try.func9, Try.ntmps9
  go_wp2_with (go_at_call 17; (refine (mayC hc0 _ _).mono ?_); rintro e w2 ⟨rfl, rfl⟩; rw [HW.out])
  go_ret
  exact ⟨rfl, rfl⟩
end
end Go.Proofs.Ytanfpjlcpcfjoaa.M
