/- Plain: the contracts of may, Clone, Read, Write, Trim; by hand. -/
import Derived.Test.YtanfpjlcpcfjoaaB
import Derived.Lib.SliceRun
namespace Go.Proofs.Ytanfpjlcpcfjoaa.M
open Go.RowKit Go.Proofs.YtanfpjlcpcfjoaaW.PrintWords Go.Proofs.YtanfpjlcpcfjoaaW.PrintLast Go.Proofs.YtanfpjlcpcfjoaaW.PrintMore Go.Proofs.Ytanfpjlcpcfjoaa.Rw
set_option linter.unusedVariables false
set_option linter.unusedSimpArgs false
theorem info5 : (Try.prog.info? 5).map (fun i => (i.zero, i.size, i.bytes)) = some (some (.int .u8 0), 1, 1) := by kernel_rfl
theorem empty_row {w : World} {b base : Nat} {ok : Nat → Prop} (h : w.heap[b]? = some (.cells #[] 5 (0, 0))) (hb : base ≤ b) (hok : ok b) : Kd.R (Kd.int .u8) 5 w base ok (.slice (some ⟨b, 0, none⟩) 0 0) [] := by
  refine Kd.R_of_own ⟨by simp [encs], .inr ⟨b, 0, #[], rfl, hb, h, Nat.le_refl _, Nat.zero_le _, rfl, rfl⟩⟩ (fun k hk => ?_)
  have : b = k := by simpa [Value.ownBlock] using hk
  subst this; exact hok
set_option maxHeartbeats 1600000 in
theorem cloneC (A : Option Addr) (c : Nat) (xs : List Int) (w : World) (hC : Kd.C (Kd.int .u8) w A xs.length xs) (hc : xs.length ≤ c) (hm : xs.length ≤ 16777216) :
    Calls Try.prog 18 #[.slice A xs.length c] w fun e w' => ∃ v, e = .returned v ∧ Aside0 (Kd.R (Kd.int .u8) 5 w' w.heap.size (fun _ => True) v xs) ∧ Aside0 (Below w.heap.size w w') := by
  have HC := Aside0.mk hC
  clear hC
  cases A with
  | none =>
    have h0 : xs = [] := by
      rcases xs with _ | ⟨x, xs⟩
      · rfl
      · obtain ⟨ad, h, _⟩ := HC.out.2.2 (by simp)
        cases h
    subst h0
    have hnil := fun (w : World) => Lib.run_eql_slice_nil (P := Try.prog) w 31 5 none 0 c 0 0 Try.underlying31
    go_enter Try.func18, Try.ntmps18
    go_wp2
    go_ret
    exact ⟨_, rfl, ⟨Kd.R_nil _ _ _ _ _⟩, ⟨Below.refl _ _⟩⟩
  | some ad =>
    obtain ⟨n, hn⟩ : ∃ n, xs.length = n := ⟨_, rfl⟩
    have HN := Aside0.mk hn
    rw [hn]
    rw [hn] at hm hc
    clear hn
    have hnil := fun (w : World) => Lib.run_eql_slice_nil (P := Try.prog) w 31 5 (some ad) n c 0 0 Try.underlying31
    go_enter Try.func18, Try.ntmps18
    go_wp2_with ((with_reducible refine gate_builtin (b := .append) (xs := #[.tmp 5, .tmp 6]) rfl ?_); at_builtin; refine Kd.R_append_rows (Kd.int .u8) (Rr := (Kd.int .u8).K (w.alloc (.cells #[] 5 (0, 0)))) (w0 := w) w.heap.size rfl (.tmp 5) (.tmp 6) 31 5 (.int .u8 0) 1 rfl Try.underlying31 info5 rfl (by decide) (by omega) (.slice (some ⟨w.heap.size, 0, none⟩) 0 0) [] xs (some ad) n c (fun _ => True) (fun _ => False) rfl rfl (empty_row (blk_new w _) (Nat.le_refl _) trivial) (by have h_ := Kd.C_alloc HC.out (.cells #[] 5 (0, 0)); rw [HN.out] at h_; exact h_) (fun _ _ h => h) (fun _ hk => hk.elim) (fun _ _ => trivial) (below_alloc (Below.refl _ _) _) (by simp) (by simp; omega) ?_; intro v1 w1 ho hb hg hat; rw [List.nil_append] at ho; have HO := Aside0.mk ho; have HB := Aside0.mk hb; clear ho hb hg hat)
    go_ret
    exact ⟨_, rfl, HO, HB⟩
def whyP (m : Nat) (a : Int) (ok : Bool) : Int := if a < 0 ∨ (m : Int) ≤ a then 2 else if ok then 0 else 3
set_option maxHeartbeats 1600000 in
theorem mayC {w : World} {g : Nat} {A : Option Addr} {m c : Nat} (hc : w.cell? ⟨g, 0, none⟩ = some (.slice A m c)) (a : Int) (ok : Bool) : Calls Try.prog 17 #[.pointer (some ⟨g, 0, none⟩), .int .i64 a, .bool ok] w fun e w' => e = .returned (.int .i64 (whyP m a ok)) ∧ w = w' := by
  by_cases h1 : a < 0
  · have HW : Aside0 (whyP m a ok = 2) := ⟨if_pos (.inl h1)⟩
    rw [HW.out]
    go_enter Try.func17, Try.ntmps17
    go_wp2
    go_ret
    exact ⟨rfl, rfl⟩
  · by_cases h2 : (m : Int) ≤ a
    · have HW : Aside0 (whyP m a ok = 2) := ⟨if_pos (.inr h2)⟩
      rw [HW.out]
      go_enter Try.func17, Try.ntmps17
      go_wp2
      go_ret
      exact ⟨rfl, rfl⟩
    · have hw : whyP m a ok = if ok then 0 else 3 := if_neg (by omega)
      cases ok with
      | true =>
        have HW : Aside0 (whyP m a true = 0) := ⟨hw⟩
        rw [HW.out]
        clear hw
        go_enter Try.func17, Try.ntmps17
        go_wp2
        go_ret
        exact ⟨rfl, rfl⟩
      | false =>
        have HW : Aside0 (whyP m a false = 3) := ⟨hw⟩
        rw [HW.out]
        clear hw
        go_enter Try.func17, Try.ntmps17
        go_wp2
        go_ret
        exact ⟨rfl, rfl⟩
end Go.Proofs.Ytanfpjlcpcfjoaa.M
