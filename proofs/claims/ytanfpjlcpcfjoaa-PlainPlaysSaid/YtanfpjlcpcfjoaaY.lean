/- One deed on both: Write 0, a; by hand. -/
import Derived.Test.YtanfpjlcpcfjoaaX
namespace Go.Proofs.Ytanfpjlcpcfjoaa.M
open Go.RowKit Go.Proofs.YtanfpjlcpcfjoaaW.PrintWords Go.Proofs.YtanfpjlcpcfjoaaW.PrintLast Go.Proofs.YtanfpjlcpcfjoaaW.PrintMore Go.Proofs.Ytanfpjlcpcfjoaa.Rw
set_option linter.unusedVariables false
set_option linter.unusedSimpArgs false
section
variable {w : World} {lo hi g q n : Nat} {ok : Nat → Prop} {L : Ln}
set_option maxHeartbeats 6400000 in
set_option maxRecDepth 100000 in
theorem doWrite0aC (h : Pr w lo hi g q n ok L) (l : Int) (A : Option Addr) (c : Nat) (xs : List Int) (hC : ∀ W, Below (min lo q) w W → Kd.C (Kd.int .u8) W A xs.length xs) (hc : xs.length ≤ c) (hm : xs.length ≤ 9223372036854775807) (h3 : (300 : Int) < (xs.length : Int)) :
    Calls Try.prog 13 #[.pointer (some ⟨lo, 0, none⟩), .pointer (some ⟨g, 0, none⟩), .agg #[.int .i64 0, .int .i64 l, .slice A xs.length c]] w fun e w' => e = .returned (.bool true) ∧ ∃ L', L'.length = L.length ∧ Aside0 (Pr w' lo hi g q n ok L') ∧ Aside0 (Out2 w w' lo hi q) := by
  have hal := below_alloc (Below.refl _ w) (.cells #[.int .i64 0, .int .i64 l, .slice A xs.length c] 41 (0, 0))
  have hbx := blk_drew (blk_new w (.cells #[.int .i64 0, .int .i64 l, .slice A xs.length c] 41 (0, 0)))
  have hlo : lo ≤ w.heap.size := Nat.le_trans h.hp.lo_le h.hp.top
  have hhi : hi ≤ w.heap.size := h.hp.top
  have HD := Aside0.mk (h.below (below_drew hal))
  have HDn := Aside0.mk (h.below hal)
  have HO1 := Aside0.mk (Out2.of_below (q := q) (hi := hi) (below_drew hal) hlo)
  have HO1n := Aside0.mk (Out2.of_below (q := q) (hi := hi) hal hlo)
  have HBX := Aside0.mk hbx
  have HHI := Aside0.mk hhi
  have HC := Aside0.mk hC
  have HLO := Aside0.mk hlo
  skip
  clear hal hbx hlo hhi h hC
  have h300 : decide ((300 : Int) < (xs.length : Int)) = true := decide_eq_true h3
  go_enter Try.func13, Try.ntmps13
  go_upto_region 5 with (fail)
  go_quiet (fail)
  have hdq : Below (w.alloc (.cells #[.int .i64 0, .int .i64 l, .slice A xs.length c] 41 (0, 0))).heap.size (w.alloc (.cells #[.int .i64 0, .int .i64 l, .slice A xs.length c] 41 (0, 0))) ((w.alloc (.cells #[.int .i64 0, .int .i64 l, .slice A xs.length c] 41 (0, 0))).drewN nq) := ⟨rfl, rfl, rfl, Nat.le_refl _, fun _ _ => rfl⟩
  have HDq := Aside0.mk (HDn.out.below hdq)
  have HOq := Aside0.mk (HO1n.out.trans (Out2.of_below (q := q) (hi := hi) hdq (Nat.le_trans HLO.out HO1n.out.2.1)))
  clear hdq
  go_wp2
  go_ret
  exact ⟨rfl, _, rfl, HDq, HOq⟩
set_option maxHeartbeats 6400000 in
set_option maxRecDepth 100000 in
theorem doWrite0bC (h : Pr w lo hi g q n ok L) (A : Option Addr) (c : Nat) (xs : List Int) (hC : ∀ W, Below (min lo q) w W → Kd.C (Kd.int .u8) W A xs.length xs) (hc : xs.length ≤ c) (hm : xs.length ≤ 9223372036854775807) (h3 : ¬ (300 : Int) < (xs.length : Int)) (i : Nat) (hi' : i < L.length) (hx : xs.length = n) :
    Calls Try.prog 13 #[.pointer (some ⟨lo, 0, none⟩), .pointer (some ⟨g, 0, none⟩), .agg #[.int .i64 0, .int .i64 (i : Int), .slice A xs.length c]] w fun e w' => e = .returned (.bool true) ∧ ∃ L', L'.length = L.length ∧ Aside0 (Pr w' lo hi g q n ok L') ∧ Aside0 (Out2 w w' lo hi q) := by
  have hal := below_alloc (Below.refl _ w) (.cells #[.int .i64 0, .int .i64 (i : Int), .slice A xs.length c] 41 (0, 0))
  have hbx := blk_drew (blk_new w (.cells #[.int .i64 0, .int .i64 (i : Int), .slice A xs.length c] 41 (0, 0)))
  have hlo : lo ≤ w.heap.size := Nat.le_trans h.hp.lo_le h.hp.top
  have hhi : hi ≤ w.heap.size := h.hp.top
  have HD := Aside0.mk (h.below (below_drew hal))
  have HDn := Aside0.mk (h.below hal)
  have HO1 := Aside0.mk (Out2.of_below (q := q) (hi := hi) (below_drew hal) hlo)
  have HO1n := Aside0.mk (Out2.of_below (q := q) (hi := hi) hal hlo)
  have HBX := Aside0.mk hbx
  have HHI := Aside0.mk hhi
  have HC := Aside0.mk hC
  have HLO := Aside0.mk hlo
  have HQL := Aside0.mk (show q < w.heap.size from let ⟨_, _, _, h0⟩ := h.hm; let ⟨_, _, h1, _⟩ := h0.hA (by omega); blk_lt h1)
  clear hal hbx hlo hhi h hC
  have h300 : decide ((300 : Int) < (xs.length : Int)) = false := decide_eq_false h3
  subst hx
  clear h3 hm
  go_enter Try.func13, Try.ntmps13
  go_upto_region 5 with (fail)
  go_region_held3 (fun W' => W'.cell? ⟨w.heap.size, 1, none⟩ = some (.int .i64 (i : Int)) ∧ W'.cell? ⟨w.heap.size, 2, none⟩ = some (.slice A xs.length c))
    (first | go_keep | exact ⟨hc3, hc4⟩ | exact ⟨hc5, hc6⟩)
    (first
    | (go_at_call 10; (refine (writeC HD.out.hp i hi' A c xs (HC.out _ HO1.out.1) hc rfl).mono ?_); rintro e w3 ⟨rfl, HP, HO⟩; have HK := Aside0.mk (HD.out.keepR HO.out); have HC3 := Aside0.mk (HC.out _ (HO1.out.trans (Out2.of_out HO.out)).1); have hb3 := Aside0.mk ((HO.out.2.2 w.heap.size HHI.out (blk_lt HBX.out)).trans HBX.out); have hc3 := blk_cell hb3.out 1; have hc4 := blk_cell hb3.out 2)
    | (go_at_call 19; (refine (refWriteC HK.out.1 HK.out.2 i hi' A c xs HC3.out).mono ?_); rintro e w4 ⟨rfl, HM, HOR⟩; have HF := Aside0.mk (HD.out.both HP.out HO.out HM.out HOR.out); have hb5 := Aside0.mk ((HOR.out.2.2 w.heap.size (Nat.ne_of_gt HQL.out) (blk_lt hb3.out)).trans hb3.out); have hc5 := blk_cell hb5.out 1; have hc6 := blk_cell hb5.out 2))
  all_goals (
    clear HD HDn HK HP HO HM HOR HBX
    go_wp2
    go_ret
    exact ⟨rfl, _, by rw [List.length_set], ⟨HF.out.1⟩, ⟨HO1.out.trans HF.out.2⟩⟩)
set_option maxHeartbeats 6400000 in
set_option maxRecDepth 100000 in
theorem doWrite0cC (h : Pr w lo hi g q n ok L) (l : Int) (A : Option Addr) (c : Nat) (xs : List Int) (hC : ∀ W, Below (min lo q) w W → Kd.C (Kd.int .u8) W A xs.length xs) (hc : xs.length ≤ c) (hm : xs.length ≤ 9223372036854775807) (h3 : ¬ (300 : Int) < (xs.length : Int)) (hno : ¬ (0 ≤ l ∧ l < (L.length : Int)) ∨ xs.length ≠ n) :
    Calls Try.prog 13 #[.pointer (some ⟨lo, 0, none⟩), .pointer (some ⟨g, 0, none⟩), .agg #[.int .i64 0, .int .i64 l, .slice A xs.length c]] w fun e w' => e = .returned (.bool true) ∧ ∃ L', L'.length = L.length ∧ Aside0 (Pr w' lo hi g q n ok L') ∧ Aside0 (Out2 w w' lo hi q) := by
  have hal := below_alloc (Below.refl _ w) (.cells #[.int .i64 0, .int .i64 l, .slice A xs.length c] 41 (0, 0))
  have hbx := blk_drew (blk_new w (.cells #[.int .i64 0, .int .i64 l, .slice A xs.length c] 41 (0, 0)))
  have hlo : lo ≤ w.heap.size := Nat.le_trans h.hp.lo_le h.hp.top
  have hhi : hi ≤ w.heap.size := h.hp.top
  have HD := Aside0.mk (h.below (below_drew hal))
  have HDn := Aside0.mk (h.below hal)
  have HO1 := Aside0.mk (Out2.of_below (q := q) (hi := hi) (below_drew hal) hlo)
  have HO1n := Aside0.mk (Out2.of_below (q := q) (hi := hi) hal hlo)
  have HBX := Aside0.mk hbx
  have HHI := Aside0.mk hhi
  have HC := Aside0.mk hC
  have HLO := Aside0.mk hlo
  skip
  clear hal hbx hlo hhi h hC
  have h300 : decide ((300 : Int) < (xs.length : Int)) = false := decide_eq_false h3
  obtain ⟨r, hr⟩ : ∃ r, whyP L.length l ((xs.length : Int) == (n : Int)) = r := ⟨_, rfl⟩
  have HNO := Aside0.mk hno
  have HR := Aside0.mk hr
  have hD2 : ∀ k, Below (w.alloc (.cells #[.int .i64 0, .int .i64 l, .slice A xs.length c] 41 (0, 0))).heap.size (w.alloc (.cells #[.int .i64 0, .int .i64 l, .slice A xs.length c] 41 (0, 0))) ((w.alloc (.cells #[.int .i64 0, .int .i64 l, .slice A xs.length c] 41 (0, 0))).drewN k) := fun k => ⟨rfl, rfl, rfl, Nat.le_refl _, fun _ _ => rfl⟩
  have HW1 : Aside0 (∀ k, Calls Try.prog 10 #[.pointer (some ⟨lo, 0, none⟩), .int .i64 l, .slice A xs.length c] ((w.alloc (.cells #[.int .i64 0, .int .i64 l, .slice A xs.length c] 41 (0, 0))).drewN k) fun e w' => e = .returned (.int .i64 r) ∧ w' = (w.alloc (.cells #[.int .i64 0, .int .i64 l, .slice A xs.length c] 41 (0, 0))).drewN k) := ⟨fun k => (writeNo (HDn.out.below (hD2 k)).hp l A c xs.length HNO.out hm).mono (fun e w' h => ⟨by rw [← HR.out]; exact h.1, h.2.symm⟩)⟩
  have HW2 : Aside0 (∀ k, Calls Try.prog 19 #[.pointer (some ⟨g, 0, none⟩), .int .i64 l, .slice A xs.length c] ((w.alloc (.cells #[.int .i64 0, .int .i64 l, .slice A xs.length c] 41 (0, 0))).drewN k) fun e w' => e = .returned (.int .i64 r) ∧ w' = (w.alloc (.cells #[.int .i64 0, .int .i64 l, .slice A xs.length c] 41 (0, 0))).drewN k) := ⟨fun k => (refWriteNo (HDn.out.below (hD2 k)).hm l A c xs.length HNO.out hm).mono (fun e w' h => ⟨by rw [← HR.out]; exact h.1, h.2.symm⟩)⟩
  clear hr hno h3 hD2
  go_enter Try.func13, Try.ntmps13
  go_upto_region 5 with (fail)
  go_quiet ((first
    | (go_at_call 10; with_reducible exact Calls.quiet_of_same (HW1.out _))
    | (go_at_call 19; with_reducible exact Calls.quiet_of_same (HW2.out _))))
  have hdq : Below (w.alloc (.cells #[.int .i64 0, .int .i64 l, .slice A xs.length c] 41 (0, 0))).heap.size (w.alloc (.cells #[.int .i64 0, .int .i64 l, .slice A xs.length c] 41 (0, 0))) ((w.alloc (.cells #[.int .i64 0, .int .i64 l, .slice A xs.length c] 41 (0, 0))).drewN nq) := ⟨rfl, rfl, rfl, Nat.le_refl _, fun _ _ => rfl⟩
  have HDq := Aside0.mk (HDn.out.below hdq)
  have HOq := Aside0.mk (HO1n.out.trans (Out2.of_below (q := q) (hi := hi) hdq (Nat.le_trans HLO.out HO1n.out.2.1)))
  clear hdq
  go_wp2
  go_ret
  exact ⟨rfl, _, rfl, HDq, HOq⟩
set_option maxHeartbeats 6400000 in
set_option maxRecDepth 100000 in
theorem doWrite1aC (h : Pr w lo hi g q n ok L) (l : Int) (A : Option Addr) (c : Nat) (xs : List Int) (hC : ∀ W, Below (min lo q) w W → Kd.C (Kd.int .u8) W A xs.length xs) (hc : xs.length ≤ c) (hm : xs.length ≤ 9223372036854775807) (h3 : (300 : Int) < (xs.length : Int)) :
    Calls Try.prog 13 #[.pointer (some ⟨lo, 0, none⟩), .pointer (some ⟨g, 0, none⟩), .agg #[.int .i64 1, .int .i64 l, .slice A xs.length c]] w fun e w' => e = .returned (.bool true) ∧ ∃ L', L'.length = L.length ∧ Aside0 (Pr w' lo hi g q n ok L') ∧ Aside0 (Out2 w w' lo hi q) := by
  have hal := below_alloc (Below.refl _ w) (.cells #[.int .i64 1, .int .i64 l, .slice A xs.length c] 41 (0, 0))
  have hbx := blk_drew (blk_new w (.cells #[.int .i64 1, .int .i64 l, .slice A xs.length c] 41 (0, 0)))
  have hlo : lo ≤ w.heap.size := Nat.le_trans h.hp.lo_le h.hp.top
  have hhi : hi ≤ w.heap.size := h.hp.top
  have HD := Aside0.mk (h.below (below_drew hal))
  have HDn := Aside0.mk (h.below hal)
  have HO1 := Aside0.mk (Out2.of_below (q := q) (hi := hi) (below_drew hal) hlo)
  have HO1n := Aside0.mk (Out2.of_below (q := q) (hi := hi) hal hlo)
  have HBX := Aside0.mk hbx
  have HHI := Aside0.mk hhi
  have HC := Aside0.mk hC
  have HLO := Aside0.mk hlo
  skip
  clear hal hbx hlo hhi h hC
  have h300 : decide ((300 : Int) < (xs.length : Int)) = true := decide_eq_true h3
  go_enter Try.func13, Try.ntmps13
  go_upto_region 5 with (fail)
  go_quiet (fail)
  have hdq : Below (w.alloc (.cells #[.int .i64 1, .int .i64 l, .slice A xs.length c] 41 (0, 0))).heap.size (w.alloc (.cells #[.int .i64 1, .int .i64 l, .slice A xs.length c] 41 (0, 0))) ((w.alloc (.cells #[.int .i64 1, .int .i64 l, .slice A xs.length c] 41 (0, 0))).drewN nq) := ⟨rfl, rfl, rfl, Nat.le_refl _, fun _ _ => rfl⟩
  have HDq := Aside0.mk (HDn.out.below hdq)
  have HOq := Aside0.mk (HO1n.out.trans (Out2.of_below (q := q) (hi := hi) hdq (Nat.le_trans HLO.out HO1n.out.2.1)))
  clear hdq
  go_wp2
  go_ret
  exact ⟨rfl, _, rfl, HDq, HOq⟩
set_option maxHeartbeats 6400000 in
set_option maxRecDepth 100000 in
theorem doWrite1bC (h : Pr w lo hi g q n ok L) (A : Option Addr) (c : Nat) (xs : List Int) (hC : ∀ W, Below (min lo q) w W → Kd.C (Kd.int .u8) W A xs.length xs) (hc : xs.length ≤ c) (hm : xs.length ≤ 9223372036854775807) (h3 : ¬ (300 : Int) < (xs.length : Int)) (i : Nat) (hi' : i < L.length) (hx : xs.length = n) :
    Calls Try.prog 13 #[.pointer (some ⟨lo, 0, none⟩), .pointer (some ⟨g, 0, none⟩), .agg #[.int .i64 1, .int .i64 (i : Int), .slice A xs.length c]] w fun e w' => e = .returned (.bool true) ∧ ∃ L', L'.length = L.length ∧ Aside0 (Pr w' lo hi g q n ok L') ∧ Aside0 (Out2 w w' lo hi q) := by
  have hal := below_alloc (Below.refl _ w) (.cells #[.int .i64 1, .int .i64 (i : Int), .slice A xs.length c] 41 (0, 0))
  have hbx := blk_drew (blk_new w (.cells #[.int .i64 1, .int .i64 (i : Int), .slice A xs.length c] 41 (0, 0)))
  have hlo : lo ≤ w.heap.size := Nat.le_trans h.hp.lo_le h.hp.top
  have hhi : hi ≤ w.heap.size := h.hp.top
  have HD := Aside0.mk (h.below (below_drew hal))
  have HDn := Aside0.mk (h.below hal)
  have HO1 := Aside0.mk (Out2.of_below (q := q) (hi := hi) (below_drew hal) hlo)
  have HO1n := Aside0.mk (Out2.of_below (q := q) (hi := hi) hal hlo)
  have HBX := Aside0.mk hbx
  have HHI := Aside0.mk hhi
  have HC := Aside0.mk hC
  have HLO := Aside0.mk hlo
  have HQL := Aside0.mk (show q < w.heap.size from let ⟨_, _, _, h0⟩ := h.hm; let ⟨_, _, h1, _⟩ := h0.hA (by omega); blk_lt h1)
  clear hal hbx hlo hhi h hC
  have h300 : decide ((300 : Int) < (xs.length : Int)) = false := decide_eq_false h3
  subst hx
  clear h3 hm
  go_enter Try.func13, Try.ntmps13
  go_upto_region 5 with (fail)
  go_region_held3 (fun W' => W'.cell? ⟨w.heap.size, 1, none⟩ = some (.int .i64 (i : Int)) ∧ W'.cell? ⟨w.heap.size, 2, none⟩ = some (.slice A xs.length c))
    (first | go_keep | exact ⟨hc3, hc4⟩ | exact ⟨hc5, hc6⟩)
    (first
    | (go_at_call 10; (refine (writeC HD.out.hp i hi' A c xs (HC.out _ HO1.out.1) hc rfl).mono ?_); rintro e w3 ⟨rfl, HP, HO⟩; have HK := Aside0.mk (HD.out.keepR HO.out); have HC3 := Aside0.mk (HC.out _ (HO1.out.trans (Out2.of_out HO.out)).1); have hb3 := Aside0.mk ((HO.out.2.2 w.heap.size HHI.out (blk_lt HBX.out)).trans HBX.out); have hc3 := blk_cell hb3.out 1; have hc4 := blk_cell hb3.out 2)
    | (go_at_call 19; (refine (refWriteC HK.out.1 HK.out.2 i hi' A c xs HC3.out).mono ?_); rintro e w4 ⟨rfl, HM, HOR⟩; have HF := Aside0.mk (HD.out.both HP.out HO.out HM.out HOR.out); have hb5 := Aside0.mk ((HOR.out.2.2 w.heap.size (Nat.ne_of_gt HQL.out) (blk_lt hb3.out)).trans hb3.out); have hc5 := blk_cell hb5.out 1; have hc6 := blk_cell hb5.out 2))
  all_goals (
    clear HD HDn HK HP HO HM HOR HBX
    go_wp2
    go_ret
    exact ⟨rfl, _, by rw [List.length_set], ⟨HF.out.1⟩, ⟨HO1.out.trans HF.out.2⟩⟩)
set_option maxHeartbeats 6400000 in
set_option maxRecDepth 100000 in
theorem doWrite1cC (h : Pr w lo hi g q n ok L) (l : Int) (A : Option Addr) (c : Nat) (xs : List Int) (hC : ∀ W, Below (min lo q) w W → Kd.C (Kd.int .u8) W A xs.length xs) (hc : xs.length ≤ c) (hm : xs.length ≤ 9223372036854775807) (h3 : ¬ (300 : Int) < (xs.length : Int)) (hno : ¬ (0 ≤ l ∧ l < (L.length : Int)) ∨ xs.length ≠ n) :
    Calls Try.prog 13 #[.pointer (some ⟨lo, 0, none⟩), .pointer (some ⟨g, 0, none⟩), .agg #[.int .i64 1, .int .i64 l, .slice A xs.length c]] w fun e w' => e = .returned (.bool true) ∧ ∃ L', L'.length = L.length ∧ Aside0 (Pr w' lo hi g q n ok L') ∧ Aside0 (Out2 w w' lo hi q) := by
  have hal := below_alloc (Below.refl _ w) (.cells #[.int .i64 1, .int .i64 l, .slice A xs.length c] 41 (0, 0))
  have hbx := blk_drew (blk_new w (.cells #[.int .i64 1, .int .i64 l, .slice A xs.length c] 41 (0, 0)))
  have hlo : lo ≤ w.heap.size := Nat.le_trans h.hp.lo_le h.hp.top
  have hhi : hi ≤ w.heap.size := h.hp.top
  have HD := Aside0.mk (h.below (below_drew hal))
  have HDn := Aside0.mk (h.below hal)
  have HO1 := Aside0.mk (Out2.of_below (q := q) (hi := hi) (below_drew hal) hlo)
  have HO1n := Aside0.mk (Out2.of_below (q := q) (hi := hi) hal hlo)
  have HBX := Aside0.mk hbx
  have HHI := Aside0.mk hhi
  have HC := Aside0.mk hC
  have HLO := Aside0.mk hlo
  skip
  clear hal hbx hlo hhi h hC
  have h300 : decide ((300 : Int) < (xs.length : Int)) = false := decide_eq_false h3
  obtain ⟨r, hr⟩ : ∃ r, whyP L.length l ((xs.length : Int) == (n : Int)) = r := ⟨_, rfl⟩
  have HNO := Aside0.mk hno
  have HR := Aside0.mk hr
  have hD2 : ∀ k, Below (w.alloc (.cells #[.int .i64 1, .int .i64 l, .slice A xs.length c] 41 (0, 0))).heap.size (w.alloc (.cells #[.int .i64 1, .int .i64 l, .slice A xs.length c] 41 (0, 0))) ((w.alloc (.cells #[.int .i64 1, .int .i64 l, .slice A xs.length c] 41 (0, 0))).drewN k) := fun k => ⟨rfl, rfl, rfl, Nat.le_refl _, fun _ _ => rfl⟩
  have HW1 : Aside0 (∀ k, Calls Try.prog 10 #[.pointer (some ⟨lo, 0, none⟩), .int .i64 l, .slice A xs.length c] ((w.alloc (.cells #[.int .i64 1, .int .i64 l, .slice A xs.length c] 41 (0, 0))).drewN k) fun e w' => e = .returned (.int .i64 r) ∧ w' = (w.alloc (.cells #[.int .i64 1, .int .i64 l, .slice A xs.length c] 41 (0, 0))).drewN k) := ⟨fun k => (writeNo (HDn.out.below (hD2 k)).hp l A c xs.length HNO.out hm).mono (fun e w' h => ⟨by rw [← HR.out]; exact h.1, h.2.symm⟩)⟩
  have HW2 : Aside0 (∀ k, Calls Try.prog 19 #[.pointer (some ⟨g, 0, none⟩), .int .i64 l, .slice A xs.length c] ((w.alloc (.cells #[.int .i64 1, .int .i64 l, .slice A xs.length c] 41 (0, 0))).drewN k) fun e w' => e = .returned (.int .i64 r) ∧ w' = (w.alloc (.cells #[.int .i64 1, .int .i64 l, .slice A xs.length c] 41 (0, 0))).drewN k) := ⟨fun k => (refWriteNo (HDn.out.below (hD2 k)).hm l A c xs.length HNO.out hm).mono (fun e w' h => ⟨by rw [← HR.out]; exact h.1, h.2.symm⟩)⟩
  clear hr hno h3 hD2
  go_enter Try.func13, Try.ntmps13
  go_upto_region 5 with (fail)
  go_quiet ((first
    | (go_at_call 10; with_reducible exact Calls.quiet_of_same (HW1.out _))
    | (go_at_call 19; with_reducible exact Calls.quiet_of_same (HW2.out _))))
  have hdq : Below (w.alloc (.cells #[.int .i64 1, .int .i64 l, .slice A xs.length c] 41 (0, 0))).heap.size (w.alloc (.cells #[.int .i64 1, .int .i64 l, .slice A xs.length c] 41 (0, 0))) ((w.alloc (.cells #[.int .i64 1, .int .i64 l, .slice A xs.length c] 41 (0, 0))).drewN nq) := ⟨rfl, rfl, rfl, Nat.le_refl _, fun _ _ => rfl⟩
  have HDq := Aside0.mk (HDn.out.below hdq)
  have HOq := Aside0.mk (HO1n.out.trans (Out2.of_below (q := q) (hi := hi) hdq (Nat.le_trans HLO.out HO1n.out.2.1)))
  clear hdq
  go_wp2
  go_ret
  exact ⟨rfl, _, rfl, HDq, HOq⟩
set_option maxHeartbeats 6400000 in
set_option maxRecDepth 100000 in
theorem doWrite2aC (h : Pr w lo hi g q n ok L) (l : Int) (A : Option Addr) (c : Nat) (xs : List Int) (hC : ∀ W, Below (min lo q) w W → Kd.C (Kd.int .u8) W A xs.length xs) (hc : xs.length ≤ c) (hm : xs.length ≤ 9223372036854775807) (h3 : (300 : Int) < (xs.length : Int)) :
    Calls Try.prog 13 #[.pointer (some ⟨lo, 0, none⟩), .pointer (some ⟨g, 0, none⟩), .agg #[.int .i64 2, .int .i64 l, .slice A xs.length c]] w fun e w' => e = .returned (.bool true) ∧ ∃ L', L'.length = L.length ∧ Aside0 (Pr w' lo hi g q n ok L') ∧ Aside0 (Out2 w w' lo hi q) := by
  have hal := below_alloc (Below.refl _ w) (.cells #[.int .i64 2, .int .i64 l, .slice A xs.length c] 41 (0, 0))
  have hbx := blk_drew (blk_new w (.cells #[.int .i64 2, .int .i64 l, .slice A xs.length c] 41 (0, 0)))
  have hlo : lo ≤ w.heap.size := Nat.le_trans h.hp.lo_le h.hp.top
  have hhi : hi ≤ w.heap.size := h.hp.top
  have HD := Aside0.mk (h.below (below_drew hal))
  have HDn := Aside0.mk (h.below hal)
  have HO1 := Aside0.mk (Out2.of_below (q := q) (hi := hi) (below_drew hal) hlo)
  have HO1n := Aside0.mk (Out2.of_below (q := q) (hi := hi) hal hlo)
  have HBX := Aside0.mk hbx
  have HHI := Aside0.mk hhi
  have HC := Aside0.mk hC
  have HLO := Aside0.mk hlo
  skip
  clear hal hbx hlo hhi h hC
  have h300 : decide ((300 : Int) < (xs.length : Int)) = true := decide_eq_true h3
  go_enter Try.func13, Try.ntmps13
  go_upto_region 5 with (fail)
  go_quiet (fail)
  have hdq : Below (w.alloc (.cells #[.int .i64 2, .int .i64 l, .slice A xs.length c] 41 (0, 0))).heap.size (w.alloc (.cells #[.int .i64 2, .int .i64 l, .slice A xs.length c] 41 (0, 0))) ((w.alloc (.cells #[.int .i64 2, .int .i64 l, .slice A xs.length c] 41 (0, 0))).drewN nq) := ⟨rfl, rfl, rfl, Nat.le_refl _, fun _ _ => rfl⟩
  have HDq := Aside0.mk (HDn.out.below hdq)
  have HOq := Aside0.mk (HO1n.out.trans (Out2.of_below (q := q) (hi := hi) hdq (Nat.le_trans HLO.out HO1n.out.2.1)))
  clear hdq
  go_wp2
  go_ret
  exact ⟨rfl, _, rfl, HDq, HOq⟩
set_option maxHeartbeats 6400000 in
set_option maxRecDepth 100000 in
theorem doWrite2bC (h : Pr w lo hi g q n ok L) (A : Option Addr) (c : Nat) (xs : List Int) (hC : ∀ W, Below (min lo q) w W → Kd.C (Kd.int .u8) W A xs.length xs) (hc : xs.length ≤ c) (hm : xs.length ≤ 9223372036854775807) (h3 : ¬ (300 : Int) < (xs.length : Int)) (i : Nat) (hi' : i < L.length) (hx : xs.length = n) :
    Calls Try.prog 13 #[.pointer (some ⟨lo, 0, none⟩), .pointer (some ⟨g, 0, none⟩), .agg #[.int .i64 2, .int .i64 (i : Int), .slice A xs.length c]] w fun e w' => e = .returned (.bool true) ∧ ∃ L', L'.length = L.length ∧ Aside0 (Pr w' lo hi g q n ok L') ∧ Aside0 (Out2 w w' lo hi q) := by
  have hal := below_alloc (Below.refl _ w) (.cells #[.int .i64 2, .int .i64 (i : Int), .slice A xs.length c] 41 (0, 0))
  have hbx := blk_drew (blk_new w (.cells #[.int .i64 2, .int .i64 (i : Int), .slice A xs.length c] 41 (0, 0)))
  have hlo : lo ≤ w.heap.size := Nat.le_trans h.hp.lo_le h.hp.top
  have hhi : hi ≤ w.heap.size := h.hp.top
  have HD := Aside0.mk (h.below (below_drew hal))
  have HDn := Aside0.mk (h.below hal)
  have HO1 := Aside0.mk (Out2.of_below (q := q) (hi := hi) (below_drew hal) hlo)
  have HO1n := Aside0.mk (Out2.of_below (q := q) (hi := hi) hal hlo)
  have HBX := Aside0.mk hbx
  have HHI := Aside0.mk hhi
  have HC := Aside0.mk hC
  have HLO := Aside0.mk hlo
  have HQL := Aside0.mk (show q < w.heap.size from let ⟨_, _, _, h0⟩ := h.hm; let ⟨_, _, h1, _⟩ := h0.hA (by omega); blk_lt h1)
  clear hal hbx hlo hhi h hC
  have h300 : decide ((300 : Int) < (xs.length : Int)) = false := decide_eq_false h3
  subst hx
  clear h3 hm
  go_enter Try.func13, Try.ntmps13
  go_upto_region 5 with (fail)
  go_region_held3 (fun W' => W'.cell? ⟨w.heap.size, 1, none⟩ = some (.int .i64 (i : Int)) ∧ W'.cell? ⟨w.heap.size, 2, none⟩ = some (.slice A xs.length c))
    (first | go_keep | exact ⟨hc3, hc4⟩ | exact ⟨hc5, hc6⟩)
    (first
    | (go_at_call 10; (refine (writeC HD.out.hp i hi' A c xs (HC.out _ HO1.out.1) hc rfl).mono ?_); rintro e w3 ⟨rfl, HP, HO⟩; have HK := Aside0.mk (HD.out.keepR HO.out); have HC3 := Aside0.mk (HC.out _ (HO1.out.trans (Out2.of_out HO.out)).1); have hb3 := Aside0.mk ((HO.out.2.2 w.heap.size HHI.out (blk_lt HBX.out)).trans HBX.out); have hc3 := blk_cell hb3.out 1; have hc4 := blk_cell hb3.out 2)
    | (go_at_call 19; (refine (refWriteC HK.out.1 HK.out.2 i hi' A c xs HC3.out).mono ?_); rintro e w4 ⟨rfl, HM, HOR⟩; have HF := Aside0.mk (HD.out.both HP.out HO.out HM.out HOR.out); have hb5 := Aside0.mk ((HOR.out.2.2 w.heap.size (Nat.ne_of_gt HQL.out) (blk_lt hb3.out)).trans hb3.out); have hc5 := blk_cell hb5.out 1; have hc6 := blk_cell hb5.out 2))
  all_goals (
    clear HD HDn HK HP HO HM HOR HBX
    go_wp2
    go_ret
    exact ⟨rfl, _, by rw [List.length_set], ⟨HF.out.1⟩, ⟨HO1.out.trans HF.out.2⟩⟩)
set_option maxHeartbeats 6400000 in
set_option maxRecDepth 100000 in
theorem doWrite2cC (h : Pr w lo hi g q n ok L) (l : Int) (A : Option Addr) (c : Nat) (xs : List Int) (hC : ∀ W, Below (min lo q) w W → Kd.C (Kd.int .u8) W A xs.length xs) (hc : xs.length ≤ c) (hm : xs.length ≤ 9223372036854775807) (h3 : ¬ (300 : Int) < (xs.length : Int)) (hno : ¬ (0 ≤ l ∧ l < (L.length : Int)) ∨ xs.length ≠ n) :
    Calls Try.prog 13 #[.pointer (some ⟨lo, 0, none⟩), .pointer (some ⟨g, 0, none⟩), .agg #[.int .i64 2, .int .i64 l, .slice A xs.length c]] w fun e w' => e = .returned (.bool true) ∧ ∃ L', L'.length = L.length ∧ Aside0 (Pr w' lo hi g q n ok L') ∧ Aside0 (Out2 w w' lo hi q) := by
  have hal := below_alloc (Below.refl _ w) (.cells #[.int .i64 2, .int .i64 l, .slice A xs.length c] 41 (0, 0))
  have hbx := blk_drew (blk_new w (.cells #[.int .i64 2, .int .i64 l, .slice A xs.length c] 41 (0, 0)))
  have hlo : lo ≤ w.heap.size := Nat.le_trans h.hp.lo_le h.hp.top
  have hhi : hi ≤ w.heap.size := h.hp.top
  have HD := Aside0.mk (h.below (below_drew hal))
  have HDn := Aside0.mk (h.below hal)
  have HO1 := Aside0.mk (Out2.of_below (q := q) (hi := hi) (below_drew hal) hlo)
  have HO1n := Aside0.mk (Out2.of_below (q := q) (hi := hi) hal hlo)
  have HBX := Aside0.mk hbx
  have HHI := Aside0.mk hhi
  have HC := Aside0.mk hC
  have HLO := Aside0.mk hlo
  skip
  clear hal hbx hlo hhi h hC
  have h300 : decide ((300 : Int) < (xs.length : Int)) = false := decide_eq_false h3
  obtain ⟨r, hr⟩ : ∃ r, whyP L.length l ((xs.length : Int) == (n : Int)) = r := ⟨_, rfl⟩
  have HNO := Aside0.mk hno
  have HR := Aside0.mk hr
  have hD2 : ∀ k, Below (w.alloc (.cells #[.int .i64 2, .int .i64 l, .slice A xs.length c] 41 (0, 0))).heap.size (w.alloc (.cells #[.int .i64 2, .int .i64 l, .slice A xs.length c] 41 (0, 0))) ((w.alloc (.cells #[.int .i64 2, .int .i64 l, .slice A xs.length c] 41 (0, 0))).drewN k) := fun k => ⟨rfl, rfl, rfl, Nat.le_refl _, fun _ _ => rfl⟩
  have HW1 : Aside0 (∀ k, Calls Try.prog 10 #[.pointer (some ⟨lo, 0, none⟩), .int .i64 l, .slice A xs.length c] ((w.alloc (.cells #[.int .i64 2, .int .i64 l, .slice A xs.length c] 41 (0, 0))).drewN k) fun e w' => e = .returned (.int .i64 r) ∧ w' = (w.alloc (.cells #[.int .i64 2, .int .i64 l, .slice A xs.length c] 41 (0, 0))).drewN k) := ⟨fun k => (writeNo (HDn.out.below (hD2 k)).hp l A c xs.length HNO.out hm).mono (fun e w' h => ⟨by rw [← HR.out]; exact h.1, h.2.symm⟩)⟩
  have HW2 : Aside0 (∀ k, Calls Try.prog 19 #[.pointer (some ⟨g, 0, none⟩), .int .i64 l, .slice A xs.length c] ((w.alloc (.cells #[.int .i64 2, .int .i64 l, .slice A xs.length c] 41 (0, 0))).drewN k) fun e w' => e = .returned (.int .i64 r) ∧ w' = (w.alloc (.cells #[.int .i64 2, .int .i64 l, .slice A xs.length c] 41 (0, 0))).drewN k) := ⟨fun k => (refWriteNo (HDn.out.below (hD2 k)).hm l A c xs.length HNO.out hm).mono (fun e w' h => ⟨by rw [← HR.out]; exact h.1, h.2.symm⟩)⟩
  clear hr hno h3 hD2
  go_enter Try.func13, Try.ntmps13
  go_upto_region 5 with (fail)
  go_quiet ((first
    | (go_at_call 10; with_reducible exact Calls.quiet_of_same (HW1.out _))
    | (go_at_call 19; with_reducible exact Calls.quiet_of_same (HW2.out _))))
  have hdq : Below (w.alloc (.cells #[.int .i64 2, .int .i64 l, .slice A xs.length c] 41 (0, 0))).heap.size (w.alloc (.cells #[.int .i64 2, .int .i64 l, .slice A xs.length c] 41 (0, 0))) ((w.alloc (.cells #[.int .i64 2, .int .i64 l, .slice A xs.length c] 41 (0, 0))).drewN nq) := ⟨rfl, rfl, rfl, Nat.le_refl _, fun _ _ => rfl⟩
  have HDq := Aside0.mk (HDn.out.below hdq)
  have HOq := Aside0.mk (HO1n.out.trans (Out2.of_below (q := q) (hi := hi) hdq (Nat.le_trans HLO.out HO1n.out.2.1)))
  clear hdq
  go_wp2
  go_ret
  exact ⟨rfl, _, rfl, HDq, HOq⟩
/-- a deed that writes -/
theorem doWriteC (h : Pr w lo hi g q n ok L) (d l : Int) (A : Option Addr) (c : Nat) (xs : List Int) (hd : d = 0 ∨ d = 1 ∨ d = 2) (hC : ∀ W, Below (min lo q) w W → Kd.C (Kd.int .u8) W A xs.length xs) (hc : xs.length ≤ c) (hm : xs.length ≤ 9223372036854775807) :
    Calls Try.prog 13 #[.pointer (some ⟨lo, 0, none⟩), .pointer (some ⟨g, 0, none⟩), .agg #[.int .i64 d, .int .i64 l, .slice A xs.length c]] w fun e w' => e = .returned (.bool true) ∧ ∃ L', L'.length = L.length ∧ Aside0 (Pr w' lo hi g q n ok L') ∧ Aside0 (Out2 w w' lo hi q) := by
  by_cases h3 : (300 : Int) < (xs.length : Int)
  · rcases hd with rfl | rfl | rfl
    · exact doWrite0aC h l A c xs hC hc hm h3
    · exact doWrite1aC h l A c xs hC hc hm h3
    · exact doWrite2aC h l A c xs hC hc hm h3
  · by_cases hl : (0 ≤ l ∧ l < (L.length : Int)) ∧ xs.length = n
    · obtain ⟨hl, hx⟩ := hl
      obtain ⟨i, rfl⟩ : ∃ i : Nat, l = (i : Int) := ⟨l.toNat, by omega⟩
      rcases hd with rfl | rfl | rfl
      · exact doWrite0bC h A c xs hC hc hm h3 i (by omega) hx
      · exact doWrite1bC h A c xs hC hc hm h3 i (by omega) hx
      · exact doWrite2bC h A c xs hC hc hm h3 i (by omega) hx
    · have hno : ¬ (0 ≤ l ∧ l < (L.length : Int)) ∨ xs.length ≠ n := by
        by_cases h5 : 0 ≤ l ∧ l < (L.length : Int)
        · exact .inr (fun e => hl ⟨h5, e⟩)
        · exact .inl h5
      rcases hd with rfl | rfl | rfl
      · exact doWrite0cC h l A c xs hC hc hm h3 hno
      · exact doWrite1cC h l A c xs hC hc hm h3 hno
      · exact doWrite2cC h l A c xs hC hc hm h3 hno
end
end Go.Proofs.Ytanfpjlcpcfjoaa.M
