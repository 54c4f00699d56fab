/- Fates: the contracts of At and Left; by hand. -/
import Derived.Test.YtopajgpepmocfaaC
namespace Go.Proofs.Ytopajgpepmocfaa.M
open Go.RowKit Go.Proofs.YtopajgpepmocfaaW.PrintWords Go.Proofs.YtopajgpepmocfaaW.PrintLast Go.Proofs.YtopajgpepmocfaaW.PrintMore Go.Proofs.Ytopajgpepmocfaa.Rw Go.Maps
set_option linter.unusedVariables false
set_option linter.unusedSimpArgs false
def lookF (l : List F) (n : Int) : F × Bool := match l.find? (fun x => x.1 == n) with
  | some x => (x, true)
  | none => ((0, 0, 0), false)
theorem look_has (l : List F) (n : Int) : has (DF l) (kF n) = (lookF l n).2 := by
  rw [has_DF]
  unfold lookF
  cases h : l.find? (fun x => x.1 == n) with
  | some x => exact List.any_eq_true.2 ⟨x, List.mem_of_find?_eq_some h, List.find?_some (p := fun x : F => x.1 == n) h⟩
  | none =>
    simp only
    rw [List.find?_eq_none] at h
    exact Bool.eq_false_iff.2 (fun q => by obtain ⟨x, hx, hq⟩ := List.any_eq_true.1 q; exact h x hx hq)
theorem look_at {l : List F} (ha : Apart l) (n : Int) : (DF l).atKey (kF n) (datum (0, 0, 0)) = datum (lookF l n).1 := by
  unfold lookF
  cases h : l.find? (fun x => x.1 == n) with
  | some x =>
    have h2 : x.1 = n := eq_of_beq (List.find?_some (p := fun x : F => x.1 == n) h)
    simp only
    rw [← h2]; exact at_DF ha _ (List.mem_of_find?_eq_some h)
  | none =>
    simp only
    rw [List.find?_eq_none] at h
    exact at_DF_none _ (fun x hx e => h x hx (by simp [e]))
theorem IsF.lt {w0 w : World} {g : Nat} {l : List F} (h : IsF w0 w g l) : g < w.heap.size := by
  obtain ⟨_, _, b, h3, _⟩ := h
  exact blk_lt h3
set_option maxHeartbeats 1600000 in
theorem atC {w0 w : World} {g : Nat} {l : List F} (hI : IsF w0 w g l) (n : Int) (hn : (Lit.int .i64 n).wf = true) (x : F) (ok : Bool) (hx : lookF l n = (x, ok)) :
    Calls Try.prog 9 #[.pointer (some ⟨g, 0, none⟩), .int .i64 n] w fun e w' => e = .returned (.tuple #[encF x, .bool ok]) ∧ Below w.heap.size w w' := by
  have hlt := hI.lt
  obtain ⟨hA, hl, b, hg, ho, hb0, hb1⟩ := hI
  have hh := look_has l n
  have hat := look_at hA n
  rw [hx] at hh hat
  have HH := Aside0.mk hh
  have HAt := Aside0.mk hat
  have HO := Aside0.mk ho
  have hg0 : w.cell? ⟨g, 0, none⟩ = some (.map (some b)) := (blk_cell hg 0).trans rfl
  clear hh hat ho hA hx hg
  go_enter Try.func9, Try.ntmps9
  go_wp2_with (at_lookup; refine wpList_lookup_own_ok _ rfl _ _ 38 rfl 3 30 K3 Try.underlying38 fateElem (zero30 _) (datum (0, 0, 0)) [] (fateElem_mk _) b l.length (DF l) rfl (HO.out.alloc _) _ (kF n) rfl (key3 hn) ?_; intro v ps hv; rw [HAt.out] at hv; rw [HH.out]; obtain ⟨x', ev, hx'⟩ := fateElem_inv hv; injection hx' with hx1 hx2; have hx3 := datum_inj hx1; subst hx3; subst ev; clear hx1 hx2 hv; unfold encF)
  exact bodyPost_ret (v := .tuple #[encF x, .bool ok]) (by simp [results, Try.results9, go_sem, encF]) rfl ⟨rfl, below_alloc (below_alloc (Below.refl _ _) _) _⟩
/-- how many are from n on -/
def leftF (l : List F) (n : Int) : Nat := (l.filter (fun x => decide (n ≤ x.1))).length
/-- .. of those that the range has met -/
def metF (l : List F) (n : Int) (left : Lit → Bool) : Nat := (l.filter (fun x => decide (n ≤ x.1) && !left (kF x.1))).length
theorem met_none (l : List F) (n : Int) (left : Lit → Bool) (h : ∀ x ∈ l, left (kF x.1) = true) : metF l n left = 0 := by
  unfold metF
  rw [List.length_eq_zero_iff, List.filter_eq_nil_iff]
  intro x hx
  simp [h x hx]
theorem met_all (l : List F) (n : Int) (left : Lit → Bool) (h : ∀ k, left k = false) : metF l n left = leftF l n := by simp [metF, leftF, h]
theorem same_kF (m n : Int) : (kF m).sameKey (kF n) = (m == n) := by
  rw [Bool.eq_iff_iff]; simp [kF, Lit.sameKey]
theorem met_step : ∀ (l : List F), Apart l → ∀ (n x : Int) (left : Lit → Bool), left (kF x) = true → l.any (fun y => y.1 == x) = true →
    metF l n (fun z => left z && !z.sameKey (kF x)) = metF l n left + if n ≤ x then 1 else 0
  | [], _, n, x, left, hl, ha => by simp at ha
  | y :: l, hA, n, x, left, hl, ha => by
    obtain ⟨h1, h2⟩ := List.pairwise_cons.1 hA
    by_cases e : y.1 = x
    · subst e
      have hrest : metF l n (fun z => left z && !z.sameKey (kF y.1)) = metF l n left := by
        unfold metF
        congr 1
        apply List.filter_congr
        intro q hq
        have : (kF q.1).sameKey (kF y.1) = false := by rw [same_kF]; exact beq_eq_false_iff_ne.2 (Ne.symm (h1 q hq))
        simp [this]
      have hself : (kF y.1).sameKey (kF y.1) = true := by rw [same_kF]; simp
      unfold metF at hrest ⊢
      rw [List.filter_cons, List.filter_cons]
      dsimp only at hrest ⊢
      simp only [hself, hl]
      by_cases hn : n ≤ y.1
      · simp [hn] at hrest ⊢; omega
      · simp [hn] at hrest ⊢; omega
    · have hy : (y.1 == x) = false := beq_eq_false_iff_ne.2 e
      have ha' : l.any (fun y => y.1 == x) = true := by simpa [hy] using ha
      have ih := met_step l h2 n x left hl ha'
      have hs : (kF y.1).sameKey (kF x) = false := by rw [same_kF]; exact hy
      unfold metF at ih ⊢
      rw [List.filter_cons, List.filter_cons]
      dsimp only at ih ⊢
      simp only [hs]
      (try simp only [Bool.not_false, Bool.and_true])
      split <;> (try simp only [List.length_cons]) <;> omega
theorem met_le (l : List F) (n : Int) (left : Lit → Bool) : metF l n left ≤ l.length := List.length_filter_le _ _
set_option maxHeartbeats 1600000 in
theorem leftC {w0 w : World} {g : Nat} {l : List F} (hI : IsF w0 w g l) (n : Int) (hn : (Lit.int .i64 n).wf = true) :
    Calls Try.prog 10 #[.pointer (some ⟨g, 0, none⟩), .int .i64 n] w fun e w' => e = .returned (.int .i64 (leftF l n : Int)) ∧ Below w.heap.size w w' := by
  have hlt := hI.lt
  obtain ⟨hA, hl, b, hg, ho, hb0, hb1⟩ := hI
  have HA := Aside0.mk hA
  have hg0 : w.cell? ⟨g, 0, none⟩ = some (.map (some b)) := (blk_cell hg 0).trans rfl
  obtain ⟨w1, hrun, hrg, hgr, hsz⟩ := ho.range K3 Try.underlying38
  have HR := Aside0.mk hrg
  have HGr := Aside0.mk hgr
  have hkeys : ∀ k, has (DF l) k = true → ∃ m, k = kF m ∧ l.any (fun x => x.1 == m) = true := fun k hk => has_lit hk
  have HK := Aside0.mk hkeys
  clear hkeys hA ho hrg hgr hg
  go_enter Try.func10, Try.ntmps10
  go_wp2
  clear hrun
  have HB : Aside0 (Below w.heap.size w w1) := ⟨Below.grown (Below.refl _ _) HGr.out (Nat.le_refl _) (fun k hk => by cases hk)⟩
  clear HGr hsz
  go_loopw [5] (fun v5 wr => ∃ (left : Lit → Bool) (cnt : Nat), v5 = .int .i64 (metF l n left : Int) ∧ Aside0 (wr.ranges Try.prog 3 fateElem b w.heap.size l.length (DF l) left cnt) ∧ Aside0 (Below w.heap.size w wr) ∧ Aside0 (∀ k, left k = true → has (DF l) k = true)) (fun _ wr => wr.rangeLeft b w.heap.size)
  case atStart => exact ⟨_, _, by rw [met_none l n _ (fun x hx => by rw [has_DF]; exact List.any_eq_true.2 ⟨x, hx, by simp⟩)]; rfl, HR, HB, ⟨fun k hk => hk⟩⟩
  case round =>
    clear HR HB
    obtain ⟨left, cnt, rfl, HR, HB, HL⟩ := hrel
    have hcnt := HR.out.left_eq
    rcases HR.out.next K3 0 with ⟨h0, hl0, hrun⟩ | ⟨key, v, kl, y, w', cnt', hkey, hlk, hv, hat, hrun, hrg2, hlt2, hgr2, hsz2, hen⟩
    · have HM := Aside0.mk (met_all l n left hl0)
      clear hl0 hcnt
      go_wp2
      go_ret
      exact ⟨by rw [HM.out]; rfl, HB.out⟩
    · obtain ⟨x, rfl, hkx, hwx⟩ := keyOf_int_inv Try.underlying3 hkey
      obtain ⟨xx, rfl, -⟩ := fateElem_inv hv
      have hkl : kl = kF x := hkx
      subst hkl
      obtain ⟨m', hm1, hm2⟩ := HK.out _ (HL.out _ hlk)
      have hxm : x = m' := by simpa [kF] using hm1
      subst hxm
      have HS := Aside0.mk (met_step l HA.out n x left hlk hm2)
      have HR2 := Aside0.mk hrg2
      have HB2 : Aside0 (Below w.heap.size w w') := ⟨Below.grown HB.out hgr2 HB.out.size (fun k hk => by cases hk; exact Nat.le_refl _)⟩
      have HL2 : Aside0 (∀ k, (left k && !k.sameKey (kF x)) = true → has (DF l) k = true) := ⟨fun k hk => HL.out k (by rw [Bool.and_eq_true] at hk; exact hk.1)⟩
      have hc2 := hrg2.left_eq
      obtain ⟨m, hm⟩ : ∃ m : Nat, metF l n left = m := ⟨_, rfl⟩
      have hm3 := met_le l n left
      rw [hm] at hm3
      have HM := Aside0.mk hm
      clear hm hkey hlk hv hat hrg2 hgr2 hsz2 hm1 hm2 hwx HR HB HL
      rw [HM.out]
      by_cases hnx : n ≤ x
      all_goals
        go_wp2
        go_roundw
        case rel => exact ⟨_, _, by rw [HS.out, HM.out]; simp [hnx], HR2, HB2, HL2⟩
        case measure => rw [hcnt, hc2]; exact hlt2
end Go.Proofs.Ytopajgpepmocfaa.M
