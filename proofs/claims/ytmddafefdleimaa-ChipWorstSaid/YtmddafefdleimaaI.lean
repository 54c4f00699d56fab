/- A chip within a call: moves, the worst; by hand. -/
import Derived.Test.YtmddafefdleimaaZ
namespace Go.Proofs.Ytmddafefdleimaa.M
open Go.RowKit Go.Proofs.YtmddafefdleimaaW.PrintWords Go.Proofs.YtmddafefdleimaaW.PrintLast Go.Proofs.YtmddafefdleimaaW.PrintMore Go.Proofs.Ytmddafefdleimaa.Rw Go.Proofs.Ytmddafefdleimaa.Fl Go.Maps
set_option linter.unusedVariables false
set_option linter.unusedSimpArgs false
section
variable {w W W1 : World} {base c : Nat} {s : Ch}
set_option maxHeartbeats 1600000 in
theorem driftCh (h : IsCh base w s) (hbase : base ≤ w.heap.size) (i j k : Nat) (hi : i < s.Bn) (hj : j < s.Pn) (hst : ((s.bl i).pg j).st = 1) (hk : k < s.n) (u v : Int) (hu : u.natAbs ≤ 2000) (hv : v.natAbs ≤ 2000)
    (hx : (((s.bl i).pg j).P.getD k (0, 0)).1.natAbs ≤ 2000) (hy : (((s.bl i).pg j).P.getD k (0, 0)).2.natAbs ≤ 2000) (m1 : mayMove (((s.bl i).pg j).P.getD k (0, 0)).1 u = true) (m2 : mayMove (((s.bl i).pg j).P.getD k (0, 0)).2 v = true) :
    Calls Try.prog 24 #[ptr s.c, .int .i64 (i : Int), .int .i64 (j : Int), .int .i64 (k : Int), .complex .f64 (fd u 0) (fd v 0)] w fun e w' => e = .returned (.bool true) ∧
      Aside0 (IsCh base w' (setP s i j ⟨((s.bl i).pg j).g, ((s.bl i).pg j).b, ((s.bl i).pg j).P.set k ((((s.bl i).pg j).P.getD k (0, 0)).1 + u, (((s.bl i).pg j).P.getD k (0, 0)).2 + v), ((s.bl i).pg j).S, 1⟩ s.own)) ∧ Aside0 (Fm base s.own w w') := by
  have HB := Aside0.mk (pageC h i j hi hj)
  obtain ⟨⟨sv, hI, hsv⟩, hlen, og, ob⟩ := h.pg i j hi hj
  rw [hst] at hI
  have HD : Aside0 (Calls Try.prog 45 #[ptr ((s.bl i).pg j).g, .int .i64 (k : Int), .complex .f64 (fd u 0) (fd v 0)] w fun e w' => e = .returned (.bool true) ∧
      Aside0 (IsCh base w' (setP s i j ⟨((s.bl i).pg j).g, ((s.bl i).pg j).b, ((s.bl i).pg j).P.set k ((((s.bl i).pg j).P.getD k (0, 0)).1 + u, (((s.bl i).pg j).P.getD k (0, 0)).2 + v), ((s.bl i).pg j).S, 1⟩ s.own)) ∧ Aside0 (Fm base s.own w w')) := ⟨by
    refine (driftYes hI k (by rw [hlen]; exact hk) u v hu hv hx hy m1 m2).mono ?_
    rintro e w' ⟨rfl, h1, h2⟩
    have hsz : w'.heap.size = w.heap.size := by rw [h2.out]; simp [World.setCell]
    have hf : ∀ q, q ≠ ((s.bl i).pg j).b → w'.heap[q]? = w.heap[q]? := fun q hq => by rw [h2.out]; exact Below.heap_setCell w ⟨_, k, none⟩ _ q hq
    refine ⟨rfl, ⟨h.page i j hi hj _ _ rfl rfl (Nat.le_of_eq hsz.symm) (fun q hq h3 h4 => hf q h4) (fun _ _ => rfl) (fun q hq => h.new q (by omega)) hbase ⟨sv, h1.out, hsv⟩ (by rw [List.length_set]; exact hlen)⟩, ⟨⟨?_, fun q hq ho => hf q (fun e => by rw [e, ob] at ho; cases ho)⟩⟩⟩
    rw [h2.out]
    exact (Below.refl base w).setCell (p := ⟨_, k, none⟩) (h.low _ (by rw [ob]; intro e; cases e)) _⟩
  generalize setP s i j _ s.own = s2 at HD ⊢
  generalize ((s.bl i).pg j).g = g at HB HD
  generalize s.c = c at HB ⊢
  generalize fd u 0 = x at HD ⊢
  generalize fd v 0 = y at HD ⊢
  clear h hbase hi hj hst hk hu hv hx hy m1 m2 hI hsv hlen og ob
  go_enter Try.func24, Try.ntmps24
  go_wp2_with (first
    | (go_at_call 38; (refine HB.out.mono ?_); rintro e w2 ⟨rfl, hw⟩; obtain rfl := hw.symm)
    | (go_at_call 45; (refine HD.out.mono ?_); rintro e w3 ⟨rfl, HI, HF⟩))
  go_ret
  exact ⟨rfl, HI, HF⟩
set_option maxHeartbeats 1600000 in
theorem driftOutCh (h : IsCh base w s) (i j : Nat) (k : Int) (hi : i < s.Bn) (hj : j < s.Pn) (hst : ((s.bl i).pg j).st ≠ 1) (x y : Nat) :
    Calls Try.prog 24 #[ptr s.c, .int .i64 (i : Int), .int .i64 (j : Int), .int .i64 k, .complex .f64 x y] w fun e w' => e = .returned (.bool false) ∧ w' = w := by
  have HB := Aside0.mk (pageC h i j hi hj)
  obtain ⟨⟨sv, hI, hsv⟩, hlen, og, ob⟩ := h.pg i j hi hj
  have HD := Aside0.mk (driftOut hI k (.inl hst) x y)
  generalize ((s.bl i).pg j).g = g at HB HD
  generalize s.c = c at HB ⊢
  clear h hi hj hst hI hsv hlen og ob
  go_enter Try.func24, Try.ntmps24
  go_wp2_with (first
    | (go_at_call 38; (refine HB.out.mono ?_); rintro e w2 ⟨rfl, hw⟩; obtain rfl := hw.symm)
    | (go_at_call 45; (refine HD.out.mono ?_); rintro e w3 ⟨rfl, hw⟩; obtain rfl := hw.symm))
  go_ret
  exact ⟨rfl, rfl⟩
variable {qs : List Nat} {Bn Pn Wn Kn n : Nat} {L : List F} {ops refused : Int} {dark : Bool} {a : Nums}
theorem Abs.eta (i j : Nat) (a : Nums) (h : a.st i j = 1) (Q : Pts) : ({ a with st := up2 a.st i j 1, P := up2 a.P i j Q, S := up2 a.S i j (a.S i j) } : Nums) = { a with P := up2 a.P i j Q } := by
  have e1 : up2 a.st i j 1 = a.st := by
    funext x y
    show (if x = i ∧ y = j then 1 else a.st x y) = a.st x y
    by_cases e : x = i ∧ y = j
    · rw [if_pos e, e.1, e.2, h]
    · rw [if_neg e]
  have e2 : up2 a.S i j (a.S i j) = a.S := by
    funext x y
    show (if x = i ∧ y = j then a.S i j else a.S x y) = a.S x y
    by_cases e : x = i ∧ y = j
    · rw [if_pos e, e.1, e.2]
    · rw [if_neg e]
  rw [e1, e2]
theorem Lq.driftYes (h : Lq w W base c qs Bn Pn Wn Kn n L ops refused dark a) (i j k : Nat) (hi : i < Bn) (hj : j < Pn) (hst : a.st i j = 1) (hk : k < n) (u v : Int) (hu : u.natAbs ≤ 2000) (hv : v.natAbs ≤ 2000)
    (hx : ((a.P i j).getD k (0, 0)).1.natAbs ≤ 2000) (hy : ((a.P i j).getD k (0, 0)).2.natAbs ≤ 2000) (m1 : mayMove ((a.P i j).getD k (0, 0)).1 u = true) (m2 : mayMove ((a.P i j).getD k (0, 0)).2 v = true) :
    Calls Try.prog 24 #[ptr c, .int .i64 (i : Int), .int .i64 (j : Int), .int .i64 (k : Int), .complex .f64 (fd u 0) (fd v 0)] W fun e w' => e = .returned (.bool true) ∧
      Aside0 (Lq w w' base c qs Bn Pn Wn Kn n L ops refused dark { a with P := up2 a.P i j ((a.P i j).set k (((a.P i j).getD k (0, 0)).1 + u, ((a.P i j).getD k (0, 0)).2 + v)) }) ∧ Aside0 (Kq qs W w') := by
  obtain ⟨s, h1, h2, rfl, h4⟩ := h
  have hi' : i < s.Bn := by rw [h2.eB]; exact hi
  have hj' : j < s.Pn := by rw [h2.eP]; exact hj
  have hP := h2.P i j hi hj
  have hS := h2.S i j hi hj hst
  refine (driftCh h1.is h1.hi i j k hi' hj' ((h2.st i j hi hj).trans hst) (by rw [h2.en]; exact hk) u v hu hv (by rw [hP]; exact hx) (by rw [hP]; exact hy) (by rw [hP]; exact m1) (by rw [hP]; exact m2)).mono ?_
  rintro e w' ⟨rfl, k1, k2⟩
  refine ⟨rfl, Lq.got rfl h4 ⟨_, ⟨h1.step k1.out k2.out⟩, rfl, ⟨?_⟩, k2, ⟨fun _ _ => rfl⟩⟩⟩
  have h5 := h2.page i j ((s.bl i).pg j).g ((s.bl i).pg j).b ((a.P i j).set k (((a.P i j).getD k (0, 0)).1 + u, ((a.P i j).getD k (0, 0)).2 + v)) (a.S i j) 1 s.own
  rw [Abs.eta i j a hst] at h5
  rw [hP, hS]
  exact h5
theorem Lq.driftOut (h : Lq w W base c qs Bn Pn Wn Kn n L ops refused dark a) (i j : Nat) (k : Int) (hi : i < Bn) (hj : j < Pn) (hst : a.st i j ≠ 1) (x y : Nat) :
    Calls Try.prog 24 #[ptr c, .int .i64 (i : Int), .int .i64 (j : Int), .int .i64 k, .complex .f64 x y] W fun e w' => e = .returned (.bool false) ∧ w' = W := by
  obtain ⟨s, h1, h2, rfl, h4⟩ := h
  exact driftOutCh h1.is i j k (by rw [h2.eB]; exact hi) (by rw [h2.eP]; exact hj) (by rw [h2.st i j hi hj]; exact hst) x y
theorem Lq.worst (h : Lq w W base c qs Bn Pn Wn Kn n L ops refused dark a) (hP : ∀ i j, i < Bn → j < Pn → a.st i j = 1 → ∀ k, k < (a.P i j).length → ((a.P i j).getD k (0, 0)).1.natAbs ≤ 2000 ∧ ((a.P i j).getD k (0, 0)).2.natAbs ≤ 2000) (r : Int)
    (hr : mxO (fun i j => pageW Wn (a.st i j) (a.P i j) (a.S i j)) Pn Bn = r) :
    Calls Try.prog 25 #[ptr c] W fun e w' => e = .returned (.int .i64 r) ∧ Aside0 (Below W.heap.size W w') := by
  obtain ⟨s, h1, h2, rfl, h4⟩ := h
  have key := worstAllC h1.is (fun i j => pageW Wn (a.st i j) (a.P i j) (a.S i j)) (fun i j hi hj W1 hW => by
    have hi' : i < Bn := by rw [← h2.eB]; exact hi
    have hj' : j < Pn := by rw [← h2.eP]; exact hj
    have e1 := h2.st i j hi' hj'
    have e2 := h2.P i j hi' hj'
    have e3 : pageW s.Wn ((s.bl i).pg j).st ((s.bl i).pg j).P ((s.bl i).pg j).S = pageW Wn (a.st i j) (a.P i j) (a.S i j) := by
      rw [h2.eW, e1, e2]
      unfold pageW wrongsOf
      by_cases h5 : a.st i j = 1
      · rw [if_pos h5, if_pos h5, h2.S i j hi' hj' h5]
      · rw [if_neg h5, if_neg h5]
    have hh := worstPageC (h1.is.below hW) i j hi hj (fun h5 k hk => by
      rw [e1] at h5
      rw [e2] at hk ⊢
      exact hP i j hi' hj' h5 k hk)
    rw [e3] at hh
    exact hh)
  rw [h2.eB, h2.eP, hr] at key
  exact key
end
end Go.Proofs.Ytmddafefdleimaa.M
