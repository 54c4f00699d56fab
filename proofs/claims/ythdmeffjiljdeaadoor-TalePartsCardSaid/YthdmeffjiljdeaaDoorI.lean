/- Tales: a text is read; by hand. -/
import Derived.Test.YthdmeffjiljdeaaDoorH
namespace Go.Proofs.YthdmeffjiljdeaaDoor.M
open Go.RowKit Go.Proofs.YthdmeffjiljdeaaDoorW.PrintWords Go.Proofs.YthdmeffjiljdeaaDoorW.PrintLast Go.Proofs.YthdmeffjiljdeaaDoorW.PrintMore Go.Proofs.YthdmeffjiljdeaaDoor.Rw Go.Proofs.YthdmeffjiljdeaaDoor.Fl
set_option linter.unusedVariables false
set_option linter.unusedSimpArgs false
attribute [local go_sem] run_store_complex
theorem below_drawnN {w W : World} {b n : Nat} (h : Below b w W) : Below b w (W.drewN n) := pw_below_drewN h _
theorem cutC (s : List UInt8) (hs : s.length ≤ 90000) (w : World) (h : GV w) :
    Calls Tryd.prog 11 #[strV s, .string ⟨#[10]⟩] w fun e w' => e = .returned (.tuple #[strV (cutF s).1, strV (cutF s).2.1, .bool (cutF s).2.2]) ∧ Aside0 (Below w.heap.size w w') := by
  obtain ⟨m, hm⟩ := h.ml
  refine (Tryd.strings_Cut ⟨s.toArray⟩ ⟨#[10]⟩ m w (by rw [tl_str]; omega) hm).mono ?_
  rintro e w' ⟨rfl, n, rfl⟩
  exact ⟨rfl, ⟨pw_below_drewN (Below.refl _ _) _⟩⟩
/-- what Read answers -/
def readPost (w : World) (r : Option (List Ev)) (o : Ending) (w' : World) : Prop :=
  match r with
  | none => o = .returned (.tuple #[.slice none 0 0, .int .i64 12])
  | some es => ∃ A c items, items.map (·.1) = es ∧ o = .returned (.tuple #[.slice A es.length c, .int .i64 0]) ∧ EvsR A items w'
set_option maxRecDepth 20000 in
set_option maxHeartbeats 6400000 in
theorem readC (s : List UInt8) (hs : s.length ≤ 80000) (w : World) (h : GV w) :
    Calls Tryd.prog 7 #[strV s] w fun o w' => Aside0 (readPost w (readF (s.length + 1) s) o w') ∧ Aside0 (Below w.heap.size w w') := by
  have HG := Aside0.mk h
  obtain ⟨b, hb⟩ : ∃ b, w.heap.size = b := ⟨_, rfl⟩
  have HBs := Aside0.mk hb
  obtain ⟨res, hres⟩ : ∃ res, readF (s.length + 1) s = res := ⟨_, rfl⟩
  have HRe := Aside0.mk hres
  rw [hres]
  have HC := Aside0.mk cutC
  have HE := Aside0.mk eventC
  obtain ⟨T, hT⟩ : ∃ T : ByteArray, (⟨s.toArray⟩ : ByteArray) = T := ⟨_, rfl⟩
  unfold strV
  rw [hT]
  have HT := Aside0.mk hT
  have HL0 : Aside0 (EL b (.slice none 0 0) [] w w) := ⟨⟨⟨rfl, .inl ⟨rfl, rfl⟩⟩, fun p hp => (by cases hp), fun p hp => (by cases hp), Below.refl _ _⟩⟩
  have Hs := Aside0.mk hs
  clear h hres hT hs hb
  go_enter Tryd.func7, Tryd.ntmps7
  go_wp2
  go_loopw [0, 4] (fun v0 v4 wr => ∃ (n : Nat) (R : List UInt8) (items : List (Ev × Value)), v0 = .string ⟨R.toArray⟩ ∧ R.length < n ∧ items.length + R.length ≤ s.length ∧ readF (s.length + 1) s = (readF n R).map (items.map (·.1) ++ ·) ∧ Aside0 (EL b v4 items w wr)) (fun v0 _ _ => match v0 with | .string x => x.size | _ => 0)
  case atStart => exact ⟨s.length + 1, s, [], by rw [HT.out], by omega, by simp, by cases readF (s.length + 1) s <;> rfl, HL0⟩
  case round =>
    clear HL0
    obtain ⟨n, R, items, rfl, hRn, hRi, hrd, HL⟩ := hrel
    obtain ⟨m, rfl⟩ : ∃ m, n = m + 1 := ⟨n - 1, by omega⟩
    have HB := Aside0.mk HL.out.bel
    by_cases hR : R = []
    · subst hR
      have HRes : Aside0 (res = some (items.map (·.1))) := ⟨by rw [← HRe.out, hrd]; unfold readF; rw [if_pos rfl]; simp⟩
      have hlen : (items.map (·.1)).length = items.length := List.length_map _
      obtain ⟨A4, c4, hu4⟩ : ∃ A c, u4 = .slice A items.length c := by
        rcases HL.out.own.2 with ⟨e, hz⟩ | ⟨g, cap, cur, e, -⟩
        · exact ⟨none, 0, by rw [e, hz]⟩
        · exact ⟨_, _, e⟩
      subst hu4
      obtain ⟨T0, hT0⟩ : ∃ T0 : ByteArray, (⟨([] : List UInt8).toArray⟩ : ByteArray) = T0 := ⟨_, rfl⟩
      have hne : T0.toList.isEmpty = true := by rw [← hT0, ByteArray.toList_mk]; rfl
      rw [hT0]
      have Hlen := Aside0.mk hlen
      clear hT0 hrd HRe hlen
      go_wp2
      go_ret2
      refine ⟨⟨?_⟩, ⟨?_⟩⟩
      · rw [HRes.out]
        exact ⟨A4, c4, items, rfl, by rw [Hlen.out]; rfl, HL.out.reads⟩
      · rw [HBs.out]; exact HB.out
    · have hRl : R.length ≤ 80000 := by have := Hs.out; omega
      have HGr : Aside0 (GV wr) := ⟨HG.out.below (by rw [HBs.out]; exact HB.out)⟩
      have HCr := Aside0.mk (HC.out R (by omega) wr HGr.out)
      have HEr := Aside0.mk (fun W hW => HE.out (cutF R).1 (by have := cut_le R; omega) W hW)
      have hne0 : R ≠ [] := hR
      have hstep : readF (m + 1) R = if (cutF R).2.2 = true ∧ (eventF (cutF R).1).2 = true then (readF m (cutF R).2.1).map ((eventF (cutF R).1).1 :: ·) else none := by
        conv => lhs; unfold readF
        rw [if_neg hne0]
      have Hst := Aside0.mk (hrd.trans (congrArg _ hstep))
      have Hin := Aside0.mk (eventF_in (cutF R).1 (by have := cut_le R; omega))
      have Hhit := Aside0.mk (fun hh => cut_hit (s := R) hh)
      obtain ⟨T1, hT1⟩ : ∃ T1 : ByteArray, (⟨R.toArray⟩ : ByteArray) = T1 := ⟨_, rfl⟩
      have hne : T1.toList.isEmpty = false := by
        rw [← hT1, ByteArray.toList_mk]
        cases R with
        | nil => exact absurd rfl hne0
        | cons x l => rfl
      have HT1 := Aside0.mk hT1
      unfold strV at HCr
      rw [hT1] at HCr ⊢
      clear hT1 hstep hrd hne0 hR
      obtain ⟨L1, hL1⟩ : ∃ L1, (cutF R).1 = L1 := ⟨_, rfl⟩
      obtain ⟨R2, hR2⟩ : ∃ R2, (cutF R).2.1 = R2 := ⟨_, rfl⟩
      obtain ⟨f, hf⟩ : ∃ f, (cutF R).2.2 = f := ⟨_, rfl⟩
      rw [hL1, hR2, hf] at HCr Hst Hhit
      rw [hL1] at HEr Hin
      clear hL1 hR2 hf
      obtain ⟨S1, hS1⟩ : ∃ S1 : ByteArray, (⟨L1.toArray⟩ : ByteArray) = S1 := ⟨_, rfl⟩
      unfold strV at HEr
      rw [hS1] at HCr HEr
      obtain ⟨e, ok, hev⟩ : ∃ e ok, eventF L1 = (e, ok) := ⟨_, _, rfl⟩
      rw [hev] at HEr Hst Hin
      dsimp only at HEr Hst Hin
      obtain ⟨d, a1, a2, a3, x4, x5, ud⟩ := e
      unfold Ev.cells at HEr
      dsimp only at HEr Hin
      obtain ⟨S2, hS2⟩ : ∃ S2 : ByteArray, (⟨R2.toArray⟩ : ByteArray) = S2 := ⟨_, rfl⟩
      rw [hS2] at HCr
      have HS2 := Aside0.mk hS2
      clear hS1 hev hS2
      go_upto_region 4 with (first | (go_at_call 11; (refine HCr.out.mono ?_); rintro o w2 ⟨rfl, HB2⟩))
      have HL2 : Aside0 (EL b u4 items w w2) := ⟨HL.out.below HB2.out (by rw [← HBs.out]; exact HB.out.size)⟩
      have HG2 : Aside0 (GV w2) := ⟨HG.out.below (by rw [HBs.out]; exact HL2.out.bel)⟩
      have HE2 := Aside0.mk (HEr.out w2 HG2.out)
      clear HEr HCr HC HE HL HB HGr HB2
      go_upto_region 5 with (first | (go_at_call 12; (refine HE2.out.mono ?_); rintro o w3 ⟨Ad, cd, rfl, HO3, HB3⟩))
      have hz3 : (w3.alloc (.cells #[.int .i64 d, .int .i64 a1, .int .i64 a2, .int .i64 a3, .complex .f64 x4 x5, .slice Ad ud.length cd] 32)).heap[w3.heap.size]? = some (.cells #[.int .i64 d, .int .i64 a1, .int .i64 a2, .int .i64 a3, .complex .f64 x4 x5, .slice Ad ud.length cd] 32 (0, 0)) := blk_new w3 _
      have hB4 := below_alloc (Below.refl w3.heap.size w3) (.cells #[.int .i64 d, .int .i64 a1, .int .i64 a2, .int .i64 a3, .complex .f64 x4 x5, .slice Ad ud.length cd] 32)
      have hsz3 : (w3.alloc (.cells #[.int .i64 d, .int .i64 a1, .int .i64 a2, .int .i64 a3, .complex .f64 x4 x5, .slice Ad ud.length cd] 32)).heap.size = w3.heap.size + 1 := by simp
      generalize w3.alloc (.cells #[.int .i64 d, .int .i64 a1, .int .i64 a2, .int .i64 a3, .complex .f64 x4 x5, .slice Ad ud.length cd] 32) = w4 at *
      obtain ⟨q, hq⟩ : ∃ q, w3.heap.size = q := ⟨_, rfl⟩
      have hk0 := (blk_cell hz3 0).trans rfl
      have hk1 := (blk_cell hz3 1).trans rfl
      have hk2 := (blk_cell hz3 2).trans rfl
      have hk3 := (blk_cell hz3 3).trans rfl
      have hk4 := (blk_cell hz3 4).trans rfl
      have hk5 := (blk_cell hz3 5).trans rfl
      have HL4 : Aside0 (EL b u4 items w w4) := ⟨(HL2.out.below HB3.out (by rw [← HBs.out]; exact HL2.out.bel.size)).below hB4 (by rw [← HBs.out]; exact Nat.le_trans HL2.out.bel.size HB3.out.size)⟩
      have HO4 : Aside0 (OwnB w2.heap.size (.slice Ad ud.length cd) ud w4) := ⟨HO3.out.below hB4⟩
      have H24 : Aside0 (w2.heap.size ≤ w4.heap.size ∧ b ≤ w2.heap.size) := ⟨by have := HB3.out.size; omega, by rw [← HBs.out]; exact HL2.out.bel.size⟩
      have Hne : Aside0 (∀ g, u4.ownBlock = some g → (Value.slice Ad ud.length cd).ownBlock ≠ some g) := ⟨fun g hg hv => by
        have h1 := (HL2.out.own.lt g hg).2
        have h2 := (HO3.out.1.lt g hv).1
        omega⟩
      rw [hq] at hk0 hk1 hk2 hk3 hk4 hk5 ⊢
      clear hz3 hB4 hsz3 hq HO3 HB3 HE2 HG2 HL2
      cases f with
      | false =>
        have HRes : Aside0 (res = none) := ⟨by rw [← HRe.out, Hst.out, if_neg (fun hh => by cases hh.1)]; rfl⟩
        clear hk0 hk1 hk2 hk3 hk4 hk5
        go_wp2
        go_ret2
        refine ⟨⟨?_⟩, ⟨?_⟩⟩
        · rw [HRes.out]; rfl
        · rw [HBs.out]; exact HL4.out.bel
      | true =>
        cases ok with
        | false =>
          have HRes : Aside0 (res = none) := ⟨by rw [← HRe.out, Hst.out, if_neg (fun hh => by cases hh.2)]; rfl⟩
          clear hk0 hk1 hk2 hk3 hk4 hk5
          go_wp2
          go_ret2
          refine ⟨⟨?_⟩, ⟨?_⟩⟩
          · rw [HRes.out]; rfl
          · rw [HBs.out]; exact HL4.out.bel
        | true =>
          have Hev : Aside0 (EvOK ⟨d, a1, a2, a3, x4, x5, ud⟩) := ⟨Hin.out HO4.out.2⟩
          have Hst2 : Aside0 (readF (s.length + 1) s = (readF m R2).map ((items ++ [((⟨d, a1, a2, a3, x4, x5, ud⟩ : Ev), Value.slice Ad ud.length cd)]).map (·.1) ++ ·)) := ⟨by
            rw [Hst.out, if_pos ⟨rfl, rfl⟩]
            cases readF m R2 <;> simp⟩
          have Hlen : Aside0 (R.length = L1.length + 1 + R2.length) := ⟨by
            have := congrArg List.length (Hhit.out rfl)
            simp only [List.length_append, List.length_cons, List.length_nil] at this
            exact this⟩
          have hil : items.length ≤ 1000000 := by have := Hs.out; omega
          have Hnum := Aside0.mk (And.intro hRn hRi)
          clear Hst Hhit hRn hRi
          go_wp2_with (first | ((with_reducible refine gate_builtin (b := .append) (xs := #[.tmp 29, .tmp 31]) rfl ?_); at_builtin; refine ev_step (e := ⟨d, a1, a2, a3, x4, x5, ud⟩) (vd := .slice Ad ud.length cd) rfl (.tmp 29) (.tmp 31) rfl rfl rfl (HL4.out.below (below_alloc (Below.refl _ _) _) (Nat.le_trans H24.out.2 H24.out.1)) hil (blk_new _ _) (Nat.le_trans (Nat.le_trans H24.out.2 H24.out.1) (below_alloc (Below.refl _ _) _).size) Hev.out ⟨Ad, cd, rfl⟩ ((HO4.out.low H24.out.2).below (below_alloc (Below.refl _ _) _)) Hne.out (fun gg cap w6 HL6 HS6 => ?_)))
          clear HL4 HO4 Hne hk0 hk1 hk2 hk3 hk4 hk5
          go_roundw
          case rel => exact ⟨m, R2, _, by rw [HS2.out], by have := Hlen.out; have := Hnum.out.1; omega, by have h1 := Hlen.out; have h2 := Hnum.out.2; rw [List.length_append]; simp only [List.length_cons, List.length_nil]; omega, Hst2.out, HL6⟩
          case measure =>
            show (S2.size) < T1.size
            rw [← HS2.out, ← HT1.out, tl_str, tl_str]
            have := Hlen.out
            omega
end Go.Proofs.YthdmeffjiljdeaaDoor.M
