/- Tales: the bytes of a word; by hand. -/
import Derived.Test.YthdmeffjiljdeaaDoorC
namespace Go.Proofs.YthdmeffjiljdeaaDoor.M
open Go.RowKit Go.Proofs.YthdmeffjiljdeaaDoorW.PrintWords Go.Proofs.YthdmeffjiljdeaaDoorW.PrintLast Go.Proofs.YthdmeffjiljdeaaDoorW.PrintMore Go.Proofs.YthdmeffjiljdeaaDoor.Rw Go.Proofs.YthdmeffjiljdeaaDoor.Fl
set_option linter.unusedVariables false
set_option linter.unusedSimpArgs false
/-- the append of one byte, at a plain region's list -/
theorem one_step {ops : Array Oper} {rest : List Oper} {o : Oper} {a : Act} {W W2 : World} {Q : Exit → Act → World → Prop} {base p n : Nat} {v : Value} {xs : List Value} {x1 : Int} {w0 : World}
    (hgd : o.guard = none) (sx x : Operand) (ho : o.op = .call { callee := .builtin .append, args := #[sx, x], argTypes := #[29, 29] }) (hs : a.eval sx = v) (hx : a.eval x = .slice (some ⟨p, 0, none⟩) 1 1)
    (h : W.ownsRow base 5 1 v n xs) (hn : n ≤ 1000000) (hb : Below W.heap.size W W2) (hq : W2.heap[p]? = some (.cells #[.int .u8 x1] 5 (0, 0))) (hbase : base ≤ W.heap.size) (hw0 : Below base w0 W)
    (hK : ∀ v1 W3, Aside0 (W3.ownsRow base 5 1 v1 (n + 1) (xs ++ [.int .u8 x1])) → Aside0 (Below base w0 W3) → wpList Tryd.prog ops Q rest (a.put o.dst v1) W3) :
    wpList Tryd.prog ops Q (o :: rest) a W2 := by
  obtain ⟨i5, hi5, hz⟩ := Option.map_eq_some_iff.1 info5
  simp only [Prod.mk.injEq] at hz
  have hrow : W2.ownsRow base 5 1 v n xs := own_move h (fun k hk => hb.block k ((h.lt k hk).2))
  have hlen : base ≤ W2.heap.size := Nat.le_trans hbase hb.size
  refine wpList_append_lies W2 hgd sx x 29 ho base 5 i5 (.int .u8 0) 1 1 Tryd.underlying29 hi5 hz.1 hz.2.1 hz.2.2 rfl (by decide) v n _ hs hrow ⟨p, 0, none⟩ 1 1 [.int .u8 x1] hx rfl (fun j y hy => World.news_of_block hq j y (by simpa using hy)) (by simp [Value.oneCell']) (by decide) (Nat.le_trans (Nat.add_le_add_right hn 1) (by decide)) (by omega) hlen _ rfl (fun gg cap W3 h1 h2 h3 h4 => ?_)
  exact hK _ W3 ⟨h1⟩ ⟨Below.grown (Below.trans hw0 (hb.mono hbase)) h2 hlen (fun k hk => (h.lt k hk).1)⟩
/-- which figure of sixteen -/
def hexI (b : UInt8) : Int := Lib.indexByte hexB.data.toList b
theorem hexI_ge (b : UInt8) : -1 ≤ hexI b := Lib.indexByte_ge _ _
theorem hexI_lt (b : UInt8) : hexI b < 16 := by
  have : ∀ n : Fin 256, hexI (UInt8.ofNat n.val) < 16 := by decide +kernel
  have h := this ⟨b.toNat, b.toNat_lt⟩
  rwa [UInt8.ofNat_toNat] at h
def unhex : List UInt8 → Option (List Int)
  | a :: b :: r => if hexI a < 0 ∨ hexI b < 0 then none else (unhex r).map ((hexI a * 16 + hexI b) :: ·)
  | _ => some []
def unbF (s : List UInt8) : List Int × Bool :=
  if s.length % 2 = 0 ∨ s.head? ≠ some 46 then ([], false) else match unhex s.tail with | some l => (l, true) | none => ([], false)
theorem or16 {x y : Int} (h0 : 0 ≤ x) (h1 : x < 16) (h2 : 0 ≤ y) (h3 : y < 16) : bits .or .i64 (x * 16) y = x * 16 + y := by
  obtain ⟨n, rfl⟩ : ∃ n : Nat, x = (n : Int) := ⟨x.toNat, by omega⟩
  obtain ⟨m, rfl⟩ : ∃ n : Nat, y = (n : Int) := ⟨y.toNat, by omega⟩
  have h4 : n < 16 := by omega
  have h5 : m < 16 := by omega
  clear h0 h1 h2 h3
  revert m
  revert n
  decide +kernel
theorem tl_str (l : List UInt8) : (⟨l.toArray⟩ : ByteArray).size = l.length := List.size_toArray
theorem drop_str (l : List UInt8) (k : Nat) : (⟨l.toArray⟩ : ByteArray).extract k (⟨l.toArray⟩ : ByteArray).size = ⟨(l.drop k).toArray⟩ := by
  rw [tl_str]
  have := Lib.extract_toList ⟨l.toArray⟩ k l.length
  rw [ByteArray.extract_mk] at *
  apply congrArg ByteArray.mk
  simp
  exact List.take_of_length_le (by simp)
/-- a row of bytes that is the call's own -/
def OwnB (base : Nat) (v : Value) (l : List Int) (w : World) : Prop := w.ownsRow base 5 1 v l.length (l.map (Value.int .u8)) ∧ ∀ x ∈ l, 0 ≤ x ∧ x ≤ 255
theorem OwnB.nil (b : Nat) (w : World) : OwnB b (.slice none 0 0) [] w := ⟨⟨by simp, .inl ⟨rfl, rfl⟩⟩, fun x hx => by cases hx⟩
theorem wrap_i64_self {x : Int} (h0 : -9223372036854775808 ≤ x) (h1 : x ≤ 9223372036854775807) : IntKind.i64.wrap x = x := by rw [IntKind.wrap_i64]; omega
set_option maxHeartbeats 3200000 in
theorem unbytesC (s : List UInt8) (hs : s.length ≤ 100000) (w : World) :
    Calls Tryd.prog 22 #[.string ⟨s.toArray⟩] w fun e w' => ∃ v, e = .returned (.tuple #[v, .bool (unbF s).2]) ∧ Aside0 (OwnB w.heap.size v (unbF s).1 w') ∧ Aside0 (Below w.heap.size w w') := by
  have HB0 := Aside0.mk (Below.refl w.heap.size w)
  have HN : Aside0 (w.ownsRow w.heap.size 5 1 (.slice none 0 0) 0 []) := ⟨by simp, .inl ⟨rfl, rfl⟩⟩
  by_cases h2 : s.length % 2 = 0
  · have hF : unbF s = ([], false) := by unfold unbF; rw [if_pos (.inl h2)]
    rw [hF]
    have h3 : ((s.length : Nat) : Int).tmod 2 = 0 := by rw [Int.tmod_eq_emod_of_nonneg (by omega)]; omega
    obtain ⟨S, hS⟩ : ∃ S : ByteArray, (⟨s.toArray⟩ : ByteArray) = S := ⟨_, rfl⟩
    have hz : S.size = s.length := by rw [← hS]; exact tl_str s
    rw [← hz] at h3
    rw [hS]
    clear hF h2 hS hs hz
    go_enter Tryd.func22, Tryd.ntmps22
    go_wp2
    go_ret2
    exact ⟨_, rfl, ⟨HN.out, fun x hx => by cases hx⟩, HB0⟩
  · obtain ⟨b, r, rfl⟩ : ∃ b r, s = b :: r := by
      cases s with
      | nil => exact absurd rfl h2
      | cons b r => exact ⟨b, r, rfl⟩
    have h3 : (((b :: r).length : Nat) : Int).tmod 2 = 1 := by rw [Int.tmod_eq_emod_of_nonneg (by omega)]; omega
    obtain ⟨S, hS⟩ : ∃ S : ByteArray, (⟨(b :: r).toArray⟩ : ByteArray) = S := ⟨_, rfl⟩
    have hz : S.size = (b :: r).length := by rw [← hS]; exact tl_str _
    rw [← hz] at h3
    have hlt : 0 < S.size := by rw [hz]; exact Nat.succ_pos _
    have hb0 : S[0]'hlt = b := by subst hS; rfl
    by_cases hb : b = 46
    · subst hb
      have hF : unbF (46 :: r) = (match unhex r with | some l => (l, true) | none => ([], false)) := by unfold unbF; rw [if_neg]; rfl; rintro (h | h); exact h2 h; exact h rfl
      obtain ⟨res, hres⟩ : ∃ res, unbF (46 :: r) = res := ⟨_, rfl⟩
      have HRe := Aside0.mk (hF.symm.trans hres)
      rw [hres]
      have hdrop : S.extract 1 S.size = ⟨r.toArray⟩ := by rw [← hS]; exact drop_str (46 :: r) 1
      have hb1 : ((S[0]'hlt).toNat : Int) = 46 := by rw [hb0]; rfl
      have hle : 1 ≤ S.size := hlt
      have hr2 : r.length % 2 = 0 := by simp only [List.length_cons] at h2; omega
      have hr5 : r.length ≤ 100000 := by simp only [List.length_cons] at hs; omega
      rw [hS]
      have HRl := Aside0.mk (And.intro hr2 hr5)
      clear hF h2 hS hs hz hb0 hr2 hr5 hres
      go_enter Tryd.func22, Tryd.ntmps22
      go_wp2
      clear hb1 h3 hle hdrop
      go_loopw [0, 4] (fun v0 v4 wr => ∃ (R : List UInt8) (xs : List Int), v0 = .string ⟨R.toArray⟩ ∧ R.length % 2 = 0 ∧ 2 * xs.length + R.length ≤ 100000 ∧ unhex r = (unhex R).map (xs ++ ·) ∧ Aside0 (OwnB w.heap.size v4 xs wr) ∧ Aside0 (Below w.heap.size w wr)) (fun v0 _ _ => match v0 with | .string x => x.size | _ => 0)
      case atStart => exact ⟨r, [], rfl, HRl.out.1, by simp; exact HRl.out.2, by cases unhex r <;> rfl, ⟨HN.out, fun x hx => by cases hx⟩, HB0⟩
      case round =>
        obtain ⟨R, xs, rfl, hR2, hRx, hun, HO, HB⟩ := hrel
        cases R with
        | nil =>
          have hun2 : unhex r = some xs := by rw [hun]; show some (xs ++ []) = _; rw [List.append_nil]
          have HRes : Aside0 (res = (xs, true)) := ⟨by have := HRe.out; rw [hun2] at this; exact this.symm⟩
          clear hun hun2 hR2 hRx HRe
          obtain ⟨T, hT⟩ : ∃ T : ByteArray, (⟨([] : List UInt8).toArray⟩ : ByteArray) = T := ⟨_, rfl⟩
          have hne : T.toList.isEmpty = true := by rw [← hT, ByteArray.toList_mk]; rfl
          rw [hT]
          clear hT
          go_wp2
          go_ret2
          exact ⟨_, by rw [HRes.out]; rfl, by rw [HRes.out]; exact HO, HB⟩
        | cons a R1 =>
          cases R1 with
          | nil => exact absurd hR2 (by simp)
          | cons b R =>
            have HH := Aside0.mk hun
            obtain ⟨T, hT⟩ : ∃ T : ByteArray, (⟨(a :: b :: R).toArray⟩ : ByteArray) = T := ⟨_, rfl⟩
            have hTz : T.size = (a :: b :: R).length := by rw [← hT]; exact tl_str _
            have hlt0 : 0 < T.size := by rw [hTz]; exact Nat.succ_pos _
            have hlt1 : 1 < T.size := by rw [hTz]; simp
            have hle2 : 2 ≤ T.size := hlt1
            have hlt1i : (1 : Int) < (T.size : Int) := by omega
            have ha0 : T[0]'hlt0 = a := by subst hT; rfl
            have hb0 : T[1]'hlt1 = b := by subst hT; rfl
            have hdr : T.extract 2 T.size = ⟨R.toArray⟩ := by rw [← hT]; exact drop_str (a :: b :: R) 2
            have hne : T.toList.isEmpty = false := by rw [← hT, ByteArray.toList_mk]; rfl
            have hIa : ∀ W, Calls Tryd.prog 33 #[.string hexB, .int .u8 ((T[0]'hlt0).toNat : Int)] W fun e w' => e = .returned (.int .i64 (hexI a)) ∧ w' = W := by
              intro W
              have := Tryd.strings_IndexByte hexB ((T[0]'hlt0).toNat : Int) W
              rw [ha0] at this ⊢
              rw [show ((a.toNat : Int).toNat).toUInt8 = a from UInt8.ofNat_toNat] at this
              exact this
            have hIb : ∀ W, Calls Tryd.prog 33 #[.string hexB, .int .u8 ((T[1]'hlt1).toNat : Int)] W fun e w' => e = .returned (.int .i64 (hexI b)) ∧ w' = W := by
              intro W
              have := Tryd.strings_IndexByte hexB ((T[1]'hlt1).toNat : Int) W
              rw [hb0] at this ⊢
              rw [show ((b.toNat : Int).toNat).toUInt8 = b from UInt8.ofNat_toNat] at this
              exact this
            obtain ⟨ua, hua⟩ : ∃ u : Int, ((T[0]'hlt0).toNat : Int) = u := ⟨_, rfl⟩
            obtain ⟨ub, hub⟩ : ∃ u : Int, ((T[1]'hlt1).toNat : Int) = u := ⟨_, rfl⟩
            rw [hua] at hIa
            rw [hub] at hIb
            have HIa := Aside0.mk hIa
            have HIb := Aside0.mk hIb
            have hx0 := hexI_ge a
            have hx1 := hexI_lt a
            have hy0 := hexI_ge b
            have hy1 := hexI_lt b
            rw [hT]
            clear hIa hIb ha0 hb0 hT hun
            have HR2 := Aside0.mk hR2
            have HRx := Aside0.mk hRx
            have HTz := Aside0.mk hTz
            clear hR2 hRx hTz
            by_cases hxn : hexI a < 0
            · have HRes : Aside0 (res = ([], false)) := ⟨by have := HRe.out; rw [HH.out] at this; unfold unhex at this; rw [if_pos (.inl hxn)] at this; exact this.symm⟩
              clear HRe HH
              go_upto_region 7 with (fail)
              go_quiet ((first
                | (go_at_call 33; with_reducible exact Calls.quiet_of_same (HIa.out _))
                | (go_at_call 33; with_reducible exact Calls.quiet_of_same (HIb.out _))))
              go_wp2
              go_ret2
              exact ⟨_, by rw [HRes.out]; rfl, by rw [HRes.out]; exact ⟨OwnB.nil _ _⟩, ⟨pw_below_drewN HB.out _⟩⟩
            · by_cases hyn : hexI b < 0
              · have HRes : Aside0 (res = ([], false)) := ⟨by have := HRe.out; rw [HH.out] at this; unfold unhex at this; rw [if_pos (.inr hyn)] at this; exact this.symm⟩
                clear HRe HH
                go_upto_region 7 with (fail)
                go_quiet ((first
                  | (go_at_call 33; with_reducible exact Calls.quiet_of_same (HIa.out _))
                  | (go_at_call 33; with_reducible exact Calls.quiet_of_same (HIb.out _))))
                go_wp2
                go_ret2
                exact ⟨_, by rw [HRes.out]; rfl, by rw [HRes.out]; exact ⟨OwnB.nil _ _⟩, ⟨pw_below_drewN HB.out _⟩⟩
              · have HH2 : Aside0 (unhex r = Option.map (fun x => (xs ++ [hexI a * 16 + hexI b]) ++ x) (unhex R)) := ⟨by
                  rw [HH.out]; unfold unhex; rw [if_neg (by omega)]
                  conv => rhs; rw [← unhex.eq_def]
                  cases unhex R <;> simp⟩
                clear HH HRe
                generalize hexI a = x at *
                generalize hexI b = y at *
                have hor := or16 (x := x) (y := y) (by omega) hx1 (by omega) hy1
                have hw1 : IntKind.i64.wrap (x * 16) = x * 16 := wrap_i64_self (by omega) (by omega)
                go_upto_region 7 with (fail)
                go_quiet ((first
                  | (go_at_call 33; with_reducible exact Calls.quiet_of_same (HIa.out _))
                  | (go_at_call 33; with_reducible exact Calls.quiet_of_same (HIb.out _))))
                have hu8 : (x * 16 + y) % 256 = x * 16 + y := by omega
                have HB2 : Aside0 (Below w.heap.size w (wr.drewN nq)) := ⟨pw_below_drewN HB.out _⟩
                have HO2 : Aside0 ((wr.drewN nq).ownsRow w.heap.size 5 1 u4 xs.length (xs.map (Value.int .u8))) := ⟨own_move HO.out.1 (fun k hk => rfl)⟩
                have HXs := Aside0.mk HO.out.2
                have hxl : xs.length ≤ 1000000 := by have := HRx.out; omega
                generalize wr.drewN nq = wq at *
                clear HO HB HIa HIb
                go_wp2_with (first | ((with_reducible refine gate_builtin (b := .append) (xs := #[.tmp 34, .tmp 40]) rfl ?_); at_builtin; refine one_step (x1 := x * 16 + y) rfl (.tmp 34) (.tmp 40) rfl rfl rfl HO2.out hxl (below_alloc (Below.refl _ _) _) (blk_new _ _) HB2.out.size HB2.out (fun v1 w3 HO3 HB3 => ?_)))
                have HO4 : Aside0 (OwnB w.heap.size v1 (xs ++ [x * 16 + y]) w3) := ⟨by
                  have h4 := HO3.out
                  refine ⟨?_, ?_⟩
                  · rw [List.map_append, List.length_append]; exact h4
                  · intro z hz; rcases List.mem_append.1 hz with h | h
                    · exact HXs.out z h
                    · rw [List.mem_singleton.1 h]; omega⟩
                clear HO2 HO3 HB2
                go_roundw
                case rel => exact ⟨R, _, rfl, by have := HR2.out; simp only [List.length_cons] at this; omega, by have := HRx.out; simp only [List.length_cons, List.length_append, List.length_nil] at this ⊢; omega, HH2.out, HO4, HB3⟩
                case measure => simp; rw [HTz.out, tl_str]; simp; omega
    · have hF : unbF (b :: r) = ([], false) := by
        unfold unbF
        rw [if_pos (.inr (fun e => hb (Option.some.inj e)))]
      rw [hF]
      have hb1 : ¬ (b.toNat = 46) := fun e => hb (UInt8.toNat_inj.1 e)
      have hb3 : ((S[0]'hlt).toNat : Int) ≠ 46 := by rw [hb0]; omega
      rw [hS]
      clear hF h2 hS hs hz hb0 hb hb1
      go_enter Tryd.func22, Tryd.ntmps22
      go_wp2
      go_ret2
      exact ⟨_, rfl, ⟨HN.out, fun x hx => by cases hx⟩, HB0⟩
end Go.Proofs.YthdmeffjiljdeaaDoor.M
