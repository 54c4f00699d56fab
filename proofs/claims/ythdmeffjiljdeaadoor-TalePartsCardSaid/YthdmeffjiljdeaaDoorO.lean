/- Tales: decimals walked; a line's pieces; by hand. -/
import Derived.Test.YthdmeffjiljdeaaDoorN
namespace Go.Proofs.YthdmeffjiljdeaaDoor.M
open Go.RowKit Go.Proofs.YthdmeffjiljdeaaDoorW.PrintWords Go.Proofs.YthdmeffjiljdeaaDoorW.PrintLast Go.Proofs.YthdmeffjiljdeaaDoorW.PrintMore Go.Proofs.YthdmeffjiljdeaaDoor.Rw Go.Proofs.YthdmeffjiljdeaaDoor.Fl
set_option linter.unusedVariables false
set_option linter.unusedSimpArgs false
theorem ix_at (c : UInt8) (r : List UInt8) : ∀ (p : List UInt8), (∀ b ∈ p, b ≠ c) → Lib.index (p ++ c :: r) [c] = p.length := by
  intro p h
  rw [Lib.index_one]
  induction p with
  | nil => simp [Lib.indexByte]
  | cons b p ih =>
    have h1 := ih (fun x hx => h x (List.mem_cons_of_mem _ hx))
    have h2 : (b == c) = false := beq_eq_false_iff_ne.2 (h b (List.mem_cons_self ..))
    show (if b == c then (0 : Int) else if Lib.indexByte (p ++ c :: r) c == -1 then -1 else Lib.indexByte (p ++ c :: r) c + 1) = _
    rw [h2, h1]
    have h3 : ((p.length : Int) == -1) = false := beq_eq_false_iff_ne.2 (by omega)
    rw [h3]
    simp
theorem ix_none (c : UInt8) : ∀ (p : List UInt8), (∀ b ∈ p, b ≠ c) → Lib.index p [c] = -1 := by
  intro p h
  rw [Lib.index_one]
  induction p with
  | nil => rfl
  | cons b p ih =>
    have h1 := ih (fun x hx => h x (List.mem_cons_of_mem _ hx))
    have h2 : (b == c) = false := beq_eq_false_iff_ne.2 (h b (List.mem_cons_self ..))
    show (if b == c then (0 : Int) else if Lib.indexByte p c == -1 then -1 else Lib.indexByte p c + 1) = -1
    rw [h2, h1]
    rfl
theorem cut_line (p r : List UInt8) (h : ∀ b ∈ p, b ≠ 10) : cutF (p ++ 10 :: r) = (p, r, true) := by
  unfold cutF Lib.cut
  rw [ix_at 10 r p h, if_pos (by omega), Int.toNat_natCast]
  have e1 : List.take p.length (p ++ 10 :: r) = p := by simp
  have e2 : List.drop (p.length + [10].length) (p ++ 10 :: r) = r := by
    rw [← List.drop_drop]
    simp
  rw [e1]
  exact congrArg (fun x => (p, x, true)) e2
theorem sp_cons (p r : List UInt8) (h : ∀ b ∈ p, b ≠ 32) : spF (p ++ 32 :: r) = p :: spF r := by
  have hi := ix_at 32 r p h
  have hd : List.drop (p.length + [(32 : UInt8)].length) (p ++ 32 :: r) = r := by
    rw [← List.drop_drop]
    simp
  have hc : Lib.countB ⟨(p ++ 32 :: r).toArray⟩ ⟨#[32]⟩ = 1 + Lib.countB ⟨r.toArray⟩ ⟨#[32]⟩ := by
    have h1 := Lib.count_hit (s := p ++ 32 :: r) (sub := [32]) (i := p.length) (by decide) hi
    rw [hd] at h1
    exact h1
  unfold spF
  rw [hc, Nat.add_comm 1]
  show (if Lib.index (p ++ 32 :: r) [32] == -1 then [p ++ 32 :: r] else (p ++ 32 :: r).take ((Lib.index (p ++ 32 :: r) [32]).toNat + 0) :: Lib.splitK [32] 0 (Lib.countB ⟨r.toArray⟩ ⟨#[32]⟩) ((p ++ 32 :: r).drop ((Lib.index (p ++ 32 :: r) [32]).toNat + [(32 : UInt8)].length))) = _
  rw [hi]
  have h3 : ((p.length : Int) == -1) = false := beq_eq_false_iff_ne.2 (by omega)
  rw [h3, Int.toNat_natCast, hd]
  simp
theorem sp_last (p : List UInt8) (h : ∀ b ∈ p, b ≠ 32) : spF p = [p] := by
  have hi := ix_none 32 p h
  have hc : Lib.countB ⟨p.toArray⟩ ⟨#[32]⟩ = 0 := Lib.count_miss hi
  unfold spF
  rw [hc]
  rfl
/-- the line of a drift of whole numbers -/
def dL (x y : Int) : List UInt8 := [100, 114, 105, 102, 116, 32, 48, 32, 48, 32, 48, 32] ++ (Lib.itoa x ++ (32 :: (Lib.itoa y ++ [32, 46])))
structure NumIs (n : Int) : Prop where
  w : wholeF (fw n) = true
  p : partF (fw n) = n
  f : numF (Lib.itoa n) = (n, true)
  b : ∀ b ∈ Lib.itoa n, b ≠ 32
  c : ∀ b ∈ Lib.itoa n, b ≠ 10
  l : (Lib.itoa n).length ≤ 5
theorem num_is {n : Int} (h0 : -1000 ≤ n) (h1 : n ≤ 1000) : NumIs n := by
  have h := num_ok h0 h1
  unfold numOK at h
  simp only [Bool.and_eq_true, beq_iff_eq, List.all_eq_true, bne_iff_ne, decide_eq_true_eq] at h
  exact ⟨h.1.1.1.1, h.1.1.1.2, h.1.1.2, fun b hb => (h.1.2 b hb).1, fun b hb => (h.1.2 b hb).2, h.2.2⟩
theorem dL_sp {x y : Int} (hx : NumIs x) (hy : NumIs y) : spF (dL x y) = [[100, 114, 105, 102, 116], [48], [48], [48], Lib.itoa x, Lib.itoa y, [46]] := by
  have e : dL x y = [100, 114, 105, 102, 116] ++ 32 :: ([48] ++ 32 :: ([48] ++ 32 :: ([48] ++ 32 :: (Lib.itoa x ++ 32 :: (Lib.itoa y ++ 32 :: [46]))))) := rfl
  rw [e, sp_cons _ _ (by decide), sp_cons _ _ (by decide), sp_cons _ _ (by decide), sp_cons _ _ (by decide), sp_cons _ _ hx.b, sp_cons _ _ hy.b, sp_last _ (by decide)]
theorem dL_cut {x y : Int} (hx : NumIs x) (hy : NumIs y) : cutF (dL x y ++ [10]) = (dL x y, [], true) := by
  refine cut_line (dL x y) [] ?_
  intro b hb
  unfold dL at hb
  rcases List.mem_append.1 hb with h | h
  · exact (by decide : ∀ b ∈ ([100, 114, 105, 102, 116, 32, 48, 32, 48, 32, 48, 32] : List UInt8), b ≠ 10) b h
  · rcases List.mem_append.1 h with h | h
    · exact hx.c b h
    · rcases List.mem_cons.1 h with h | h
      · rw [h]; decide
      · rcases List.mem_append.1 h with h | h
        · exact hy.c b h
        · exact (by decide : ∀ b ∈ ([32, 46] : List UInt8), b ≠ 10) b h
/-- the line of a drift -/
theorem drift_line {x y : Int} {fx fy : Nat} (wx : wholeF fx = true) (px : partF fx = x) (wy : wholeF fy = true) (py : partF fy = y) : lineF ⟨6, 0, 0, 0, fx, fy, []⟩ = dL x y ++ [10] := by
  unfold lineF
  dsimp only
  rw [if_neg (by rw [wx, wy]; decide), px, py]
  have e1 : wordF 6 = [100, 114, 105, 102, 116] := by decide
  have e2 : Lib.itoa 0 = [48] := by decide +kernel
  have e3 : (bytesB []).data.toList = [46] := by decide +kernel
  rw [e1, e2, e3]
  unfold dL Lib.join
  simp [List.intercalate]
theorem dL_event {x y : Int} (hx : NumIs x) (hy : NumIs y) : eventF (dL x y) = (⟨6, 0, 0, 0, fw x, fw y, []⟩, true) := by
  have hl := drift_line hx.w hx.p hy.w hy.p
  unfold eventF
  rw [dL_sp hx hy, if_pos (by rfl)]
  dsimp only
  have e0 : doF [100, 114, 105, 102, 116] 7 = 6 := by decide +kernel
  have e1 : numF [48] = (0, true) := by decide +kernel
  have e6 : unbF [46] = ([], true) := by decide +kernel
  have g0 : ([[100, 114, 105, 102, 116], [48], [48], [48], Lib.itoa x, Lib.itoa y, [46]] : List (List UInt8)).getD 0 [] = [100, 114, 105, 102, 116] := rfl
  have g1 : ([[100, 114, 105, 102, 116], [48], [48], [48], Lib.itoa x, Lib.itoa y, [46]] : List (List UInt8)).getD 1 [] = [48] := rfl
  have g2 : ([[100, 114, 105, 102, 116], [48], [48], [48], Lib.itoa x, Lib.itoa y, [46]] : List (List UInt8)).getD 2 [] = [48] := rfl
  have g3 : ([[100, 114, 105, 102, 116], [48], [48], [48], Lib.itoa x, Lib.itoa y, [46]] : List (List UInt8)).getD 3 [] = [48] := rfl
  have g4 : ([[100, 114, 105, 102, 116], [48], [48], [48], Lib.itoa x, Lib.itoa y, [46]] : List (List UInt8)).getD 4 [] = Lib.itoa x := rfl
  have g5 : ([[100, 114, 105, 102, 116], [48], [48], [48], Lib.itoa x, Lib.itoa y, [46]] : List (List UInt8)).getD 5 [] = Lib.itoa y := rfl
  have g6 : ([[100, 114, 105, 102, 116], [48], [48], [48], Lib.itoa x, Lib.itoa y, [46]] : List (List UInt8)).getD 6 [] = [46] := rfl
  have ok : okF [[100, 114, 105, 102, 116], [48], [48], [48], Lib.itoa x, Lib.itoa y, [46]] 5 = true := by
    simp only [okF, Nat.zero_add, Nat.reduceAdd, g1, g2, g3, g4, g5, e1, hx.f, hy.f]
    rfl
  rw [g0, g1, g2, g3, g4, g5, g6, e0, e1, hx.f, hy.f, e6, ok]
  dsimp only
  rw [hl]
  simp
theorem dL_read {x y : Int} (hx : NumIs x) (hy : NumIs y) : readF ((dL x y ++ [10]).length + 1) (dL x y ++ [10]) = some [⟨6, 0, 0, 0, fw x, fw y, []⟩] := by
  have hlen : (dL x y ++ [10]).length = (dL x y).length + 1 := by simp
  rw [hlen]
  have h1 : readF ((dL x y).length + 1 + 1) (dL x y ++ [10]) = if (cutF (dL x y ++ [10])).2.2 = true ∧ (eventF (cutF (dL x y ++ [10])).1).2 = true then (readF ((dL x y).length + 1) (cutF (dL x y ++ [10])).2.1).map ((eventF (cutF (dL x y ++ [10])).1).1 :: ·) else none := by
    conv => lhs; unfold readF
    rw [if_neg (by simp)]
  rw [h1, dL_cut hx hy, dL_event hx hy]
  rfl
theorem dL_len {x y : Int} (hx : NumIs x) (hy : NumIs y) : (dL x y ++ [10]).length ≤ 80000 := by
  have h1 := hx.l
  have h2 := hy.l
  unfold dL
  simp only [List.length_append, List.length_cons, List.length_nil]
  omega
end Go.Proofs.YthdmeffjiljdeaaDoor.M
