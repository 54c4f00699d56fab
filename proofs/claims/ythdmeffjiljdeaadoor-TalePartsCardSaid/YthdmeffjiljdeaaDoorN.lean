/- Tales: decimals; the text of one drift; by hand. -/
import Derived.Test.YthdmeffjiljdeaaDoorL
namespace Go.Proofs.YthdmeffjiljdeaaDoor.M
open Go.RowKit Go.Proofs.YthdmeffjiljdeaaDoorW.PrintWords Go.Proofs.YthdmeffjiljdeaaDoorW.PrintLast Go.Proofs.YthdmeffjiljdeaaDoorW.PrintMore Go.Proofs.YthdmeffjiljdeaaDoor.Rw Go.Proofs.YthdmeffjiljdeaaDoor.Fl
set_option linter.unusedVariables false
set_option linter.unusedSimpArgs false
/-- what holds of each number from -1000 to 1000 -/
def numOK (n : Int) : Bool :=
  wholeF (fw n) && (partF (fw n) == n) && (numF (Lib.itoa n) == (n, true)) && ((Lib.itoa n).all fun b => b != 32 && b != 10) && decide (1 ≤ (Lib.itoa n).length ∧ (Lib.itoa n).length ≤ 5)
theorem num_all : ((List.range 2001).all fun k => numOK ((k : Int) - 1000)) = true := by decide +kernel
theorem num_ok {n : Int} (h0 : -1000 ≤ n) (h1 : n ≤ 1000) : numOK n = true := by
  have h := List.all_eq_true.1 num_all (n + 1000).toNat (List.mem_range.2 (by omega))
  rwa [show (((n + 1000).toNat : Nat) : Int) - 1000 = n by omega] at h
/-- how decimals are put together -/
def decOK (n : Int) : Bool :=
  (if n ≤ -10 then Lib.itoa (n.tdiv 10) ++ Lib.itoa (-(n.tmod 10)) == Lib.itoa n else if n < 0 then 45 :: Lib.itoa (-n) == Lib.itoa n else if 9 < n then Lib.itoa (n.tdiv 10) ++ [UInt8.ofNat (48 + (n.tmod 10).toNat)] == Lib.itoa n else Lib.itoa n == [UInt8.ofNat (48 + n.toNat)])
theorem dec_all : ((List.range 2001).all fun k => decOK ((k : Int) - 1000)) = true := by decide +kernel
theorem dec_ok {n : Int} (h0 : -1000 ≤ n) (h1 : n ≤ 1000) : decOK n = true := by
  have h := List.all_eq_true.1 dec_all (n + 1000).toNat (List.mem_range.2 (by omega))
  rwa [show (((n + 1000).toNat : Nat) : Int) - 1000 = n by omega] at h
theorem neg0_whole : wholeF 9223372036854775808 = true := by decide +kernel
theorem neg0_part : partF 9223372036854775808 = 0 := by decide +kernel
end Go.Proofs.YthdmeffjiljdeaaDoor.M
