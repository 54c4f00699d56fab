/- The law WearKnown of the seat: blocks by hand. -/
import Derived.Test.YtkmdefelepmfiaaMx5
namespace Go.Proofs.Ytkmdefelepmfiaa.Pure
open Go.RowKit Go.Proofs.Ytkmdefelepmfiaa.M Go.Proofs.YtkmdefelepmfiaaW.PrintWords Go.Proofs.YtkmdefelepmfiaaW.PrintLast
theorem WearKnown : blackboardlaw13_WearKnown.Pure := ⟨60, by decide +kernel⟩
end Go.Proofs.Ytkmdefelepmfiaa.Pure
