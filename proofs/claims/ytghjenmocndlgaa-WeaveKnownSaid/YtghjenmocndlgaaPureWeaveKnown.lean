/- The law WeaveKnown of the seat: a closed reckoning. -/
import Derived.Test.YtghjenmocndlgaaKx5
namespace Go.Proofs.Ytghjenmocndlgaa.Pure
open Go.RowKit Go.Proofs.Ytghjenmocndlgaa.K Go.Proofs.YtghjenmocndlgaaW.PrintWords Go.Proofs.YtghjenmocndlgaaW.PrintLast
theorem WeaveKnown : blackboardlaw6_WeaveKnown.Pure := ⟨60, by decide +kernel⟩
end Go.Proofs.Ytghjenmocndlgaa.Pure
