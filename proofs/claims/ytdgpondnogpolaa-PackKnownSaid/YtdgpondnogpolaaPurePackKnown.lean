/- The law PackKnown of the seat: a closed reckoning. -/
import Derived.Test.YtdgpondnogpolaaMx8
namespace Go.Proofs.Ytdgpondnogpolaa.Pure
open Go.RowKit Go.Proofs.Ytdgpondnogpolaa.M Go.Proofs.YtdgpondnogpolaaW.PrintWords Go.Proofs.YtdgpondnogpolaaW.PrintLast
theorem PackKnown : blackboardlaw5_PackKnown.Pure := ⟨60, by decide +kernel⟩
end Go.Proofs.Ytdgpondnogpolaa.Pure
