/- The law GeoKnown of the seat: geometries by hand. -/
import Derived.Test.YtpfgciidpjmenaaKx4
namespace Go.Proofs.Ytpfgciidpjmenaa.Pure
open Go.RowKit Go.Proofs.Ytpfgciidpjmenaa.K Go.Proofs.YtpfgciidpjmenaaW.PrintWords Go.Proofs.YtpfgciidpjmenaaW.PrintLast
theorem GeoKnown : blackboardlaw7_GeoKnown.Pure := ⟨100, by decide +kernel⟩
end Go.Proofs.Ytpfgciidpjmenaa.Pure
