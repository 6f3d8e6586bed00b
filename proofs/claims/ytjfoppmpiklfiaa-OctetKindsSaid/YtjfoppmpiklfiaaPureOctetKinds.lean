/- This proves, of the law OctetKinds alone: the printed function of the law answers true. Conditions: none. -/
import Derived.Test.YtjfoppmpiklfiaaPOctetKindsx2
namespace Go.Proofs.Ytjfoppmpiklfiaa.Pure
open Go.RowKit Go.Proofs.Ytjfoppmpiklfiaa.POctetKinds Go.Proofs.YtjfoppmpiklfiaaW.PrintWords Go.Proofs.YtjfoppmpiklfiaaW.PrintLast

set_option maxRecDepth 100000 in
theorem OctetKinds : rifflelaw01_OctetKinds.Pure := ⟨400, by decide +kernel⟩

end Go.Proofs.Ytjfoppmpiklfiaa.Pure
