/- The law NumeralParts alone: for every text the printed function of the law answers true. Conditions: none. -/
import Derived.Test.YtjfoppmpiklfiabPNumeralPartsx4
import Derived.Test.YtjfoppmpiklfiabLinkNumeralParts
namespace Go.Proofs.Ytjfoppmpiklfiab.Pure
open Go.Proofs.Ytjfoppmpiklfiab.PNumeralParts

theorem NumeralParts : rifflelaw04_NumeralParts.Pure := fun a0 _ => ⟨900, Go.Proofs.Ytjfoppmpiklfiab.LinkNumeralParts.parts a0⟩

end Go.Proofs.Ytjfoppmpiklfiab.Pure
