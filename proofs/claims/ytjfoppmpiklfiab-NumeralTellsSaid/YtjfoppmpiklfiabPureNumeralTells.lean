/- The law NumeralTells alone: for every text the printed function of the law answers true. Conditions: none. -/
import Derived.Test.YtjfoppmpiklfiabPNumeralTellsx5
import Derived.Test.YtjfoppmpiklfiabLinkNumeralTells
namespace Go.Proofs.Ytjfoppmpiklfiab.Pure
open Go.Proofs.Ytjfoppmpiklfiab.PNumeralTells

theorem NumeralTells : rifflelaw04_NumeralTells.Pure := fun a0 _ => ⟨900, Go.Proofs.Ytjfoppmpiklfiab.LinkNumeralTells.tells a0⟩

end Go.Proofs.Ytjfoppmpiklfiab.Pure
