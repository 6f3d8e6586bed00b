/- The law UtfParts alone: for every two texts the printed function of the law answers true. Conditions: none. -/
import Derived.Test.YtjfoppmpiklfiabPUtfPartsx2
import Derived.Test.YtjfoppmpiklfiabLinkUtfParts
namespace Go.Proofs.Ytjfoppmpiklfiab.Pure
open Go.Proofs.Ytjfoppmpiklfiab.PUtfParts

theorem UtfParts : rifflelaw02_UtfParts.Pure := fun a0 a1 _ _ => ⟨3000, Go.Proofs.Ytjfoppmpiklfiab.LinkUtfParts.parts a0 a1⟩

end Go.Proofs.Ytjfoppmpiklfiab.Pure
