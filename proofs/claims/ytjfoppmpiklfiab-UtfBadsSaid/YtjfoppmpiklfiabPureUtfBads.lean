/- The law UtfBads alone: for every text the printed function of the law answers true. Conditions: none. -/
import Derived.Test.YtjfoppmpiklfiabPUtfBadsx3
import Derived.Test.YtjfoppmpiklfiabLinkUtfBads
namespace Go.Proofs.Ytjfoppmpiklfiab.Pure
open Go.Proofs.Ytjfoppmpiklfiab.PUtfBads

theorem UtfBads : rifflelaw02_UtfBads.Pure := fun a0 _ => ⟨3000, Go.Proofs.Ytjfoppmpiklfiab.LinkUtfBads.bads a0⟩

end Go.Proofs.Ytjfoppmpiklfiab.Pure
