/- This proves, of the law OctetTells alone: for every byte the printed function of the law answers true. Conditions: none but that the number is a byte. -/
import Derived.Test.YtjfoppmpiklfiaaPOctetTellsx2
namespace Go.Proofs.Ytjfoppmpiklfiaa.Pure
open Go.RowKit Go.Proofs.Ytjfoppmpiklfiaa.POctetTells Go.Proofs.YtjfoppmpiklfiaaW.PrintWords Go.Proofs.YtjfoppmpiklfiaaW.PrintLast

set_option maxRecDepth 100000 in
theorem octetTells_all : ∀ n : Fin 256, rifflelaw01_OctetTells.f 40 (n.val : Int) = some true := by decide +kernel

theorem OctetTells : rifflelaw01_OctetTells.Pure := by
  intro a0 h
  have hb : 0 ≤ a0 ∧ a0 < 256 := by
    have h2 := h; simp [Lit.wf, IntKind.min, IntKind.max, IntKind.signed, IntKind.bits] at h2
    omega
  have h1 := octetTells_all ⟨a0.toNat, by omega⟩
  refine ⟨40, ?_⟩
  have e : ((a0.toNat : Nat) : Int) = a0 := Int.toNat_of_nonneg hb.1
  simpa [e] using h1

end Go.Proofs.Ytjfoppmpiklfiaa.Pure
