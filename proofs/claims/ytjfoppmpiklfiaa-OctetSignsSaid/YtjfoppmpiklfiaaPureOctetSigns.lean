/- This proves, of the law OctetSigns alone: for every number the printed function of the law answers true. Conditions: none but that the number is one of 64 bits. -/
import Derived.Test.YtjfoppmpiklfiaaPOctetSignsx2
namespace Go.Proofs.Ytjfoppmpiklfiaa.Pure
open Go.RowKit Go.Proofs.Ytjfoppmpiklfiaa.POctetSigns Go.Proofs.YtjfoppmpiklfiaaW.PrintWords Go.Proofs.YtjfoppmpiklfiaaW.PrintLast

set_option maxRecDepth 100000 in
theorem octetSigns_in : ∀ n : Fin 16, rifflelaw01_OctetSigns.f 40 (n.val : Int) = some true := by decide +kernel
set_option maxRecDepth 100000 in
theorem alive_so : rifflelaw01_octetAlive.f 40 = some true := by decide +kernel
set_option maxRecDepth 100000 in
theorem hex_nought : octet_Hex.f 40 48 = some (0, true) := by decide +kernel

theorem lower_out (a : Int) (h : a < 0 ∨ 16 ≤ a) : octet_Lower.f a = some 48 := by
  have e : bt (⟨#[48, 49, 50, 51, 52, 53, 54, 55, 56, 57, 97, 98, 99, 100, 101, 102]⟩ : ByteArray) 0 = 48 := by decide +kernel
  unfold octet_Lower.f
  rcases h with h | h
  · rw [if_pos h, if_pos (by omega), e]
  · rw [if_neg (by omega), if_pos (by omega), if_pos (by omega), e]

theorem ref_out (a : Int) (h : a < 0 ∨ 16 ≤ a) : riffleref01_Lower.f 40 a = some 48 := by
  unfold riffleref01_Lower.f
  rcases h with h | h
  · rw [if_neg (by omega)]; simp only [riffleref01_Lower.j0]; rw [if_neg (by simp), if_neg (by omega)]
  · rw [if_pos (by omega)]; simp only [riffleref01_Lower.j0]; rw [if_neg (by simp; omega), if_pos (by omega), if_neg (by omega)]

theorem OctetSigns : rifflelaw01_OctetSigns.Pure := by
  intro a0 _
  refine ⟨40, ?_⟩
  by_cases h : a0 < 0 ∨ 16 ≤ a0
  · unfold rifflelaw01_OctetSigns.f
    rw [alive_so]; simp only [Option.bind_some, if_true]
    rw [lower_out a0 h]; simp only [Option.bind_some]
    rw [hex_nought, ref_out a0 h]; simp only [Option.bind_some, if_true]
    rcases h with h | h
    · rw [if_neg (by omega), if_pos h]; rfl
    · rw [if_neg (by omega), if_neg (by omega), if_pos (by omega)]; rfl
  · have h1 := octetSigns_in ⟨a0.toNat, by omega⟩
    have e : ((a0.toNat : Nat) : Int) = a0 := Int.toNat_of_nonneg (by omega)
    simpa [e] using h1

end Go.Proofs.Ytjfoppmpiklfiaa.Pure
