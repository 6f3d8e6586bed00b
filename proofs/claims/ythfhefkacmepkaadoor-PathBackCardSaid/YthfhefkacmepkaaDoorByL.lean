/- A text's bytes as a list of numbers. Conditions: none. -/
import Derived.Test.YthfhefkacmepkaaDoorWWords
namespace Go.Proofs.YthfhefkacmepkaaDoor.Num
open Go.Proofs.YthfhefkacmepkaaDoorW.PrintWords
set_option linter.unusedVariables false
def L (s : ByteArray) : List Int := s.data.toList.map fun b => (b.toNat : Int)
theorem L_len (s : ByteArray) : (L s).length = s.size := by simp [L]
theorem bt_L (s : ByteArray) (i : Nat) (c : Int) (h : (L s)[i]? = some c) : bt s i = c := by
  have hl : i < s.size := by
    rw [← L_len]; exact (List.getElem?_eq_some_iff.1 h).1
  unfold bt
  rw [dif_pos (by simpa using hl)]
  simp only [L, List.getElem?_map, Option.map_eq_some_iff] at h
  obtain ⟨b, hb, rfl⟩ := h
  congr 1; congr 1
  have h2 : s.data.toList[i]? = some (s[i]'hl) := by
    rw [List.getElem?_eq_getElem (by simpa using hl)]; rfl
  rw [h2] at hb
  simpa using hb
theorem bt0 {s : ByteArray} {c : Int} {r : List Int} (h : L s = c :: r) : bt s 0 = c := bt_L s 0 c (by rw [h]; rfl)
theorem ext_L (s : ByteArray) (a : Nat) : L (s.extract a s.size) = (L s).drop a := by
  unfold L
  rw [ByteArray.data_extract, Array.toList_extract, List.map_take, List.map_drop]
  apply List.take_of_length_le
  simp
theorem take_L (s : ByteArray) (a : Nat) : L (s.extract 0 a) = (L s).take a := by
  unfold L
  rw [ByteArray.data_extract, Array.toList_extract, List.map_take, List.map_drop]
  simp
theorem app_L (a b : ByteArray) : L (a ++ b) = L a ++ L b := by
  unfold L; simp
theorem L_range (s : ByteArray) : ∀ c ∈ L s, 0 ≤ c ∧ c < 256 := by
  intro c hc
  simp only [L, List.mem_map] at hc
  obtain ⟨b, _, rfl⟩ := hc
  have := b.toNat_lt
  omega

theorem size_ext (s : ByteArray) (a : Nat) : (s.extract a s.size).size = s.size - a := by
  rw [← L_len, ext_L, List.length_drop, L_len]
theorem nil_iff (s : ByteArray) : L s = [] ↔ s.size = 0 := by rw [← L_len]; exact List.length_eq_zero_iff.symm
theorem str_L (c : Int) (h0 : 0 ≤ c) (h1 : c < 256) : L (strOfNums [c]) = [c] := by
  unfold strOfNums L
  simp
  omega
end Go.Proofs.YthfhefkacmepkaaDoor.Num
