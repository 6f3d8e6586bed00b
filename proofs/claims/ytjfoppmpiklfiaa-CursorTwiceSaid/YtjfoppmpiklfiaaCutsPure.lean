/- Cutting bytes, plainly. Conditions: none. -/
import Derived.Test.YtjfoppmpiklfiaaPCursorCutsx1
import Derived.Test.YtjfoppmpiklfiaaPCursorCutsx2
namespace Go.Proofs.Ytjfoppmpiklfiaa.CutsPure
open Go.RowKit Go.Proofs.YtjfoppmpiklfiaaW.PrintWords Go.Proofs.YtjfoppmpiklfiaaW.PrintLast Go.Proofs.YtjfoppmpiklfiaaW.PrintMore Go.Proofs.Ytjfoppmpiklfiaa.PCursorCuts
/-- How many of the bytes the next chunk takes. -/
def much (s : Int) (n : Nat) : Nat := min s.toNat n
def cuts (b : List Int) : List Int → List (List Int)
  | [] => if b.length > 0 then [b] else []
  | s :: ss => b.take (much s b.length) :: cuts (b.drop (much s b.length)) ss
theorem cuts_flat : ∀ (ss b : List Int), (cuts b ss).flatten = b
  | [], b => by
    unfold cuts
    split
    · simp
    · have : b = [] := List.eq_nil_of_length_eq_zero (by omega)
      simp [this]
  | s :: ss, b => by
    unfold cuts
    rw [List.flatten_cons, cuts_flat ss, List.take_append_drop]
theorem cuts_len : ∀ (ss b : List Int), (cuts b ss).length ≤ ss.length + 1
  | [], b => by unfold cuts; split <;> simp
  | s :: ss, b => by unfold cuts; have := cuts_len ss (b.drop (much s b.length)); simp; omega
theorem mnmx (s : Int) (n : Nat) : mn (mx s 0) (n : Int) = (much s n : Int) := by
  unfold mn mx much
  omega
theorem cut_loop (ss : List Int) (hs : ss.length < 100000) : ∀ (d k : Nat) (b : List Int) (out : List (List Int)) (i : Nat), i + d = ss.length → d < k → b.length < 100000 → out.length ≤ i →
    cursor_Cut.l0 k b out ss (ss.length : Int) (i : Int) = some (out ++ cuts b (ss.drop i)) := by
  intro d
  induction d with
  | zero =>
    intro k b out i hi hk hb ho
    obtain ⟨k, rfl⟩ : ∃ m, k = m + 1 := ⟨k - 1, by omega⟩
    have e : ss.drop i = [] := List.drop_of_length_le (by omega)
    simp only [cursor_Cut.l0]
    rw [if_neg (by omega), e]
    unfold cuts
    by_cases h : b.length > 0
    · rw [if_pos (by omega), if_pos h]
      unfold slices_Clone_byte_byte.f
      rw [if_pos (by omega)]
      simp only [Option.bind_some]
      rw [if_pos (by omega)]
    · rw [if_neg (by omega), if_neg h, List.append_nil]
  | succ d ih =>
    intro k b out i hi hk hb ho
    obtain ⟨k, rfl⟩ : ∃ m, k = m + 1 := ⟨k - 1, by omega⟩
    have hlt : i < ss.length := by omega
    have hrd : rd ss (i : Int) = ss[i] := by unfold rd; rw [Int.toNat_natCast, List.getD_eq_getElem?_getD, List.getElem?_eq_getElem hlt]; rfl
    have hw : wrap64 ((i : Int) + 1) = ((i + 1 : Nat) : Int) := by unfold wrap64; omega
    have hm : much ss[i] b.length ≤ b.length := by unfold much; omega
    simp only [cursor_Cut.l0]
    rw [if_pos (by omega), if_pos (Int.natCast_nonneg _), if_pos (by omega), hrd, mnmx, if_pos (Int.natCast_nonneg _), if_pos (by omega), Int.toNat_natCast]
    unfold slices_Clone_byte_byte.f
    rw [if_pos (by rw [List.length_take]; omega)]
    simp only [Option.bind_some]
    rw [if_pos (by omega), hw, ih k _ _ (i + 1) (by omega) (by omega) (by rw [List.length_drop]; omega) (by simp; omega)]
    rw [List.drop_eq_getElem_cons hlt, cuts]
    simp
theorem cut_f (b ss : List Int) (hb : b.length < 100000) (hs : ss.length < 100000) (k : Nat) (hk : ss.length < k) : cursor_Cut.f k b ss = some (cuts b ss) := by
  have := cut_loop ss hs ss.length k b [] 0 (by omega) hk hb (by simp)
  simpa [cursor_Cut.f] using this
end Go.Proofs.Ytjfoppmpiklfiaa.CutsPure
