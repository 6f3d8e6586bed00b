/- How a pair of numbers that came in as an argument is opened. Conditions: none. -/
import Derived.Test.YtjfoppmpiklfiaaOpens
import Derived.Lib.LaidTab
namespace Go.Proofs.Ytjfoppmpiklfiaa.Opens
open Go.ChangeShapes Go.WideShapes Go.ChangeAt Go.RowKit Go.Deep
variable {H : Type} {enc : TypeId × Value → H} {w : World} {base : Nat} {spare : Nat → Bool} {held : Bool}

theorem array_of2 {α : Type} {cs : Array α} (h : cs.size = 2) {a b : α} (h0 : cs.toList[0]? = some a) (h1 : cs.toList[1]? = some b) : cs = #[a, b] := by
  obtain ⟨l⟩ := cs
  match l, h with
  | [_, _], _ => simp at h0 h1; subst h0 h1; rfl
theorem und65 : Try.prog.underlying 65 = some (.array 2 3) := by kernel_rfl
theorem open_arr2 {r : Reach} {b0 : Nat} {v : Value} {d : DataW H} {p : List MemPlace} {ww : World} (hv : Value.okWide Try.prog ww r b0 65 v) (h : DataW.Trod enc Try.prog w base spare held 65 v d p) :
    ∃ (x y : Int), v = .agg #[.int .i64 x, .int .i64 y] ∧ (Lit.int .i64 x).wf = true ∧ (Lit.int .i64 y).wf = true := by
  have hv2 := hv
  simp only [Value.okWide, und65] at hv2
  obtain ⟨cs, rfl, hsz, _⟩ := hv2
  have hc : Try.prog.cellsOf 65 = 2 := by kernel_rfl
  have hc3 : Try.prog.cellsOf 3 = 1 := by kernel_rfl
  obtain ⟨fuel, hf⟩ := h
  simp only [Value.cells] at hf
  cases fuel with
  | zero => simp [DataW.trod] at hf
  | succ fuel =>
    simp only [DataW.trod, und65, hc3, hc, Nat.mul_one] at hf
    split at hf
    · rename_i hl
      obtain ⟨xs, hm, hx⟩ := Option.map_eq_some_iff.1 hf
      have hone : ∀ i, (hi : i < 2) → ((cs.toList.drop i).take 1) = [cs.toList[i]'(by simp; omega)] := fun i hi => by
        rw [List.drop_eq_getElem_cons (by simp; omega)]; rfl
      obtain ⟨b1, hb1, hf1⟩ := Lib.mapM_at hm 0 0 (by simp)
      obtain ⟨b2, hb2, hf2⟩ := Lib.mapM_at hm 1 1 (by simp)
      obtain ⟨x, e1, _, w1⟩ := DataW.trod_int Try.underlying3 hf1
      obtain ⟨y, e2, _, w2⟩ := DataW.trod_int Try.underlying3 hf2
      exact ⟨x, y, by rw [array_of2 (hsz.trans hc) (take1 e1) (take1 e2)], w1, w2⟩
    · cases hf
end Go.Proofs.Ytjfoppmpiklfiaa.Opens
