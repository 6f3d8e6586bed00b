/- How a selector, and a pair of numbers, that came in as an argument is opened. Conditions: none. -/
import Derived.Test.YtjfoppmpiklfiaaRows
import Derived.WalkKit
import Derived.ProofKit
import Derived.OpenShut
import Derived.ShutString
import Derived.ChangeOld
import Derived.Below
import Derived.SizedLaws
import Derived.Lib.SmallJoins
namespace Go.Proofs.Ytjfoppmpiklfiaa.Opens
open Go.ChangeShapes Go.WideShapes Go.ChangeAt Go.RowKit Go.Deep
open Go.ChangeMaps (open_string shut_string)
variable {H : Type} {enc : TypeId × Value → H} {P : Program} {w : World} {base : Nat} {spare : Nat → Bool} {held : Bool}

theorem fld {t : TypeId} {fs : Array Field} {fuel : Nat} {cs : List Value} {x : DataW H × List MemPlace} (hs : P.underlying t = some (.struct fs)) (hone : oneCellFields P fs = true)
    (h : DataW.trod enc P w base spare held fuel t cs = some x) (i : Nat) (f : Field) (hi : fs[i]? = some f) :
    ∃ n y, DataW.trod enc P w base spare held n f.type ((cs.drop i).take 1) = some y := by
  obtain ⟨xs, n, _, rfl, hl, hlen, hf⟩ := DataW.trod_struct hs h
  obtain ⟨o, k⟩ := hone_of hone i f hi
  have := hf i f hi
  rw [o, k] at this
  have hlt : i < xs.length := by rw [hlen]; exact (Array.getElem?_eq_some_iff.1 hi).1
  exact ⟨n, xs[i], by rw [this]; simp [hlt]⟩

theorem take1 {α : Type} {cs : List α} {i : Nat} {c : α} (h : (cs.drop i).take 1 = [c]) : cs[i]? = some c := by
  have : ((cs.drop i).take 1)[0]? = some c := by rw [h]; rfl
  simpa [List.getElem?_take, List.getElem?_drop] using this

theorem fld_int {t : TypeId} {fs : Array Field} {fuel : Nat} {cs : List Value} {x : DataW H × List MemPlace} (hs : P.underlying t = some (.struct fs)) (hone : oneCellFields P fs = true)
    (h : DataW.trod enc P w base spare held fuel t cs = some x) (i : Nat) (f : Field) (hi : fs[i]? = some f) {k : IntKind} (ht : P.underlying f.type = some (.int k)) :
    ∃ n, cs[i]? = some (.int k n) ∧ (Lit.int k n).wf = true := by
  obtain ⟨m, y, hy⟩ := fld hs hone h i f hi
  obtain ⟨n, e, _, wf⟩ := DataW.trod_int ht hy
  exact ⟨n, take1 e, wf⟩
theorem fld_bool {t : TypeId} {fs : Array Field} {fuel : Nat} {cs : List Value} {x : DataW H × List MemPlace} (hs : P.underlying t = some (.struct fs)) (hone : oneCellFields P fs = true)
    (h : DataW.trod enc P w base spare held fuel t cs = some x) (i : Nat) (f : Field) (hi : fs[i]? = some f) (ht : P.underlying f.type = some .bool) :
    ∃ n, cs[i]? = some (.bool n) := by
  obtain ⟨m, y, hy⟩ := fld hs hone h i f hi
  obtain ⟨n, e, _⟩ := DataW.trod_bool ht hy
  exact ⟨n, take1 e⟩
theorem fld_string {t : TypeId} {fs : Array Field} {fuel : Nat} {cs : List Value} {x : DataW H × List MemPlace} (hs : P.underlying t = some (.struct fs)) (hone : oneCellFields P fs = true)
    (h : DataW.trod enc P w base spare held fuel t cs = some x) (i : Nat) (f : Field) (hi : fs[i]? = some f) (ht : P.underlying f.type = some .string) :
    ∃ n : ByteArray, cs[i]? = some (.string n) ∧ n.size ≤ maxLen := by
  obtain ⟨m, y, hy⟩ := fld hs hone h i f hi
  obtain ⟨n, e, _, hn⟩ := DataW.trod_string ht hy
  exact ⟨n, take1 e, hn⟩

theorem array_of8 {α : Type} {cs : Array α} (h : cs.size = 8) {a b c d e f g i : α} (h0 : cs.toList[0]? = some a) (h1 : cs.toList[1]? = some b) (h2 : cs.toList[2]? = some c) (h3 : cs.toList[3]? = some d)
    (h4 : cs.toList[4]? = some e) (h5 : cs.toList[5]? = some f) (h6 : cs.toList[6]? = some g) (h7 : cs.toList[7]? = some i) : cs = #[a, b, c, d, e, f, g, i] := by
  obtain ⟨l⟩ := cs
  match l, h with
  | [_, _, _, _, _, _, _, _], _ => simp at h0 h1 h2 h3 h4 h5 h6 h7; subst h0 h1 h2 h3 h4 h5 h6 h7; rfl

theorem selU : oneCellFields Try.prog #[{ name := "Kind", type := 3, offset := 0, embedded := false, tag := "", pkgPath := "", byteOffset := 0 },
        { name := "Name", type := 9, offset := 1, embedded := false, tag := "", pkgPath := "", byteOffset := 8 },
        { name := "Index", type := 3, offset := 2, embedded := false, tag := "", pkgPath := "", byteOffset := 24 },
        { name := "Start", type := 3, offset := 3, embedded := false, tag := "", pkgPath := "", byteOffset := 32 },
        { name := "End", type := 3, offset := 4, embedded := false, tag := "", pkgPath := "", byteOffset := 40 },
        { name := "HasStart", type := 4, offset := 5, embedded := false, tag := "", pkgPath := "", byteOffset := 48 },
        { name := "HasEnd", type := 4, offset := 6, embedded := false, tag := "", pkgPath := "", byteOffset := 49 },
        { name := "Stride", type := 3, offset := 7, embedded := false, tag := "", pkgPath := "", byteOffset := 56 }] = true := by kernel_rfl

theorem open_sel {r : Reach} {b0 : Nat} {v : Value} {d : DataW H} {p : List MemPlace} {ww : World} (hv : Value.okWide Try.prog ww r b0 53 v) (h : DataW.Trod enc Try.prog w base spare held 53 v d p) :
    ∃ (k : Int) (n : ByteArray) (i s e : Int) (hs he : Bool) (st : Int), v = .agg #[.int .i64 k, .string n, .int .i64 i, .int .i64 s, .int .i64 e, .bool hs, .bool he, .int .i64 st] ∧ n.size ≤ maxLen ∧
      (Lit.int .i64 k).wf = true ∧ (Lit.int .i64 i).wf = true ∧ (Lit.int .i64 s).wf = true ∧ (Lit.int .i64 e).wf = true ∧ (Lit.int .i64 st).wf = true := by
  obtain ⟨cs, rfl, hsz⟩ := okWide_struct Try.underlying53 hv
  obtain ⟨fuel, hf⟩ := h
  simp only [Value.cells] at hf
  obtain ⟨k, e0, w0⟩ := fld_int Try.underlying53 selU hf 0 _ rfl Try.underlying3
  obtain ⟨n, e1, w1⟩ := fld_string Try.underlying53 selU hf 1 _ rfl Try.underlying9
  obtain ⟨i, e2, w2⟩ := fld_int Try.underlying53 selU hf 2 _ rfl Try.underlying3
  obtain ⟨s, e3, w3⟩ := fld_int Try.underlying53 selU hf 3 _ rfl Try.underlying3
  obtain ⟨e, e4, w4⟩ := fld_int Try.underlying53 selU hf 4 _ rfl Try.underlying3
  obtain ⟨hs, e5⟩ := fld_bool Try.underlying53 selU hf 5 _ rfl Try.underlying4
  obtain ⟨he, e6⟩ := fld_bool Try.underlying53 selU hf 6 _ rfl Try.underlying4
  obtain ⟨st, e7, w7⟩ := fld_int Try.underlying53 selU hf 7 _ rfl Try.underlying3
  have hc : Try.prog.cellsOf 53 = 8 := by kernel_rfl
  exact ⟨k, n, i, s, e, hs, he, st, by rw [array_of8 (hsz.trans hc) e0 e1 e2 e3 e4 e5 e6 e7], w1, w0, w2, w3, w4, w7⟩
end Go.Proofs.Ytjfoppmpiklfiaa.Opens
