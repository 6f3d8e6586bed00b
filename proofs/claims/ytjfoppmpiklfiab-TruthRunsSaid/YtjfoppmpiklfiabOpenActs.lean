/- How a row of acts that came in as an argument is opened. Conditions: none. -/
import Derived.Test.YtjfoppmpiklfiabBookI
import Derived.Test.YtjfoppmpiklfiabRows
import Derived.ProofKit
import Derived.OpenShut
import Derived.ShutString
import Derived.ChangeOld
import Derived.SizedLaws
import Derived.Deep.Grids
import Derived.Deep.Slices
import Derived.Deep.Fields
import Derived.Lib.SmallJoins
namespace Go.Proofs.Ytjfoppmpiklfiab.Opens
open Go.ChangeShapes Go.WideShapes Go.ChangeAt Go.RowKit Go.Deep Go.Proofs.YtjfoppmpiklfiabW.PrintWords Go.Proofs.Ytjfoppmpiklfiab.BookW
variable {H : Type} {enc : TypeId × Value → H} {w : World} {base : Nat} {held : Bool}
theorem fld {t : TypeId} {fs : Array Field} {fuel : Nat} {cs : List Value} {x : DataW H × List MemPlace} (hs : Try.prog.underlying t = some (.struct fs)) (hone : oneCellFields Try.prog fs = true)
    (h : DataW.trod enc Try.prog w base (fun _ => true) held fuel t cs = some x) (i : Nat) (f : Field) (hi : fs[i]? = some f) :
    ∃ n y, DataW.trod enc Try.prog w base (fun _ => true) held n f.type ((cs.drop i).take 1) = some y := by
  obtain ⟨xs, n, _, rfl, hl, hlen, hf⟩ := DataW.trod_struct hs h
  obtain ⟨o, k⟩ := hone_of hone i f hi
  have := hf i f hi
  rw [o, k] at this
  have hlt : i < xs.length := by rw [hlen]; exact (Array.getElem?_eq_some_iff.1 hi).1
  exact ⟨n, xs[i], by rw [this]; simp [hlt]⟩
theorem take1 {α : Type} {cs : List α} {i : Nat} {c : α} (h : (cs.drop i).take 1 = [c]) : cs[i]? = some c := by
  have : ((cs.drop i).take 1)[0]? = some c := by rw [h]; rfl
  simpa [List.getElem?_take, List.getElem?_drop] using this
theorem fld_int {t : TypeId} {fs : Array Field} {fuel : Nat} {cs : List Value} {x : DataW H × List MemPlace} (hs : Try.prog.underlying t = some (.struct fs)) (hone : oneCellFields Try.prog fs = true)
    (h : DataW.trod enc Try.prog w base (fun _ => true) held fuel t cs = some x) (i : Nat) (f : Field) (hi : fs[i]? = some f) {k : IntKind} (ht : Try.prog.underlying f.type = some (.int k)) : ∃ n, cs[i]? = some (.int k n) := by
  obtain ⟨m, y, hy⟩ := fld hs hone h i f hi
  obtain ⟨n, e, _, _⟩ := DataW.trod_int ht hy
  exact ⟨n, take1 e⟩
theorem fld_bool {t : TypeId} {fs : Array Field} {fuel : Nat} {cs : List Value} {x : DataW H × List MemPlace} (hs : Try.prog.underlying t = some (.struct fs)) (hone : oneCellFields Try.prog fs = true)
    (h : DataW.trod enc Try.prog w base (fun _ => true) held fuel t cs = some x) (i : Nat) (f : Field) (hi : fs[i]? = some f) (ht : Try.prog.underlying f.type = some .bool) : ∃ n, cs[i]? = some (.bool n) := by
  obtain ⟨m, y, hy⟩ := fld hs hone h i f hi
  obtain ⟨n, e, _⟩ := DataW.trod_bool ht hy
  exact ⟨n, take1 e⟩
theorem fld_row {t : TypeId} {fs : Array Field} {fuel : Nat} {cs : List Value} {x : DataW H × List MemPlace} (hs : Try.prog.underlying t = some (.struct fs)) (hone : oneCellFields Try.prog fs = true)
    (h : DataW.trod enc Try.prog w base (fun _ => true) held fuel t cs = some x) (i : Nat) (f : Field) (hi : fs[i]? = some f) (ht : f.type = 42) :
    ∃ (l : List Int) (A : Option Addr) (c : Nat), cs[i]? = some (.slice A l.length c) ∧ l.length ≤ c ∧ (Kd.int .i64).C w A l.length l := by
  obtain ⟨m, y, hy⟩ := fld hs hone h i f hi
  rw [ht] at hy
  rcases open_ints Try.underlying42 Try.underlying3 (by kernel_rfl) hy with ⟨hcs, _⟩ | ⟨a, len, cap, zs, hcs, _, hl, hm, hz, _, hcell, _⟩
  · exact ⟨[], none, 0, take1 hcs, Nat.le_refl _, Kd.C_of_reads (d := (0 : Int)) ⟨rfl, by decide, fun h => absurd h (by simp)⟩⟩
  · have hz' : zs.length = cap := by simpa using hz
    have ht : (zs.take len).length = len := by rw [List.length_take]; omega
    refine ⟨zs.take len, some a, cap, by rw [ht]; exact take1 hcs, by omega, Kd.C_of_reads (d := (0 : Int)) ⟨rfl, by simp only [maxLen] at hm; omega, fun _ => ⟨_, rfl, fun j hj => ?_⟩⟩⟩
    rw [hcell j (by omega), List.getD_eq_getElem?_getD, List.getD_eq_getElem?_getD, List.getElem?_take_of_lt (by omega)]
instance : Inhabited S45 := ⟨z45⟩
theorem actU : ∃ fs : Array Field, Try.prog.underlying 45 = some (.struct fs) ∧ oneCellFields Try.prog fs = true ∧ (fs.map (·.type)) = #[3, 3, 3, 42, 4] := ⟨_, Try.underlying45, by kernel_rfl, by kernel_rfl⟩
theorem open_acts {fuel : Nat} {cs : List Value} {x : DataW H × List MemPlace} (h : DataW.trod enc Try.prog w base (fun _ => true) held fuel 37 cs = some x) :
    cs = [.slice none 0 0] ∨ ∃ (a : Addr) (len cap : Nat) (acts : List S45), cs = [.slice (some a) len cap] ∧ Kd.C k45 w (some a) len acts := by
  rcases open_slice Try.underlying37 h with h0 | ⟨a, len, cap, m, n, D, Pl, hcs, hb, hl, hm, hmm, hx, hi⟩
  · exact .inl h0.1
  right
  simp only [if_true] at hmm
  subst hmm
  obtain ⟨fs, hu, hone, hty⟩ := actU
  have ft : ∀ (i : Nat) (t : TypeId), (#[3, 3, 3, 42, 4] : Array TypeId)[i]? = some t → ∃ f : Field, fs[i]? = some f ∧ f.type = t := fun i t h => by
    rw [← hty, Array.getElem?_map] at h
    obtain ⟨f, hf, he⟩ := Option.map_eq_some_iff.1 h
    exact ⟨f, hf, he⟩
  have hC : Try.prog.cellsOf 45 = 5 := by kernel_rfl
  obtain ⟨B, hB⟩ := choose_lt (α := S45) (n := m) (p := fun i x => ∃ c : List Value, c.length = k45.sz ∧ k45.K w x c ∧ ∀ j u, c[j]? = some u → w.cell? (a.add (i * k45.sz + j)) = some u) (fun i him => by
    obtain ⟨cs', hc, ht'⟩ := hi i him
    rw [hC] at hc
    obtain ⟨_, hcl, hat⟩ := World.cells?_some hc
    obtain ⟨f0, g0, e0⟩ := ft 0 3 rfl
    obtain ⟨f1, g1, e1⟩ := ft 1 3 rfl
    obtain ⟨f2, g2, e2⟩ := ft 2 3 rfl
    obtain ⟨f3, g3, e3⟩ := ft 3 42 rfl
    obtain ⟨f4, g4, e4⟩ := ft 4 4 rfl
    obtain ⟨k0, h0⟩ := fld_int hu hone ht' 0 f0 g0 (by rw [e0]; exact Try.underlying3)
    obtain ⟨k1, h1⟩ := fld_int hu hone ht' 1 f1 g1 (by rw [e1]; exact Try.underlying3)
    obtain ⟨k2, h2⟩ := fld_int hu hone ht' 2 f2 g2 (by rw [e2]; exact Try.underlying3)
    obtain ⟨l3, A3, c3, h3, hl3, hC3⟩ := fld_row hu hone ht' 3 f3 g3 e3
    obtain ⟨b4, h4⟩ := fld_bool hu hone ht' 4 f4 g4 (by rw [e4]; exact Try.underlying4)
    refine ⟨⟨k0, k1, k2, l3, b4⟩, [.int .i64 k0, .int .i64 k1, .int .i64 k2, .slice A3 l3.length c3, .bool b4], rfl, k45_mk w ⟨k0, k1, k2, l3, b4⟩ hl3 hC3, fun j u hu2 => ?_⟩
    have e : cs' = [.int .i64 k0, .int .i64 k1, .int .i64 k2, .slice A3 l3.length c3, .bool b4] := by
      match cs', hcl with
      | [_, _, _, _, _], _ => simp at h0 h1 h2 h3 h4; subst h0 h1 h2 h3 h4; rfl
    have hj : j < 5 := by
      have := (List.getElem?_eq_some_iff.1 hu2).1
      simpa using this
    have h5 := hat j hj
    have e9 : a.add (i * k45.sz + j) = (a.add (i * 5)).add j := (Go.Deep.add_add a (i * 5) j).symm
    rw [e9, h5, e]
    exact hu2)
  refine ⟨a, len, m, (List.range len).map B, hcs, by simp, by simp only [maxLen] at hm; omega, fun _ => ⟨a, rfl, fun j p hj => ?_⟩⟩
  rw [List.getElem?_map] at hj
  obtain ⟨j', hj', rfl⟩ := Option.map_eq_some_iff.1 hj
  obtain ⟨hjl, he⟩ := List.getElem?_eq_some_iff.1 hj'
  rw [List.getElem_range] at he
  subst he
  rw [List.length_range] at hjl
  exact hB j (by omega)
end Go.Proofs.Ytjfoppmpiklfiab.Opens
