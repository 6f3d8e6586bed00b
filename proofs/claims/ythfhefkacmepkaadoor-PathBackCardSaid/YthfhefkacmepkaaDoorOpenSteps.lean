/- How a row of steps that came in as an argument is opened; the table of powers of ten. Conditions: none. -/
import Derived.Test.YthfhefkacmepkaaDoorPWalk
import Derived.Test.YthfhefkacmepkaaDoorRows
import Derived.ProofKit
import Derived.OpenShut
import Derived.ShutString
import Derived.ChangeOld
import Derived.ChangeSame
import Derived.SizedLaws
import Derived.Deep.Grids
import Derived.Deep.Slices
import Derived.Deep.Fields
import Derived.Lib.SmallJoins
import Derived.Lib.LaidTab
namespace Go.Proofs.YthfhefkacmepkaaDoor.Opens
open Go.ChangeShapes Go.WideShapes Go.ChangeAt Go.RowKit Go.Deep Go.Proofs.YthfhefkacmepkaaDoorW.PrintWords Go.Proofs.YthfhefkacmepkaaDoor.PPathPuts
variable {H : Type} {enc : TypeId × Value → H} {w : World} {base : Nat} {held : Bool}
instance : Inhabited S26 := ⟨z26⟩
theorem weightsAll_mem {P : Program} {e : TypeId} : ∀ {l : List (DataW H)} {d : DataW H} {n : Nat}, d ∈ l → n ∈ d.weights P e → n ∈ DataW.weightsAll P e l
  | d0 :: r, d, n, hd, hn => by
    simp only [DataW.weightsAll, List.mem_append]
    rcases List.mem_cons.1 hd with rfl | hd
    · exact .inl hn
    · exact .inr (weightsAll_mem hd hn)
theorem str_weight (d0 d2 : DataW H) (s : List UInt8) : s.length ∈ (DataW.agg [d0, .lit (.string s), d2]).weights Tryd.prog 26 := by
  simp only [DataW.weights, Tryd.underlying26]
  simp [DataW.weightsEach, DataW.weights]
set_option maxRecDepth 100000 in
theorem open_steps {fuel : Nat} {cs : List Value} {x : DataW H × List MemPlace} (h : DataW.trod enc Tryd.prog w base (fun _ => true) held fuel 22 cs = some x) (hw : ∀ n ∈ x.1.weights Tryd.prog 22, n ≤ reachBytes) :
    cs = [.slice none 0 0] ∨ ∃ (a : Addr) (len cap : Nat) (l : List S26), cs = [.slice (some a) len cap] ∧ len ≤ cap ∧ Kd.C k26 w (some a) len l ∧ ∀ y ∈ l, y.f1.size ≤ 140737488355328 := by
  rcases open_slice Tryd.underlying22 h with h0 | ⟨a, len, cap, m, n, D, Pl, hcs, hb, hl, hm, hmm, hx, hi⟩
  · exact .inl h0.1
  right
  simp only [if_true] at hmm
  subst hmm
  have hC : Tryd.prog.cellsOf 26 = 3 := by kernel_rfl
  have c4 : Tryd.prog.cellsOf 4 = 1 := by kernel_rfl
  have c9 : Tryd.prog.cellsOf 9 = 1 := by kernel_rfl
  have c3 : Tryd.prog.cellsOf 3 = 1 := by kernel_rfl
  obtain ⟨B, hB⟩ := choose_lt (α := S26) (n := len) (p := fun i x => (∃ c : List Value, c.length = k26.sz ∧ k26.K w x c ∧ ∀ j u, c[j]? = some u → w.cell? (a.add (i * k26.sz + j)) = some u) ∧ x.f1.size ≤ 140737488355328) (fun i him => by
    obtain ⟨cs', hc, ht'⟩ := hi i (by omega)
    rw [hC] at hc
    obtain ⟨_, hcl, hat⟩ := World.cells?_some hc
    obtain ⟨y0, y1, y2, k, hD, hlen, t0, t1, t2⟩ := trod_struct3 Tryd.underlying26 ht'
    match cs', hcl with
    | [v0, v1, v2], _ =>
      simp only [c4, c9, c3, List.drop_zero, List.drop_succ_cons, List.take_succ_cons, List.take_zero] at t0 t1 t2
      obtain ⟨b, hb0, _⟩ := DataW.trod_bool Tryd.underlying4 t0
      obtain ⟨s, hs0, hs1, _⟩ := DataW.trod_string Tryd.underlying9 t1
      obtain ⟨z, hz0, _⟩ := DataW.trod_int Tryd.underlying3 t2
      simp only [List.cons.injEq, and_true] at hb0 hs0 hz0
      subst hb0 hs0 hz0
      refine ⟨⟨b, s, z⟩, ⟨[.bool b, .string s, .int .i64 z], rfl, k26_mk w ⟨b, s, z⟩, fun j u hu2 => ?_⟩, ?_⟩
      · have hj : j < 3 := by
          have := (List.getElem?_eq_some_iff.1 hu2).1
          simpa using this
        have h5 := hat j hj
        have e9 : a.add (i * k26.sz + j) = (a.add (i * 3)).add j := (Go.Deep.add_add a (i * 3) j).symm
        rw [e9, h5]
        exact hu2
      · have hDi : D i = .agg [y0.1, .lit (.string s.data.toList), y2.1] := by
          have := congrArg Prod.fst hD
          rw [hs1] at this
          simpa using this
        have hin : s.data.toList.length ∈ x.1.weights Tryd.prog 22 := by
          rw [hx]
          simp only [DataW.weights, Tryd.underlying22]
          refine List.mem_cons_of_mem _ (List.mem_append_left _ (weightsAll_mem (d := D i) (List.mem_map.2 ⟨i, List.mem_range.2 him, rfl⟩) ?_))
          rw [hDi]
          exact str_weight _ _ _
        have := hw _ hin
        simp only [reachBytes] at this
        have e : s.data.toList.length = s.size := rfl
        show s.size ≤ 140737488355328
        omega)
  refine ⟨a, len, m, (List.range len).map B, hcs, hl, ⟨by simp, by simp only [maxLen] at hm; omega, fun _ => ⟨a, rfl, fun j p hj => ?_⟩⟩, fun y hy => ?_⟩
  · rw [List.getElem?_map] at hj
    obtain ⟨j', hj', rfl⟩ := Option.map_eq_some_iff.1 hj
    obtain ⟨hjl, he⟩ := List.getElem?_eq_some_iff.1 hj'
    rw [List.getElem_range] at he
    subst he
    rw [List.length_range] at hjl
    exact (hB j hjl).1
  · obtain ⟨j, hj, rfl⟩ := List.mem_map.1 hy
    exact (hB j (List.mem_range.1 hj)).2
end Go.Proofs.YthfhefkacmepkaaDoor.Opens
