/- The plain law of PathBack: right steps come back from their path; unlike steps have unlike paths. Conditions: none. -/
import Derived.Test.YthfhefkacmepkaaDoorWCa
namespace Go.Proofs.YthfhefkacmepkaaDoor.PS
open Go.RowKit Go.Proofs.YthfhefkacmepkaaDoorW.PrintWords Go.Lib
open Go.Proofs.YthfhefkacmepkaaDoor.PPathPuts Go.Proofs.YthfhefkacmepkaaDoor.Beg Go.Proofs.YthfhefkacmepkaaDoor.Bld Go.Proofs.YthfhefkacmepkaaDoor.PB Go.Proofs.YthfhefkacmepkaaDoor.PP
open Go.Proofs.YthfhefkacmepkaaDoor.Num (L L_len L_range)
set_option linter.unusedVariables false
set_option linter.unusedSimpArgs false
theorem back_of (l : List S26) (hr : l.all rightV = true) (hn : ∀ x ∈ l, x.f1.size ≤ 40000) : checkV ⟨(pathOf l).toArray⟩ (loopTop ⟨(pathOf l).toArray⟩) = some l := by
  rw [(loop_of l hr hn _ rfl).1, checkV_some, if_pos rfl]
theorem path_inj (l m : List S26) (hl : l.all rightV = true) (hm : m.all rightV = true) (hln : ∀ x ∈ l, x.f1.size ≤ 40000) (hmn : ∀ x ∈ m, x.f1.size ≤ 40000) : (⟨(pathOf l).toArray⟩ : ByteArray) = ⟨(pathOf m).toArray⟩ ↔ l = m := by
  constructor
  · intro h
    have h1 := (loop_of l hl hln _ rfl).1
    have h2 := (loop_of m hm hmn _ h).1
    rw [h1] at h2
    exact Option.some.inj h2
  · intro h; rw [h]
theorem putFrom_six (s : ByteArray) : ∀ (f pos : Nat), (putFrom s f pos).length ≤ 6 * f := putFrom_le s
theorem step_le (x : S26) (h : rightV x = true) (hs : x.f1.size ≤ 40000) : (stepOut x).length ≤ 25 * (x.f1.size + 1) := by
  have hr := (right_v x (by omega)).2.2 h
  unfold stepOut
  split
  · have := putFrom_le x.f1 x.f1.size 0
    simp [putOf]; omega
  · rename_i h0
    have h1 := hr (Bool.eq_false_iff.mpr h0)
    have := Lib.itoa_length_le x.f2 (by omega) (by omega)
    simp; omega
theorem outs_le (l : List S26) (h : l.all rightV = true) (hs : ∀ x ∈ l, x.f1.size ≤ 40000) : (outs l).length ≤ 25 * wsum l := by
  induction l with
  | nil => simp [outs]
  | cons y l ih =>
    simp only [List.all_cons, Bool.and_eq_true] at h
    have h1 := ih h.2 (fun x hx => hs x (by simp [hx]))
    have h2 := step_le y h.1 (hs y (by simp))
    unfold outs wsum at *
    rw [List.flatMap_cons, List.length_append, List.map_cons, List.sum_cons]
    omega
theorem path_le (l : List S26) (h : wsum l ≤ 1000) : (pathOf l).length ≤ 25001 := by
  by_cases hr : l.all rightV = true
  · have := outs_le l hr (fun x hx => by have := wsum_mem hx; omega)
    rw [path_of hr, List.length_cons]; omega
  · unfold pathOf; rw [if_neg hr]; simp
theorem check_eq (s : ByteArray) {k : List S26} (h : checkV s (loopTop s) = some k) : (⟨(pathOf k).toArray⟩ : ByteArray) = s := by
  cases hl : loopTop s with
  | none => rw [hl] at h; cases h
  | some l =>
    rw [hl, checkV_some] at h
    by_cases he : (⟨(pathOf l).toArray⟩ : ByteArray) = s
    · rw [if_pos he] at h
      obtain rfl := Option.some.inj h
      exact he
    · rw [if_neg he] at h; cases h
end Go.Proofs.YthfhefkacmepkaaDoor.PS
