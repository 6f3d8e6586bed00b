/- What the law PathPuts asks of its steps; the chapter's example. Conditions: none. -/
import Derived.Test.YthfhefkacmepkaaDoorRefPut
import Derived.Test.YthfhefkacmepkaaDoorGreatP
namespace Go.Proofs.YthfhefkacmepkaaDoor.PP
open Go.RowKit Go.Proofs.YthfhefkacmepkaaDoorW.PrintWords Go.Proofs.YthfhefkacmepkaaDoorW.PrintLast Go.Proofs.YthfhefkacmepkaaDoorW.PrintMore
open Go.Proofs.YthfhefkacmepkaaDoor.PPathPuts Go.Proofs.YthfhefkacmepkaaDoor.Beg Go.Proofs.YthfhefkacmepkaaDoor.Bld Go.Proofs.YthfhefkacmepkaaDoor.PR Go.Proofs.YthfhefkacmepkaaDoor.GR
attribute [local go_sem] max2_int min2_int max_two min_two max_three min_three max_four min_four
set_option linter.unusedVariables false
set_option linter.unusedSimpArgs false
def wsum (l : List S26) : Nat := (l.map fun x => x.f1.size + 1).sum
theorem wsum_mem {l : List S26} {x : S26} (h : x ∈ l) : x.f1.size + 1 ≤ wsum l := by
  induction l with
  | nil => cases h
  | cons y l ih =>
    unfold wsum at *
    rw [List.map_cons, List.sum_cons]
    rcases List.mem_cons.1 h with rfl | h
    · omega
    · have := ih h; omega
theorem wsum_len (l : List S26) : l.length ≤ wsum l := by
  induction l with
  | nil => simp [wsum]
  | cons y l ih => unfold wsum at *; rw [List.map_cons, List.sum_cons, List.length_cons]; omega
theorem wsum_snoc (l : List S26) (x : S26) : wsum (l ++ [x]) = wsum l + (x.f1.size + 1) := by simp [wsum]
theorem small_of (l : List S26) (h : wsum l ≤ 1000) : Small l := ⟨by have := wsum_len l; omega, fun x hx => by have := wsum_mem hx; omega⟩
theorem great_go (l : List S26) (hsz : ∀ x ∈ l, x.f1.size ≤ 140737488355328) : ∀ (k i n : Nat), i ≤ n → n ≤ 1000 → 1002 ≤ k + n → i ≤ l.length → wsum (l.take i) = n → ∃ r, rifflelaw13_great.l0 k (n : Int) l (l.length : Int) (i : Int) = some r ∧ (r = false → wsum l ≤ 1000)
  | 0, i, n, _, h1, h2, _, _ => by omega
  | k + 1, i, n, h0, h1, h2, h3, h4 => by
    simp only [rifflelaw13_great.l0]
    by_cases hi : i < l.length
    · obtain ⟨hx, hm⟩ := rd_mem l i hi
      have hts := take_snoc l i hi
      have hs := hsz _ hm
      generalize rd_T26 l (i : Int) = x at *
      rw [if_pos (by omega), if_pos (by omega), if_pos (by omega)]
      have w1 : wrap64 ((n : Int) + wrap64 ((x.f1.size : Int) + 1)) = ((n + (x.f1.size + 1) : Nat) : Int) := by unfold wrap64; omega
      have w2 : wrap64 ((i : Int) + 1) = ((i + 1 : Nat) : Int) := by unfold wrap64; omega
      rw [w1, w2]
      by_cases hg : ((n + (x.f1.size + 1) : Nat) : Int) > 1000
      · rw [if_pos hg]; exact ⟨true, rfl, fun h => by cases h⟩
      · rw [if_neg hg]
        clear w1 w2
        refine great_go l hsz k (i + 1) (n + (x.f1.size + 1)) (by omega) (by omega) (by omega) (by omega) ?_
        rw [hts, wsum_snoc, h4]
    · rw [if_neg (by omega)]
      refine ⟨false, rfl, fun _ => ?_⟩
      have : l.take i = l := List.take_of_length_le (by omega)
      rw [this] at h4
      omega
theorem great_calls (A : Option Addr) (c : Nat) (l : List S26) (w : World) (hC : Kd.C k26 w A l.length l) (hc : l.length ≤ c) (hsz : ∀ x ∈ l, x.f1.size ≤ 140737488355328) : ∃ r : Bool, (r = false → wsum l ≤ 1000) ∧ Calls Tryd.prog 7 #[.slice A l.length c] w fun e w' => e = .returned (.bool r) ∧ Below w.heap.size w w' := by
  obtain ⟨r, h1, h2⟩ := great_go l hsz 1100 0 0 (by omega) (by omega) (by omega) (by omega) (by rfl)
  exact ⟨r, h2, rifflelaw13_great.calls 1100 A c l r w hC hc h1⟩
def two : List S26 := [⟨true, ⟨#[97, 39, 98]⟩, 0⟩, ⟨false, ⟨#[]⟩, 0⟩]
theorem two_small : Small two := ⟨by decide, by decide⟩
theorem two_path : pathOf two = [36, 91, 39, 97, 92, 39, 98, 39, 93, 91, 48, 93] := by decide +kernel
end Go.Proofs.YthfhefkacmepkaaDoor.PP
