/- What the law PathPuts asks of its steps; the chapter's example. Conditions: none. -/
import Derived.Test.YtlhpflicchchlaaDoorRefPut
import Derived.Test.YtlhpflicchchlaaDoorGreatP
namespace Go.Proofs.YtlhpflicchchlaaDoor.PP
open Go.RowKit Go.Proofs.YtlhpflicchchlaaDoorW.PrintWords Go.Proofs.YtlhpflicchchlaaDoorW.PrintLast Go.Proofs.YtlhpflicchchlaaDoorW.PrintMore
open Go.Proofs.YtlhpflicchchlaaDoor.PPathPuts Go.Proofs.YtlhpflicchchlaaDoor.Beg Go.Proofs.YtlhpflicchchlaaDoor.Bld Go.Proofs.YtlhpflicchchlaaDoor.PR Go.Proofs.YtlhpflicchchlaaDoor.GR
attribute [local go_sem] max2_int min2_int max_two min_two max_three min_three max_four min_four
set_option linter.unusedVariables false
set_option linter.unusedSimpArgs false
theorem great_go (l : List S26) (hsz : ∀ x ∈ l, x.f1.size ≤ 140737488355328) : ∀ (k i n : Nat), i ≤ n → n ≤ 1000 → 1002 ≤ k + n → i ≤ l.length → (∀ x ∈ l.take i, x.f1.size ≤ 1000) → ∃ r, rifflelaw13_great.l0 k (n : Int) l (l.length : Int) (i : Int) = some r ∧ (r = false → Small l)
  | 0, i, n, _, h1, h2, _, _ => by omega
  | k + 1, i, n, h0, h1, h2, h3, h4 => by
    simp only [rifflelaw13_great.l0]
    by_cases hi : i < l.length
    · obtain ⟨hx, hm⟩ := rd_mem l i hi
      have hts := take_snoc l i hi
      have hs := hsz _ hm
      generalize rd_T26 l (i : Int) = x at *
      rw [if_pos (by omega), if_pos (by omega), if_pos (by omega)]
      have w1 : wrap64 ((n : Int) + wrap64 ((x.f1.size : Int) + 1)) = ((n + (x.f1.size + 1) : Nat) : Int) := by unfold wrap64; omega
      have w2 : wrap64 ((i : Int) + 1) = ((i + 1 : Nat) : Int) := by unfold wrap64; omega
      rw [w1, w2]
      by_cases hg : ((n + (x.f1.size + 1) : Nat) : Int) > 1000
      · rw [if_pos hg]; exact ⟨true, rfl, fun h => by cases h⟩
      · rw [if_neg hg]
        refine great_go l hsz k (i + 1) (n + (x.f1.size + 1)) (by omega) (by omega) (by omega) (by omega) ?_
        rw [hts]
        intro y hy
        rcases List.mem_append.1 hy with hy | hy
        · exact h4 y hy
        · simp only [List.mem_singleton] at hy
          rw [hy]; omega
    · rw [if_neg (by omega)]
      refine ⟨false, rfl, fun _ => ⟨by omega, ?_⟩⟩
      have : l.take i = l := List.take_of_length_le (by omega)
      rw [this] at h4
      exact h4
theorem great_calls (A : Option Addr) (c : Nat) (l : List S26) (w : World) (hC : Kd.C k26 w A l.length l) (hc : l.length ≤ c) (hsz : ∀ x ∈ l, x.f1.size ≤ 140737488355328) : ∃ r : Bool, (r = false → Small l) ∧ Calls Tryd.prog 12 #[.slice A l.length c] w fun e w' => e = .returned (.bool r) ∧ Below w.heap.size w w' := by
  obtain ⟨r, h1, h2⟩ := great_go l hsz 1100 0 0 (by omega) (by omega) (by omega) (by omega) (by simp)
  exact ⟨r, h2, rifflelaw13_great.calls 1100 A c l r w hC hc h1⟩
def two : List S26 := [⟨true, ⟨#[97, 39, 98]⟩, 0⟩, ⟨false, ⟨#[]⟩, 0⟩]
theorem two_small : Small two := ⟨by decide, by decide⟩
theorem two_path : pathOf two = [36, 91, 39, 97, 92, 39, 98, 39, 93, 91, 48, 93] := by decide +kernel
end Go.Proofs.YtlhpflicchchlaaDoor.PP
