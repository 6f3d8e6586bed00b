/- path.Right and the reference's, walked: they say the same. Conditions: names of at most 50000 bytes. -/
import Derived.Test.YthfhefkacmepkaaDoorLinkU
import Derived.WalkKit
import Derived.IntWalk
namespace Go.Proofs.YthfhefkacmepkaaDoor.PR
open Go.RowKit Go.Proofs.YthfhefkacmepkaaDoor.PPathPuts Go.Proofs.YthfhefkacmepkaaDoor.LinkU Go.Proofs.YthfhefkacmepkaaDoorW.PrintWords Go.Proofs.YthfhefkacmepkaaDoorW.PrintLast Go.Proofs.YthfhefkacmepkaaDoorW.PrintMore
attribute [local go_sem] max2_int min2_int max_two min_two max_three min_three max_four min_four
set_option linter.unusedVariables false
set_option linter.unusedSimpArgs false
def cells3 (n : Bool) (s : ByteArray) (x : Int) : Array Value := #[.bool n, .string s, .int .i64 x]
set_option maxHeartbeats 8000000 in
set_option maxRecDepth 100000 in
theorem right_named (s : ByteArray) (x r : Int) (hb : ∀ w, Calls Tryd.prog 17 #[.string s] w fun e w' => e = .returned (.int .i64 r) ∧ Below w.heap.size w w') (w : World) :
    Calls Tryd.prog 8 #[.agg #[.bool true, .string s, .int .i64 x]] w fun e w' => e = .returned (.bool (decide (x = 0) && decide (r < 0))) ∧ Below w.heap.size w w' := by
  have hu := Tryd.underlying26
  have HB := Aside0.mk hb
  clear hb
  by_cases hx : x = 0
  · subst hx
    go_enter Tryd.func8, Tryd.ntmps8
    go_wp2_with (fail)
    go_at_call 17
    refine (HB.out _).mono ?_
    rintro e w2 ⟨rfl, hb⟩
    have HB2 := Aside0.mk (below_step (below_alloc (Below.refl _ _) _) hb)
    clear hb
    go_wp2_with (fail)
    go_ret
    exact ⟨by first | rfl | simp, HB2.out⟩
  · have h1 : (x == 0) = false := by simp; exact hx
    have h2 : decide (x = 0) = false := by simp; exact hx
    clear hx
    go_enter Tryd.func8, Tryd.ntmps8
    go_wp2_with (fail)
    go_ret
    exact ⟨by first | rfl | simp [h2], below_alloc (Below.refl _ _) _⟩
set_option maxHeartbeats 8000000 in
set_option maxRecDepth 100000 in
theorem right_plain (s : ByteArray) (x : Int) (w : World) :
    Calls Tryd.prog 8 #[.agg #[.bool false, .string s, .int .i64 x]] w fun e w' => e = .returned (.bool (decide (s.toList = ([] : List UInt8)) && decide (0 ≤ x) && decide (x ≤ 9007199254740991))) ∧ Below w.heap.size w w' := by
  have hu := Tryd.underlying26
  by_cases h : s.toList = ([] : List UInt8)
  · have b0 : (s.toList == ([] : List UInt8)) = true := beq_iff_eq.mpr h
    have b1 : (s.toList != ([] : List UInt8)) = false := bne_eq_false_iff_eq.mpr h
    have E := Aside0.mk h
    clear h
    by_cases h0 : 0 ≤ x
    · have h1 : decide (0 ≤ x) = true := by simp; exact h0
      clear h0
      go_enter Tryd.func8, Tryd.ntmps8
      go_wp2_with (fail)
      go_ret
      exact ⟨by first | rfl | (simp [E.out, h1]; done), below_alloc (Below.refl _ _) _⟩
    · have h1 : decide (0 ≤ x) = false := by simp; omega
      clear h0
      go_enter Tryd.func8, Tryd.ntmps8
      go_wp2_with (fail)
      go_ret
      exact ⟨by first | rfl | (simp [E.out, h1]; done), below_alloc (Below.refl _ _) _⟩
  · have b0 : (s.toList == ([] : List UInt8)) = false := beq_eq_false_iff_ne.mpr h
    have b1 : (s.toList != ([] : List UInt8)) = true := bne_iff_ne.mpr h
    have E := Aside0.mk h
    clear h
    go_enter Tryd.func8, Tryd.ntmps8
    go_wp2_with (fail)
    go_ret
    exact ⟨by first | rfl | (simp [E.out]; done), below_alloc (Below.refl _ _) _⟩
/-- Both say the same of a step. -/
theorem right_calls (n : Bool) (s : ByteArray) (x : Int) (hs : s.size ≤ 50000) : ∃ v : Bool, (∀ w, Calls Tryd.prog 8 #[.agg #[.bool n, .string s, .int .i64 x]] w fun e w' => e = .returned (.bool v) ∧ Below w.heap.size w w') ∧ riffleref13_Right.f (s.size + 100) n s x = some v ∧ (v = true → n = false → 0 ≤ x ∧ x ≤ 9007199254740991) := by
  cases n with
  | true =>
    obtain ⟨r, hr, h1, h2⟩ := bad_calls2 s hs
    refine ⟨decide (x = 0) && decide (r < 0), right_named s x r h1, ?_, fun _ h => by cases h⟩
    unfold riffleref13_Right.f
    rw [if_pos rfl]
    by_cases hx : x = 0
    · rw [if_pos hx, h2]
      simp only [Option.bind_some, Option.some.injEq]
      by_cases hr1 : r = -1
      · subst hr1; simp [hx]
      · have : ¬ r < 0 := by omega
        simp [hr1, this, hx]
    · rw [if_neg hx]; simp [hx]
  | false =>
    refine ⟨_, right_plain s x, ?_, fun h _ => ?_⟩
    · unfold riffleref13_Right.f
      rw [if_neg (by simp)]
      by_cases h : s.toList = ([] : List UInt8)
      · rw [if_pos h]
        by_cases hx : x ≥ 0
        · rw [if_pos hx]
          have : 0 ≤ x := hx
          simp [h, this]
        · rw [if_neg hx]
          have : ¬ 0 ≤ x := hx
          simp [h, this]
      · rw [if_neg h]; simp [h]
    · simp only [Bool.and_eq_true, decide_eq_true_eq] at h
      exact ⟨h.1.2, h.2⟩
end Go.Proofs.YthfhefkacmepkaaDoor.PR
