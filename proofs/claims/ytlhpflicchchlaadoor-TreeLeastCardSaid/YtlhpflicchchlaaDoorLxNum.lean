/- numeral.Walk's methods at a Lexer's cell, walked. Conditions: none. -/
import Derived.Test.YtlhpflicchchlaaDoorLxPq
import Derived.IntWalk
namespace Go.Proofs.YtlhpflicchchlaaDoor.LxN
open Go.RowKit Go.Proofs.YtlhpflicchchlaaDoorW.PrintWords Go.Proofs.YtlhpflicchchlaaDoorW.PrintLast Go.Proofs.YtlhpflicchchlaaDoorW.PrintMore
attribute [local go_sem] max2_int min2_int max_two min_two max_three min_three max_four min_four
set_option linter.unusedVariables false
set_option linter.unusedSimpArgs false
def digitB (c : Int) : Bool := decide (48 ≤ c ∧ c ≤ 57)
def alphaB (c : Int) : Bool := decide ((97 ≤ c ∧ c ≤ 122) ∨ (65 ≤ c ∧ c ≤ 90))
/-- Where one is in a numeral behind a byte; 0: nowhere. -/
def nextV (a c : Int) : Int :=
  if a = 0 ∧ c = 45 then 1
  else if (a = 0 ∨ a = 1) ∧ c = 48 then 2
  else if (a = 0 ∨ a = 1 ∨ a = 3) ∧ digitB c = true then 3
  else if (a = 2 ∨ a = 3) ∧ c = 46 then 4
  else if (a = 4 ∨ a = 5) ∧ digitB c = true then 5
  else if (a = 2 ∨ a = 3 ∨ a = 5) ∧ (c = 101 ∨ c = 69) then 6
  else if a = 6 ∧ (c = 43 ∨ c = 45) then 7
  else if 6 ≤ a ∧ digitB c = true then 8
  else 0
def wholeV (a : Int) : Bool := decide (a = 2 ∨ a = 3 ∨ a = 5 ∨ a = 8)
/-- A byte's step: the state, and 0 (goes), 1 (ends), 2 (bad). -/
def numV (a c : Int) : Int × Int :=
  if nextV a c ≠ 0 then (nextV a c, 0)
  else if wholeV a = false ∨ digitB c = true ∨ alphaB c = true ∨ c = 46 ∨ c = 43 ∨ c = 45 then (a, 2) else (a, 1)
theorem nextV_range (a c : Int) : 0 ≤ nextV a c ∧ nextV a c ≤ 8 := by
  unfold nextV
  repeat' split
  all_goals omega
theorem numV_range (a c : Int) (h0 : 0 ≤ a) (h1 : a ≤ 8) : 0 ≤ (numV a c).1 ∧ (numV a c).1 ≤ 8 := by
  have := nextV_range a c
  unfold numV
  split
  · exact this
  · split <;> exact ⟨h0, h1⟩
theorem digit_calls (c : Int) (w : World) : Calls Tryd.prog 160 #[.int .u8 c] w fun e w' => e = .returned (.bool (digitB c)) ∧ w' = w := by
  by_cases h1 : 48 ≤ c
  · have b1 : decide (48 ≤ c) = true := by simp [h1]
    by_cases h2 : c ≤ 57
    · have hv : digitB c = true := by unfold digitB; simp; omega
      have b2 : decide (c ≤ 57) = true := by simp [h2]
      rw [hv]
      clear h1 h2 hv
      go_enter Tryd.func160, Tryd.ntmps160
      go_wp2
      go_ret
      exact ⟨rfl, rfl⟩
    · have hv : digitB c = false := by unfold digitB; simp; omega
      have b2 : decide (c ≤ 57) = false := by simp; omega
      rw [hv]
      clear h1 h2 hv
      go_enter Tryd.func160, Tryd.ntmps160
      go_wp2
      go_ret
      exact ⟨rfl, rfl⟩
  · have hv : digitB c = false := by unfold digitB; simp; omega
    have b1 : decide (48 ≤ c) = false := by simp; omega
    rw [hv]
    clear h1 hv
    go_enter Tryd.func160, Tryd.ntmps160
    go_wp2
    go_ret
    exact ⟨rfl, rfl⟩
theorem alpha_calls (c : Int) (w : World) : Calls Tryd.prog 161 #[.int .u8 c] w fun e w' => e = .returned (.bool (alphaB c)) ∧ w' = w := by
  by_cases ha : 97 ≤ c
  · skip
    by_cases hb : c ≤ 122
    · skip
      by_cases hd : 65 ≤ c
      · skip
        by_cases he : c ≤ 90
        · omega
        · skip
          skip
          have hv : alphaB c = true := by unfold alphaB; simp; omega
          have ba : decide (97 ≤ c) = true := by simp; omega
          have bb : decide (c ≤ 122) = true := by simp; omega
          have bd : decide (65 ≤ c) = true := by simp; omega
          have be : decide (c ≤ 90) = false := by simp; omega
          rw [hv]
          clear hv ha hb hd he
          go_enter Tryd.func161, Tryd.ntmps161
          go_wp2
          go_ret
          exact ⟨rfl, rfl⟩
      · skip
        by_cases he : c ≤ 90
        · omega
        · omega
    · skip
      by_cases hd : 65 ≤ c
      · skip
        by_cases he : c ≤ 90
        · omega
        · skip
          skip
          have hv : alphaB c = false := by unfold alphaB; simp; omega
          have ba : decide (97 ≤ c) = true := by simp; omega
          have bb : decide (c ≤ 122) = false := by simp; omega
          have bd : decide (65 ≤ c) = true := by simp; omega
          have be : decide (c ≤ 90) = false := by simp; omega
          rw [hv]
          clear hv ha hb hd he
          go_enter Tryd.func161, Tryd.ntmps161
          go_wp2
          go_ret
          exact ⟨rfl, rfl⟩
      · skip
        by_cases he : c ≤ 90
        · omega
        · omega
  · skip
    by_cases hb : c ≤ 122
    · skip
      by_cases hd : 65 ≤ c
      · skip
        by_cases he : c ≤ 90
        · skip
          skip
          have hv : alphaB c = true := by unfold alphaB; simp; omega
          have ba : decide (97 ≤ c) = false := by simp; omega
          have bb : decide (c ≤ 122) = true := by simp; omega
          have bd : decide (65 ≤ c) = true := by simp; omega
          have be : decide (c ≤ 90) = true := by simp; omega
          rw [hv]
          clear hv ha hb hd he
          go_enter Tryd.func161, Tryd.ntmps161
          go_wp2
          go_ret
          exact ⟨rfl, rfl⟩
        · skip
          skip
          have hv : alphaB c = false := by unfold alphaB; simp; omega
          have ba : decide (97 ≤ c) = false := by simp; omega
          have bb : decide (c ≤ 122) = true := by simp; omega
          have bd : decide (65 ≤ c) = true := by simp; omega
          have be : decide (c ≤ 90) = false := by simp; omega
          rw [hv]
          clear hv ha hb hd he
          go_enter Tryd.func161, Tryd.ntmps161
          go_wp2
          go_ret
          exact ⟨rfl, rfl⟩
      · skip
        by_cases he : c ≤ 90
        · skip
          skip
          have hv : alphaB c = false := by unfold alphaB; simp; omega
          have ba : decide (97 ≤ c) = false := by simp; omega
          have bb : decide (c ≤ 122) = true := by simp; omega
          have bd : decide (65 ≤ c) = false := by simp; omega
          have be : decide (c ≤ 90) = true := by simp; omega
          rw [hv]
          clear hv ha hb hd he
          go_enter Tryd.func161, Tryd.ntmps161
          go_wp2
          go_ret
          exact ⟨rfl, rfl⟩
        · omega
    · skip
      by_cases hd : 65 ≤ c
      · skip
        by_cases he : c ≤ 90
        · omega
        · omega
      · skip
        by_cases he : c ≤ 90
        · omega
        · omega
set_option maxHeartbeats 4000000 in
theorem whole_calls (b : Nat) (a : Int) (w : World) (h0 : w.cell? ⟨b, 5, none⟩ = some (.int .i64 a)) (r0 : 0 ≤ a) (r1 : a ≤ 8) : Calls Tryd.prog 99 #[.pointer (some ⟨b, 5, none⟩)] w fun e w' => e = .returned (.bool (wholeV a)) ∧ w' = w := by
  have hc : a = 0 ∨ a = 1 ∨ a = 2 ∨ a = 3 ∨ a = 4 ∨ a = 5 ∨ a = 6 ∨ a = 7 ∨ a = 8 := by omega
  clear r0 r1
  rcases hc with rfl | rfl | rfl | rfl | rfl | rfl | rfl | rfl | rfl
  · show Calls _ _ _ _ fun e w' => e = .returned (.bool false) ∧ w' = w
    go_enter Tryd.func99, Tryd.ntmps99
    go_wp2
    go_ret
    exact ⟨rfl, rfl⟩
  · show Calls _ _ _ _ fun e w' => e = .returned (.bool false) ∧ w' = w
    go_enter Tryd.func99, Tryd.ntmps99
    go_wp2
    go_ret
    exact ⟨rfl, rfl⟩
  · show Calls _ _ _ _ fun e w' => e = .returned (.bool true) ∧ w' = w
    go_enter Tryd.func99, Tryd.ntmps99
    go_wp2
    go_ret
    exact ⟨rfl, rfl⟩
  · show Calls _ _ _ _ fun e w' => e = .returned (.bool true) ∧ w' = w
    go_enter Tryd.func99, Tryd.ntmps99
    go_wp2
    go_ret
    exact ⟨rfl, rfl⟩
  · show Calls _ _ _ _ fun e w' => e = .returned (.bool false) ∧ w' = w
    go_enter Tryd.func99, Tryd.ntmps99
    go_wp2
    go_ret
    exact ⟨rfl, rfl⟩
  · show Calls _ _ _ _ fun e w' => e = .returned (.bool true) ∧ w' = w
    go_enter Tryd.func99, Tryd.ntmps99
    go_wp2
    go_ret
    exact ⟨rfl, rfl⟩
  · show Calls _ _ _ _ fun e w' => e = .returned (.bool false) ∧ w' = w
    go_enter Tryd.func99, Tryd.ntmps99
    go_wp2
    go_ret
    exact ⟨rfl, rfl⟩
  · show Calls _ _ _ _ fun e w' => e = .returned (.bool false) ∧ w' = w
    go_enter Tryd.func99, Tryd.ntmps99
    go_wp2
    go_ret
    exact ⟨rfl, rfl⟩
  · show Calls _ _ _ _ fun e w' => e = .returned (.bool true) ∧ w' = w
    go_enter Tryd.func99, Tryd.ntmps99
    go_wp2
    go_ret
    exact ⟨rfl, rfl⟩
set_option maxHeartbeats 8000000 in
theorem next_c45 (b : Nat) (a : Int) (w : World) (h0 : w.cell? ⟨b, 5, none⟩ = some (.int .i64 a)) (r0 : 0 ≤ a) (r1 : a ≤ 8) : Calls Tryd.prog 159 #[.pointer (some ⟨b, 5, none⟩), .int .u8 45] w fun e w' => e = .returned (.int .i64 (nextV a 45)) ∧ w' = w := by
  have HD := Aside0.mk (digit_calls 45 w)
  rw [show digitB 45 = false from rfl] at HD
  have hc : a = 0 ∨ a = 1 ∨ a = 2 ∨ a = 3 ∨ a = 4 ∨ a = 5 ∨ a = 6 ∨ a = 7 ∨ a = 8 := by omega
  clear r0 r1
  rcases hc with rfl | rfl | rfl | rfl | rfl | rfl | rfl | rfl | rfl
  · rw [show nextV 0 45 = 1 from rfl]
    go_enter Tryd.func159, Tryd.ntmps159
    go_wp2_with (fail)
    go_at_call 160
    refine HD.out.mono ?_
    rintro e w2 ⟨rfl, rfl⟩
    go_wp2_with (fail)
    go_ret
    exact ⟨rfl, rfl⟩
  · rw [show nextV 1 45 = 0 from rfl]
    go_enter Tryd.func159, Tryd.ntmps159
    go_wp2_with (fail)
    go_at_call 160
    refine HD.out.mono ?_
    rintro e w2 ⟨rfl, rfl⟩
    go_wp2_with (fail)
    go_ret
    exact ⟨rfl, rfl⟩
  · rw [show nextV 2 45 = 0 from rfl]
    go_enter Tryd.func159, Tryd.ntmps159
    go_wp2_with (fail)
    go_at_call 160
    refine HD.out.mono ?_
    rintro e w2 ⟨rfl, rfl⟩
    go_wp2_with (fail)
    go_ret
    exact ⟨rfl, rfl⟩
  · rw [show nextV 3 45 = 0 from rfl]
    go_enter Tryd.func159, Tryd.ntmps159
    go_wp2_with (fail)
    go_at_call 160
    refine HD.out.mono ?_
    rintro e w2 ⟨rfl, rfl⟩
    go_wp2_with (fail)
    go_ret
    exact ⟨rfl, rfl⟩
  · rw [show nextV 4 45 = 0 from rfl]
    go_enter Tryd.func159, Tryd.ntmps159
    go_wp2_with (fail)
    go_at_call 160
    refine HD.out.mono ?_
    rintro e w2 ⟨rfl, rfl⟩
    go_wp2_with (fail)
    go_ret
    exact ⟨rfl, rfl⟩
  · rw [show nextV 5 45 = 0 from rfl]
    go_enter Tryd.func159, Tryd.ntmps159
    go_wp2_with (fail)
    go_at_call 160
    refine HD.out.mono ?_
    rintro e w2 ⟨rfl, rfl⟩
    go_wp2_with (fail)
    go_ret
    exact ⟨rfl, rfl⟩
  · rw [show nextV 6 45 = 7 from rfl]
    go_enter Tryd.func159, Tryd.ntmps159
    go_wp2_with (fail)
    go_at_call 160
    refine HD.out.mono ?_
    rintro e w2 ⟨rfl, rfl⟩
    go_wp2_with (fail)
    go_ret
    exact ⟨rfl, rfl⟩
  · rw [show nextV 7 45 = 0 from rfl]
    go_enter Tryd.func159, Tryd.ntmps159
    go_wp2_with (fail)
    go_at_call 160
    refine HD.out.mono ?_
    rintro e w2 ⟨rfl, rfl⟩
    go_wp2_with (fail)
    go_ret
    exact ⟨rfl, rfl⟩
  · rw [show nextV 8 45 = 0 from rfl]
    go_enter Tryd.func159, Tryd.ntmps159
    go_wp2_with (fail)
    go_at_call 160
    refine HD.out.mono ?_
    rintro e w2 ⟨rfl, rfl⟩
    go_wp2_with (fail)
    go_ret
    exact ⟨rfl, rfl⟩
set_option maxHeartbeats 8000000 in
theorem next_c48 (b : Nat) (a : Int) (w : World) (h0 : w.cell? ⟨b, 5, none⟩ = some (.int .i64 a)) (r0 : 0 ≤ a) (r1 : a ≤ 8) : Calls Tryd.prog 159 #[.pointer (some ⟨b, 5, none⟩), .int .u8 48] w fun e w' => e = .returned (.int .i64 (nextV a 48)) ∧ w' = w := by
  have HD := Aside0.mk (digit_calls 48 w)
  rw [show digitB 48 = true from rfl] at HD
  have hc : a = 0 ∨ a = 1 ∨ a = 2 ∨ a = 3 ∨ a = 4 ∨ a = 5 ∨ a = 6 ∨ a = 7 ∨ a = 8 := by omega
  clear r0 r1
  rcases hc with rfl | rfl | rfl | rfl | rfl | rfl | rfl | rfl | rfl
  · rw [show nextV 0 48 = 2 from rfl]
    go_enter Tryd.func159, Tryd.ntmps159
    go_wp2_with (fail)
    go_at_call 160
    refine HD.out.mono ?_
    rintro e w2 ⟨rfl, rfl⟩
    go_wp2_with (fail)
    go_ret
    exact ⟨rfl, rfl⟩
  · rw [show nextV 1 48 = 2 from rfl]
    go_enter Tryd.func159, Tryd.ntmps159
    go_wp2_with (fail)
    go_at_call 160
    refine HD.out.mono ?_
    rintro e w2 ⟨rfl, rfl⟩
    go_wp2_with (fail)
    go_ret
    exact ⟨rfl, rfl⟩
  · rw [show nextV 2 48 = 0 from rfl]
    go_enter Tryd.func159, Tryd.ntmps159
    go_wp2_with (fail)
    go_at_call 160
    refine HD.out.mono ?_
    rintro e w2 ⟨rfl, rfl⟩
    go_wp2_with (fail)
    go_ret
    exact ⟨rfl, rfl⟩
  · rw [show nextV 3 48 = 3 from rfl]
    go_enter Tryd.func159, Tryd.ntmps159
    go_wp2_with (fail)
    go_at_call 160
    refine HD.out.mono ?_
    rintro e w2 ⟨rfl, rfl⟩
    go_wp2_with (fail)
    go_ret
    exact ⟨rfl, rfl⟩
  · rw [show nextV 4 48 = 5 from rfl]
    go_enter Tryd.func159, Tryd.ntmps159
    go_wp2_with (fail)
    go_at_call 160
    refine HD.out.mono ?_
    rintro e w2 ⟨rfl, rfl⟩
    go_wp2_with (fail)
    go_ret
    exact ⟨rfl, rfl⟩
  · rw [show nextV 5 48 = 5 from rfl]
    go_enter Tryd.func159, Tryd.ntmps159
    go_wp2_with (fail)
    go_at_call 160
    refine HD.out.mono ?_
    rintro e w2 ⟨rfl, rfl⟩
    go_wp2_with (fail)
    go_ret
    exact ⟨rfl, rfl⟩
  · rw [show nextV 6 48 = 8 from rfl]
    go_enter Tryd.func159, Tryd.ntmps159
    go_wp2_with (fail)
    go_at_call 160
    refine HD.out.mono ?_
    rintro e w2 ⟨rfl, rfl⟩
    go_wp2_with (fail)
    go_ret
    exact ⟨rfl, rfl⟩
  · rw [show nextV 7 48 = 8 from rfl]
    go_enter Tryd.func159, Tryd.ntmps159
    go_wp2_with (fail)
    go_at_call 160
    refine HD.out.mono ?_
    rintro e w2 ⟨rfl, rfl⟩
    go_wp2_with (fail)
    go_ret
    exact ⟨rfl, rfl⟩
  · rw [show nextV 8 48 = 8 from rfl]
    go_enter Tryd.func159, Tryd.ntmps159
    go_wp2_with (fail)
    go_at_call 160
    refine HD.out.mono ?_
    rintro e w2 ⟨rfl, rfl⟩
    go_wp2_with (fail)
    go_ret
    exact ⟨rfl, rfl⟩
set_option maxHeartbeats 8000000 in
theorem next_c46 (b : Nat) (a : Int) (w : World) (h0 : w.cell? ⟨b, 5, none⟩ = some (.int .i64 a)) (r0 : 0 ≤ a) (r1 : a ≤ 8) : Calls Tryd.prog 159 #[.pointer (some ⟨b, 5, none⟩), .int .u8 46] w fun e w' => e = .returned (.int .i64 (nextV a 46)) ∧ w' = w := by
  have HD := Aside0.mk (digit_calls 46 w)
  rw [show digitB 46 = false from rfl] at HD
  have hc : a = 0 ∨ a = 1 ∨ a = 2 ∨ a = 3 ∨ a = 4 ∨ a = 5 ∨ a = 6 ∨ a = 7 ∨ a = 8 := by omega
  clear r0 r1
  rcases hc with rfl | rfl | rfl | rfl | rfl | rfl | rfl | rfl | rfl
  · rw [show nextV 0 46 = 0 from rfl]
    go_enter Tryd.func159, Tryd.ntmps159
    go_wp2_with (fail)
    go_at_call 160
    refine HD.out.mono ?_
    rintro e w2 ⟨rfl, rfl⟩
    go_wp2_with (fail)
    go_ret
    exact ⟨rfl, rfl⟩
  · rw [show nextV 1 46 = 0 from rfl]
    go_enter Tryd.func159, Tryd.ntmps159
    go_wp2_with (fail)
    go_at_call 160
    refine HD.out.mono ?_
    rintro e w2 ⟨rfl, rfl⟩
    go_wp2_with (fail)
    go_ret
    exact ⟨rfl, rfl⟩
  · rw [show nextV 2 46 = 4 from rfl]
    go_enter Tryd.func159, Tryd.ntmps159
    go_wp2_with (fail)
    go_at_call 160
    refine HD.out.mono ?_
    rintro e w2 ⟨rfl, rfl⟩
    go_wp2_with (fail)
    go_ret
    exact ⟨rfl, rfl⟩
  · rw [show nextV 3 46 = 4 from rfl]
    go_enter Tryd.func159, Tryd.ntmps159
    go_wp2_with (fail)
    go_at_call 160
    refine HD.out.mono ?_
    rintro e w2 ⟨rfl, rfl⟩
    go_wp2_with (fail)
    go_ret
    exact ⟨rfl, rfl⟩
  · rw [show nextV 4 46 = 0 from rfl]
    go_enter Tryd.func159, Tryd.ntmps159
    go_wp2_with (fail)
    go_at_call 160
    refine HD.out.mono ?_
    rintro e w2 ⟨rfl, rfl⟩
    go_wp2_with (fail)
    go_ret
    exact ⟨rfl, rfl⟩
  · rw [show nextV 5 46 = 0 from rfl]
    go_enter Tryd.func159, Tryd.ntmps159
    go_wp2_with (fail)
    go_at_call 160
    refine HD.out.mono ?_
    rintro e w2 ⟨rfl, rfl⟩
    go_wp2_with (fail)
    go_ret
    exact ⟨rfl, rfl⟩
  · rw [show nextV 6 46 = 0 from rfl]
    go_enter Tryd.func159, Tryd.ntmps159
    go_wp2_with (fail)
    go_at_call 160
    refine HD.out.mono ?_
    rintro e w2 ⟨rfl, rfl⟩
    go_wp2_with (fail)
    go_ret
    exact ⟨rfl, rfl⟩
  · rw [show nextV 7 46 = 0 from rfl]
    go_enter Tryd.func159, Tryd.ntmps159
    go_wp2_with (fail)
    go_at_call 160
    refine HD.out.mono ?_
    rintro e w2 ⟨rfl, rfl⟩
    go_wp2_with (fail)
    go_ret
    exact ⟨rfl, rfl⟩
  · rw [show nextV 8 46 = 0 from rfl]
    go_enter Tryd.func159, Tryd.ntmps159
    go_wp2_with (fail)
    go_at_call 160
    refine HD.out.mono ?_
    rintro e w2 ⟨rfl, rfl⟩
    go_wp2_with (fail)
    go_ret
    exact ⟨rfl, rfl⟩
set_option maxHeartbeats 8000000 in
theorem next_c101 (b : Nat) (a : Int) (w : World) (h0 : w.cell? ⟨b, 5, none⟩ = some (.int .i64 a)) (r0 : 0 ≤ a) (r1 : a ≤ 8) : Calls Tryd.prog 159 #[.pointer (some ⟨b, 5, none⟩), .int .u8 101] w fun e w' => e = .returned (.int .i64 (nextV a 101)) ∧ w' = w := by
  have HD := Aside0.mk (digit_calls 101 w)
  rw [show digitB 101 = false from rfl] at HD
  have hc : a = 0 ∨ a = 1 ∨ a = 2 ∨ a = 3 ∨ a = 4 ∨ a = 5 ∨ a = 6 ∨ a = 7 ∨ a = 8 := by omega
  clear r0 r1
  rcases hc with rfl | rfl | rfl | rfl | rfl | rfl | rfl | rfl | rfl
  · rw [show nextV 0 101 = 0 from rfl]
    go_enter Tryd.func159, Tryd.ntmps159
    go_wp2_with (fail)
    go_at_call 160
    refine HD.out.mono ?_
    rintro e w2 ⟨rfl, rfl⟩
    go_wp2_with (fail)
    go_ret
    exact ⟨rfl, rfl⟩
  · rw [show nextV 1 101 = 0 from rfl]
    go_enter Tryd.func159, Tryd.ntmps159
    go_wp2_with (fail)
    go_at_call 160
    refine HD.out.mono ?_
    rintro e w2 ⟨rfl, rfl⟩
    go_wp2_with (fail)
    go_ret
    exact ⟨rfl, rfl⟩
  · rw [show nextV 2 101 = 6 from rfl]
    go_enter Tryd.func159, Tryd.ntmps159
    go_wp2_with (fail)
    go_at_call 160
    refine HD.out.mono ?_
    rintro e w2 ⟨rfl, rfl⟩
    go_wp2_with (fail)
    go_ret
    exact ⟨rfl, rfl⟩
  · rw [show nextV 3 101 = 6 from rfl]
    go_enter Tryd.func159, Tryd.ntmps159
    go_wp2_with (fail)
    go_at_call 160
    refine HD.out.mono ?_
    rintro e w2 ⟨rfl, rfl⟩
    go_wp2_with (fail)
    go_ret
    exact ⟨rfl, rfl⟩
  · rw [show nextV 4 101 = 0 from rfl]
    go_enter Tryd.func159, Tryd.ntmps159
    go_wp2_with (fail)
    go_at_call 160
    refine HD.out.mono ?_
    rintro e w2 ⟨rfl, rfl⟩
    go_wp2_with (fail)
    go_ret
    exact ⟨rfl, rfl⟩
  · rw [show nextV 5 101 = 6 from rfl]
    go_enter Tryd.func159, Tryd.ntmps159
    go_wp2_with (fail)
    go_at_call 160
    refine HD.out.mono ?_
    rintro e w2 ⟨rfl, rfl⟩
    go_wp2_with (fail)
    go_ret
    exact ⟨rfl, rfl⟩
  · rw [show nextV 6 101 = 0 from rfl]
    go_enter Tryd.func159, Tryd.ntmps159
    go_wp2_with (fail)
    go_at_call 160
    refine HD.out.mono ?_
    rintro e w2 ⟨rfl, rfl⟩
    go_wp2_with (fail)
    go_ret
    exact ⟨rfl, rfl⟩
  · rw [show nextV 7 101 = 0 from rfl]
    go_enter Tryd.func159, Tryd.ntmps159
    go_wp2_with (fail)
    go_at_call 160
    refine HD.out.mono ?_
    rintro e w2 ⟨rfl, rfl⟩
    go_wp2_with (fail)
    go_ret
    exact ⟨rfl, rfl⟩
  · rw [show nextV 8 101 = 0 from rfl]
    go_enter Tryd.func159, Tryd.ntmps159
    go_wp2_with (fail)
    go_at_call 160
    refine HD.out.mono ?_
    rintro e w2 ⟨rfl, rfl⟩
    go_wp2_with (fail)
    go_ret
    exact ⟨rfl, rfl⟩
set_option maxHeartbeats 8000000 in
theorem next_c69 (b : Nat) (a : Int) (w : World) (h0 : w.cell? ⟨b, 5, none⟩ = some (.int .i64 a)) (r0 : 0 ≤ a) (r1 : a ≤ 8) : Calls Tryd.prog 159 #[.pointer (some ⟨b, 5, none⟩), .int .u8 69] w fun e w' => e = .returned (.int .i64 (nextV a 69)) ∧ w' = w := by
  have HD := Aside0.mk (digit_calls 69 w)
  rw [show digitB 69 = false from rfl] at HD
  have hc : a = 0 ∨ a = 1 ∨ a = 2 ∨ a = 3 ∨ a = 4 ∨ a = 5 ∨ a = 6 ∨ a = 7 ∨ a = 8 := by omega
  clear r0 r1
  rcases hc with rfl | rfl | rfl | rfl | rfl | rfl | rfl | rfl | rfl
  · rw [show nextV 0 69 = 0 from rfl]
    go_enter Tryd.func159, Tryd.ntmps159
    go_wp2_with (fail)
    go_at_call 160
    refine HD.out.mono ?_
    rintro e w2 ⟨rfl, rfl⟩
    go_wp2_with (fail)
    go_ret
    exact ⟨rfl, rfl⟩
  · rw [show nextV 1 69 = 0 from rfl]
    go_enter Tryd.func159, Tryd.ntmps159
    go_wp2_with (fail)
    go_at_call 160
    refine HD.out.mono ?_
    rintro e w2 ⟨rfl, rfl⟩
    go_wp2_with (fail)
    go_ret
    exact ⟨rfl, rfl⟩
  · rw [show nextV 2 69 = 6 from rfl]
    go_enter Tryd.func159, Tryd.ntmps159
    go_wp2_with (fail)
    go_at_call 160
    refine HD.out.mono ?_
    rintro e w2 ⟨rfl, rfl⟩
    go_wp2_with (fail)
    go_ret
    exact ⟨rfl, rfl⟩
  · rw [show nextV 3 69 = 6 from rfl]
    go_enter Tryd.func159, Tryd.ntmps159
    go_wp2_with (fail)
    go_at_call 160
    refine HD.out.mono ?_
    rintro e w2 ⟨rfl, rfl⟩
    go_wp2_with (fail)
    go_ret
    exact ⟨rfl, rfl⟩
  · rw [show nextV 4 69 = 0 from rfl]
    go_enter Tryd.func159, Tryd.ntmps159
    go_wp2_with (fail)
    go_at_call 160
    refine HD.out.mono ?_
    rintro e w2 ⟨rfl, rfl⟩
    go_wp2_with (fail)
    go_ret
    exact ⟨rfl, rfl⟩
  · rw [show nextV 5 69 = 6 from rfl]
    go_enter Tryd.func159, Tryd.ntmps159
    go_wp2_with (fail)
    go_at_call 160
    refine HD.out.mono ?_
    rintro e w2 ⟨rfl, rfl⟩
    go_wp2_with (fail)
    go_ret
    exact ⟨rfl, rfl⟩
  · rw [show nextV 6 69 = 0 from rfl]
    go_enter Tryd.func159, Tryd.ntmps159
    go_wp2_with (fail)
    go_at_call 160
    refine HD.out.mono ?_
    rintro e w2 ⟨rfl, rfl⟩
    go_wp2_with (fail)
    go_ret
    exact ⟨rfl, rfl⟩
  · rw [show nextV 7 69 = 0 from rfl]
    go_enter Tryd.func159, Tryd.ntmps159
    go_wp2_with (fail)
    go_at_call 160
    refine HD.out.mono ?_
    rintro e w2 ⟨rfl, rfl⟩
    go_wp2_with (fail)
    go_ret
    exact ⟨rfl, rfl⟩
  · rw [show nextV 8 69 = 0 from rfl]
    go_enter Tryd.func159, Tryd.ntmps159
    go_wp2_with (fail)
    go_at_call 160
    refine HD.out.mono ?_
    rintro e w2 ⟨rfl, rfl⟩
    go_wp2_with (fail)
    go_ret
    exact ⟨rfl, rfl⟩
set_option maxHeartbeats 8000000 in
theorem next_c43 (b : Nat) (a : Int) (w : World) (h0 : w.cell? ⟨b, 5, none⟩ = some (.int .i64 a)) (r0 : 0 ≤ a) (r1 : a ≤ 8) : Calls Tryd.prog 159 #[.pointer (some ⟨b, 5, none⟩), .int .u8 43] w fun e w' => e = .returned (.int .i64 (nextV a 43)) ∧ w' = w := by
  have HD := Aside0.mk (digit_calls 43 w)
  rw [show digitB 43 = false from rfl] at HD
  have hc : a = 0 ∨ a = 1 ∨ a = 2 ∨ a = 3 ∨ a = 4 ∨ a = 5 ∨ a = 6 ∨ a = 7 ∨ a = 8 := by omega
  clear r0 r1
  rcases hc with rfl | rfl | rfl | rfl | rfl | rfl | rfl | rfl | rfl
  · rw [show nextV 0 43 = 0 from rfl]
    go_enter Tryd.func159, Tryd.ntmps159
    go_wp2_with (fail)
    go_at_call 160
    refine HD.out.mono ?_
    rintro e w2 ⟨rfl, rfl⟩
    go_wp2_with (fail)
    go_ret
    exact ⟨rfl, rfl⟩
  · rw [show nextV 1 43 = 0 from rfl]
    go_enter Tryd.func159, Tryd.ntmps159
    go_wp2_with (fail)
    go_at_call 160
    refine HD.out.mono ?_
    rintro e w2 ⟨rfl, rfl⟩
    go_wp2_with (fail)
    go_ret
    exact ⟨rfl, rfl⟩
  · rw [show nextV 2 43 = 0 from rfl]
    go_enter Tryd.func159, Tryd.ntmps159
    go_wp2_with (fail)
    go_at_call 160
    refine HD.out.mono ?_
    rintro e w2 ⟨rfl, rfl⟩
    go_wp2_with (fail)
    go_ret
    exact ⟨rfl, rfl⟩
  · rw [show nextV 3 43 = 0 from rfl]
    go_enter Tryd.func159, Tryd.ntmps159
    go_wp2_with (fail)
    go_at_call 160
    refine HD.out.mono ?_
    rintro e w2 ⟨rfl, rfl⟩
    go_wp2_with (fail)
    go_ret
    exact ⟨rfl, rfl⟩
  · rw [show nextV 4 43 = 0 from rfl]
    go_enter Tryd.func159, Tryd.ntmps159
    go_wp2_with (fail)
    go_at_call 160
    refine HD.out.mono ?_
    rintro e w2 ⟨rfl, rfl⟩
    go_wp2_with (fail)
    go_ret
    exact ⟨rfl, rfl⟩
  · rw [show nextV 5 43 = 0 from rfl]
    go_enter Tryd.func159, Tryd.ntmps159
    go_wp2_with (fail)
    go_at_call 160
    refine HD.out.mono ?_
    rintro e w2 ⟨rfl, rfl⟩
    go_wp2_with (fail)
    go_ret
    exact ⟨rfl, rfl⟩
  · rw [show nextV 6 43 = 7 from rfl]
    go_enter Tryd.func159, Tryd.ntmps159
    go_wp2_with (fail)
    go_at_call 160
    refine HD.out.mono ?_
    rintro e w2 ⟨rfl, rfl⟩
    go_wp2_with (fail)
    go_ret
    exact ⟨rfl, rfl⟩
  · rw [show nextV 7 43 = 0 from rfl]
    go_enter Tryd.func159, Tryd.ntmps159
    go_wp2_with (fail)
    go_at_call 160
    refine HD.out.mono ?_
    rintro e w2 ⟨rfl, rfl⟩
    go_wp2_with (fail)
    go_ret
    exact ⟨rfl, rfl⟩
  · rw [show nextV 8 43 = 0 from rfl]
    go_enter Tryd.func159, Tryd.ntmps159
    go_wp2_with (fail)
    go_at_call 160
    refine HD.out.mono ?_
    rintro e w2 ⟨rfl, rfl⟩
    go_wp2_with (fail)
    go_ret
    exact ⟨rfl, rfl⟩
set_option maxHeartbeats 8000000 in
theorem next_digit (b : Nat) (a : Int) (c : Int) (w : World) (h0 : w.cell? ⟨b, 5, none⟩ = some (.int .i64 a)) (r0 : 0 ≤ a) (r1 : a ≤ 8) (k0 : 49 ≤ c) (k1 : c ≤ 57) : Calls Tryd.prog 159 #[.pointer (some ⟨b, 5, none⟩), .int .u8 c] w fun e w' => e = .returned (.int .i64 (nextV a c)) ∧ w' = w := by
  have HD := Aside0.mk (digit_calls c w)
  have kd : digitB c = true := by unfold digitB; simp; omega
  have n45 : c ≠ 45 := by omega
  have n48 : c ≠ 48 := by omega
  have n46 : c ≠ 46 := by omega
  have n101 : c ≠ 101 := by omega
  have n69 : c ≠ 69 := by omega
  have n43 : c ≠ 43 := by omega
  rw [kd] at HD
  have e45 : (c == 45) = false := by simp [n45]
  have d45 : decide (c = 45) = false := by simp [n45]
  have e48 : (c == 48) = false := by simp [n48]
  have d48 : decide (c = 48) = false := by simp [n48]
  have e46 : (c == 46) = false := by simp [n46]
  have d46 : decide (c = 46) = false := by simp [n46]
  have e101 : (c == 101) = false := by simp [n101]
  have d101 : decide (c = 101) = false := by simp [n101]
  have e69 : (c == 69) = false := by simp [n69]
  have d69 : decide (c = 69) = false := by simp [n69]
  have e43 : (c == 43) = false := by simp [n43]
  have d43 : decide (c = 43) = false := by simp [n43]
  have hc : a = 0 ∨ a = 1 ∨ a = 2 ∨ a = 3 ∨ a = 4 ∨ a = 5 ∨ a = 6 ∨ a = 7 ∨ a = 8 := by omega
  clear r0 r1
  rcases hc with rfl | rfl | rfl | rfl | rfl | rfl | rfl | rfl | rfl
  · rw [show nextV 0 c = 3 by unfold nextV; simp [kd, n45, n48, n46, n101, n69, n43]]
    clear kd n45 n48 n46 n101 n69 n43 k0 k1
    go_enter Tryd.func159, Tryd.ntmps159
    go_wp2_with (fail)
    go_at_call 160
    refine HD.out.mono ?_
    rintro e w2 ⟨rfl, rfl⟩
    go_wp2_with (fail)
    go_ret
    exact ⟨rfl, rfl⟩
  · rw [show nextV 1 c = 3 by unfold nextV; simp [kd, n45, n48, n46, n101, n69, n43]]
    clear kd n45 n48 n46 n101 n69 n43 k0 k1
    go_enter Tryd.func159, Tryd.ntmps159
    go_wp2_with (fail)
    go_at_call 160
    refine HD.out.mono ?_
    rintro e w2 ⟨rfl, rfl⟩
    go_wp2_with (fail)
    go_ret
    exact ⟨rfl, rfl⟩
  · rw [show nextV 2 c = 0 by unfold nextV; simp [kd, n45, n48, n46, n101, n69, n43]]
    clear kd n45 n48 n46 n101 n69 n43 k0 k1
    go_enter Tryd.func159, Tryd.ntmps159
    go_wp2_with (fail)
    go_at_call 160
    refine HD.out.mono ?_
    rintro e w2 ⟨rfl, rfl⟩
    go_wp2_with (fail)
    go_ret
    exact ⟨rfl, rfl⟩
  · rw [show nextV 3 c = 3 by unfold nextV; simp [kd, n45, n48, n46, n101, n69, n43]]
    clear kd n45 n48 n46 n101 n69 n43 k0 k1
    go_enter Tryd.func159, Tryd.ntmps159
    go_wp2_with (fail)
    go_at_call 160
    refine HD.out.mono ?_
    rintro e w2 ⟨rfl, rfl⟩
    go_wp2_with (fail)
    go_ret
    exact ⟨rfl, rfl⟩
  · rw [show nextV 4 c = 5 by unfold nextV; simp [kd, n45, n48, n46, n101, n69, n43]]
    clear kd n45 n48 n46 n101 n69 n43 k0 k1
    go_enter Tryd.func159, Tryd.ntmps159
    go_wp2_with (fail)
    go_at_call 160
    refine HD.out.mono ?_
    rintro e w2 ⟨rfl, rfl⟩
    go_wp2_with (fail)
    go_ret
    exact ⟨rfl, rfl⟩
  · rw [show nextV 5 c = 5 by unfold nextV; simp [kd, n45, n48, n46, n101, n69, n43]]
    clear kd n45 n48 n46 n101 n69 n43 k0 k1
    go_enter Tryd.func159, Tryd.ntmps159
    go_wp2_with (fail)
    go_at_call 160
    refine HD.out.mono ?_
    rintro e w2 ⟨rfl, rfl⟩
    go_wp2_with (fail)
    go_ret
    exact ⟨rfl, rfl⟩
  · rw [show nextV 6 c = 8 by unfold nextV; simp [kd, n45, n48, n46, n101, n69, n43]]
    clear kd n45 n48 n46 n101 n69 n43 k0 k1
    go_enter Tryd.func159, Tryd.ntmps159
    go_wp2_with (fail)
    go_at_call 160
    refine HD.out.mono ?_
    rintro e w2 ⟨rfl, rfl⟩
    go_wp2_with (fail)
    go_ret
    exact ⟨rfl, rfl⟩
  · rw [show nextV 7 c = 8 by unfold nextV; simp [kd, n45, n48, n46, n101, n69, n43]]
    clear kd n45 n48 n46 n101 n69 n43 k0 k1
    go_enter Tryd.func159, Tryd.ntmps159
    go_wp2_with (fail)
    go_at_call 160
    refine HD.out.mono ?_
    rintro e w2 ⟨rfl, rfl⟩
    go_wp2_with (fail)
    go_ret
    exact ⟨rfl, rfl⟩
  · rw [show nextV 8 c = 8 by unfold nextV; simp [kd, n45, n48, n46, n101, n69, n43]]
    clear kd n45 n48 n46 n101 n69 n43 k0 k1
    go_enter Tryd.func159, Tryd.ntmps159
    go_wp2_with (fail)
    go_at_call 160
    refine HD.out.mono ?_
    rintro e w2 ⟨rfl, rfl⟩
    go_wp2_with (fail)
    go_ret
    exact ⟨rfl, rfl⟩
set_option maxHeartbeats 8000000 in
theorem next_other (b : Nat) (a : Int) (c : Int) (w : World) (h0 : w.cell? ⟨b, 5, none⟩ = some (.int .i64 a)) (r0 : 0 ≤ a) (r1 : a ≤ 8) (kd : digitB c = false) (n45 : c ≠ 45) (n48 : c ≠ 48) (n46 : c ≠ 46) (n101 : c ≠ 101) (n69 : c ≠ 69) (n43 : c ≠ 43) : Calls Tryd.prog 159 #[.pointer (some ⟨b, 5, none⟩), .int .u8 c] w fun e w' => e = .returned (.int .i64 (nextV a c)) ∧ w' = w := by
  have HD := Aside0.mk (digit_calls c w)
  rw [kd] at HD
  have e45 : (c == 45) = false := by simp [n45]
  have d45 : decide (c = 45) = false := by simp [n45]
  have e48 : (c == 48) = false := by simp [n48]
  have d48 : decide (c = 48) = false := by simp [n48]
  have e46 : (c == 46) = false := by simp [n46]
  have d46 : decide (c = 46) = false := by simp [n46]
  have e101 : (c == 101) = false := by simp [n101]
  have d101 : decide (c = 101) = false := by simp [n101]
  have e69 : (c == 69) = false := by simp [n69]
  have d69 : decide (c = 69) = false := by simp [n69]
  have e43 : (c == 43) = false := by simp [n43]
  have d43 : decide (c = 43) = false := by simp [n43]
  have hc : a = 0 ∨ a = 1 ∨ a = 2 ∨ a = 3 ∨ a = 4 ∨ a = 5 ∨ a = 6 ∨ a = 7 ∨ a = 8 := by omega
  clear r0 r1
  rcases hc with rfl | rfl | rfl | rfl | rfl | rfl | rfl | rfl | rfl
  · rw [show nextV 0 c = 0 by unfold nextV; simp [kd, n45, n48, n46, n101, n69, n43]]
    clear kd n45 n48 n46 n101 n69 n43
    go_enter Tryd.func159, Tryd.ntmps159
    go_wp2_with (fail)
    go_at_call 160
    refine HD.out.mono ?_
    rintro e w2 ⟨rfl, rfl⟩
    go_wp2_with (fail)
    go_ret
    exact ⟨rfl, rfl⟩
  · rw [show nextV 1 c = 0 by unfold nextV; simp [kd, n45, n48, n46, n101, n69, n43]]
    clear kd n45 n48 n46 n101 n69 n43
    go_enter Tryd.func159, Tryd.ntmps159
    go_wp2_with (fail)
    go_at_call 160
    refine HD.out.mono ?_
    rintro e w2 ⟨rfl, rfl⟩
    go_wp2_with (fail)
    go_ret
    exact ⟨rfl, rfl⟩
  · rw [show nextV 2 c = 0 by unfold nextV; simp [kd, n45, n48, n46, n101, n69, n43]]
    clear kd n45 n48 n46 n101 n69 n43
    go_enter Tryd.func159, Tryd.ntmps159
    go_wp2_with (fail)
    go_at_call 160
    refine HD.out.mono ?_
    rintro e w2 ⟨rfl, rfl⟩
    go_wp2_with (fail)
    go_ret
    exact ⟨rfl, rfl⟩
  · rw [show nextV 3 c = 0 by unfold nextV; simp [kd, n45, n48, n46, n101, n69, n43]]
    clear kd n45 n48 n46 n101 n69 n43
    go_enter Tryd.func159, Tryd.ntmps159
    go_wp2_with (fail)
    go_at_call 160
    refine HD.out.mono ?_
    rintro e w2 ⟨rfl, rfl⟩
    go_wp2_with (fail)
    go_ret
    exact ⟨rfl, rfl⟩
  · rw [show nextV 4 c = 0 by unfold nextV; simp [kd, n45, n48, n46, n101, n69, n43]]
    clear kd n45 n48 n46 n101 n69 n43
    go_enter Tryd.func159, Tryd.ntmps159
    go_wp2_with (fail)
    go_at_call 160
    refine HD.out.mono ?_
    rintro e w2 ⟨rfl, rfl⟩
    go_wp2_with (fail)
    go_ret
    exact ⟨rfl, rfl⟩
  · rw [show nextV 5 c = 0 by unfold nextV; simp [kd, n45, n48, n46, n101, n69, n43]]
    clear kd n45 n48 n46 n101 n69 n43
    go_enter Tryd.func159, Tryd.ntmps159
    go_wp2_with (fail)
    go_at_call 160
    refine HD.out.mono ?_
    rintro e w2 ⟨rfl, rfl⟩
    go_wp2_with (fail)
    go_ret
    exact ⟨rfl, rfl⟩
  · rw [show nextV 6 c = 0 by unfold nextV; simp [kd, n45, n48, n46, n101, n69, n43]]
    clear kd n45 n48 n46 n101 n69 n43
    go_enter Tryd.func159, Tryd.ntmps159
    go_wp2_with (fail)
    go_at_call 160
    refine HD.out.mono ?_
    rintro e w2 ⟨rfl, rfl⟩
    go_wp2_with (fail)
    go_ret
    exact ⟨rfl, rfl⟩
  · rw [show nextV 7 c = 0 by unfold nextV; simp [kd, n45, n48, n46, n101, n69, n43]]
    clear kd n45 n48 n46 n101 n69 n43
    go_enter Tryd.func159, Tryd.ntmps159
    go_wp2_with (fail)
    go_at_call 160
    refine HD.out.mono ?_
    rintro e w2 ⟨rfl, rfl⟩
    go_wp2_with (fail)
    go_ret
    exact ⟨rfl, rfl⟩
  · rw [show nextV 8 c = 0 by unfold nextV; simp [kd, n45, n48, n46, n101, n69, n43]]
    clear kd n45 n48 n46 n101 n69 n43
    go_enter Tryd.func159, Tryd.ntmps159
    go_wp2_with (fail)
    go_at_call 160
    refine HD.out.mono ?_
    rintro e w2 ⟨rfl, rfl⟩
    go_wp2_with (fail)
    go_ret
    exact ⟨rfl, rfl⟩
theorem next_calls (b : Nat) (a c : Int) (w : World) (h0 : w.cell? ⟨b, 5, none⟩ = some (.int .i64 a)) (r0 : 0 ≤ a) (r1 : a ≤ 8) : Calls Tryd.prog 159 #[.pointer (some ⟨b, 5, none⟩), .int .u8 c] w fun e w' => e = .returned (.int .i64 (nextV a c)) ∧ w' = w := by
  by_cases h45 : c = 45
  · subst h45; exact next_c45 b a w h0 r0 r1
  by_cases h48 : c = 48
  · subst h48; exact next_c48 b a w h0 r0 r1
  by_cases h46 : c = 46
  · subst h46; exact next_c46 b a w h0 r0 r1
  by_cases h101 : c = 101
  · subst h101; exact next_c101 b a w h0 r0 r1
  by_cases h69 : c = 69
  · subst h69; exact next_c69 b a w h0 r0 r1
  by_cases h43 : c = 43
  · subst h43; exact next_c43 b a w h0 r0 r1
  by_cases hd : digitB c = true
  · exact next_digit b a c w h0 r0 r1 (by unfold digitB at hd; simp at hd; omega) (by unfold digitB at hd; simp at hd; omega)
  · exact next_other b a c w h0 r0 r1 (by simpa using hd) h45 h48 h46 h101 h69 h43
set_option maxHeartbeats 8000000 in
theorem num_go (b : Nat) (a c : Int) (w : World) (h0 : w.cell? ⟨b, 5, none⟩ = some (.int .i64 a)) (f0 : w.frozen? ⟨b, 5, none⟩ = false) (r0 : 0 ≤ a) (r1 : a ≤ 8) (hn : nextV a c ≠ 0) :
    Calls Tryd.prog 138 #[.pointer (some ⟨b, 5, none⟩), .int .u8 c] w fun e w' => e = .returned (.int .i64 0) ∧ w' = w.setCell ⟨b, 5, none⟩ (.int .i64 (nextV a c)) := by
  have HN := Aside0.mk (next_calls b a c w h0 r0 r1)
  generalize nextV a c = x at *
  have g1 : (x == 0) = false := by simp [hn]
  have g2 : (x != 0) = true := by simp [hn]
  have g3 : decide (x = 0) = false := by simp [hn]
  clear hn r0 r1
  go_enter Tryd.func138, Tryd.ntmps138
  go_wp2_with (fail)
  go_at_call 159
  refine HN.out.mono ?_
  rintro e w2 ⟨rfl, rfl⟩
  go_wp2_with (fail)
  go_ret
  exact ⟨rfl, rfl⟩
set_option maxHeartbeats 8000000 in
theorem num_w (b : Nat) (a c : Int) (w : World) (h0 : w.cell? ⟨b, 5, none⟩ = some (.int .i64 a)) (r0 : 0 ≤ a) (r1 : a ≤ 8) (hn : nextV a c = 0) (hw : wholeV a = false) :
    Calls Tryd.prog 138 #[.pointer (some ⟨b, 5, none⟩), .int .u8 c] w fun e w' => e = .returned (.int .i64 2) ∧ w' = w := by
  have HN := Aside0.mk (next_calls b a c w h0 r0 r1)
  rw [hn] at HN
  have HW := Aside0.mk (whole_calls b a w h0 r0 r1)
  have HD := Aside0.mk (digit_calls c w)
  have HA := Aside0.mk (alpha_calls c w)
  rw [hw] at HW
  clear hw hn r0 r1
  go_enter Tryd.func138, Tryd.ntmps138
  go_wp2_with (fail)
  go_at_call 159
  refine HN.out.mono ?_
  rintro e w2 ⟨rfl, rfl⟩
  go_wp2_with (fail)
  go_at_call 99
  refine HW.out.mono ?_
  rintro e w2 ⟨rfl, rfl⟩
  go_wp2_with (fail)
  go_ret
  exact ⟨rfl, rfl⟩
set_option maxHeartbeats 8000000 in
theorem num_d (b : Nat) (a c : Int) (w : World) (h0 : w.cell? ⟨b, 5, none⟩ = some (.int .i64 a)) (r0 : 0 ≤ a) (r1 : a ≤ 8) (hn : nextV a c = 0) (hw : wholeV a = true) (hd : digitB c = true) :
    Calls Tryd.prog 138 #[.pointer (some ⟨b, 5, none⟩), .int .u8 c] w fun e w' => e = .returned (.int .i64 2) ∧ w' = w := by
  have HN := Aside0.mk (next_calls b a c w h0 r0 r1)
  rw [hn] at HN
  have HW := Aside0.mk (whole_calls b a w h0 r0 r1)
  have HD := Aside0.mk (digit_calls c w)
  have HA := Aside0.mk (alpha_calls c w)
  rw [hw] at HW
  rw [hd] at HD
  clear hw hd hn r0 r1
  go_enter Tryd.func138, Tryd.ntmps138
  go_wp2_with (fail)
  go_at_call 159
  refine HN.out.mono ?_
  rintro e w2 ⟨rfl, rfl⟩
  go_wp2_with (fail)
  go_at_call 99
  refine HW.out.mono ?_
  rintro e w2 ⟨rfl, rfl⟩
  go_wp2_with (fail)
  go_at_call 160
  refine HD.out.mono ?_
  rintro e w2 ⟨rfl, rfl⟩
  go_wp2_with (fail)
  go_ret
  exact ⟨rfl, rfl⟩
set_option maxHeartbeats 8000000 in
theorem num_a (b : Nat) (a c : Int) (w : World) (h0 : w.cell? ⟨b, 5, none⟩ = some (.int .i64 a)) (r0 : 0 ≤ a) (r1 : a ≤ 8) (hn : nextV a c = 0) (hw : wholeV a = true) (hd : digitB c = false) (ha : alphaB c = true) :
    Calls Tryd.prog 138 #[.pointer (some ⟨b, 5, none⟩), .int .u8 c] w fun e w' => e = .returned (.int .i64 2) ∧ w' = w := by
  have HN := Aside0.mk (next_calls b a c w h0 r0 r1)
  rw [hn] at HN
  have HW := Aside0.mk (whole_calls b a w h0 r0 r1)
  have HD := Aside0.mk (digit_calls c w)
  have HA := Aside0.mk (alpha_calls c w)
  rw [hw] at HW
  rw [hd] at HD
  rw [ha] at HA
  clear hw hd ha hn r0 r1
  go_enter Tryd.func138, Tryd.ntmps138
  go_wp2_with (fail)
  go_at_call 159
  refine HN.out.mono ?_
  rintro e w2 ⟨rfl, rfl⟩
  go_wp2_with (fail)
  go_at_call 99
  refine HW.out.mono ?_
  rintro e w2 ⟨rfl, rfl⟩
  go_wp2_with (fail)
  go_at_call 160
  refine HD.out.mono ?_
  rintro e w2 ⟨rfl, rfl⟩
  go_wp2_with (fail)
  go_at_call 161
  refine HA.out.mono ?_
  rintro e w2 ⟨rfl, rfl⟩
  go_wp2_with (fail)
  go_ret
  exact ⟨rfl, rfl⟩
set_option maxHeartbeats 8000000 in
theorem num_l46 (b : Nat) (a c : Int) (w : World) (h0 : w.cell? ⟨b, 5, none⟩ = some (.int .i64 a)) (r0 : 0 ≤ a) (r1 : a ≤ 8) (hn : nextV a c = 0) (hw : wholeV a = true) (hd : digitB c = false) (ha : alphaB c = false) (hc : c = 46) :
    Calls Tryd.prog 138 #[.pointer (some ⟨b, 5, none⟩), .int .u8 c] w fun e w' => e = .returned (.int .i64 2) ∧ w' = w := by
  have HN := Aside0.mk (next_calls b a c w h0 r0 r1)
  rw [hn] at HN
  have HW := Aside0.mk (whole_calls b a w h0 r0 r1)
  have HD := Aside0.mk (digit_calls c w)
  have HA := Aside0.mk (alpha_calls c w)
  rw [hw] at HW
  rw [hd] at HD
  rw [ha] at HA
  subst hc
  clear hw hd ha hn r0 r1
  go_enter Tryd.func138, Tryd.ntmps138
  go_wp2_with (fail)
  go_at_call 159
  refine HN.out.mono ?_
  rintro e w2 ⟨rfl, rfl⟩
  go_wp2_with (fail)
  go_at_call 99
  refine HW.out.mono ?_
  rintro e w2 ⟨rfl, rfl⟩
  go_wp2_with (fail)
  go_at_call 160
  refine HD.out.mono ?_
  rintro e w2 ⟨rfl, rfl⟩
  go_wp2_with (fail)
  go_at_call 161
  refine HA.out.mono ?_
  rintro e w2 ⟨rfl, rfl⟩
  go_wp2_with (fail)
  go_ret
  exact ⟨rfl, rfl⟩
set_option maxHeartbeats 8000000 in
theorem num_l43 (b : Nat) (a c : Int) (w : World) (h0 : w.cell? ⟨b, 5, none⟩ = some (.int .i64 a)) (r0 : 0 ≤ a) (r1 : a ≤ 8) (hn : nextV a c = 0) (hw : wholeV a = true) (hd : digitB c = false) (ha : alphaB c = false) (hc : c = 43) :
    Calls Tryd.prog 138 #[.pointer (some ⟨b, 5, none⟩), .int .u8 c] w fun e w' => e = .returned (.int .i64 2) ∧ w' = w := by
  have HN := Aside0.mk (next_calls b a c w h0 r0 r1)
  rw [hn] at HN
  have HW := Aside0.mk (whole_calls b a w h0 r0 r1)
  have HD := Aside0.mk (digit_calls c w)
  have HA := Aside0.mk (alpha_calls c w)
  rw [hw] at HW
  rw [hd] at HD
  rw [ha] at HA
  subst hc
  clear hw hd ha hn r0 r1
  go_enter Tryd.func138, Tryd.ntmps138
  go_wp2_with (fail)
  go_at_call 159
  refine HN.out.mono ?_
  rintro e w2 ⟨rfl, rfl⟩
  go_wp2_with (fail)
  go_at_call 99
  refine HW.out.mono ?_
  rintro e w2 ⟨rfl, rfl⟩
  go_wp2_with (fail)
  go_at_call 160
  refine HD.out.mono ?_
  rintro e w2 ⟨rfl, rfl⟩
  go_wp2_with (fail)
  go_at_call 161
  refine HA.out.mono ?_
  rintro e w2 ⟨rfl, rfl⟩
  go_wp2_with (fail)
  go_ret
  exact ⟨rfl, rfl⟩
set_option maxHeartbeats 8000000 in
theorem num_l45 (b : Nat) (a c : Int) (w : World) (h0 : w.cell? ⟨b, 5, none⟩ = some (.int .i64 a)) (r0 : 0 ≤ a) (r1 : a ≤ 8) (hn : nextV a c = 0) (hw : wholeV a = true) (hd : digitB c = false) (ha : alphaB c = false) (hc : c = 45) :
    Calls Tryd.prog 138 #[.pointer (some ⟨b, 5, none⟩), .int .u8 c] w fun e w' => e = .returned (.int .i64 2) ∧ w' = w := by
  have HN := Aside0.mk (next_calls b a c w h0 r0 r1)
  rw [hn] at HN
  have HW := Aside0.mk (whole_calls b a w h0 r0 r1)
  have HD := Aside0.mk (digit_calls c w)
  have HA := Aside0.mk (alpha_calls c w)
  rw [hw] at HW
  rw [hd] at HD
  rw [ha] at HA
  subst hc
  clear hw hd ha hn r0 r1
  go_enter Tryd.func138, Tryd.ntmps138
  go_wp2_with (fail)
  go_at_call 159
  refine HN.out.mono ?_
  rintro e w2 ⟨rfl, rfl⟩
  go_wp2_with (fail)
  go_at_call 99
  refine HW.out.mono ?_
  rintro e w2 ⟨rfl, rfl⟩
  go_wp2_with (fail)
  go_at_call 160
  refine HD.out.mono ?_
  rintro e w2 ⟨rfl, rfl⟩
  go_wp2_with (fail)
  go_at_call 161
  refine HA.out.mono ?_
  rintro e w2 ⟨rfl, rfl⟩
  go_wp2_with (fail)
  go_ret
  exact ⟨rfl, rfl⟩
set_option maxHeartbeats 8000000 in
theorem num_e (b : Nat) (a c : Int) (w : World) (h0 : w.cell? ⟨b, 5, none⟩ = some (.int .i64 a)) (r0 : 0 ≤ a) (r1 : a ≤ 8) (hn : nextV a c = 0) (hw : wholeV a = true) (hd : digitB c = false) (ha : alphaB c = false) (n46 : c ≠ 46) (n43 : c ≠ 43) (n45 : c ≠ 45) :
    Calls Tryd.prog 138 #[.pointer (some ⟨b, 5, none⟩), .int .u8 c] w fun e w' => e = .returned (.int .i64 1) ∧ w' = w := by
  have HN := Aside0.mk (next_calls b a c w h0 r0 r1)
  rw [hn] at HN
  have HW := Aside0.mk (whole_calls b a w h0 r0 r1)
  have HD := Aside0.mk (digit_calls c w)
  have HA := Aside0.mk (alpha_calls c w)
  rw [hw] at HW
  rw [hd] at HD
  rw [ha] at HA
  have e46 : (c == 46) = false := by simp [n46]
  have d46 : decide (c = 46) = false := by simp [n46]
  have e43 : (c == 43) = false := by simp [n43]
  have d43 : decide (c = 43) = false := by simp [n43]
  have e45 : (c == 45) = false := by simp [n45]
  have d45 : decide (c = 45) = false := by simp [n45]
  clear hw hd ha hn r0 r1 n46 n43 n45
  go_enter Tryd.func138, Tryd.ntmps138
  go_wp2_with (fail)
  go_at_call 159
  refine HN.out.mono ?_
  rintro e w2 ⟨rfl, rfl⟩
  go_wp2_with (fail)
  go_at_call 99
  refine HW.out.mono ?_
  rintro e w2 ⟨rfl, rfl⟩
  go_wp2_with (fail)
  go_at_call 160
  refine HD.out.mono ?_
  rintro e w2 ⟨rfl, rfl⟩
  go_wp2_with (fail)
  go_at_call 161
  refine HA.out.mono ?_
  rintro e w2 ⟨rfl, rfl⟩
  go_wp2_with (fail)
  go_ret
  exact ⟨rfl, rfl⟩
/-- numeral.Walk.Step. -/
theorem num_calls (b : Nat) (a c : Int) (w : World) (h0 : w.cell? ⟨b, 5, none⟩ = some (.int .i64 a)) (f0 : w.frozen? ⟨b, 5, none⟩ = false) (r0 : 0 ≤ a) (r1 : a ≤ 8) :
    Calls Tryd.prog 138 #[.pointer (some ⟨b, 5, none⟩), .int .u8 c] w fun e w' => e = .returned (.int .i64 (numV a c).2) ∧ w' = if (numV a c).2 = 0 then w.setCell ⟨b, 5, none⟩ (.int .i64 (numV a c).1) else w := by
  unfold numV
  by_cases hn : nextV a c = 0
  · rw [if_neg (by simp [hn])]
    cases hw : wholeV a with
    | false => rw [if_pos (.inl rfl)]; exact num_w b a c w h0 r0 r1 hn hw
    | true =>
      cases hd : digitB c with
      | true => rw [if_pos (.inr (.inl rfl))]; exact num_d b a c w h0 r0 r1 hn hw hd
      | false =>
        cases ha : alphaB c with
        | true => rw [if_pos (.inr (.inr (.inl rfl)))]; exact num_a b a c w h0 r0 r1 hn hw hd ha
        | false =>
          by_cases h46 : c = 46
          · rw [if_pos (.inr (.inr (.inr (.inl h46))))]; exact num_l46 b a c w h0 r0 r1 hn hw hd ha h46
          by_cases h43 : c = 43
          · rw [if_pos (.inr (.inr (.inr (.inr (.inl h43)))))]; exact num_l43 b a c w h0 r0 r1 hn hw hd ha h43
          by_cases h45 : c = 45
          · rw [if_pos (.inr (.inr (.inr (.inr (.inr h45)))))]; exact num_l45 b a c w h0 r0 r1 hn hw hd ha h45
          rw [if_neg (by simp [h46, h43, h45])]; exact num_e b a c w h0 r0 r1 hn hw hd ha h46 h43 h45
  · rw [if_pos hn]
    exact num_go b a c w h0 f0 r0 r1 hn
end Go.Proofs.YtlhpflicchchlaaDoor.LxN
