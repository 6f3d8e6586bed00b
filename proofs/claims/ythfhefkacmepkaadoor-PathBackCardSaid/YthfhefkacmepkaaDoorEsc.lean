/- A sign's escape, walked. Conditions: none. -/
import Derived.Test.YthfhefkacmepkaaDoorBld
import Derived.Test.YthfhefkacmepkaaDoorQPr
import Derived.Laws.IdiomStrings
namespace Go.Proofs.YthfhefkacmepkaaDoor.Bld
open Go.RowKit Go.Proofs.YthfhefkacmepkaaDoorW.PrintWords
set_option linter.unusedVariables false
set_option linter.unusedSimpArgs false
def hexOf (n : Nat) : UInt8 := if n < 10 then (48 + n).toUInt8 else (87 + n).toUInt8
def escOf (n : Int) : List UInt8 :=
  if n = 39 then [92, 39] else if n = 92 then [92, 92] else if n = 8 then [92, 98] else if n = 12 then [92, 102] else if n = 10 then [92, 110] else if n = 13 then [92, 114] else if n = 9 then [92, 116]
  else if n < 32 then [92, 117, 48, 48, hexOf (n.toNat / 16), hexOf (n.toNat % 16)] else []
set_option maxHeartbeats 8000000 in
set_option maxRecDepth 100000 in
theorem escape_big (n : Int) (h0 : 32 ≤ n) (h1 : n ≠ 39) (h2 : n ≠ 92) (w : World) : Calls Tryd.prog 24 #[.int .i32 n] w fun e w' => e = .returned (.string ⟨(escOf n).toArray⟩) ∧ Below w.heap.size w w' := by
  have he : escOf n = [] := by unfold escOf; rw [if_neg h1, if_neg h2, if_neg (by omega), if_neg (by omega), if_neg (by omega), if_neg (by omega), if_neg (by omega), if_neg (by omega)]
  rw [he]
  have q0 : (n == 39) = false := by simp [h1]
  have q1 : (n == 92) = false := by simp [h2]
  have q2 : (n == 8) = false := by simp; omega
  have q3 : (n == 12) = false := by simp; omega
  have q4 : (n == 10) = false := by simp; omega
  have q5 : (n == 13) = false := by simp; omega
  have q6 : (n == 9) = false := by simp; omega
  have q7 : decide (n < 32) = false := by simp; omega
  clear h0 h1 h2 he
  go_enter Tryd.func24, Tryd.ntmps24
  go_wp2
  go_ret
  exact ⟨rfl, Below.refl _ _⟩
set_option maxHeartbeats 8000000 in
set_option maxRecDepth 100000 in
theorem escape_39 (w : World) : Calls Tryd.prog 24 #[.int .i32 39] w fun e w' => e = .returned (.string ⟨(escOf 39).toArray⟩) ∧ Below w.heap.size w w' := by
  go_enter Tryd.func24, Tryd.ntmps24
  go_wp2
  go_ret
  exact ⟨rfl, Below.refl _ _⟩
set_option maxHeartbeats 8000000 in
set_option maxRecDepth 100000 in
theorem escape_92 (w : World) : Calls Tryd.prog 24 #[.int .i32 92] w fun e w' => e = .returned (.string ⟨(escOf 92).toArray⟩) ∧ Below w.heap.size w w' := by
  go_enter Tryd.func24, Tryd.ntmps24
  go_wp2
  go_ret
  exact ⟨rfl, Below.refl _ _⟩
theorem lower_calls (k : Nat) (hk : k < 16) (w : World) : Calls Tryd.prog 39 #[.int .i64 (k : Int)] w fun e w' => e = .returned (.int .u8 ((hexOf k).toNat : Int)) ∧ Below w.heap.size w w' := by
  refine (QPr.octet_Lower.calls (k : Int) ((hexOf k).toNat : Int) w ?_).mono (fun e w' h => ⟨h.1, ?_⟩)
  · have : ∀ k : Fin 16, QPr.octet_Lower.f ((k.val : Nat) : Int) = some ((hexOf k.val).toNat : Int) := by decide +kernel
    exact this ⟨k, hk⟩
  · obtain ⟨n, rfl⟩ := h.2
    exact pw_below_drewN (Below.refl _ _) n
set_option maxHeartbeats 8000000 in
set_option maxRecDepth 100000 in
theorem escape_low (n a b : Nat) (hn : n < 32) (h8 : n ≠ 8) (h9 : n ≠ 9) (h10 : n ≠ 10) (h12 : n ≠ 12) (h13 : n ≠ 13) (ha : n / 16 = a) (hb : n % 16 = b) (w : World) : Calls Tryd.prog 24 #[.int .i32 (n : Int)] w fun e w' => e = .returned (.string ⟨#[92, 117, 48, 48, hexOf a, hexOf b]⟩) ∧ Below w.heap.size w w' := by
  have e1 : Int.tmod (n : Int) 16 = (b : Int) := by rw [Int.tmod_eq_emod_of_nonneg (by omega)]; omega
  have e2' : Int.tdiv (n : Int) 16 = (a : Int) := by rw [Int.tdiv_eq_ediv_of_nonneg (by omega)]; omega
  have e3 : wrap64 (a : Int) = (a : Int) := by unfold wrap64; omega
  obtain ⟨x, hx⟩ : ∃ x : Int, x = (n : Int) := ⟨_, rfl⟩
  have x0 : 0 ≤ x := by omega
  have x1 : x < 32 := by omega
  have e2 : x / 16 = (a : Int) := by omega
  rw [← hx] at e1 e2' ⊢
  have q0 : (x == 39) = false := by simp; omega
  have q1 : (x == 92) = false := by simp; omega
  have q2 : (x == 8) = false := by simp; omega
  have q3 : (x == 12) = false := by simp; omega
  have q4 : (x == 10) = false := by simp; omega
  have q5 : (x == 13) = false := by simp; omega
  have q6 : (x == 9) = false := by simp; omega
  have q7 : decide (x < 32) = true := by simp; omega
  have HA := Aside0.mk (fun W => lower_calls a (by omega) W)
  have HBc := Aside0.mk (fun W => lower_calls b (by omega) W)
  clear hx h8 h9 h10 h12 h13 ha hb hn
  go_enter Tryd.func24, Tryd.ntmps24
  go_wp2_with (fail)
  go_at_call 39; refine (HA.out w).mono ?_; rintro e w1 ⟨rfl, hb1⟩
  have HB1 := Aside0.mk hb1
  clear hb1
  go_wp2_with (fail)
  go_at_call 39; refine (HBc.out w1).mono ?_; rintro e w2 ⟨rfl, hb2⟩
  have HB2 := Aside0.mk (below_step HB1.out hb2)
  clear hb2
  go_wp2_with (fail)
  have hcv : (convert 39 9 (.slice (some ⟨w2.heap.size, 0, none⟩) 2 2)).run Tryd.prog (w2.alloc (.cells #[.int .u8 ((hexOf a).toNat : Int), .int .u8 ((hexOf b).toNat : Int)] 5)) = .ok (.string ⟨[hexOf a, hexOf b].toArray⟩) _ :=
    run_convert_bytes_back _ 39 9 5 ⟨w2.heap.size, 0, none⟩ 2 [hexOf a, hexOf b] Tryd.underlying39 Tryd.underlying5 Tryd.underlying9 (by
      intro j hj
      match j, hj with
      | 0, _ => exact (blk_cell (heap_alloc_new w2 _) 0).trans rfl
      | 1, _ => exact (blk_cell (heap_alloc_new w2 _) 1).trans rfl)
  rw [hcv]
  go_wp2
  go_ret
  exact ⟨rfl, below_alloc HB2.out _⟩
set_option maxHeartbeats 8000000 in
set_option maxRecDepth 100000 in
theorem escape_8 (w : World) : Calls Tryd.prog 24 #[.int .i32 8] w fun e w' => e = .returned (.string ⟨(escOf 8).toArray⟩) ∧ Below w.heap.size w w' := by
  go_enter Tryd.func24, Tryd.ntmps24
  go_wp2
  go_ret
  exact ⟨rfl, Below.refl _ _⟩
set_option maxHeartbeats 8000000 in
set_option maxRecDepth 100000 in
theorem escape_12 (w : World) : Calls Tryd.prog 24 #[.int .i32 12] w fun e w' => e = .returned (.string ⟨(escOf 12).toArray⟩) ∧ Below w.heap.size w w' := by
  go_enter Tryd.func24, Tryd.ntmps24
  go_wp2
  go_ret
  exact ⟨rfl, Below.refl _ _⟩
set_option maxHeartbeats 8000000 in
set_option maxRecDepth 100000 in
theorem escape_10 (w : World) : Calls Tryd.prog 24 #[.int .i32 10] w fun e w' => e = .returned (.string ⟨(escOf 10).toArray⟩) ∧ Below w.heap.size w w' := by
  go_enter Tryd.func24, Tryd.ntmps24
  go_wp2
  go_ret
  exact ⟨rfl, Below.refl _ _⟩
set_option maxHeartbeats 8000000 in
set_option maxRecDepth 100000 in
theorem escape_13 (w : World) : Calls Tryd.prog 24 #[.int .i32 13] w fun e w' => e = .returned (.string ⟨(escOf 13).toArray⟩) ∧ Below w.heap.size w w' := by
  go_enter Tryd.func24, Tryd.ntmps24
  go_wp2
  go_ret
  exact ⟨rfl, Below.refl _ _⟩
set_option maxHeartbeats 8000000 in
set_option maxRecDepth 100000 in
theorem escape_9 (w : World) : Calls Tryd.prog 24 #[.int .i32 9] w fun e w' => e = .returned (.string ⟨(escOf 9).toArray⟩) ∧ Below w.heap.size w w' := by
  go_enter Tryd.func24, Tryd.ntmps24
  go_wp2
  go_ret
  exact ⟨rfl, Below.refl _ _⟩
theorem escape_calls (n : Int) (hn0 : 0 ≤ n) (w : World) : Calls Tryd.prog 24 #[.int .i32 n] w fun e w' => e = .returned (.string ⟨(escOf n).toArray⟩) ∧ Below w.heap.size w w' := by
  by_cases h1 : n = 39
  · subst h1; exact escape_39 w
  by_cases h2 : n = 92
  · subst h2; exact escape_92 w
  by_cases h3 : 32 ≤ n
  · exact escape_big n h3 h1 h2 w
  by_cases h8 : n = 8
  · subst h8; exact escape_8 w
  by_cases h12 : n = 12
  · subst h12; exact escape_12 w
  by_cases h10 : n = 10
  · subst h10; exact escape_10 w
  by_cases h13 : n = 13
  · subst h13; exact escape_13 w
  by_cases h9 : n = 9
  · subst h9; exact escape_9 w
  obtain ⟨k, rfl⟩ : ∃ k : Nat, n = (k : Int) := ⟨n.toNat, by omega⟩
  have := escape_low k (k / 16) (k % 16) (by omega) (by omega) (by omega) (by omega) (by omega) (by omega) rfl rfl w
  have he : escOf (k : Int) = [92, 117, 48, 48, hexOf (k / 16), hexOf (k % 16)] := by
    unfold escOf
    rw [if_neg h1, if_neg h2, if_neg h8, if_neg h12, if_neg h10, if_neg h13, if_neg h9, if_pos (by omega)]
    rfl
  rw [he]; exact this
end Go.Proofs.YthfhefkacmepkaaDoor.Bld
