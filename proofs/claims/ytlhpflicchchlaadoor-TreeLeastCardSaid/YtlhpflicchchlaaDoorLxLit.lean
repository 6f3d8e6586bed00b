/- literal.Walk's methods at a Lexer's cells, walked, over the table of words. Conditions: none. -/
import Derived.Test.YtlhpflicchchlaaDoorLxPq
import Derived.IntWalk
import Derived.BigQuiet
import Derived.Deep.QuietTactic
namespace Go.Proofs.YtlhpflicchchlaaDoor.LxN
open Go.RowKit Go.Proofs.YtlhpflicchchlaaDoorW.PrintWords Go.Proofs.YtlhpflicchchlaaDoorW.PrintLast Go.Proofs.YtlhpflicchchlaaDoorW.PrintMore
attribute [local go_sem] max2_int min2_int max_two min_two max_three min_three max_four min_four
set_option linter.unusedVariables false
set_option linter.unusedSimpArgs false
/-- The three words. -/
def word : Nat → ByteArray
  | 0 => ⟨#[116, 114, 117, 101]⟩
  | 1 => ⟨#[102, 97, 108, 115, 101]⟩
  | _ => ⟨#[110, 117, 108, 108]⟩
/-- The table's three cells. -/
def Tab (w : World) : Prop := 0 < w.heap.size ∧ w.cell? ⟨0, 0, none⟩ = some (.string (word 0)) ∧ w.cell? ⟨0, 1, none⟩ = some (.string (word 1)) ∧ w.cell? ⟨0, 2, none⟩ = some (.string (word 2))
theorem Tab.below {B : Nat} {w w' : World} (h : Tab w) (hb : Below B w w') (hB : 0 < B) : Tab w' := by
  obtain ⟨h0, h1, h2, h3⟩ := h
  have hs := hb.size
  exact ⟨by omega, (hb.cell (p := ⟨0, 0, none⟩) hB).trans h1, (hb.cell (p := ⟨0, 1, none⟩) hB).trans h2, (hb.cell (p := ⟨0, 2, none⟩) hB).trans h3⟩
theorem tab_cell {w : World} (h : Tab w) (a : Nat) (ha : a < 3) : w.cell? ⟨0, a, none⟩ = some (.string (word a)) := by
  obtain ⟨_, h1, h2, h3⟩ := h
  match a, ha with
  | 0, _ => exact h1
  | 1, _ => exact h2
  | 2, _ => exact h3
theorem word5 (a : Nat) (ha : a < 3) : (word a).size ≤ 5 := by
  match a, ha with
  | 0, _ => decide
  | 1, _ => decide
  | 2, _ => decide
set_option maxHeartbeats 4000000 in
theorem word_calls (b a i : Nat) (w : World) (hT : Tab w) (c0 : w.cell? ⟨b, 6, none⟩ = some (.int .i64 a)) (c1 : w.cell? ⟨b, 7, none⟩ = some (.int .i64 i)) (ha : a < 3) (hi : i ≤ (word a).size) :
    Calls Tryd.prog 137 #[.pointer (some ⟨b, 6, none⟩)] w fun e w' => e = .returned (.string ((word a).extract 0 i)) ∧ ∃ n, w' = w.drewN n := by
  have ct := tab_cell hT a ha
  clear hT
  have hs := word5 a ha
  have f1 : (0 : Int) ≤ (a : Int) := by omega
  have f2 : (a : Int) < 3 := by omega
  have f3 : (0 : Int) ≤ (i : Int) := by omega
  have f4 : (i : Int) ≤ ((word a).size : Int) := by omega
  have f5 : ((a : Int) < 3) = True := eq_true f2
  have f6 : ((i : Int) ≤ ((word a).size : Int)) = True := eq_true f4
  have f7 : (i ≤ (word a).size) = True := eq_true hi
  have f8 : (a < 3) = True := eq_true ha
  go_enter Tryd.func137, Tryd.ntmps137
  go_wp2_with fail
  go_quiet (fail)
  go_wp2_with fail
  go_ret
  exact ⟨rfl, _, rfl⟩
/-- What a step does: what it tells, the word, how far. -/
def stepF (a i : Nat) (c : Int) : Int × Nat × Nat :=
  if i = 0 then (if c = 116 then (0, 0, 1) else if c = 102 then (0, 1, 1) else if c = 110 then (0, 2, 1) else (2, a, 0))
  else if i = (word a).size then (2, a, i) else if bt (word a) i ≠ c then (2, a, i) else if i + 1 = (word a).size then (1, a, i + 1) else (0, a, i + 1)
def litW (b a i : Nat) (c : Int) (W : World) : World :=
  if (stepF a i c).1 = 2 then W else if i = 0 then (W.setCell ⟨b, 6, none⟩ (.int .i64 (stepF a i c).2.1)).setCell ⟨b, 7, none⟩ (.int .i64 1) else W.setCell ⟨b, 7, none⟩ (.int .i64 ((i : Int) + 1))
set_option maxHeartbeats 8000000 in
theorem Step_late (b a i : Nat) (c : Int) (w : World) (hT : Tab w) (c0 : w.cell? ⟨b, 6, none⟩ = some (.int .i64 a)) (c1 : w.cell? ⟨b, 7, none⟩ = some (.int .i64 i)) (z0 : w.frozen? ⟨b, 6, none⟩ = false) (z1 : w.frozen? ⟨b, 7, none⟩ = false) (ha : a < 3) (hi : i ≤ (word a).size) (h0 : 0 < i) :
    Calls Tryd.prog 136 #[.pointer (some ⟨b, 6, none⟩), .int .u8 c] w fun e w' => e = .returned (.int .i64 (stepF a i c).1) ∧ w' = litW b a i c w := by
  have ct := tab_cell hT a ha
  clear hT
  have hs := word5 a ha
  have f1 : (0 : Int) ≤ (a : Int) := by omega
  have f2 : (a : Int) < 3 := by omega
  have f5 : ((a : Int) < 3) = True := eq_true f2
  have f8 : (a < 3) = True := eq_true ha
  have f9 : ((i : Int) == 0) = false := by simp; omega
  have f10 : ¬ (i : Int) = 0 := by omega
  have f11 : ¬ i = 0 := by omega
  by_cases hz : i = (word a).size
  · have e1 : decide ((i : Int) = ((word a).size : Int)) = true := by simp; omega
    have e2 : ((i : Int) == ((word a).size : Int)) = true := by simp; omega
    have hr : stepF a i c = (2, a, i) := by unfold stepF; rw [if_neg f11, if_pos hz]
    have E := Aside0.mk (show litW b a i c w = w by unfold litW; rw [hr]; rfl)
    rw [hr]
    clear hr hz
    go_enter Tryd.func136, Tryd.ntmps136
    go_wp2_with fail
    go_ret
    exact ⟨rfl, E.out.symm⟩
  · have f4 : (i : Int) < ((word a).size : Int) := by omega
    have f6 : ((i : Int) < ((word a).size : Int)) = True := eq_true f4
    have f7 : (i < (word a).size) = True := eq_true (by omega)
    have hx : ∀ h : i < (word a).size, (((word a)[i]'h).toNat : Int) = bt (word a) i := bt_at (word a) i
    have e1 : decide ((i : Int) = ((word a).size : Int)) = false := by simp; omega
    have e2 : ((i : Int) == ((word a).size : Int)) = false := by simp; omega
    have e3 : decide (i = (word a).size) = false := by simp [hz]
    have e4 : (i == (word a).size) = false := by simp [hz]
    by_cases hc : bt (word a) i = c
    · have w1 : wrap64 ((i : Int) + 1) = (i : Int) + 1 := by unfold wrap64; omega
      have w2 : IntKind.i64.wrap ((i : Int) + 1) = (i : Int) + 1 := IntWalk.i64_in _ (by omega)
      have d1 : decide (bt (word a) i = c) = true := by simp [hc]
      have d2 : decide (¬ bt (word a) i = c) = false := by simp [hc]
      have d3 : (bt (word a) i == c) = true := by simp [hc]
      have d4 : (bt (word a) i != c) = false := by simp [hc]
      by_cases hl : i + 1 = (word a).size
      · have hr : stepF a i c = (1, a, i + 1) := by unfold stepF; rw [if_neg f11, if_neg hz, if_neg (by simp [hc]), if_pos hl]
        have E := Aside0.mk (show litW b a i c w = w.setCell ⟨b, 7, none⟩ (.int .i64 ((i : Int) + 1)) by unfold litW; rw [hr, if_neg (by simp), if_neg f11])
        have g1 : ((i : Int) + 1 = ((word a).size : Int)) = True := eq_true (by omega)
        have g3 : decide ((i : Int) + 1 = ((word a).size : Int)) = true := by simp; omega
        have g2 : (((i : Int) + 1) == ((word a).size : Int)) = true := by simp; omega
        rw [hr]
        clear hr
        go_enter Tryd.func136, Tryd.ntmps136
        go_wp2_with fail
        go_ret
        exact ⟨rfl, E.out.symm⟩
      · have hr : stepF a i c = (0, a, i + 1) := by unfold stepF; rw [if_neg f11, if_neg hz, if_neg (by simp [hc]), if_neg hl]
        have E := Aside0.mk (show litW b a i c w = w.setCell ⟨b, 7, none⟩ (.int .i64 ((i : Int) + 1)) by unfold litW; rw [hr, if_neg (by simp), if_neg f11])
        have g1 : ((i : Int) + 1 = ((word a).size : Int)) = False := eq_false (by omega)
        have g3 : decide ((i : Int) + 1 = ((word a).size : Int)) = false := by simp; omega
        have g2 : (((i : Int) + 1) == ((word a).size : Int)) = false := by simp; omega
        rw [hr]
        clear hr
        go_enter Tryd.func136, Tryd.ntmps136
        go_wp2_with fail
        go_ret
        exact ⟨rfl, E.out.symm⟩
    · have hr : stepF a i c = (2, a, i) := by unfold stepF; rw [if_neg f11, if_neg hz, if_pos hc]
      have E := Aside0.mk (show litW b a i c w = w by unfold litW; rw [hr]; rfl)
      have d1 : decide (bt (word a) i = c) = false := by simp [hc]
      have d2 : decide (¬ bt (word a) i = c) = true := by simp [hc]
      have d3 : (bt (word a) i == c) = false := by simp [hc]
      have d4 : (bt (word a) i != c) = true := by simp [hc]
      rw [hr]
      clear hr
      go_enter Tryd.func136, Tryd.ntmps136
      go_wp2_with fail
      go_ret
      exact ⟨rfl, E.out.symm⟩
theorem ix0 (w : World) : Sem.run Tryd.prog (Instr.index 185 (.agg #[.string ⟨#[116, 114, 117, 101]⟩, .string ⟨#[102, 97, 108, 115, 101]⟩, .string ⟨#[110, 117, 108, 108]⟩]) (.int .i64 0)) w = .ok (.string ⟨#[116, 114, 117, 101]⟩) w := by
  have h : Tryd.prog.underlying 185 = some (.array 3 9) := by kernel_rfl
  have h9 : Tryd.prog.cellsOf 9 = 1 := by kernel_rfl
  simp [Instr.index, asIntOf, run_underlying h, go_sem]
theorem ix1 (w : World) : Sem.run Tryd.prog (Instr.index 185 (.agg #[.string ⟨#[116, 114, 117, 101]⟩, .string ⟨#[102, 97, 108, 115, 101]⟩, .string ⟨#[110, 117, 108, 108]⟩]) (.int .i64 1)) w = .ok (.string ⟨#[102, 97, 108, 115, 101]⟩) w := by
  have h : Tryd.prog.underlying 185 = some (.array 3 9) := by kernel_rfl
  have h9 : Tryd.prog.cellsOf 9 = 1 := by kernel_rfl
  simp [Instr.index, asIntOf, run_underlying h, go_sem]
theorem ix2 (w : World) : Sem.run Tryd.prog (Instr.index 185 (.agg #[.string ⟨#[116, 114, 117, 101]⟩, .string ⟨#[102, 97, 108, 115, 101]⟩, .string ⟨#[110, 117, 108, 108]⟩]) (.int .i64 2)) w = .ok (.string ⟨#[110, 117, 108, 108]⟩) w := by
  have h : Tryd.prog.underlying 185 = some (.array 3 9) := by kernel_rfl
  have h9 : Tryd.prog.cellsOf 9 = 1 := by kernel_rfl
  simp [Instr.index, asIntOf, run_underlying h, go_sem]
theorem by0 (h : 0 < (⟨#[116, 114, 117, 101]⟩ : ByteArray).size) : ((((⟨#[116, 114, 117, 101]⟩ : ByteArray)[0]'h).toNat : Nat) : Int) = 116 := rfl
theorem by1 (h : 0 < (⟨#[102, 97, 108, 115, 101]⟩ : ByteArray).size) : ((((⟨#[102, 97, 108, 115, 101]⟩ : ByteArray)[0]'h).toNat : Nat) : Int) = 102 := rfl
theorem by2 (h : 0 < (⟨#[110, 117, 108, 108]⟩ : ByteArray).size) : ((((⟨#[110, 117, 108, 108]⟩ : ByteArray)[0]'h).toNat : Nat) : Int) = 110 := rfl
attribute [local go_sem] ix0 ix1 ix2 by0 by1 by2   -- for this text's walks alone
set_option maxHeartbeats 8000000 in
theorem Step_early (b a : Nat) (c : Int) (w : World) (hT : Tab w) (c0 : w.cell? ⟨b, 6, none⟩ = some (.int .i64 a)) (c1 : w.cell? ⟨b, 7, none⟩ = some (.int .i64 (0 : Nat))) (z0 : w.frozen? ⟨b, 6, none⟩ = false) (z1 : w.frozen? ⟨b, 7, none⟩ = false) :
    Calls Tryd.prog 136 #[.pointer (some ⟨b, 6, none⟩), .int .u8 c] w fun e w' => e = .returned (.int .i64 (stepF a 0 c).1) ∧ w' = litW b a 0 c w := by
  obtain ⟨_, t0, t1, t2⟩ := hT
  simp only [word] at t0 t1 t2
  go_enter Tryd.func136, Tryd.ntmps136
  go_wp2_with fail
  go_loopg [14, 5, 6] 3 (fun kq v14 v5 v6 w' => ∃ j : Nat, v14 = .int .i64 j ∧ Aside0 (j + kq = 3 ∧ (0 < j → c ≠ 116) ∧ (1 < j → c ≠ 102) ∧ (2 < j → c ≠ 110)) ∧ w' = w)
  case atStart => exact ⟨0, rfl, ⟨by omega⟩, rfl⟩
  case round =>
    obtain ⟨j, rfl, HK, rfl⟩ := hrel
    obtain ⟨hk, k1, k2, k3⟩ := HK.out
    cases gk with
    | zero =>
      obtain rfl : j = 3 := by omega
      have HR : Aside0 (stepF a 0 c = (2, a, 0)) := ⟨by unfold stepF; rw [if_pos rfl, if_neg (k1 (by omega)), if_neg (k2 (by omega)), if_neg (k3 (by omega))]⟩
      clear hk k1 k2 k3
      go_wp2_with fail
      go_ret
      unfold litW
      rw [HR.out]
      exact ⟨rfl, rfl⟩
    | succ d =>
      match j, HK, hk, k1, k2, k3 with
      | 0, HK, hk, k1, k2, k3 =>
        by_cases hc : (116 : Int) = c
        · have HR : Aside0 (stepF a 0 c = (0, 0, 1)) := ⟨by unfold stepF; rw [if_pos rfl, if_pos hc.symm]⟩
          have d1 : ((116 : Int) == c) = true := by simp [hc]
          clear hk k1 k2 k3
          go_wp2_with fail
          go_ret
          unfold litW
          rw [HR.out]
          exact ⟨rfl, rfl⟩
        · have d1 : ((116 : Int) == c) = false := by simp [hc]
          clear hk k1 k2 k3
          go_wp2_with fail
          go_roundg d
          case measure => omega
          case rel => exact ⟨1, rfl, ⟨by have := HK.out.1; omega, fun _ => by omega, fun h => by omega, fun h => by omega⟩, rfl⟩
      | 1, HK, hk, k1, k2, k3 =>
        by_cases hc : (102 : Int) = c
        · have HR : Aside0 (stepF a 0 c = (0, 1, 1)) := ⟨by unfold stepF; rw [if_pos rfl, if_neg (k1 (by omega)), if_pos hc.symm]⟩
          have d1 : ((102 : Int) == c) = true := by simp [hc]
          clear hk k1 k2 k3
          go_wp2_with fail
          go_ret
          unfold litW
          rw [HR.out]
          exact ⟨rfl, rfl⟩
        · have d1 : ((102 : Int) == c) = false := by simp [hc]
          clear hk k1 k2 k3
          go_wp2_with fail
          go_roundg d
          case measure => omega
          case rel => exact ⟨2, rfl, ⟨by have := HK.out.1; omega, fun _ => HK.out.2.1 (by omega), fun _ => by omega, fun h => by omega⟩, rfl⟩
      | 2, HK, hk, k1, k2, k3 =>
        by_cases hc : (110 : Int) = c
        · have HR : Aside0 (stepF a 0 c = (0, 2, 1)) := ⟨by unfold stepF; rw [if_pos rfl, if_neg (k1 (by omega)), if_neg (k2 (by omega)), if_pos hc.symm]⟩
          have d1 : ((110 : Int) == c) = true := by simp [hc]
          clear hk k1 k2 k3
          go_wp2_with fail
          go_ret
          unfold litW
          rw [HR.out]
          exact ⟨rfl, rfl⟩
        · have d1 : ((110 : Int) == c) = false := by simp [hc]
          clear hk k1 k2 k3
          go_wp2_with fail
          go_roundg d
          case measure => omega
          case rel => exact ⟨3, rfl, ⟨by have := HK.out.1; omega, fun _ => HK.out.2.1 (by omega), fun _ => HK.out.2.2.1 (by omega), fun _ => by omega⟩, rfl⟩
      | n + 3, _, hk, _, _, _ => omega
/-- ONE STEP. -/
theorem lit_calls (b a i : Nat) (c : Int) (w : World) (hT : Tab w) (c0 : w.cell? ⟨b, 6, none⟩ = some (.int .i64 a)) (c1 : w.cell? ⟨b, 7, none⟩ = some (.int .i64 i)) (z0 : w.frozen? ⟨b, 6, none⟩ = false) (z1 : w.frozen? ⟨b, 7, none⟩ = false) (ha : a < 3) (hi : i ≤ (word a).size) :
    Calls Tryd.prog 136 #[.pointer (some ⟨b, 6, none⟩), .int .u8 c] w fun e w' => e = .returned (.int .i64 (stepF a i c).1) ∧ w' = litW b a i c w := by
  cases i with
  | zero => exact Step_early b a c w hT c0 c1 z0 z1
  | succ i => exact Step_late b a (i + 1) c w hT c0 c1 z0 z1 ha hi (by omega)
theorem stepF_ok (a i : Nat) (c : Int) (ha : a < 3) (hi : i ≤ (word a).size) : (stepF a i c).2.1 < 3 ∧ (stepF a i c).2.2 ≤ (word (stepF a i c).2.1).size ∧ ((stepF a i c).1 = 0 ∨ (stepF a i c).1 = 1 ∨ (stepF a i c).1 = 2) := by
  unfold stepF
  repeat' split
  all_goals (refine ⟨?_, ?_, ?_⟩ <;> first | omega | (simp; done) | (simp [word]; done) | (simp; omega) | decide | skip)
end Go.Proofs.YtlhpflicchchlaaDoor.LxN
