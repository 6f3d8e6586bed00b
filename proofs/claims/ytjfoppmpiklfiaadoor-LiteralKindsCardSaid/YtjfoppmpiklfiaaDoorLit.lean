/- Contracts of the literal package's functions over its table. Conditions: none. -/
import Derived.Test.YtjfoppmpiklfiaaDoorPLiteralKindsx1
import Derived.BigQuiet
import Derived.Deep.QuietTactic
import Derived.IntWalk
namespace Go.Proofs.YtjfoppmpiklfiaaDoor.Lit
open Go.RowKit Go.Proofs.YtjfoppmpiklfiaaDoorW.PrintWords Go.Proofs.YtjfoppmpiklfiaaDoorW.PrintLast Go.Proofs.YtjfoppmpiklfiaaDoorW.PrintMore

/-- The three words. -/
def word : Nat → ByteArray
  | 0 => ⟨#[116, 114, 117, 101]⟩
  | 1 => ⟨#[102, 97, 108, 115, 101]⟩
  | _ => ⟨#[110, 117, 108, 108]⟩
/-- The table's three cells. -/
def Tab (w : World) : Prop := 0 < w.heap.size ∧ w.cell? ⟨0, 0, none⟩ = some (.string (word 0)) ∧ w.cell? ⟨0, 1, none⟩ = some (.string (word 1)) ∧ w.cell? ⟨0, 2, none⟩ = some (.string (word 2))
theorem Tab.below {w w' : World} (h : Tab w) (hb : Below w.heap.size w w') : Tab w' := by
  obtain ⟨h0, h1, h2, h3⟩ := h
  exact ⟨Nat.lt_of_lt_of_le h0 hb.size, (hb.cell h0).trans h1, (hb.cell h0).trans h2, (hb.cell h0).trans h3⟩
/-- A state at block g of W. -/
def IsW (w0 W : World) (g a i : Nat) : Prop := W.heap[g]? = some (.cells #[.int .i64 a, .int .i64 i] 24 (0, 0)) ∧ w0.heap.size ≤ g
theorem IsW.below {w0 W W1 : World} {g a i : Nat} (h : IsW w0 W g a i) (hw : Below W.heap.size W W1) : IsW w0 W1 g a i := ⟨blk_below h.1 hw, h.2⟩
theorem IsW.set0 {w0 W : World} {g a i : Nat} (h : IsW w0 W g a i) (x : Nat) : IsW w0 (W.setCell ⟨g, 0, none⟩ (.int .i64 x)) g x i := ⟨by simpa using blk_set h.1 0 (.int .i64 x), h.2⟩
theorem IsW.set1 {w0 W : World} {g a i : Nat} (h : IsW w0 W g a i) (x : Nat) : IsW w0 (W.setCell ⟨g, 1, none⟩ (.int .i64 x)) g a x := ⟨by simpa using blk_set h.1 1 (.int .i64 x), h.2⟩
theorem tab_cell {w : World} (h : Tab w) (a : Nat) (ha : a < 3) : w.cell? ⟨0, a, none⟩ = some (.string (word a)) := by
  obtain ⟨_, h1, h2, h3⟩ := h
  match a, ha with
  | 0, _ => exact h1
  | 1, _ => exact h2
  | 2, _ => exact h3

theorem Word_calls (g a i : Nat) (w0 w : World) (hT : Tab w0) (hI : IsW w0 w g a i) (hB : Below w0.heap.size w0 w) (ha : a < 3) (hi : i ≤ (word a).size) :
    Calls Tryd.prog 8 #[.pointer (some ⟨g, 0, none⟩)] w fun e w' => e = .returned (.string ((word a).extract 0 i)) ∧ IsW w0 w' g a i ∧ Below w0.heap.size w0 w' := by
  have c0 := (blk_cell hI.1 0).trans rfl
  have c1 := (blk_cell hI.1 1).trans rfl
  have z0 := blk_frozen hI.1 0
  have z1 := blk_frozen hI.1 1
  have ct := tab_cell (hT.below hB) a ha
  have HI := Aside0.mk hI
  have HB := Aside0.mk hB
  clear hT hI hB
  have hs : (word a).size ≤ 5 := by match a, ha with
    | 0, _ => decide
    | 1, _ => decide
    | 2, _ => decide
  have f1 : (0 : Int) ≤ (a : Int) := by omega
  have f2 : (a : Int) < 3 := by omega
  have f3 : (0 : Int) ≤ (i : Int) := by omega
  have f4 : (i : Int) ≤ ((word a).size : Int) := by omega
  have f5 : ((a : Int) < 3) = True := eq_true f2
  have f6 : ((i : Int) ≤ ((word a).size : Int)) = True := eq_true f4
  have f7 : (i ≤ (word a).size) = True := eq_true hi
  have f8 : (a < 3) = True := eq_true ha
  go_enter Tryd.func8, Tryd.ntmps8
  go_wp2_with fail
  go_quiet (fail)
  go_wp2_with fail
  go_ret
  exact ⟨rfl, HI.out, pw_below_drewN HB.out _⟩

/-- What a step does: what it tells, the word, how far. -/
def stepF (a i : Nat) (c : Int) : Int × Nat × Nat :=
  if i = 0 then (if c = 116 then (0, 0, 1) else if c = 102 then (0, 1, 1) else if c = 110 then (0, 2, 1) else (2, a, 0))
  else if i = (word a).size then (2, a, i) else if bt (word a) i ≠ c then (2, a, i) else if i + 1 = (word a).size then (1, a, i + 1) else (0, a, i + 1)

theorem Step_late (g a i : Nat) (c : Int) (w0 w : World) (hT : Tab w0) (hI : IsW w0 w g a i) (hB : Below w0.heap.size w0 w) (ha : a < 3) (hi : i ≤ (word a).size) (h0 : 0 < i) :
    Calls Tryd.prog 7 #[.pointer (some ⟨g, 0, none⟩), .int .u8 c] w fun e w' => e = .returned (.int .i64 (stepF a i c).1) ∧ IsW w0 w' g (stepF a i c).2.1 (stepF a i c).2.2 ∧ Below w0.heap.size w0 w' := by
  have c0 := (blk_cell hI.1 0).trans rfl
  have c1 := (blk_cell hI.1 1).trans rfl
  have z0 := blk_frozen hI.1 0
  have z1 := blk_frozen hI.1 1
  have ct := tab_cell (hT.below hB) a ha
  have HI := Aside0.mk hI
  have HB := Aside0.mk hB
  clear hT hI hB
  have hs : (word a).size ≤ 5 := by match a, ha with
    | 0, _ => decide
    | 1, _ => decide
    | 2, _ => decide
  have f1 : (0 : Int) ≤ (a : Int) := by omega
  have f2 : (a : Int) < 3 := by omega
  have f5 : ((a : Int) < 3) = True := eq_true f2
  have f8 : (a < 3) = True := eq_true ha
  have f9 : ((i : Int) == 0) = false := by simp; omega
  have f10 : ¬ (i : Int) = 0 := by omega
  have f11 : ¬ i = 0 := by omega
  by_cases hz : i = (word a).size
  · have e1 : decide ((i : Int) = ((word a).size : Int)) = true := by simp; omega
    have e2 : ((i : Int) == ((word a).size : Int)) = true := by simp; omega
    have hr : stepF a i c = (2, a, i) := by unfold stepF; rw [if_neg f11, if_pos hz]
    rw [hr]
    clear hr hz
    go_enter Tryd.func7, Tryd.ntmps7
    go_wp2_with fail
    go_ret
    exact ⟨rfl, HI.out, HB.out⟩
  · have f4 : (i : Int) < ((word a).size : Int) := by omega
    have f6 : ((i : Int) < ((word a).size : Int)) = True := eq_true f4
    have f7 : (i < (word a).size) = True := eq_true (by omega)
    have hx : ∀ h : i < (word a).size, (((word a)[i]'h).toNat : Int) = bt (word a) i := bt_at (word a) i
    have e1 : decide ((i : Int) = ((word a).size : Int)) = false := by simp; omega
    have e2 : ((i : Int) == ((word a).size : Int)) = false := by simp; omega
    have e3 : decide (i = (word a).size) = false := by simp [hz]
    have e4 : (i == (word a).size) = false := by simp [hz]
    by_cases hc : bt (word a) i = c
    · have w1 : wrap64 ((i : Int) + 1) = (i : Int) + 1 := by unfold wrap64; omega
      have w2 : IntKind.i64.wrap ((i : Int) + 1) = (i : Int) + 1 := IntWalk.i64_in _ (by omega)
      have d1 : decide (bt (word a) i = c) = true := by simp [hc]
      have d2 : decide (¬ bt (word a) i = c) = false := by simp [hc]
      have d3 : (bt (word a) i == c) = true := by simp [hc]
      have d4 : (bt (word a) i != c) = false := by simp [hc]
      by_cases hl : i + 1 = (word a).size
      · have hr : stepF a i c = (1, a, i + 1) := by unfold stepF; rw [if_neg f11, if_neg hz, if_neg (by simp [hc]), if_pos hl]
        have g1 : ((i : Int) + 1 = ((word a).size : Int)) = True := eq_true (by omega)
        have g3 : decide ((i : Int) + 1 = ((word a).size : Int)) = true := by simp; omega
        have g2 : (((i : Int) + 1) == ((word a).size : Int)) = true := by simp; omega
        rw [hr]
        clear hr
        go_enter Tryd.func7, Tryd.ntmps7
        go_wp2_with fail
        go_ret
        exact ⟨rfl, IsW.set1 HI.out (i + 1), below_set HB.out HI.out.2⟩
      · have hr : stepF a i c = (0, a, i + 1) := by unfold stepF; rw [if_neg f11, if_neg hz, if_neg (by simp [hc]), if_neg hl]
        have g1 : ((i : Int) + 1 = ((word a).size : Int)) = False := eq_false (by omega)
        have g3 : decide ((i : Int) + 1 = ((word a).size : Int)) = false := by simp; omega
        have g2 : (((i : Int) + 1) == ((word a).size : Int)) = false := by simp; omega
        rw [hr]
        clear hr
        go_enter Tryd.func7, Tryd.ntmps7
        go_wp2_with fail
        go_ret
        exact ⟨rfl, IsW.set1 HI.out (i + 1), below_set HB.out HI.out.2⟩
    · have hr : stepF a i c = (2, a, i) := by unfold stepF; rw [if_neg f11, if_neg hz, if_pos hc]
      have d1 : decide (bt (word a) i = c) = false := by simp [hc]
      have d2 : decide (¬ bt (word a) i = c) = true := by simp [hc]
      have d3 : (bt (word a) i == c) = false := by simp [hc]
      have d4 : (bt (word a) i != c) = true := by simp [hc]
      rw [hr]
      clear hr
      go_enter Tryd.func7, Tryd.ntmps7
      go_wp2_with fail
      go_ret
      exact ⟨rfl, HI.out, HB.out⟩

theorem ix0 (w : World) : Sem.run Tryd.prog (Instr.index 35 (.agg #[.string ⟨#[116, 114, 117, 101]⟩, .string ⟨#[102, 97, 108, 115, 101]⟩, .string ⟨#[110, 117, 108, 108]⟩]) (.int .i64 0)) w = .ok (.string ⟨#[116, 114, 117, 101]⟩) w := by
  have h : Tryd.prog.underlying 35 = some (.array 3 9) := by kernel_rfl
  have h9 : Tryd.prog.cellsOf 9 = 1 := by kernel_rfl
  simp [Instr.index, asIntOf, run_underlying h, go_sem]
theorem ix1 (w : World) : Sem.run Tryd.prog (Instr.index 35 (.agg #[.string ⟨#[116, 114, 117, 101]⟩, .string ⟨#[102, 97, 108, 115, 101]⟩, .string ⟨#[110, 117, 108, 108]⟩]) (.int .i64 1)) w = .ok (.string ⟨#[102, 97, 108, 115, 101]⟩) w := by
  have h : Tryd.prog.underlying 35 = some (.array 3 9) := by kernel_rfl
  have h9 : Tryd.prog.cellsOf 9 = 1 := by kernel_rfl
  simp [Instr.index, asIntOf, run_underlying h, go_sem]
theorem ix2 (w : World) : Sem.run Tryd.prog (Instr.index 35 (.agg #[.string ⟨#[116, 114, 117, 101]⟩, .string ⟨#[102, 97, 108, 115, 101]⟩, .string ⟨#[110, 117, 108, 108]⟩]) (.int .i64 2)) w = .ok (.string ⟨#[110, 117, 108, 108]⟩) w := by
  have h : Tryd.prog.underlying 35 = some (.array 3 9) := by kernel_rfl
  have h9 : Tryd.prog.cellsOf 9 = 1 := by kernel_rfl
  simp [Instr.index, asIntOf, run_underlying h, go_sem]
theorem by0 (h : 0 < (⟨#[116, 114, 117, 101]⟩ : ByteArray).size) : ((((⟨#[116, 114, 117, 101]⟩ : ByteArray)[0]'h).toNat : Nat) : Int) = 116 := rfl
theorem by1 (h : 0 < (⟨#[102, 97, 108, 115, 101]⟩ : ByteArray).size) : ((((⟨#[102, 97, 108, 115, 101]⟩ : ByteArray)[0]'h).toNat : Nat) : Int) = 102 := rfl
theorem by2 (h : 0 < (⟨#[110, 117, 108, 108]⟩ : ByteArray).size) : ((((⟨#[110, 117, 108, 108]⟩ : ByteArray)[0]'h).toNat : Nat) : Int) = 110 := rfl
attribute [local go_sem] ix0 ix1 ix2 by0 by1 by2   -- for this text's walks alone
theorem Step_early (g a : Nat) (c : Int) (w0 w : World) (hT : Tab w0) (hI : IsW w0 w g a 0) (hB : Below w0.heap.size w0 w) :
    Calls Tryd.prog 7 #[.pointer (some ⟨g, 0, none⟩), .int .u8 c] w fun e w' => e = .returned (.int .i64 (stepF a 0 c).1) ∧ IsW w0 w' g (stepF a 0 c).2.1 (stepF a 0 c).2.2 ∧ Below w0.heap.size w0 w' := by
  have c0 := (blk_cell hI.1 0).trans rfl
  have c1 := (blk_cell hI.1 1).trans rfl
  have z0 := blk_frozen hI.1 0
  have z1 := blk_frozen hI.1 1
  have ct := hT.below hB
  obtain ⟨_, t0, t1, t2⟩ := ct
  have HI := Aside0.mk hI
  have HB := Aside0.mk hB
  clear hT hI hB
  simp only [word] at t0 t1 t2
  go_enter Tryd.func7, Tryd.ntmps7
  go_wp2_with fail
  go_loopg [14, 5, 6] 3 (fun kq v14 v5 v6 w' => ∃ j : Nat, v14 = .int .i64 j ∧ Aside0 (j + kq = 3 ∧ (0 < j → c ≠ 116) ∧ (1 < j → c ≠ 102) ∧ (2 < j → c ≠ 110)) ∧ w' = w)
  case atStart => exact ⟨0, rfl, ⟨by omega⟩, rfl⟩
  case round =>
    obtain ⟨j, rfl, HK, rfl⟩ := hrel
    obtain ⟨hk, k1, k2, k3⟩ := HK.out
    cases gk with
    | zero =>
      obtain rfl : j = 3 := by omega
      have HR : Aside0 (stepF a 0 c = (2, a, 0)) := ⟨by unfold stepF; rw [if_pos rfl, if_neg (k1 (by omega)), if_neg (k2 (by omega)), if_neg (k3 (by omega))]⟩
      clear hk k1 k2 k3
      go_wp2_with fail
      go_ret
      rw [HR.out]
      exact ⟨rfl, HI.out, HB.out⟩
    | succ d =>
      match j, HK, hk, k1, k2, k3 with
      | 0, HK, hk, k1, k2, k3 =>
        by_cases hc : (116 : Int) = c
        · have HR : Aside0 (stepF a 0 c = (0, 0, 1)) := ⟨by unfold stepF; rw [if_pos rfl, if_pos hc.symm]⟩
          have d1 : ((116 : Int) == c) = true := by simp [hc]
          clear hk k1 k2 k3
          go_wp2_with fail
          go_ret
          rw [HR.out]
          exact ⟨rfl, IsW.set1 (IsW.set0 HI.out 0) 1, below_set (below_set HB.out HI.out.2) HI.out.2⟩
        · have d1 : ((116 : Int) == c) = false := by simp [hc]
          clear hk k1 k2 k3
          go_wp2_with fail
          go_roundg d
          case measure => omega
          case rel => exact ⟨1, rfl, ⟨by have := HK.out.1; omega, fun _ => by omega, fun h => by omega, fun h => by omega⟩, rfl⟩
      | 1, HK, hk, k1, k2, k3 =>
        by_cases hc : (102 : Int) = c
        · have HR : Aside0 (stepF a 0 c = (0, 1, 1)) := ⟨by unfold stepF; rw [if_pos rfl, if_neg (k1 (by omega)), if_pos hc.symm]⟩
          have d1 : ((102 : Int) == c) = true := by simp [hc]
          clear hk k1 k2 k3
          go_wp2_with fail
          go_ret
          rw [HR.out]
          exact ⟨rfl, IsW.set1 (IsW.set0 HI.out 1) 1, below_set (below_set HB.out HI.out.2) HI.out.2⟩
        · have d1 : ((102 : Int) == c) = false := by simp [hc]
          clear hk k1 k2 k3
          go_wp2_with fail
          go_roundg d
          case measure => omega
          case rel => exact ⟨2, rfl, ⟨by have := HK.out.1; omega, fun _ => HK.out.2.1 (by omega), fun _ => by omega, fun h => by omega⟩, rfl⟩
      | 2, HK, hk, k1, k2, k3 =>
        by_cases hc : (110 : Int) = c
        · have HR : Aside0 (stepF a 0 c = (0, 2, 1)) := ⟨by unfold stepF; rw [if_pos rfl, if_neg (k1 (by omega)), if_neg (k2 (by omega)), if_pos hc.symm]⟩
          have d1 : ((110 : Int) == c) = true := by simp [hc]
          clear hk k1 k2 k3
          go_wp2_with fail
          go_ret
          rw [HR.out]
          exact ⟨rfl, IsW.set1 (IsW.set0 HI.out 2) 1, below_set (below_set HB.out HI.out.2) HI.out.2⟩
        · have d1 : ((110 : Int) == c) = false := by simp [hc]
          clear hk k1 k2 k3
          go_wp2_with fail
          go_roundg d
          case measure => omega
          case rel => exact ⟨3, rfl, ⟨by have := HK.out.1; omega, fun _ => HK.out.2.1 (by omega), fun _ => HK.out.2.2.1 (by omega), fun _ => by omega⟩, rfl⟩
      | n + 3, _, hk, _, _, _ => omega

/-- ONE STEP. -/
theorem Step_calls (g a i : Nat) (c : Int) (w0 w : World) (hT : Tab w0) (hI : IsW w0 w g a i) (hB : Below w0.heap.size w0 w) (ha : a < 3) (hi : i ≤ (word a).size) :
    Calls Tryd.prog 7 #[.pointer (some ⟨g, 0, none⟩), .int .u8 c] w fun e w' => e = .returned (.int .i64 (stepF a i c).1) ∧ IsW w0 w' g (stepF a i c).2.1 (stepF a i c).2.2 ∧ Below w0.heap.size w0 w' := by
  cases i with
  | zero => exact Step_early g a c w0 w hT hI hB
  | succ i => exact Step_late g a (i + 1) c w0 w hT hI hB ha hi (by omega)

end Go.Proofs.YtjfoppmpiklfiaaDoor.Lit
