/- Contracts of functions that the law SlA reaches. Conditions: none. -/
import Derived.Test.YtjfoppmpiklfiaaSlA0
import Derived.Test.YtjfoppmpiklfiaaSlA3
namespace Go.Proofs.Ytjfoppmpiklfiaa.SlA
open Go.RowKit Go.Proofs.YtjfoppmpiklfiaaW.PrintWords Go.Proofs.YtjfoppmpiklfiaaW.PrintLast Go.Proofs.YtjfoppmpiklfiaaW.PrintMore
attribute [local go_sem] max2_int min2_int max_two min_two max_three min_three max_four min_four   -- for this text's walks alone
set_option linter.unusedVariables false
set_option linter.unusedSimpArgs false

/-! ### riffleref12_All: function 45 -/
mutual
def riffleref12_All.j0 : Nat → Int → List Bool → Int → Int → Bool → Int → ByteArray → Int → Int → Int → Bool → Bool → Int → Option (List Int)
  | 0, _, _, _, _, _, _, _, _, _, _, _, _, _ => none
  | k + 1, x1, x5, x6, x7, x38, x142000, x142001, x142002, x142003, x142004, x142005, x142006, x142007 => if x38 = true then ((riffleref12_Place.f x142002 x1).bind fun t149 => (if 0 ≤ t149 then (if t149 < (x5.length : Int) then (riffleref12_All.j1 k (x5.set (t149 : Int).toNat true) x6 x7 x142000 x142001 x142002 x142003 x142004 x142005 x142006 x142007) else (none)) else (none))) else (riffleref12_All.j1 k x5 x6 x7 x142000 x142001 x142002 x142003 x142004 x142005 x142006 x142007)
def riffleref12_All.j1 : Nat → List Bool → Int → Int → Int → ByteArray → Int → Int → Int → Bool → Bool → Int → Option (List Int)
  | 0, _, _, _, _, _, _, _, _, _, _, _ => none
  | k + 1, x5, x6, x7, x142000, x142001, x142002, x142003, x142004, x142005, x142006, x142007 => if x142000 = 3 then (riffleref12_All.j2 k x5 x6 x7 (decide (x142007 > 0)) x142000 x142001 x142002 x142003 x142004 x142005 x142006 x142007) else (riffleref12_All.j2 k x5 x6 x7 false x142000 x142001 x142002 x142003 x142004 x142005 x142006 x142007)
def riffleref12_All.j2 : Nat → List Bool → Int → Int → Bool → Int → ByteArray → Int → Int → Int → Bool → Bool → Int → Option (List Int)
  | 0, _, _, _, _, _, _, _, _, _, _, _, _ => none
  | k + 1, x5, x6, x7, x52, x142000, x142001, x142002, x142003, x142004, x142005, x142006, x142007 => if x52 = true then (riffleref12_All.l0 k x5 x6 x7 x6 x142000 x142001 x142002 x142003 x142004 x142005 x142006 x142007) else (riffleref12_All.j4 k x5 x6 x7 x142000 x142001 x142002 x142003 x142004 x142005 x142006 x142007)
def riffleref12_All.j4 : Nat → List Bool → Int → Int → Int → ByteArray → Int → Int → Int → Bool → Bool → Int → Option (List Int)
  | 0, _, _, _, _, _, _, _, _, _, _, _ => none
  | k + 1, x5, x6, x7, x142000, x142001, x142002, x142003, x142004, x142005, x142006, x142007 => if x142000 = 3 then (riffleref12_All.j5 k x5 x6 x7 (decide (x142007 < 0)) x142000 x142001 x142002 x142003 x142004 x142005 x142006 x142007) else (riffleref12_All.j5 k x5 x6 x7 false x142000 x142001 x142002 x142003 x142004 x142005 x142006 x142007)
def riffleref12_All.j5 : Nat → List Bool → Int → Int → Bool → Int → ByteArray → Int → Int → Int → Bool → Bool → Int → Option (List Int)
  | 0, _, _, _, _, _, _, _, _, _, _, _, _ => none
  | k + 1, x5, x6, x7, x71, x142000, x142001, x142002, x142003, x142004, x142005, x142006, x142007 => if x71 = true then (riffleref12_All.l1 k x5 x6 x7 x142000 x142001 x142002 x142003 x142004 x142005 x142006 x142007) else (riffleref12_All.j7 k x5)
def riffleref12_All.j7 : Nat → List Bool → Option (List Int)
  | 0, _ => none
  | k + 1, x5 => riffleref12_All.l2 k (([] : List Int)) x5 (x5.length : Int) 0
def riffleref12_All.l2 : Nat → List Int → List Bool → Int → Int → Option (List Int)
  | 0, _, _, _, _ => none
  | k + 1, x10, x84, x85, x86 => if x86 < x85 then (if 0 ≤ x86 then (if x86 < (x84.length : Int) then (if rdOf false x84 x86 = true then (if x10.length < 17592186044416 then (riffleref12_All.l2 k (x10 ++ [x86]) x84 x85 (wrap64 (x86 + 1))) else (none)) else (riffleref12_All.l2 k x10 x84 x85 (wrap64 (x86 + 1)))) else (none)) else (none)) else (some x10)
def riffleref12_All.l1 : Nat → List Bool → Int → Int → Int → ByteArray → Int → Int → Int → Bool → Bool → Int → Option (List Int)
  | 0, _, _, _, _, _, _, _, _, _, _, _ => none
  | k + 1, x5, x6, x9, x142000, x142001, x142002, x142003, x142004, x142005, x142006, x142007 => if x9 > x6 then (if 0 ≤ x9 then (if x9 < (x5.length : Int) then (riffleref12_All.l1 k (x5.set (x9 : Int).toNat true) x6 (wrap64 (x9 + x142007)) x142000 x142001 x142002 x142003 x142004 x142005 x142006 x142007) else (none)) else (none)) else (riffleref12_All.j7 k x5)
def riffleref12_All.l0 : Nat → List Bool → Int → Int → Int → Int → ByteArray → Int → Int → Int → Bool → Bool → Int → Option (List Int)
  | 0, _, _, _, _, _, _, _, _, _, _, _, _ => none
  | k + 1, x5, x6, x7, x8, x142000, x142001, x142002, x142003, x142004, x142005, x142006, x142007 => if x8 < x7 then (if 0 ≤ x8 then (if x8 < (x5.length : Int) then (riffleref12_All.l0 k (x5.set (x8 : Int).toNat true) x6 x7 (wrap64 (x8 + x142007)) x142000 x142001 x142002 x142003 x142004 x142005 x142006 x142007) else (none)) else (none)) else (riffleref12_All.j4 k x5 x6 x7 x142000 x142001 x142002 x142003 x142004 x142005 x142006 x142007)
end
def riffleref12_All.f (k : Nat) (a0_0 : Int) (a0_1 : ByteArray) (a0_2 : Int) (a0_3 : Int) (a0_4 : Int) (a0_5 : Bool) (a0_6 : Bool) (a0_7 : Int) (a1 : Int) : Option (List Int) := if 0 ≤ a1 then (if (a1 : Int).toNat ≤ 281474976710656 then ((some (List.replicate (a1 : Int).toNat false : List Bool)).bind fun y142 => ((riffleref12_Bounds.f k a0_0 a0_1 a0_2 a0_3 a0_4 a0_5 a0_6 a0_7 a1).bind fun bt145 => (if a0_0 = 2 then ((riffleref12_Place.f a0_2 a1).bind fun t147 => (if t147 ≥ 0 then ((riffleref12_Place.f a0_2 a1).bind fun t148 => (riffleref12_All.j0 k a1 y142 bt145.1 bt145.2 (decide (t148 < a1)) a0_0 a0_1 a0_2 a0_3 a0_4 a0_5 a0_6 a0_7)) else (riffleref12_All.j0 k a1 y142 bt145.1 bt145.2 false a0_0 a0_1 a0_2 a0_3 a0_4 a0_5 a0_6 a0_7))) else (riffleref12_All.j0 k a1 y142 bt145.1 bt145.2 false a0_0 a0_1 a0_2 a0_3 a0_4 a0_5 a0_6 a0_7)))) else (none)) else (none)
theorem riffleref12_All.mono_l : ∀ k, (∀ y0 y1 y2 y3 y4 y5 y6 y7 y8 y9 y10 y11 y12, LeO (riffleref12_All.j0 k y0 y1 y2 y3 y4 y5 y6 y7 y8 y9 y10 y11 y12) (riffleref12_All.j0 (k + 1) y0 y1 y2 y3 y4 y5 y6 y7 y8 y9 y10 y11 y12)) ∧ (∀ y0 y1 y2 y3 y4 y5 y6 y7 y8 y9 y10, LeO (riffleref12_All.j1 k y0 y1 y2 y3 y4 y5 y6 y7 y8 y9 y10) (riffleref12_All.j1 (k + 1) y0 y1 y2 y3 y4 y5 y6 y7 y8 y9 y10)) ∧ (∀ y0 y1 y2 y3 y4 y5 y6 y7 y8 y9 y10 y11, LeO (riffleref12_All.j2 k y0 y1 y2 y3 y4 y5 y6 y7 y8 y9 y10 y11) (riffleref12_All.j2 (k + 1) y0 y1 y2 y3 y4 y5 y6 y7 y8 y9 y10 y11)) ∧ (∀ y0 y1 y2 y3 y4 y5 y6 y7 y8 y9 y10, LeO (riffleref12_All.j4 k y0 y1 y2 y3 y4 y5 y6 y7 y8 y9 y10) (riffleref12_All.j4 (k + 1) y0 y1 y2 y3 y4 y5 y6 y7 y8 y9 y10)) ∧ (∀ y0 y1 y2 y3 y4 y5 y6 y7 y8 y9 y10 y11, LeO (riffleref12_All.j5 k y0 y1 y2 y3 y4 y5 y6 y7 y8 y9 y10 y11) (riffleref12_All.j5 (k + 1) y0 y1 y2 y3 y4 y5 y6 y7 y8 y9 y10 y11)) ∧ (∀ y0, LeO (riffleref12_All.j7 k y0) (riffleref12_All.j7 (k + 1) y0)) ∧ (∀ y0 y1 y2 y3, LeO (riffleref12_All.l2 k y0 y1 y2 y3) (riffleref12_All.l2 (k + 1) y0 y1 y2 y3)) ∧ (∀ y0 y1 y2 y3 y4 y5 y6 y7 y8 y9 y10, LeO (riffleref12_All.l1 k y0 y1 y2 y3 y4 y5 y6 y7 y8 y9 y10) (riffleref12_All.l1 (k + 1) y0 y1 y2 y3 y4 y5 y6 y7 y8 y9 y10)) ∧ (∀ y0 y1 y2 y3 y4 y5 y6 y7 y8 y9 y10 y11, LeO (riffleref12_All.l0 k y0 y1 y2 y3 y4 y5 y6 y7 y8 y9 y10 y11) (riffleref12_All.l0 (k + 1) y0 y1 y2 y3 y4 y5 y6 y7 y8 y9 y10 y11))
  | 0 => ⟨fun _ _ _ _ _ _ _ _ _ _ _ _ _ r h => by simp [riffleref12_All.j0] at h, fun _ _ _ _ _ _ _ _ _ _ _ r h => by simp [riffleref12_All.j1] at h, fun _ _ _ _ _ _ _ _ _ _ _ _ r h => by simp [riffleref12_All.j2] at h, fun _ _ _ _ _ _ _ _ _ _ _ r h => by simp [riffleref12_All.j4] at h, fun _ _ _ _ _ _ _ _ _ _ _ _ r h => by simp [riffleref12_All.j5] at h, fun _ r h => by simp [riffleref12_All.j7] at h, fun _ _ _ _ r h => by simp [riffleref12_All.l2] at h, fun _ _ _ _ _ _ _ _ _ _ _ r h => by simp [riffleref12_All.l1] at h, fun _ _ _ _ _ _ _ _ _ _ _ _ r h => by simp [riffleref12_All.l0] at h⟩
  | k + 1 => by
    obtain ⟨ih0, ih1, ih2, ih3, ih4, ih5, ih6, ih7, ih8⟩ := riffleref12_All.mono_l k
    refine ⟨?_, ?_, ?_, ?_, ?_, ?_, ?_, ?_, ?_⟩
    · intro y0 y1 y2 y3 y4 y5 y6 y7 y8 y9 y10 y11 y12
      unfold riffleref12_All.j0
      repeat' first
      | (with_reducible exact ih0 _ _ _ _ _ _ _ _ _ _ _ _ _)
      | (with_reducible exact ih1 _ _ _ _ _ _ _ _ _ _ _)
      | (with_reducible exact ih2 _ _ _ _ _ _ _ _ _ _ _ _)
      | (with_reducible exact ih3 _ _ _ _ _ _ _ _ _ _ _)
      | (with_reducible exact ih4 _ _ _ _ _ _ _ _ _ _ _ _)
      | (with_reducible exact ih5 _)
      | (with_reducible exact ih6 _ _ _ _)
      | (with_reducible exact ih7 _ _ _ _ _ _ _ _ _ _ _)
      | (with_reducible exact ih8 _ _ _ _ _ _ _ _ _ _ _ _)
      | (with_reducible exact riffleref12_Bounds.mono _ _ _ _ _ _ _ _ _ _)
      | (with_reducible exact LeO.refl _)
      | (with_reducible exact LeO.none _)
      | (with_reducible refine LeO.ite ?_ ?_)
      | (with_reducible refine LeO.bind ?_ (fun _ => ?_))
      | exact ih0 _ _ _ _ _ _ _ _ _ _ _ _ _
      | exact ih1 _ _ _ _ _ _ _ _ _ _ _
      | exact ih2 _ _ _ _ _ _ _ _ _ _ _ _
      | exact ih3 _ _ _ _ _ _ _ _ _ _ _
      | exact ih4 _ _ _ _ _ _ _ _ _ _ _ _
      | exact ih5 _
      | exact ih6 _ _ _ _
      | exact ih7 _ _ _ _ _ _ _ _ _ _ _
      | exact ih8 _ _ _ _ _ _ _ _ _ _ _ _
      | exact riffleref12_Bounds.mono _ _ _ _ _ _ _ _ _ _
      | exact LeO.none _
      | refine LeO.ite ?_ ?_
      | refine LeO.bind ?_ (fun _ => ?_)
    · intro y0 y1 y2 y3 y4 y5 y6 y7 y8 y9 y10
      unfold riffleref12_All.j1
      repeat' first
      | (with_reducible exact ih0 _ _ _ _ _ _ _ _ _ _ _ _ _)
      | (with_reducible exact ih1 _ _ _ _ _ _ _ _ _ _ _)
      | (with_reducible exact ih2 _ _ _ _ _ _ _ _ _ _ _ _)
      | (with_reducible exact ih3 _ _ _ _ _ _ _ _ _ _ _)
      | (with_reducible exact ih4 _ _ _ _ _ _ _ _ _ _ _ _)
      | (with_reducible exact ih5 _)
      | (with_reducible exact ih6 _ _ _ _)
      | (with_reducible exact ih7 _ _ _ _ _ _ _ _ _ _ _)
      | (with_reducible exact ih8 _ _ _ _ _ _ _ _ _ _ _ _)
      | (with_reducible exact riffleref12_Bounds.mono _ _ _ _ _ _ _ _ _ _)
      | (with_reducible exact LeO.refl _)
      | (with_reducible exact LeO.none _)
      | (with_reducible refine LeO.ite ?_ ?_)
      | (with_reducible refine LeO.bind ?_ (fun _ => ?_))
      | exact ih0 _ _ _ _ _ _ _ _ _ _ _ _ _
      | exact ih1 _ _ _ _ _ _ _ _ _ _ _
      | exact ih2 _ _ _ _ _ _ _ _ _ _ _ _
      | exact ih3 _ _ _ _ _ _ _ _ _ _ _
      | exact ih4 _ _ _ _ _ _ _ _ _ _ _ _
      | exact ih5 _
      | exact ih6 _ _ _ _
      | exact ih7 _ _ _ _ _ _ _ _ _ _ _
      | exact ih8 _ _ _ _ _ _ _ _ _ _ _ _
      | exact riffleref12_Bounds.mono _ _ _ _ _ _ _ _ _ _
      | exact LeO.none _
      | refine LeO.ite ?_ ?_
      | refine LeO.bind ?_ (fun _ => ?_)
    · intro y0 y1 y2 y3 y4 y5 y6 y7 y8 y9 y10 y11
      unfold riffleref12_All.j2
      repeat' first
      | (with_reducible exact ih0 _ _ _ _ _ _ _ _ _ _ _ _ _)
      | (with_reducible exact ih1 _ _ _ _ _ _ _ _ _ _ _)
      | (with_reducible exact ih2 _ _ _ _ _ _ _ _ _ _ _ _)
      | (with_reducible exact ih3 _ _ _ _ _ _ _ _ _ _ _)
      | (with_reducible exact ih4 _ _ _ _ _ _ _ _ _ _ _ _)
      | (with_reducible exact ih5 _)
      | (with_reducible exact ih6 _ _ _ _)
      | (with_reducible exact ih7 _ _ _ _ _ _ _ _ _ _ _)
      | (with_reducible exact ih8 _ _ _ _ _ _ _ _ _ _ _ _)
      | (with_reducible exact riffleref12_Bounds.mono _ _ _ _ _ _ _ _ _ _)
      | (with_reducible exact LeO.refl _)
      | (with_reducible exact LeO.none _)
      | (with_reducible refine LeO.ite ?_ ?_)
      | (with_reducible refine LeO.bind ?_ (fun _ => ?_))
      | exact ih0 _ _ _ _ _ _ _ _ _ _ _ _ _
      | exact ih1 _ _ _ _ _ _ _ _ _ _ _
      | exact ih2 _ _ _ _ _ _ _ _ _ _ _ _
      | exact ih3 _ _ _ _ _ _ _ _ _ _ _
      | exact ih4 _ _ _ _ _ _ _ _ _ _ _ _
      | exact ih5 _
      | exact ih6 _ _ _ _
      | exact ih7 _ _ _ _ _ _ _ _ _ _ _
      | exact ih8 _ _ _ _ _ _ _ _ _ _ _ _
      | exact riffleref12_Bounds.mono _ _ _ _ _ _ _ _ _ _
      | exact LeO.none _
      | refine LeO.ite ?_ ?_
      | refine LeO.bind ?_ (fun _ => ?_)
    · intro y0 y1 y2 y3 y4 y5 y6 y7 y8 y9 y10
      unfold riffleref12_All.j4
      repeat' first
      | (with_reducible exact ih0 _ _ _ _ _ _ _ _ _ _ _ _ _)
      | (with_reducible exact ih1 _ _ _ _ _ _ _ _ _ _ _)
      | (with_reducible exact ih2 _ _ _ _ _ _ _ _ _ _ _ _)
      | (with_reducible exact ih3 _ _ _ _ _ _ _ _ _ _ _)
      | (with_reducible exact ih4 _ _ _ _ _ _ _ _ _ _ _ _)
      | (with_reducible exact ih5 _)
      | (with_reducible exact ih6 _ _ _ _)
      | (with_reducible exact ih7 _ _ _ _ _ _ _ _ _ _ _)
      | (with_reducible exact ih8 _ _ _ _ _ _ _ _ _ _ _ _)
      | (with_reducible exact riffleref12_Bounds.mono _ _ _ _ _ _ _ _ _ _)
      | (with_reducible exact LeO.refl _)
      | (with_reducible exact LeO.none _)
      | (with_reducible refine LeO.ite ?_ ?_)
      | (with_reducible refine LeO.bind ?_ (fun _ => ?_))
      | exact ih0 _ _ _ _ _ _ _ _ _ _ _ _ _
      | exact ih1 _ _ _ _ _ _ _ _ _ _ _
      | exact ih2 _ _ _ _ _ _ _ _ _ _ _ _
      | exact ih3 _ _ _ _ _ _ _ _ _ _ _
      | exact ih4 _ _ _ _ _ _ _ _ _ _ _ _
      | exact ih5 _
      | exact ih6 _ _ _ _
      | exact ih7 _ _ _ _ _ _ _ _ _ _ _
      | exact ih8 _ _ _ _ _ _ _ _ _ _ _ _
      | exact riffleref12_Bounds.mono _ _ _ _ _ _ _ _ _ _
      | exact LeO.none _
      | refine LeO.ite ?_ ?_
      | refine LeO.bind ?_ (fun _ => ?_)
    · intro y0 y1 y2 y3 y4 y5 y6 y7 y8 y9 y10 y11
      unfold riffleref12_All.j5
      repeat' first
      | (with_reducible exact ih0 _ _ _ _ _ _ _ _ _ _ _ _ _)
      | (with_reducible exact ih1 _ _ _ _ _ _ _ _ _ _ _)
      | (with_reducible exact ih2 _ _ _ _ _ _ _ _ _ _ _ _)
      | (with_reducible exact ih3 _ _ _ _ _ _ _ _ _ _ _)
      | (with_reducible exact ih4 _ _ _ _ _ _ _ _ _ _ _ _)
      | (with_reducible exact ih5 _)
      | (with_reducible exact ih6 _ _ _ _)
      | (with_reducible exact ih7 _ _ _ _ _ _ _ _ _ _ _)
      | (with_reducible exact ih8 _ _ _ _ _ _ _ _ _ _ _ _)
      | (with_reducible exact riffleref12_Bounds.mono _ _ _ _ _ _ _ _ _ _)
      | (with_reducible exact LeO.refl _)
      | (with_reducible exact LeO.none _)
      | (with_reducible refine LeO.ite ?_ ?_)
      | (with_reducible refine LeO.bind ?_ (fun _ => ?_))
      | exact ih0 _ _ _ _ _ _ _ _ _ _ _ _ _
      | exact ih1 _ _ _ _ _ _ _ _ _ _ _
      | exact ih2 _ _ _ _ _ _ _ _ _ _ _ _
      | exact ih3 _ _ _ _ _ _ _ _ _ _ _
      | exact ih4 _ _ _ _ _ _ _ _ _ _ _ _
      | exact ih5 _
      | exact ih6 _ _ _ _
      | exact ih7 _ _ _ _ _ _ _ _ _ _ _
      | exact ih8 _ _ _ _ _ _ _ _ _ _ _ _
      | exact riffleref12_Bounds.mono _ _ _ _ _ _ _ _ _ _
      | exact LeO.none _
      | refine LeO.ite ?_ ?_
      | refine LeO.bind ?_ (fun _ => ?_)
    · intro y0
      unfold riffleref12_All.j7
      repeat' first
      | (with_reducible exact ih0 _ _ _ _ _ _ _ _ _ _ _ _ _)
      | (with_reducible exact ih1 _ _ _ _ _ _ _ _ _ _ _)
      | (with_reducible exact ih2 _ _ _ _ _ _ _ _ _ _ _ _)
      | (with_reducible exact ih3 _ _ _ _ _ _ _ _ _ _ _)
      | (with_reducible exact ih4 _ _ _ _ _ _ _ _ _ _ _ _)
      | (with_reducible exact ih5 _)
      | (with_reducible exact ih6 _ _ _ _)
      | (with_reducible exact ih7 _ _ _ _ _ _ _ _ _ _ _)
      | (with_reducible exact ih8 _ _ _ _ _ _ _ _ _ _ _ _)
      | (with_reducible exact riffleref12_Bounds.mono _ _ _ _ _ _ _ _ _ _)
      | (with_reducible exact LeO.refl _)
      | (with_reducible exact LeO.none _)
      | (with_reducible refine LeO.ite ?_ ?_)
      | (with_reducible refine LeO.bind ?_ (fun _ => ?_))
      | exact ih0 _ _ _ _ _ _ _ _ _ _ _ _ _
      | exact ih1 _ _ _ _ _ _ _ _ _ _ _
      | exact ih2 _ _ _ _ _ _ _ _ _ _ _ _
      | exact ih3 _ _ _ _ _ _ _ _ _ _ _
      | exact ih4 _ _ _ _ _ _ _ _ _ _ _ _
      | exact ih5 _
      | exact ih6 _ _ _ _
      | exact ih7 _ _ _ _ _ _ _ _ _ _ _
      | exact ih8 _ _ _ _ _ _ _ _ _ _ _ _
      | exact riffleref12_Bounds.mono _ _ _ _ _ _ _ _ _ _
      | exact LeO.none _
      | refine LeO.ite ?_ ?_
      | refine LeO.bind ?_ (fun _ => ?_)
    · intro y0 y1 y2 y3
      unfold riffleref12_All.l2
      repeat' first
      | (with_reducible exact ih0 _ _ _ _ _ _ _ _ _ _ _ _ _)
      | (with_reducible exact ih1 _ _ _ _ _ _ _ _ _ _ _)
      | (with_reducible exact ih2 _ _ _ _ _ _ _ _ _ _ _ _)
      | (with_reducible exact ih3 _ _ _ _ _ _ _ _ _ _ _)
      | (with_reducible exact ih4 _ _ _ _ _ _ _ _ _ _ _ _)
      | (with_reducible exact ih5 _)
      | (with_reducible exact ih6 _ _ _ _)
      | (with_reducible exact ih7 _ _ _ _ _ _ _ _ _ _ _)
      | (with_reducible exact ih8 _ _ _ _ _ _ _ _ _ _ _ _)
      | (with_reducible exact riffleref12_Bounds.mono _ _ _ _ _ _ _ _ _ _)
      | (with_reducible exact LeO.refl _)
      | (with_reducible exact LeO.none _)
      | (with_reducible refine LeO.ite ?_ ?_)
      | (with_reducible refine LeO.bind ?_ (fun _ => ?_))
      | exact ih0 _ _ _ _ _ _ _ _ _ _ _ _ _
      | exact ih1 _ _ _ _ _ _ _ _ _ _ _
      | exact ih2 _ _ _ _ _ _ _ _ _ _ _ _
      | exact ih3 _ _ _ _ _ _ _ _ _ _ _
      | exact ih4 _ _ _ _ _ _ _ _ _ _ _ _
      | exact ih5 _
      | exact ih6 _ _ _ _
      | exact ih7 _ _ _ _ _ _ _ _ _ _ _
      | exact ih8 _ _ _ _ _ _ _ _ _ _ _ _
      | exact riffleref12_Bounds.mono _ _ _ _ _ _ _ _ _ _
      | exact LeO.none _
      | refine LeO.ite ?_ ?_
      | refine LeO.bind ?_ (fun _ => ?_)
    · intro y0 y1 y2 y3 y4 y5 y6 y7 y8 y9 y10
      unfold riffleref12_All.l1
      repeat' first
      | (with_reducible exact ih0 _ _ _ _ _ _ _ _ _ _ _ _ _)
      | (with_reducible exact ih1 _ _ _ _ _ _ _ _ _ _ _)
      | (with_reducible exact ih2 _ _ _ _ _ _ _ _ _ _ _ _)
      | (with_reducible exact ih3 _ _ _ _ _ _ _ _ _ _ _)
      | (with_reducible exact ih4 _ _ _ _ _ _ _ _ _ _ _ _)
      | (with_reducible exact ih5 _)
      | (with_reducible exact ih6 _ _ _ _)
      | (with_reducible exact ih7 _ _ _ _ _ _ _ _ _ _ _)
      | (with_reducible exact ih8 _ _ _ _ _ _ _ _ _ _ _ _)
      | (with_reducible exact riffleref12_Bounds.mono _ _ _ _ _ _ _ _ _ _)
      | (with_reducible exact LeO.refl _)
      | (with_reducible exact LeO.none _)
      | (with_reducible refine LeO.ite ?_ ?_)
      | (with_reducible refine LeO.bind ?_ (fun _ => ?_))
      | exact ih0 _ _ _ _ _ _ _ _ _ _ _ _ _
      | exact ih1 _ _ _ _ _ _ _ _ _ _ _
      | exact ih2 _ _ _ _ _ _ _ _ _ _ _ _
      | exact ih3 _ _ _ _ _ _ _ _ _ _ _
      | exact ih4 _ _ _ _ _ _ _ _ _ _ _ _
      | exact ih5 _
      | exact ih6 _ _ _ _
      | exact ih7 _ _ _ _ _ _ _ _ _ _ _
      | exact ih8 _ _ _ _ _ _ _ _ _ _ _ _
      | exact riffleref12_Bounds.mono _ _ _ _ _ _ _ _ _ _
      | exact LeO.none _
      | refine LeO.ite ?_ ?_
      | refine LeO.bind ?_ (fun _ => ?_)
    · intro y0 y1 y2 y3 y4 y5 y6 y7 y8 y9 y10 y11
      unfold riffleref12_All.l0
      repeat' first
      | (with_reducible exact ih0 _ _ _ _ _ _ _ _ _ _ _ _ _)
      | (with_reducible exact ih1 _ _ _ _ _ _ _ _ _ _ _)
      | (with_reducible exact ih2 _ _ _ _ _ _ _ _ _ _ _ _)
      | (with_reducible exact ih3 _ _ _ _ _ _ _ _ _ _ _)
      | (with_reducible exact ih4 _ _ _ _ _ _ _ _ _ _ _ _)
      | (with_reducible exact ih5 _)
      | (with_reducible exact ih6 _ _ _ _)
      | (with_reducible exact ih7 _ _ _ _ _ _ _ _ _ _ _)
      | (with_reducible exact ih8 _ _ _ _ _ _ _ _ _ _ _ _)
      | (with_reducible exact riffleref12_Bounds.mono _ _ _ _ _ _ _ _ _ _)
      | (with_reducible exact LeO.refl _)
      | (with_reducible exact LeO.none _)
      | (with_reducible refine LeO.ite ?_ ?_)
      | (with_reducible refine LeO.bind ?_ (fun _ => ?_))
      | exact ih0 _ _ _ _ _ _ _ _ _ _ _ _ _
      | exact ih1 _ _ _ _ _ _ _ _ _ _ _
      | exact ih2 _ _ _ _ _ _ _ _ _ _ _ _
      | exact ih3 _ _ _ _ _ _ _ _ _ _ _
      | exact ih4 _ _ _ _ _ _ _ _ _ _ _ _
      | exact ih5 _
      | exact ih6 _ _ _ _
      | exact ih7 _ _ _ _ _ _ _ _ _ _ _
      | exact ih8 _ _ _ _ _ _ _ _ _ _ _ _
      | exact riffleref12_Bounds.mono _ _ _ _ _ _ _ _ _ _
      | exact LeO.none _
      | refine LeO.ite ?_ ?_
      | refine LeO.bind ?_ (fun _ => ?_)
theorem riffleref12_All.mono : ∀ a0 a1 a2 a3 a4 a5 a6 a7 a8 k, LeO (riffleref12_All.f k a0 a1 a2 a3 a4 a5 a6 a7 a8) (riffleref12_All.f (k + 1) a0 a1 a2 a3 a4 a5 a6 a7 a8) := by
  intro a0 a1 a2 a3 a4 a5 a6 a7 a8 k
  obtain ⟨ih0, ih1, ih2, ih3, ih4, ih5, ih6, ih7, ih8⟩ := riffleref12_All.mono_l k
  unfold riffleref12_All.f
  repeat' first
      | (with_reducible exact ih0 _ _ _ _ _ _ _ _ _ _ _ _ _)
      | (with_reducible exact ih1 _ _ _ _ _ _ _ _ _ _ _)
      | (with_reducible exact ih2 _ _ _ _ _ _ _ _ _ _ _ _)
      | (with_reducible exact ih3 _ _ _ _ _ _ _ _ _ _ _)
      | (with_reducible exact ih4 _ _ _ _ _ _ _ _ _ _ _ _)
      | (with_reducible exact ih5 _)
      | (with_reducible exact ih6 _ _ _ _)
      | (with_reducible exact ih7 _ _ _ _ _ _ _ _ _ _ _)
      | (with_reducible exact ih8 _ _ _ _ _ _ _ _ _ _ _ _)
      | (with_reducible exact riffleref12_Bounds.mono _ _ _ _ _ _ _ _ _ _)
      | (with_reducible exact LeO.refl _)
      | (with_reducible exact LeO.none _)
      | (with_reducible refine LeO.ite ?_ ?_)
      | (with_reducible refine LeO.bind ?_ (fun _ => ?_))
      | exact ih0 _ _ _ _ _ _ _ _ _ _ _ _ _
      | exact ih1 _ _ _ _ _ _ _ _ _ _ _
      | exact ih2 _ _ _ _ _ _ _ _ _ _ _ _
      | exact ih3 _ _ _ _ _ _ _ _ _ _ _
      | exact ih4 _ _ _ _ _ _ _ _ _ _ _ _
      | exact ih5 _
      | exact ih6 _ _ _ _
      | exact ih7 _ _ _ _ _ _ _ _ _ _ _
      | exact ih8 _ _ _ _ _ _ _ _ _ _ _ _
      | exact riffleref12_Bounds.mono _ _ _ _ _ _ _ _ _ _
      | exact LeO.none _
      | refine LeO.ite ?_ ?_
      | refine LeO.bind ?_ (fun _ => ?_)
set_option maxHeartbeats 8000000 in
set_option maxRecDepth 100000 in
theorem riffleref12_All.calls (k : Nat) (a0_0 : Int) (a0_1 : ByteArray) (a0_2 : Int) (a0_3 : Int) (a0_4 : Int) (a0_5 : Bool) (a0_6 : Bool) (a0_7 : Int) (a1 : Int) (r : List Int) (w : World) (h : riffleref12_All.f k a0_0 a0_1 a0_2 a0_3 a0_4 a0_5 a0_6 a0_7 a1 = some r) :
    Calls Try.prog 45 #[.agg #[.int .i64 a0_0, .string a0_1, .int .i64 a0_2, .int .i64 a0_3, .int .i64 a0_4, .bool a0_5, .bool a0_6, .int .i64 a0_7], .int .i64 a1] w fun e w' => ∃ v0_ : Value, e = .returned (v0_) ∧ Kd.R (Kd.int .i64) 3 w' w.heap.size (fun _ => True) v0_ r ∧ Below w.heap.size w w' := by
  have hu53 := Try.underlying53
  have HB := Aside0.mk (Below.refl w.heap.size w)
  have H : (if 0 ≤ a1 then (if (a1 : Int).toNat ≤ 281474976710656 then ((some (List.replicate (a1 : Int).toNat false : List Bool)).bind fun y142 => ((riffleref12_Bounds.f k a0_0 a0_1 a0_2 a0_3 a0_4 a0_5 a0_6 a0_7 a1).bind fun bt145 => (if a0_0 = 2 then ((riffleref12_Place.f a0_2 a1).bind fun t147 => (if t147 ≥ 0 then ((riffleref12_Place.f a0_2 a1).bind fun t148 => (riffleref12_All.j0 k a1 y142 bt145.1 bt145.2 (decide (t148 < a1)) a0_0 a0_1 a0_2 a0_3 a0_4 a0_5 a0_6 a0_7)) else (riffleref12_All.j0 k a1 y142 bt145.1 bt145.2 false a0_0 a0_1 a0_2 a0_3 a0_4 a0_5 a0_6 a0_7))) else (riffleref12_All.j0 k a1 y142 bt145.1 bt145.2 false a0_0 a0_1 a0_2 a0_3 a0_4 a0_5 a0_6 a0_7)))) else (none)) else (none)) = some r := h
  clear h
  by_cases c3 : 0 ≤ a1
  · rw [if_pos c3] at H
    have c3b0 := eq_true c3
    have c3b1 : decide (0 ≤ a1) = true := decide_eq_true c3
    clear c3
    by_cases c4 : (a1 : Int).toNat ≤ 281474976710656
    · rw [if_pos c4] at H
      have c4b0 := eq_true c4
      have c4b1 : decide ((a1 : Int).toNat ≤ 281474976710656) = true := decide_eq_true c4
      clear c4
      obtain ⟨y142, hy142⟩ : ∃ y_ : List Bool, y_ = (List.replicate (a1 : Int).toNat false) := ⟨_, rfl⟩
      replace H : ((riffleref12_Bounds.f k a0_0 a0_1 a0_2 a0_3 a0_4 a0_5 a0_6 a0_7 a1).bind fun bt145 => (if a0_0 = 2 then ((riffleref12_Place.f a0_2 a1).bind fun t147 => (if t147 ≥ 0 then ((riffleref12_Place.f a0_2 a1).bind fun t148 => (riffleref12_All.j0 k a1 y142 bt145.1 bt145.2 (decide (t148 < a1)) a0_0 a0_1 a0_2 a0_3 a0_4 a0_5 a0_6 a0_7)) else (riffleref12_All.j0 k a1 y142 bt145.1 bt145.2 false a0_0 a0_1 a0_2 a0_3 a0_4 a0_5 a0_6 a0_7))) else (riffleref12_All.j0 k a1 y142 bt145.1 bt145.2 false a0_0 a0_1 a0_2 a0_3 a0_4 a0_5 a0_6 a0_7))) = some r := by first | (rw [hy142]; with_reducible exact H) | (have H2_ := (Option.bind_some _ _).symm.trans H; rw [hy142]; with_reducible exact H2_) | (have H2_ := (Option.bind_some _ _).symm.trans H; with_reducible exact H2_) | with_reducible exact H | (rw [hy142]; exact H) | exact H
      have Ny142 := Aside0.mk hy142
      clear hy142
      replace H := Option.bind_eq_some_iff.mp H
      obtain ⟨⟨t145, t146⟩, A50, H⟩ := H
      replace H : (if a0_0 = 2 then ((riffleref12_Place.f a0_2 a1).bind fun t147 => (if t147 ≥ 0 then ((riffleref12_Place.f a0_2 a1).bind fun t148 => (riffleref12_All.j0 k a1 y142 t145 t146 (decide (t148 < a1)) a0_0 a0_1 a0_2 a0_3 a0_4 a0_5 a0_6 a0_7)) else (riffleref12_All.j0 k a1 y142 t145 t146 false a0_0 a0_1 a0_2 a0_3 a0_4 a0_5 a0_6 a0_7))) else (riffleref12_All.j0 k a1 y142 t145 t146 false a0_0 a0_1 a0_2 a0_3 a0_4 a0_5 a0_6 a0_7)) = some r := H
      have A5 := Aside0.mk A50
      clear A50
      have HC6 := Aside0.mk H
      clear H
      go_enter Try.func45, Try.ntmps45
      go_upto_region 3 with (first | ((with_reducible refine gate_dst (N := 2) rfl ?_); refine box_event ?hg (N := 2) ?hd (cs := #[.int .i64 a0_0, .string a0_1, .int .i64 a0_2, .int .i64 a0_3, .int .i64 a0_4, .bool a0_5, .bool a0_6, .int .i64 a0_7]) (t := 53) ?hr ?_; (case hd => rfl); (case hg => rfl); (case hr => first | (go_simp; done) | (go_simp; rfl)); intro gb141 hg w7 hbox hb; have n0_ := Aside0.mk (below_step (by repeat (first | (with_reducible first | exact HB.out | apply below_alloc | apply pw_below_drewN | apply below_drew1) | exact HB.out)) hb); have n1_ := Aside0.mk (hbox); have n2_ := Aside0.mk ((by rw [hg]; exact (below_size (by repeat (first | (with_reducible first | exact HB.out | apply below_alloc | apply pw_below_drewN | apply below_drew1) | exact HB.out))) : w.heap.size ≤ gb141)); have n3_ := Aside0.mk ((by rw [hg]; exact (below_size (by repeat (first | (with_reducible first | exact HB.out | apply below_alloc | apply pw_below_drewN | apply below_drew1) | exact HB.out))) : w.heap.size ≤ gb141)); clear HB; have HB := n0_; have BK141 := n1_; have GW141 := n2_; have GE141 := n3_; clear n0_ n1_ n2_ n3_; clear hb hbox hg) | ((with_reducible refine gate_dst (N := 14) rfl ?_); refine Kd.R_make Kd.bool _ 4 rfl (N := 14) rfl 27 _ _ rfl a1 rfl rfl Try.underlying27 (.bool false) 1 info4 rfl (by decide) (by omega) false (ok := fun _ => True) (okp := fun _ => True) rfl (fun _ hk => hk) trivial (of_decide_eq_true (by first | (with_reducible assumption) | assumption)) (Nat.le_trans (Nat.mul_le_mul_right _ (of_decide_eq_true (by first | (with_reducible assumption) | assumption) : a1.toNat ≤ 281474976710656)) (by omega)) (Below.refl _ _) (Nat.le_refl _) ?_; intro v143 w8 ho9 hb hg_ hnew_; clear hg_ hnew_; (first | rw [← Ny142.out] at ho9 | (simp only [Int.reduceToNat] at ho9; rw [← Ny142.out] at ho9)); have n0_ := Aside0.mk (Kd.R_lower ho9 (below_size (by repeat (first | (with_reducible first | exact HB.out | apply below_alloc | apply pw_below_drewN | apply below_drew1 | refine below_set ?_ GE141.out) | exact HB.out)))); have n1_ := Aside0.mk (blk_below (g := gb141) (o := .cells #[.int .i64 a0_0, .string a0_1, .int .i64 a0_2, .int .i64 a0_3, .int .i64 a0_4, .bool a0_5, .bool a0_6, .int .i64 a0_7] 53 (0, 0)) (by (with_reducible repeat (first | refine blk_drewN ?_ _ | refine blk_drew ?_ | refine blk_alloc ?_ _)); exact BK141.out) hb); have n2_ := Aside0.mk (below_step (by repeat (first | (with_reducible first | exact HB.out | apply below_alloc | apply pw_below_drewN | apply below_drew1 | refine below_set ?_ GE141.out) | exact HB.out)) hb); clear BK141; clear HB; have HO144 := n0_; have BK141 := n1_; have HB := n2_; clear n0_ n1_ n2_; clear hb ho9; have hcz10_0 : w8.cell? ⟨gb141, 0, none⟩ = some (.int .i64 a0_0) := (blk_cell BK141.out 0).trans rfl; have hcz10_1 : w8.cell? ⟨gb141, 1, none⟩ = some (.string a0_1) := (blk_cell BK141.out 1).trans rfl; have hcz10_2 : w8.cell? ⟨gb141, 2, none⟩ = some (.int .i64 a0_2) := (blk_cell BK141.out 2).trans rfl; have hcz10_3 : w8.cell? ⟨gb141, 3, none⟩ = some (.int .i64 a0_3) := (blk_cell BK141.out 3).trans rfl; have hcz10_4 : w8.cell? ⟨gb141, 4, none⟩ = some (.int .i64 a0_4) := (blk_cell BK141.out 4).trans rfl; have hcz10_5 : w8.cell? ⟨gb141, 5, none⟩ = some (.bool a0_5) := (blk_cell BK141.out 5).trans rfl; have hcz10_6 : w8.cell? ⟨gb141, 6, none⟩ = some (.bool a0_6) := (blk_cell BK141.out 6).trans rfl; have hcz10_7 : w8.cell? ⟨gb141, 7, none⟩ = some (.int .i64 a0_7) := (blk_cell BK141.out 7).trans rfl; have hfz10_0 := blk_frozen BK141.out 0; have hfz10_1 := blk_frozen BK141.out 1; have hfz10_2 := blk_frozen BK141.out 2; have hfz10_3 := blk_frozen BK141.out 3; have hfz10_4 := blk_frozen BK141.out 4; have hfz10_5 := blk_frozen BK141.out 5; have hfz10_6 := blk_frozen BK141.out 6; have hfz10_7 := blk_frozen BK141.out 7) | ((with_reducible refine gate_callee (f := 51) rfl ?_); refine goesL_ (some 18) rfl rfl Try.func51 (by kernel_rfl) rfl #[.agg #[.int .i64 a0_0, .string a0_1, .int .i64 a0_2, .int .i64 a0_3, .int .i64 a0_4, .bool a0_5, .bool a0_6, .int .i64 a0_7], .int .i64 a1] rfl (by (try simp only [List.map_toArray, List.map_cons, List.map_nil]); first | done | rfl | (simp only [List.length_drop, List.length_take]; rfl)) ?_; (with_reducible refine (riffleref12_Bounds.calls k a0_0 a0_1 a0_2 a0_3 a0_4 a0_5 a0_6 a0_7 a1 t145 t146 _ A5.out).mono ?_); rintro e w11 ⟨rfl, hb⟩; refine ⟨_, rfl, ?_⟩; have n0_ := Aside0.mk (Kd.R_below (by (with_reducible repeat (first | apply Kd.R_alloc | apply Kd.R_drewN | apply Kd.R_drew)); exact HO144.out) hb); have n1_ := Aside0.mk (blk_below (g := gb141) (o := .cells #[.int .i64 a0_0, .string a0_1, .int .i64 a0_2, .int .i64 a0_3, .int .i64 a0_4, .bool a0_5, .bool a0_6, .int .i64 a0_7] 53 (0, 0)) (by (with_reducible repeat (first | refine blk_drewN ?_ _ | refine blk_drew ?_ | refine blk_alloc ?_ _)); exact BK141.out) hb); have n2_ := Aside0.mk (below_step (by repeat (first | (with_reducible first | exact HB.out | apply below_alloc | apply pw_below_drewN | apply below_drew1 | refine below_set ?_ GE141.out) | exact HB.out)) hb); clear HO144; clear BK141; clear HB; have HO144 := n0_; have BK141 := n1_; have HB := n2_; clear n0_ n1_ n2_; (try clear hb); (try clear hb2); (try clear hk); (try clear hi)))
      (try simp only [Act.put, List.setIfInBounds_toArray, List.set_cons_zero, List.set_cons_succ])
      go_cut [38] (fun v38 wc => ∃ (kq : Nat) (x38_5 : Bool), v38 = .bool x38_5 ∧ Aside0 (riffleref12_All.j0 kq a1 y142 t145 t146 x38_5 a0_0 a0_1 a0_2 a0_3 a0_4 a0_5 a0_6 a0_7 = some r) ∧ Aside0 (kq ≤ k) ∧ Aside0 (Kd.R Kd.bool 4 wc w.heap.size (fun _ => True) v143 y142) ∧ Aside0 (wc.heap[gb141]? = some (.cells #[.int .i64 a0_0, .string a0_1, .int .i64 a0_2, .int .i64 a0_3, .int .i64 a0_4, .bool a0_5, .bool a0_6, .int .i64 a0_7] 53 (0, 0))) ∧ Aside0 (Below w.heap.size w wc))
      case first =>
        have H := HC6.out
        clear HC6
        by_cases c12 : a0_0 = 2
        · rw [if_pos c12] at H
          have c12b0 : (a0_0 == 2) = true := beq_iff_eq.mpr c12
          have c12b1 : (a0_0 != 2) = false := bne_eq_false_iff_eq.mpr c12
          clear c12
          (first | rw [c12b0] | (simp only [i64_w, i32_w]; rw [c12b0]) | skip)
          replace H := Option.bind_eq_some_iff.mp H
          obtain ⟨t147, A130, H⟩ := H
          replace H : (if t147 ≥ 0 then ((riffleref12_Place.f a0_2 a1).bind fun t148 => (riffleref12_All.j0 k a1 y142 t145 t146 (decide (t148 < a1)) a0_0 a0_1 a0_2 a0_3 a0_4 a0_5 a0_6 a0_7)) else (riffleref12_All.j0 k a1 y142 t145 t146 false a0_0 a0_1 a0_2 a0_3 a0_4 a0_5 a0_6 a0_7)) = some r := H
          have A13 := Aside0.mk A130
          clear A130
          by_cases c14 : t147 ≥ 0
          · rw [if_pos c14] at H
            have c14b0 : decide (0 ≤ t147) = true := decide_eq_true c14
            clear c14
            replace H := Option.bind_eq_some_iff.mp H
            obtain ⟨t148, A150, H⟩ := H
            replace H : (riffleref12_All.j0 k a1 y142 t145 t146 (decide (t148 < a1)) a0_0 a0_1 a0_2 a0_3 a0_4 a0_5 a0_6 a0_7) = some r := H
            have A15 := Aside0.mk A150
            clear A150
            have E148 : Aside0 (t147 = t148) := ⟨Option.some.inj (A13.out.symm.trans A15.out)⟩
            have H' := Aside0.mk H
            clear H
            have hcz16_0 : w11.cell? ⟨gb141, 0, none⟩ = some (.int .i64 a0_0) := (blk_cell BK141.out 0).trans rfl
            have hcz16_1 : w11.cell? ⟨gb141, 1, none⟩ = some (.string a0_1) := (blk_cell BK141.out 1).trans rfl
            have hcz16_2 : w11.cell? ⟨gb141, 2, none⟩ = some (.int .i64 a0_2) := (blk_cell BK141.out 2).trans rfl
            have hcz16_3 : w11.cell? ⟨gb141, 3, none⟩ = some (.int .i64 a0_3) := (blk_cell BK141.out 3).trans rfl
            have hcz16_4 : w11.cell? ⟨gb141, 4, none⟩ = some (.int .i64 a0_4) := (blk_cell BK141.out 4).trans rfl
            have hcz16_5 : w11.cell? ⟨gb141, 5, none⟩ = some (.bool a0_5) := (blk_cell BK141.out 5).trans rfl
            have hcz16_6 : w11.cell? ⟨gb141, 6, none⟩ = some (.bool a0_6) := (blk_cell BK141.out 6).trans rfl
            have hcz16_7 : w11.cell? ⟨gb141, 7, none⟩ = some (.int .i64 a0_7) := (blk_cell BK141.out 7).trans rfl
            have hfz16_0 := blk_frozen BK141.out 0
            have hfz16_1 := blk_frozen BK141.out 1
            have hfz16_2 := blk_frozen BK141.out 2
            have hfz16_3 := blk_frozen BK141.out 3
            have hfz16_4 := blk_frozen BK141.out 4
            have hfz16_5 := blk_frozen BK141.out 5
            have hfz16_6 := blk_frozen BK141.out 6
            have hfz16_7 := blk_frozen BK141.out 7
            go_wp2_with (first | (go_at_call 56; (with_reducible refine (riffleref12_Place.calls a0_2 a1 t147 _ A13.out).mono ?_); rintro e w' ⟨rfl, ⟨nd, rfl⟩⟩) | (go_at_call 56; (with_reducible refine (riffleref12_Place.calls a0_2 a1 t148 _ A15.out).mono ?_); rintro e w' ⟨rfl, ⟨nd, rfl⟩⟩))
            go_meet
            case rel => exact ⟨_, (decide (t148 < a1)), (by first | rfl | (rw [E148.out]; done) | (simp; done) | (simp [*]; done)), H', ⟨by first | omega | exact Nat.le_refl _⟩, ⟨by (with_reducible repeat (first | apply Kd.R_alloc | apply Kd.R_drewN | apply Kd.R_drew)); exact HO144.out⟩, ⟨by (with_reducible repeat (first | refine blk_drewN ?_ _ | refine blk_drew ?_ | refine blk_alloc ?_ _)); exact BK141.out⟩, ⟨by repeat (first | (with_reducible first | exact HB.out | apply below_alloc | apply pw_below_drewN | apply below_drew1 | refine below_set ?_ GE141.out) | exact HB.out)⟩⟩
          · rw [if_neg c14] at H
            have c14b0 : decide (0 ≤ t147) = false := decide_eq_false c14
            clear c14
            have H' := Aside0.mk H
            clear H
            have hcz17_0 : w11.cell? ⟨gb141, 0, none⟩ = some (.int .i64 a0_0) := (blk_cell BK141.out 0).trans rfl
            have hcz17_1 : w11.cell? ⟨gb141, 1, none⟩ = some (.string a0_1) := (blk_cell BK141.out 1).trans rfl
            have hcz17_2 : w11.cell? ⟨gb141, 2, none⟩ = some (.int .i64 a0_2) := (blk_cell BK141.out 2).trans rfl
            have hcz17_3 : w11.cell? ⟨gb141, 3, none⟩ = some (.int .i64 a0_3) := (blk_cell BK141.out 3).trans rfl
            have hcz17_4 : w11.cell? ⟨gb141, 4, none⟩ = some (.int .i64 a0_4) := (blk_cell BK141.out 4).trans rfl
            have hcz17_5 : w11.cell? ⟨gb141, 5, none⟩ = some (.bool a0_5) := (blk_cell BK141.out 5).trans rfl
            have hcz17_6 : w11.cell? ⟨gb141, 6, none⟩ = some (.bool a0_6) := (blk_cell BK141.out 6).trans rfl
            have hcz17_7 : w11.cell? ⟨gb141, 7, none⟩ = some (.int .i64 a0_7) := (blk_cell BK141.out 7).trans rfl
            have hfz17_0 := blk_frozen BK141.out 0
            have hfz17_1 := blk_frozen BK141.out 1
            have hfz17_2 := blk_frozen BK141.out 2
            have hfz17_3 := blk_frozen BK141.out 3
            have hfz17_4 := blk_frozen BK141.out 4
            have hfz17_5 := blk_frozen BK141.out 5
            have hfz17_6 := blk_frozen BK141.out 6
            have hfz17_7 := blk_frozen BK141.out 7
            go_wp2_with (first | (go_at_call 56; (with_reducible refine (riffleref12_Place.calls a0_2 a1 t147 _ A13.out).mono ?_); rintro e w' ⟨rfl, ⟨nd, rfl⟩⟩))
            go_meet
            case rel => exact ⟨_, (false), (by first | rfl | (simp; done) | (simp [*]; done)), H', ⟨by first | omega | exact Nat.le_refl _⟩, ⟨by (with_reducible repeat (first | apply Kd.R_alloc | apply Kd.R_drewN | apply Kd.R_drew)); exact HO144.out⟩, ⟨by (with_reducible repeat (first | refine blk_drewN ?_ _ | refine blk_drew ?_ | refine blk_alloc ?_ _)); exact BK141.out⟩, ⟨by repeat (first | (with_reducible first | exact HB.out | apply below_alloc | apply pw_below_drewN | apply below_drew1 | refine below_set ?_ GE141.out) | exact HB.out)⟩⟩
        · rw [if_neg c12] at H
          have c12b0 : (a0_0 == 2) = false := beq_eq_false_iff_ne.mpr c12
          have c12b1 : (a0_0 != 2) = true := bne_iff_ne.mpr c12
          (first | rw [c12b0] | (simp only [i64_w, i32_w]; rw [c12b0]) | skip)
          have H' := Aside0.mk H
          clear H
          have hcz18_0 : w11.cell? ⟨gb141, 0, none⟩ = some (.int .i64 a0_0) := (blk_cell BK141.out 0).trans rfl
          have hcz18_1 : w11.cell? ⟨gb141, 1, none⟩ = some (.string a0_1) := (blk_cell BK141.out 1).trans rfl
          have hcz18_2 : w11.cell? ⟨gb141, 2, none⟩ = some (.int .i64 a0_2) := (blk_cell BK141.out 2).trans rfl
          have hcz18_3 : w11.cell? ⟨gb141, 3, none⟩ = some (.int .i64 a0_3) := (blk_cell BK141.out 3).trans rfl
          have hcz18_4 : w11.cell? ⟨gb141, 4, none⟩ = some (.int .i64 a0_4) := (blk_cell BK141.out 4).trans rfl
          have hcz18_5 : w11.cell? ⟨gb141, 5, none⟩ = some (.bool a0_5) := (blk_cell BK141.out 5).trans rfl
          have hcz18_6 : w11.cell? ⟨gb141, 6, none⟩ = some (.bool a0_6) := (blk_cell BK141.out 6).trans rfl
          have hcz18_7 : w11.cell? ⟨gb141, 7, none⟩ = some (.int .i64 a0_7) := (blk_cell BK141.out 7).trans rfl
          have hfz18_0 := blk_frozen BK141.out 0
          have hfz18_1 := blk_frozen BK141.out 1
          have hfz18_2 := blk_frozen BK141.out 2
          have hfz18_3 := blk_frozen BK141.out 3
          have hfz18_4 := blk_frozen BK141.out 4
          have hfz18_5 := blk_frozen BK141.out 5
          have hfz18_6 := blk_frozen BK141.out 6
          have hfz18_7 := blk_frozen BK141.out 7
          go_wp2
          go_meet
          case rel => exact ⟨_, (false), (by first | rfl | (simp; done) | (simp [*]; done)), H', ⟨by first | omega | exact Nat.le_refl _⟩, ⟨by (with_reducible repeat (first | apply Kd.R_alloc | apply Kd.R_drewN | apply Kd.R_drew)); exact HO144.out⟩, ⟨by (with_reducible repeat (first | refine blk_drewN ?_ _ | refine blk_drew ?_ | refine blk_alloc ?_ _)); exact BK141.out⟩, ⟨by repeat (first | (with_reducible first | exact HB.out | apply below_alloc | apply pw_below_drewN | apply below_drew1 | refine below_set ?_ GE141.out) | exact HB.out)⟩⟩
      case rest =>
        clear HC6
        try clear c1
        try clear p2
        try clear c3
        try clear c3b0
        try clear c3b1
        try clear c4
        try clear c4b0
        try clear c4b1
        try clear c5
        try clear c12
        try clear c12b0
        try clear c12b1
        try clear c14
        try clear c14b0
        try clear hcz10_0
        try clear hcz10_1
        try clear hcz10_2
        try clear hcz10_3
        try clear hcz10_4
        try clear hcz10_5
        try clear hcz10_6
        try clear hcz10_7
        try clear hcz16_0
        try clear hcz16_1
        try clear hcz16_2
        try clear hcz16_3
        try clear hcz16_4
        try clear hcz16_5
        try clear hcz16_6
        try clear hcz16_7
        try clear hcz17_0
        try clear hcz17_1
        try clear hcz17_2
        try clear hcz17_3
        try clear hcz17_4
        try clear hcz17_5
        try clear hcz17_6
        try clear hcz17_7
        try clear hcz18_0
        try clear hcz18_1
        try clear hcz18_2
        try clear hcz18_3
        try clear hcz18_4
        try clear hcz18_5
        try clear hcz18_6
        try clear hcz18_7
        try clear hfz10_0
        try clear hfz10_1
        try clear hfz10_2
        try clear hfz10_3
        try clear hfz10_4
        try clear hfz10_5
        try clear hfz10_6
        try clear hfz10_7
        try clear hfz16_0
        try clear hfz16_1
        try clear hfz16_2
        try clear hfz16_3
        try clear hfz16_4
        try clear hfz16_5
        try clear hfz16_6
        try clear hfz16_7
        try clear hfz17_0
        try clear hfz17_1
        try clear hfz17_2
        try clear hfz17_3
        try clear hfz17_4
        try clear hfz17_5
        try clear hfz17_6
        try clear hfz17_7
        try clear hfz18_0
        try clear hfz18_1
        try clear hfz18_2
        try clear hfz18_3
        try clear hfz18_4
        try clear hfz18_5
        try clear hfz18_6
        try clear hfz18_7
        obtain ⟨kq, x38_5, rfl, HA, HJ5, HO_5, BK141, HB⟩ := hcut
        cases kq with
        | zero => exact absurd HA.out (by simp [riffleref12_All.j0])
        | succ kj5 =>
          have H := HA.out
          clear HA
          simp only [riffleref12_All.j0] at H
          have HC19 := Aside0.mk H
          clear H
          go_upto_if 38 with (fail)
          go_cut [] (fun wc => ∃ (kq : Nat) (x5_18 : List Bool), Aside0 (riffleref12_All.j1 kq x5_18 t145 t146 a0_0 a0_1 a0_2 a0_3 a0_4 a0_5 a0_6 a0_7 = some r) ∧ Aside0 (kq ≤ kj5) ∧ Aside0 (Kd.R Kd.bool 4 wc w.heap.size (fun _ => True) v143 x5_18) ∧ Aside0 (wc.heap[gb141]? = some (.cells #[.int .i64 a0_0, .string a0_1, .int .i64 a0_2, .int .i64 a0_3, .int .i64 a0_4, .bool a0_5, .bool a0_6, .int .i64 a0_7] 53 (0, 0))) ∧ Aside0 (Below w.heap.size w wc))
          case first =>
            have H := HC19.out
            clear HC19
            by_cases c20 : x38_5 = true
            · subst c20
              have H1 : ((riffleref12_Place.f a0_2 a1).bind fun t149 => (if 0 ≤ t149 then (if t149 < (y142.length : Int) then (riffleref12_All.j1 kj5 (y142.set (t149 : Int).toNat true) t145 t146 a0_0 a0_1 a0_2 a0_3 a0_4 a0_5 a0_6 a0_7) else (none)) else (none))) = some r := by rw [if_pos rfl] at H; exact H
              clear H
              have H := H1
              clear H1
              replace H := Option.bind_eq_some_iff.mp H
              obtain ⟨t149, A210, H⟩ := H
              replace H : (if 0 ≤ t149 then (if t149 < (y142.length : Int) then (riffleref12_All.j1 kj5 (y142.set (t149 : Int).toNat true) t145 t146 a0_0 a0_1 a0_2 a0_3 a0_4 a0_5 a0_6 a0_7) else (none)) else (none)) = some r := H
              have A21 := Aside0.mk A210
              clear A210
              by_cases c22 : 0 ≤ t149
              · rw [if_pos c22] at H
                have c22b0 : decide (0 ≤ t149) = true := decide_eq_true c22
                clear c22
                (first | rw [c22b0] | (simp only [i64_w, i32_w]; rw [c22b0]) | skip)
                by_cases c23 : t149 < (y142.length : Int)
                · rw [if_pos c23] at H
                  have c23b0 : decide (t149 < (y142.length : Int)) = true := decide_eq_true c23
                  clear c23
                  obtain ⟨y150, hy150⟩ : ∃ y_ : List Bool, y_ = (y142.set (t149 : Int).toNat true) := ⟨_, rfl⟩
                  replace H : (riffleref12_All.j1 kj5 y150 t145 t146 a0_0 a0_1 a0_2 a0_3 a0_4 a0_5 a0_6 a0_7) = some r := by first | (rw [hy150]; with_reducible exact H) | (have H2_ := (Option.bind_some _ _).symm.trans H; rw [hy150]; with_reducible exact H2_) | (have H2_ := (Option.bind_some _ _).symm.trans H; with_reducible exact H2_) | with_reducible exact H | (rw [hy150]; exact H) | exact H
                  have Ny150 := Aside0.mk hy150
                  clear hy150
                  have H' := Aside0.mk H
                  clear H
                  have hcz25_0 : wc.cell? ⟨gb141, 0, none⟩ = some (.int .i64 a0_0) := (blk_cell BK141.out 0).trans rfl
                  have hcz25_1 : wc.cell? ⟨gb141, 1, none⟩ = some (.string a0_1) := (blk_cell BK141.out 1).trans rfl
                  have hcz25_2 : wc.cell? ⟨gb141, 2, none⟩ = some (.int .i64 a0_2) := (blk_cell BK141.out 2).trans rfl
                  have hcz25_3 : wc.cell? ⟨gb141, 3, none⟩ = some (.int .i64 a0_3) := (blk_cell BK141.out 3).trans rfl
                  have hcz25_4 : wc.cell? ⟨gb141, 4, none⟩ = some (.int .i64 a0_4) := (blk_cell BK141.out 4).trans rfl
                  have hcz25_5 : wc.cell? ⟨gb141, 5, none⟩ = some (.bool a0_5) := (blk_cell BK141.out 5).trans rfl
                  have hcz25_6 : wc.cell? ⟨gb141, 6, none⟩ = some (.bool a0_6) := (blk_cell BK141.out 6).trans rfl
                  have hcz25_7 : wc.cell? ⟨gb141, 7, none⟩ = some (.int .i64 a0_7) := (blk_cell BK141.out 7).trans rfl
                  have hfz25_0 := blk_frozen BK141.out 0
                  have hfz25_1 := blk_frozen BK141.out 1
                  have hfz25_2 := blk_frozen BK141.out 2
                  have hfz25_3 := blk_frozen BK141.out 3
                  have hfz25_4 := blk_frozen BK141.out 4
                  have hfz25_5 := blk_frozen BK141.out 5
                  have hfz25_6 := blk_frozen BK141.out 6
                  have hfz25_7 := blk_frozen BK141.out 7
                  go_wp2_with (first | ((with_reducible refine gate_callee (f := 56) rfl ?_); refine goesL_ (some 43) rfl rfl Try.func56 (by kernel_rfl) rfl #[.int .i64 a0_2, .int .i64 a1] rfl (by (try simp only [List.map_toArray, List.map_cons, List.map_nil]); first | done | rfl | (simp only [List.length_drop, List.length_take]; rfl)) ?_; (with_reducible refine (riffleref12_Place.calls a0_2 a1 t149 _ A21.out).mono ?_); rintro e w' ⟨rfl, ⟨nd, rfl⟩⟩; refine ⟨_, rfl, ?_⟩; (try (rw [drewN_self wc]; generalize hq_ : World.drewN wc _ = wc; have n0_ : Aside0 (Kd.R Kd.bool 4 wc w.heap.size (fun _ => True) v143 y142) := ⟨by rw [← hq_]; exact (by (with_reducible repeat (first | apply Kd.R_alloc | apply Kd.R_drewN | apply Kd.R_drew)); exact HO_5.out)⟩; have n1_ : Aside0 (wc.heap[gb141]? = some (.cells #[.int .i64 a0_0, .string a0_1, .int .i64 a0_2, .int .i64 a0_3, .int .i64 a0_4, .bool a0_5, .bool a0_6, .int .i64 a0_7] 53 (0, 0))) := ⟨by rw [← hq_]; exact (by (with_reducible repeat (first | refine blk_drewN ?_ _ | refine blk_drew ?_ | refine blk_alloc ?_ _)); exact BK141.out)⟩; have n2_ : Aside0 (Below w.heap.size w wc) := ⟨by rw [← hq_]; exact (by repeat (first | (with_reducible first | exact HB.out | apply below_alloc | apply pw_below_drewN | apply below_drew1 | refine below_set ?_ GE141.out) | exact HB.out))⟩; clear HO_5 BK141 HB hq_; have HO_5 := n0_; have BK141 := n1_; have HB := n2_; clear n0_ n1_ n2_)); have p24 : 0 ≤ (t149 : Int) := of_decide_eq_true (by first | (with_reducible assumption) | assumption); have q24 : (t149 : Int) < ((y142.length : Int) : Int) := of_decide_eq_true (by first | (with_reducible assumption) | assumption); obtain ⟨go24, co24, eo24, gb24, gl24, cl24, HG24⟩ := Kd.R_form HO_5.out (by omega); (first | cases eo24 | (injection eo24 with ea_ en_ ec_; (first | subst ea_ | (injection ea_ with ea_; subst ea_)); subst ec_; clear en_)); have GB24 := Aside0.mk gb24; have GG24 := Aside0.mk HG24; clear gb24 gl24 HG24; obtain ⟨hx24_0, hf24_0⟩ := Kd.R_celln false HO_5.out (t149 : Int) p24 q24; replace p24 := eq_true p24; replace q24 := eq_true q24; obtain ⟨hy26_, hz26_⟩ := Kd.R_celln false HO_5.out (t149 : Int) (of_decide_eq_true (by first | (with_reducible assumption) | assumption)) (of_decide_eq_true (by first | (with_reducible assumption) | assumption)); have HP26 := Kd.R_putg HO_5.out (t149 : Int) true) | ((with_reducible refine gate_store (t := 4) (p := 44) rfl ?_); refine store_event (t := 4) (p := 44) (v := ?vo_w27) (w1 := (wc.setCell ⟨go24, (t149 : Int).toNat, none⟩ (.bool true))) ?hg ?ho ?hn ?hr ?_; (case ho => rfl); (case hg => rfl); (case hn => rfl); (case hr => first | (go_simp; done) | (go_simp; rfl)); intro w27 hw; have hg : wc.grownBy w27 (some go24) := (by rw [hw]; exact HP26.2); have hp_ : Kd.R Kd.bool 4 w27 w.heap.size (fun _ => True) (.slice (some ⟨go24, 0, none⟩) y142.length co24) y150 := (by rw [hw, Ny150.out]; exact HP26.1); clear HP26; have n0_ := Aside0.mk (hp_); have n1_ := Aside0.mk (blk_grown (g := gb141) (o := .cells #[.int .i64 a0_0, .string a0_1, .int .i64 a0_2, .int .i64 a0_3, .int .i64 a0_4, .bool a0_5, .bool a0_6, .int .i64 a0_7] 53 (0, 0)) (by (with_reducible repeat (first | refine blk_drewN ?_ _ | refine blk_drew ?_ | refine blk_alloc ?_ _)); exact BK141.out) hg (Kd.R_ne HO_5.out BK141.out (by decide))); have n2_ := Aside0.mk ((by rw [hw]; exact below_set (HB.out) GB24.out : Below w.heap.size w w27)); clear HO_5; clear BK141; clear HB; have HO_5 := n0_; have BK141 := n1_; have HB := n2_; clear n0_ n1_ n2_; clear hg hw hp_))
                  go_meet
                  case rel => exact ⟨_, (y150), H', ⟨by have := HJ5.out; first | omega | exact Nat.le_refl _⟩, ⟨by (with_reducible repeat (first | apply Kd.R_alloc | apply Kd.R_drewN | apply Kd.R_drew)); exact HO_5.out⟩, ⟨by (with_reducible repeat (first | refine blk_drewN ?_ _ | refine blk_drew ?_ | refine blk_alloc ?_ _)); exact BK141.out⟩, ⟨by repeat (first | (with_reducible first | exact HB.out | apply below_alloc | apply pw_below_drewN | apply below_drew1 | refine below_set ?_ GE141.out) | exact HB.out)⟩⟩
                · rw [if_neg c23] at H
                  exact absurd H (by simp)
              · rw [if_neg c22] at H
                exact absurd H (by simp)
            · replace c20 := Bool.eq_false_iff.mpr c20
              subst c20
              have H1 : (riffleref12_All.j1 kj5 y142 t145 t146 a0_0 a0_1 a0_2 a0_3 a0_4 a0_5 a0_6 a0_7) = some r := by rw [if_neg (show ¬ (false = true) by decide)] at H; exact H
              clear H
              have H := H1
              clear H1
              have H' := Aside0.mk H
              clear H
              go_wp2
              go_meet
              case rel => exact ⟨_, (y142), H', ⟨by have := HJ5.out; first | omega | exact Nat.le_refl _⟩, ⟨by (with_reducible repeat (first | apply Kd.R_alloc | apply Kd.R_drewN | apply Kd.R_drew)); exact HO_5.out⟩, ⟨by (with_reducible repeat (first | refine blk_drewN ?_ _ | refine blk_drew ?_ | refine blk_alloc ?_ _)); exact BK141.out⟩, ⟨by repeat (first | (with_reducible first | exact HB.out | apply below_alloc | apply pw_below_drewN | apply below_drew1 | refine below_set ?_ GE141.out) | exact HB.out)⟩⟩
          case rest =>
            clear HC19
            try clear c1
            try clear c2
            try clear p2
            try clear q2
            try clear hx2
            try clear hf2
            try clear c3
            try clear c3b0
            try clear c3b1
            try clear c4
            try clear c4b0
            try clear c4b1
            try clear c5
            try clear c12
            try clear c12b0
            try clear c12b1
            try clear c14
            try clear c14b0
            try clear c20
            try clear c22
            try clear c22b0
            try clear c23
            try clear c23b0
            try clear p24
            try clear q24
            try clear hx24
            try clear hf24
            try clear hcz10_0
            try clear hcz10_1
            try clear hcz10_2
            try clear hcz10_3
            try clear hcz10_4
            try clear hcz10_5
            try clear hcz10_6
            try clear hcz10_7
            try clear hcz16_0
            try clear hcz16_1
            try clear hcz16_2
            try clear hcz16_3
            try clear hcz16_4
            try clear hcz16_5
            try clear hcz16_6
            try clear hcz16_7
            try clear hcz17_0
            try clear hcz17_1
            try clear hcz17_2
            try clear hcz17_3
            try clear hcz17_4
            try clear hcz17_5
            try clear hcz17_6
            try clear hcz17_7
            try clear hcz18_0
            try clear hcz18_1
            try clear hcz18_2
            try clear hcz18_3
            try clear hcz18_4
            try clear hcz18_5
            try clear hcz18_6
            try clear hcz18_7
            try clear hcz25_0
            try clear hcz25_1
            try clear hcz25_2
            try clear hcz25_3
            try clear hcz25_4
            try clear hcz25_5
            try clear hcz25_6
            try clear hcz25_7
            try clear hfz10_0
            try clear hfz10_1
            try clear hfz10_2
            try clear hfz10_3
            try clear hfz10_4
            try clear hfz10_5
            try clear hfz10_6
            try clear hfz10_7
            try clear hfz16_0
            try clear hfz16_1
            try clear hfz16_2
            try clear hfz16_3
            try clear hfz16_4
            try clear hfz16_5
            try clear hfz16_6
            try clear hfz16_7
            try clear hfz17_0
            try clear hfz17_1
            try clear hfz17_2
            try clear hfz17_3
            try clear hfz17_4
            try clear hfz17_5
            try clear hfz17_6
            try clear hfz17_7
            try clear hfz18_0
            try clear hfz18_1
            try clear hfz18_2
            try clear hfz18_3
            try clear hfz18_4
            try clear hfz18_5
            try clear hfz18_6
            try clear hfz18_7
            try clear hfz25_0
            try clear hfz25_1
            try clear hfz25_2
            try clear hfz25_3
            try clear hfz25_4
            try clear hfz25_5
            try clear hfz25_6
            try clear hfz25_7
            try clear hx24_0
            try clear p2
            try clear p24
            try clear q24
            obtain ⟨kq, x5_18, HA, HJ18, HO_5, BK141, HB⟩ := hcut
            cases kq with
            | zero => exact absurd HA.out (by simp [riffleref12_All.j1])
            | succ kj18 =>
              have H := HA.out
              clear HA
              simp only [riffleref12_All.j1] at H
              have HC28 := Aside0.mk H
              clear H
              go_upto_region 5 with (fail)
              go_cut [52] (fun v52 wc => ∃ (kq : Nat) (x52_27 : Bool), v52 = .bool x52_27 ∧ Aside0 (riffleref12_All.j2 kq x5_18 t145 t146 x52_27 a0_0 a0_1 a0_2 a0_3 a0_4 a0_5 a0_6 a0_7 = some r) ∧ Aside0 (kq ≤ kj18) ∧ Aside0 (Kd.R Kd.bool 4 wc w.heap.size (fun _ => True) v143 x5_18) ∧ Aside0 (wc.heap[gb141]? = some (.cells #[.int .i64 a0_0, .string a0_1, .int .i64 a0_2, .int .i64 a0_3, .int .i64 a0_4, .bool a0_5, .bool a0_6, .int .i64 a0_7] 53 (0, 0))) ∧ Aside0 (Below w.heap.size w wc))
              case first =>
                have H := HC28.out
                clear HC28
                by_cases c29 : a0_0 = 3
                · rw [if_pos c29] at H
                  have c29b0 : (a0_0 == 3) = true := beq_iff_eq.mpr c29
                  have c29b1 : (a0_0 != 3) = false := bne_eq_false_iff_eq.mpr c29
                  clear c29
                  (first | rw [c29b0] | (simp only [i64_w, i32_w]; rw [c29b0]) | skip)
                  have H' := Aside0.mk H
                  clear H
                  have hcz30_0 : wc.cell? ⟨gb141, 0, none⟩ = some (.int .i64 a0_0) := (blk_cell BK141.out 0).trans rfl
                  have hcz30_1 : wc.cell? ⟨gb141, 1, none⟩ = some (.string a0_1) := (blk_cell BK141.out 1).trans rfl
                  have hcz30_2 : wc.cell? ⟨gb141, 2, none⟩ = some (.int .i64 a0_2) := (blk_cell BK141.out 2).trans rfl
                  have hcz30_3 : wc.cell? ⟨gb141, 3, none⟩ = some (.int .i64 a0_3) := (blk_cell BK141.out 3).trans rfl
                  have hcz30_4 : wc.cell? ⟨gb141, 4, none⟩ = some (.int .i64 a0_4) := (blk_cell BK141.out 4).trans rfl
                  have hcz30_5 : wc.cell? ⟨gb141, 5, none⟩ = some (.bool a0_5) := (blk_cell BK141.out 5).trans rfl
                  have hcz30_6 : wc.cell? ⟨gb141, 6, none⟩ = some (.bool a0_6) := (blk_cell BK141.out 6).trans rfl
                  have hcz30_7 : wc.cell? ⟨gb141, 7, none⟩ = some (.int .i64 a0_7) := (blk_cell BK141.out 7).trans rfl
                  have hfz30_0 := blk_frozen BK141.out 0
                  have hfz30_1 := blk_frozen BK141.out 1
                  have hfz30_2 := blk_frozen BK141.out 2
                  have hfz30_3 := blk_frozen BK141.out 3
                  have hfz30_4 := blk_frozen BK141.out 4
                  have hfz30_5 := blk_frozen BK141.out 5
                  have hfz30_6 := blk_frozen BK141.out 6
                  have hfz30_7 := blk_frozen BK141.out 7
                  go_wp2
                  go_meet
                  case rel => exact ⟨_, (decide (a0_7 > 0)), (by first | rfl | (simp; done) | (simp [*]; done)), H', ⟨by have := HJ5.out; have := HJ18.out; first | omega | exact Nat.le_refl _⟩, ⟨by (with_reducible repeat (first | apply Kd.R_alloc | apply Kd.R_drewN | apply Kd.R_drew)); exact HO_5.out⟩, ⟨by (with_reducible repeat (first | refine blk_drewN ?_ _ | refine blk_drew ?_ | refine blk_alloc ?_ _)); exact BK141.out⟩, ⟨by repeat (first | (with_reducible first | exact HB.out | apply below_alloc | apply pw_below_drewN | apply below_drew1 | refine below_set ?_ GE141.out) | exact HB.out)⟩⟩
                · rw [if_neg c29] at H
                  have c29b0 : (a0_0 == 3) = false := beq_eq_false_iff_ne.mpr c29
                  have c29b1 : (a0_0 != 3) = true := bne_iff_ne.mpr c29
                  (first | rw [c29b0] | (simp only [i64_w, i32_w]; rw [c29b0]) | skip)
                  have H' := Aside0.mk H
                  clear H
                  have hcz31_0 : wc.cell? ⟨gb141, 0, none⟩ = some (.int .i64 a0_0) := (blk_cell BK141.out 0).trans rfl
                  have hcz31_1 : wc.cell? ⟨gb141, 1, none⟩ = some (.string a0_1) := (blk_cell BK141.out 1).trans rfl
                  have hcz31_2 : wc.cell? ⟨gb141, 2, none⟩ = some (.int .i64 a0_2) := (blk_cell BK141.out 2).trans rfl
                  have hcz31_3 : wc.cell? ⟨gb141, 3, none⟩ = some (.int .i64 a0_3) := (blk_cell BK141.out 3).trans rfl
                  have hcz31_4 : wc.cell? ⟨gb141, 4, none⟩ = some (.int .i64 a0_4) := (blk_cell BK141.out 4).trans rfl
                  have hcz31_5 : wc.cell? ⟨gb141, 5, none⟩ = some (.bool a0_5) := (blk_cell BK141.out 5).trans rfl
                  have hcz31_6 : wc.cell? ⟨gb141, 6, none⟩ = some (.bool a0_6) := (blk_cell BK141.out 6).trans rfl
                  have hcz31_7 : wc.cell? ⟨gb141, 7, none⟩ = some (.int .i64 a0_7) := (blk_cell BK141.out 7).trans rfl
                  have hfz31_0 := blk_frozen BK141.out 0
                  have hfz31_1 := blk_frozen BK141.out 1
                  have hfz31_2 := blk_frozen BK141.out 2
                  have hfz31_3 := blk_frozen BK141.out 3
                  have hfz31_4 := blk_frozen BK141.out 4
                  have hfz31_5 := blk_frozen BK141.out 5
                  have hfz31_6 := blk_frozen BK141.out 6
                  have hfz31_7 := blk_frozen BK141.out 7
                  go_wp2
                  go_meet
                  case rel => exact ⟨_, (false), (by first | rfl | (simp; done) | (simp [*]; done)), H', ⟨by have := HJ5.out; have := HJ18.out; first | omega | exact Nat.le_refl _⟩, ⟨by (with_reducible repeat (first | apply Kd.R_alloc | apply Kd.R_drewN | apply Kd.R_drew)); exact HO_5.out⟩, ⟨by (with_reducible repeat (first | refine blk_drewN ?_ _ | refine blk_drew ?_ | refine blk_alloc ?_ _)); exact BK141.out⟩, ⟨by repeat (first | (with_reducible first | exact HB.out | apply below_alloc | apply pw_below_drewN | apply below_drew1 | refine below_set ?_ GE141.out) | exact HB.out)⟩⟩
              case rest =>
                clear HC28
                try clear c1
                try clear c2
                try clear p2
                try clear q2
                try clear hx2
                try clear hf2
                try clear c3
                try clear c3b0
                try clear c3b1
                try clear c4
                try clear c4b0
                try clear c4b1
                try clear c5
                try clear c12
                try clear c12b0
                try clear c12b1
                try clear c14
                try clear c14b0
                try clear c20
                try clear c22
                try clear c22b0
                try clear c23
                try clear c23b0
                try clear p24
                try clear q24
                try clear hx24
                try clear hf24
                try clear c29
                try clear c29b0
                try clear c29b1
                try clear hcz10_0
                try clear hcz10_1
                try clear hcz10_2
                try clear hcz10_3
                try clear hcz10_4
                try clear hcz10_5
                try clear hcz10_6
                try clear hcz10_7
                try clear hcz16_0
                try clear hcz16_1
                try clear hcz16_2
                try clear hcz16_3
                try clear hcz16_4
                try clear hcz16_5
                try clear hcz16_6
                try clear hcz16_7
                try clear hcz17_0
                try clear hcz17_1
                try clear hcz17_2
                try clear hcz17_3
                try clear hcz17_4
                try clear hcz17_5
                try clear hcz17_6
                try clear hcz17_7
                try clear hcz18_0
                try clear hcz18_1
                try clear hcz18_2
                try clear hcz18_3
                try clear hcz18_4
                try clear hcz18_5
                try clear hcz18_6
                try clear hcz18_7
                try clear hcz25_0
                try clear hcz25_1
                try clear hcz25_2
                try clear hcz25_3
                try clear hcz25_4
                try clear hcz25_5
                try clear hcz25_6
                try clear hcz25_7
                try clear hcz30_0
                try clear hcz30_1
                try clear hcz30_2
                try clear hcz30_3
                try clear hcz30_4
                try clear hcz30_5
                try clear hcz30_6
                try clear hcz30_7
                try clear hcz31_0
                try clear hcz31_1
                try clear hcz31_2
                try clear hcz31_3
                try clear hcz31_4
                try clear hcz31_5
                try clear hcz31_6
                try clear hcz31_7
                try clear hfz10_0
                try clear hfz10_1
                try clear hfz10_2
                try clear hfz10_3
                try clear hfz10_4
                try clear hfz10_5
                try clear hfz10_6
                try clear hfz10_7
                try clear hfz16_0
                try clear hfz16_1
                try clear hfz16_2
                try clear hfz16_3
                try clear hfz16_4
                try clear hfz16_5
                try clear hfz16_6
                try clear hfz16_7
                try clear hfz17_0
                try clear hfz17_1
                try clear hfz17_2
                try clear hfz17_3
                try clear hfz17_4
                try clear hfz17_5
                try clear hfz17_6
                try clear hfz17_7
                try clear hfz18_0
                try clear hfz18_1
                try clear hfz18_2
                try clear hfz18_3
                try clear hfz18_4
                try clear hfz18_5
                try clear hfz18_6
                try clear hfz18_7
                try clear hfz25_0
                try clear hfz25_1
                try clear hfz25_2
                try clear hfz25_3
                try clear hfz25_4
                try clear hfz25_5
                try clear hfz25_6
                try clear hfz25_7
                try clear hfz30_0
                try clear hfz30_1
                try clear hfz30_2
                try clear hfz30_3
                try clear hfz30_4
                try clear hfz30_5
                try clear hfz30_6
                try clear hfz30_7
                try clear hfz31_0
                try clear hfz31_1
                try clear hfz31_2
                try clear hfz31_3
                try clear hfz31_4
                try clear hfz31_5
                try clear hfz31_6
                try clear hfz31_7
                try clear hx24_0
                try clear p2
                try clear p24
                try clear q2
                try clear q24
                obtain ⟨kq, x52_27, rfl, HA, HJ27, HO_5, BK141, HB⟩ := hcut
                cases kq with
                | zero => exact absurd HA.out (by simp [riffleref12_All.j2])
                | succ kj27 =>
                  have H := HA.out
                  clear HA
                  simp only [riffleref12_All.j2] at H
                  have HC32 := Aside0.mk H
                  clear H
                  go_upto_if 52 with (fail)
                  go_cut [] (fun wc => ∃ (kq : Nat) (x5_31 : List Bool), Aside0 (riffleref12_All.j4 kq x5_31 t145 t146 a0_0 a0_1 a0_2 a0_3 a0_4 a0_5 a0_6 a0_7 = some r) ∧ Aside0 (kq ≤ kj27) ∧ Aside0 (Kd.R Kd.bool 4 wc w.heap.size (fun _ => True) v143 x5_31) ∧ Aside0 (wc.heap[gb141]? = some (.cells #[.int .i64 a0_0, .string a0_1, .int .i64 a0_2, .int .i64 a0_3, .int .i64 a0_4, .bool a0_5, .bool a0_6, .int .i64 a0_7] 53 (0, 0))) ∧ Aside0 (Below w.heap.size w wc))
                  case first =>
                    have H := HC32.out
                    clear HC32
                    by_cases c33 : x52_27 = true
                    · subst c33
                      have H1 : (riffleref12_All.l0 kj27 x5_18 t145 t146 t145 a0_0 a0_1 a0_2 a0_3 a0_4 a0_5 a0_6 a0_7) = some r := by rw [if_pos rfl] at H; exact H
                      clear H
                      have H := H1
                      clear H1
                      have H' := Aside0.mk H
                      clear H
                      go_wp2
                      go_loopg [8] kj27 (fun kq v8 w' => ∃ (x5_4 : List Bool) (x8_4 : Int), v8 = .int .i64 x8_4 ∧ Aside0 (riffleref12_All.l0 kq x5_4 t145 t146 x8_4 a0_0 a0_1 a0_2 a0_3 a0_4 a0_5 a0_6 a0_7 = some r) ∧ Aside0 (kq ≤ kj27) ∧ Aside0 (Kd.R Kd.bool 4 w' w.heap.size (fun _ => True) v143 x5_4) ∧ Aside0 (w'.heap[gb141]? = some (.cells #[.int .i64 a0_0, .string a0_1, .int .i64 a0_2, .int .i64 a0_3, .int .i64 a0_4, .bool a0_5, .bool a0_6, .int .i64 a0_7] 53 (0, 0))) ∧ Aside0 (Below w.heap.size w w'))
                      case atStart => exact ⟨(x5_18), (t145), (by first | rfl | (simp; done) | (simp [*]; done)), H', ⟨Nat.le_refl _⟩, ⟨by (with_reducible repeat (first | apply Kd.R_alloc | apply Kd.R_drewN | apply Kd.R_drew)); exact HO_5.out⟩, ⟨by (with_reducible repeat (first | refine blk_drewN ?_ _ | refine blk_drew ?_ | refine blk_alloc ?_ _)); exact BK141.out⟩, ⟨by repeat (first | (with_reducible first | exact HB.out | apply below_alloc | apply pw_below_drewN | apply below_drew1 | refine below_set ?_ GE141.out) | exact HB.out)⟩⟩
                      case round =>
                        clear H'
                        try clear c1
                        try clear c2
                        try clear p2
                        try clear q2
                        try clear hx2
                        try clear hf2
                        try clear c3
                        try clear c3b0
                        try clear c3b1
                        try clear c4
                        try clear c4b0
                        try clear c4b1
                        try clear c5
                        try clear c12
                        try clear c12b0
                        try clear c12b1
                        try clear c14
                        try clear c14b0
                        try clear c20
                        try clear c22
                        try clear c22b0
                        try clear c23
                        try clear c23b0
                        try clear p24
                        try clear q24
                        try clear hx24
                        try clear hf24
                        try clear c29
                        try clear c29b0
                        try clear c29b1
                        try clear c33
                        try clear hcz10_0
                        try clear hcz10_1
                        try clear hcz10_2
                        try clear hcz10_3
                        try clear hcz10_4
                        try clear hcz10_5
                        try clear hcz10_6
                        try clear hcz10_7
                        try clear hcz16_0
                        try clear hcz16_1
                        try clear hcz16_2
                        try clear hcz16_3
                        try clear hcz16_4
                        try clear hcz16_5
                        try clear hcz16_6
                        try clear hcz16_7
                        try clear hcz17_0
                        try clear hcz17_1
                        try clear hcz17_2
                        try clear hcz17_3
                        try clear hcz17_4
                        try clear hcz17_5
                        try clear hcz17_6
                        try clear hcz17_7
                        try clear hcz18_0
                        try clear hcz18_1
                        try clear hcz18_2
                        try clear hcz18_3
                        try clear hcz18_4
                        try clear hcz18_5
                        try clear hcz18_6
                        try clear hcz18_7
                        try clear hcz25_0
                        try clear hcz25_1
                        try clear hcz25_2
                        try clear hcz25_3
                        try clear hcz25_4
                        try clear hcz25_5
                        try clear hcz25_6
                        try clear hcz25_7
                        try clear hcz30_0
                        try clear hcz30_1
                        try clear hcz30_2
                        try clear hcz30_3
                        try clear hcz30_4
                        try clear hcz30_5
                        try clear hcz30_6
                        try clear hcz30_7
                        try clear hcz31_0
                        try clear hcz31_1
                        try clear hcz31_2
                        try clear hcz31_3
                        try clear hcz31_4
                        try clear hcz31_5
                        try clear hcz31_6
                        try clear hcz31_7
                        try clear hfz10_0
                        try clear hfz10_1
                        try clear hfz10_2
                        try clear hfz10_3
                        try clear hfz10_4
                        try clear hfz10_5
                        try clear hfz10_6
                        try clear hfz10_7
                        try clear hfz16_0
                        try clear hfz16_1
                        try clear hfz16_2
                        try clear hfz16_3
                        try clear hfz16_4
                        try clear hfz16_5
                        try clear hfz16_6
                        try clear hfz16_7
                        try clear hfz17_0
                        try clear hfz17_1
                        try clear hfz17_2
                        try clear hfz17_3
                        try clear hfz17_4
                        try clear hfz17_5
                        try clear hfz17_6
                        try clear hfz17_7
                        try clear hfz18_0
                        try clear hfz18_1
                        try clear hfz18_2
                        try clear hfz18_3
                        try clear hfz18_4
                        try clear hfz18_5
                        try clear hfz18_6
                        try clear hfz18_7
                        try clear hfz25_0
                        try clear hfz25_1
                        try clear hfz25_2
                        try clear hfz25_3
                        try clear hfz25_4
                        try clear hfz25_5
                        try clear hfz25_6
                        try clear hfz25_7
                        try clear hfz30_0
                        try clear hfz30_1
                        try clear hfz30_2
                        try clear hfz30_3
                        try clear hfz30_4
                        try clear hfz30_5
                        try clear hfz30_6
                        try clear hfz30_7
                        try clear hfz31_0
                        try clear hfz31_1
                        try clear hfz31_2
                        try clear hfz31_3
                        try clear hfz31_4
                        try clear hfz31_5
                        try clear hfz31_6
                        try clear hfz31_7
                        try clear hx24_0
                        try clear p2
                        try clear p24
                        try clear q2
                        try clear q24
                        obtain ⟨x5_4, x8_4, rfl, HA, HK4, HO_5, BK141, HB⟩ := hrel
                        cases gk with
                        | zero => exact absurd HA.out (by simp [riffleref12_All.l0])
                        | succ k4 =>
                          have H := HA.out
                          clear HA
                          simp only [riffleref12_All.l0] at H
                          by_cases c34 : x8_4 < t146
                          · rw [if_pos c34] at H
                            have c34b0 : decide (x8_4 < t146) = true := decide_eq_true c34
                            clear c34
                            (first | rw [c34b0] | (simp only [i64_w, i32_w]; rw [c34b0]) | skip)
                            by_cases c35 : 0 ≤ x8_4
                            · rw [if_pos c35] at H
                              have c35b0 : decide (0 ≤ x8_4) = true := decide_eq_true c35
                              clear c35
                              by_cases c36 : x8_4 < (x5_4.length : Int)
                              · rw [if_pos c36] at H
                                have c36b0 : decide (x8_4 < (x5_4.length : Int)) = true := decide_eq_true c36
                                clear c36
                                obtain ⟨y151, hy151⟩ : ∃ y_ : List Bool, y_ = (x5_4.set (x8_4 : Int).toNat true) := ⟨_, rfl⟩
                                replace H : (riffleref12_All.l0 k4 y151 t145 t146 (wrap64 (x8_4 + a0_7)) a0_0 a0_1 a0_2 a0_3 a0_4 a0_5 a0_6 a0_7) = some r := by first | (rw [hy151]; with_reducible exact H) | (have H2_ := (Option.bind_some _ _).symm.trans H; rw [hy151]; with_reducible exact H2_) | (have H2_ := (Option.bind_some _ _).symm.trans H; with_reducible exact H2_) | with_reducible exact H | (rw [hy151]; exact H) | exact H
                                have Ny151 := Aside0.mk hy151
                                clear hy151
                                have H' := Aside0.mk H
                                clear H
                                have p37 : 0 ≤ (x8_4 : Int) := of_decide_eq_true (by first | (with_reducible assumption) | assumption)
                                have q37 : (x8_4 : Int) < ((x5_4.length : Int) : Int) := of_decide_eq_true (by first | (with_reducible assumption) | assumption)
                                obtain ⟨go37, co37, eo37, gb37, gl37, cl37, HG37⟩ := Kd.R_form HO_5.out (by omega)
                                (first | cases eo37 | (injection eo37 with ea_ en_ ec_; (first | subst ea_ | (injection ea_ with ea_; subst ea_)); subst ec_; clear en_))
                                have GB37 := Aside0.mk gb37
                                have GG37 := Aside0.mk HG37
                                clear gb37 gl37 HG37
                                obtain ⟨hx37_0, hf37_0⟩ := Kd.R_celln false HO_5.out (x8_4 : Int) p37 q37
                                replace p37 := eq_true p37
                                replace q37 := eq_true q37
                                have HP38 := Kd.R_putg HO_5.out (x8_4 : Int) true
                                go_wp2_with (first | ((with_reducible refine gate_store (t := 4) (p := 63) rfl ?_); refine store_event (t := 4) (p := 63) (v := ?vo_w39) (w1 := (wr.setCell ⟨go37, (x8_4 : Int).toNat, none⟩ (.bool true))) ?hg ?ho ?hn ?hr ?_; (case ho => rfl); (case hg => rfl); (case hn => rfl); (case hr => first | (go_simp; done) | (go_simp; rfl)); intro w39 hw; have hg : wr.grownBy w39 (some go37) := (by rw [hw]; exact HP38.2); have hp_ : Kd.R Kd.bool 4 w39 w.heap.size (fun _ => True) (.slice (some ⟨go37, 0, none⟩) x5_4.length co37) y151 := (by rw [hw, Ny151.out]; exact HP38.1); clear HP38; have n0_ := Aside0.mk (hp_); have n1_ := Aside0.mk (blk_grown (g := gb141) (o := .cells #[.int .i64 a0_0, .string a0_1, .int .i64 a0_2, .int .i64 a0_3, .int .i64 a0_4, .bool a0_5, .bool a0_6, .int .i64 a0_7] 53 (0, 0)) (by (with_reducible repeat (first | refine blk_drewN ?_ _ | refine blk_drew ?_ | refine blk_alloc ?_ _)); exact BK141.out) hg (Kd.R_ne HO_5.out BK141.out (by decide))); have n2_ := Aside0.mk ((by rw [hw]; exact below_set (HB.out) GB37.out : Below w.heap.size w w39)); clear HO_5; clear BK141; clear HB; have HO_5 := n0_; have BK141 := n1_; have HB := n2_; clear n0_ n1_ n2_; clear hg hw hp_; have hcz40_0 : w39.cell? ⟨gb141, 0, none⟩ = some (.int .i64 a0_0) := (blk_cell BK141.out 0).trans rfl; have hcz40_1 : w39.cell? ⟨gb141, 1, none⟩ = some (.string a0_1) := (blk_cell BK141.out 1).trans rfl; have hcz40_2 : w39.cell? ⟨gb141, 2, none⟩ = some (.int .i64 a0_2) := (blk_cell BK141.out 2).trans rfl; have hcz40_3 : w39.cell? ⟨gb141, 3, none⟩ = some (.int .i64 a0_3) := (blk_cell BK141.out 3).trans rfl; have hcz40_4 : w39.cell? ⟨gb141, 4, none⟩ = some (.int .i64 a0_4) := (blk_cell BK141.out 4).trans rfl; have hcz40_5 : w39.cell? ⟨gb141, 5, none⟩ = some (.bool a0_5) := (blk_cell BK141.out 5).trans rfl; have hcz40_6 : w39.cell? ⟨gb141, 6, none⟩ = some (.bool a0_6) := (blk_cell BK141.out 6).trans rfl; have hcz40_7 : w39.cell? ⟨gb141, 7, none⟩ = some (.int .i64 a0_7) := (blk_cell BK141.out 7).trans rfl; have hfz40_0 := blk_frozen BK141.out 0; have hfz40_1 := blk_frozen BK141.out 1; have hfz40_2 := blk_frozen BK141.out 2; have hfz40_3 := blk_frozen BK141.out 3; have hfz40_4 := blk_frozen BK141.out 4; have hfz40_5 := blk_frozen BK141.out 5; have hfz40_6 := blk_frozen BK141.out 6; have hfz40_7 := blk_frozen BK141.out 7))
                                go_roundg k4
                                case measure => have := HJ5.out; have := HJ18.out; have := HJ27.out; have := HK4.out; omega
                                case rel => exact ⟨(y151), (wrap64 (x8_4 + a0_7)), (by first | rfl | (simp; done) | (simp [*]; done)), H', ⟨by have := HJ5.out; have := HJ18.out; have := HJ27.out; have := HK4.out; omega⟩, ⟨by (with_reducible repeat (first | apply Kd.R_alloc | apply Kd.R_drewN | apply Kd.R_drew)); exact HO_5.out⟩, ⟨by (with_reducible repeat (first | refine blk_drewN ?_ _ | refine blk_drew ?_ | refine blk_alloc ?_ _)); exact BK141.out⟩, ⟨by repeat (first | (with_reducible first | exact HB.out | apply below_alloc | apply pw_below_drewN | apply below_drew1 | refine below_set ?_ GE141.out) | exact HB.out)⟩⟩
                              · rw [if_neg c36] at H
                                exact absurd H (by simp)
                            · rw [if_neg c35] at H
                              exact absurd H (by simp)
                          · rw [if_neg c34] at H
                            have c34b0 : decide (x8_4 < t146) = false := decide_eq_false c34
                            clear c34
                            (first | rw [c34b0] | (simp only [i64_w, i32_w]; rw [c34b0]) | skip)
                            have H' := Aside0.mk H
                            clear H
                            go_wp2
                            go_meet
                            case rel => exact ⟨_, (x5_4), H', ⟨by have := HJ5.out; have := HJ18.out; have := HJ27.out; have := HK4.out; first | omega | exact Nat.le_refl _⟩, ⟨by (with_reducible repeat (first | apply Kd.R_alloc | apply Kd.R_drewN | apply Kd.R_drew)); exact HO_5.out⟩, ⟨by (with_reducible repeat (first | refine blk_drewN ?_ _ | refine blk_drew ?_ | refine blk_alloc ?_ _)); exact BK141.out⟩, ⟨by repeat (first | (with_reducible first | exact HB.out | apply below_alloc | apply pw_below_drewN | apply below_drew1 | refine below_set ?_ GE141.out) | exact HB.out)⟩⟩
                    · replace c33 := Bool.eq_false_iff.mpr c33
                      subst c33
                      have H1 : (riffleref12_All.j4 kj27 x5_18 t145 t146 a0_0 a0_1 a0_2 a0_3 a0_4 a0_5 a0_6 a0_7) = some r := by rw [if_neg (show ¬ (false = true) by decide)] at H; exact H
                      clear H
                      have H := H1
                      clear H1
                      have H' := Aside0.mk H
                      clear H
                      go_wp2
                      go_meet
                      case rel => exact ⟨_, (x5_18), H', ⟨by have := HJ5.out; have := HJ18.out; have := HJ27.out; first | omega | exact Nat.le_refl _⟩, ⟨by (with_reducible repeat (first | apply Kd.R_alloc | apply Kd.R_drewN | apply Kd.R_drew)); exact HO_5.out⟩, ⟨by (with_reducible repeat (first | refine blk_drewN ?_ _ | refine blk_drew ?_ | refine blk_alloc ?_ _)); exact BK141.out⟩, ⟨by repeat (first | (with_reducible first | exact HB.out | apply below_alloc | apply pw_below_drewN | apply below_drew1 | refine below_set ?_ GE141.out) | exact HB.out)⟩⟩
                  case rest =>
                    clear HC32
                    try clear c1
                    try clear c2
                    try clear p2
                    try clear q2
                    try clear hx2
                    try clear hf2
                    try clear c3
                    try clear c3b0
                    try clear c3b1
                    try clear p3
                    try clear q3
                    try clear hx3
                    try clear hf3
                    try clear c4
                    try clear c4b0
                    try clear c4b1
                    try clear c5
                    try clear p6
                    try clear c12
                    try clear c12b0
                    try clear c12b1
                    try clear c14
                    try clear c14b0
                    try clear c20
                    try clear c22
                    try clear c22b0
                    try clear c23
                    try clear c23b0
                    try clear p24
                    try clear q24
                    try clear hx24
                    try clear hf24
                    try clear c29
                    try clear c29b0
                    try clear c29b1
                    try clear c33
                    try clear c34
                    try clear c34b0
                    try clear c35
                    try clear c35b0
                    try clear c36
                    try clear c36b0
                    try clear p37
                    try clear q37
                    try clear hx37
                    try clear hf37
                    try clear hcz10_0
                    try clear hcz10_1
                    try clear hcz10_2
                    try clear hcz10_3
                    try clear hcz10_4
                    try clear hcz10_5
                    try clear hcz10_6
                    try clear hcz10_7
                    try clear hcz16_0
                    try clear hcz16_1
                    try clear hcz16_2
                    try clear hcz16_3
                    try clear hcz16_4
                    try clear hcz16_5
                    try clear hcz16_6
                    try clear hcz16_7
                    try clear hcz17_0
                    try clear hcz17_1
                    try clear hcz17_2
                    try clear hcz17_3
                    try clear hcz17_4
                    try clear hcz17_5
                    try clear hcz17_6
                    try clear hcz17_7
                    try clear hcz18_0
                    try clear hcz18_1
                    try clear hcz18_2
                    try clear hcz18_3
                    try clear hcz18_4
                    try clear hcz18_5
                    try clear hcz18_6
                    try clear hcz18_7
                    try clear hcz25_0
                    try clear hcz25_1
                    try clear hcz25_2
                    try clear hcz25_3
                    try clear hcz25_4
                    try clear hcz25_5
                    try clear hcz25_6
                    try clear hcz25_7
                    try clear hcz30_0
                    try clear hcz30_1
                    try clear hcz30_2
                    try clear hcz30_3
                    try clear hcz30_4
                    try clear hcz30_5
                    try clear hcz30_6
                    try clear hcz30_7
                    try clear hcz31_0
                    try clear hcz31_1
                    try clear hcz31_2
                    try clear hcz31_3
                    try clear hcz31_4
                    try clear hcz31_5
                    try clear hcz31_6
                    try clear hcz31_7
                    try clear hcz40_0
                    try clear hcz40_1
                    try clear hcz40_2
                    try clear hcz40_3
                    try clear hcz40_4
                    try clear hcz40_5
                    try clear hcz40_6
                    try clear hcz40_7
                    try clear hfz10_0
                    try clear hfz10_1
                    try clear hfz10_2
                    try clear hfz10_3
                    try clear hfz10_4
                    try clear hfz10_5
                    try clear hfz10_6
                    try clear hfz10_7
                    try clear hfz16_0
                    try clear hfz16_1
                    try clear hfz16_2
                    try clear hfz16_3
                    try clear hfz16_4
                    try clear hfz16_5
                    try clear hfz16_6
                    try clear hfz16_7
                    try clear hfz17_0
                    try clear hfz17_1
                    try clear hfz17_2
                    try clear hfz17_3
                    try clear hfz17_4
                    try clear hfz17_5
                    try clear hfz17_6
                    try clear hfz17_7
                    try clear hfz18_0
                    try clear hfz18_1
                    try clear hfz18_2
                    try clear hfz18_3
                    try clear hfz18_4
                    try clear hfz18_5
                    try clear hfz18_6
                    try clear hfz18_7
                    try clear hfz25_0
                    try clear hfz25_1
                    try clear hfz25_2
                    try clear hfz25_3
                    try clear hfz25_4
                    try clear hfz25_5
                    try clear hfz25_6
                    try clear hfz25_7
                    try clear hfz30_0
                    try clear hfz30_1
                    try clear hfz30_2
                    try clear hfz30_3
                    try clear hfz30_4
                    try clear hfz30_5
                    try clear hfz30_6
                    try clear hfz30_7
                    try clear hfz31_0
                    try clear hfz31_1
                    try clear hfz31_2
                    try clear hfz31_3
                    try clear hfz31_4
                    try clear hfz31_5
                    try clear hfz31_6
                    try clear hfz31_7
                    try clear hfz40_0
                    try clear hfz40_1
                    try clear hfz40_2
                    try clear hfz40_3
                    try clear hfz40_4
                    try clear hfz40_5
                    try clear hfz40_6
                    try clear hfz40_7
                    try clear hx24_0
                    try clear hx37_0
                    try clear p2
                    try clear p24
                    try clear p37
                    try clear q2
                    try clear q24
                    try clear q37
                    obtain ⟨kq, x5_31, HA, HJ31, HO_5, BK141, HB⟩ := hcut
                    cases kq with
                    | zero => exact absurd HA.out (by simp [riffleref12_All.j4])
                    | succ kj31 =>
                      have H := HA.out
                      clear HA
                      simp only [riffleref12_All.j4] at H
                      have HC41 := Aside0.mk H
                      clear H
                      go_upto_region 10 with (fail)
                      go_cut [71] (fun v71 wc => ∃ (kq : Nat) (x71_40 : Bool), v71 = .bool x71_40 ∧ Aside0 (riffleref12_All.j5 kq x5_31 t145 t146 x71_40 a0_0 a0_1 a0_2 a0_3 a0_4 a0_5 a0_6 a0_7 = some r) ∧ Aside0 (kq ≤ kj31) ∧ Aside0 (Kd.R Kd.bool 4 wc w.heap.size (fun _ => True) v143 x5_31) ∧ Aside0 (wc.heap[gb141]? = some (.cells #[.int .i64 a0_0, .string a0_1, .int .i64 a0_2, .int .i64 a0_3, .int .i64 a0_4, .bool a0_5, .bool a0_6, .int .i64 a0_7] 53 (0, 0))) ∧ Aside0 (Below w.heap.size w wc))
                      case first =>
                        have H := HC41.out
                        clear HC41
                        by_cases c42 : a0_0 = 3
                        · rw [if_pos c42] at H
                          have c42b0 : (a0_0 == 3) = true := beq_iff_eq.mpr c42
                          have c42b1 : (a0_0 != 3) = false := bne_eq_false_iff_eq.mpr c42
                          clear c42
                          (first | rw [c42b0] | (simp only [i64_w, i32_w]; rw [c42b0]) | skip)
                          have H' := Aside0.mk H
                          clear H
                          have hcz43_0 : wc.cell? ⟨gb141, 0, none⟩ = some (.int .i64 a0_0) := (blk_cell BK141.out 0).trans rfl
                          have hcz43_1 : wc.cell? ⟨gb141, 1, none⟩ = some (.string a0_1) := (blk_cell BK141.out 1).trans rfl
                          have hcz43_2 : wc.cell? ⟨gb141, 2, none⟩ = some (.int .i64 a0_2) := (blk_cell BK141.out 2).trans rfl
                          have hcz43_3 : wc.cell? ⟨gb141, 3, none⟩ = some (.int .i64 a0_3) := (blk_cell BK141.out 3).trans rfl
                          have hcz43_4 : wc.cell? ⟨gb141, 4, none⟩ = some (.int .i64 a0_4) := (blk_cell BK141.out 4).trans rfl
                          have hcz43_5 : wc.cell? ⟨gb141, 5, none⟩ = some (.bool a0_5) := (blk_cell BK141.out 5).trans rfl
                          have hcz43_6 : wc.cell? ⟨gb141, 6, none⟩ = some (.bool a0_6) := (blk_cell BK141.out 6).trans rfl
                          have hcz43_7 : wc.cell? ⟨gb141, 7, none⟩ = some (.int .i64 a0_7) := (blk_cell BK141.out 7).trans rfl
                          have hfz43_0 := blk_frozen BK141.out 0
                          have hfz43_1 := blk_frozen BK141.out 1
                          have hfz43_2 := blk_frozen BK141.out 2
                          have hfz43_3 := blk_frozen BK141.out 3
                          have hfz43_4 := blk_frozen BK141.out 4
                          have hfz43_5 := blk_frozen BK141.out 5
                          have hfz43_6 := blk_frozen BK141.out 6
                          have hfz43_7 := blk_frozen BK141.out 7
                          go_wp2
                          go_meet
                          case rel => exact ⟨_, (decide (a0_7 < 0)), (by first | rfl | (simp; done) | (simp [*]; done)), H', ⟨by have := HJ5.out; have := HJ18.out; have := HJ27.out; have := HJ31.out; first | omega | exact Nat.le_refl _⟩, ⟨by (with_reducible repeat (first | apply Kd.R_alloc | apply Kd.R_drewN | apply Kd.R_drew)); exact HO_5.out⟩, ⟨by (with_reducible repeat (first | refine blk_drewN ?_ _ | refine blk_drew ?_ | refine blk_alloc ?_ _)); exact BK141.out⟩, ⟨by repeat (first | (with_reducible first | exact HB.out | apply below_alloc | apply pw_below_drewN | apply below_drew1 | refine below_set ?_ GE141.out) | exact HB.out)⟩⟩
                        · rw [if_neg c42] at H
                          have c42b0 : (a0_0 == 3) = false := beq_eq_false_iff_ne.mpr c42
                          have c42b1 : (a0_0 != 3) = true := bne_iff_ne.mpr c42
                          (first | rw [c42b0] | (simp only [i64_w, i32_w]; rw [c42b0]) | skip)
                          have H' := Aside0.mk H
                          clear H
                          have hcz44_0 : wc.cell? ⟨gb141, 0, none⟩ = some (.int .i64 a0_0) := (blk_cell BK141.out 0).trans rfl
                          have hcz44_1 : wc.cell? ⟨gb141, 1, none⟩ = some (.string a0_1) := (blk_cell BK141.out 1).trans rfl
                          have hcz44_2 : wc.cell? ⟨gb141, 2, none⟩ = some (.int .i64 a0_2) := (blk_cell BK141.out 2).trans rfl
                          have hcz44_3 : wc.cell? ⟨gb141, 3, none⟩ = some (.int .i64 a0_3) := (blk_cell BK141.out 3).trans rfl
                          have hcz44_4 : wc.cell? ⟨gb141, 4, none⟩ = some (.int .i64 a0_4) := (blk_cell BK141.out 4).trans rfl
                          have hcz44_5 : wc.cell? ⟨gb141, 5, none⟩ = some (.bool a0_5) := (blk_cell BK141.out 5).trans rfl
                          have hcz44_6 : wc.cell? ⟨gb141, 6, none⟩ = some (.bool a0_6) := (blk_cell BK141.out 6).trans rfl
                          have hcz44_7 : wc.cell? ⟨gb141, 7, none⟩ = some (.int .i64 a0_7) := (blk_cell BK141.out 7).trans rfl
                          have hfz44_0 := blk_frozen BK141.out 0
                          have hfz44_1 := blk_frozen BK141.out 1
                          have hfz44_2 := blk_frozen BK141.out 2
                          have hfz44_3 := blk_frozen BK141.out 3
                          have hfz44_4 := blk_frozen BK141.out 4
                          have hfz44_5 := blk_frozen BK141.out 5
                          have hfz44_6 := blk_frozen BK141.out 6
                          have hfz44_7 := blk_frozen BK141.out 7
                          go_wp2
                          go_meet
                          case rel => exact ⟨_, (false), (by first | rfl | (simp; done) | (simp [*]; done)), H', ⟨by have := HJ5.out; have := HJ18.out; have := HJ27.out; have := HJ31.out; first | omega | exact Nat.le_refl _⟩, ⟨by (with_reducible repeat (first | apply Kd.R_alloc | apply Kd.R_drewN | apply Kd.R_drew)); exact HO_5.out⟩, ⟨by (with_reducible repeat (first | refine blk_drewN ?_ _ | refine blk_drew ?_ | refine blk_alloc ?_ _)); exact BK141.out⟩, ⟨by repeat (first | (with_reducible first | exact HB.out | apply below_alloc | apply pw_below_drewN | apply below_drew1 | refine below_set ?_ GE141.out) | exact HB.out)⟩⟩
                      case rest =>
                        clear HC41
                        try clear c1
                        try clear c2
                        try clear p2
                        try clear q2
                        try clear hx2
                        try clear hf2
                        try clear c3
                        try clear c3b0
                        try clear c3b1
                        try clear p3
                        try clear q3
                        try clear hx3
                        try clear hf3
                        try clear c4
                        try clear c4b0
                        try clear c4b1
                        try clear c5
                        try clear p6
                        try clear c12
                        try clear c12b0
                        try clear c12b1
                        try clear c14
                        try clear c14b0
                        try clear c20
                        try clear c22
                        try clear c22b0
                        try clear c23
                        try clear c23b0
                        try clear p24
                        try clear q24
                        try clear hx24
                        try clear hf24
                        try clear c29
                        try clear c29b0
                        try clear c29b1
                        try clear c33
                        try clear c34
                        try clear c34b0
                        try clear c35
                        try clear c35b0
                        try clear c36
                        try clear c36b0
                        try clear p37
                        try clear q37
                        try clear hx37
                        try clear hf37
                        try clear c42
                        try clear c42b0
                        try clear c42b1
                        try clear hcz10_0
                        try clear hcz10_1
                        try clear hcz10_2
                        try clear hcz10_3
                        try clear hcz10_4
                        try clear hcz10_5
                        try clear hcz10_6
                        try clear hcz10_7
                        try clear hcz16_0
                        try clear hcz16_1
                        try clear hcz16_2
                        try clear hcz16_3
                        try clear hcz16_4
                        try clear hcz16_5
                        try clear hcz16_6
                        try clear hcz16_7
                        try clear hcz17_0
                        try clear hcz17_1
                        try clear hcz17_2
                        try clear hcz17_3
                        try clear hcz17_4
                        try clear hcz17_5
                        try clear hcz17_6
                        try clear hcz17_7
                        try clear hcz18_0
                        try clear hcz18_1
                        try clear hcz18_2
                        try clear hcz18_3
                        try clear hcz18_4
                        try clear hcz18_5
                        try clear hcz18_6
                        try clear hcz18_7
                        try clear hcz25_0
                        try clear hcz25_1
                        try clear hcz25_2
                        try clear hcz25_3
                        try clear hcz25_4
                        try clear hcz25_5
                        try clear hcz25_6
                        try clear hcz25_7
                        try clear hcz30_0
                        try clear hcz30_1
                        try clear hcz30_2
                        try clear hcz30_3
                        try clear hcz30_4
                        try clear hcz30_5
                        try clear hcz30_6
                        try clear hcz30_7
                        try clear hcz31_0
                        try clear hcz31_1
                        try clear hcz31_2
                        try clear hcz31_3
                        try clear hcz31_4
                        try clear hcz31_5
                        try clear hcz31_6
                        try clear hcz31_7
                        try clear hcz40_0
                        try clear hcz40_1
                        try clear hcz40_2
                        try clear hcz40_3
                        try clear hcz40_4
                        try clear hcz40_5
                        try clear hcz40_6
                        try clear hcz40_7
                        try clear hcz43_0
                        try clear hcz43_1
                        try clear hcz43_2
                        try clear hcz43_3
                        try clear hcz43_4
                        try clear hcz43_5
                        try clear hcz43_6
                        try clear hcz43_7
                        try clear hcz44_0
                        try clear hcz44_1
                        try clear hcz44_2
                        try clear hcz44_3
                        try clear hcz44_4
                        try clear hcz44_5
                        try clear hcz44_6
                        try clear hcz44_7
                        try clear hfz10_0
                        try clear hfz10_1
                        try clear hfz10_2
                        try clear hfz10_3
                        try clear hfz10_4
                        try clear hfz10_5
                        try clear hfz10_6
                        try clear hfz10_7
                        try clear hfz16_0
                        try clear hfz16_1
                        try clear hfz16_2
                        try clear hfz16_3
                        try clear hfz16_4
                        try clear hfz16_5
                        try clear hfz16_6
                        try clear hfz16_7
                        try clear hfz17_0
                        try clear hfz17_1
                        try clear hfz17_2
                        try clear hfz17_3
                        try clear hfz17_4
                        try clear hfz17_5
                        try clear hfz17_6
                        try clear hfz17_7
                        try clear hfz18_0
                        try clear hfz18_1
                        try clear hfz18_2
                        try clear hfz18_3
                        try clear hfz18_4
                        try clear hfz18_5
                        try clear hfz18_6
                        try clear hfz18_7
                        try clear hfz25_0
                        try clear hfz25_1
                        try clear hfz25_2
                        try clear hfz25_3
                        try clear hfz25_4
                        try clear hfz25_5
                        try clear hfz25_6
                        try clear hfz25_7
                        try clear hfz30_0
                        try clear hfz30_1
                        try clear hfz30_2
                        try clear hfz30_3
                        try clear hfz30_4
                        try clear hfz30_5
                        try clear hfz30_6
                        try clear hfz30_7
                        try clear hfz31_0
                        try clear hfz31_1
                        try clear hfz31_2
                        try clear hfz31_3
                        try clear hfz31_4
                        try clear hfz31_5
                        try clear hfz31_6
                        try clear hfz31_7
                        try clear hfz40_0
                        try clear hfz40_1
                        try clear hfz40_2
                        try clear hfz40_3
                        try clear hfz40_4
                        try clear hfz40_5
                        try clear hfz40_6
                        try clear hfz40_7
                        try clear hfz43_0
                        try clear hfz43_1
                        try clear hfz43_2
                        try clear hfz43_3
                        try clear hfz43_4
                        try clear hfz43_5
                        try clear hfz43_6
                        try clear hfz43_7
                        try clear hfz44_0
                        try clear hfz44_1
                        try clear hfz44_2
                        try clear hfz44_3
                        try clear hfz44_4
                        try clear hfz44_5
                        try clear hfz44_6
                        try clear hfz44_7
                        try clear hx24_0
                        try clear hx37_0
                        try clear p2
                        try clear p24
                        try clear p3
                        try clear p37
                        try clear p6
                        try clear q2
                        try clear q24
                        try clear q3
                        try clear q37
                        obtain ⟨kq, x71_40, rfl, HA, HJ40, HO_5, BK141, HB⟩ := hcut
                        cases kq with
                        | zero => exact absurd HA.out (by simp [riffleref12_All.j5])
                        | succ kj40 =>
                          have H := HA.out
                          clear HA
                          simp only [riffleref12_All.j5] at H
                          have HC45 := Aside0.mk H
                          clear H
                          go_upto_if 71 with (fail)
                          go_cut [] (fun wc => ∃ (kq : Nat) (x5_44 : List Bool), Aside0 (riffleref12_All.j7 kq x5_44 = some r) ∧ Aside0 (kq ≤ kj40) ∧ Aside0 (Kd.R Kd.bool 4 wc w.heap.size (fun _ => True) v143 x5_44) ∧ Aside0 (wc.heap[gb141]? = some (.cells #[.int .i64 a0_0, .string a0_1, .int .i64 a0_2, .int .i64 a0_3, .int .i64 a0_4, .bool a0_5, .bool a0_6, .int .i64 a0_7] 53 (0, 0))) ∧ Aside0 (Below w.heap.size w wc))
                          case first =>
                            have H := HC45.out
                            clear HC45
                            by_cases c46 : x71_40 = true
                            · subst c46
                              have H1 : (riffleref12_All.l1 kj40 x5_31 t145 t146 a0_0 a0_1 a0_2 a0_3 a0_4 a0_5 a0_6 a0_7) = some r := by rw [if_pos rfl] at H; exact H
                              clear H
                              have H := H1
                              clear H1
                              have H' := Aside0.mk H
                              clear H
                              go_wp2
                              go_loopg [9] kj40 (fun kq v9 w' => ∃ (x5_6 : List Bool) (x9_6 : Int), v9 = .int .i64 x9_6 ∧ Aside0 (riffleref12_All.l1 kq x5_6 t145 x9_6 a0_0 a0_1 a0_2 a0_3 a0_4 a0_5 a0_6 a0_7 = some r) ∧ Aside0 (kq ≤ kj40) ∧ Aside0 (Kd.R Kd.bool 4 w' w.heap.size (fun _ => True) v143 x5_6) ∧ Aside0 (w'.heap[gb141]? = some (.cells #[.int .i64 a0_0, .string a0_1, .int .i64 a0_2, .int .i64 a0_3, .int .i64 a0_4, .bool a0_5, .bool a0_6, .int .i64 a0_7] 53 (0, 0))) ∧ Aside0 (Below w.heap.size w w'))
                              case atStart => exact ⟨(x5_31), (t146), (by first | rfl | (simp; done) | (simp [*]; done)), H', ⟨Nat.le_refl _⟩, ⟨by (with_reducible repeat (first | apply Kd.R_alloc | apply Kd.R_drewN | apply Kd.R_drew)); exact HO_5.out⟩, ⟨by (with_reducible repeat (first | refine blk_drewN ?_ _ | refine blk_drew ?_ | refine blk_alloc ?_ _)); exact BK141.out⟩, ⟨by repeat (first | (with_reducible first | exact HB.out | apply below_alloc | apply pw_below_drewN | apply below_drew1 | refine below_set ?_ GE141.out) | exact HB.out)⟩⟩
                              case round =>
                                clear H'
                                try clear c1
                                try clear c2
                                try clear p2
                                try clear q2
                                try clear hx2
                                try clear hf2
                                try clear c3
                                try clear c3b0
                                try clear c3b1
                                try clear p3
                                try clear q3
                                try clear hx3
                                try clear hf3
                                try clear c4
                                try clear c4b0
                                try clear c4b1
                                try clear c5
                                try clear p6
                                try clear c12
                                try clear c12b0
                                try clear c12b1
                                try clear c14
                                try clear c14b0
                                try clear c20
                                try clear c22
                                try clear c22b0
                                try clear c23
                                try clear c23b0
                                try clear p24
                                try clear q24
                                try clear hx24
                                try clear hf24
                                try clear c29
                                try clear c29b0
                                try clear c29b1
                                try clear c33
                                try clear c34
                                try clear c34b0
                                try clear c35
                                try clear c35b0
                                try clear c36
                                try clear c36b0
                                try clear p37
                                try clear q37
                                try clear hx37
                                try clear hf37
                                try clear c42
                                try clear c42b0
                                try clear c42b1
                                try clear c46
                                try clear hcz10_0
                                try clear hcz10_1
                                try clear hcz10_2
                                try clear hcz10_3
                                try clear hcz10_4
                                try clear hcz10_5
                                try clear hcz10_6
                                try clear hcz10_7
                                try clear hcz16_0
                                try clear hcz16_1
                                try clear hcz16_2
                                try clear hcz16_3
                                try clear hcz16_4
                                try clear hcz16_5
                                try clear hcz16_6
                                try clear hcz16_7
                                try clear hcz17_0
                                try clear hcz17_1
                                try clear hcz17_2
                                try clear hcz17_3
                                try clear hcz17_4
                                try clear hcz17_5
                                try clear hcz17_6
                                try clear hcz17_7
                                try clear hcz18_0
                                try clear hcz18_1
                                try clear hcz18_2
                                try clear hcz18_3
                                try clear hcz18_4
                                try clear hcz18_5
                                try clear hcz18_6
                                try clear hcz18_7
                                try clear hcz25_0
                                try clear hcz25_1
                                try clear hcz25_2
                                try clear hcz25_3
                                try clear hcz25_4
                                try clear hcz25_5
                                try clear hcz25_6
                                try clear hcz25_7
                                try clear hcz30_0
                                try clear hcz30_1
                                try clear hcz30_2
                                try clear hcz30_3
                                try clear hcz30_4
                                try clear hcz30_5
                                try clear hcz30_6
                                try clear hcz30_7
                                try clear hcz31_0
                                try clear hcz31_1
                                try clear hcz31_2
                                try clear hcz31_3
                                try clear hcz31_4
                                try clear hcz31_5
                                try clear hcz31_6
                                try clear hcz31_7
                                try clear hcz40_0
                                try clear hcz40_1
                                try clear hcz40_2
                                try clear hcz40_3
                                try clear hcz40_4
                                try clear hcz40_5
                                try clear hcz40_6
                                try clear hcz40_7
                                try clear hcz43_0
                                try clear hcz43_1
                                try clear hcz43_2
                                try clear hcz43_3
                                try clear hcz43_4
                                try clear hcz43_5
                                try clear hcz43_6
                                try clear hcz43_7
                                try clear hcz44_0
                                try clear hcz44_1
                                try clear hcz44_2
                                try clear hcz44_3
                                try clear hcz44_4
                                try clear hcz44_5
                                try clear hcz44_6
                                try clear hcz44_7
                                try clear hfz10_0
                                try clear hfz10_1
                                try clear hfz10_2
                                try clear hfz10_3
                                try clear hfz10_4
                                try clear hfz10_5
                                try clear hfz10_6
                                try clear hfz10_7
                                try clear hfz16_0
                                try clear hfz16_1
                                try clear hfz16_2
                                try clear hfz16_3
                                try clear hfz16_4
                                try clear hfz16_5
                                try clear hfz16_6
                                try clear hfz16_7
                                try clear hfz17_0
                                try clear hfz17_1
                                try clear hfz17_2
                                try clear hfz17_3
                                try clear hfz17_4
                                try clear hfz17_5
                                try clear hfz17_6
                                try clear hfz17_7
                                try clear hfz18_0
                                try clear hfz18_1
                                try clear hfz18_2
                                try clear hfz18_3
                                try clear hfz18_4
                                try clear hfz18_5
                                try clear hfz18_6
                                try clear hfz18_7
                                try clear hfz25_0
                                try clear hfz25_1
                                try clear hfz25_2
                                try clear hfz25_3
                                try clear hfz25_4
                                try clear hfz25_5
                                try clear hfz25_6
                                try clear hfz25_7
                                try clear hfz30_0
                                try clear hfz30_1
                                try clear hfz30_2
                                try clear hfz30_3
                                try clear hfz30_4
                                try clear hfz30_5
                                try clear hfz30_6
                                try clear hfz30_7
                                try clear hfz31_0
                                try clear hfz31_1
                                try clear hfz31_2
                                try clear hfz31_3
                                try clear hfz31_4
                                try clear hfz31_5
                                try clear hfz31_6
                                try clear hfz31_7
                                try clear hfz40_0
                                try clear hfz40_1
                                try clear hfz40_2
                                try clear hfz40_3
                                try clear hfz40_4
                                try clear hfz40_5
                                try clear hfz40_6
                                try clear hfz40_7
                                try clear hfz43_0
                                try clear hfz43_1
                                try clear hfz43_2
                                try clear hfz43_3
                                try clear hfz43_4
                                try clear hfz43_5
                                try clear hfz43_6
                                try clear hfz43_7
                                try clear hfz44_0
                                try clear hfz44_1
                                try clear hfz44_2
                                try clear hfz44_3
                                try clear hfz44_4
                                try clear hfz44_5
                                try clear hfz44_6
                                try clear hfz44_7
                                try clear hx24_0
                                try clear hx37_0
                                try clear p2
                                try clear p24
                                try clear p3
                                try clear p37
                                try clear p6
                                try clear q2
                                try clear q24
                                try clear q3
                                try clear q37
                                obtain ⟨x5_6, x9_6, rfl, HA, HK6, HO_5, BK141, HB⟩ := hrel
                                cases gk with
                                | zero => exact absurd HA.out (by simp [riffleref12_All.l1])
                                | succ k6 =>
                                  have H := HA.out
                                  clear HA
                                  simp only [riffleref12_All.l1] at H
                                  by_cases c47 : x9_6 > t145
                                  · rw [if_pos c47] at H
                                    have c47b0 : decide (t145 < x9_6) = true := decide_eq_true c47
                                    clear c47
                                    (first | rw [c47b0] | (simp only [i64_w, i32_w]; rw [c47b0]) | skip)
                                    by_cases c48 : 0 ≤ x9_6
                                    · rw [if_pos c48] at H
                                      have c48b0 : decide (0 ≤ x9_6) = true := decide_eq_true c48
                                      clear c48
                                      by_cases c49 : x9_6 < (x5_6.length : Int)
                                      · rw [if_pos c49] at H
                                        have c49b0 : decide (x9_6 < (x5_6.length : Int)) = true := decide_eq_true c49
                                        clear c49
                                        obtain ⟨y152, hy152⟩ : ∃ y_ : List Bool, y_ = (x5_6.set (x9_6 : Int).toNat true) := ⟨_, rfl⟩
                                        replace H : (riffleref12_All.l1 k6 y152 t145 (wrap64 (x9_6 + a0_7)) a0_0 a0_1 a0_2 a0_3 a0_4 a0_5 a0_6 a0_7) = some r := by first | (rw [hy152]; with_reducible exact H) | (have H2_ := (Option.bind_some _ _).symm.trans H; rw [hy152]; with_reducible exact H2_) | (have H2_ := (Option.bind_some _ _).symm.trans H; with_reducible exact H2_) | with_reducible exact H | (rw [hy152]; exact H) | exact H
                                        have Ny152 := Aside0.mk hy152
                                        clear hy152
                                        have H' := Aside0.mk H
                                        clear H
                                        have p50 : 0 ≤ (x9_6 : Int) := of_decide_eq_true (by first | (with_reducible assumption) | assumption)
                                        have q50 : (x9_6 : Int) < ((x5_6.length : Int) : Int) := of_decide_eq_true (by first | (with_reducible assumption) | assumption)
                                        obtain ⟨go50, co50, eo50, gb50, gl50, cl50, HG50⟩ := Kd.R_form HO_5.out (by omega)
                                        (first | cases eo50 | (injection eo50 with ea_ en_ ec_; (first | subst ea_ | (injection ea_ with ea_; subst ea_)); subst ec_; clear en_))
                                        have GB50 := Aside0.mk gb50
                                        have GG50 := Aside0.mk HG50
                                        clear gb50 gl50 HG50
                                        obtain ⟨hx50_0, hf50_0⟩ := Kd.R_celln false HO_5.out (x9_6 : Int) p50 q50
                                        replace p50 := eq_true p50
                                        replace q50 := eq_true q50
                                        have HP51 := Kd.R_putg HO_5.out (x9_6 : Int) true
                                        go_wp2_with (first | ((with_reducible refine gate_store (t := 4) (p := 82) rfl ?_); refine store_event (t := 4) (p := 82) (v := ?vo_w52) (w1 := (wr.setCell ⟨go50, (x9_6 : Int).toNat, none⟩ (.bool true))) ?hg ?ho ?hn ?hr ?_; (case ho => rfl); (case hg => rfl); (case hn => rfl); (case hr => first | (go_simp; done) | (go_simp; rfl)); intro w52 hw; have hg : wr.grownBy w52 (some go50) := (by rw [hw]; exact HP51.2); have hp_ : Kd.R Kd.bool 4 w52 w.heap.size (fun _ => True) (.slice (some ⟨go50, 0, none⟩) x5_6.length co50) y152 := (by rw [hw, Ny152.out]; exact HP51.1); clear HP51; have n0_ := Aside0.mk (hp_); have n1_ := Aside0.mk (blk_grown (g := gb141) (o := .cells #[.int .i64 a0_0, .string a0_1, .int .i64 a0_2, .int .i64 a0_3, .int .i64 a0_4, .bool a0_5, .bool a0_6, .int .i64 a0_7] 53 (0, 0)) (by (with_reducible repeat (first | refine blk_drewN ?_ _ | refine blk_drew ?_ | refine blk_alloc ?_ _)); exact BK141.out) hg (Kd.R_ne HO_5.out BK141.out (by decide))); have n2_ := Aside0.mk ((by rw [hw]; exact below_set (HB.out) GB50.out : Below w.heap.size w w52)); clear HO_5; clear BK141; clear HB; have HO_5 := n0_; have BK141 := n1_; have HB := n2_; clear n0_ n1_ n2_; clear hg hw hp_; have hcz53_0 : w52.cell? ⟨gb141, 0, none⟩ = some (.int .i64 a0_0) := (blk_cell BK141.out 0).trans rfl; have hcz53_1 : w52.cell? ⟨gb141, 1, none⟩ = some (.string a0_1) := (blk_cell BK141.out 1).trans rfl; have hcz53_2 : w52.cell? ⟨gb141, 2, none⟩ = some (.int .i64 a0_2) := (blk_cell BK141.out 2).trans rfl; have hcz53_3 : w52.cell? ⟨gb141, 3, none⟩ = some (.int .i64 a0_3) := (blk_cell BK141.out 3).trans rfl; have hcz53_4 : w52.cell? ⟨gb141, 4, none⟩ = some (.int .i64 a0_4) := (blk_cell BK141.out 4).trans rfl; have hcz53_5 : w52.cell? ⟨gb141, 5, none⟩ = some (.bool a0_5) := (blk_cell BK141.out 5).trans rfl; have hcz53_6 : w52.cell? ⟨gb141, 6, none⟩ = some (.bool a0_6) := (blk_cell BK141.out 6).trans rfl; have hcz53_7 : w52.cell? ⟨gb141, 7, none⟩ = some (.int .i64 a0_7) := (blk_cell BK141.out 7).trans rfl; have hfz53_0 := blk_frozen BK141.out 0; have hfz53_1 := blk_frozen BK141.out 1; have hfz53_2 := blk_frozen BK141.out 2; have hfz53_3 := blk_frozen BK141.out 3; have hfz53_4 := blk_frozen BK141.out 4; have hfz53_5 := blk_frozen BK141.out 5; have hfz53_6 := blk_frozen BK141.out 6; have hfz53_7 := blk_frozen BK141.out 7))
                                        go_roundg k6
                                        case measure => have := HJ5.out; have := HJ18.out; have := HJ27.out; have := HJ31.out; have := HJ40.out; have := HK6.out; omega
                                        case rel => exact ⟨(y152), (wrap64 (x9_6 + a0_7)), (by first | rfl | (simp; done) | (simp [*]; done)), H', ⟨by have := HJ5.out; have := HJ18.out; have := HJ27.out; have := HJ31.out; have := HJ40.out; have := HK6.out; omega⟩, ⟨by (with_reducible repeat (first | apply Kd.R_alloc | apply Kd.R_drewN | apply Kd.R_drew)); exact HO_5.out⟩, ⟨by (with_reducible repeat (first | refine blk_drewN ?_ _ | refine blk_drew ?_ | refine blk_alloc ?_ _)); exact BK141.out⟩, ⟨by repeat (first | (with_reducible first | exact HB.out | apply below_alloc | apply pw_below_drewN | apply below_drew1 | refine below_set ?_ GE141.out) | exact HB.out)⟩⟩
                                      · rw [if_neg c49] at H
                                        exact absurd H (by simp)
                                    · rw [if_neg c48] at H
                                      exact absurd H (by simp)
                                  · rw [if_neg c47] at H
                                    have c47b0 : decide (t145 < x9_6) = false := decide_eq_false c47
                                    clear c47
                                    (first | rw [c47b0] | (simp only [i64_w, i32_w]; rw [c47b0]) | skip)
                                    have H' := Aside0.mk H
                                    clear H
                                    go_wp2
                                    go_meet
                                    case rel => exact ⟨_, (x5_6), H', ⟨by have := HJ5.out; have := HJ18.out; have := HJ27.out; have := HJ31.out; have := HJ40.out; have := HK6.out; first | omega | exact Nat.le_refl _⟩, ⟨by (with_reducible repeat (first | apply Kd.R_alloc | apply Kd.R_drewN | apply Kd.R_drew)); exact HO_5.out⟩, ⟨by (with_reducible repeat (first | refine blk_drewN ?_ _ | refine blk_drew ?_ | refine blk_alloc ?_ _)); exact BK141.out⟩, ⟨by repeat (first | (with_reducible first | exact HB.out | apply below_alloc | apply pw_below_drewN | apply below_drew1 | refine below_set ?_ GE141.out) | exact HB.out)⟩⟩
                            · replace c46 := Bool.eq_false_iff.mpr c46
                              subst c46
                              have H1 : (riffleref12_All.j7 kj40 x5_31) = some r := by rw [if_neg (show ¬ (false = true) by decide)] at H; exact H
                              clear H
                              have H := H1
                              clear H1
                              have H' := Aside0.mk H
                              clear H
                              go_wp2
                              go_meet
                              case rel => exact ⟨_, (x5_31), H', ⟨by have := HJ5.out; have := HJ18.out; have := HJ27.out; have := HJ31.out; have := HJ40.out; first | omega | exact Nat.le_refl _⟩, ⟨by (with_reducible repeat (first | apply Kd.R_alloc | apply Kd.R_drewN | apply Kd.R_drew)); exact HO_5.out⟩, ⟨by (with_reducible repeat (first | refine blk_drewN ?_ _ | refine blk_drew ?_ | refine blk_alloc ?_ _)); exact BK141.out⟩, ⟨by repeat (first | (with_reducible first | exact HB.out | apply below_alloc | apply pw_below_drewN | apply below_drew1 | refine below_set ?_ GE141.out) | exact HB.out)⟩⟩
                          case rest =>
                            clear HC45
                            try clear c1
                            try clear c2
                            try clear p2
                            try clear q2
                            try clear hx2
                            try clear hf2
                            try clear c3
                            try clear c3b0
                            try clear c3b1
                            try clear p3
                            try clear q3
                            try clear hx3
                            try clear hf3
                            try clear c4
                            try clear c4b0
                            try clear c4b1
                            try clear c5
                            try clear p5
                            try clear q5
                            try clear hx5
                            try clear hf5
                            try clear p6
                            try clear c12
                            try clear c12b0
                            try clear c12b1
                            try clear c14
                            try clear c14b0
                            try clear c20
                            try clear c22
                            try clear c22b0
                            try clear c23
                            try clear c23b0
                            try clear p24
                            try clear q24
                            try clear hx24
                            try clear hf24
                            try clear c29
                            try clear c29b0
                            try clear c29b1
                            try clear c33
                            try clear c34
                            try clear c34b0
                            try clear c35
                            try clear c35b0
                            try clear c36
                            try clear c36b0
                            try clear p37
                            try clear q37
                            try clear hx37
                            try clear hf37
                            try clear c42
                            try clear c42b0
                            try clear c42b1
                            try clear c46
                            try clear c47
                            try clear c47b0
                            try clear c48
                            try clear c48b0
                            try clear c49
                            try clear c49b0
                            try clear p50
                            try clear q50
                            try clear hx50
                            try clear hf50
                            try clear hcz10_0
                            try clear hcz10_1
                            try clear hcz10_2
                            try clear hcz10_3
                            try clear hcz10_4
                            try clear hcz10_5
                            try clear hcz10_6
                            try clear hcz10_7
                            try clear hcz16_0
                            try clear hcz16_1
                            try clear hcz16_2
                            try clear hcz16_3
                            try clear hcz16_4
                            try clear hcz16_5
                            try clear hcz16_6
                            try clear hcz16_7
                            try clear hcz17_0
                            try clear hcz17_1
                            try clear hcz17_2
                            try clear hcz17_3
                            try clear hcz17_4
                            try clear hcz17_5
                            try clear hcz17_6
                            try clear hcz17_7
                            try clear hcz18_0
                            try clear hcz18_1
                            try clear hcz18_2
                            try clear hcz18_3
                            try clear hcz18_4
                            try clear hcz18_5
                            try clear hcz18_6
                            try clear hcz18_7
                            try clear hcz25_0
                            try clear hcz25_1
                            try clear hcz25_2
                            try clear hcz25_3
                            try clear hcz25_4
                            try clear hcz25_5
                            try clear hcz25_6
                            try clear hcz25_7
                            try clear hcz30_0
                            try clear hcz30_1
                            try clear hcz30_2
                            try clear hcz30_3
                            try clear hcz30_4
                            try clear hcz30_5
                            try clear hcz30_6
                            try clear hcz30_7
                            try clear hcz31_0
                            try clear hcz31_1
                            try clear hcz31_2
                            try clear hcz31_3
                            try clear hcz31_4
                            try clear hcz31_5
                            try clear hcz31_6
                            try clear hcz31_7
                            try clear hcz40_0
                            try clear hcz40_1
                            try clear hcz40_2
                            try clear hcz40_3
                            try clear hcz40_4
                            try clear hcz40_5
                            try clear hcz40_6
                            try clear hcz40_7
                            try clear hcz43_0
                            try clear hcz43_1
                            try clear hcz43_2
                            try clear hcz43_3
                            try clear hcz43_4
                            try clear hcz43_5
                            try clear hcz43_6
                            try clear hcz43_7
                            try clear hcz44_0
                            try clear hcz44_1
                            try clear hcz44_2
                            try clear hcz44_3
                            try clear hcz44_4
                            try clear hcz44_5
                            try clear hcz44_6
                            try clear hcz44_7
                            try clear hcz53_0
                            try clear hcz53_1
                            try clear hcz53_2
                            try clear hcz53_3
                            try clear hcz53_4
                            try clear hcz53_5
                            try clear hcz53_6
                            try clear hcz53_7
                            try clear hfz10_0
                            try clear hfz10_1
                            try clear hfz10_2
                            try clear hfz10_3
                            try clear hfz10_4
                            try clear hfz10_5
                            try clear hfz10_6
                            try clear hfz10_7
                            try clear hfz16_0
                            try clear hfz16_1
                            try clear hfz16_2
                            try clear hfz16_3
                            try clear hfz16_4
                            try clear hfz16_5
                            try clear hfz16_6
                            try clear hfz16_7
                            try clear hfz17_0
                            try clear hfz17_1
                            try clear hfz17_2
                            try clear hfz17_3
                            try clear hfz17_4
                            try clear hfz17_5
                            try clear hfz17_6
                            try clear hfz17_7
                            try clear hfz18_0
                            try clear hfz18_1
                            try clear hfz18_2
                            try clear hfz18_3
                            try clear hfz18_4
                            try clear hfz18_5
                            try clear hfz18_6
                            try clear hfz18_7
                            try clear hfz25_0
                            try clear hfz25_1
                            try clear hfz25_2
                            try clear hfz25_3
                            try clear hfz25_4
                            try clear hfz25_5
                            try clear hfz25_6
                            try clear hfz25_7
                            try clear hfz30_0
                            try clear hfz30_1
                            try clear hfz30_2
                            try clear hfz30_3
                            try clear hfz30_4
                            try clear hfz30_5
                            try clear hfz30_6
                            try clear hfz30_7
                            try clear hfz31_0
                            try clear hfz31_1
                            try clear hfz31_2
                            try clear hfz31_3
                            try clear hfz31_4
                            try clear hfz31_5
                            try clear hfz31_6
                            try clear hfz31_7
                            try clear hfz40_0
                            try clear hfz40_1
                            try clear hfz40_2
                            try clear hfz40_3
                            try clear hfz40_4
                            try clear hfz40_5
                            try clear hfz40_6
                            try clear hfz40_7
                            try clear hfz43_0
                            try clear hfz43_1
                            try clear hfz43_2
                            try clear hfz43_3
                            try clear hfz43_4
                            try clear hfz43_5
                            try clear hfz43_6
                            try clear hfz43_7
                            try clear hfz44_0
                            try clear hfz44_1
                            try clear hfz44_2
                            try clear hfz44_3
                            try clear hfz44_4
                            try clear hfz44_5
                            try clear hfz44_6
                            try clear hfz44_7
                            try clear hfz53_0
                            try clear hfz53_1
                            try clear hfz53_2
                            try clear hfz53_3
                            try clear hfz53_4
                            try clear hfz53_5
                            try clear hfz53_6
                            try clear hfz53_7
                            try clear hx24_0
                            try clear hx37_0
                            try clear hx50_0
                            try clear p2
                            try clear p24
                            try clear p3
                            try clear p37
                            try clear p50
                            try clear p6
                            try clear q2
                            try clear q24
                            try clear q3
                            try clear q37
                            try clear q50
                            obtain ⟨kq, x5_44, HA, HJ44, HO_5, BK141, HB⟩ := hcut
                            cases kq with
                            | zero => exact absurd HA.out (by simp [riffleref12_All.j7])
                            | succ kj44 =>
                              have H := HA.out
                              clear HA
                              simp only [riffleref12_All.j7] at H
                              obtain ⟨y153, hy153⟩ : ∃ y_ : List Int, y_ = (([] : List Int)) := ⟨_, rfl⟩
                              replace H : (riffleref12_All.l2 kj44 y153 x5_44 (x5_44.length : Int) 0) = some r := by first | (rw [hy153]; with_reducible exact H) | (have H2_ := (Option.bind_some _ _).symm.trans H; rw [hy153]; with_reducible exact H2_) | (have H2_ := (Option.bind_some _ _).symm.trans H; with_reducible exact H2_) | with_reducible exact H | (rw [hy153]; exact H) | exact H
                              have Ny153 := Aside0.mk hy153
                              clear hy153
                              have H' := Aside0.mk H
                              clear H
                              go_wp2_with (first | ((with_reducible refine gate_dst (N := 83) rfl ?_); refine Kd.R_lit (Kd.int .i64) _ 3 ?hg (N := 83) ?hd (xs := ([] : List Int)) (inner := []) (ok := fun _ => True) (okp := fun _ => True) ?hr ?hp (fun _ hk => hk) trivial (Below.refl _ _) (Nat.le_refl _) (by simp) ?_; (case hd => rfl); (case hg => rfl); (case hr => first | (go_simp; done) | (go_simp; rfl)); (case hp => exact (Reps.none _ _)); intro v154 w54 ho55 hb hg_ hnew_; clear hg_ hnew_; (first | rw [← Ny153.out] at ho55 | (simp only [Int.reduceToNat] at ho55; rw [← Ny153.out] at ho55)); have n0_ := Aside0.mk (Kd.R_below (by (with_reducible repeat (first | apply Kd.R_alloc | apply Kd.R_drewN | apply Kd.R_drew)); exact HO_5.out) hb); have n1_ := Aside0.mk (Kd.R_lower ho55 (below_size (by repeat (first | (with_reducible first | exact HB.out | apply below_alloc | apply pw_below_drewN | apply below_drew1 | refine below_set ?_ GE141.out) | exact HB.out)))); have n2_ := Aside0.mk (blk_below (g := gb141) (o := .cells #[.int .i64 a0_0, .string a0_1, .int .i64 a0_2, .int .i64 a0_3, .int .i64 a0_4, .bool a0_5, .bool a0_6, .int .i64 a0_7] 53 (0, 0)) (by (with_reducible repeat (first | refine blk_drewN ?_ _ | refine blk_drew ?_ | refine blk_alloc ?_ _)); exact BK141.out) hb); have n3_ := Aside0.mk (below_step (by repeat (first | (with_reducible first | exact HB.out | apply below_alloc | apply pw_below_drewN | apply below_drew1 | refine below_set ?_ GE141.out) | exact HB.out)) hb); clear HO_5; clear BK141; clear HB; have HO_5 := n0_; have HO155 := n1_; have BK141 := n2_; have HB := n3_; clear n0_ n1_ n2_ n3_; clear hb ho55; obtain ⟨Ao56, co56, eo56⟩ := Kd.R_slice HO_5.out; subst eo56))
                              go_loopg [10, 86] kj44 (fun kq v10 v86 w' => ∃ (x10_7 : List Int) (x86_7 : Int), v86 = .int .i64 x86_7 ∧ Aside0 (riffleref12_All.l2 kq x10_7 x5_44 (x5_44.length : Int) x86_7 = some r) ∧ Aside0 (kq ≤ kj44) ∧ Aside0 (Kd.R (Kd.int .i64) 3 w' w.heap.size (fun _ => True) v10 x10_7) ∧ Aside0 (Kd.R Kd.bool 4 w' w.heap.size (fun _ => True) (.slice Ao56 x5_44.length co56) x5_44) ∧ Aside0 (w'.heap[gb141]? = some (.cells #[.int .i64 a0_0, .string a0_1, .int .i64 a0_2, .int .i64 a0_3, .int .i64 a0_4, .bool a0_5, .bool a0_6, .int .i64 a0_7] 53 (0, 0))) ∧ Aside0 (Below w.heap.size w w'))
                              case atStart => exact ⟨(y153), (0), (by first | rfl | (simp; done) | (simp [*]; done)), H', ⟨Nat.le_refl _⟩, ⟨by (with_reducible repeat (first | apply Kd.R_alloc | apply Kd.R_drewN | apply Kd.R_drew)); exact HO155.out⟩, ⟨by (with_reducible repeat (first | apply Kd.R_alloc | apply Kd.R_drewN | apply Kd.R_drew)); exact HO_5.out⟩, ⟨by (with_reducible repeat (first | refine blk_drewN ?_ _ | refine blk_drew ?_ | refine blk_alloc ?_ _)); exact BK141.out⟩, ⟨by repeat (first | (with_reducible first | exact HB.out | apply below_alloc | apply pw_below_drewN | apply below_drew1 | refine below_set ?_ GE141.out) | exact HB.out)⟩⟩
                              case round =>
                                clear H'
                                try clear c1
                                try clear c2
                                try clear p2
                                try clear q2
                                try clear hx2
                                try clear hf2
                                try clear c3
                                try clear c3b0
                                try clear c3b1
                                try clear p3
                                try clear q3
                                try clear hx3
                                try clear hf3
                                try clear c4
                                try clear c4b0
                                try clear c4b1
                                try clear c5
                                try clear p5
                                try clear q5
                                try clear hx5
                                try clear hf5
                                try clear p6
                                try clear c12
                                try clear c12b0
                                try clear c12b1
                                try clear c14
                                try clear c14b0
                                try clear c20
                                try clear c22
                                try clear c22b0
                                try clear c23
                                try clear c23b0
                                try clear p24
                                try clear q24
                                try clear hx24
                                try clear hf24
                                try clear c29
                                try clear c29b0
                                try clear c29b1
                                try clear c33
                                try clear c34
                                try clear c34b0
                                try clear c35
                                try clear c35b0
                                try clear c36
                                try clear c36b0
                                try clear p37
                                try clear q37
                                try clear hx37
                                try clear hf37
                                try clear c42
                                try clear c42b0
                                try clear c42b1
                                try clear c46
                                try clear c47
                                try clear c47b0
                                try clear c48
                                try clear c48b0
                                try clear c49
                                try clear c49b0
                                try clear p50
                                try clear q50
                                try clear hx50
                                try clear hf50
                                try clear hcz10_0
                                try clear hcz10_1
                                try clear hcz10_2
                                try clear hcz10_3
                                try clear hcz10_4
                                try clear hcz10_5
                                try clear hcz10_6
                                try clear hcz10_7
                                try clear hcz16_0
                                try clear hcz16_1
                                try clear hcz16_2
                                try clear hcz16_3
                                try clear hcz16_4
                                try clear hcz16_5
                                try clear hcz16_6
                                try clear hcz16_7
                                try clear hcz17_0
                                try clear hcz17_1
                                try clear hcz17_2
                                try clear hcz17_3
                                try clear hcz17_4
                                try clear hcz17_5
                                try clear hcz17_6
                                try clear hcz17_7
                                try clear hcz18_0
                                try clear hcz18_1
                                try clear hcz18_2
                                try clear hcz18_3
                                try clear hcz18_4
                                try clear hcz18_5
                                try clear hcz18_6
                                try clear hcz18_7
                                try clear hcz25_0
                                try clear hcz25_1
                                try clear hcz25_2
                                try clear hcz25_3
                                try clear hcz25_4
                                try clear hcz25_5
                                try clear hcz25_6
                                try clear hcz25_7
                                try clear hcz30_0
                                try clear hcz30_1
                                try clear hcz30_2
                                try clear hcz30_3
                                try clear hcz30_4
                                try clear hcz30_5
                                try clear hcz30_6
                                try clear hcz30_7
                                try clear hcz31_0
                                try clear hcz31_1
                                try clear hcz31_2
                                try clear hcz31_3
                                try clear hcz31_4
                                try clear hcz31_5
                                try clear hcz31_6
                                try clear hcz31_7
                                try clear hcz40_0
                                try clear hcz40_1
                                try clear hcz40_2
                                try clear hcz40_3
                                try clear hcz40_4
                                try clear hcz40_5
                                try clear hcz40_6
                                try clear hcz40_7
                                try clear hcz43_0
                                try clear hcz43_1
                                try clear hcz43_2
                                try clear hcz43_3
                                try clear hcz43_4
                                try clear hcz43_5
                                try clear hcz43_6
                                try clear hcz43_7
                                try clear hcz44_0
                                try clear hcz44_1
                                try clear hcz44_2
                                try clear hcz44_3
                                try clear hcz44_4
                                try clear hcz44_5
                                try clear hcz44_6
                                try clear hcz44_7
                                try clear hcz53_0
                                try clear hcz53_1
                                try clear hcz53_2
                                try clear hcz53_3
                                try clear hcz53_4
                                try clear hcz53_5
                                try clear hcz53_6
                                try clear hcz53_7
                                try clear hfz10_0
                                try clear hfz10_1
                                try clear hfz10_2
                                try clear hfz10_3
                                try clear hfz10_4
                                try clear hfz10_5
                                try clear hfz10_6
                                try clear hfz10_7
                                try clear hfz16_0
                                try clear hfz16_1
                                try clear hfz16_2
                                try clear hfz16_3
                                try clear hfz16_4
                                try clear hfz16_5
                                try clear hfz16_6
                                try clear hfz16_7
                                try clear hfz17_0
                                try clear hfz17_1
                                try clear hfz17_2
                                try clear hfz17_3
                                try clear hfz17_4
                                try clear hfz17_5
                                try clear hfz17_6
                                try clear hfz17_7
                                try clear hfz18_0
                                try clear hfz18_1
                                try clear hfz18_2
                                try clear hfz18_3
                                try clear hfz18_4
                                try clear hfz18_5
                                try clear hfz18_6
                                try clear hfz18_7
                                try clear hfz25_0
                                try clear hfz25_1
                                try clear hfz25_2
                                try clear hfz25_3
                                try clear hfz25_4
                                try clear hfz25_5
                                try clear hfz25_6
                                try clear hfz25_7
                                try clear hfz30_0
                                try clear hfz30_1
                                try clear hfz30_2
                                try clear hfz30_3
                                try clear hfz30_4
                                try clear hfz30_5
                                try clear hfz30_6
                                try clear hfz30_7
                                try clear hfz31_0
                                try clear hfz31_1
                                try clear hfz31_2
                                try clear hfz31_3
                                try clear hfz31_4
                                try clear hfz31_5
                                try clear hfz31_6
                                try clear hfz31_7
                                try clear hfz40_0
                                try clear hfz40_1
                                try clear hfz40_2
                                try clear hfz40_3
                                try clear hfz40_4
                                try clear hfz40_5
                                try clear hfz40_6
                                try clear hfz40_7
                                try clear hfz43_0
                                try clear hfz43_1
                                try clear hfz43_2
                                try clear hfz43_3
                                try clear hfz43_4
                                try clear hfz43_5
                                try clear hfz43_6
                                try clear hfz43_7
                                try clear hfz44_0
                                try clear hfz44_1
                                try clear hfz44_2
                                try clear hfz44_3
                                try clear hfz44_4
                                try clear hfz44_5
                                try clear hfz44_6
                                try clear hfz44_7
                                try clear hfz53_0
                                try clear hfz53_1
                                try clear hfz53_2
                                try clear hfz53_3
                                try clear hfz53_4
                                try clear hfz53_5
                                try clear hfz53_6
                                try clear hfz53_7
                                try clear hx24_0
                                try clear hx37_0
                                try clear hx50_0
                                try clear p2
                                try clear p24
                                try clear p3
                                try clear p37
                                try clear p5
                                try clear p50
                                try clear p6
                                try clear q2
                                try clear q24
                                try clear q3
                                try clear q37
                                try clear q5
                                try clear q50
                                obtain ⟨x10_7, x86_7, rfl, HA, HK7, HO_10, HO_84, BK141, HB⟩ := hrel
                                cases gk with
                                | zero => exact absurd HA.out (by simp [riffleref12_All.l2])
                                | succ k7 =>
                                  have H := HA.out
                                  clear HA
                                  simp only [riffleref12_All.l2] at H
                                  by_cases c57 : x86_7 < (x5_44.length : Int)
                                  · rw [if_pos c57] at H
                                    have c57b0 : decide (x86_7 < (x5_44.length : Int)) = true := decide_eq_true c57
                                    clear c57
                                    by_cases c58 : 0 ≤ x86_7
                                    · rw [if_pos c58] at H
                                      have c58b0 : decide (0 ≤ x86_7) = true := decide_eq_true c58
                                      clear c58
                                      by_cases c59 : x86_7 < (x5_44.length : Int)
                                      · rw [if_pos c59] at H
                                        have c59b0 : decide (x86_7 < (x5_44.length : Int)) = true := decide_eq_true c59
                                        clear c59
                                        obtain ⟨bq60, hbq60⟩ : ∃ b_ : Bool, b_ = (rdOf false x5_44 x86_7) := ⟨_, rfl⟩
                                        replace H : (if bq60 = true then (if x10_7.length < 17592186044416 then (riffleref12_All.l2 k7 (x10_7 ++ [x86_7]) x5_44 (x5_44.length : Int) (wrap64 (x86_7 + 1))) else (none)) else (riffleref12_All.l2 k7 x10_7 x5_44 (x5_44.length : Int) (wrap64 (x86_7 + 1)))) = some r := by rw [← hbq60] at H; exact H
                                        have Nbq60 := Aside0.mk hbq60
                                        clear hbq60
                                        by_cases c61 : bq60 = true
                                        · subst c61
                                          have H1 : (if x10_7.length < 17592186044416 then (riffleref12_All.l2 k7 (x10_7 ++ [x86_7]) x5_44 (x5_44.length : Int) (wrap64 (x86_7 + 1))) else (none)) = some r := by rw [if_pos rfl] at H; exact H
                                          clear H
                                          have H := H1
                                          clear H1
                                          by_cases c62 : x10_7.length < 17592186044416
                                          · rw [if_pos c62] at H
                                            have LMc62 := Aside0.mk c62
                                            clear c62
                                            obtain ⟨y157, hy157⟩ : ∃ y_ : List Int, y_ = (x10_7 ++ [x86_7]) := ⟨_, rfl⟩
                                            replace H : (riffleref12_All.l2 k7 y157 x5_44 (x5_44.length : Int) (wrap64 (x86_7 + 1))) = some r := by first | (rw [hy157]; with_reducible exact H) | (have H2_ := (Option.bind_some _ _).symm.trans H; rw [hy157]; with_reducible exact H2_) | (have H2_ := (Option.bind_some _ _).symm.trans H; with_reducible exact H2_) | with_reducible exact H | (rw [hy157]; exact H) | exact H
                                            have Ny157 := Aside0.mk hy157
                                            clear hy157
                                            have H' := Aside0.mk H
                                            clear H
                                            have p156 : 0 ≤ (x86_7 : Int) := of_decide_eq_true (by first | (with_reducible assumption) | assumption)
                                            have q156 : x86_7 < (x5_44.length : Int) := of_decide_eq_true (by first | (with_reducible assumption) | assumption)
                                            obtain ⟨ad156, e156, hx156_0⟩ := Kd.at_bool (Kd.R_reads' HO_84.out).2.2 x86_7 p156 q156
                                            (try rw [← Nbq60.out] at hx156_0)
                                            cases e156
                                            replace p156 := eq_true p156
                                            replace q156 := eq_true q156
                                            go_wp2_with (first | ((with_reducible refine gate_builtin (b := .append) (xs := #[.tmp 92, .tmp 94]) rfl ?_); at_builtin; refine Kd.R_append (Kd.int .i64) (w0 := w) w.heap.size rfl (.tmp 92) (.tmp 94) 37 3 (.int .i64 0) 8 rfl Try.underlying37 info3 rfl (by decide) (by omega) u10 x10_7 x86_7 [.int .i64 x86_7] (fun _ => True) (fun _ => False) rfl rfl ?aP (fun _ hk => hk.elim) ?aF ?aO ?aB ?aS ?aL ?_; (case aP => exact rfl); (case aB => exact (by repeat (first | (with_reducible first | exact HB.out | apply below_alloc | apply pw_below_drewN | apply below_drew1 | refine below_set ?_ GE141.out) | exact HB.out))); (case aF => exact (fun _ _ => trivial)); (case aO => exact (by (with_reducible repeat (first | apply Kd.R_alloc | apply Kd.R_drewN | apply Kd.R_drew)); exact HO_10.out)); (case aS => exact (below_size (by repeat (first | (with_reducible first | exact HB.out | apply below_alloc | apply pw_below_drewN | apply below_drew1 | refine below_set ?_ GE141.out) | exact HB.out)))); (case aL => have := LMc62.out; omega); intro v158 w63 ho hb hg hat; rw [← Ny157.out] at ho; have n0_ := Aside0.mk (Kd.R_over' (by (with_reducible repeat (first | apply Kd.R_alloc | apply Kd.R_drewN | apply Kd.R_drew)); exact HO_84.out) (Kd.R_typed (by (with_reducible repeat (first | apply Kd.R_alloc | apply Kd.R_drewN | apply Kd.R_drew)); exact HO_10.out)) (by decide) hg); have n1_ := Aside0.mk (blk_grown (g := gb141) (o := .cells #[.int .i64 a0_0, .string a0_1, .int .i64 a0_2, .int .i64 a0_3, .int .i64 a0_4, .bool a0_5, .bool a0_6, .int .i64 a0_7] 53 (0, 0)) (by (with_reducible repeat (first | refine blk_drewN ?_ _ | refine blk_drew ?_ | refine blk_alloc ?_ _)); exact BK141.out) hg (Kd.R_ne HO_10.out BK141.out (by decide))); have n2_ := Aside0.mk (hb); have n3_ := Aside0.mk (ho); clear HO_84; clear BK141; clear HB; clear HO_10; have HO_84 := n0_; have BK141 := n1_; have HB := n2_; have HO159 := n3_; clear n0_ n1_ n2_ n3_; clear ho hb hg hat))
                                            go_roundg k7
                                            case measure => have := HJ5.out; have := HJ18.out; have := HJ27.out; have := HJ31.out; have := HJ40.out; have := HJ44.out; have := HK7.out; omega
                                            case rel => exact ⟨(y157), (wrap64 (x86_7 + 1)), (by first | rfl | (simp; done) | (simp [*]; done)), H', ⟨by have := HJ5.out; have := HJ18.out; have := HJ27.out; have := HJ31.out; have := HJ40.out; have := HJ44.out; have := HK7.out; omega⟩, ⟨by (with_reducible repeat (first | apply Kd.R_alloc | apply Kd.R_drewN | apply Kd.R_drew)); exact HO159.out⟩, ⟨by (with_reducible repeat (first | apply Kd.R_alloc | apply Kd.R_drewN | apply Kd.R_drew)); exact HO_84.out⟩, ⟨by (with_reducible repeat (first | refine blk_drewN ?_ _ | refine blk_drew ?_ | refine blk_alloc ?_ _)); exact BK141.out⟩, ⟨by repeat (first | (with_reducible first | exact HB.out | apply below_alloc | apply pw_below_drewN | apply below_drew1 | refine below_set ?_ GE141.out) | exact HB.out)⟩⟩
                                          · rw [if_neg c62] at H
                                            exact absurd H (by simp)
                                        · replace c61 := Bool.eq_false_iff.mpr c61
                                          subst c61
                                          have H1 : (riffleref12_All.l2 k7 x10_7 x5_44 (x5_44.length : Int) (wrap64 (x86_7 + 1))) = some r := by rw [if_neg (show ¬ (false = true) by decide)] at H; exact H
                                          clear H
                                          have H := H1
                                          clear H1
                                          have H' := Aside0.mk H
                                          clear H
                                          have p156 : 0 ≤ (x86_7 : Int) := of_decide_eq_true (by first | (with_reducible assumption) | assumption)
                                          have q156 : x86_7 < (x5_44.length : Int) := of_decide_eq_true (by first | (with_reducible assumption) | assumption)
                                          obtain ⟨ad156, e156, hx156_0⟩ := Kd.at_bool (Kd.R_reads' HO_84.out).2.2 x86_7 p156 q156
                                          (try rw [← Nbq60.out] at hx156_0)
                                          cases e156
                                          replace p156 := eq_true p156
                                          replace q156 := eq_true q156
                                          go_wp2
                                          go_roundg k7
                                          case measure => have := HJ5.out; have := HJ18.out; have := HJ27.out; have := HJ31.out; have := HJ40.out; have := HJ44.out; have := HK7.out; omega
                                          case rel => exact ⟨(x10_7), (wrap64 (x86_7 + 1)), (by first | rfl | (simp; done) | (simp [*]; done)), H', ⟨by have := HJ5.out; have := HJ18.out; have := HJ27.out; have := HJ31.out; have := HJ40.out; have := HJ44.out; have := HK7.out; omega⟩, ⟨by (with_reducible repeat (first | apply Kd.R_alloc | apply Kd.R_drewN | apply Kd.R_drew)); exact HO_10.out⟩, ⟨by (with_reducible repeat (first | apply Kd.R_alloc | apply Kd.R_drewN | apply Kd.R_drew)); exact HO_84.out⟩, ⟨by (with_reducible repeat (first | refine blk_drewN ?_ _ | refine blk_drew ?_ | refine blk_alloc ?_ _)); exact BK141.out⟩, ⟨by repeat (first | (with_reducible first | exact HB.out | apply below_alloc | apply pw_below_drewN | apply below_drew1 | refine below_set ?_ GE141.out) | exact HB.out)⟩⟩
                                      · rw [if_neg c59] at H
                                        exact absurd H (by simp)
                                    · rw [if_neg c58] at H
                                      exact absurd H (by simp)
                                  · rw [if_neg c57] at H
                                    have c57b0 : decide (x86_7 < (x5_44.length : Int)) = false := decide_eq_false c57
                                    clear c57
                                    obtain rfl := Option.some.inj H
                                    go_wp2
                                    go_ret
                                    exact ⟨_, by first | rfl | (simp [errW_none, errW_some] <;> rfl) | (simp [*, errW_none, errW_some] <;> rfl), by (with_reducible repeat (first | apply Kd.R_alloc | apply Kd.R_drewN | apply Kd.R_drew)); exact HO_10.out, by repeat (first | (with_reducible first | exact HB.out | apply below_alloc | apply pw_below_drewN | apply below_drew1 | refine below_set ?_ GE141.out) | exact HB.out)⟩
    · rw [if_neg c4] at H
      exact absurd H (by simp)
  · rw [if_neg c3] at H
    exact absurd H (by simp)

end Go.Proofs.Ytjfoppmpiklfiaa.SlA
