/- The plain law of SliceHangs: what doesn't hang means the same, however many there are; from end to end a slice means all. Conditions: none. -/
import Derived.Test.YtjfoppmpiklfiaaSlH2
import Derived.Test.YtjfoppmpiklfiaaSlH3
namespace Go.Proofs.Ytjfoppmpiklfiaa.PureH
open Go.RowKit Go.Proofs.Ytjfoppmpiklfiaa.SlH Go.Proofs.YtjfoppmpiklfiaaW.PrintWords Go.Proofs.YtjfoppmpiklfiaaW.PrintLast

theorem mn_min (a b : Int) : mn a b = min a b := by unfold mn; split <;> omega
theorem mx_max (a b : Int) : mx a b = max a b := by unfold mx; split <;> omega
def InR (a : Int) : Prop := -9007199254740991 ≤ a ∧ a ≤ 9007199254740991
def InM (m : Int) : Prop := 0 ≤ m ∧ m ≤ 9007199254740992
theorem place1 {a m : Int} (ha : InR a) (hm : InM m) : slice_Place.f a m = some (if a < 0 then m + a else a) := by
  unfold slice_Place.f
  unfold InR at ha; unfold InM at hm
  split
  · rw [show wrap64 (m + a) = m + a by unfold wrap64; omega]
  · rfl
theorem dec64 {m : Int} (hm : InM m) : wrap64 (m - 1) = m - 1 := by unfold InM at hm; unfold wrap64; omega
variable {kd : Int} {n : ByteArray} {ix st en : Int} {hs he : Bool} {sd : Int}
/-- The bounds, plainly. -/
def bnd (st en : Int) (hs he : Bool) (sd m : Int) : Int × Int :=
  let t := if st < 0 then m + st else st
  let u := if en < 0 then m + en else en
  if sd > 0 then (min (max (if hs then t else 0) 0) m, min (max (if he then u else m) 0) m)
  else if sd < 0 then (min (max (if he then u else -1) (-1)) (m - 1), min (max (if hs then t else m - 1) (-1)) (m - 1)) else (0, 0)
theorem bounds_eq {m : Int} (h2 : InR st) (h3 : InR en) (hm : InM m) : slice_Bounds.f kd n ix st en hs he sd m = some (bnd st en hs he sd m) := by
  unfold slice_Bounds.f bnd
  rw [place1 h2 hm, place1 h3 hm]
  simp only [Option.bind_some, dec64 hm]
  by_cases c1 : sd > 0
  · rw [if_pos c1, if_pos c1]; cases hs <;> cases he <;> simp only [mn_min, mx_max, if_true, Bool.false_eq_true, if_false]
  · rw [if_neg c1, if_neg c1]
    by_cases c2 : sd < 0
    · rw [if_pos c2, if_pos c2]; cases hs <;> cases he <;> simp only [mn_min, mx_max, if_true, Bool.false_eq_true, if_false]
    · rw [if_neg c2, if_neg c2]
/-- Does it mean an item that there is, plainly. -/
def has (kd ix st en : Int) (hs he : Bool) (sd i m : Int) : Bool :=
  let b := bnd st en hs he sd m
  if kd = 2 then ((if ix < 0 then m + ix else ix) == i)
  else if kd = 3 then (if sd > 0 then decide (i ≥ b.1) && decide (i < b.2) && ((i - b.1).tmod sd == 0) else if sd < 0 then decide (i > b.1) && decide (i ≤ b.2) && ((b.2 - i).tmod sd == 0) else false)
  else false
theorem bnd_range {m : Int} (_ : InR st) (_ : InR en) (hm : InM m) : -1 ≤ (bnd st en hs he sd m).1 ∧ (bnd st en hs he sd m).1 ≤ m ∧ -1 ≤ (bnd st en hs he sd m).2 ∧ (bnd st en hs he sd m).2 ≤ m := by
  unfold bnd InM at *
  dsimp only
  split
  · dsimp only; omega
  · split
    · dsimp only; omega
    · dsimp only; omega
theorem has_eq {k : Nat} (hk : 1 ≤ k) {m i : Int} (h1 : InR ix) (h2 : InR st) (h3 : InR en) (hm : InM m) (hi : 0 ≤ i) (him : i < m) :
    slice_Has.f k kd n ix st en hs he sd i m = some (has kd ix st en hs he sd i m) := by
  obtain ⟨k, rfl⟩ : ∃ j, k = j + 1 := ⟨k - 1, by omega⟩
  unfold slice_Has.f
  simp only [slice_Has.j0]
  rw [if_neg (by omega), if_neg (by simpa using him)]
  have hr := bnd_range (hs := hs) (he := he) (sd := sd) h2 h3 hm
  rw [bounds_eq h2 h3 hm, place1 h1 hm]
  simp only [Option.bind_some]
  unfold has
  dsimp only
  generalize bnd st en hs he sd m = b at hr ⊢
  obtain ⟨lo, hg⟩ := b
  dsimp only at hr ⊢
  have e1 : wrap64 (i - lo) = i - lo := by unfold InM at hm; unfold wrap64; omega
  have e2 : wrap64 (hg - i) = hg - i := by unfold InM at hm; unfold wrap64; omega
  rw [e1, e2]
  by_cases c2 : kd = 2
  · rw [if_pos c2, if_pos c2]
  rw [if_neg c2, if_neg c2]
  by_cases c3 : kd = 3
  rotate_left
  · rw [if_neg c3, if_neg c3]
  rw [if_pos c3, if_pos c3]
  by_cases c5 : sd > 0
  · rw [if_pos c5, if_pos c5]
    by_cases d1 : i ≥ lo
    · by_cases d2 : i < hg
      · rw [if_pos d1, if_pos d2, if_neg (by omega)]; simp [d1, d2]
      · rw [if_pos d1, if_neg d2]; simp [d2]
    · rw [if_neg d1]; simp [d1]
  · rw [if_neg c5, if_neg c5]
    by_cases c6 : sd < 0
    · rw [if_pos c6, if_pos c6]
      by_cases d1 : i > lo
      · by_cases d2 : i ≤ hg
        · rw [if_pos d1, if_pos d2, if_neg (by omega)]; simp [d1, d2]
        · rw [if_pos d1, if_neg d2]; simp [d2]
      · rw [if_neg d1]; simp [d1]
    · rw [if_neg c6, if_neg c6]
theorem hangs_some : ∃ b, slice_Hangs.f kd n ix st en hs he sd = some b := by
  unfold slice_Hangs.f
  repeat' split
  all_goals exact ⟨_, rfl⟩
/-- What doesn't hang means the same. -/
theorem has_same {m o i : Int} (hh : slice_Hangs.f kd n ix st en hs he sd = some false) (hi : 0 ≤ i) (him : i < m) (ho : 0 ≤ o) :
    has kd ix st en hs he sd i m = has kd ix st en hs he sd i (m + o) := by
  unfold slice_Hangs.f at hh
  unfold has
  dsimp only
  by_cases c2 : kd = 2
  · rw [if_pos c2] at hh
    simp only [Option.some.injEq, decide_eq_false_iff_not] at hh
    rw [if_pos c2, if_pos c2, if_neg hh, if_neg hh]
  rw [if_neg c2] at hh
  rw [if_neg c2, if_neg c2]
  by_cases c3 : kd = 3
  rotate_left
  · rw [if_neg c3, if_neg c3]
  rw [if_pos c3] at hh
  rw [if_pos c3, if_pos c3]
  by_cases c4 : sd < 0
  · rw [if_pos c4] at hh; cases hh
  rw [if_neg c4] at hh
  by_cases c5 : sd > 0
  rotate_left
  · rw [if_neg c5, if_neg c5, if_neg c4, if_neg c4]
  rw [if_pos c5] at hh
  rw [if_pos c5, if_pos c5]
  have hst : hs = true → ¬ st < 0 := by
    intro h1 h2
    rw [h1, if_pos rfl, if_pos h2] at hh
    cases hh
  have hen : he = true → ¬ en < 0 := by
    intro h1 h2
    subst h1
    by_cases h3 : hs = true
    · rw [if_pos h3, if_neg (hst h3)] at hh; simp [h2] at hh
    · rw [if_neg h3] at hh; simp [h2] at hh
  unfold bnd
  dsimp only
  rw [if_pos c5, if_pos c5]
  dsimp only
  have key : ∀ lo1 lo2 : Int, (lo1 = lo2 ∨ (m ≤ lo1 ∧ m ≤ lo2)) → ∀ hi1 hi2 : Int, (hi1 = hi2 ∨ (m ≤ hi1 ∧ m ≤ hi2)) →
      (decide (i ≥ lo1) && decide (i < hi1) && ((i - lo1).tmod sd == 0)) = (decide (i ≥ lo2) && decide (i < hi2) && ((i - lo2).tmod sd == 0)) := by
    intro lo1 lo2 h1 hi1 hi2 h2
    have e2 : decide (i < hi1) = decide (i < hi2) := by
      rcases h2 with h2 | h2
      · rw [h2]
      · rw [decide_eq_true (show i < hi1 by omega), decide_eq_true (show i < hi2 by omega)]
    rw [e2]
    rcases h1 with h1 | h1
    · rw [h1]
    · rw [decide_eq_false (show ¬ i ≥ lo1 by omega), decide_eq_false (show ¬ i ≥ lo2 by omega)]; simp
  apply key
  · cases hs
    · simp only [Bool.false_eq_true, if_false]; omega
    · have := hst rfl
      simp only [if_true, if_neg this]; omega
  · cases he
    · simp only [Bool.false_eq_true, if_false]; omega
    · have := hen rfl
      simp only [if_true, if_neg this]; omega
theorem on_all {m i : Int} (hi : 0 ≤ i) (him : i < m) : has 3 0 0 0 false false 1 i m = true := by
  unfold has bnd
  dsimp only
  simp only [Bool.false_eq_true, if_false, show ¬ ((3 : Int) = 2) by decide, show ((1 : Int) > 0) = True by decide, if_true]
  rw [Int.tmod_one]
  simp only [Bool.and_eq_true, decide_eq_true_eq, beq_self_eq_true, and_true]
  omega
theorem back_all {m i : Int} (hi : 0 ≤ i) (him : i < m) : has 3 0 0 0 false false (-1) i m = true := by
  unfold has bnd
  dsimp only
  simp only [Bool.false_eq_true, if_false, show ¬ ((3 : Int) = 2) by decide, show ¬ ((-1 : Int) > 0) by decide, show ((-1 : Int) < 0) = True by decide, if_true]
  rw [Int.tmod_neg, Int.tmod_one]
  simp only [Bool.and_eq_true, decide_eq_true_eq, beq_self_eq_true, and_true]
  omega
theorem last_is {m i : Int} : has 2 (-1) 0 0 false false 0 i m = decide (i = m - 1) := by
  unfold has
  dsimp only
  rw [if_pos rfl, if_pos (by decide)]
  rw [Bool.eq_iff_iff]
  simp only [beq_iff_eq, decide_eq_true_eq]
  omega
theorem that_is {m i : Int} (hi : 0 ≤ i) : has 2 i 0 0 false false 0 i m = true := by
  unfold has
  dsimp only
  rw [if_pos rfl, if_neg (by omega)]
  simp
theorem right_some (k : Nat) (hk : 6 ≤ k) : ∃ r, riffleref12_Right.f k kd n ix st en hs he sd = some r ∧ (r = true → InR ix ∧ InR st ∧ InR en ∧ InR sd) := by
  obtain ⟨k, rfl⟩ : ∃ j, k = j + 6 := ⟨k - 6, by omega⟩
  unfold riffleref12_Right.f InR
  simp only [Option.bind_some, riffleref12_Right.l0]
  have w0 : wrap64 (0 + 1) = 1 := by unfold wrap64; omega
  have w1 : wrap64 (1 + 1) = 2 := by unfold wrap64; omega
  have w2 : wrap64 (2 + 1) = 3 := by unfold wrap64; omega
  have w3 : wrap64 (3 + 1) = 4 := by unfold wrap64; omega
  simp only [w0, w1, w2, w3, rd]
  have e0 : (([ix, st, en, sd] : List Int).length : Int) = 4 := rfl
  rw [e0]
  rw [if_pos (show (0 : Int) < 4 by decide), if_pos (show (0 : Int) ≤ 0 by decide), if_pos (show (0 : Int) < 4 by decide), if_pos (show (1 : Int) < 4 by decide), if_pos (show (0 : Int) ≤ 1 by decide), if_pos (show (1 : Int) < 4 by decide),
    if_pos (show (2 : Int) < 4 by decide), if_pos (show (0 : Int) ≤ 2 by decide), if_pos (show (2 : Int) < 4 by decide), if_pos (show (3 : Int) < 4 by decide), if_pos (show (0 : Int) ≤ 3 by decide), if_pos (show (3 : Int) < 4 by decide), if_neg (show ¬ (4 : Int) < 4 by decide)]
  have g0 : ([ix, st, en, sd] : List Int).getD (0 : Int).toNat 0 = ix := rfl
  have g1 : ([ix, st, en, sd] : List Int).getD (1 : Int).toNat 0 = st := rfl
  have g2 : ([ix, st, en, sd] : List Int).getD (2 : Int).toNat 0 = en := rfl
  have g3 : ([ix, st, en, sd] : List Int).getD (3 : Int).toNat 0 = sd := rfl
  rw [g0, g1, g2, g3]
  repeat' split
  all_goals first | exact ⟨false, rfl, fun h => by cases h⟩ | exact ⟨true, rfl, fun _ => by refine ⟨⟨?_, ?_⟩, ⟨?_, ?_⟩, ⟨?_, ?_⟩, ⟨?_, ?_⟩⟩ <;> omega⟩
set_option maxRecDepth 100000 in
theorem alive_so : rifflelaw12_sliceAlive.f 40 = some true := by decide +kernel
end Go.Proofs.Ytjfoppmpiklfiaa.PureH
