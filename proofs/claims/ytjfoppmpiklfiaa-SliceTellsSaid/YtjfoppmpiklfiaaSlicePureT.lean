/- This proves, of the law SliceTells alone: for every selector, place and size the printed function of the law answers true. Conditions: none but that the numbers are of 64 bits. -/
import Derived.Test.YtjfoppmpiklfiaaSlT5
namespace Go.Proofs.Ytjfoppmpiklfiaa.PureT
open Go.RowKit Go.Proofs.Ytjfoppmpiklfiaa.SlT Go.Proofs.YtjfoppmpiklfiaaW.PrintWords Go.Proofs.YtjfoppmpiklfiaaW.PrintLast

theorem mn_min (a b : Int) : mn a b = min a b := by unfold mn; split <;> omega
theorem mx_max (a b : Int) : mx a b = max a b := by unfold mx; split <;> omega
def InR (a : Int) : Prop := -9007199254740991 ≤ a ∧ a ≤ 9007199254740991
def InM (m : Int) : Prop := 0 ≤ m ∧ m ≤ 9007199254740992
theorem place1 {a m : Int} (ha : InR a) (hm : InM m) : slice_Place.f a m = some (if a < 0 then m + a else a) := by
  unfold slice_Place.f
  unfold InR at ha; unfold InM at hm
  split
  · rw [show wrap64 (m + a) = m + a by unfold wrap64; omega]
  · rfl
theorem place2 {a m : Int} (ha : InR a) (hm : InM m) : riffleref12_Place.f a m = some (if a < 0 then m + a else a) := by
  unfold riffleref12_Place.f
  unfold InR at ha; unfold InM at hm
  by_cases h : a < 0
  · rw [if_neg (by omega), if_pos h, show wrap64 (m + a) = m + a by unfold wrap64; omega]
  · rw [if_pos (by omega), if_neg h]
theorem clip_eq {n l m : Int} (h : l ≤ m) : riffleref12_clip.f n l m = some (mn (mx n l) m) := by
  unfold riffleref12_clip.f
  by_cases h1 : n > m
  · rw [if_pos h1, if_neg (by omega)]; rw [mn_min, mx_max]; congr 1; omega
  · rw [if_neg h1]
    by_cases h2 : n < l
    · rw [if_pos h2]; rw [mn_min, mx_max]; congr 1; omega
    · rw [if_neg h2]; rw [mn_min, mx_max]; congr 1; omega
theorem dec64 {m : Int} (hm : InM m) : wrap64 (m - 1) = m - 1 := by unfold InM at hm; unfold wrap64; omega

variable {kd : Int} {n : ByteArray} {ix st en : Int} {hs he : Bool} {sd : Int}
theorem bounds_eq (k : Nat) (hk : 1 ≤ k) {m : Int} (h2 : InR st) (h3 : InR en) (hm : InM m) :
    riffleref12_Bounds.f k kd n ix st en hs he sd m = slice_Bounds.f kd n ix st en hs he sd m := by
  obtain ⟨k, rfl⟩ : ∃ j, k = j + 1 := ⟨k - 1, by omega⟩
  unfold riffleref12_Bounds.f slice_Bounds.f
  have hm2 := hm
  unfold InM at hm2
  rw [place1 h2 hm, place1 h3 hm, place2 h2 hm, place2 h3 hm]
  simp only [Option.bind_some, riffleref12_Bounds.j0, riffleref12_Bounds.j1]
  simp only [dec64 hm]
  have hA : ∀ x : Int, riffleref12_clip.f x 0 m = some (mn (mx x 0) m) := fun x => clip_eq hm2.1
  have hB : ∀ x : Int, riffleref12_clip.f x (-1) (m - 1) = some (mn (mx x (-1)) (m - 1)) := fun x => clip_eq (by omega)
  simp only [hA, hB, Option.bind_some]
  by_cases c0 : sd = 0
  · rw [if_pos c0, if_neg (by omega), if_neg (by omega)]
  · rw [if_neg c0]
    by_cases c1 : sd > 0
    · rw [if_pos c1, if_pos c1]
    · have c2 : sd < 0 := by omega
      rw [if_neg c1, if_neg c1, if_pos c2]
theorem bounds_some {m : Int} (h2 : InR st) (h3 : InR en) (hm : InM m) :
    ∃ lo hi, slice_Bounds.f kd n ix st en hs he sd m = some (lo, hi) ∧ -1 ≤ lo ∧ lo ≤ m ∧ -1 ≤ hi ∧ hi ≤ m := by
  unfold slice_Bounds.f
  have hm2 := hm
  unfold InM at hm2
  rw [place1 h2 hm, place1 h3 hm]
  simp only [Option.bind_some, dec64 hm]
  by_cases c1 : sd > 0
  · rw [if_pos c1]; cases hs <;> cases he <;> simp only [mn_min, mx_max, if_true, Bool.false_eq_true, if_false] <;> refine ⟨_, _, rfl, ?_, ?_, ?_, ?_⟩ <;> omega
  · rw [if_neg c1]
    by_cases c2 : sd < 0
    · rw [if_pos c2]; cases hs <;> cases he <;> simp only [mn_min, mx_max, if_true, Bool.false_eq_true, if_false] <;> refine ⟨_, _, rfl, ?_, ?_, ?_, ?_⟩ <;> omega
    · rw [if_neg c2]; exact ⟨0, 0, rfl, by omega, by omega, by omega, by omega⟩
theorem has_eq (k k' : Nat) (hk : 1 ≤ k) (hk' : 3 ≤ k') {m i : Int} (h1 : InR ix) (h2 : InR st) (h3 : InR en) (h4 : InR sd) (hm : InM m) :
    ∃ b, slice_Has.f k kd n ix st en hs he sd i m = some b ∧ riffleref12_Has.f k' kd n ix st en hs he sd i m = some b := by
  obtain ⟨k, rfl⟩ : ∃ j, k = j + 1 := ⟨k - 1, by omega⟩
  obtain ⟨k', rfl⟩ : ∃ j, k' = j + 3 := ⟨k' - 3, by omega⟩
  unfold riffleref12_Has.f slice_Has.f
  simp only [riffleref12_Has.j0, slice_Has.j0, riffleref12_Has.j1]
  by_cases c0 : i < 0
  · exact ⟨false, by rw [if_pos c0]; rfl, by rw [if_pos c0]; rfl⟩
  rw [if_neg c0, if_neg c0]
  by_cases c1 : i ≥ m
  · exact ⟨false, by rw [if_pos (by simpa using c1)], by rw [if_pos (by simpa using c1)]⟩
  rw [if_neg (by simpa using c1), if_neg (by simpa using c1)]
  obtain ⟨lo, hi, hb, b1, b2, b3, b4⟩ := bounds_some (kd := kd) (n := n) (ix := ix) (hs := hs) (he := he) (sd := sd) h2 h3 hm
  rw [bounds_eq (k' + 1) (by omega) h2 h3 hm, hb, place1 h1 hm, place2 h1 hm]
  simp only [Option.bind_some]
  have e1 : wrap64 (i - lo) = i - lo := by unfold InM at hm; unfold wrap64; omega
  have e2 : wrap64 (hi - i) = hi - i := by unfold InM at hm; unfold wrap64; omega
  have e3 : wrap64 (-sd) = -sd := by unfold InR at h4; unfold wrap64; omega
  rw [e1, e2, e3]
  by_cases c2 : kd = 2
  · rw [if_pos c2, if_pos c2]; exact ⟨_, rfl, rfl⟩
  rw [if_neg c2, if_neg c2]
  by_cases c3 : kd = 3
  rotate_left
  · rw [if_neg c3, if_neg c3]; exact ⟨false, rfl, rfl⟩
  rw [if_pos c3, if_pos c3]
  by_cases c4 : sd = 0
  · rw [if_neg (by omega), if_neg (by omega), if_pos (by simpa using c4)]; exact ⟨false, rfl, rfl⟩
  have c4' : (sd == 0) = false := by simpa using c4
  rw [c4']; simp only [Bool.false_eq_true, if_false]
  by_cases c5 : sd > 0
  · by_cases d1 : i ≥ lo
    · by_cases d2 : i < hi
      · exact ⟨(i - lo).tmod sd == 0, by simp [c4, c5, d1, d2], by simp [c4, c5, d1, d2]⟩
      · exact ⟨false, by simp [c5, d1, d2], by simp [c5, d1, d2]⟩
    · exact ⟨false, by simp [c5, d1], by simp [c5, d1]⟩
  · have c6 : sd < 0 := by omega
    have c7 : ¬ -sd = 0 := by omega
    by_cases d1 : i > lo
    · by_cases d2 : i ≤ hi
      · exact ⟨(hi - i).tmod sd == 0, by simp [c4, c5, c6, d1, d2], by rw [if_neg c5, if_pos d1, if_pos d2, if_neg c7, Int.tmod_neg]⟩
      · exact ⟨false, by simp [c5, c6, d1, d2], by simp [c5, d1, d2]⟩
    · exact ⟨false, by simp [c5, c6, d1], by simp [c5, d1]⟩
theorem hangs_eq : ∃ b, slice_Hangs.f kd n ix st en hs he sd = some b ∧ riffleref12_Hangs.f kd n ix st en hs he sd = some b := by
  unfold slice_Hangs.f riffleref12_Hangs.f
  by_cases c2 : kd = 2
  · rw [if_pos c2, if_pos c2]; exact ⟨_, rfl, rfl⟩
  rw [if_neg c2, if_neg c2]
  by_cases c3 : kd = 3
  rotate_left
  · rw [if_neg c3, if_neg c3]; exact ⟨false, rfl, rfl⟩
  rw [if_pos c3, if_pos c3]
  by_cases c4 : sd = 0
  · rw [if_pos c4, if_neg (by omega), if_neg (by omega)]; exact ⟨false, rfl, rfl⟩
  rw [if_neg c4]
  by_cases c5 : sd < 0
  · rw [if_pos c5, if_pos c5]; exact ⟨true, rfl, rfl⟩
  · rw [if_neg c5, if_neg c5, if_pos (by omega)]
    by_cases d1 : st < 0 <;> cases hs <;> cases he <;> simp [d1]
def RightAll (ix st en sd : Int) : Prop := InR ix ∧ InR st ∧ InR en ∧ InR sd
theorem right_eq (k : Nat) (hk : 6 ≤ k) : (RightAll ix st en sd ∧ riffleref12_Right.f k kd n ix st en hs he sd = some true) ∨ riffleref12_Right.f k kd n ix st en hs he sd = some false := by
  obtain ⟨k, rfl⟩ : ∃ j, k = j + 6 := ⟨k - 6, by omega⟩
  unfold riffleref12_Right.f RightAll InR
  simp only [Option.bind_some, riffleref12_Right.l0]
  have w0 : wrap64 (0 + 1) = 1 := by unfold wrap64; omega
  have w1 : wrap64 (1 + 1) = 2 := by unfold wrap64; omega
  have w2 : wrap64 (2 + 1) = 3 := by unfold wrap64; omega
  have w3 : wrap64 (3 + 1) = 4 := by unfold wrap64; omega
  simp only [w0, w1, w2, w3, rd]
  have e0 : (([ix, st, en, sd] : List Int).length : Int) = 4 := rfl
  rw [e0]
  rw [if_pos (show (0 : Int) < 4 by decide), if_pos (show (0 : Int) ≤ 0 by decide), if_pos (show (0 : Int) < 4 by decide), if_pos (show (1 : Int) < 4 by decide), if_pos (show (0 : Int) ≤ 1 by decide), if_pos (show (1 : Int) < 4 by decide),
    if_pos (show (2 : Int) < 4 by decide), if_pos (show (0 : Int) ≤ 2 by decide), if_pos (show (2 : Int) < 4 by decide), if_pos (show (3 : Int) < 4 by decide), if_pos (show (0 : Int) ≤ 3 by decide), if_pos (show (3 : Int) < 4 by decide), if_neg (show ¬ (4 : Int) < 4 by decide)]
  have g0 : ([ix, st, en, sd] : List Int).getD (0 : Int).toNat 0 = ix := rfl
  have g1 : ([ix, st, en, sd] : List Int).getD (1 : Int).toNat 0 = st := rfl
  have g2 : ([ix, st, en, sd] : List Int).getD (2 : Int).toNat 0 = en := rfl
  have g3 : ([ix, st, en, sd] : List Int).getD (3 : Int).toNat 0 = sd := rfl
  rw [g0, g1, g2, g3]
  by_cases a1 : ix < -9007199254740991
  · right; rw [if_pos a1]
  by_cases a2 : ix > 9007199254740991
  · right; rw [if_neg a1, if_pos a2]
  rw [if_neg a1, if_neg a2]
  by_cases b1 : st < -9007199254740991
  · right; rw [if_pos b1]
  by_cases b2 : st > 9007199254740991
  · right; rw [if_neg b1, if_pos b2]
  rw [if_neg b1, if_neg b2]
  by_cases c1 : en < -9007199254740991
  · right; rw [if_pos c1]
  by_cases c2 : en > 9007199254740991
  · right; rw [if_neg c1, if_pos c2]
  rw [if_neg c1, if_neg c2]
  by_cases d1 : sd < -9007199254740991
  · right; rw [if_pos d1]
  by_cases d2 : sd > 9007199254740991
  · right; rw [if_neg d1, if_pos d2]
  rw [if_neg d1, if_neg d2]
  exact .inl ⟨⟨⟨by omega, by omega⟩, ⟨by omega, by omega⟩, ⟨by omega, by omega⟩, ⟨by omega, by omega⟩⟩, rfl⟩

set_option maxRecDepth 100000 in
theorem alive_so : rifflelaw12_sliceAlive.f 40 = some true := by decide +kernel

theorem tells (i m : Int) : rifflelaw12_SliceTells.f 40 kd n ix st en hs he sd i m = some true := by
  unfold rifflelaw12_SliceTells.f
  rw [alive_so]; simp only [Option.bind_some, if_true]
  rcases right_eq (kd := kd) (n := n) (ix := ix) (st := st) (en := en) (hs := hs) (he := he) (sd := sd) 40 (by omega) with ⟨⟨h1, h2, h3, h4⟩, hr⟩ | hr
  rotate_left
  · rw [hr]; simp [rifflelaw12_SliceTells.j0]
  rw [hr]; simp only [Option.bind_some, if_true]
  by_cases c0 : m < 0
  · rw [if_pos c0]; simp [rifflelaw12_SliceTells.j0]
  rw [if_neg c0]
  by_cases c1 : m > 9007199254740992
  · simp [rifflelaw12_SliceTells.j0, c1]
  have hm : InM m := ⟨by omega, by omega⟩
  simp only [rifflelaw12_SliceTells.j0]
  rw [if_neg (by simpa using c1)]
  obtain ⟨lo, hi, hb, _⟩ := bounds_some (kd := kd) (n := n) (ix := ix) (hs := hs) (he := he) (sd := sd) h2 h3 hm
  rw [bounds_eq 39 (by omega) h2 h3 hm, hb]
  simp only [Option.bind_some, if_true]
  obtain ⟨b, e1, e2⟩ := has_eq (kd := kd) (n := n) (hs := hs) (he := he) (i := i) 39 39 (by omega) (by omega) h1 h2 h3 h4 hm
  rw [e1, e2]
  obtain ⟨c, e3, e4⟩ := hangs_eq (kd := kd) (n := n) (ix := ix) (st := st) (en := en) (hs := hs) (he := he) (sd := sd)
  rw [e3, e4, place1 h1 hm, place2 h1 hm]
  simp

theorem walk (a0 : Int) (a1 : ByteArray) (a2 a3 a4 : Int) (a5 a6 : Bool) (a7 a8 a9 : Int) (_ : a1.size ≤ maxLen) (_ : (Lit.int .i64 a0).wf = true) (_ : (Lit.int .i64 a2).wf = true) (_ : (Lit.int .i64 a3).wf = true) (_ : (Lit.int .i64 a4).wf = true) (_ : (Lit.int .i64 a7).wf = true) (_ : (Lit.int .i64 a8).wf = true) (_ : (Lit.int .i64 a9).wf = true) (w : World) :
    Calls Try.prog 11 #[.agg #[.int .i64 a0, .string a1, .int .i64 a2, .int .i64 a3, .int .i64 a4, .bool a5, .bool a6, .int .i64 a7], .int .i64 a8, .int .i64 a9] w fun e w' => e = .returned (.bool true) ∧ Below w.heap.size w w' :=
  rifflelaw12_SliceTells.calls 40 a0 a1 a2 a3 a4 a5 a6 a7 a8 a9 true w (tells a8 a9)
end Go.Proofs.Ytjfoppmpiklfiaa.PureT
