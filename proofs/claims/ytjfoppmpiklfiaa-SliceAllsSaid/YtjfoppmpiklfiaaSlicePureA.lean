/- This proves, of the law SliceAlls alone: for every selector and every number of items below 256 the printed function of the law answers true. Conditions: none but that the numbers are of their kinds. -/
import Derived.Test.YtjfoppmpiklfiaaSlA5
namespace Go.Proofs.Ytjfoppmpiklfiaa.PureA
set_option linter.unusedVariables false
open Go.RowKit Go.Proofs.Ytjfoppmpiklfiaa.SlA Go.Proofs.YtjfoppmpiklfiaaW.PrintWords Go.Proofs.YtjfoppmpiklfiaaW.PrintLast

/-! The numbers from one on that a test lets by. -/
def ups (H : Int → Bool) : Int → Nat → List Int
  | _, 0 => []
  | i, d + 1 => (if H i = true then [i] else []) ++ ups H (i + 1) d
theorem ups_congr {H G : Int → Bool} : ∀ (d : Nat) (i : Int), (∀ j, i ≤ j → j < i + d → H j = G j) → ups H i d = ups G i d
  | 0, _, _ => rfl
  | d + 1, i, h => by
    simp only [ups]
    rw [h i (by omega) (by omega), ups_congr d (i + 1) (fun j h1 h2 => h j (by omega) (by omega))]
theorem ups_mem {H : Int → Bool} : ∀ (d : Nat) (i x : Int), x ∈ ups H i d → H x = true
  | 0, _, _, h => by simp [ups] at h
  | d + 1, i, x, h => by
    simp only [ups, List.mem_append] at h
    rcases h with h | h
    · by_cases c : H i = true
      · rw [if_pos c] at h; simp at h; rw [h]; exact c
      · rw [if_neg c] at h; simp at h
    · exact ups_mem d (i + 1) x h
theorem ups_len {H : Int → Bool} : ∀ (d : Nat) (i : Int), (ups H i d).length ≤ d
  | 0, _ => by simp [ups]
  | d + 1, i => by
    simp only [ups, List.length_append]
    have := ups_len (H := H) d (i + 1)
    by_cases c : H i = true
    · rw [if_pos c]; simp; omega
    · rw [if_neg c]; simp; omega

variable {kd : Int} {n : ByteArray} {ix st en : Int} {hs he : Bool} {sd : Int}
theorem all_loop (m : Int) (H : Int → Bool) (hH : ∀ k i, 1 ≤ k → slice_Has.f k kd n ix st en hs he sd i m = some (H i)) (d : Nat) :
    ∀ (k : Nat) (acc : List Int) (M i : Int), M = i + d → d + 2 ≤ k → acc.length + d < 1000 → 0 ≤ i → M < 1000 → slice_All.l0 k m acc M i kd n ix st en hs he sd = some (acc ++ ups H i d) := by
  induction d with
  | zero =>
    intro k acc M i hM hk ha hi hm
    obtain ⟨k, rfl⟩ : ∃ j, k = j + 1 := ⟨k - 1, by omega⟩
    simp only [slice_All.l0]; rw [if_neg (by omega)]; simp [ups]
  | succ d ih =>
    intro k acc M i hM hk ha hi hm
    obtain ⟨k, rfl⟩ : ∃ j, k = j + 1 := ⟨k - 1, by omega⟩
    simp only [slice_All.l0]; rw [if_pos (by omega), hH k i (by omega)]
    simp only [Option.bind_some]
    rw [show wrap64 (i + 1) = i + 1 by unfold wrap64; omega]
    by_cases c : H i = true
    · rw [if_pos c, if_pos (by omega), ih k (acc ++ [i]) M (i + 1) (by omega) (by omega) (by simp; omega) (by omega) hm]
      simp [ups, c]
    · rw [if_neg c, ih k acc M (i + 1) (by omega) (by omega) (by omega) (by omega) hm]
      simp [ups, c]
theorem collect (arr : List Bool) (d : Nat) :
    ∀ (k : Nat) (acc : List Int) (i : Int), (arr.length : Int) = i + d → d + 1 ≤ k → acc.length + d < 1000 → 0 ≤ i → arr.length < 1000 → riffleref12_All.l2 k acc arr (arr.length : Int) i = some (acc ++ ups (fun j => rdOf false arr j) i d) := by
  induction d with
  | zero =>
    intro k acc i hM hk ha hi hm
    obtain ⟨k, rfl⟩ : ∃ j, k = j + 1 := ⟨k - 1, by omega⟩
    simp only [riffleref12_All.l2]; rw [if_neg (by omega)]; simp [ups]
  | succ d ih =>
    intro k acc i hM hk ha hi hm
    obtain ⟨k, rfl⟩ : ∃ j, k = j + 1 := ⟨k - 1, by omega⟩
    simp only [riffleref12_All.l2]; rw [if_pos (by omega), if_pos hi, if_pos (by omega)]
    rw [show wrap64 (i + 1) = i + 1 by unfold wrap64; omega]
    by_cases c : rdOf false arr i = true
    · rw [if_pos c, if_pos (by omega), ih k (acc ++ [i]) (i + 1) (by omega) (by omega) (by simp; omega) (by omega) hm]
      simp [ups, c]
    · rw [if_neg c, ih k acc (i + 1) (by omega) (by omega) (by omega) (by omega) hm]
      simp [ups, c]
theorem collect_all (arr : List Bool) (k : Nat) (h : arr.length < 256) (hk : 300 ≤ k) : riffleref12_All.j7 k arr = some (ups (fun j => rdOf false arr j) 0 arr.length) := by
  obtain ⟨k, rfl⟩ : ∃ j, k = j + 1 := ⟨k - 1, by omega⟩
  simp only [riffleref12_All.j7]
  rw [collect arr arr.length k [] 0 (by omega) (by omega) (by simp; omega) (by omega) (by omega)]; simp

theorem rd_set (arr : List Bool) (x j : Int) (hx : 0 ≤ x) (hx2 : x < arr.length) (hj : 0 ≤ j) : rdOf false (arr.set x.toNat true) j = (rdOf false arr j || decide (j = x)) := by
  unfold rdOf
  simp only [List.getD_eq_getElem?_getD, List.getElem?_set]
  by_cases h : x.toNat = j.toNat
  · have e : j = x := by omega
    subst e
    simp; rw [if_pos (by omega)]; rfl
  · have e : ¬ j = x := by omega
    simp [h, e]

def PU (hi sd x j : Int) : Bool := decide (x ≤ j ∧ j < hi ∧ sd ∣ (j - x))
def PD (lo sd x j : Int) : Bool := decide (j ≤ x ∧ lo < j ∧ sd ∣ (x - j))
theorem pu_step {hi sd x j : Int} (hsd : 0 < sd) (h : x < hi) : (decide (j = x) || PU hi sd (x + sd) j) = PU hi sd x j := by
  unfold PU
  by_cases e : j = x
  · subst e; simp [h]
  · simp only [e, decide_false, Bool.false_or, decide_eq_decide]
    constructor
    · rintro ⟨h1, h2, h3⟩
      refine ⟨by omega, h2, ?_⟩
      have : j - x = (j - (x + sd)) + sd := by omega
      rw [this]; exact Int.dvd_add h3 (Int.dvd_refl _)
    · rintro ⟨h1, h2, h3⟩
      have h4 := Int.le_of_dvd (by omega) h3
      refine ⟨by omega, h2, ?_⟩
      have : j - (x + sd) = (j - x) - sd := by omega
      rw [this]; exact Int.dvd_sub h3 (Int.dvd_refl _)
theorem pd_step {lo sd x j : Int} (hsd : sd < 0) (h : lo < x) : (decide (j = x) || PD lo sd (x + sd) j) = PD lo sd x j := by
  unfold PD
  by_cases e : j = x
  · subst e; simp [h]
  · simp only [e, decide_false, Bool.false_or, decide_eq_decide]
    constructor
    · rintro ⟨h1, h2, h3⟩
      refine ⟨by omega, h2, ?_⟩
      have : x - j = (x + sd - j) - sd := by omega
      rw [this]; exact Int.dvd_sub h3 (Int.dvd_refl _)
    · rintro ⟨h1, h2, h3⟩
      have h4 := Int.le_of_dvd (by omega) ((Int.neg_dvd).2 h3)
      refine ⟨by omega, h2, ?_⟩
      have : x + sd - j = (x - j) + sd := by omega
      rw [this]; exact Int.dvd_add h3 (Int.dvd_refl _)

/-- Behind the loop upwards nothing is done for a slice that goes up. -/
theorem tail_up (arr : List Bool) (lo hi : Int) (k : Nat) (h : arr.length < 256) (hk : 310 ≤ k) (hsd : 0 < sd) : riffleref12_All.j4 k arr lo hi kd n ix st en hs he sd = some (ups (fun j => rdOf false arr j) 0 arr.length) := by
  obtain ⟨k, rfl⟩ : ∃ j, k = j + 2 := ⟨k - 2, by omega⟩
  simp only [riffleref12_All.j4, riffleref12_All.j5]
  rw [show decide (sd < 0) = false by simp; omega]
  simp only [Bool.false_eq_true, if_false]
  rw [collect_all arr k h (by omega)]; simp
theorem up_loop (lo hi : Int) (hsd : 0 < sd) (hsd2 : sd < 9007199254740992) (d : Nat) :
    ∀ (k : Nat) (arr : List Bool) (x : Int), d + 320 ≤ k → arr.length < 256 → 0 ≤ x → (hi - x).toNat ≤ d → hi ≤ arr.length →
      riffleref12_All.l0 k arr lo hi x kd n ix st en hs he sd = some (ups (fun j => rdOf false arr j || PU hi sd x j) 0 arr.length) := by
  induction d with
  | zero =>
    intro k arr x hk ha hx hd hh
    obtain ⟨k, rfl⟩ : ∃ j, k = j + 1 := ⟨k - 1, by omega⟩
    simp only [riffleref12_All.l0]
    rw [if_neg (by omega), tail_up arr lo hi k ha (by omega) hsd]
    congr 1
    refine ups_congr _ _ fun j h1 h2 => ?_
    have : PU hi sd x j = false := by unfold PU; simp; omega
    rw [this]; simp
  | succ d ih =>
    intro k arr x hk ha hx hd hh
    obtain ⟨k, rfl⟩ : ∃ j, k = j + 1 := ⟨k - 1, by omega⟩
    simp only [riffleref12_All.l0]
    by_cases c : x < hi
    · rw [if_pos c, if_pos hx, if_pos (by omega), show wrap64 (x + sd) = x + sd by unfold wrap64; omega]
      rw [ih k _ _ (by omega) (by simpa using ha) (by omega) (by omega) (by simpa using hh)]
      simp only [List.length_set]
      congr 1
      refine ups_congr _ _ fun j h1 h2 => ?_
      rw [rd_set arr x j hx (by omega) h1, Bool.or_assoc, pu_step hsd c]
    · rw [if_neg c, tail_up arr lo hi k ha (by omega) hsd]
      congr 1
      refine ups_congr _ _ fun j h1 h2 => ?_
      have : PU hi sd x j = false := by unfold PU; simp; omega
      rw [this]; simp
theorem down_loop (lo : Int) (hlo : -1 ≤ lo) (hsd : sd < 0) (hsd2 : -9007199254740992 < sd) (d : Nat) :
    ∀ (k : Nat) (arr : List Bool) (x : Int), d + 320 ≤ k → arr.length < 256 → x < arr.length → (x - lo).toNat ≤ d →
      riffleref12_All.l1 k arr lo x kd n ix st en hs he sd = some (ups (fun j => rdOf false arr j || PD lo sd x j) 0 arr.length) := by
  induction d with
  | zero =>
    intro k arr x hk ha hx hd
    obtain ⟨k, rfl⟩ : ∃ j, k = j + 1 := ⟨k - 1, by omega⟩
    simp only [riffleref12_All.l1]
    rw [if_neg (by omega), collect_all arr k ha (by omega)]
    congr 1
    refine ups_congr _ _ fun j h1 h2 => ?_
    have : PD lo sd x j = false := by unfold PD; simp; omega
    rw [this]; simp
  | succ d ih =>
    intro k arr x hk ha hx hd
    obtain ⟨k, rfl⟩ : ∃ j, k = j + 1 := ⟨k - 1, by omega⟩
    simp only [riffleref12_All.l1]
    by_cases c : x > lo
    · rw [if_pos c, if_pos (by omega), if_pos (by omega)]
      by_cases c2 : x + sd < -300
      · rw [show wrap64 (x + sd) = x + sd by unfold wrap64; omega]
        rw [ih k _ _ (by omega) (by simpa using ha) (by simp; omega) (by omega)]
        simp only [List.length_set]
        congr 1
        refine ups_congr _ _ fun j h1 h2 => ?_
        rw [rd_set arr x j (by omega) (by omega) h1, Bool.or_assoc, pd_step hsd c]
      · rw [show wrap64 (x + sd) = x + sd by unfold wrap64; omega]
        rw [ih k _ _ (by omega) (by simpa using ha) (by simp; omega) (by omega)]
        simp only [List.length_set]
        congr 1
        refine ups_congr _ _ fun j h1 h2 => ?_
        rw [rd_set arr x j (by omega) (by omega) h1, Bool.or_assoc, pd_step hsd c]
    · rw [if_neg c, collect_all arr k ha (by omega)]
      congr 1
      refine ups_congr _ _ fun j h1 h2 => ?_
      have : PD lo sd x j = false := by unfold PD; simp; omega
      rw [this]; simp

theorem mn_min (a b : Int) : mn a b = min a b := by unfold mn; split <;> omega
theorem mx_max (a b : Int) : mx a b = max a b := by unfold mx; split <;> omega
def InR (a : Int) : Prop := -9007199254740991 ≤ a ∧ a ≤ 9007199254740991
def InM (m : Int) : Prop := 0 ≤ m ∧ m ≤ 9007199254740992
theorem place1 {a m : Int} (ha : InR a) (hm : InM m) : slice_Place.f a m = some (if a < 0 then m + a else a) := by
  unfold slice_Place.f
  unfold InR at ha; unfold InM at hm
  split
  · rw [show wrap64 (m + a) = m + a by unfold wrap64; omega]
  · rfl
theorem place2 {a m : Int} (ha : InR a) (hm : InM m) : riffleref12_Place.f a m = some (if a < 0 then m + a else a) := by
  unfold riffleref12_Place.f
  unfold InR at ha; unfold InM at hm
  by_cases h : a < 0
  · rw [if_neg (by omega), if_pos h, show wrap64 (m + a) = m + a by unfold wrap64; omega]
  · rw [if_pos (by omega), if_neg h]
theorem clip_eq {n l m : Int} (h : l ≤ m) : riffleref12_clip.f n l m = some (mn (mx n l) m) := by
  unfold riffleref12_clip.f
  by_cases h1 : n > m
  · rw [if_pos h1, if_neg (by omega)]; rw [mn_min, mx_max]; congr 1; omega
  · rw [if_neg h1]
    by_cases h2 : n < l
    · rw [if_pos h2]; rw [mn_min, mx_max]; congr 1; omega
    · rw [if_neg h2]; rw [mn_min, mx_max]; congr 1; omega
theorem dec64 {m : Int} (hm : InM m) : wrap64 (m - 1) = m - 1 := by unfold InM at hm; unfold wrap64; omega

theorem bounds_eq (k : Nat) (hk : 1 ≤ k) {m : Int} (h2 : InR st) (h3 : InR en) (hm : InM m) :
    riffleref12_Bounds.f k kd n ix st en hs he sd m = slice_Bounds.f kd n ix st en hs he sd m := by
  obtain ⟨k, rfl⟩ : ∃ j, k = j + 1 := ⟨k - 1, by omega⟩
  unfold riffleref12_Bounds.f slice_Bounds.f
  have hm2 := hm
  unfold InM at hm2
  rw [place1 h2 hm, place1 h3 hm, place2 h2 hm, place2 h3 hm]
  simp only [Option.bind_some, riffleref12_Bounds.j0, riffleref12_Bounds.j1]
  simp only [dec64 hm]
  have hA : ∀ x : Int, riffleref12_clip.f x 0 m = some (mn (mx x 0) m) := fun x => clip_eq hm2.1
  have hB : ∀ x : Int, riffleref12_clip.f x (-1) (m - 1) = some (mn (mx x (-1)) (m - 1)) := fun x => clip_eq (by omega)
  simp only [hA, hB, Option.bind_some]
  by_cases c0 : sd = 0
  · rw [if_pos c0, if_neg (by omega), if_neg (by omega)]
  · rw [if_neg c0]
    by_cases c1 : sd > 0
    · rw [if_pos c1, if_pos c1]
    · have c2 : sd < 0 := by omega
      rw [if_neg c1, if_neg c1, if_pos c2]
theorem bounds_some {m : Int} (h2 : InR st) (h3 : InR en) (hm : InM m) :
    ∃ lo hi, slice_Bounds.f kd n ix st en hs he sd m = some (lo, hi) ∧ -1 ≤ lo ∧ lo ≤ m ∧ -1 ≤ hi ∧ hi ≤ m := by
  unfold slice_Bounds.f
  have hm2 := hm
  unfold InM at hm2
  rw [place1 h2 hm, place1 h3 hm]
  simp only [Option.bind_some, dec64 hm]
  by_cases c1 : sd > 0
  · rw [if_pos c1]; cases hs <;> cases he <;> simp only [mn_min, mx_max, if_true, Bool.false_eq_true, if_false] <;> refine ⟨_, _, rfl, ?_, ?_, ?_, ?_⟩ <;> omega
  · rw [if_neg c1]
    by_cases c2 : sd < 0
    · rw [if_pos c2]; cases hs <;> cases he <;> simp only [mn_min, mx_max, if_true, Bool.false_eq_true, if_false] <;> refine ⟨_, _, rfl, ?_, ?_, ?_, ?_⟩ <;> omega
    · rw [if_neg c2]; exact ⟨0, 0, rfl, by omega, by omega, by omega, by omega⟩
def RightAll (ix st en sd : Int) : Prop := InR ix ∧ InR st ∧ InR en ∧ InR sd
theorem right_eq (k : Nat) (hk : 6 ≤ k) : (RightAll ix st en sd ∧ riffleref12_Right.f k kd n ix st en hs he sd = some true) ∨ riffleref12_Right.f k kd n ix st en hs he sd = some false := by
  obtain ⟨k, rfl⟩ : ∃ j, k = j + 6 := ⟨k - 6, by omega⟩
  unfold riffleref12_Right.f RightAll InR
  simp only [Option.bind_some, riffleref12_Right.l0]
  have w0 : wrap64 (0 + 1) = 1 := by unfold wrap64; omega
  have w1 : wrap64 (1 + 1) = 2 := by unfold wrap64; omega
  have w2 : wrap64 (2 + 1) = 3 := by unfold wrap64; omega
  have w3 : wrap64 (3 + 1) = 4 := by unfold wrap64; omega
  simp only [w0, w1, w2, w3, rd]
  have e0 : (([ix, st, en, sd] : List Int).length : Int) = 4 := rfl
  rw [e0]
  rw [if_pos (show (0 : Int) < 4 by decide), if_pos (show (0 : Int) ≤ 0 by decide), if_pos (show (0 : Int) < 4 by decide), if_pos (show (1 : Int) < 4 by decide), if_pos (show (0 : Int) ≤ 1 by decide), if_pos (show (1 : Int) < 4 by decide),
    if_pos (show (2 : Int) < 4 by decide), if_pos (show (0 : Int) ≤ 2 by decide), if_pos (show (2 : Int) < 4 by decide), if_pos (show (3 : Int) < 4 by decide), if_pos (show (0 : Int) ≤ 3 by decide), if_pos (show (3 : Int) < 4 by decide), if_neg (show ¬ (4 : Int) < 4 by decide)]
  have g0 : ([ix, st, en, sd] : List Int).getD (0 : Int).toNat 0 = ix := rfl
  have g1 : ([ix, st, en, sd] : List Int).getD (1 : Int).toNat 0 = st := rfl
  have g2 : ([ix, st, en, sd] : List Int).getD (2 : Int).toNat 0 = en := rfl
  have g3 : ([ix, st, en, sd] : List Int).getD (3 : Int).toNat 0 = sd := rfl
  rw [g0, g1, g2, g3]
  by_cases a1 : ix < -9007199254740991
  · right; rw [if_pos a1]
  by_cases a2 : ix > 9007199254740991
  · right; rw [if_neg a1, if_pos a2]
  rw [if_neg a1, if_neg a2]
  by_cases b1 : st < -9007199254740991
  · right; rw [if_pos b1]
  by_cases b2 : st > 9007199254740991
  · right; rw [if_neg b1, if_pos b2]
  rw [if_neg b1, if_neg b2]
  by_cases c1 : en < -9007199254740991
  · right; rw [if_pos c1]
  by_cases c2 : en > 9007199254740991
  · right; rw [if_neg c1, if_pos c2]
  rw [if_neg c1, if_neg c2]
  by_cases d1 : sd < -9007199254740991
  · right; rw [if_pos d1]
  by_cases d2 : sd > 9007199254740991
  · right; rw [if_neg d1, if_pos d2]
  rw [if_neg d1, if_neg d2]
  exact .inl ⟨⟨⟨by omega, by omega⟩, ⟨by omega, by omega⟩, ⟨by omega, by omega⟩, ⟨by omega, by omega⟩⟩, rfl⟩


def HB (kd ix m sd lo hi i : Int) : Bool :=
  if i < 0 ∨ i ≥ m then false else if kd = 2 then (if ix < 0 then m + ix else ix) == i
  else if kd = 3 then (if sd > 0 then decide (lo ≤ i ∧ i < hi ∧ sd ∣ (i - lo)) else if sd < 0 then decide (lo < i ∧ i ≤ hi ∧ sd ∣ (hi - i)) else false) else false
theorem has_val (k : Nat) (hk : 1 ≤ k) {m i lo hi : Int} (h1 : InR ix) (h2 : InR st) (h3 : InR en) (hm : InM m) (hb : slice_Bounds.f kd n ix st en hs he sd m = some (lo, hi)) (b1 : -1 ≤ lo) (b4 : hi ≤ m) :
    slice_Has.f k kd n ix st en hs he sd i m = some (HB kd ix m sd lo hi i) := by
  obtain ⟨k, rfl⟩ : ∃ j, k = j + 1 := ⟨k - 1, by omega⟩
  unfold slice_Has.f HB
  simp only [slice_Has.j0]
  by_cases c0 : i < 0
  · rw [if_pos c0, if_pos (Or.inl c0)]; rfl
  rw [if_neg c0]
  by_cases c1 : i ≥ m
  · rw [if_pos (by simpa using c1), if_pos (Or.inr c1)]
  rw [if_neg (by simpa using c1), if_neg (by omega), hb, place1 h1 hm]
  simp only [Option.bind_some]
  by_cases c2 : kd = 2
  · rw [if_pos c2, if_pos c2]
  rw [if_neg c2, if_neg c2]
  by_cases c3 : kd = 3
  rotate_left
  · rw [if_neg c3, if_neg c3]
  rw [if_pos c3, if_pos c3]
  unfold InM at hm
  by_cases c5 : sd > 0
  · rw [if_pos c5, if_pos c5]
    by_cases d1 : i ≥ lo
    · by_cases d2 : i < hi
      · rw [if_pos d1, if_pos d2, if_neg (by omega), show wrap64 (i - lo) = i - lo by unfold wrap64; omega]
        congr 1
        rw [Bool.eq_iff_iff]; simp [d1, d2, Int.dvd_iff_tmod_eq_zero]
      · rw [if_pos d1, if_neg d2]; simp [d2]
    · rw [if_neg d1]; simp; omega
  · rw [if_neg c5, if_neg c5]
    by_cases c6 : sd < 0
    · rw [if_pos c6, if_pos c6]
      by_cases d1 : i > lo
      · by_cases d2 : i ≤ hi
        · rw [if_pos d1, if_pos d2, if_neg (by omega), show wrap64 (hi - i) = hi - i by unfold wrap64; omega]
          congr 1
          rw [Bool.eq_iff_iff]; simp [d1, d2, Int.dvd_iff_tmod_eq_zero]
        · rw [if_pos d1, if_neg d2]; simp [d2]
      · rw [if_neg d1]; simp; omega
    · rw [if_neg c6, if_neg c6]
theorem bounds_more {m lo hi : Int} (h2 : InR st) (h3 : InR en) (hm : InM m) (hb : slice_Bounds.f kd n ix st en hs he sd m = some (lo, hi)) : (sd > 0 → 0 ≤ lo ∧ hi ≤ m) ∧ (sd < 0 → hi < m) := by
  unfold slice_Bounds.f at hb
  have hm2 := hm
  unfold InM at hm2
  rw [place1 h2 hm, place1 h3 hm] at hb
  simp only [Option.bind_some, dec64 hm] at hb
  constructor
  · intro c1
    rw [if_pos c1] at hb
    cases hs <;> cases he <;> simp only [mn_min, mx_max, if_true, Bool.false_eq_true, if_false, Option.some.injEq, Prod.mk.injEq] at hb <;> omega
  · intro c1
    rw [if_neg (by omega), if_pos c1] at hb
    cases hs <;> cases he <;> simp only [mn_min, mx_max, if_true, Bool.false_eq_true, if_false, Option.some.injEq, Prod.mk.injEq] at hb <;> omega
theorem rd_none (m : Nat) (j : Int) : rdOf false (List.replicate m false) j = false := by
  unfold rdOf
  simp only [List.getD_eq_getElem?_getD, List.getElem?_replicate]
  split <;> rfl
theorem ref_all (k : Nat) (hk : 900 ≤ k) {m lo hi : Int} (h1 : InR ix) (h2 : InR st) (h3 : InR en) (h4 : InR sd) (hm : 0 ≤ m) (hm2 : m < 256) (hb : slice_Bounds.f kd n ix st en hs he sd m = some (lo, hi)) (b1 : -1 ≤ lo) (b4 : hi ≤ m) :
    riffleref12_All.f k kd n ix st en hs he sd m = some (ups (HB kd ix m sd lo hi) 0 m.toNat) := by
  obtain ⟨k, rfl⟩ : ∃ j, k = j + 10 := ⟨k - 10, by omega⟩
  have hM : InM m := ⟨hm, by omega⟩
  obtain ⟨m1, m2⟩ := bounds_more h2 h3 hM hb
  unfold riffleref12_All.f
  rw [if_pos hm, if_pos (by omega)]
  simp only [Option.bind_some]
  rw [bounds_eq (k + 10) (by omega) h2 h3 hM, hb]
  simp only [Option.bind_some]
  rw [place2 h1 hM]
  simp only [Option.bind_some]
  generalize hp : (if ix < 0 then m + ix else ix) = p
  have hlen : (List.replicate m.toNat false).length = m.toNat := by simp
  -- what is left where nothing more is done
  have rest : ∀ (arr : List Bool) (q : Nat), 880 ≤ q → arr.length < 256 → kd ≠ 3 → riffleref12_All.j1 q arr lo hi kd n ix st en hs he sd = some (ups (fun j => rdOf false arr j) 0 arr.length) := by
    intro arr q hq ha c3
    obtain ⟨q, rfl⟩ : ∃ j, q = j + 4 := ⟨q - 4, by omega⟩
    simp only [riffleref12_All.j1, riffleref12_All.j2, riffleref12_All.j4, riffleref12_All.j5]
    rw [if_neg c3, if_neg (by simp), if_neg c3, if_neg (by simp), collect_all arr q ha (by omega)]
  by_cases c2 : kd = 2
  · rw [if_pos c2]
    have hHB : ∀ j, 0 ≤ j → j < 0 + (m.toNat : Int) → HB kd ix m sd lo hi j = (p == j) := by
      intro j j1 j2
      unfold HB; rw [if_neg (by omega), if_pos c2, hp]
    by_cases c0 : p ≥ 0
    · rw [if_pos c0]
      by_cases c1 : p < m
      · simp only [riffleref12_All.j0]
        rw [if_pos (by simpa using c1), place2 h1 hM]
        simp only [Option.bind_some]
        rw [hp, if_pos c0, hlen, if_pos (by omega), rest _ _ (by omega) (by simp; omega) (by omega)]
        simp only [List.length_set, hlen]
        congr 1
        refine ups_congr _ _ fun j j1 j2 => ?_
        rw [hHB j j1 j2, rd_set _ _ _ c0 (by rw [hlen]; omega) j1, rd_none]
        rw [Bool.eq_iff_iff]; simp; omega
      · simp only [riffleref12_All.j0]
        rw [if_neg (by simpa using c1), rest _ _ (by omega) (by simp; omega) (by omega), hlen]
        congr 1
        refine ups_congr _ _ fun j j1 j2 => ?_
        rw [hHB j j1 j2, rd_none]
        rw [Bool.eq_iff_iff]; simp; omega
    · rw [if_neg c0]
      simp only [riffleref12_All.j0]
      rw [if_neg (by simp), rest _ _ (by omega) (by simp; omega) (by omega), hlen]
      congr 1
      refine ups_congr _ _ fun j j1 j2 => ?_
      rw [hHB j j1 j2, rd_none]
      rw [Bool.eq_iff_iff]; simp; omega
  rw [if_neg c2]
  simp only [riffleref12_All.j0]
  rw [if_neg (by simp)]
  by_cases c3 : kd = 3
  rotate_left
  · rw [rest _ _ (by omega) (by simp; omega) c3, hlen]
    congr 1
    refine ups_congr _ _ fun j j1 j2 => ?_
    rw [rd_none]; unfold HB; rw [if_neg (by omega), if_neg c2, if_neg c3]
  simp only [riffleref12_All.j1, riffleref12_All.j2]
  rw [if_pos c3]
  unfold InR at h4
  by_cases c5 : sd > 0
  · obtain ⟨p1, p2⟩ := m1 c5
    rw [if_pos (by simpa using c5), up_loop lo hi c5 (by omega) 400 _ _ _ (by omega) (by simp; omega) p1 (by omega) (by rw [hlen]; omega), hlen]
    congr 1
    refine ups_congr _ _ fun j j1 j2 => ?_
    rw [rd_none]; unfold HB PU; rw [if_neg (by omega), if_neg c2, if_pos c3, if_pos c5]; simp
  · rw [if_neg (by simpa using c5)]
    simp only [riffleref12_All.j4, riffleref12_All.j5]
    rw [if_pos c3]
    by_cases c6 : sd < 0
    · have p1 := m2 c6
      rw [if_pos (by simpa using c6), down_loop lo b1 c6 (by omega) 400 _ _ _ (by omega) (by simp; omega) (by rw [hlen]; omega) (by omega), hlen]
      congr 1
      refine ups_congr _ _ fun j j1 j2 => ?_
      rw [rd_none]; unfold HB PD; rw [if_neg (by omega), if_neg c2, if_pos c3, if_neg c5, if_pos c6]
      rw [Bool.eq_iff_iff]; simp; omega
    · rw [if_neg (by simpa using c6), collect_all _ _ (by simp; omega) (by omega), hlen]
      congr 1
      refine ups_congr _ _ fun j j1 j2 => ?_
      rw [rd_none]; unfold HB; rw [if_neg (by omega), if_neg c2, if_pos c3, if_neg c5, if_neg c6]
theorem law_loop (m : Int) (hm : wrap64 m = m) (H : Int → Bool) (hH : ∀ k i, 1 ≤ k → slice_Has.f k kd n ix st en hs he sd i m = some (H i)) (l : List Int) (hl : ∀ x ∈ l, H x = true) (hl2 : l.length < 300) (d : Nat) :
    ∀ (k : Nat) (i : Int), (l.length : Int) = i + d → d + 2 ≤ k → 0 ≤ i → rifflelaw12_SliceAlls.l0 k m l l (l.length : Int) i kd n ix st en hs he sd = some true := by
  induction d with
  | zero =>
    intro k i hM hk hi
    obtain ⟨k, rfl⟩ : ∃ j, k = j + 1 := ⟨k - 1, by omega⟩
    simp only [rifflelaw12_SliceAlls.l0]; rw [if_neg (by omega)]
  | succ d ih =>
    intro k i hM hk hi
    obtain ⟨k, rfl⟩ : ∃ j, k = j + 1 := ⟨k - 1, by omega⟩
    simp only [rifflelaw12_SliceAlls.l0]
    have hmem : rd l i ∈ l := by
      unfold rd
      rw [List.getD_eq_getElem?_getD, List.getElem?_eq_getElem (by omega)]
      exact List.getElem_mem _
    rw [if_pos (by omega), if_pos hi, if_pos (by omega), if_pos (by omega), if_pos trivial, hm, hH k _ (by omega), hl _ hmem]
    simp only [Option.bind_some, if_true]
    rw [show wrap64 (i + 1) = i + 1 by unfold wrap64; omega]
    exact ih k (i + 1) (by omega) (by omega) (by omega)
set_option maxRecDepth 100000 in
theorem alive_so : rifflelaw12_sliceAlive.f 1000 = some true := by decide +kernel
theorem alls (m : Int) (hm : 0 ≤ m) (hm2 : m < 256) : rifflelaw12_SliceAlls.f 1000 kd n ix st en hs he sd m = some true := by
  unfold rifflelaw12_SliceAlls.f
  rw [alive_so]; simp only [Option.bind_some, if_true]
  rcases right_eq (kd := kd) (n := n) (ix := ix) (st := st) (en := en) (hs := hs) (he := he) (sd := sd) 1000 (by omega) with ⟨⟨h1, h2, h3, h4⟩, hr⟩ | hr
  rotate_left
  · rw [hr]; simp
  rw [hr]; simp only [Option.bind_some, if_true]
  have hM : InM m := ⟨hm, by omega⟩
  have hw : wrap64 m = m := by unfold wrap64; omega
  obtain ⟨lo, hi, hb, b1, b2, b3, b4⟩ := bounds_some (kd := kd) (n := n) (ix := ix) (hs := hs) (he := he) (sd := sd) h2 h3 hM
  have hH : ∀ k i, 1 ≤ k → slice_Has.f k kd n ix st en hs he sd i m = some (HB kd ix m sd lo hi i) := fun k i hk => has_val k hk h1 h2 h3 hM hb b1 b4
  have hA : slice_All.f 1000 kd n ix st en hs he sd m = some (ups (HB kd ix m sd lo hi) 0 m.toNat) := by
    unfold slice_All.f
    rw [all_loop m _ hH m.toNat 1000 [] (mx m 0) 0 (by rw [mx_max]; omega) (by omega) (by simp; omega) (by omega) (by rw [mx_max]; omega)]; simp
  rw [hw, hA, ref_all 1000 (by omega) h1 h2 h3 h4 hm hm2 hb b1 b4]
  simp only [Option.bind_some, if_true]
  have := ups_len (H := HB kd ix m sd lo hi) m.toNat 0
  exact law_loop m hw _ hH _ (fun x hx => ups_mem _ _ _ hx) (by omega) (ups (HB kd ix m sd lo hi) 0 m.toNat).length 1000 0 (by omega) (by omega) (by omega)

theorem walk (a0 : Int) (a1 : ByteArray) (a2 a3 a4 : Int) (a5 a6 : Bool) (a7 a8 : Int) (_ : a1.size ≤ maxLen) (_ : (Lit.int .i64 a0).wf = true) (_ : (Lit.int .i64 a2).wf = true) (_ : (Lit.int .i64 a3).wf = true) (_ : (Lit.int .i64 a4).wf = true) (_ : (Lit.int .i64 a7).wf = true) (h : (Lit.int .u8 a8).wf = true) (w : World) :
    Calls Try.prog 9 #[.agg #[.int .i64 a0, .string a1, .int .i64 a2, .int .i64 a3, .int .i64 a4, .bool a5, .bool a6, .int .i64 a7], .int .u8 a8] w fun e w' => e = .returned (.bool true) ∧ Below w.heap.size w w' := by
  have hb : 0 ≤ a8 ∧ a8 < 256 := by
    have h2 := h; simp [Lit.wf, IntKind.min, IntKind.max, IntKind.signed, IntKind.bits] at h2
    omega
  exact rifflelaw12_SliceAlls.calls 1000 a0 a1 a2 a3 a4 a5 a6 a7 a8 true w (alls a8 hb.1 hb.2)
end Go.Proofs.Ytjfoppmpiklfiaa.PureA
