/- The printed functions of the law NumeralWalks told by the plain law of numerals. Conditions: texts of at most 400 bytes. -/
import Derived.Test.YtjfoppmpiklfiabPNumeralWalksx4
import Derived.Test.YtjfoppmpiklfiabNumL
namespace Go.Proofs.Ytjfoppmpiklfiab.LinkNumeralWalks
open Go.RowKit Go.Proofs.Ytjfoppmpiklfiab.PNumeralWalks Go.Proofs.YtjfoppmpiklfiabW.PrintWords Go.Proofs.YtjfoppmpiklfiabW.PrintLast Go.Proofs.Ytjfoppmpiklfiab.Num
set_option linter.unusedVariables false
set_option linter.unusedSimpArgs false

theorem digit_eq (c : Int) : octet_Digit.f c = some (dg c) := by
  unfold octet_Digit.f dg
  by_cases h : c ≥ 48
  · rw [if_pos h]; congr 1; simp; omega
  · rw [if_neg h]; congr 1; simp; omega
def al (c : Int) : Bool := decide (97 ≤ c ∧ c ≤ 122 ∨ 65 ≤ c ∧ c ≤ 90)
theorem alpha_eq (c : Int) : octet_Alpha.f c = some (al c) := by
  unfold octet_Alpha.f al
  repeat' split
  all_goals (rw [Option.some.injEq, Bool.eq_iff_iff]; simp only [decide_eq_true_eq, Bool.false_eq_true, true_iff, false_iff, not_or, not_and]; omega)
def stops (c : Int) : Bool := dg c || al c || decide (c = 46 ∨ c = 43 ∨ c = 45)
def stp (q c : Int) : Int := if nx q c = 0 then (if fin q && !stops c then 1 else 2) else 0
theorem whole_eq (q : Int) : numeral_Walk_Whole.f q = some (fin q, q) := by
  unfold numeral_Walk_Whole.f fin
  repeat' split
  all_goals simp; omega
theorem next_eq (k : Nat) (hk : 8 ≤ k) (q c : Int) : numeral_Walk_next.f k q c = some (nx q c, q) := by
  obtain ⟨k, rfl⟩ : ∃ j, k = j + 8 := ⟨k - 8, by omega⟩
  unfold numeral_Walk_next.f nx
  rw [digit_eq]
  simp only [Option.bind_some, numeral_Walk_next.j0, numeral_Walk_next.j1, numeral_Walk_next.j2, numeral_Walk_next.j3, numeral_Walk_next.j4, numeral_Walk_next.j5, numeral_Walk_next.j6]
  by_cases hq : q = 0 ∨ q = 1 ∨ q = 2 ∨ q = 3 ∨ q = 4 ∨ q = 5 ∨ q = 6
  · rcases hq with rfl | rfl | rfl | rfl | rfl | rfl | rfl <;> by_cases hd : dg c = true <;> simp [hd] <;> (repeat' split) <;> first | rfl | (simp_all; done) | omega
  · have h0 : q ≠ 0 := fun h => hq (by simp [h])
    have h1 : q ≠ 1 := fun h => hq (by simp [h])
    have h2 : q ≠ 2 := fun h => hq (by simp [h])
    have h3 : q ≠ 3 := fun h => hq (by simp [h])
    have h4 : q ≠ 4 := fun h => hq (by simp [h])
    have h5 : q ≠ 5 := fun h => hq (by simp [h])
    have h6 : q ≠ 6 := fun h => hq (by simp [h])
    by_cases hd : dg c = true <;> simp [hd, h0, h1, h2, h3, h4, h5, h6]
    split <;> rfl
theorem step_eq (k : Nat) (hk : 8 ≤ k) (q c : Int) : numeral_Walk_Step.f k q c = some (stp q c, if nx q c = 0 then q else nx q c) := by
  unfold numeral_Walk_Step.f stp stops
  rw [next_eq k hk]
  simp only [Option.bind_some]
  by_cases h : nx q c = 0
  · simp only [h, if_true, whole_eq, Option.bind_some, digit_eq, alpha_eq]
    by_cases hf : fin q = true
    · by_cases hd : dg c = true
      · simp [hf, hd]
      · by_cases ha : al c = true
        · simp [hf, hd, ha]
        · simp [hf, hd, ha]
          repeat' split
          all_goals first | rfl | (simp_all; done) | omega
    · simp [hf]
  · simp [h]
theorem Is_eq (k : Nat) (s : ByteArray) (hs : s.size ≤ 400) : riffleref04_Is.f k s = some (isN (L s)) := by
  unfold riffleref04_Is.f; rw [if_pos hs]
theorem rdigit_eq (c : Int) : riffleref01_Digit.f c = some (dg c) := digit_eq c
theorem ralpha_eq (c : Int) : riffleref01_Alpha.f c = some (al c) := alpha_eq c
def rst (l : List Int) (c : Int) : Int := if isN (l ++ [c]) || isN (l ++ [c] ++ [49]) then 0 else if isN l && !stops c then 1 else 2
theorem rstep_eq (k : Nat) (hk : 1 ≤ k) (s : ByteArray) (hs : s.size ≤ 390) (c : Int) (h0 : 0 ≤ c) (h1 : c < 256) : riffleref04_Step.f k s c = some (rst (L s) c) := by
  obtain ⟨k, rfl⟩ : ∃ j, k = j + 1 := ⟨k - 1, by omega⟩
  unfold riffleref04_Step.f rst
  have e1 : L (s ++ strOfNums [c]) = L s ++ [c] := by rw [app_L, str_L c h0 h1]
  have z0 : (strOfNums [c]).size = 1 := by rw [← L_len, str_L c h0 h1]; rfl
  have z1 : (s ++ strOfNums [c]).size = s.size + 1 := by rw [ByteArray.size_append, z0]
  have e2 : L ((s ++ strOfNums [c]) ++ (⟨#[49]⟩ : ByteArray)) = L s ++ [c] ++ [49] := by rw [app_L, e1]; rfl
  have z2 : ((s ++ strOfNums [c]) ++ (⟨#[49]⟩ : ByteArray)).size = s.size + 2 := by rw [ByteArray.size_append, z1]; rfl
  simp only [Option.bind_some]
  rw [z0, if_pos (by omega), Is_eq _ _ (by omega), e1, z1, if_pos (by omega), Is_eq _ _ (by omega), e2]
  simp only [Option.bind_some]
  by_cases a1 : isN (L s ++ [c]) = true
  · rw [if_pos a1]; simp only [riffleref04_Step.j0]; simp [a1]
  · rw [if_neg a1]
    by_cases a2 : isN (L s ++ [c] ++ [49]) = true
    · simp only [riffleref04_Step.j0]; simp at a2; simp [a1, a2]
    · simp only [riffleref04_Step.j0]
      rw [if_neg a2, Is_eq _ _ (by omega), rdigit_eq, ralpha_eq]
      simp only [Option.bind_some]
      have a3 : (isN (L s ++ [c]) || isN (L s ++ [c] ++ [49])) = false := by simp at a1 a2 ⊢; exact ⟨a1, a2⟩
      rw [a3]
      unfold stops
      by_cases hf : isN (L s) = true
      · by_cases hd : dg c = true
        · simp [hf, hd]
        · by_cases ha : al c = true
          · simp [hf, hd, ha]
          · simp [hf, hd, ha]
            repeat' split
            all_goals first | rfl | (simp_all; done) | omega
      · simp [hf]
/-- Behind what the states came through, both steps tell the same. -/
theorem step_same (l : List Int) (c q : Int) (h : run 0 l = some q) : rst l c = stp q c := by
  unfold rst stp
  have hr : run 0 (l ++ [c]) = if nx q c = 0 then none else some (nx q c) := by rw [run_snoc, h]; rfl
  have hg := goes_iff (l ++ [c]) (by simp)
  by_cases hn : nx q c = 0
  · rw [if_pos hn] at hr ⊢
    rw [hr] at hg
    have : (isN (l ++ [c]) || isN (l ++ [c] ++ [49])) = false := by
      rw [Bool.eq_false_iff]; intro e; rw [Bool.or_eq_true] at e; exact hg.1 e rfl
    rw [this]
    have hf : isN l = fin q := by rw [isN_run, h]
    rw [hf]; rfl
  · rw [if_neg hn] at hr ⊢
    rw [hr] at hg
    have : (isN (l ++ [c]) || isN (l ++ [c] ++ [49])) = true := by
      rw [Bool.or_eq_true]; exact hg.2 (by simp)
    rw [this]; rfl
theorem take_snoc (s : ByteArray) (i : Nat) (h : i < s.size) : (L s).take (i + 1) = (L s).take i ++ [bt s i] := by
  have hlt : i < (L s).length := by rw [L_len]; exact h
  rw [List.take_succ_eq_append_getElem hlt, bt_L s i (L s)[i] (by simp)]
theorem take_all (s : ByteArray) : (L s).take s.size = L s := List.take_of_length_le (by rw [L_len]; omega)
theorem bt_ok (s : ByteArray) (i : Int) : 0 ≤ bt s i ∧ bt s i < 256 := by have := bt_range s i; omega
theorem nil_bytes (s : ByteArray) : s.toList = [] ↔ s.size = 0 := by
  simp only [Go.toList_nil_iff_emptyBytes]
  constructor
  · rintro rfl; rfl
  · intro h; exact ByteArray.ext (Array.eq_empty_of_size_eq_zero (by simpa using h))
theorem is_of_run {s : ByteArray} {q : Int} (h : run 0 (L s) = some q) : isN (L s) = fin q := by rw [isN_run, h]
theorem dead {s : ByteArray} {i j : Nat} (hij : i ≤ j) (h : run 0 ((L s).take i) = none) : run 0 ((L s).take j) = none := by
  have e := (List.take_append_drop i ((L s).take j)).symm
  rw [List.take_take, Nat.min_eq_left hij] at e
  rw [e, run_append, h]; rfl
theorem next_run {s : ByteArray} {i : Nat} {q : Int} (hi : i < s.size) (h : run 0 ((L s).take i) = some q) : run 0 ((L s).take (i + 1)) = if nx q (bt s i) = 0 then none else some (nx q (bt s i)) := by
  rw [take_snoc s i hi, run_snoc, h]; rfl
theorem size_take (s : ByteArray) (i : Nat) (h : i ≤ s.size) : (s.extract 0 i).size = i := by
  rw [← L_len, take_L, List.length_take, L_len]; omega
end Go.Proofs.Ytjfoppmpiklfiab.LinkNumeralWalks
