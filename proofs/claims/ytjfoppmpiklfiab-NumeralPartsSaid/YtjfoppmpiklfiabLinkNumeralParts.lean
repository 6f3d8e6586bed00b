/- The printed functions of the law NumeralParts told by the plain law of numerals. Conditions: texts of at most 400 bytes. -/
import Derived.Test.YtjfoppmpiklfiabPNumeralPartsx4
import Derived.Test.YtjfoppmpiklfiabNumL
namespace Go.Proofs.Ytjfoppmpiklfiab.LinkNumeralParts
open Go.RowKit Go.Proofs.Ytjfoppmpiklfiab.PNumeralParts Go.Proofs.YtjfoppmpiklfiabW.PrintWords Go.Proofs.YtjfoppmpiklfiabW.PrintLast Go.Proofs.Ytjfoppmpiklfiab.Num
set_option linter.unusedVariables false
set_option linter.unusedSimpArgs false

theorem digit_eq (c : Int) : octet_Digit.f c = some (dg c) := by
  unfold octet_Digit.f dg
  by_cases h : c ≥ 48
  · rw [if_pos h]; congr 1; simp; omega
  · rw [if_neg h]; congr 1; simp; omega
def al (c : Int) : Bool := decide (97 ≤ c ∧ c ≤ 122 ∨ 65 ≤ c ∧ c ≤ 90)
theorem alpha_eq (c : Int) : octet_Alpha.f c = some (al c) := by
  unfold octet_Alpha.f al
  repeat' split
  all_goals (rw [Option.some.injEq, Bool.eq_iff_iff]; simp only [decide_eq_true_eq, Bool.false_eq_true, true_iff, false_iff, not_or, not_and]; omega)
def stops (c : Int) : Bool := dg c || al c || decide (c = 46 ∨ c = 43 ∨ c = 45)
def stp (q c : Int) : Int := if nx q c = 0 then (if fin q && !stops c then 1 else 2) else 0
theorem whole_eq (q : Int) : numeral_Walk_Whole.f q = some (fin q, q) := by
  unfold numeral_Walk_Whole.f fin
  repeat' split
  all_goals simp; omega
theorem next_eq (k : Nat) (hk : 8 ≤ k) (q c : Int) : numeral_Walk_next.f k q c = some (nx q c, q) := by
  obtain ⟨k, rfl⟩ : ∃ j, k = j + 8 := ⟨k - 8, by omega⟩
  unfold numeral_Walk_next.f nx
  rw [digit_eq]
  simp only [Option.bind_some, numeral_Walk_next.j0, numeral_Walk_next.j1, numeral_Walk_next.j2, numeral_Walk_next.j3, numeral_Walk_next.j4, numeral_Walk_next.j5, numeral_Walk_next.j6]
  by_cases hq : q = 0 ∨ q = 1 ∨ q = 2 ∨ q = 3 ∨ q = 4 ∨ q = 5 ∨ q = 6
  · rcases hq with rfl | rfl | rfl | rfl | rfl | rfl | rfl <;> by_cases hd : dg c = true <;> simp [hd] <;> (repeat' split) <;> first | rfl | (simp_all; done) | omega
  · have h0 : q ≠ 0 := fun h => hq (by simp [h])
    have h1 : q ≠ 1 := fun h => hq (by simp [h])
    have h2 : q ≠ 2 := fun h => hq (by simp [h])
    have h3 : q ≠ 3 := fun h => hq (by simp [h])
    have h4 : q ≠ 4 := fun h => hq (by simp [h])
    have h5 : q ≠ 5 := fun h => hq (by simp [h])
    have h6 : q ≠ 6 := fun h => hq (by simp [h])
    by_cases hd : dg c = true <;> simp [hd, h0, h1, h2, h3, h4, h5, h6]
    split <;> rfl
theorem step_eq (k : Nat) (hk : 8 ≤ k) (q c : Int) : numeral_Walk_Step.f k q c = some (stp q c, if nx q c = 0 then q else nx q c) := by
  unfold numeral_Walk_Step.f stp stops
  rw [next_eq k hk]
  simp only [Option.bind_some]
  by_cases h : nx q c = 0
  · simp only [h, if_true, whole_eq, Option.bind_some, digit_eq, alpha_eq]
    by_cases hf : fin q = true
    · by_cases hd : dg c = true
      · simp [hf, hd]
      · by_cases ha : al c = true
        · simp [hf, hd, ha]
        · simp [hf, hd, ha]
          repeat' split
          all_goals first | rfl | (simp_all; done) | omega
    · simp [hf]
  · simp [h]
theorem take_snoc (s : ByteArray) (i : Nat) (h : i < s.size) : (L s).take (i + 1) = (L s).take i ++ [bt s i] := by
  have hlt : i < (L s).length := by rw [L_len]; exact h
  rw [List.take_succ_eq_append_getElem hlt, bt_L s i (L s)[i] (by simp)]
theorem take_all (s : ByteArray) : (L s).take s.size = L s := List.take_of_length_le (by rw [L_len]; omega)
theorem bt_ok (s : ByteArray) (i : Int) : 0 ≤ bt s i ∧ bt s i < 256 := by have := bt_range s i; omega
theorem nil_bytes (s : ByteArray) : s.toList = [] ↔ s.size = 0 := by
  simp only [Go.toList_nil_iff_emptyBytes]
  constructor
  · rintro rfl; rfl
  · intro h; exact ByteArray.ext (Array.eq_empty_of_size_eq_zero (by simpa using h))
theorem is_of_run {s : ByteArray} {q : Int} (h : run 0 (L s) = some q) : isN (L s) = fin q := by rw [isN_run, h]
theorem dead {s : ByteArray} {i j : Nat} (hij : i ≤ j) (h : run 0 ((L s).take i) = none) : run 0 ((L s).take j) = none := by
  have e := (List.take_append_drop i ((L s).take j)).symm
  rw [List.take_take, Nat.min_eq_left hij] at e
  rw [e, run_append, h]; rfl
theorem next_run {s : ByteArray} {i : Nat} {q : Int} (hi : i < s.size) (h : run 0 ((L s).take i) = some q) : run 0 ((L s).take (i + 1)) = if nx q (bt s i) = 0 then none else some (nx q (bt s i)) := by
  rw [take_snoc s i hi, run_snoc, h]; rfl
theorem size_take (s : ByteArray) (i : Nat) (h : i ≤ s.size) : (s.extract 0 i).size = i := by
  rw [← L_len, take_L, List.length_take, L_len]; omega
theorem fault_loop (s : ByteArray) (hs : s.size ≤ 390) (d : Nat) : ∀ (k i : Nat) (q : Int), i + d = s.size → run 0 ((L s).take i) = some q → d + 10 ≤ k →
    ∃ r, numeral_Fault.l0 k s i q = some r ∧ ((r = -1 ∧ isN (L s) = true) ∨ (r = (s.size : Int) ∧ run 0 (L s) ≠ none ∧ isN (L s) = false) ∨ ∃ m : Nat, r = (m : Int) ∧ m < s.size ∧ run 0 ((L s).take m) ≠ none ∧ run 0 ((L s).take (m + 1)) = none) := by
  induction d with
  | zero =>
    intro k i q hi hr hk
    obtain ⟨k, rfl⟩ : ∃ j, k = j + 1 := ⟨k - 1, by omega⟩
    have e : i = s.size := by omega
    subst e
    rw [take_all] at hr
    simp only [numeral_Fault.l0]
    rw [if_neg (by omega), whole_eq]
    simp only [Option.bind_some]
    have hq := is_of_run hr
    by_cases hf : fin q = true
    · simp only [hf, if_true]; exact ⟨_, rfl, .inl ⟨rfl, by rw [hq, hf]⟩⟩
    · simp only [hf, if_false]; exact ⟨_, rfl, .inr (.inl ⟨rfl, by rw [hr]; simp, by rw [hq]; simpa using hf⟩)⟩
  | succ d ih =>
    intro k i q hi hr hk
    obtain ⟨k, rfl⟩ : ∃ j, k = j + 1 := ⟨k - 1, by omega⟩
    simp only [numeral_Fault.l0]
    rw [if_pos (by omega), if_pos (by omega), step_eq k (by omega)]
    simp only [Option.bind_some]
    have hn := next_run (by omega : i < s.size) hr
    by_cases h : nx q (bt s i) = 0
    · have : stp q (bt s i) ≠ 0 := by unfold stp; rw [if_pos h]; split <;> omega
      rw [if_neg this]
      rw [if_pos h] at hn
      exact ⟨_, rfl, .inr (.inr ⟨i, rfl, by omega, by rw [hr]; simp, hn⟩)⟩
    · rw [if_neg h] at hn
      have : stp q (bt s i) = 0 := by unfold stp; rw [if_neg h]
      rw [if_pos this, if_neg h, show wrap64 ((i : Int) + 1) = ((i + 1 : Nat) : Int) by unfold wrap64; omega]
      exact ih k (i + 1) _ (by omega) hn (by omega)
theorem count_loop (s : ByteArray) (hs : s.size ≤ 390) (d : Nat) : ∀ (k i n : Nat) (q : Int), i + d = s.size → run 0 ((L s).take i) = some q → d + 10 ≤ k → n ≤ i → (n = 0 ∨ isN ((L s).take n) = true) → (∀ j, j ≤ i → isN ((L s).take j) = true → j ≤ n) →
    ∃ m : Nat, numeral_Count.l0 k s n i q = some (m : Int) ∧ m ≤ s.size ∧ (m = 0 ∨ isN ((L s).take m) = true) ∧ ∀ j, j ≤ s.size → isN ((L s).take j) = true → j ≤ m := by
  induction d with
  | zero =>
    intro k i n q hi hr hk hn h1 h2
    obtain ⟨k, rfl⟩ : ∃ j, k = j + 1 := ⟨k - 1, by omega⟩
    simp only [numeral_Count.l0]
    rw [if_neg (by omega)]
    exact ⟨n, rfl, by omega, h1, fun j hj => h2 j (by omega)⟩
  | succ d ih =>
    intro k i n q hi hr hk hn h1 h2
    obtain ⟨k, rfl⟩ : ∃ j, k = j + 1 := ⟨k - 1, by omega⟩
    simp only [numeral_Count.l0]
    rw [if_pos (by omega), if_pos (by omega), step_eq k (by omega)]
    simp only [Option.bind_some]
    have hx := next_run (by omega : i < s.size) hr
    by_cases h : nx q (bt s i) = 0
    · have hst : stp q (bt s i) ≠ 0 := by unfold stp; rw [if_pos h]; split <;> omega
      rw [if_neg hst]
      rw [if_pos h] at hx
      refine ⟨n, rfl, by omega, h1, fun j hj hj2 => ?_⟩
      by_cases hji : j ≤ i
      · exact h2 j hji hj2
      · have := dead (s := s) (by omega : i + 1 ≤ j) hx
        rw [isN_run, this] at hj2; cases hj2
    · have hst : stp q (bt s i) = 0 := by unfold stp; rw [if_neg h]
      rw [if_pos hst, if_neg h, whole_eq]
      rw [if_neg h] at hx
      simp only [Option.bind_some]
      have hN : isN ((L s).take (i + 1)) = fin (nx q (bt s i)) := by rw [isN_run, hx]
      rw [show wrap64 ((i : Int) + 1) = ((i + 1 : Nat) : Int) by unfold wrap64; omega]
      by_cases hf : fin (nx q (bt s i)) = true
      · rw [if_pos hf]
        exact ih k (i + 1) (i + 1) _ (by omega) hx (by omega) (by omega) (Or.inr (by rw [hN, hf])) (fun j hj _ => hj)
      · rw [if_neg hf]
        refine ih k (i + 1) n _ (by omega) hx (by omega) (by omega) h1 (fun j hj hj2 => ?_)
        by_cases hji : j ≤ i
        · exact h2 j hji hj2
        · have : j = i + 1 := by omega
          subst this
          rw [hN] at hj2; exact absurd hj2 hf
theorem fault_val (s : ByteArray) (hs : s.size ≤ 390) (k : Nat) (hk : 500 ≤ k) : ∃ r, numeral_Fault.f k s = some r ∧ ((r = -1 ∧ isN (L s) = true) ∨ (r = (s.size : Int) ∧ run 0 (L s) ≠ none ∧ isN (L s) = false) ∨ ∃ m : Nat, r = (m : Int) ∧ m < s.size ∧ run 0 ((L s).take m) ≠ none ∧ run 0 ((L s).take (m + 1)) = none) :=
  fault_loop s hs s.size k 0 0 (by omega) rfl (by omega)
theorem count_val (s : ByteArray) (hs : s.size ≤ 390) (k : Nat) (hk : 500 ≤ k) : ∃ m : Nat, numeral_Count.f k s = some (m : Int) ∧ m ≤ s.size ∧ (m = 0 ∨ isN ((L s).take m) = true) ∧ ∀ j, j ≤ s.size → isN ((L s).take j) = true → j ≤ m :=
  count_loop s hs s.size k 0 0 0 (by omega) rfl (by omega) (by omega) (Or.inl rfl) (fun j hj _ => hj)
theorem is_eq (s : ByteArray) (hs : s.size ≤ 390) (k : Nat) (hk : 500 ≤ k) : numeral_Is.f k s = some (isN (L s)) := by
  unfold numeral_Is.f
  by_cases h0 : s.size = 0
  · rw [if_pos ((nil_bytes s).2 h0), (nil_iff s).2 h0]; rfl
  · rw [if_neg (fun e => h0 ((nil_bytes s).1 e))]
    obtain ⟨m, h1, h2, h3, h4⟩ := count_val s hs k hk
    rw [h1]
    simp only [Option.bind_some]
    congr 1
    rw [Bool.eq_iff_iff]
    constructor
    · intro e
      have e2 : m = s.size := by simp at e; omega
      rcases h3 with h3 | h3
      · omega
      · rw [e2, take_all] at h3; exact h3
    · intro e
      have := h4 s.size (by omega) (by rw [take_all]; exact e)
      simp; omega
theorem nx_end (q c : Int) (h : c = 44 ∨ c = 93 ∨ c = 125 ∨ c = 32 ∨ c = 10 ∨ c = 58) : nx q c = 0 := by
  have hd : ¬ dg c = true := by rw [dg_iff]; omega
  unfold nx
  rw [if_neg (by omega), if_neg (by omega), if_neg (by simp [hd]), if_neg (by omega), if_neg (by simp [hd]), if_neg (by omega), if_neg (by omega), if_neg (by simp [hd])]
/-- A numeral, and what ends it behind it. -/
theorem ended (s e : ByteArray) (hs : s.size ≤ 300) (c : Int) (he : L e = [c]) (hc : c = 44 ∨ c = 93 ∨ c = 125 ∨ c = 32 ∨ c = 10 ∨ c = 58) (hN : isN (L s) = true) (k : Nat) (hk : 500 ≤ k) :
    numeral_Count.f k ((s ++ e) ++ (⟨#[49]⟩ : ByteArray)) = some (s.size : Int) ∧ numeral_Fault.f k (s ++ e) = some (s.size : Int) := by
  have hze : e.size = 1 := by rw [← L_len, he]; rfl
  obtain ⟨q, hq⟩ : ∃ q, run 0 (L s) = some q := by
    cases h : run 0 (L s) with
    | none => rw [isN_run, h] at hN; cases hN
    | some q => exact ⟨q, rfl⟩
  have hnone : run 0 (L s ++ [c]) = none := by rw [run_snoc, hq]; simp [nx_end q c hc]
  have hpos : 0 < s.size := by
    rcases Nat.eq_zero_or_pos s.size with h | h
    · rw [(nil_iff s).2 h] at hN; cases hN
    · exact h
  constructor
  · obtain ⟨m, h1, h2, h3, h4⟩ := count_val ((s ++ e) ++ (⟨#[49]⟩ : ByteArray)) (by rw [ByteArray.size_append, ByteArray.size_append, hze]; show s.size + 1 + 1 ≤ 390; omega) k hk
    have hL : L ((s ++ e) ++ (⟨#[49]⟩ : ByteArray)) = L s ++ [c] ++ [49] := by rw [app_L, app_L, he]; rfl
    have hz : ((s ++ e) ++ (⟨#[49]⟩ : ByteArray)).size = s.size + 2 := by rw [ByteArray.size_append, ByteArray.size_append, hze]; rfl
    rw [hz] at h2
    rw [hL] at h3
    rw [hL, hz] at h4
    have t1 : (L s ++ [c] ++ [49]).take s.size = L s := by rw [List.append_assoc, List.take_append_of_le_length (by rw [L_len]; omega), take_all]
    have t2 : (L s ++ [c] ++ [49]).take (s.size + 1) = L s ++ [c] := by
      rw [List.take_append_of_le_length (by simp [L_len])]
      exact List.take_of_length_le (by simp [L_len])
    have hm := h4 s.size (by omega) (by rw [t1]; exact hN)
    have : m = s.size := by
      rcases h3 with h3 | h3
      · omega
      · rcases Nat.lt_or_ge s.size m with hlt | hge
        · exfalso
          have e2 := (List.take_append_drop (s.size + 1) ((L s ++ [c] ++ [49]).take m)).symm
          rw [List.take_take, Nat.min_eq_left (by omega), t2] at e2
          rw [isN_run, e2, run_append, hnone] at h3
          cases h3
        · omega
    rw [h1, this]
  · obtain ⟨r, h1, h2⟩ := fault_val (s ++ e) (by rw [ByteArray.size_append, hze]; omega) k hk
    have hL : L (s ++ e) = L s ++ [c] := by rw [app_L, he]
    have hz : (s ++ e).size = s.size + 1 := by rw [ByteArray.size_append, hze]
    rw [hL, hz] at h2
    rw [h1]
    rcases h2 with ⟨_, h⟩ | ⟨_, h, _⟩ | ⟨m, rfl, hm, a1, a2⟩
    · rw [isN_run, hnone] at h; cases h
    · exact absurd hnone h
    · congr 1
      rcases Nat.lt_or_ge m s.size with hlt | hge
      · exfalso
        rw [List.take_append_of_le_length (by rw [L_len]; omega)] at a2
        have := dead (s := s) (by omega : m + 1 ≤ s.size) a2
        rw [take_all, hq] at this; cases this
      · have : m = s.size := by omega
        rw [this]
theorem round (s e : ByteArray) (hs : s.size ≤ 300) (c : Int) (he : L e = [c]) (hc : c = 44 ∨ c = 93 ∨ c = 125 ∨ c = 32 ∨ c = 10 ∨ c = 58) (ys : List ByteArray) (n i : Int) (hin : i < n) (h0 : 0 ≤ i) (hl : i < (ys.length : Int)) (hy : rdOf ByteArray.empty ys i = e) (k : Nat) (hk : 500 ≤ k) (hw : wrap64 (i + 1) = i + 1) :
    rifflelaw04_NumeralParts.l0 (k + 1) s ys n i = rifflelaw04_NumeralParts.l0 k s ys n (i + 1) := by
  have hze : e.size = 1 := by rw [← L_len, he]; rfl
  simp only [rifflelaw04_NumeralParts.l0]
  rw [if_pos hin, if_pos h0, if_pos hl, is_eq s (by omega) k hk, hy, hw]
  simp only [Option.bind_some]
  by_cases hN : isN (L s) = true
  · obtain ⟨h1, h2⟩ := ended s e hs c he hc hN k hk
    rw [if_pos hN, if_pos (by omega), if_pos (by rw [ByteArray.size_append]; omega), h1, h2]
    simp
  · rw [if_neg hN]
set_option maxRecDepth 100000 in
theorem alive_so : rifflelaw04_numeralAlive.f 900 = some true := by decide +kernel
theorem ends_all (s : ByteArray) (hs : s.size ≤ 300) (k : Nat) (hk : 600 ≤ k) : rifflelaw04_NumeralParts.j1 k s false = some true := by
  obtain ⟨k, rfl⟩ : ∃ j, k = j + 8 := ⟨k - 8, by omega⟩
  simp only [rifflelaw04_NumeralParts.j1]
  rw [if_neg (by simp)]
  simp only [Option.bind_some]
  generalize hys : ([(⟨#[44]⟩ : ByteArray), (⟨#[93]⟩ : ByteArray), (⟨#[125]⟩ : ByteArray), (⟨#[32]⟩ : ByteArray), (⟨#[10]⟩ : ByteArray), (⟨#[58]⟩ : ByteArray)] : List ByteArray) = ys
  have hl : (ys.length : Int) = 6 := by rw [← hys]; rfl
  rw [hl]
  have W : ∀ i : Int, 0 ≤ i → i ≤ 10 → wrap64 (i + 1) = i + 1 := fun i h1 h2 => by unfold wrap64; omega
  rw [round s ⟨#[44]⟩ hs 44 rfl (by omega) ys 6 0 (by omega) (by omega) (by omega) (by rw [← hys]; rfl) (k + 6) (by omega) (W 0 (by omega) (by omega)),
    round s ⟨#[93]⟩ hs 93 rfl (by omega) ys 6 (0 + 1) (by omega) (by omega) (by omega) (by rw [← hys]; rfl) (k + 5) (by omega) (W _ (by omega) (by omega)),
    round s ⟨#[125]⟩ hs 125 rfl (by omega) ys 6 (0 + 1 + 1) (by omega) (by omega) (by omega) (by rw [← hys]; rfl) (k + 4) (by omega) (W _ (by omega) (by omega)),
    round s ⟨#[32]⟩ hs 32 rfl (by omega) ys 6 (0 + 1 + 1 + 1) (by omega) (by omega) (by omega) (by rw [← hys]; rfl) (k + 3) (by omega) (W _ (by omega) (by omega)),
    round s ⟨#[10]⟩ hs 10 rfl (by omega) ys 6 (0 + 1 + 1 + 1 + 1) (by omega) (by omega) (by omega) (by rw [← hys]; rfl) (k + 2) (by omega) (W _ (by omega) (by omega)),
    round s ⟨#[58]⟩ hs 58 rfl (by omega) ys 6 (0 + 1 + 1 + 1 + 1 + 1) (by omega) (by omega) (by omega) (by rw [← hys]; rfl) (k + 1) (by omega) (W _ (by omega) (by omega))]
  simp only [rifflelaw04_NumeralParts.l0]
  rw [if_neg (by omega)]
theorem parts (s : ByteArray) : rifflelaw04_NumeralParts.f 900 s = some true := by
  unfold rifflelaw04_NumeralParts.f
  rw [alive_so]
  simp only [Option.bind_some, if_true]
  by_cases h : (s.size : Int) > 300
  · rw [if_pos h]
  rw [if_neg h]
  obtain ⟨r, h1, h2⟩ := fault_val s (by omega) 900 (by omega)
  rw [h1, is_eq s (by omega) 900 (by omega)]
  simp only [Option.bind_some]
  have hr : ¬ r < -1 ∧ ¬ r > (s.size : Int) ∧ ((r == -1) != isN (L s)) = false := by
    rcases h2 with ⟨rfl, h⟩ | ⟨rfl, _, h⟩ | ⟨m, rfl, hm, a1, a2⟩
    · exact ⟨by omega, by omega, by rw [h]; rfl⟩
    · have : ((s.size : Int) == -1) = false := by rw [beq_eq_false_iff_ne]; omega
      exact ⟨by omega, by omega, by rw [h, this]; rfl⟩
    · have e1 : ((m : Int) == -1) = false := by rw [beq_eq_false_iff_ne]; omega
      have e2 : isN (L s) = false := by
        have := dead (s := s) (by omega : m + 1 ≤ s.size) a2
        rw [take_all] at this
        rw [isN_run, this]
      exact ⟨by omega, by omega, by rw [e1, e2]; rfl⟩
  rw [if_neg hr.1, if_neg hr.2.1, hr.2.2]
  simp only [rifflelaw04_NumeralParts.j0]
  rw [if_neg (by simp)]
  by_cases hz : r = (s.size : Int)
  · rw [if_pos hz, if_pos (by omega), is_eq _ (by rw [ByteArray.size_append]; show s.size + 1 ≤ 390; omega) 899 (by omega)]
    simp only [Option.bind_some]
    have hrun : run 0 (L s) ≠ none := by
      rcases h2 with ⟨rfl, h⟩ | ⟨rfl, h, _⟩ | ⟨m, rfl, hm, a1, a2⟩
      · omega
      · exact h
      · omega
    have hfin : isN (L s) = false := by
      rcases h2 with ⟨rfl, h⟩ | ⟨rfl, _, h⟩ | ⟨m, rfl, hm, a1, a2⟩
      · omega
      · exact h
      · omega
    have hN : isN (L (s ++ (⟨#[49]⟩ : ByteArray))) = true := by
      have e : L (s ++ (⟨#[49]⟩ : ByteArray)) = L s ++ [49] := by rw [app_L]; rfl
      rw [e]
      by_cases hnil : L s = []
      · rw [hnil]; decide
      · rcases (goes_iff (L s) hnil).2 hrun with h | h
        · rw [hfin] at h; cases h
        · exact h
    rw [hN]
    exact ends_all s (by omega) 899 (by omega)
  · rw [if_neg hz]
    exact ends_all s (by omega) 899 (by omega)
end Go.Proofs.Ytjfoppmpiklfiab.LinkNumeralParts
