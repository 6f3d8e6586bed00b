/- The plain law of numerals over lists of bytes' numbers: the grammar read part by part, and the states byte by byte, tell the same. Conditions: none. -/
namespace Go.Proofs.Ytjfoppmpiklfiab.Num
set_option linter.unusedVariables false
set_option linter.unusedSimpArgs false

def dg (c : Int) : Bool := decide (48 ≤ c ∧ c ≤ 57)
def nd : List Int → Nat
  | [] => 0
  | c :: r => if dg c = true then nd r + 1 else 0
def D (l : List Int) : Bool := !l.isEmpty && nd l == l.length
def X : List Int → Bool
  | [] => false
  | c :: q => if c = 43 ∨ c = 45 then D q else D (c :: q)
def E : List Int → Bool
  | [] => true
  | c :: r => if c = 101 ∨ c = 69 then X r else false
def Fr : List Int → Bool
  | [] => true
  | c :: r => if c = 46 then (decide (nd r ≠ 0) && E (r.drop (nd r))) else E (c :: r)
def I (l : List Int) : Bool := decide (nd l ≠ 0) && !(decide (nd l > 1) && l.headD 0 == 48) && Fr (l.drop (nd l))
def isN : List Int → Bool
  | [] => false
  | c :: r => if c = 45 then I r else I (c :: r)

def nx (q c : Int) : Int :=
  if q = 0 ∧ c = 45 then 1
  else if (q = 0 ∨ q = 1) ∧ c = 48 then 2
  else if (q = 0 ∨ q = 1 ∨ q = 3) ∧ dg c = true then 3
  else if (q = 2 ∨ q = 3) ∧ c = 46 then 4
  else if (q = 4 ∨ q = 5) ∧ dg c = true then 5
  else if (q = 2 ∨ q = 3 ∨ q = 5) ∧ (c = 101 ∨ c = 69) then 6
  else if q = 6 ∧ (c = 43 ∨ c = 45) then 7
  else if q ≥ 6 ∧ dg c = true then 8
  else 0
def fin (q : Int) : Bool := decide (q = 2 ∨ q = 3 ∨ q = 5 ∨ q = 8)
def acc : Int → List Int → Bool
  | q, [] => fin q
  | q, c :: r => if nx q c = 0 then false else acc (nx q c) r

theorem dg_iff {c : Int} : dg c = true ↔ 48 ≤ c ∧ c ≤ 57 := by simp [dg]
theorem nd_le : ∀ l : List Int, nd l ≤ l.length
  | [] => by simp [nd]
  | c :: r => by
    simp only [nd, List.length_cons]
    have := nd_le r
    split <;> omega

theorem acc8 : ∀ l, acc 8 l = (nd l == l.length)
  | [] => by simp [acc, nd, fin]
  | c :: r => by
    have h : nx 8 c = if dg c = true then 8 else 0 := by simp [nx]
    simp only [acc, h]
    by_cases hc : dg c = true
    · simp only [hc, if_true, nd, List.length_cons]
      rw [if_neg (by omega), acc8 r]
      simp
    · simp [hc, nd]
theorem acc7 (l : List Int) : acc 7 l = D l := by
  cases l with
  | nil => simp [acc, fin, D]
  | cons c r =>
    have h : nx 7 c = if dg c = true then 8 else 0 := by simp [nx]
    simp only [acc, h]
    by_cases hc : dg c = true
    · simp only [hc, if_true, D, nd, List.length_cons]
      rw [if_neg (by omega), acc8 r]; simp
    · simp [hc, D, nd]
theorem acc6 (l : List Int) : acc 6 l = X l := by
  cases l with
  | nil => simp [acc, fin, X]
  | cons c r =>
    have h : nx 6 c = if c = 43 ∨ c = 45 then 7 else if dg c = true then 8 else 0 := by simp [nx]
    simp only [acc, h, X]
    by_cases hs : c = 43 ∨ c = 45
    · simp only [hs, if_true]; rw [if_neg (by omega), acc7]
    · simp only [hs, if_false]
      by_cases hc : dg c = true
      · simp only [hc, if_true, D, nd, List.length_cons]
        rw [if_neg (by omega), acc8 r]; simp
      · simp [hc, D, nd]
theorem nd_false {c : Int} {r : List Int} (h : ¬ dg c = true) : nd (c :: r) = 0 := by simp [nd, h]
theorem nd_true {c : Int} {r : List Int} (h : dg c = true) : nd (c :: r) = nd r + 1 := by simp [nd, h]
theorem not_dg {c : Int} (h : c = 43 ∨ c = 45 ∨ c = 46 ∨ c = 69 ∨ c = 101) : ¬ dg c = true := by rw [dg_iff]; omega
theorem acc5 : ∀ l, acc 5 l = E (l.drop (nd l))
  | [] => by simp [acc, nd, fin, E]
  | c :: r => by
    have h : nx 5 c = if dg c = true then 5 else if c = 101 ∨ c = 69 then 6 else 0 := by simp [nx]
    simp only [acc, h]
    by_cases hc : dg c = true
    · rw [nd_true hc]; simp only [hc, if_true, List.drop_succ_cons]
      rw [if_neg (by omega), acc5 r]
    · rw [nd_false hc]; simp only [hc, if_false, List.drop_zero, E]
      by_cases he : c = 101 ∨ c = 69
      · simp only [he, if_true]; rw [if_neg (by simp), if_neg (by simp), acc6]
      · simp [he]
theorem acc4 (l : List Int) : acc 4 l = (decide (nd l ≠ 0) && E (l.drop (nd l))) := by
  cases l with
  | nil => simp [acc, fin, nd]
  | cons c r =>
    have h : nx 4 c = if dg c = true then 5 else 0 := by simp [nx]
    simp only [acc, h]
    by_cases hc : dg c = true
    · rw [nd_true hc]; simp only [hc, if_true, List.drop_succ_cons]
      rw [if_neg (by omega), acc5 r]; simp
    · rw [nd_false hc]; simp [hc]
theorem acc3 : ∀ l, acc 3 l = Fr (l.drop (nd l))
  | [] => by simp [acc, nd, fin, Fr]
  | c :: r => by
    have h : nx 3 c = if dg c = true then 3 else if c = 46 then 4 else if c = 101 ∨ c = 69 then 6 else 0 := by simp [nx]
    simp only [acc, h]
    by_cases hc : dg c = true
    · rw [nd_true hc]; simp only [hc, if_true, List.drop_succ_cons]
      rw [if_neg (by omega), acc3 r]
    · rw [nd_false hc]; simp only [hc, if_false, List.drop_zero, Fr]
      by_cases hp : c = 46
      · simp only [hp, if_true]; rw [if_neg (by simp), if_neg (by simp), acc4]
      · simp only [hp, if_false, E]
        by_cases he : c = 101 ∨ c = 69
        · simp only [he, if_true]; rw [if_neg (by simp), if_neg (by simp), acc6]
        · simp [he]
theorem acc2 (l : List Int) : acc 2 l = Fr l := by
  cases l with
  | nil => simp [acc, fin, Fr]
  | cons c r =>
    have h : nx 2 c = if c = 46 then 4 else if c = 101 ∨ c = 69 then 6 else 0 := by simp [nx]
    simp only [acc, h, Fr]
    by_cases hp : c = 46
    · simp only [hp, if_true]; rw [if_neg (by omega), acc4]
    · simp only [hp, if_false, E]
      by_cases he : c = 101 ∨ c = 69
      · simp only [he, if_true]; rw [if_neg (by omega), acc6]
      · simp [he]
theorem Fr_digit {c : Int} {r : List Int} (h : dg c = true) : Fr (c :: r) = false := by
  rw [dg_iff] at h
  simp only [Fr, E]
  rw [if_neg (by omega), if_neg (by omega)]
theorem acc1 (l : List Int) : acc 1 l = I l := by
  cases l with
  | nil => simp [acc, fin, I, nd]
  | cons c r =>
    have h : nx 1 c = if c = 48 then 2 else if dg c = true then 3 else 0 := by simp [nx]
    simp only [acc, h]
    by_cases h0 : c = 48
    · have hc : dg c = true := by rw [dg_iff]; omega
      simp only [h0, if_true]
      rw [if_neg (by omega), acc2]
      unfold I
      rw [show (48 : Int) = c from h0.symm, nd_true hc]
      simp only [List.drop_succ_cons, List.headD_cons]
      by_cases hn : nd r = 0
      · simp [hn]
      · cases r with
        | nil => simp [nd] at hn
        | cons d q =>
          have hd : dg d = true := by
            by_cases hd : dg d = true
            · exact hd
            · exact absurd (nd_false hd) hn
          rw [Fr_digit hd]
          have hn' : 0 < nd (d :: q) := by omega
          simp [h0, hn']
    · simp only [h0, if_false]
      by_cases hc : dg c = true
      · simp only [hc, if_true]
        rw [if_neg (by omega), acc3]
        unfold I
        rw [nd_true hc]
        simp [h0]
      · unfold I
        rw [nd_false hc]
        simp [hc]
theorem acc0 (l : List Int) : acc 0 l = isN l := by
  cases l with
  | nil => simp [acc, fin, isN]
  | cons c r =>
    by_cases hm : c = 45
    · have h : nx 0 c = 1 := by simp [nx, hm]
      simp only [acc, h, isN]
      rw [if_neg (by omega), if_pos hm, acc1]
    · have h : nx 0 c = nx 1 c := by simp [nx, hm]
      simp only [isN]
      rw [if_neg hm, ← acc1]
      simp only [acc, h]

/-! The states as far as one comes. -/
def run : Int → List Int → Option Int
  | q, [] => some q
  | q, c :: r => if nx q c = 0 then none else run (nx q c) r
theorem run_append : ∀ (l m : List Int) (q : Int), run q (l ++ m) = (run q l).bind fun p => run p m
  | [], m, q => by simp [run]
  | c :: r, m, q => by
    simp only [List.cons_append, run]
    split
    · rfl
    · exact run_append r m _
theorem run_snoc (l : List Int) (q c : Int) : run q (l ++ [c]) = (run q l).bind fun p => if nx p c = 0 then none else some (nx p c) := by
  rw [run_append]; rfl
theorem acc_run : ∀ (l : List Int) (q : Int), acc q l = (match run q l with | some p => fin p | none => false)
  | [], q => rfl
  | c :: r, q => by
    simp only [acc, run]
    split
    · rfl
    · exact acc_run r _
theorem nx_range (q c : Int) : 0 ≤ nx q c ∧ nx q c ≤ 8 := by
  unfold nx; repeat' split
  all_goals omega
theorem run_range : ∀ (l : List Int) (q p : Int), run q l = some p → l ≠ [] → 1 ≤ p ∧ p ≤ 8
  | [], _, _, _, h => absurd rfl h
  | [c], q, p, h, _ => by
    simp only [run] at h
    have := nx_range q c
    split at h
    · cases h
    · simp at h; omega
  | c :: d :: r, q, p, h, _ => by
    rw [run] at h
    split at h
    · cases h
    · exact run_range (d :: r) _ p h (by simp)
theorem alive (p : Int) (h1 : 1 ≤ p) (h8 : p ≤ 8) : fin p = true ∨ (nx p 49 ≠ 0 ∧ fin (nx p 49) = true) := by
  have : p = 1 ∨ p = 2 ∨ p = 3 ∨ p = 4 ∨ p = 5 ∨ p = 6 ∨ p = 7 ∨ p = 8 := by omega
  rcases this with rfl | rfl | rfl | rfl | rfl | rfl | rfl | rfl <;> decide
theorem isN_run (l : List Int) : isN l = (match run 0 l with | some p => fin p | none => false) := by rw [← acc0, acc_run]
/-- A text goes on to be a numeral just if the states come to its end. -/
theorem goes_iff (l : List Int) (h : l ≠ []) : (isN l = true ∨ isN (l ++ [49]) = true) ↔ run 0 l ≠ none := by
  rw [isN_run, isN_run, run_snoc]
  cases hr : run 0 l with
  | none => simp
  | some p =>
    obtain ⟨h1, h8⟩ := run_range l 0 p hr h
    simp only [Option.bind_some, ne_eq, reduceCtorEq, not_false_iff, iff_true]
    rcases alive p h1 h8 with h | ⟨h, h'⟩
    · exact .inl h
    · right; rw [if_neg h]; exact h'
end Go.Proofs.Ytjfoppmpiklfiab.Num
