/- The printed functions of the reference of UTF-8 told by plain lists of bytes: how a sign begins, and the states. Conditions: none. -/
import Derived.Test.YthfhefkacmepkaaDoorPPathPutsx4
import Derived.Test.YthfhefkacmepkaaDoorByL
namespace Go.Proofs.YthfhefkacmepkaaDoor.Beg
open Go.RowKit Go.Proofs.YthfhefkacmepkaaDoor.PPathPuts Go.Proofs.YthfhefkacmepkaaDoorW.PrintWords Go.Proofs.YthfhefkacmepkaaDoorW.PrintLast
open Go.Proofs.YthfhefkacmepkaaDoor.Num (L L_len bt_L bt0 take_L app_L ext_L L_range str_L nil_iff)
set_option linter.unusedVariables false
set_option linter.unusedSimpArgs false

def sz (c : Int) : Int := if c < 128 then 1 else if 192 ≤ c ∧ c < 224 then 2 else if 224 ≤ c ∧ c < 240 then 3 else if 240 ≤ c ∧ c < 248 then 4 else 0
theorem size_eq (k : Nat) (hk : 2 ≤ k) (c : Int) : riffleref02_size.f k c = some (sz c) := by
  obtain ⟨k, rfl⟩ : ∃ j, k = j + 2 := ⟨k - 2, by omega⟩
  unfold riffleref02_size.f sz
  simp only [riffleref02_size.j0, riffleref02_size.j1]
  have h : c < 128 ∨ (128 ≤ c ∧ c < 192) ∨ (192 ≤ c ∧ c < 224) ∨ (224 ≤ c ∧ c < 240) ∨ (240 ≤ c ∧ c < 248) ∨ 248 ≤ c := by omega
  have d1 : decide (c < 224) = true ↔ c < 224 := decide_eq_true_iff
  have d2 : decide (c < 240) = true ↔ c < 240 := decide_eq_true_iff
  simp only [d1, d2, Bool.false_eq_true, if_false]
  rcases h with h | h | h | h | h | h <;> (repeat (first | rw [if_pos (by omega)] | rw [if_neg (by omega)]))
def nm : List Int → Int
  | [a] => a
  | [a, b] => (a - 192) * 64 + b - 128
  | [a, b, c] => ((a - 224) * 64 + b - 128) * 64 + c - 128
  | [a, b, c, d] => (((a - 240) * 64 + b - 128) * 64 + c - 128) * 64 + d - 128
  | _ => 0
theorem w64 {a : Int} (h1 : -1000000000 ≤ a) (h2 : a ≤ 1000000000) : wrap64 a = a := by unfold wrap64; omega
theorem bti {s : ByteArray} {i : Nat} {c : Int} (h : (L s)[i]? = some c) : bt s (i : Int) = c := bt_L s i c h
theorem num_eq (k : Nat) (hk : 8 ≤ k) (s : ByteArray) (h1 : 1 ≤ s.size) (h4 : s.size ≤ 4) : riffleref02_number.f k s = some (nm (L s)) := by
  obtain ⟨k, rfl⟩ : ∃ j, k = j + 8 := ⟨k - 8, by omega⟩
  have hr := L_range s
  have hl := L_len s
  unfold riffleref02_number.f
  simp only [riffleref02_number.j0, riffleref02_number.j1, riffleref02_number.j2, riffleref02_number.l0]
  match h : L s with
  | [] => rw [h] at hl; simp at hl; omega
  | [a] =>
    rw [h] at hl hr; simp at hl hr
    rw [if_pos (by omega), if_neg (by omega), if_neg (by omega), if_neg (by omega), if_neg (by omega), bt0 h, w64 (by omega) (by omega)]; rfl
  | [a, b] =>
    rw [h] at hl hr; simp at hl hr
    have e1 : bt s 1 = b := bti (s := s) (i := 1) (by rw [h]; rfl)
    have w1 : wrap64 (1 + 1) = 2 := by unfold wrap64; omega
    rw [if_pos (by omega), if_pos (by omega), if_neg (by omega), if_neg (by omega), if_pos (by omega), if_pos (by omega), w1, if_neg (by omega), bt0 h, e1]
    simp only [nm]
    rw [w64 (a := a) (by omega) (by omega), w64 (a := b) (by omega) (by omega), w64 (a := a - 192) (by omega) (by omega), w64 (a := (a - 192) * 64) (by omega) (by omega), w64 (a := (a - 192) * 64 + b) (by omega) (by omega), w64 (a := (a - 192) * 64 + b - 128) (by omega) (by omega)]
  | [a, b, c] =>
    rw [h] at hl hr; simp at hl hr
    have e1 : bt s 1 = b := bti (s := s) (i := 1) (by rw [h]; rfl)
    have e2 : bt s 2 = c := bti (s := s) (i := 2) (by rw [h]; rfl)
    have w1 : wrap64 (1 + 1) = 2 := by unfold wrap64; omega
    have w2 : wrap64 (2 + 1) = 3 := by unfold wrap64; omega
    rw [if_pos (by omega), if_neg (by omega), if_pos (by omega), if_neg (by omega), if_pos (by omega), if_pos (by omega), w1, if_pos (by omega), if_pos (by omega), w2, if_neg (by omega), bt0 h, e1, e2]
    simp only [nm]
    rw [w64 (a := a) (by omega) (by omega), w64 (a := b) (by omega) (by omega), w64 (a := c) (by omega) (by omega), w64 (a := a - 224) (by omega) (by omega), w64 (a := (a - 224) * 64) (by omega) (by omega), w64 (a := (a - 224) * 64 + b) (by omega) (by omega), w64 (a := (a - 224) * 64 + b - 128) (by omega) (by omega), w64 (a := ((a - 224) * 64 + b - 128) * 64) (by omega) (by omega), w64 (a := ((a - 224) * 64 + b - 128) * 64 + c) (by omega) (by omega), w64 (a := ((a - 224) * 64 + b - 128) * 64 + c - 128) (by omega) (by omega)]
  | [a, b, c, d] =>
    rw [h] at hl hr; simp at hl hr
    have e1 : bt s 1 = b := bti (s := s) (i := 1) (by rw [h]; rfl)
    have e2 : bt s 2 = c := bti (s := s) (i := 2) (by rw [h]; rfl)
    have e3 : bt s 3 = d := bti (s := s) (i := 3) (by rw [h]; rfl)
    have w1 : wrap64 (1 + 1) = 2 := by unfold wrap64; omega
    have w2 : wrap64 (2 + 1) = 3 := by unfold wrap64; omega
    have w3 : wrap64 (3 + 1) = 4 := by unfold wrap64; omega
    rw [if_pos (by omega), if_neg (by omega), if_neg (by omega), if_pos (by omega), if_pos (by omega), if_pos (by omega), w1, if_pos (by omega), if_pos (by omega), w2, if_pos (by omega), if_pos (by omega), w3, if_neg (by omega), bt0 h, e1, e2, e3]
    simp only [nm]
    rw [w64 (a := a) (by omega) (by omega), w64 (a := b) (by omega) (by omega), w64 (a := c) (by omega) (by omega), w64 (a := d) (by omega) (by omega), w64 (a := a - 240) (by omega) (by omega), w64 (a := (a - 240) * 64) (by omega) (by omega), w64 (a := (a - 240) * 64 + b) (by omega) (by omega), w64 (a := (a - 240) * 64 + b - 128) (by omega) (by omega),
      w64 (a := ((a - 240) * 64 + b - 128) * 64) (by omega) (by omega), w64 (a := ((a - 240) * 64 + b - 128) * 64 + c) (by omega) (by omega), w64 (a := ((a - 240) * 64 + b - 128) * 64 + c - 128) (by omega) (by omega), w64 (a := (((a - 240) * 64 + b - 128) * 64 + c - 128) * 64) (by omega) (by omega), w64 (a := (((a - 240) * 64 + b - 128) * 64 + c - 128) * 64 + d) (by omega) (by omega), w64 (a := (((a - 240) * 64 + b - 128) * 64 + c - 128) * 64 + d - 128) (by omega) (by omega)]
  | a :: b :: c :: d :: e :: r => rw [h] at hl; simp at hl; omega
def F : Bool × Bool × Int := (false, false, 0)
def least (n : Nat) : Int := if n = 2 then 128 else if n = 3 then 2048 else if n = 4 then 65536 else 0
def judge (m n : Nat) (a b : Int) : Bool × Bool × Int := if b < least n ∨ a > 1114111 ∨ a ≥ 55296 ∧ b ≤ 57343 then F else if m = n then (true, true, a) else (true, false, 0)
def fill (l : List Int) (n : Nat) (c : Int) : List Int := l ++ List.replicate (n - l.length) c
theorem l1_eq (s : ByteArray) (n : Nat) (hn : 1 ≤ n) (hn4 : n ≤ 4) (d : Nat) : ∀ (k : Nat) (lo hi : ByteArray), d + 12 ≤ k → 1 ≤ lo.size → lo.size + d = n → hi.size = lo.size →
    riffleref02_Begins.l1 k s n lo hi = some (judge s.size n (nm (fill (L lo) n 128)) (nm (fill (L hi) n 191))) := by
  induction d with
  | zero =>
    intro k lo hi hk h1 h2 h3
    obtain ⟨k, rfl⟩ : ∃ j, k = j + 2 := ⟨k - 2, by omega⟩
    simp only [riffleref02_Begins.l1]
    have f1 : fill (L lo) n 128 = L lo := by unfold fill; rw [L_len, show n - lo.size = 0 by omega]; simp
    have f2 : fill (L hi) n 191 = L hi := by unfold fill; rw [L_len, show n - hi.size = 0 by omega]; simp
    rw [if_neg (by omega), num_eq _ (by omega) lo h1 (by omega), num_eq _ (by omega) hi (by omega) (by omega), f1, f2]
    simp only [Option.bind_some]
    have hle : (([0, 0, 128, 2048, 65536] : List Int).length : Int) = 5 := rfl
    have hrd : rd [0, 0, 128, 2048, 65536] (n : Int) = least n := by
      have : n = 1 ∨ n = 2 ∨ n = 3 ∨ n = 4 := by omega
      rcases this with rfl | rfl | rfl | rfl <;> rfl
    rw [hle, if_pos (by omega), if_pos (by omega), hrd]
    simp only [riffleref02_Begins.j3]
    unfold judge
    have hm : ((s.size : Int) = (n : Int)) ↔ s.size = n := by omega
    by_cases c1 : nm (L hi) < least n
    · rw [if_pos c1, if_pos trivial, if_pos (Or.inl c1)]; rfl
    · rw [if_neg c1]
      by_cases c2 : nm (L lo) > 1114111
      · rw [if_pos c2, if_pos trivial, if_pos (Or.inr (Or.inl c2))]; rfl
      · rw [if_neg c2]
        by_cases c3 : nm (L lo) ≥ 55296
        · rw [if_pos c3]
          by_cases c4 : nm (L hi) ≤ 57343
          · rw [if_pos (by simpa using c4), if_pos (Or.inr (Or.inr ⟨c3, c4⟩))]; rfl
          · rw [if_neg (by simpa using c4), if_neg (show ¬ (nm (L hi) < least n ∨ nm (L lo) > 1114111 ∨ nm (L lo) ≥ 55296 ∧ nm (L hi) ≤ 57343) by omega)]
            by_cases c5 : s.size = n
            · rw [if_pos (hm.2 c5), if_pos c5]
            · rw [if_neg (fun e => c5 (hm.1 e)), if_neg c5]
        · rw [if_neg c3, if_neg (by simp), if_neg (show ¬ (nm (L hi) < least n ∨ nm (L lo) > 1114111 ∨ nm (L lo) ≥ 55296 ∧ nm (L hi) ≤ 57343) by omega)]
          by_cases c5 : s.size = n
          · rw [if_pos (hm.2 c5), if_pos c5]
          · rw [if_neg (fun e => c5 (hm.1 e)), if_neg c5]
  | succ d ih =>
    intro k lo hi hk h1 h2 h3
    obtain ⟨k, rfl⟩ : ∃ j, k = j + 1 := ⟨k - 1, by omega⟩
    simp only [riffleref02_Begins.l1]
    have z1 : (strOfNums [128]).size = 1 := by rw [← L_len, str_L 128 (by omega) (by omega)]; rfl
    have z2 : (strOfNums [191]).size = 1 := by rw [← L_len, str_L 191 (by omega) (by omega)]; rfl
    rw [if_pos (by omega)]
    simp only [Option.bind_some]
    rw [z1, z2, if_pos (by omega), if_pos (by omega), ih k _ _ (by omega) (by rw [ByteArray.size_append]; omega) (by rw [ByteArray.size_append]; omega) (by rw [ByteArray.size_append, ByteArray.size_append]; omega)]
    have g : ∀ (x : ByteArray) (c : Int), x.size = lo.size → 0 ≤ c → c < 256 → fill (L (x ++ strOfNums [c])) n c = fill (L x) n c := by
      intro x c hx h0 h1
      unfold fill
      rw [app_L, str_L c h0 h1, List.append_assoc]
      congr 1
      simp only [List.length_append, L_len, List.length_singleton]
      rw [show n - x.size = (n - (x.size + 1)) + 1 by omega, List.replicate_succ]; rfl
    rw [g lo 128 rfl (by omega) (by omega), g hi 191 h3 (by omega) (by omega)]
def ct (c : Int) : Bool := decide (128 ≤ c ∧ c ≤ 191)
def begN (l : List Int) (n : Nat) : Bool × Bool × Int := if (l.drop 1).all ct = true then judge l.length n (nm (fill l n 128)) (nm (fill l n 191)) else F
theorem l0_eq (s : ByteArray) (n : Nat) (hn : 1 ≤ n) (hn4 : n ≤ 4) (h1 : 1 ≤ s.size) (hsn : s.size ≤ n) (d : Nat) : ∀ (k i : Nat), i + d = s.size → d + 20 ≤ k →
    riffleref02_Begins.l0 k s n i = some (if ((L s).drop i).all ct = true then judge s.size n (nm (fill (L s) n 128)) (nm (fill (L s) n 191)) else F) := by
  induction d with
  | zero =>
    intro k i hi hk
    obtain ⟨k, rfl⟩ : ∃ j, k = j + 1 := ⟨k - 1, by omega⟩
    simp only [riffleref02_Begins.l0]
    rw [if_neg (by omega), List.drop_eq_nil_of_le (by rw [L_len]; omega), l1_eq s n hn hn4 (n - s.size) k s s (by omega) h1 (by omega) rfl]
    simp
  | succ d ih =>
    intro k i hi hk
    obtain ⟨k, rfl⟩ : ∃ j, k = j + 1 := ⟨k - 1, by omega⟩
    simp only [riffleref02_Begins.l0]
    have hlt : i < (L s).length := by rw [L_len]; omega
    rw [if_pos (by omega), if_pos (by omega), bt_L s i (L s)[i] (by simp), List.drop_eq_getElem_cons hlt]
    simp only [List.all_cons]
    by_cases c1 : (L s)[i] < 128
    · rw [if_pos c1]
      have : ct (L s)[i] = false := by simp [ct]; omega
      simp [this, F]
    · rw [if_neg c1]
      by_cases c2 : (L s)[i] > 191
      · rw [if_pos c2]
        have : ct (L s)[i] = false := by simp [ct]; omega
        simp [this, F]
      · rw [if_neg c2, show wrap64 ((i : Int) + 1) = ((i + 1 : Nat) : Int) by unfold wrap64; omega, ih k (i + 1) (by omega) (by omega)]
        have : ct (L s)[i] = true := by simp [ct]; omega
        simp [this]
def beg : List Int → Bool × Bool × Int
  | [] => (true, false, 0)
  | c :: r => if sz c = 0 ∨ ((c :: r).length : Int) > sz c then F else begN (c :: r) (sz c).toNat
theorem sz_range (c : Int) : 0 ≤ sz c ∧ sz c ≤ 4 := by unfold sz; repeat' split
                                                       all_goals omega
theorem begins_eq (k : Nat) (hk : 40 ≤ k) (s : ByteArray) : riffleref02_Begins.f k s = some (beg (L s)) := by
  obtain ⟨k, rfl⟩ : ∃ j, k = j + 1 := ⟨k - 1, by omega⟩
  unfold riffleref02_Begins.f
  cases h : L s with
  | nil => rw [if_pos (by have := (nil_iff s).1 h; omega)]; rfl
  | cons c r =>
    have hl : s.size = r.length + 1 := by rw [← L_len, h]; rfl
    have hsz := sz_range c
    rw [if_neg (by omega), if_pos (by omega), bt0 h, size_eq _ (by omega)]
    simp only [Option.bind_some, riffleref02_Begins.j0, beg]
    by_cases c0 : sz c = 0
    · rw [if_pos c0, if_pos trivial, if_pos (Or.inl c0)]; rfl
    · rw [if_neg c0]
      by_cases c1 : (s.size : Int) > sz c
      · rw [if_pos (by simpa using c1), if_pos (Or.inr (by simp; omega))]; rfl
      · rw [if_neg (by simpa using c1), if_neg (show ¬ (sz c = 0 ∨ ((c :: r).length : Int) > sz c) by simp only [List.length_cons]; omega)]
        have e : sz c = ((sz c).toNat : Int) := by omega
        have := l0_eq s (sz c).toNat (by omega) (by omega) (by omega) (by omega) (s.size - 1) k 1 (by omega) (by omega)
        rw [← e] at this
        have h1 : ((1 : Nat) : Int) = 1 := rfl
        rw [h1] at this
        rw [this]
        unfold begN
        rw [h, hl]; rfl
theorem judge_ok {m n : Nat} {a b : Int} (h : ¬ (b < least n ∨ a > 1114111 ∨ a ≥ 55296 ∧ b ≤ 57343)) : judge m n a b = if m = n then (true, true, a) else (true, false, 0) := by unfold judge; rw [if_neg h]
theorem judge_bad {m n : Nat} {a b : Int} (h : b < least n ∨ a > 1114111 ∨ a ≥ 55296 ∧ b ≤ 57343) : judge m n a b = F := by unfold judge; rw [if_pos h]
theorem beg_cons (c : Int) (r : List Int) (n : Nat) (h : sz c = (n : Int)) (hn : 1 ≤ n) (hl : r.length + 1 ≤ n) (hc : r.all ct = true) : beg (c :: r) = judge (r.length + 1) n (nm (fill (c :: r) n 128)) (nm (fill (c :: r) n 191)) := by
  simp only [beg]
  rw [if_neg (by simp only [List.length_cons]; omega), h]
  unfold begN
  rw [if_pos (by simpa using hc)]; rfl
theorem beg_ct (c : Int) (r : List Int) (hc : r.all ct = false) : beg (c :: r) = F := by
  simp only [beg]
  split
  · rfl
  · unfold begN; rw [if_neg (by simp at hc ⊢; exact hc)]
theorem beg_0 (c : Int) (r : List Int) (h : sz c = 0) : beg (c :: r) = F := by simp only [beg]; rw [if_pos (Or.inl h)]
theorem sz1 {c : Int} (h : c < 128) : sz c = ((1 : Nat) : Int) := by unfold sz; rw [if_pos h]; rfl
theorem sz2 {c : Int} (h : 192 ≤ c ∧ c < 224) : sz c = ((2 : Nat) : Int) := by unfold sz; rw [if_neg (by omega), if_pos h]; rfl
theorem sz3 {c : Int} (h : 224 ≤ c ∧ c < 240) : sz c = ((3 : Nat) : Int) := by unfold sz; rw [if_neg (by omega), if_neg (by omega), if_pos h]; rfl
theorem sz4 {c : Int} (h : 240 ≤ c ∧ c < 248) : sz c = ((4 : Nat) : Int) := by unfold sz; rw [if_neg (by omega), if_neg (by omega), if_neg (by omega), if_pos h]; rfl
theorem sz0 {c : Int} (h : (128 ≤ c ∧ c < 192) ∨ 248 ≤ c) : sz c = 0 := by unfold sz; rw [if_neg (by omega), if_neg (by omega), if_neg (by omega), if_neg (by omega)]
theorem ct_true {c : Int} (h : 128 ≤ c ∧ c ≤ 191) : ct c = true := by simp [ct]; omega
theorem ct_false {c : Int} (h : c < 128 ∨ 191 < c) : ct c = false := by simp [ct]; omega

theorem least2 : least 2 = 128 := rfl
theorem least3 : least 3 = 2048 := rfl
theorem least4 : least 4 = 65536 := rfl
theorem least1 : least 1 = 0 := rfl
theorem range_L (s : ByteArray) (a b : Nat) : L (s.extract a b) = ((L s).take b).drop a := by
  unfold L
  rw [ByteArray.data_extract, Array.toList_extract, List.map_take, List.map_drop, List.drop_take]
theorem bt_ok (s : ByteArray) (i : Int) : 0 ≤ bt s i ∧ bt s i < 256 := by have := bt_range s i; omega
theorem range_snoc (s : ByteArray) (a i : Nat) (h : i < s.size) (ha : a ≤ i) : ((L s).take (i + 1)).drop a = ((L s).take i).drop a ++ [bt s i] := by
  have hlt : i < (L s).length := by rw [L_len]; exact h
  rw [List.take_succ_eq_append_getElem hlt, bt_L s i (L s)[i] (by simp), List.drop_append_of_le_length (by rw [List.length_take]; omega)]
end Go.Proofs.YthfhefkacmepkaaDoor.Beg
