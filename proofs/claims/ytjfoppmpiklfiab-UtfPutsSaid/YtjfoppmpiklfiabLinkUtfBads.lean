/- The printed functions of the law UtfBads told by plain lists of bytes: how a sign begins, and the states. Conditions: none. -/
import Derived.Test.YtjfoppmpiklfiabPUtfBadsx3
import Derived.Test.YtjfoppmpiklfiabNumL
namespace Go.Proofs.Ytjfoppmpiklfiab.LinkUtfBads
open Go.RowKit Go.Proofs.Ytjfoppmpiklfiab.PUtfBads Go.Proofs.YtjfoppmpiklfiabW.PrintWords Go.Proofs.YtjfoppmpiklfiabW.PrintLast
open Go.Proofs.Ytjfoppmpiklfiab.Num (L L_len bt_L bt0 take_L app_L ext_L L_range str_L nil_iff)
set_option linter.unusedVariables false
set_option linter.unusedSimpArgs false

def sz (c : Int) : Int := if c < 128 then 1 else if 192 ≤ c ∧ c < 224 then 2 else if 224 ≤ c ∧ c < 240 then 3 else if 240 ≤ c ∧ c < 248 then 4 else 0
theorem size_eq (k : Nat) (hk : 2 ≤ k) (c : Int) : riffleref02_size.f k c = some (sz c) := by
  obtain ⟨k, rfl⟩ : ∃ j, k = j + 2 := ⟨k - 2, by omega⟩
  unfold riffleref02_size.f sz
  simp only [riffleref02_size.j0, riffleref02_size.j1]
  have h : c < 128 ∨ (128 ≤ c ∧ c < 192) ∨ (192 ≤ c ∧ c < 224) ∨ (224 ≤ c ∧ c < 240) ∨ (240 ≤ c ∧ c < 248) ∨ 248 ≤ c := by omega
  have d1 : decide (c < 224) = true ↔ c < 224 := decide_eq_true_iff
  have d2 : decide (c < 240) = true ↔ c < 240 := decide_eq_true_iff
  simp only [d1, d2, Bool.false_eq_true, if_false]
  rcases h with h | h | h | h | h | h <;> (repeat (first | rw [if_pos (by omega)] | rw [if_neg (by omega)]))
def nm : List Int → Int
  | [a] => a
  | [a, b] => (a - 192) * 64 + b - 128
  | [a, b, c] => ((a - 224) * 64 + b - 128) * 64 + c - 128
  | [a, b, c, d] => (((a - 240) * 64 + b - 128) * 64 + c - 128) * 64 + d - 128
  | _ => 0
theorem w64 {a : Int} (h1 : -1000000000 ≤ a) (h2 : a ≤ 1000000000) : wrap64 a = a := by unfold wrap64; omega
theorem bti {s : ByteArray} {i : Nat} {c : Int} (h : (L s)[i]? = some c) : bt s (i : Int) = c := bt_L s i c h
theorem num_eq (k : Nat) (hk : 8 ≤ k) (s : ByteArray) (h1 : 1 ≤ s.size) (h4 : s.size ≤ 4) : riffleref02_number.f k s = some (nm (L s)) := by
  obtain ⟨k, rfl⟩ : ∃ j, k = j + 8 := ⟨k - 8, by omega⟩
  have hr := L_range s
  have hl := L_len s
  unfold riffleref02_number.f
  simp only [riffleref02_number.j0, riffleref02_number.j1, riffleref02_number.j2, riffleref02_number.l0]
  match h : L s with
  | [] => rw [h] at hl; simp at hl; omega
  | [a] =>
    rw [h] at hl hr; simp at hl hr
    rw [if_pos (by omega), if_neg (by omega), if_neg (by omega), if_neg (by omega), if_neg (by omega), bt0 h, w64 (by omega) (by omega)]; rfl
  | [a, b] =>
    rw [h] at hl hr; simp at hl hr
    have e1 : bt s 1 = b := bti (s := s) (i := 1) (by rw [h]; rfl)
    have w1 : wrap64 (1 + 1) = 2 := by unfold wrap64; omega
    rw [if_pos (by omega), if_pos (by omega), if_neg (by omega), if_neg (by omega), if_pos (by omega), if_pos (by omega), w1, if_neg (by omega), bt0 h, e1]
    simp only [nm]
    rw [w64 (a := a) (by omega) (by omega), w64 (a := b) (by omega) (by omega), w64 (a := a - 192) (by omega) (by omega), w64 (a := (a - 192) * 64) (by omega) (by omega), w64 (a := (a - 192) * 64 + b) (by omega) (by omega), w64 (a := (a - 192) * 64 + b - 128) (by omega) (by omega)]
  | [a, b, c] =>
    rw [h] at hl hr; simp at hl hr
    have e1 : bt s 1 = b := bti (s := s) (i := 1) (by rw [h]; rfl)
    have e2 : bt s 2 = c := bti (s := s) (i := 2) (by rw [h]; rfl)
    have w1 : wrap64 (1 + 1) = 2 := by unfold wrap64; omega
    have w2 : wrap64 (2 + 1) = 3 := by unfold wrap64; omega
    rw [if_pos (by omega), if_neg (by omega), if_pos (by omega), if_neg (by omega), if_pos (by omega), if_pos (by omega), w1, if_pos (by omega), if_pos (by omega), w2, if_neg (by omega), bt0 h, e1, e2]
    simp only [nm]
    rw [w64 (a := a) (by omega) (by omega), w64 (a := b) (by omega) (by omega), w64 (a := c) (by omega) (by omega), w64 (a := a - 224) (by omega) (by omega), w64 (a := (a - 224) * 64) (by omega) (by omega), w64 (a := (a - 224) * 64 + b) (by omega) (by omega), w64 (a := (a - 224) * 64 + b - 128) (by omega) (by omega), w64 (a := ((a - 224) * 64 + b - 128) * 64) (by omega) (by omega), w64 (a := ((a - 224) * 64 + b - 128) * 64 + c) (by omega) (by omega), w64 (a := ((a - 224) * 64 + b - 128) * 64 + c - 128) (by omega) (by omega)]
  | [a, b, c, d] =>
    rw [h] at hl hr; simp at hl hr
    have e1 : bt s 1 = b := bti (s := s) (i := 1) (by rw [h]; rfl)
    have e2 : bt s 2 = c := bti (s := s) (i := 2) (by rw [h]; rfl)
    have e3 : bt s 3 = d := bti (s := s) (i := 3) (by rw [h]; rfl)
    have w1 : wrap64 (1 + 1) = 2 := by unfold wrap64; omega
    have w2 : wrap64 (2 + 1) = 3 := by unfold wrap64; omega
    have w3 : wrap64 (3 + 1) = 4 := by unfold wrap64; omega
    rw [if_pos (by omega), if_neg (by omega), if_neg (by omega), if_pos (by omega), if_pos (by omega), if_pos (by omega), w1, if_pos (by omega), if_pos (by omega), w2, if_pos (by omega), if_pos (by omega), w3, if_neg (by omega), bt0 h, e1, e2, e3]
    simp only [nm]
    rw [w64 (a := a) (by omega) (by omega), w64 (a := b) (by omega) (by omega), w64 (a := c) (by omega) (by omega), w64 (a := d) (by omega) (by omega), w64 (a := a - 240) (by omega) (by omega), w64 (a := (a - 240) * 64) (by omega) (by omega), w64 (a := (a - 240) * 64 + b) (by omega) (by omega), w64 (a := (a - 240) * 64 + b - 128) (by omega) (by omega),
      w64 (a := ((a - 240) * 64 + b - 128) * 64) (by omega) (by omega), w64 (a := ((a - 240) * 64 + b - 128) * 64 + c) (by omega) (by omega), w64 (a := ((a - 240) * 64 + b - 128) * 64 + c - 128) (by omega) (by omega), w64 (a := (((a - 240) * 64 + b - 128) * 64 + c - 128) * 64) (by omega) (by omega), w64 (a := (((a - 240) * 64 + b - 128) * 64 + c - 128) * 64 + d) (by omega) (by omega), w64 (a := (((a - 240) * 64 + b - 128) * 64 + c - 128) * 64 + d - 128) (by omega) (by omega)]
  | a :: b :: c :: d :: e :: r => rw [h] at hl; simp at hl; omega
def F : Bool × Bool × Int := (false, false, 0)
def least (n : Nat) : Int := if n = 2 then 128 else if n = 3 then 2048 else if n = 4 then 65536 else 0
def judge (m n : Nat) (a b : Int) : Bool × Bool × Int := if b < least n ∨ a > 1114111 ∨ a ≥ 55296 ∧ b ≤ 57343 then F else if m = n then (true, true, a) else (true, false, 0)
def fill (l : List Int) (n : Nat) (c : Int) : List Int := l ++ List.replicate (n - l.length) c
theorem l1_eq (s : ByteArray) (n : Nat) (hn : 1 ≤ n) (hn4 : n ≤ 4) (d : Nat) : ∀ (k : Nat) (lo hi : ByteArray), d + 12 ≤ k → 1 ≤ lo.size → lo.size + d = n → hi.size = lo.size →
    riffleref02_Begins.l1 k s n lo hi = some (judge s.size n (nm (fill (L lo) n 128)) (nm (fill (L hi) n 191))) := by
  induction d with
  | zero =>
    intro k lo hi hk h1 h2 h3
    obtain ⟨k, rfl⟩ : ∃ j, k = j + 2 := ⟨k - 2, by omega⟩
    simp only [riffleref02_Begins.l1]
    have f1 : fill (L lo) n 128 = L lo := by unfold fill; rw [L_len, show n - lo.size = 0 by omega]; simp
    have f2 : fill (L hi) n 191 = L hi := by unfold fill; rw [L_len, show n - hi.size = 0 by omega]; simp
    rw [if_neg (by omega), num_eq _ (by omega) lo h1 (by omega), num_eq _ (by omega) hi (by omega) (by omega), f1, f2]
    simp only [Option.bind_some]
    have hle : (([0, 0, 128, 2048, 65536] : List Int).length : Int) = 5 := rfl
    have hrd : rd [0, 0, 128, 2048, 65536] (n : Int) = least n := by
      have : n = 1 ∨ n = 2 ∨ n = 3 ∨ n = 4 := by omega
      rcases this with rfl | rfl | rfl | rfl <;> rfl
    rw [hle, if_pos (by omega), if_pos (by omega), hrd]
    simp only [riffleref02_Begins.j3]
    unfold judge
    have hm : ((s.size : Int) = (n : Int)) ↔ s.size = n := by omega
    by_cases c1 : nm (L hi) < least n
    · rw [if_pos c1, if_pos trivial, if_pos (Or.inl c1)]; rfl
    · rw [if_neg c1]
      by_cases c2 : nm (L lo) > 1114111
      · rw [if_pos c2, if_pos trivial, if_pos (Or.inr (Or.inl c2))]; rfl
      · rw [if_neg c2]
        by_cases c3 : nm (L lo) ≥ 55296
        · rw [if_pos c3]
          by_cases c4 : nm (L hi) ≤ 57343
          · rw [if_pos (by simpa using c4), if_pos (Or.inr (Or.inr ⟨c3, c4⟩))]; rfl
          · rw [if_neg (by simpa using c4), if_neg (show ¬ (nm (L hi) < least n ∨ nm (L lo) > 1114111 ∨ nm (L lo) ≥ 55296 ∧ nm (L hi) ≤ 57343) by omega)]
            by_cases c5 : s.size = n
            · rw [if_pos (hm.2 c5), if_pos c5]
            · rw [if_neg (fun e => c5 (hm.1 e)), if_neg c5]
        · rw [if_neg c3, if_neg (by simp), if_neg (show ¬ (nm (L hi) < least n ∨ nm (L lo) > 1114111 ∨ nm (L lo) ≥ 55296 ∧ nm (L hi) ≤ 57343) by omega)]
          by_cases c5 : s.size = n
          · rw [if_pos (hm.2 c5), if_pos c5]
          · rw [if_neg (fun e => c5 (hm.1 e)), if_neg c5]
  | succ d ih =>
    intro k lo hi hk h1 h2 h3
    obtain ⟨k, rfl⟩ : ∃ j, k = j + 1 := ⟨k - 1, by omega⟩
    simp only [riffleref02_Begins.l1]
    have z1 : (strOfNums [128]).size = 1 := by rw [← L_len, str_L 128 (by omega) (by omega)]; rfl
    have z2 : (strOfNums [191]).size = 1 := by rw [← L_len, str_L 191 (by omega) (by omega)]; rfl
    rw [if_pos (by omega)]
    simp only [Option.bind_some]
    rw [z1, z2, if_pos (by omega), if_pos (by omega), ih k _ _ (by omega) (by rw [ByteArray.size_append]; omega) (by rw [ByteArray.size_append]; omega) (by rw [ByteArray.size_append, ByteArray.size_append]; omega)]
    have g : ∀ (x : ByteArray) (c : Int), x.size = lo.size → 0 ≤ c → c < 256 → fill (L (x ++ strOfNums [c])) n c = fill (L x) n c := by
      intro x c hx h0 h1
      unfold fill
      rw [app_L, str_L c h0 h1, List.append_assoc]
      congr 1
      simp only [List.length_append, L_len, List.length_singleton]
      rw [show n - x.size = (n - (x.size + 1)) + 1 by omega, List.replicate_succ]; rfl
    rw [g lo 128 rfl (by omega) (by omega), g hi 191 h3 (by omega) (by omega)]
def ct (c : Int) : Bool := decide (128 ≤ c ∧ c ≤ 191)
def begN (l : List Int) (n : Nat) : Bool × Bool × Int := if (l.drop 1).all ct = true then judge l.length n (nm (fill l n 128)) (nm (fill l n 191)) else F
theorem l0_eq (s : ByteArray) (n : Nat) (hn : 1 ≤ n) (hn4 : n ≤ 4) (h1 : 1 ≤ s.size) (hsn : s.size ≤ n) (d : Nat) : ∀ (k i : Nat), i + d = s.size → d + 20 ≤ k →
    riffleref02_Begins.l0 k s n i = some (if ((L s).drop i).all ct = true then judge s.size n (nm (fill (L s) n 128)) (nm (fill (L s) n 191)) else F) := by
  induction d with
  | zero =>
    intro k i hi hk
    obtain ⟨k, rfl⟩ : ∃ j, k = j + 1 := ⟨k - 1, by omega⟩
    simp only [riffleref02_Begins.l0]
    rw [if_neg (by omega), List.drop_eq_nil_of_le (by rw [L_len]; omega), l1_eq s n hn hn4 (n - s.size) k s s (by omega) h1 (by omega) rfl]
    simp
  | succ d ih =>
    intro k i hi hk
    obtain ⟨k, rfl⟩ : ∃ j, k = j + 1 := ⟨k - 1, by omega⟩
    simp only [riffleref02_Begins.l0]
    have hlt : i < (L s).length := by rw [L_len]; omega
    rw [if_pos (by omega), if_pos (by omega), bt_L s i (L s)[i] (by simp), List.drop_eq_getElem_cons hlt]
    simp only [List.all_cons]
    by_cases c1 : (L s)[i] < 128
    · rw [if_pos c1]
      have : ct (L s)[i] = false := by simp [ct]; omega
      simp [this, F]
    · rw [if_neg c1]
      by_cases c2 : (L s)[i] > 191
      · rw [if_pos c2]
        have : ct (L s)[i] = false := by simp [ct]; omega
        simp [this, F]
      · rw [if_neg c2, show wrap64 ((i : Int) + 1) = ((i + 1 : Nat) : Int) by unfold wrap64; omega, ih k (i + 1) (by omega) (by omega)]
        have : ct (L s)[i] = true := by simp [ct]; omega
        simp [this]
def beg : List Int → Bool × Bool × Int
  | [] => (true, false, 0)
  | c :: r => if sz c = 0 ∨ ((c :: r).length : Int) > sz c then F else begN (c :: r) (sz c).toNat
theorem sz_range (c : Int) : 0 ≤ sz c ∧ sz c ≤ 4 := by unfold sz; repeat' split
                                                       all_goals omega
theorem begins_eq (k : Nat) (hk : 40 ≤ k) (s : ByteArray) : riffleref02_Begins.f k s = some (beg (L s)) := by
  obtain ⟨k, rfl⟩ : ∃ j, k = j + 1 := ⟨k - 1, by omega⟩
  unfold riffleref02_Begins.f
  cases h : L s with
  | nil => rw [if_pos (by have := (nil_iff s).1 h; omega)]; rfl
  | cons c r =>
    have hl : s.size = r.length + 1 := by rw [← L_len, h]; rfl
    have hsz := sz_range c
    rw [if_neg (by omega), if_pos (by omega), bt0 h, size_eq _ (by omega)]
    simp only [Option.bind_some, riffleref02_Begins.j0, beg]
    by_cases c0 : sz c = 0
    · rw [if_pos c0, if_pos trivial, if_pos (Or.inl c0)]; rfl
    · rw [if_neg c0]
      by_cases c1 : (s.size : Int) > sz c
      · rw [if_pos (by simpa using c1), if_pos (Or.inr (by simp; omega))]; rfl
      · rw [if_neg (by simpa using c1), if_neg (show ¬ (sz c = 0 ∨ ((c :: r).length : Int) > sz c) by simp only [List.length_cons]; omega)]
        have e : sz c = ((sz c).toNat : Int) := by omega
        have := l0_eq s (sz c).toNat (by omega) (by omega) (by omega) (by omega) (s.size - 1) k 1 (by omega) (by omega)
        rw [← e] at this
        have h1 : ((1 : Nat) : Int) = 1 := rfl
        rw [h1] at this
        rw [this]
        unfold begN
        rw [h, hl]; rfl
theorem judge_ok {m n : Nat} {a b : Int} (h : ¬ (b < least n ∨ a > 1114111 ∨ a ≥ 55296 ∧ b ≤ 57343)) : judge m n a b = if m = n then (true, true, a) else (true, false, 0) := by unfold judge; rw [if_neg h]
theorem judge_bad {m n : Nat} {a b : Int} (h : b < least n ∨ a > 1114111 ∨ a ≥ 55296 ∧ b ≤ 57343) : judge m n a b = F := by unfold judge; rw [if_pos h]
theorem beg_cons (c : Int) (r : List Int) (n : Nat) (h : sz c = (n : Int)) (hn : 1 ≤ n) (hl : r.length + 1 ≤ n) (hc : r.all ct = true) : beg (c :: r) = judge (r.length + 1) n (nm (fill (c :: r) n 128)) (nm (fill (c :: r) n 191)) := by
  simp only [beg]
  rw [if_neg (by simp only [List.length_cons]; omega), h]
  unfold begN
  rw [if_pos (by simpa using hc)]; rfl
theorem beg_ct (c : Int) (r : List Int) (hc : r.all ct = false) : beg (c :: r) = F := by
  simp only [beg]
  split
  · rfl
  · unfold begN; rw [if_neg (by simp at hc ⊢; exact hc)]
theorem beg_0 (c : Int) (r : List Int) (h : sz c = 0) : beg (c :: r) = F := by simp only [beg]; rw [if_pos (Or.inl h)]
theorem sz1 {c : Int} (h : c < 128) : sz c = ((1 : Nat) : Int) := by unfold sz; rw [if_pos h]; rfl
theorem sz2 {c : Int} (h : 192 ≤ c ∧ c < 224) : sz c = ((2 : Nat) : Int) := by unfold sz; rw [if_neg (by omega), if_pos h]; rfl
theorem sz3 {c : Int} (h : 224 ≤ c ∧ c < 240) : sz c = ((3 : Nat) : Int) := by unfold sz; rw [if_neg (by omega), if_neg (by omega), if_pos h]; rfl
theorem sz4 {c : Int} (h : 240 ≤ c ∧ c < 248) : sz c = ((4 : Nat) : Int) := by unfold sz; rw [if_neg (by omega), if_neg (by omega), if_neg (by omega), if_pos h]; rfl
theorem sz0 {c : Int} (h : (128 ≤ c ∧ c < 192) ∨ 248 ≤ c) : sz c = 0 := by unfold sz; rw [if_neg (by omega), if_neg (by omega), if_neg (by omega), if_neg (by omega)]
theorem ct_true {c : Int} (h : 128 ≤ c ∧ c ≤ 191) : ct c = true := by simp [ct]; omega
theorem ct_false {c : Int} (h : c < 128 ∨ 191 < c) : ct c = false := by simp [ct]; omega

/-! Of the first byte: from which one to which one the second may be. -/
def lo2 (b : Int) : Int := if b = 224 then 160 else if b = 240 then 144 else 128
def hi2 (b : Int) : Int := if b = 237 then 159 else if b = 244 then 143 else 191
inductive Inv : List Int → Int → Int → Int → Prop
  | none (lo hi : Int) : Inv [] 0 lo hi
  | one (b : Int) (h1 : 194 ≤ b) (h2 : b ≤ 244) : Inv [b] (if b < 224 then 1 else if b < 240 then 2 else 3) (lo2 b) (hi2 b)
  | two (b c : Int) (h1 : 224 ≤ b) (h2 : b ≤ 244) (h3 : lo2 b ≤ c) (h4 : c ≤ hi2 b) : Inv [b, c] (if b < 240 then 1 else 2) 128 191
  | three (b c d : Int) (h1 : 240 ≤ b) (h2 : b ≤ 244) (h3 : lo2 b ≤ c) (h4 : c ≤ hi2 b) (h5 : 128 ≤ d) (h6 : d ≤ 191) : Inv [b, c, d] 1 128 191
def Goes (p : List Int) (c l lo hi sg : Int) (x : Bool × Int × Int × Int × Int) : Prop :=
  (x.1 = false ∧ beg (p ++ [c]) = F ∧ x.2 = (l, lo, hi, sg)) ∨
  (x.1 = true ∧ x.2.1 = 0 ∧ ∃ n, beg (p ++ [c]) = (true, true, n)) ∨
  (x.1 = true ∧ 0 < x.2.1 ∧ beg (p ++ [c]) = (true, false, 0) ∧ Inv (p ++ [c]) x.2.1 x.2.2.1 x.2.2.2.1)
theorem first_eq (k : Nat) (hk : 2 ≤ k) (c : Int) : ∃ sg, utf_first.f k c =
    some (if c < 128 then (0, 128, 191, sg, true) else if c < 194 ∨ c > 244 then (0, 128, 191, 0, false) else (if c < 224 then 1 else if c < 240 then 2 else 3, lo2 c, hi2 c, sg, true)) := by
  obtain ⟨k, rfl⟩ : ∃ j, k = j + 2 := ⟨k - 2, by omega⟩
  unfold utf_first.f
  simp only [utf_first.j0, utf_first.j1]
  by_cases h1 : c < 128
  · exact ⟨_, by rw [if_pos h1, if_pos h1]⟩
  rw [if_neg h1]
  simp only [if_neg h1]
  by_cases h2 : c < 194
  · exact ⟨0, by rw [if_pos h2, if_pos (Or.inl h2)]; rfl⟩
  rw [if_neg h2]
  by_cases h3 : c > 244
  · exact ⟨0, by rw [if_pos (by simpa using h3), if_pos (Or.inr h3)]⟩
  rw [if_neg (by simpa using h3)]
  simp only [if_neg (show ¬ (c < 194 ∨ c > 244) by omega)]
  unfold lo2 hi2
  by_cases h4 : c < 224
  · rw [if_pos h4]
    simp only [if_pos h4, if_neg (show ¬ c = 224 by omega), if_neg (show ¬ c = 237 by omega), if_neg (show ¬ c = 240 by omega), if_neg (show ¬ c = 244 by omega)]
    exact ⟨_, rfl⟩
  rw [if_neg h4]
  simp only [if_neg h4]
  by_cases h5 : c < 240
  · rw [if_pos h5]
    simp only [if_pos h5, if_neg (show ¬ c = 240 by omega), if_neg (show ¬ c = 244 by omega)]
    by_cases h6 : c = 224
    · simp only [if_pos h6, if_neg (show ¬ c = 237 by omega)]; exact ⟨_, rfl⟩
    · simp only [if_neg h6]
      by_cases h7 : c = 237
      · simp only [if_pos h7]; exact ⟨_, rfl⟩
      · simp only [if_neg h7]; exact ⟨_, rfl⟩
  rw [if_neg h5]
  simp only [if_neg h5, if_neg (show ¬ c = 224 by omega), if_neg (show ¬ c = 237 by omega)]
  by_cases h6 : c = 240
  · simp only [if_pos h6, if_neg (show ¬ c = 244 by omega)]; exact ⟨_, rfl⟩
  · simp only [if_neg h6]
    by_cases h7 : c = 244
    · simp only [if_pos h7]; exact ⟨_, rfl⟩
    · simp only [if_neg h7]; exact ⟨_, rfl⟩
theorem least2 : least 2 = 128 := rfl
theorem least3 : least 3 = 2048 := rfl
theorem least4 : least 4 = 65536 := rfl
theorem least1 : least 1 = 0 := rfl
theorem step_inv (k : Nat) (hk : 2 ≤ k) {p : List Int} {l lo hi : Int} (hi' : Inv p l lo hi) (sg c : Int) (h0 : 0 ≤ c) (hc : c < 256) :
    ∃ x, utf_Walk_Step.f k l lo hi sg c = some x ∧ Goes p c l lo hi sg x := by
  unfold utf_Walk_Step.f
  cases hi' with
  | none =>
    rw [if_pos rfl]
    obtain ⟨g, hf⟩ := first_eq k hk c
    rw [hf]
    simp only [Option.bind_some]
    by_cases h1 : c < 128
    · simp only [if_pos h1, if_true]
      refine ⟨_, rfl, .inr (.inl ⟨rfl, rfl, c, ?_⟩)⟩
      rw [List.nil_append, beg_cons c [] 1 (sz1 h1) (by omega) (by simp) rfl]
      have e : nm (fill [c] 1 128) = c := rfl
      have e2 : nm (fill [c] 1 191) = c := rfl
      rw [e, e2, judge_ok (by rw [least1]; omega)]; rfl
    simp only [if_neg h1]
    by_cases h2 : c < 194 ∨ c > 244
    · simp only [if_pos h2, Bool.false_eq_true, if_false]
      refine ⟨_, rfl, .inl ⟨rfl, ?_, rfl⟩⟩
      rw [List.nil_append]
      by_cases h3 : (128 ≤ c ∧ c < 192) ∨ 248 ≤ c
      · exact beg_0 c [] (sz0 h3)
      · by_cases h4 : c < 194
        · rw [beg_cons c [] 2 (sz2 (by omega)) (by omega) (by simp) rfl]
          have e2 : nm (fill [c] 2 191) = (c - 192) * 64 + 191 - 128 := rfl
          rw [e2, judge_bad (by left; rw [least2]; omega)]
        · rw [beg_cons c [] 4 (sz4 (by omega)) (by omega) (by simp) rfl]
          have e1 : nm (fill [c] 4 128) = (((c - 240) * 64 + 128 - 128) * 64 + 128 - 128) * 64 + 128 - 128 := rfl
          rw [e1, judge_bad (by right; left; omega)]
    · simp only [if_neg h2, if_true]
      refine ⟨_, rfl, .inr (.inr ⟨rfl, by show 0 < (if c < 224 then (1 : Int) else if c < 240 then 2 else 3); repeat' split
                                          all_goals omega, ?_, Inv.one c (by omega) (by omega)⟩)⟩
      rw [List.nil_append]
      by_cases h3 : c < 224
      · rw [beg_cons c [] 2 (sz2 (by omega)) (by omega) (by simp) rfl]
        have e1 : nm (fill [c] 2 128) = (c - 192) * 64 + 128 - 128 := rfl
        have e2 : nm (fill [c] 2 191) = (c - 192) * 64 + 191 - 128 := rfl
        rw [e1, e2, judge_ok (by rw [least2]; omega)]; rfl
      · by_cases h4 : c < 240
        · rw [beg_cons c [] 3 (sz3 (by omega)) (by omega) (by simp) rfl]
          have e1 : nm (fill [c] 3 128) = ((c - 224) * 64 + 128 - 128) * 64 + 128 - 128 := rfl
          have e2 : nm (fill [c] 3 191) = ((c - 224) * 64 + 191 - 128) * 64 + 191 - 128 := rfl
          rw [e1, e2, judge_ok (by rw [least3]; omega)]; rfl
        · rw [beg_cons c [] 4 (sz4 (by omega)) (by omega) (by simp) rfl]
          have e1 : nm (fill [c] 4 128) = (((c - 240) * 64 + 128 - 128) * 64 + 128 - 128) * 64 + 128 - 128 := rfl
          have e2 : nm (fill [c] 4 191) = (((c - 240) * 64 + 191 - 128) * 64 + 191 - 128) * 64 + 191 - 128 := rfl
          rw [e1, e2, judge_ok (by rw [least4]; omega)]; rfl
  | one b h1 h2 =>
    have hl : ¬ (if b < 224 then (1 : Int) else if b < 240 then 2 else 3) = 0 := by repeat' split
                                                                                    all_goals omega
    rw [if_neg hl]
    have hlo : lo2 b ≥ 128 := by unfold lo2; repeat' split
                                 all_goals omega
    have hhi : hi2 b ≤ 191 := by unfold hi2; repeat' split
                                 all_goals omega
    show ∃ x, _ = some x ∧ Goes [b] c _ _ _ sg x
    by_cases hcc : lo2 b ≤ c ∧ c ≤ hi2 b
    · rw [if_neg (by omega), if_neg (by omega)]
      have hct : [c].all ct = true := by simp [ct_true (c := c) (by omega)]
      by_cases hb : b < 224
      · simp only [if_pos hb]
        refine ⟨_, rfl, .inr (.inl ⟨rfl, by show wrap64 (1 - 1) = 0; unfold wrap64; omega, (b - 192) * 64 + c - 128, ?_⟩)⟩
        · show beg [b, c] = _
          rw [beg_cons b [c] 2 (sz2 (by omega)) (by omega) (by simp) hct]
          have e1 : nm (fill [b, c] 2 128) = (b - 192) * 64 + c - 128 := rfl
          have e2 : nm (fill [b, c] 2 191) = (b - 192) * 64 + c - 128 := rfl
          rw [e1, e2, judge_ok (by rw [least2]; omega)]; rfl
      · by_cases hb2 : b < 240
        · simp only [if_neg hb, if_pos hb2]
          refine ⟨_, rfl, .inr (.inr ⟨rfl, by show 0 < wrap64 (2 - 1); unfold wrap64; omega, ?_, ?_⟩)⟩
          · show beg [b, c] = _
            rw [beg_cons b [c] 3 (sz3 (by omega)) (by omega) (by simp) hct]
            have e1 : nm (fill [b, c] 3 128) = ((b - 224) * 64 + c - 128) * 64 + 128 - 128 := rfl
            have e2 : nm (fill [b, c] 3 191) = ((b - 224) * 64 + c - 128) * 64 + 191 - 128 := rfl
            rw [e1, e2, judge_ok (by
              rw [least3]; unfold lo2 hi2 at hcc
              by_cases q1 : b = 224
              · rw [if_pos q1, if_neg (by omega), if_neg (by omega)] at hcc; omega
              · by_cases q2 : b = 237
                · rw [if_neg q1, if_neg (by omega), if_pos q2] at hcc; omega
                · omega)]; rfl
          · have := Inv.two b c (by omega) h2 hcc.1 hcc.2
            rw [if_pos hb2] at this
            have e : wrap64 (2 - 1) = 1 := by unfold wrap64; omega
            show Inv [b, c] (wrap64 (2 - 1)) 128 191
            rw [e]; exact this
        · simp only [if_neg hb, if_neg hb2]
          refine ⟨_, rfl, .inr (.inr ⟨rfl, by show 0 < wrap64 (3 - 1); unfold wrap64; omega, ?_, ?_⟩)⟩
          · show beg [b, c] = _
            rw [beg_cons b [c] 4 (sz4 (by omega)) (by omega) (by simp) hct]
            have e1 : nm (fill [b, c] 4 128) = (((b - 240) * 64 + c - 128) * 64 + 128 - 128) * 64 + 128 - 128 := rfl
            have e2 : nm (fill [b, c] 4 191) = (((b - 240) * 64 + c - 128) * 64 + 191 - 128) * 64 + 191 - 128 := rfl
            rw [e1, e2, judge_ok (by
              rw [least4]; unfold lo2 hi2 at hcc
              by_cases q1 : b = 240
              · rw [if_neg (by omega), if_pos q1, if_neg (by omega), if_neg (by omega)] at hcc; omega
              · by_cases q2 : b = 244
                · rw [if_neg (by omega), if_neg q1, if_neg (by omega), if_pos q2] at hcc; omega
                · omega)]; rfl
          · have := Inv.two b c (by omega) h2 hcc.1 hcc.2
            rw [if_neg hb2] at this
            have e : wrap64 (3 - 1) = 2 := by unfold wrap64; omega
            show Inv [b, c] (wrap64 (3 - 1)) 128 191
            rw [e]; exact this
    · have hbad : beg [b, c] = F := by
        by_cases hct : 128 ≤ c ∧ c ≤ 191
        · have hct2 : [c].all ct = true := by simp [ct_true hct]
          unfold lo2 hi2 at hcc
          by_cases q1 : b = 224
          · rw [if_pos q1, if_neg (by omega), if_neg (by omega)] at hcc
            rw [beg_cons b [c] 3 (sz3 (by omega)) (by omega) (by simp) hct2]
            have e2 : nm (fill [b, c] 3 191) = ((b - 224) * 64 + c - 128) * 64 + 191 - 128 := rfl
            rw [e2, judge_bad (by left; rw [least3]; omega)]
          · by_cases q2 : b = 237
            · rw [if_neg q1, if_neg (by omega), if_pos q2] at hcc
              rw [beg_cons b [c] 3 (sz3 (by omega)) (by omega) (by simp) hct2]
              have e1 : nm (fill [b, c] 3 128) = ((b - 224) * 64 + c - 128) * 64 + 128 - 128 := rfl
              have e2 : nm (fill [b, c] 3 191) = ((b - 224) * 64 + c - 128) * 64 + 191 - 128 := rfl
              rw [e1, e2, judge_bad (by right; right; omega)]
            · by_cases q3 : b = 240
              · rw [if_neg q1, if_pos q3, if_neg q2, if_neg (by omega)] at hcc
                rw [beg_cons b [c] 4 (sz4 (by omega)) (by omega) (by simp) hct2]
                have e2 : nm (fill [b, c] 4 191) = (((b - 240) * 64 + c - 128) * 64 + 191 - 128) * 64 + 191 - 128 := rfl
                rw [e2, judge_bad (by left; rw [least4]; omega)]
              · by_cases q4 : b = 244
                · rw [if_neg q1, if_neg q3, if_neg q2, if_pos q4] at hcc
                  rw [beg_cons b [c] 4 (sz4 (by omega)) (by omega) (by simp) hct2]
                  have e1 : nm (fill [b, c] 4 128) = (((b - 240) * 64 + c - 128) * 64 + 128 - 128) * 64 + 128 - 128 := rfl
                  rw [e1, judge_bad (by right; left; omega)]
                · rw [if_neg q1, if_neg q3, if_neg q2, if_neg q4] at hcc; omega
        · exact beg_ct b [c] (by simp [ct_false (c := c) (by omega)])
      by_cases c1 : c < lo2 b
      · rw [if_pos c1]; exact ⟨_, rfl, .inl ⟨rfl, hbad, rfl⟩⟩
      · rw [if_neg c1, if_pos (by omega)]; exact ⟨_, rfl, .inl ⟨rfl, hbad, rfl⟩⟩
  | two b d h1 h2 h3 h4 =>
    have hl : ¬ (if b < 240 then (1 : Int) else 2) = 0 := by split <;> omega
    rw [if_neg hl]
    have hlo : lo2 b ≥ 128 := by unfold lo2; repeat' split
                                 all_goals omega
    have hhi : hi2 b ≤ 191 := by unfold hi2; repeat' split
                                 all_goals omega
    show ∃ x, _ = some x ∧ Goes [b, d] c _ _ _ sg x
    by_cases hcc : 128 ≤ c ∧ c ≤ 191
    · rw [if_neg (by omega), if_neg (by omega)]
      have hct : [d, c].all ct = true := by simp [ct_true (c := c) hcc, ct_true (c := d) (by omega)]
      by_cases hb : b < 240
      · simp only [if_pos hb]
        refine ⟨_, rfl, .inr (.inl ⟨rfl, by show wrap64 (1 - 1) = 0; unfold wrap64; omega, ((b - 224) * 64 + d - 128) * 64 + c - 128, ?_⟩)⟩
        · show beg [b, d, c] = _
          rw [beg_cons b [d, c] 3 (sz3 (by omega)) (by omega) (by simp) hct]
          have e1 : nm (fill [b, d, c] 3 128) = ((b - 224) * 64 + d - 128) * 64 + c - 128 := rfl
          have e2 : nm (fill [b, d, c] 3 191) = ((b - 224) * 64 + d - 128) * 64 + c - 128 := rfl
          rw [e1, e2, judge_ok (by
            rw [least3]; unfold lo2 at h3; unfold hi2 at h4
            by_cases q1 : b = 224
            · rw [if_pos q1] at h3; omega
            · by_cases q2 : b = 237
              · rw [if_pos q2] at h4; omega
              · omega)]; rfl
      · simp only [if_neg hb]
        refine ⟨_, rfl, .inr (.inr ⟨rfl, by show 0 < wrap64 (2 - 1); unfold wrap64; omega, ?_, ?_⟩)⟩
        · show beg [b, d, c] = _
          rw [beg_cons b [d, c] 4 (sz4 (by omega)) (by omega) (by simp) hct]
          have e1 : nm (fill [b, d, c] 4 128) = (((b - 240) * 64 + d - 128) * 64 + c - 128) * 64 + 128 - 128 := rfl
          have e2 : nm (fill [b, d, c] 4 191) = (((b - 240) * 64 + d - 128) * 64 + c - 128) * 64 + 191 - 128 := rfl
          rw [e1, e2, judge_ok (by
            rw [least4]; unfold lo2 at h3; unfold hi2 at h4
            by_cases q1 : b = 240
            · rw [if_neg (by omega), if_pos q1] at h3; omega
            · by_cases q2 : b = 244
              · rw [if_neg (by omega), if_pos q2] at h4; omega
              · omega)]; rfl
        · have := Inv.three b d c (by omega) h2 h3 h4 hcc.1 hcc.2
          have e : wrap64 (2 - 1) = 1 := by unfold wrap64; omega
          show Inv [b, d, c] (wrap64 (2 - 1)) 128 191
          rw [e]; exact this
    · have hbad : beg [b, d, c] = F := beg_ct b [d, c] (by simp [ct_false (c := c) (by omega)])
      by_cases c1 : c < 128
      · rw [if_pos c1]; exact ⟨_, rfl, .inl ⟨rfl, hbad, rfl⟩⟩
      · rw [if_neg c1, if_pos (by omega)]; exact ⟨_, rfl, .inl ⟨rfl, hbad, rfl⟩⟩
  | three b d e h1 h2 h3 h4 h5 h6 =>
    rw [if_neg (by omega)]
    have hlo : lo2 b ≥ 128 := by unfold lo2; repeat' split
                                 all_goals omega
    have hhi : hi2 b ≤ 191 := by unfold hi2; repeat' split
                                 all_goals omega
    show ∃ x, _ = some x ∧ Goes [b, d, e] c _ _ _ sg x
    by_cases hcc : 128 ≤ c ∧ c ≤ 191
    · rw [if_neg (by omega), if_neg (by omega)]
      have hct : [d, e, c].all ct = true := by simp [ct_true (c := c) hcc, ct_true (c := d) (by omega), ct_true (c := e) (by omega)]
      refine ⟨_, rfl, .inr (.inl ⟨rfl, by show wrap64 (1 - 1) = 0; unfold wrap64; omega, (((b - 240) * 64 + d - 128) * 64 + e - 128) * 64 + c - 128, ?_⟩)⟩
      · show beg [b, d, e, c] = _
        rw [beg_cons b [d, e, c] 4 (sz4 (by omega)) (by omega) (by simp) hct]
        have e1 : nm (fill [b, d, e, c] 4 128) = (((b - 240) * 64 + d - 128) * 64 + e - 128) * 64 + c - 128 := rfl
        have e2 : nm (fill [b, d, e, c] 4 191) = (((b - 240) * 64 + d - 128) * 64 + e - 128) * 64 + c - 128 := rfl
        rw [e1, e2, judge_ok (by
          rw [least4]; unfold lo2 at h3; unfold hi2 at h4
          by_cases q1 : b = 240
          · rw [if_neg (by omega), if_pos q1] at h3; omega
          · by_cases q2 : b = 244
            · rw [if_neg (by omega), if_pos q2] at h4; omega
            · omega)]; rfl
    · have hbad : beg [b, d, e, c] = F := beg_ct b [d, e, c] (by simp [ct_false (c := c) (by omega)])
      by_cases c1 : c < 128
      · rw [if_pos c1]; exact ⟨_, rfl, .inl ⟨rfl, hbad, rfl⟩⟩
      · rw [if_neg c1, if_pos (by omega)]; exact ⟨_, rfl, .inl ⟨rfl, hbad, rfl⟩⟩
theorem range_L (s : ByteArray) (a b : Nat) : L (s.extract a b) = ((L s).take b).drop a := by
  unfold L
  rw [ByteArray.data_extract, Array.toList_extract, List.map_take, List.map_drop, List.drop_take]
theorem bt_ok (s : ByteArray) (i : Int) : 0 ≤ bt s i ∧ bt s i < 256 := by have := bt_range s i; omega
theorem range_snoc (s : ByteArray) (a i : Nat) (h : i < s.size) (ha : a ≤ i) : ((L s).take (i + 1)).drop a = ((L s).take i).drop a ++ [bt s i] := by
  have hlt : i < (L s).length := by rw [L_len]; exact h
  rw [List.take_succ_eq_append_getElem hlt, bt_L s i (L s)[i] (by simp), List.drop_append_of_le_length (by rw [List.length_take]; omega)]
theorem inv_len {p : List Int} {l lo hi : Int} (h : Inv p l lo hi) : l > 0 ↔ p ≠ [] := by
  cases h with
  | none => simp
  | one => simp; repeat' split
           all_goals omega
  | two => simp; split <;> omega
  | three => simp
/-- Both go through the bytes, one by one, alike. -/
theorem bad_same (s : ByteArray) (hs : s.size ≤ 3000) (d : Nat) : ∀ (k k' i a : Nat) (l lo hi sg : Int), i + d = s.size → a ≤ i → Inv (((L s).take i).drop a) l lo hi → d + 50 ≤ k → d + 50 ≤ k' →
    ∃ r, utf_Bad.l0 k s i l lo hi sg = some r ∧ riffleref02_Bad.l0 k' s a i = some r := by
  induction d with
  | zero =>
    intro k k' i a l lo hi sg hi1 ha hv hk hk'
    obtain ⟨k, rfl⟩ : ∃ j, k = j + 1 := ⟨k - 1, by omega⟩
    obtain ⟨k', rfl⟩ : ∃ j, k' = j + 1 := ⟨k' - 1, by omega⟩
    simp only [utf_Bad.l0, riffleref02_Bad.l0]
    have hne : ¬ ((i : Int) < (s.size : Int)) := by omega
    simp only [if_neg hne]
    have h1 := inv_len hv
    have h2 : ((L s).take i).drop a ≠ [] ↔ a < i := by
      rw [ne_eq, List.drop_eq_nil_iff, List.length_take, L_len]; omega
    by_cases hl : l > 0
    · have h3 := h2.1 (h1.1 hl)
      rw [if_pos hl, if_pos (by omega)]; exact ⟨_, rfl, rfl⟩
    · have h3 : ¬ a < i := fun e => hl (h1.2 (h2.2 e))
      rw [if_neg hl, if_neg (by omega)]; exact ⟨_, rfl, rfl⟩
  | succ d ih =>
    intro k k' i a l lo hi sg hi1 ha hv hk hk'
    obtain ⟨k, rfl⟩ : ∃ j, k = j + 1 := ⟨k - 1, by omega⟩
    obtain ⟨k', rfl⟩ : ∃ j, k' = j + 1 := ⟨k' - 1, by omega⟩
    simp only [utf_Bad.l0, riffleref02_Bad.l0]
    have w1 : wrap64 ((i : Int) + 1) = ((i + 1 : Nat) : Int) := by unfold wrap64; omega
    have hb := bt_ok s i
    obtain ⟨x, hx, hg⟩ := step_inv k (by omega) hv sg (bt s i) hb.1 hb.2
    rw [if_pos (by omega), if_pos (by omega), if_pos (by omega), if_pos (by omega), w1, if_pos (by omega), if_pos (by omega), hx, begins_eq k' (by omega), range_L,
      show ((a : Nat) : Int).toNat = a by omega, show ((i + 1 : Nat) : Int).toNat = i + 1 by omega, range_snoc s a i (by omega) ha]
    simp only [Option.bind_some]
    rcases hg with ⟨g1, g2, g3⟩ | ⟨g1, g2, n, g3⟩ | ⟨g1, g2, g3, g4⟩
    · rw [g2]; simp [g1, F]
    · rw [g3]
      simp only [g1, if_true]
      refine ih k k' (i + 1) (i + 1) _ _ _ _ (by omega) (by omega) ?_ (by omega) (by omega)
      rw [List.drop_eq_nil_of_le (by rw [List.length_take]; omega), g2]
      exact Inv.none _ _
    · rw [g3]
      simp only [g1, if_true, Bool.false_eq_true, if_false]
      refine ih k k' (i + 1) a _ _ _ _ (by omega) (by omega) ?_ (by omega) (by omega)
      rw [range_snoc s a i (by omega) ha]; exact g4
set_option maxRecDepth 100000 in
theorem alive_so : rifflelaw02_utfAlive.f 3000 = some true := by decide +kernel
theorem bads (s : ByteArray) : rifflelaw02_UtfBads.f 3000 s = some true := by
  unfold rifflelaw02_UtfBads.f
  rw [alive_so]
  simp only [Option.bind_some, if_true]
  by_cases h : (s.size : Int) > 2000
  · rw [if_pos h]
  rw [if_neg h]
  obtain ⟨r, h1, h2⟩ := bad_same s (by omega) s.size 3000 3000 0 0 0 0 0 0 (by omega) (by omega) (Inv.none 0 0) (by omega) (by omega)
  have e1 : utf_Bad.f 3000 s = some r := h1
  have e2 : riffleref02_Bad.f 3000 s = some r := h2
  rw [e1, e2]; simp
end Go.Proofs.Ytjfoppmpiklfiab.LinkUtfBads
