/- The printed functions of the law UtfParts told by plain lists of bytes: how a sign begins, and the states. Conditions: none. -/
import Derived.Test.YtjfoppmpiklfiabPUtfPartsx2
import Derived.Test.YtjfoppmpiklfiabNumL
namespace Go.Proofs.Ytjfoppmpiklfiab.LinkUtfParts
open Go.RowKit Go.Proofs.Ytjfoppmpiklfiab.PUtfParts Go.Proofs.YtjfoppmpiklfiabW.PrintWords Go.Proofs.YtjfoppmpiklfiabW.PrintLast
open Go.Proofs.Ytjfoppmpiklfiab.Num (L L_len bt_L bt0 take_L app_L ext_L L_range str_L nil_iff)
set_option linter.unusedVariables false
set_option linter.unusedSimpArgs false

def sz (c : Int) : Int := if c < 128 then 1 else if 192 ≤ c ∧ c < 224 then 2 else if 224 ≤ c ∧ c < 240 then 3 else if 240 ≤ c ∧ c < 248 then 4 else 0
def nm : List Int → Int
  | [a] => a
  | [a, b] => (a - 192) * 64 + b - 128
  | [a, b, c] => ((a - 224) * 64 + b - 128) * 64 + c - 128
  | [a, b, c, d] => (((a - 240) * 64 + b - 128) * 64 + c - 128) * 64 + d - 128
  | _ => 0
def F : Bool × Bool × Int := (false, false, 0)
def least (n : Nat) : Int := if n = 2 then 128 else if n = 3 then 2048 else if n = 4 then 65536 else 0
def judge (m n : Nat) (a b : Int) : Bool × Bool × Int := if b < least n ∨ a > 1114111 ∨ a ≥ 55296 ∧ b ≤ 57343 then F else if m = n then (true, true, a) else (true, false, 0)
def fill (l : List Int) (n : Nat) (c : Int) : List Int := l ++ List.replicate (n - l.length) c
def ct (c : Int) : Bool := decide (128 ≤ c ∧ c ≤ 191)
def begN (l : List Int) (n : Nat) : Bool × Bool × Int := if (l.drop 1).all ct = true then judge l.length n (nm (fill l n 128)) (nm (fill l n 191)) else F
def beg : List Int → Bool × Bool × Int
  | [] => (true, false, 0)
  | c :: r => if sz c = 0 ∨ ((c :: r).length : Int) > sz c then F else begN (c :: r) (sz c).toNat
theorem sz_range (c : Int) : 0 ≤ sz c ∧ sz c ≤ 4 := by unfold sz; repeat' split
                                                       all_goals omega
theorem judge_ok {m n : Nat} {a b : Int} (h : ¬ (b < least n ∨ a > 1114111 ∨ a ≥ 55296 ∧ b ≤ 57343)) : judge m n a b = if m = n then (true, true, a) else (true, false, 0) := by unfold judge; rw [if_neg h]
theorem judge_bad {m n : Nat} {a b : Int} (h : b < least n ∨ a > 1114111 ∨ a ≥ 55296 ∧ b ≤ 57343) : judge m n a b = F := by unfold judge; rw [if_pos h]
theorem beg_cons (c : Int) (r : List Int) (n : Nat) (h : sz c = (n : Int)) (hn : 1 ≤ n) (hl : r.length + 1 ≤ n) (hc : r.all ct = true) : beg (c :: r) = judge (r.length + 1) n (nm (fill (c :: r) n 128)) (nm (fill (c :: r) n 191)) := by
  simp only [beg]
  rw [if_neg (by simp only [List.length_cons]; omega), h]
  unfold begN
  rw [if_pos (by simpa using hc)]; rfl
theorem beg_ct (c : Int) (r : List Int) (hc : r.all ct = false) : beg (c :: r) = F := by
  simp only [beg]
  split
  · rfl
  · unfold begN; rw [if_neg (by simp at hc ⊢; exact hc)]
theorem beg_0 (c : Int) (r : List Int) (h : sz c = 0) : beg (c :: r) = F := by simp only [beg]; rw [if_pos (Or.inl h)]
theorem sz1 {c : Int} (h : c < 128) : sz c = ((1 : Nat) : Int) := by unfold sz; rw [if_pos h]; rfl
theorem sz2 {c : Int} (h : 192 ≤ c ∧ c < 224) : sz c = ((2 : Nat) : Int) := by unfold sz; rw [if_neg (by omega), if_pos h]; rfl
theorem sz3 {c : Int} (h : 224 ≤ c ∧ c < 240) : sz c = ((3 : Nat) : Int) := by unfold sz; rw [if_neg (by omega), if_neg (by omega), if_pos h]; rfl
theorem sz4 {c : Int} (h : 240 ≤ c ∧ c < 248) : sz c = ((4 : Nat) : Int) := by unfold sz; rw [if_neg (by omega), if_neg (by omega), if_neg (by omega), if_pos h]; rfl
theorem sz0 {c : Int} (h : (128 ≤ c ∧ c < 192) ∨ 248 ≤ c) : sz c = 0 := by unfold sz; rw [if_neg (by omega), if_neg (by omega), if_neg (by omega), if_neg (by omega)]
theorem ct_true {c : Int} (h : 128 ≤ c ∧ c ≤ 191) : ct c = true := by simp [ct]; omega
theorem ct_false {c : Int} (h : c < 128 ∨ 191 < c) : ct c = false := by simp [ct]; omega

/-! Of the first byte: from which one to which one the second may be. -/
def lo2 (b : Int) : Int := if b = 224 then 160 else if b = 240 then 144 else 128
def hi2 (b : Int) : Int := if b = 237 then 159 else if b = 244 then 143 else 191
inductive Inv : List Int → Int → Int → Int → Prop
  | none (lo hi : Int) : Inv [] 0 lo hi
  | one (b : Int) (h1 : 194 ≤ b) (h2 : b ≤ 244) : Inv [b] (if b < 224 then 1 else if b < 240 then 2 else 3) (lo2 b) (hi2 b)
  | two (b c : Int) (h1 : 224 ≤ b) (h2 : b ≤ 244) (h3 : lo2 b ≤ c) (h4 : c ≤ hi2 b) : Inv [b, c] (if b < 240 then 1 else 2) 128 191
  | three (b c d : Int) (h1 : 240 ≤ b) (h2 : b ≤ 244) (h3 : lo2 b ≤ c) (h4 : c ≤ hi2 b) (h5 : 128 ≤ d) (h6 : d ≤ 191) : Inv [b, c, d] 1 128 191
def Goes (p : List Int) (c l lo hi sg : Int) (x : Bool × Int × Int × Int × Int) : Prop :=
  (x.1 = false ∧ beg (p ++ [c]) = F ∧ x.2 = (l, lo, hi, sg)) ∨
  (x.1 = true ∧ x.2.1 = 0 ∧ ∃ n, beg (p ++ [c]) = (true, true, n)) ∨
  (x.1 = true ∧ 0 < x.2.1 ∧ beg (p ++ [c]) = (true, false, 0) ∧ Inv (p ++ [c]) x.2.1 x.2.2.1 x.2.2.2.1)
theorem first_eq (k : Nat) (hk : 2 ≤ k) (c : Int) : ∃ sg, utf_first.f k c =
    some (if c < 128 then (0, 128, 191, sg, true) else if c < 194 ∨ c > 244 then (0, 128, 191, 0, false) else (if c < 224 then 1 else if c < 240 then 2 else 3, lo2 c, hi2 c, sg, true)) := by
  obtain ⟨k, rfl⟩ : ∃ j, k = j + 2 := ⟨k - 2, by omega⟩
  unfold utf_first.f
  simp only [utf_first.j0, utf_first.j1]
  by_cases h1 : c < 128
  · exact ⟨_, by rw [if_pos h1, if_pos h1]⟩
  rw [if_neg h1]
  simp only [if_neg h1]
  by_cases h2 : c < 194
  · exact ⟨0, by rw [if_pos h2, if_pos (Or.inl h2)]; rfl⟩
  rw [if_neg h2]
  by_cases h3 : c > 244
  · exact ⟨0, by rw [if_pos (by simpa using h3), if_pos (Or.inr h3)]⟩
  rw [if_neg (by simpa using h3)]
  simp only [if_neg (show ¬ (c < 194 ∨ c > 244) by omega)]
  unfold lo2 hi2
  by_cases h4 : c < 224
  · rw [if_pos h4]
    simp only [if_pos h4, if_neg (show ¬ c = 224 by omega), if_neg (show ¬ c = 237 by omega), if_neg (show ¬ c = 240 by omega), if_neg (show ¬ c = 244 by omega)]
    exact ⟨_, rfl⟩
  rw [if_neg h4]
  simp only [if_neg h4]
  by_cases h5 : c < 240
  · rw [if_pos h5]
    simp only [if_pos h5, if_neg (show ¬ c = 240 by omega), if_neg (show ¬ c = 244 by omega)]
    by_cases h6 : c = 224
    · simp only [if_pos h6, if_neg (show ¬ c = 237 by omega)]; exact ⟨_, rfl⟩
    · simp only [if_neg h6]
      by_cases h7 : c = 237
      · simp only [if_pos h7]; exact ⟨_, rfl⟩
      · simp only [if_neg h7]; exact ⟨_, rfl⟩
  rw [if_neg h5]
  simp only [if_neg h5, if_neg (show ¬ c = 224 by omega), if_neg (show ¬ c = 237 by omega)]
  by_cases h6 : c = 240
  · simp only [if_pos h6, if_neg (show ¬ c = 244 by omega)]; exact ⟨_, rfl⟩
  · simp only [if_neg h6]
    by_cases h7 : c = 244
    · simp only [if_pos h7]; exact ⟨_, rfl⟩
    · simp only [if_neg h7]; exact ⟨_, rfl⟩
theorem least2 : least 2 = 128 := rfl
theorem least3 : least 3 = 2048 := rfl
theorem least4 : least 4 = 65536 := rfl
theorem least1 : least 1 = 0 := rfl
theorem step_inv (k : Nat) (hk : 2 ≤ k) {p : List Int} {l lo hi : Int} (hi' : Inv p l lo hi) (sg c : Int) (h0 : 0 ≤ c) (hc : c < 256) :
    ∃ x, utf_Walk_Step.f k l lo hi sg c = some x ∧ Goes p c l lo hi sg x := by
  unfold utf_Walk_Step.f
  cases hi' with
  | none =>
    rw [if_pos rfl]
    obtain ⟨g, hf⟩ := first_eq k hk c
    rw [hf]
    simp only [Option.bind_some]
    by_cases h1 : c < 128
    · simp only [if_pos h1, if_true]
      refine ⟨_, rfl, .inr (.inl ⟨rfl, rfl, c, ?_⟩)⟩
      rw [List.nil_append, beg_cons c [] 1 (sz1 h1) (by omega) (by simp) rfl]
      have e : nm (fill [c] 1 128) = c := rfl
      have e2 : nm (fill [c] 1 191) = c := rfl
      rw [e, e2, judge_ok (by rw [least1]; omega)]; rfl
    simp only [if_neg h1]
    by_cases h2 : c < 194 ∨ c > 244
    · simp only [if_pos h2, Bool.false_eq_true, if_false]
      refine ⟨_, rfl, .inl ⟨rfl, ?_, rfl⟩⟩
      rw [List.nil_append]
      by_cases h3 : (128 ≤ c ∧ c < 192) ∨ 248 ≤ c
      · exact beg_0 c [] (sz0 h3)
      · by_cases h4 : c < 194
        · rw [beg_cons c [] 2 (sz2 (by omega)) (by omega) (by simp) rfl]
          have e2 : nm (fill [c] 2 191) = (c - 192) * 64 + 191 - 128 := rfl
          rw [e2, judge_bad (by left; rw [least2]; omega)]
        · rw [beg_cons c [] 4 (sz4 (by omega)) (by omega) (by simp) rfl]
          have e1 : nm (fill [c] 4 128) = (((c - 240) * 64 + 128 - 128) * 64 + 128 - 128) * 64 + 128 - 128 := rfl
          rw [e1, judge_bad (by right; left; omega)]
    · simp only [if_neg h2, if_true]
      refine ⟨_, rfl, .inr (.inr ⟨rfl, by show 0 < (if c < 224 then (1 : Int) else if c < 240 then 2 else 3); repeat' split
                                          all_goals omega, ?_, Inv.one c (by omega) (by omega)⟩)⟩
      rw [List.nil_append]
      by_cases h3 : c < 224
      · rw [beg_cons c [] 2 (sz2 (by omega)) (by omega) (by simp) rfl]
        have e1 : nm (fill [c] 2 128) = (c - 192) * 64 + 128 - 128 := rfl
        have e2 : nm (fill [c] 2 191) = (c - 192) * 64 + 191 - 128 := rfl
        rw [e1, e2, judge_ok (by rw [least2]; omega)]; rfl
      · by_cases h4 : c < 240
        · rw [beg_cons c [] 3 (sz3 (by omega)) (by omega) (by simp) rfl]
          have e1 : nm (fill [c] 3 128) = ((c - 224) * 64 + 128 - 128) * 64 + 128 - 128 := rfl
          have e2 : nm (fill [c] 3 191) = ((c - 224) * 64 + 191 - 128) * 64 + 191 - 128 := rfl
          rw [e1, e2, judge_ok (by rw [least3]; omega)]; rfl
        · rw [beg_cons c [] 4 (sz4 (by omega)) (by omega) (by simp) rfl]
          have e1 : nm (fill [c] 4 128) = (((c - 240) * 64 + 128 - 128) * 64 + 128 - 128) * 64 + 128 - 128 := rfl
          have e2 : nm (fill [c] 4 191) = (((c - 240) * 64 + 191 - 128) * 64 + 191 - 128) * 64 + 191 - 128 := rfl
          rw [e1, e2, judge_ok (by rw [least4]; omega)]; rfl
  | one b h1 h2 =>
    have hl : ¬ (if b < 224 then (1 : Int) else if b < 240 then 2 else 3) = 0 := by repeat' split
                                                                                    all_goals omega
    rw [if_neg hl]
    have hlo : lo2 b ≥ 128 := by unfold lo2; repeat' split
                                 all_goals omega
    have hhi : hi2 b ≤ 191 := by unfold hi2; repeat' split
                                 all_goals omega
    show ∃ x, _ = some x ∧ Goes [b] c _ _ _ sg x
    by_cases hcc : lo2 b ≤ c ∧ c ≤ hi2 b
    · rw [if_neg (by omega), if_neg (by omega)]
      have hct : [c].all ct = true := by simp [ct_true (c := c) (by omega)]
      by_cases hb : b < 224
      · simp only [if_pos hb]
        refine ⟨_, rfl, .inr (.inl ⟨rfl, by show wrap64 (1 - 1) = 0; unfold wrap64; omega, (b - 192) * 64 + c - 128, ?_⟩)⟩
        · show beg [b, c] = _
          rw [beg_cons b [c] 2 (sz2 (by omega)) (by omega) (by simp) hct]
          have e1 : nm (fill [b, c] 2 128) = (b - 192) * 64 + c - 128 := rfl
          have e2 : nm (fill [b, c] 2 191) = (b - 192) * 64 + c - 128 := rfl
          rw [e1, e2, judge_ok (by rw [least2]; omega)]; rfl
      · by_cases hb2 : b < 240
        · simp only [if_neg hb, if_pos hb2]
          refine ⟨_, rfl, .inr (.inr ⟨rfl, by show 0 < wrap64 (2 - 1); unfold wrap64; omega, ?_, ?_⟩)⟩
          · show beg [b, c] = _
            rw [beg_cons b [c] 3 (sz3 (by omega)) (by omega) (by simp) hct]
            have e1 : nm (fill [b, c] 3 128) = ((b - 224) * 64 + c - 128) * 64 + 128 - 128 := rfl
            have e2 : nm (fill [b, c] 3 191) = ((b - 224) * 64 + c - 128) * 64 + 191 - 128 := rfl
            rw [e1, e2, judge_ok (by
              rw [least3]; unfold lo2 hi2 at hcc
              by_cases q1 : b = 224
              · rw [if_pos q1, if_neg (by omega), if_neg (by omega)] at hcc; omega
              · by_cases q2 : b = 237
                · rw [if_neg q1, if_neg (by omega), if_pos q2] at hcc; omega
                · omega)]; rfl
          · have := Inv.two b c (by omega) h2 hcc.1 hcc.2
            rw [if_pos hb2] at this
            have e : wrap64 (2 - 1) = 1 := by unfold wrap64; omega
            show Inv [b, c] (wrap64 (2 - 1)) 128 191
            rw [e]; exact this
        · simp only [if_neg hb, if_neg hb2]
          refine ⟨_, rfl, .inr (.inr ⟨rfl, by show 0 < wrap64 (3 - 1); unfold wrap64; omega, ?_, ?_⟩)⟩
          · show beg [b, c] = _
            rw [beg_cons b [c] 4 (sz4 (by omega)) (by omega) (by simp) hct]
            have e1 : nm (fill [b, c] 4 128) = (((b - 240) * 64 + c - 128) * 64 + 128 - 128) * 64 + 128 - 128 := rfl
            have e2 : nm (fill [b, c] 4 191) = (((b - 240) * 64 + c - 128) * 64 + 191 - 128) * 64 + 191 - 128 := rfl
            rw [e1, e2, judge_ok (by
              rw [least4]; unfold lo2 hi2 at hcc
              by_cases q1 : b = 240
              · rw [if_neg (by omega), if_pos q1, if_neg (by omega), if_neg (by omega)] at hcc; omega
              · by_cases q2 : b = 244
                · rw [if_neg (by omega), if_neg q1, if_neg (by omega), if_pos q2] at hcc; omega
                · omega)]; rfl
          · have := Inv.two b c (by omega) h2 hcc.1 hcc.2
            rw [if_neg hb2] at this
            have e : wrap64 (3 - 1) = 2 := by unfold wrap64; omega
            show Inv [b, c] (wrap64 (3 - 1)) 128 191
            rw [e]; exact this
    · have hbad : beg [b, c] = F := by
        by_cases hct : 128 ≤ c ∧ c ≤ 191
        · have hct2 : [c].all ct = true := by simp [ct_true hct]
          unfold lo2 hi2 at hcc
          by_cases q1 : b = 224
          · rw [if_pos q1, if_neg (by omega), if_neg (by omega)] at hcc
            rw [beg_cons b [c] 3 (sz3 (by omega)) (by omega) (by simp) hct2]
            have e2 : nm (fill [b, c] 3 191) = ((b - 224) * 64 + c - 128) * 64 + 191 - 128 := rfl
            rw [e2, judge_bad (by left; rw [least3]; omega)]
          · by_cases q2 : b = 237
            · rw [if_neg q1, if_neg (by omega), if_pos q2] at hcc
              rw [beg_cons b [c] 3 (sz3 (by omega)) (by omega) (by simp) hct2]
              have e1 : nm (fill [b, c] 3 128) = ((b - 224) * 64 + c - 128) * 64 + 128 - 128 := rfl
              have e2 : nm (fill [b, c] 3 191) = ((b - 224) * 64 + c - 128) * 64 + 191 - 128 := rfl
              rw [e1, e2, judge_bad (by right; right; omega)]
            · by_cases q3 : b = 240
              · rw [if_neg q1, if_pos q3, if_neg q2, if_neg (by omega)] at hcc
                rw [beg_cons b [c] 4 (sz4 (by omega)) (by omega) (by simp) hct2]
                have e2 : nm (fill [b, c] 4 191) = (((b - 240) * 64 + c - 128) * 64 + 191 - 128) * 64 + 191 - 128 := rfl
                rw [e2, judge_bad (by left; rw [least4]; omega)]
              · by_cases q4 : b = 244
                · rw [if_neg q1, if_neg q3, if_neg q2, if_pos q4] at hcc
                  rw [beg_cons b [c] 4 (sz4 (by omega)) (by omega) (by simp) hct2]
                  have e1 : nm (fill [b, c] 4 128) = (((b - 240) * 64 + c - 128) * 64 + 128 - 128) * 64 + 128 - 128 := rfl
                  rw [e1, judge_bad (by right; left; omega)]
                · rw [if_neg q1, if_neg q3, if_neg q2, if_neg q4] at hcc; omega
        · exact beg_ct b [c] (by simp [ct_false (c := c) (by omega)])
      by_cases c1 : c < lo2 b
      · rw [if_pos c1]; exact ⟨_, rfl, .inl ⟨rfl, hbad, rfl⟩⟩
      · rw [if_neg c1, if_pos (by omega)]; exact ⟨_, rfl, .inl ⟨rfl, hbad, rfl⟩⟩
  | two b d h1 h2 h3 h4 =>
    have hl : ¬ (if b < 240 then (1 : Int) else 2) = 0 := by split <;> omega
    rw [if_neg hl]
    have hlo : lo2 b ≥ 128 := by unfold lo2; repeat' split
                                 all_goals omega
    have hhi : hi2 b ≤ 191 := by unfold hi2; repeat' split
                                 all_goals omega
    show ∃ x, _ = some x ∧ Goes [b, d] c _ _ _ sg x
    by_cases hcc : 128 ≤ c ∧ c ≤ 191
    · rw [if_neg (by omega), if_neg (by omega)]
      have hct : [d, c].all ct = true := by simp [ct_true (c := c) hcc, ct_true (c := d) (by omega)]
      by_cases hb : b < 240
      · simp only [if_pos hb]
        refine ⟨_, rfl, .inr (.inl ⟨rfl, by show wrap64 (1 - 1) = 0; unfold wrap64; omega, ((b - 224) * 64 + d - 128) * 64 + c - 128, ?_⟩)⟩
        · show beg [b, d, c] = _
          rw [beg_cons b [d, c] 3 (sz3 (by omega)) (by omega) (by simp) hct]
          have e1 : nm (fill [b, d, c] 3 128) = ((b - 224) * 64 + d - 128) * 64 + c - 128 := rfl
          have e2 : nm (fill [b, d, c] 3 191) = ((b - 224) * 64 + d - 128) * 64 + c - 128 := rfl
          rw [e1, e2, judge_ok (by
            rw [least3]; unfold lo2 at h3; unfold hi2 at h4
            by_cases q1 : b = 224
            · rw [if_pos q1] at h3; omega
            · by_cases q2 : b = 237
              · rw [if_pos q2] at h4; omega
              · omega)]; rfl
      · simp only [if_neg hb]
        refine ⟨_, rfl, .inr (.inr ⟨rfl, by show 0 < wrap64 (2 - 1); unfold wrap64; omega, ?_, ?_⟩)⟩
        · show beg [b, d, c] = _
          rw [beg_cons b [d, c] 4 (sz4 (by omega)) (by omega) (by simp) hct]
          have e1 : nm (fill [b, d, c] 4 128) = (((b - 240) * 64 + d - 128) * 64 + c - 128) * 64 + 128 - 128 := rfl
          have e2 : nm (fill [b, d, c] 4 191) = (((b - 240) * 64 + d - 128) * 64 + c - 128) * 64 + 191 - 128 := rfl
          rw [e1, e2, judge_ok (by
            rw [least4]; unfold lo2 at h3; unfold hi2 at h4
            by_cases q1 : b = 240
            · rw [if_neg (by omega), if_pos q1] at h3; omega
            · by_cases q2 : b = 244
              · rw [if_neg (by omega), if_pos q2] at h4; omega
              · omega)]; rfl
        · have := Inv.three b d c (by omega) h2 h3 h4 hcc.1 hcc.2
          have e : wrap64 (2 - 1) = 1 := by unfold wrap64; omega
          show Inv [b, d, c] (wrap64 (2 - 1)) 128 191
          rw [e]; exact this
    · have hbad : beg [b, d, c] = F := beg_ct b [d, c] (by simp [ct_false (c := c) (by omega)])
      by_cases c1 : c < 128
      · rw [if_pos c1]; exact ⟨_, rfl, .inl ⟨rfl, hbad, rfl⟩⟩
      · rw [if_neg c1, if_pos (by omega)]; exact ⟨_, rfl, .inl ⟨rfl, hbad, rfl⟩⟩
  | three b d e h1 h2 h3 h4 h5 h6 =>
    rw [if_neg (by omega)]
    have hlo : lo2 b ≥ 128 := by unfold lo2; repeat' split
                                 all_goals omega
    have hhi : hi2 b ≤ 191 := by unfold hi2; repeat' split
                                 all_goals omega
    show ∃ x, _ = some x ∧ Goes [b, d, e] c _ _ _ sg x
    by_cases hcc : 128 ≤ c ∧ c ≤ 191
    · rw [if_neg (by omega), if_neg (by omega)]
      have hct : [d, e, c].all ct = true := by simp [ct_true (c := c) hcc, ct_true (c := d) (by omega), ct_true (c := e) (by omega)]
      refine ⟨_, rfl, .inr (.inl ⟨rfl, by show wrap64 (1 - 1) = 0; unfold wrap64; omega, (((b - 240) * 64 + d - 128) * 64 + e - 128) * 64 + c - 128, ?_⟩)⟩
      · show beg [b, d, e, c] = _
        rw [beg_cons b [d, e, c] 4 (sz4 (by omega)) (by omega) (by simp) hct]
        have e1 : nm (fill [b, d, e, c] 4 128) = (((b - 240) * 64 + d - 128) * 64 + e - 128) * 64 + c - 128 := rfl
        have e2 : nm (fill [b, d, e, c] 4 191) = (((b - 240) * 64 + d - 128) * 64 + e - 128) * 64 + c - 128 := rfl
        rw [e1, e2, judge_ok (by
          rw [least4]; unfold lo2 at h3; unfold hi2 at h4
          by_cases q1 : b = 240
          · rw [if_neg (by omega), if_pos q1] at h3; omega
          · by_cases q2 : b = 244
            · rw [if_neg (by omega), if_pos q2] at h4; omega
            · omega)]; rfl
    · have hbad : beg [b, d, e, c] = F := beg_ct b [d, e, c] (by simp [ct_false (c := c) (by omega)])
      by_cases c1 : c < 128
      · rw [if_pos c1]; exact ⟨_, rfl, .inl ⟨rfl, hbad, rfl⟩⟩
      · rw [if_neg c1, if_pos (by omega)]; exact ⟨_, rfl, .inl ⟨rfl, hbad, rfl⟩⟩
theorem bt_ok (s : ByteArray) (i : Int) : 0 ≤ bt s i ∧ bt s i < 256 := by have := bt_range s i; omega
theorem bt_left (s t : ByteArray) (i : Nat) (h : i < s.size) : bt (s ++ t) i = bt s i := by
  have hlt : i < (L s).length := by rw [L_len]; exact h
  rw [bt_L s i (L s)[i] (by simp)]
  refine bt_L (s ++ t) i _ ?_
  rw [app_L, List.getElem?_append_left hlt]; simp
theorem bt_right (s t : ByteArray) (j : Nat) (h : j < t.size) : bt (s ++ t) ((s.size + j : Nat) : Int) = bt t j := by
  have hlt : j < (L t).length := by rw [L_len]; exact h
  rw [bt_L t j (L t)[j] (by simp)]
  refine bt_L (s ++ t) (s.size + j) _ ?_
  rw [app_L, List.getElem?_append_right (by rw [L_len]; omega), L_len, show s.size + j - s.size = j by omega]; simp
theorem inv_ge {p : List Int} {l lo hi : Int} (h : Inv p l lo hi) : 0 ≤ l := by
  cases h with
  | none => omega
  | one => repeat' split
           all_goals omega
  | two => split <;> omega
  | three => omega
def OK (l lo hi : Int) : Prop := ∃ p, Inv p l lo hi
/-- A step is told, and goes on rightly. -/
theorem step_ok (k : Nat) (hk : 2 ≤ k) {l lo hi : Int} (h : OK l lo hi) (sg c : Int) (h0 : 0 ≤ c) (hc : c < 256) :
    ∃ x, utf_Walk_Step.f k l lo hi sg c = some x ∧ (x.1 = true → OK x.2.1 x.2.2.1 x.2.2.2.1) := by
  obtain ⟨p, hp⟩ := h
  obtain ⟨x, hx, hg⟩ := step_inv k hk hp sg c h0 hc
  refine ⟨x, hx, fun hxt => ?_⟩
  rcases hg with ⟨g1, _⟩ | ⟨_, g2, _⟩ | ⟨_, _, _, g4⟩
  · rw [g1] at hxt; cases hxt
  · exact ⟨[], by rw [g2]; exact Inv.none _ _⟩
  · exact ⟨_, g4⟩
/-- Outside of a sign a step hangs on its byte alone. -/
theorem step_zero (k : Nat) (lo hi sg lo' hi' sg' c : Int) (x : Bool × Int × Int × Int × Int) (h : utf_Walk_Step.f k 0 lo hi sg c = some x) :
    (x.1 = true → utf_Walk_Step.f k 0 lo' hi' sg' c = some x) ∧ (x.1 = false → ∃ y, utf_Walk_Step.f k 0 lo' hi' sg' c = some y ∧ y.1 = false) := by
  unfold utf_Walk_Step.f at h ⊢
  rw [if_pos rfl] at h ⊢
  cases hf : utf_first.f k c with
  | none => rw [hf] at h; cases h
  | some b =>
    rw [hf] at h
    simp only [Option.bind_some] at h ⊢
    by_cases hb : b.2.2.2.2 = true
    · rw [if_pos hb] at h ⊢
      obtain rfl := Option.some.inj h
      exact ⟨fun _ => rfl, fun e => by simp only at e; rw [hb] at e; cases e⟩
    · rw [if_neg hb] at h ⊢
      obtain rfl := Option.some.inj h
      exact ⟨fun e => absurd e hb, fun e => ⟨_, rfl, by simpa using hb⟩⟩
theorem shift (s t : ByteArray) (hs : s.size ≤ 1000) (ht : t.size ≤ 1000) (d : Nat) : ∀ (k j : Nat) (l lo hi sg lo' hi' sg' : Int), j + d = t.size → OK l lo hi → (l = 0 ∨ lo' = lo ∧ hi' = hi ∧ sg' = sg) → d + 50 ≤ k →
    ∃ r, utf_Bad.l0 k t j l lo' hi' sg' = some r ∧ utf_Bad.l0 k (s ++ t) ((s.size + j : Nat) : Int) l lo hi sg = some (if r ≥ 0 then s.size + r else -1) := by
  have hst : (s ++ t).size = s.size + t.size := ByteArray.size_append
  induction d with
  | zero =>
    intro k j l lo hi sg lo' hi' sg' hj hv hz hk
    obtain ⟨k, rfl⟩ : ∃ m, k = m + 1 := ⟨k - 1, by omega⟩
    simp only [utf_Bad.l0]
    rw [if_neg (show ¬ ((j : Int) < (t.size : Int)) by omega), if_neg (show ¬ (((s.size + j : Nat) : Int) < ((s ++ t).size : Int)) by omega)]
    by_cases hl : l > 0
    · simp only [if_pos hl]; exact ⟨_, rfl, by rw [if_pos (by omega)]; simp [hst]⟩
    · simp only [if_neg hl]; exact ⟨_, rfl, by rw [if_neg (by omega)]⟩
  | succ d ih =>
    intro k j l lo hi sg lo' hi' sg' hj hv hz hk
    obtain ⟨k, rfl⟩ : ∃ m, k = m + 1 := ⟨k - 1, by omega⟩
    simp only [utf_Bad.l0]
    have hb := bt_ok t j
    rw [if_pos (show ((j : Int) < (t.size : Int)) by omega), if_pos (show (((s.size + j : Nat) : Int) < ((s ++ t).size : Int)) by omega), if_pos (show (0 : Int) ≤ (j : Int) by omega), if_pos (show (0 : Int) ≤ ((s.size + j : Nat) : Int) by omega), bt_right s t j (by omega)]
    obtain ⟨x, hx, hg⟩ := step_ok k (by omega) hv sg (bt t j) hb.1 hb.2
    have w1 : wrap64 ((j : Int) + 1) = ((j + 1 : Nat) : Int) := by unfold wrap64; omega
    have w2 : wrap64 (((s.size + j : Nat) : Int) + 1) = ((s.size + (j + 1) : Nat) : Int) := by unfold wrap64; omega
    rw [hx, w1, w2]
    have hboth : (x.1 = true → utf_Walk_Step.f k l lo' hi' sg' (bt t j) = some x) ∧ (x.1 = false → ∃ y, utf_Walk_Step.f k l lo' hi' sg' (bt t j) = some y ∧ y.1 = false) := by
      rcases hz with rfl | ⟨rfl, rfl, rfl⟩
      · exact step_zero k lo hi sg lo' hi' sg' _ x hx
      · exact ⟨fun _ => hx, fun e => ⟨x, hx, e⟩⟩
    cases hx1 : x.1 with
    | true =>
      rw [hboth.1 hx1]
      simp only [Option.bind_some, hx1, if_true]
      exact ih k (j + 1) _ _ _ _ _ _ _ (by omega) (hg hx1) (Or.inr ⟨rfl, rfl, rfl⟩) (by omega)
    | false =>
      obtain ⟨y, hy, hy1⟩ := hboth.2 hx1
      rw [hy]
      simp only [Option.bind_some, hx1, hy1, Bool.false_eq_true, if_false]
      exact ⟨_, rfl, by rw [if_pos (by omega)]; simp⟩
theorem front (s t : ByteArray) (hs : s.size ≤ 1000) (ht : t.size ≤ 1000) (d : Nat) : ∀ (i : Nat) (l lo hi sg : Int), i + d = s.size → OK l lo hi →
    (∃ r, (∀ k, d + 50 ≤ k → utf_Bad.l0 k s i l lo hi sg = some r ∧ utf_Bad.l0 k (s ++ t) i l lo hi sg = some r) ∧ 0 ≤ r ∧ r < s.size) ∨
    (∃ l' lo' hi' sg', OK l' lo' hi' ∧ ∀ k, d + 50 ≤ k → utf_Bad.l0 k s i l lo hi sg = some (if l' > 0 then (s.size : Int) else -1) ∧ utf_Bad.l0 k (s ++ t) i l lo hi sg = utf_Bad.l0 (k - d) (s ++ t) (s.size : Int) l' lo' hi' sg') := by
  have hst : (s ++ t).size = s.size + t.size := ByteArray.size_append
  induction d with
  | zero =>
    intro i l lo hi sg hi1 hv
    right
    refine ⟨l, lo, hi, sg, hv, fun k hk => ?_⟩
    obtain ⟨k, rfl⟩ : ∃ m, k = m + 1 := ⟨k - 1, by omega⟩
    constructor
    · simp only [utf_Bad.l0]
      rw [if_neg (show ¬ ((i : Int) < (s.size : Int)) by omega)]
      split <;> rfl
    · rw [show i = s.size by omega]; rfl
  | succ d ih =>
    intro i l lo hi sg hi1 hv
    have hb := bt_ok s i
    have w1 : wrap64 ((i : Int) + 1) = ((i + 1 : Nat) : Int) := by unfold wrap64; omega
    obtain ⟨x, hx, hg⟩ := step_ok 2 (by omega) hv sg (bt s i) hb.1 hb.2
    have hx' : ∀ k, 2 ≤ k → utf_Walk_Step.f k l lo hi sg (bt s i) = some x := fun k hk => by
      obtain ⟨m, rfl⟩ : ∃ m, k = 2 + m := ⟨k - 2, by omega⟩
      clear hk
      induction m with
      | zero => exact hx
      | succ m ihm => exact utf_Walk_Step.mono _ _ _ _ _ _ _ ihm
    cases hx1 : x.1 with
    | false =>
      left
      refine ⟨i, fun k hk => ?_, by omega, by omega⟩
      obtain ⟨k, rfl⟩ : ∃ m, k = m + 1 := ⟨k - 1, by omega⟩
      simp only [utf_Bad.l0]
      rw [if_pos (show ((i : Int) < (s.size : Int)) by omega), if_pos (show ((i : Int) < ((s ++ t).size : Int)) by omega), bt_left s t i (by omega), hx' k (by omega)]
      simp [hx1]
    | true =>
      have hnext := ih (i + 1) x.2.1 x.2.2.1 x.2.2.2.1 x.2.2.2.2 (by omega) (hg hx1)
      have unf : ∀ k, d + 1 + 50 ≤ k → utf_Bad.l0 k s i l lo hi sg = utf_Bad.l0 (k - 1) s ((i + 1 : Nat) : Int) x.2.1 x.2.2.1 x.2.2.2.1 x.2.2.2.2 ∧ utf_Bad.l0 k (s ++ t) i l lo hi sg = utf_Bad.l0 (k - 1) (s ++ t) ((i + 1 : Nat) : Int) x.2.1 x.2.2.1 x.2.2.2.1 x.2.2.2.2 := by
        intro k hk
        obtain ⟨k, rfl⟩ : ∃ m, k = m + 1 := ⟨k - 1, by omega⟩
        simp only [utf_Bad.l0]
        rw [if_pos (show ((i : Int) < (s.size : Int)) by omega), if_pos (show ((i : Int) < ((s ++ t).size : Int)) by omega), bt_left s t i (by omega), hx' k (by omega), w1]
        simp [hx1]
      rcases hnext with ⟨r, h1, h2, h3⟩ | ⟨l', lo', hi', sg', h1, h2⟩
      · left
        refine ⟨r, fun k hk => ?_, h2, h3⟩
        rw [(unf k hk).1, (unf k hk).2]; exact h1 (k - 1) (by omega)
      · right
        refine ⟨l', lo', hi', sg', h1, fun k hk => ?_⟩
        rw [(unf k hk).1, (unf k hk).2, show k - (d + 1) = k - 1 - d by omega]; exact h2 (k - 1) (by omega)
set_option maxRecDepth 100000 in
theorem alive_so : rifflelaw02_utfAlive.f 3000 = some true := by decide +kernel
theorem parts (s t : ByteArray) : rifflelaw02_UtfParts.f 3000 s t = some true := by
  unfold rifflelaw02_UtfParts.f
  rw [alive_so]
  simp only [Option.bind_some, if_true]
  by_cases h1 : (s.size : Int) > 1000
  · rw [if_pos h1]; simp [rifflelaw02_UtfParts.j0]
  rw [if_neg h1]
  simp only [rifflelaw02_UtfParts.j0]
  by_cases h2 : (t.size : Int) > 1000
  · rw [if_pos (by simpa using h2)]
  rw [if_neg (by simpa using h2)]
  have hle9 : s.size + t.size ≤ 9223372036854775807 := by omega
  simp only [hle9, if_true]
  have k0 : OK 0 0 0 := ⟨[], Inv.none 0 0⟩
  obtain ⟨b, hb, _⟩ := shift s t (by omega) (by omega) t.size 2999 0 0 0 0 0 0 0 0 (by omega) k0 (Or.inl rfl) (by omega)
  have hb' : utf_Bad.f 2999 t = some b := hb
  rw [hb']
  rcases front s t (by omega) (by omega) s.size 0 0 0 0 0 (by omega) k0 with ⟨r, e1, e2, e3⟩ | ⟨l', lo', hi', sg', e1, e2⟩
  · obtain ⟨f1, f2⟩ := e1 2999 (by omega)
    have f1' : utf_Bad.f 2999 s = some r := f1
    have f2' : utf_Bad.f 2999 (s ++ t) = some r := f2
    rw [f1', f2']
    simp only [Option.bind_some, rifflelaw02_UtfParts.j1]
    rw [if_pos (by omega), if_pos (by simpa using e3)]; simp
  · obtain ⟨f1, f2⟩ := e2 2999 (by omega)
    have f1' : utf_Bad.f 2999 s = some (if l' > 0 then (s.size : Int) else -1) := f1
    have f2' : utf_Bad.f 2999 (s ++ t) = utf_Bad.l0 (2999 - s.size) (s ++ t) (s.size : Int) l' lo' hi' sg' := f2
    by_cases hl : l' > 0
    · rw [if_pos hl] at f1'
      obtain ⟨r, g1, g2⟩ := shift s t (by omega) (by omega) t.size (2999 - s.size) 0 l' lo' hi' sg' lo' hi' sg' (by omega) e1 (Or.inr ⟨rfl, rfl, rfl⟩) (by omega)
      have g2' : utf_Bad.l0 (2999 - s.size) (s ++ t) (s.size : Int) l' lo' hi' sg' = some (if r ≥ 0 then (s.size : Int) + r else -1) := g2
      rw [f1', f2', g2']
      simp only [Option.bind_some, rifflelaw02_UtfParts.j1, rifflelaw02_UtfParts.j2]
      rw [if_pos (by omega), if_neg (by simp)]
      simp only [if_true]
      by_cases hs0 : (s.size : Int) > 0
      · rw [if_pos (by simpa using hs0)]
        by_cases ht0 : t.size = 0
        · -- nothing follows: it isn't whole
          have : r ≥ 0 := by
            obtain ⟨m, hm⟩ : ∃ m, 2999 - s.size = m + 1 := ⟨2999 - s.size - 1, by omega⟩
            rw [hm] at g1
            simp only [utf_Bad.l0] at g1
            rw [if_neg (by omega), if_pos hl] at g1
            have := Option.some.inj g1; omega
          rw [if_pos this, if_neg (by omega)]
        · have htt : decide ((t.size : Int) > 0) = true := by simp; omega
          rw [htt]; simp
      · -- an empty text ends within no sign
        exfalso
        obtain ⟨m, hm⟩ : ∃ m, (2999 : Nat) = m + 1 := ⟨2998, rfl⟩
        have f3 : utf_Bad.l0 2999 s ((0 : Nat) : Int) 0 0 0 0 = some (s.size : Int) := f1'
        rw [hm] at f3
        simp only [utf_Bad.l0] at f3
        rw [if_neg (by omega), if_neg (by omega)] at f3
        have := Option.some.inj f3; omega
    · rw [if_neg hl] at f1'
      have l0 : l' = 0 := by obtain ⟨p, hp⟩ := e1; have := inv_ge hp; omega
      subst l0
      obtain ⟨r, g1, g2⟩ := shift s t (by omega) (by omega) t.size (2999 - s.size) 0 0 lo' hi' sg' 0 0 0 (by omega) e1 (Or.inl rfl) (by omega)
      have g1' : utf_Bad.f (2999 - s.size) t = some r := g1
      have hrb : r = b := by
        have hm : ∀ m, utf_Bad.f (2999 - s.size + m) t = some r := by
          intro m
          induction m with
          | zero => exact g1'
          | succ m ihm => exact utf_Bad.mono _ _ _ ihm
        have := hm s.size
        rw [show 2999 - s.size + s.size = 2999 by omega, hb'] at this
        exact (Option.some.inj this).symm
      subst hrb
      have g2' : utf_Bad.l0 (2999 - s.size) (s ++ t) (s.size : Int) 0 lo' hi' sg' = some (if r ≥ 0 then (s.size : Int) + r else -1) := g2
      rw [f1', f2', g2']
      simp only [Option.bind_some, rifflelaw02_UtfParts.j1, rifflelaw02_UtfParts.j2]
      rw [if_neg (by omega), if_neg (by simp), if_neg (by omega)]
      simp only [Bool.false_eq_true, if_false]
      by_cases hr : r ≥ 0
      · simp only [if_pos hr]
        have hle : r ≤ 2000 := by
          have hmax : ∀ (d k j : Nat) (l lo hi sg x : Int), j + d = t.size → utf_Bad.l0 k t j l lo hi sg = some x → x ≤ t.size := by
            intro d
            induction d with
            | zero =>
              intro k j l lo hi sg x hj hx
              cases k with
              | zero => simp [utf_Bad.l0] at hx
              | succ k =>
                simp only [utf_Bad.l0] at hx
                rw [if_neg (by omega)] at hx
                split at hx <;> (have := Option.some.inj hx; omega)
            | succ d ihd =>
              intro k j l lo hi sg x hj hx
              cases k with
              | zero => simp [utf_Bad.l0] at hx
              | succ k =>
                simp only [utf_Bad.l0] at hx
                rw [if_pos (by omega), if_pos (by omega)] at hx
                obtain ⟨y, _, hx⟩ := Option.bind_eq_some_iff.mp hx
                split at hx
                · rw [show wrap64 ((j : Int) + 1) = ((j + 1 : Nat) : Int) by unfold wrap64; omega] at hx
                  exact ihd k (j + 1) _ _ _ _ _ (by omega) hx
                · have := Option.some.inj hx; omega
          have := hmax t.size _ 0 0 0 0 0 r (by omega) g1
          omega
        rw [show wrap64 ((s.size : Int) + r) = (s.size : Int) + r by unfold wrap64; omega]; simp
      · simp only [if_neg hr]; rfl
end Go.Proofs.Ytjfoppmpiklfiab.LinkUtfParts
