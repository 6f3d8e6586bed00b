/- The printed functions of UTF-8 told by plain lists of bytes: both say where a text is not UTF-8. Conditions: none. -/
import Derived.Test.YthfhefkacmepkaaDoorUW
import Derived.Test.YthfhefkacmepkaaDoorBeg
namespace Go.Proofs.YthfhefkacmepkaaDoor.LinkU
open Go.RowKit Go.Proofs.YthfhefkacmepkaaDoor.PPathPuts Go.Proofs.YthfhefkacmepkaaDoor.UW Go.Proofs.YthfhefkacmepkaaDoor.Beg Go.Proofs.YthfhefkacmepkaaDoorW.PrintWords Go.Proofs.YthfhefkacmepkaaDoorW.PrintLast
open Go.Proofs.YthfhefkacmepkaaDoor.Num (L L_len bt_L bt0 take_L app_L ext_L L_range str_L nil_iff)
set_option linter.unusedVariables false
set_option linter.unusedSimpArgs false

/-! Of the first byte: from which one to which one the second may be. -/
def lo2 (b : Int) : Int := if b = 224 then 160 else if b = 240 then 144 else 128
def hi2 (b : Int) : Int := if b = 237 then 159 else if b = 244 then 143 else 191
inductive Inv : List Int → Int → Int → Int → Prop
  | none (lo hi : Int) : Inv [] 0 lo hi
  | one (b : Int) (h1 : 194 ≤ b) (h2 : b ≤ 244) : Inv [b] (if b < 224 then 1 else if b < 240 then 2 else 3) (lo2 b) (hi2 b)
  | two (b c : Int) (h1 : 224 ≤ b) (h2 : b ≤ 244) (h3 : lo2 b ≤ c) (h4 : c ≤ hi2 b) : Inv [b, c] (if b < 240 then 1 else 2) 128 191
  | three (b c d : Int) (h1 : 240 ≤ b) (h2 : b ≤ 244) (h3 : lo2 b ≤ c) (h4 : c ≤ hi2 b) (h5 : 128 ≤ d) (h6 : d ≤ 191) : Inv [b, c, d] 1 128 191
def Goes (p : List Int) (c l lo hi sg : Int) (x : Bool × Int × Int × Int × Int) : Prop :=
  (x.1 = false ∧ beg (p ++ [c]) = F ∧ x.2 = (l, lo, hi, sg)) ∨
  (x.1 = true ∧ x.2.1 = 0 ∧ ∃ n, beg (p ++ [c]) = (true, true, n)) ∨
  (x.1 = true ∧ 0 < x.2.1 ∧ beg (p ++ [c]) = (true, false, 0) ∧ Inv (p ++ [c]) x.2.1 x.2.2.1 x.2.2.2.1)
theorem first_eq (k : Nat) (hk : 2 ≤ k) (c : Int) : ∃ sg, utf_first.f k c =
    some (if c < 128 then (0, 128, 191, sg, true) else if c < 194 ∨ c > 244 then (0, 128, 191, 0, false) else (if c < 224 then 1 else if c < 240 then 2 else 3, lo2 c, hi2 c, sg, true)) := by
  obtain ⟨k, rfl⟩ : ∃ j, k = j + 2 := ⟨k - 2, by omega⟩
  unfold utf_first.f
  simp only [utf_first.j0, utf_first.j1]
  by_cases h1 : c < 128
  · exact ⟨_, by rw [if_pos h1, if_pos h1]⟩
  rw [if_neg h1]
  simp only [if_neg h1]
  by_cases h2 : c < 194
  · exact ⟨0, by rw [if_pos h2, if_pos (Or.inl h2)]; rfl⟩
  rw [if_neg h2]
  by_cases h3 : c > 244
  · exact ⟨0, by rw [if_pos (by simpa using h3), if_pos (Or.inr h3)]⟩
  rw [if_neg (by simpa using h3)]
  simp only [if_neg (show ¬ (c < 194 ∨ c > 244) by omega)]
  unfold lo2 hi2
  by_cases h4 : c < 224
  · rw [if_pos h4]
    simp only [if_pos h4, if_neg (show ¬ c = 224 by omega), if_neg (show ¬ c = 237 by omega), if_neg (show ¬ c = 240 by omega), if_neg (show ¬ c = 244 by omega)]
    exact ⟨_, rfl⟩
  rw [if_neg h4]
  simp only [if_neg h4]
  by_cases h5 : c < 240
  · rw [if_pos h5]
    simp only [if_pos h5, if_neg (show ¬ c = 240 by omega), if_neg (show ¬ c = 244 by omega)]
    by_cases h6 : c = 224
    · simp only [if_pos h6, if_neg (show ¬ c = 237 by omega)]; exact ⟨_, rfl⟩
    · simp only [if_neg h6]
      by_cases h7 : c = 237
      · simp only [if_pos h7]; exact ⟨_, rfl⟩
      · simp only [if_neg h7]; exact ⟨_, rfl⟩
  rw [if_neg h5]
  simp only [if_neg h5, if_neg (show ¬ c = 224 by omega), if_neg (show ¬ c = 237 by omega)]
  by_cases h6 : c = 240
  · simp only [if_pos h6, if_neg (show ¬ c = 244 by omega)]; exact ⟨_, rfl⟩
  · simp only [if_neg h6]
    by_cases h7 : c = 244
    · simp only [if_pos h7]; exact ⟨_, rfl⟩
    · simp only [if_neg h7]; exact ⟨_, rfl⟩
theorem step_inv (k : Nat) (hk : 2 ≤ k) {p : List Int} {l lo hi : Int} (hi' : Inv p l lo hi) (sg c : Int) (h0 : 0 ≤ c) (hc : c < 256) :
    ∃ x, utf_Walk_Step.f k l lo hi sg c = some x ∧ Goes p c l lo hi sg x := by
  unfold utf_Walk_Step.f
  cases hi' with
  | none =>
    rw [if_pos rfl]
    obtain ⟨g, hf⟩ := first_eq k hk c
    rw [hf]
    simp only [Option.bind_some]
    by_cases h1 : c < 128
    · simp only [if_pos h1, if_true]
      refine ⟨_, rfl, .inr (.inl ⟨rfl, rfl, c, ?_⟩)⟩
      rw [List.nil_append, beg_cons c [] 1 (sz1 h1) (by omega) (by simp) rfl]
      have e : nm (fill [c] 1 128) = c := rfl
      have e2 : nm (fill [c] 1 191) = c := rfl
      rw [e, e2, judge_ok (by rw [least1]; omega)]; rfl
    simp only [if_neg h1]
    by_cases h2 : c < 194 ∨ c > 244
    · simp only [if_pos h2, Bool.false_eq_true, if_false]
      refine ⟨_, rfl, .inl ⟨rfl, ?_, rfl⟩⟩
      rw [List.nil_append]
      by_cases h3 : (128 ≤ c ∧ c < 192) ∨ 248 ≤ c
      · exact beg_0 c [] (sz0 h3)
      · by_cases h4 : c < 194
        · rw [beg_cons c [] 2 (sz2 (by omega)) (by omega) (by simp) rfl]
          have e2 : nm (fill [c] 2 191) = (c - 192) * 64 + 191 - 128 := rfl
          rw [e2, judge_bad (by left; rw [least2]; omega)]
        · rw [beg_cons c [] 4 (sz4 (by omega)) (by omega) (by simp) rfl]
          have e1 : nm (fill [c] 4 128) = (((c - 240) * 64 + 128 - 128) * 64 + 128 - 128) * 64 + 128 - 128 := rfl
          rw [e1, judge_bad (by right; left; omega)]
    · simp only [if_neg h2, if_true]
      refine ⟨_, rfl, .inr (.inr ⟨rfl, by show 0 < (if c < 224 then (1 : Int) else if c < 240 then 2 else 3); repeat' split
                                          all_goals omega, ?_, Inv.one c (by omega) (by omega)⟩)⟩
      rw [List.nil_append]
      by_cases h3 : c < 224
      · rw [beg_cons c [] 2 (sz2 (by omega)) (by omega) (by simp) rfl]
        have e1 : nm (fill [c] 2 128) = (c - 192) * 64 + 128 - 128 := rfl
        have e2 : nm (fill [c] 2 191) = (c - 192) * 64 + 191 - 128 := rfl
        rw [e1, e2, judge_ok (by rw [least2]; omega)]; rfl
      · by_cases h4 : c < 240
        · rw [beg_cons c [] 3 (sz3 (by omega)) (by omega) (by simp) rfl]
          have e1 : nm (fill [c] 3 128) = ((c - 224) * 64 + 128 - 128) * 64 + 128 - 128 := rfl
          have e2 : nm (fill [c] 3 191) = ((c - 224) * 64 + 191 - 128) * 64 + 191 - 128 := rfl
          rw [e1, e2, judge_ok (by rw [least3]; omega)]; rfl
        · rw [beg_cons c [] 4 (sz4 (by omega)) (by omega) (by simp) rfl]
          have e1 : nm (fill [c] 4 128) = (((c - 240) * 64 + 128 - 128) * 64 + 128 - 128) * 64 + 128 - 128 := rfl
          have e2 : nm (fill [c] 4 191) = (((c - 240) * 64 + 191 - 128) * 64 + 191 - 128) * 64 + 191 - 128 := rfl
          rw [e1, e2, judge_ok (by rw [least4]; omega)]; rfl
  | one b h1 h2 =>
    have hl : ¬ (if b < 224 then (1 : Int) else if b < 240 then 2 else 3) = 0 := by repeat' split
                                                                                    all_goals omega
    rw [if_neg hl]
    have hlo : lo2 b ≥ 128 := by unfold lo2; repeat' split
                                 all_goals omega
    have hhi : hi2 b ≤ 191 := by unfold hi2; repeat' split
                                 all_goals omega
    show ∃ x, _ = some x ∧ Goes [b] c _ _ _ sg x
    by_cases hcc : lo2 b ≤ c ∧ c ≤ hi2 b
    · rw [if_neg (by omega), if_neg (by omega)]
      have hct : [c].all ct = true := by simp [ct_true (c := c) (by omega)]
      by_cases hb : b < 224
      · simp only [if_pos hb]
        refine ⟨_, rfl, .inr (.inl ⟨rfl, by show wrap64 (1 - 1) = 0; unfold wrap64; omega, (b - 192) * 64 + c - 128, ?_⟩)⟩
        · show beg [b, c] = _
          rw [beg_cons b [c] 2 (sz2 (by omega)) (by omega) (by simp) hct]
          have e1 : nm (fill [b, c] 2 128) = (b - 192) * 64 + c - 128 := rfl
          have e2 : nm (fill [b, c] 2 191) = (b - 192) * 64 + c - 128 := rfl
          rw [e1, e2, judge_ok (by rw [least2]; omega)]; rfl
      · by_cases hb2 : b < 240
        · simp only [if_neg hb, if_pos hb2]
          refine ⟨_, rfl, .inr (.inr ⟨rfl, by show 0 < wrap64 (2 - 1); unfold wrap64; omega, ?_, ?_⟩)⟩
          · show beg [b, c] = _
            rw [beg_cons b [c] 3 (sz3 (by omega)) (by omega) (by simp) hct]
            have e1 : nm (fill [b, c] 3 128) = ((b - 224) * 64 + c - 128) * 64 + 128 - 128 := rfl
            have e2 : nm (fill [b, c] 3 191) = ((b - 224) * 64 + c - 128) * 64 + 191 - 128 := rfl
            rw [e1, e2, judge_ok (by
              rw [least3]; unfold lo2 hi2 at hcc
              by_cases q1 : b = 224
              · rw [if_pos q1, if_neg (by omega), if_neg (by omega)] at hcc; omega
              · by_cases q2 : b = 237
                · rw [if_neg q1, if_neg (by omega), if_pos q2] at hcc; omega
                · omega)]; rfl
          · have := Inv.two b c (by omega) h2 hcc.1 hcc.2
            rw [if_pos hb2] at this
            have e : wrap64 (2 - 1) = 1 := by unfold wrap64; omega
            show Inv [b, c] (wrap64 (2 - 1)) 128 191
            rw [e]; exact this
        · simp only [if_neg hb, if_neg hb2]
          refine ⟨_, rfl, .inr (.inr ⟨rfl, by show 0 < wrap64 (3 - 1); unfold wrap64; omega, ?_, ?_⟩)⟩
          · show beg [b, c] = _
            rw [beg_cons b [c] 4 (sz4 (by omega)) (by omega) (by simp) hct]
            have e1 : nm (fill [b, c] 4 128) = (((b - 240) * 64 + c - 128) * 64 + 128 - 128) * 64 + 128 - 128 := rfl
            have e2 : nm (fill [b, c] 4 191) = (((b - 240) * 64 + c - 128) * 64 + 191 - 128) * 64 + 191 - 128 := rfl
            rw [e1, e2, judge_ok (by
              rw [least4]; unfold lo2 hi2 at hcc
              by_cases q1 : b = 240
              · rw [if_neg (by omega), if_pos q1, if_neg (by omega), if_neg (by omega)] at hcc; omega
              · by_cases q2 : b = 244
                · rw [if_neg (by omega), if_neg q1, if_neg (by omega), if_pos q2] at hcc; omega
                · omega)]; rfl
          · have := Inv.two b c (by omega) h2 hcc.1 hcc.2
            rw [if_neg hb2] at this
            have e : wrap64 (3 - 1) = 2 := by unfold wrap64; omega
            show Inv [b, c] (wrap64 (3 - 1)) 128 191
            rw [e]; exact this
    · have hbad : beg [b, c] = F := by
        by_cases hct : 128 ≤ c ∧ c ≤ 191
        · have hct2 : [c].all ct = true := by simp [ct_true hct]
          unfold lo2 hi2 at hcc
          by_cases q1 : b = 224
          · rw [if_pos q1, if_neg (by omega), if_neg (by omega)] at hcc
            rw [beg_cons b [c] 3 (sz3 (by omega)) (by omega) (by simp) hct2]
            have e2 : nm (fill [b, c] 3 191) = ((b - 224) * 64 + c - 128) * 64 + 191 - 128 := rfl
            rw [e2, judge_bad (by left; rw [least3]; omega)]
          · by_cases q2 : b = 237
            · rw [if_neg q1, if_neg (by omega), if_pos q2] at hcc
              rw [beg_cons b [c] 3 (sz3 (by omega)) (by omega) (by simp) hct2]
              have e1 : nm (fill [b, c] 3 128) = ((b - 224) * 64 + c - 128) * 64 + 128 - 128 := rfl
              have e2 : nm (fill [b, c] 3 191) = ((b - 224) * 64 + c - 128) * 64 + 191 - 128 := rfl
              rw [e1, e2, judge_bad (by right; right; omega)]
            · by_cases q3 : b = 240
              · rw [if_neg q1, if_pos q3, if_neg q2, if_neg (by omega)] at hcc
                rw [beg_cons b [c] 4 (sz4 (by omega)) (by omega) (by simp) hct2]
                have e2 : nm (fill [b, c] 4 191) = (((b - 240) * 64 + c - 128) * 64 + 191 - 128) * 64 + 191 - 128 := rfl
                rw [e2, judge_bad (by left; rw [least4]; omega)]
              · by_cases q4 : b = 244
                · rw [if_neg q1, if_neg q3, if_neg q2, if_pos q4] at hcc
                  rw [beg_cons b [c] 4 (sz4 (by omega)) (by omega) (by simp) hct2]
                  have e1 : nm (fill [b, c] 4 128) = (((b - 240) * 64 + c - 128) * 64 + 128 - 128) * 64 + 128 - 128 := rfl
                  rw [e1, judge_bad (by right; left; omega)]
                · rw [if_neg q1, if_neg q3, if_neg q2, if_neg q4] at hcc; omega
        · exact beg_ct b [c] (by simp [ct_false (c := c) (by omega)])
      by_cases c1 : c < lo2 b
      · rw [if_pos c1]; exact ⟨_, rfl, .inl ⟨rfl, hbad, rfl⟩⟩
      · rw [if_neg c1, if_pos (by omega)]; exact ⟨_, rfl, .inl ⟨rfl, hbad, rfl⟩⟩
  | two b d h1 h2 h3 h4 =>
    have hl : ¬ (if b < 240 then (1 : Int) else 2) = 0 := by split <;> omega
    rw [if_neg hl]
    have hlo : lo2 b ≥ 128 := by unfold lo2; repeat' split
                                 all_goals omega
    have hhi : hi2 b ≤ 191 := by unfold hi2; repeat' split
                                 all_goals omega
    show ∃ x, _ = some x ∧ Goes [b, d] c _ _ _ sg x
    by_cases hcc : 128 ≤ c ∧ c ≤ 191
    · rw [if_neg (by omega), if_neg (by omega)]
      have hct : [d, c].all ct = true := by simp [ct_true (c := c) hcc, ct_true (c := d) (by omega)]
      by_cases hb : b < 240
      · simp only [if_pos hb]
        refine ⟨_, rfl, .inr (.inl ⟨rfl, by show wrap64 (1 - 1) = 0; unfold wrap64; omega, ((b - 224) * 64 + d - 128) * 64 + c - 128, ?_⟩)⟩
        · show beg [b, d, c] = _
          rw [beg_cons b [d, c] 3 (sz3 (by omega)) (by omega) (by simp) hct]
          have e1 : nm (fill [b, d, c] 3 128) = ((b - 224) * 64 + d - 128) * 64 + c - 128 := rfl
          have e2 : nm (fill [b, d, c] 3 191) = ((b - 224) * 64 + d - 128) * 64 + c - 128 := rfl
          rw [e1, e2, judge_ok (by
            rw [least3]; unfold lo2 at h3; unfold hi2 at h4
            by_cases q1 : b = 224
            · rw [if_pos q1] at h3; omega
            · by_cases q2 : b = 237
              · rw [if_pos q2] at h4; omega
              · omega)]; rfl
      · simp only [if_neg hb]
        refine ⟨_, rfl, .inr (.inr ⟨rfl, by show 0 < wrap64 (2 - 1); unfold wrap64; omega, ?_, ?_⟩)⟩
        · show beg [b, d, c] = _
          rw [beg_cons b [d, c] 4 (sz4 (by omega)) (by omega) (by simp) hct]
          have e1 : nm (fill [b, d, c] 4 128) = (((b - 240) * 64 + d - 128) * 64 + c - 128) * 64 + 128 - 128 := rfl
          have e2 : nm (fill [b, d, c] 4 191) = (((b - 240) * 64 + d - 128) * 64 + c - 128) * 64 + 191 - 128 := rfl
          rw [e1, e2, judge_ok (by
            rw [least4]; unfold lo2 at h3; unfold hi2 at h4
            by_cases q1 : b = 240
            · rw [if_neg (by omega), if_pos q1] at h3; omega
            · by_cases q2 : b = 244
              · rw [if_neg (by omega), if_pos q2] at h4; omega
              · omega)]; rfl
        · have := Inv.three b d c (by omega) h2 h3 h4 hcc.1 hcc.2
          have e : wrap64 (2 - 1) = 1 := by unfold wrap64; omega
          show Inv [b, d, c] (wrap64 (2 - 1)) 128 191
          rw [e]; exact this
    · have hbad : beg [b, d, c] = F := beg_ct b [d, c] (by simp [ct_false (c := c) (by omega)])
      by_cases c1 : c < 128
      · rw [if_pos c1]; exact ⟨_, rfl, .inl ⟨rfl, hbad, rfl⟩⟩
      · rw [if_neg c1, if_pos (by omega)]; exact ⟨_, rfl, .inl ⟨rfl, hbad, rfl⟩⟩
  | three b d e h1 h2 h3 h4 h5 h6 =>
    rw [if_neg (by omega)]
    have hlo : lo2 b ≥ 128 := by unfold lo2; repeat' split
                                 all_goals omega
    have hhi : hi2 b ≤ 191 := by unfold hi2; repeat' split
                                 all_goals omega
    show ∃ x, _ = some x ∧ Goes [b, d, e] c _ _ _ sg x
    by_cases hcc : 128 ≤ c ∧ c ≤ 191
    · rw [if_neg (by omega), if_neg (by omega)]
      have hct : [d, e, c].all ct = true := by simp [ct_true (c := c) hcc, ct_true (c := d) (by omega), ct_true (c := e) (by omega)]
      refine ⟨_, rfl, .inr (.inl ⟨rfl, by show wrap64 (1 - 1) = 0; unfold wrap64; omega, (((b - 240) * 64 + d - 128) * 64 + e - 128) * 64 + c - 128, ?_⟩)⟩
      · show beg [b, d, e, c] = _
        rw [beg_cons b [d, e, c] 4 (sz4 (by omega)) (by omega) (by simp) hct]
        have e1 : nm (fill [b, d, e, c] 4 128) = (((b - 240) * 64 + d - 128) * 64 + e - 128) * 64 + c - 128 := rfl
        have e2 : nm (fill [b, d, e, c] 4 191) = (((b - 240) * 64 + d - 128) * 64 + e - 128) * 64 + c - 128 := rfl
        rw [e1, e2, judge_ok (by
          rw [least4]; unfold lo2 at h3; unfold hi2 at h4
          by_cases q1 : b = 240
          · rw [if_neg (by omega), if_pos q1] at h3; omega
          · by_cases q2 : b = 244
            · rw [if_neg (by omega), if_pos q2] at h4; omega
            · omega)]; rfl
    · have hbad : beg [b, d, e, c] = F := beg_ct b [d, e, c] (by simp [ct_false (c := c) (by omega)])
      by_cases c1 : c < 128
      · rw [if_pos c1]; exact ⟨_, rfl, .inl ⟨rfl, hbad, rfl⟩⟩
      · rw [if_neg c1, if_pos (by omega)]; exact ⟨_, rfl, .inl ⟨rfl, hbad, rfl⟩⟩
theorem inv_len {p : List Int} {l lo hi : Int} (h : Inv p l lo hi) : l > 0 ↔ p ≠ [] := by
  cases h with
  | none => simp
  | one => simp; repeat' split
           all_goals omega
  | two => simp; split <;> omega
  | three => simp
/-- Both go through the bytes, one by one, alike. -/
theorem bad_same (s : ByteArray) (hs : s.size ≤ 50000) (d : Nat) : ∀ (k k' i a : Nat) (l lo hi sg : Int), i + d = s.size → a ≤ i → Inv (((L s).take i).drop a) l lo hi → d + 50 ≤ k → d + 50 ≤ k' →
    ∃ r, utf_Bad.l0 k s i l lo hi sg = some r ∧ riffleref02_Bad.l0 k' s a i = some r := by
  induction d with
  | zero =>
    intro k k' i a l lo hi sg hi1 ha hv hk hk'
    obtain ⟨k, rfl⟩ : ∃ j, k = j + 1 := ⟨k - 1, by omega⟩
    obtain ⟨k', rfl⟩ : ∃ j, k' = j + 1 := ⟨k' - 1, by omega⟩
    simp only [utf_Bad.l0, riffleref02_Bad.l0]
    have hne : ¬ ((i : Int) < (s.size : Int)) := by omega
    simp only [if_neg hne]
    have h1 := inv_len hv
    have h2 : ((L s).take i).drop a ≠ [] ↔ a < i := by
      rw [ne_eq, List.drop_eq_nil_iff, List.length_take, L_len]; omega
    by_cases hl : l > 0
    · have h3 := h2.1 (h1.1 hl)
      rw [if_pos hl, if_pos (by omega)]; exact ⟨_, rfl, rfl⟩
    · have h3 : ¬ a < i := fun e => hl (h1.2 (h2.2 e))
      rw [if_neg hl, if_neg (by omega)]; exact ⟨_, rfl, rfl⟩
  | succ d ih =>
    intro k k' i a l lo hi sg hi1 ha hv hk hk'
    obtain ⟨k, rfl⟩ : ∃ j, k = j + 1 := ⟨k - 1, by omega⟩
    obtain ⟨k', rfl⟩ : ∃ j, k' = j + 1 := ⟨k' - 1, by omega⟩
    simp only [utf_Bad.l0, riffleref02_Bad.l0]
    have w1 : wrap64 ((i : Int) + 1) = ((i + 1 : Nat) : Int) := by unfold wrap64; omega
    have hb := bt_ok s i
    obtain ⟨x, hx, hg⟩ := step_inv k (by omega) hv sg (bt s i) hb.1 hb.2
    rw [if_pos (by omega), if_pos (by omega), if_pos (by omega), if_pos (by omega), w1, if_pos (by omega), if_pos (by omega), hx, begins_eq k' (by omega), range_L,
      show ((a : Nat) : Int).toNat = a by omega, show ((i + 1 : Nat) : Int).toNat = i + 1 by omega, range_snoc s a i (by omega) ha]
    simp only [Option.bind_some]
    rcases hg with ⟨g1, g2, g3⟩ | ⟨g1, g2, n, g3⟩ | ⟨g1, g2, g3, g4⟩
    · rw [g2]; simp [g1, F]
    · rw [g3]
      simp only [g1, if_true]
      refine ih k k' (i + 1) (i + 1) _ _ _ _ (by omega) (by omega) ?_ (by omega) (by omega)
      rw [List.drop_eq_nil_of_le (by rw [List.length_take]; omega), g2]
      exact Inv.none _ _
    · rw [g3]
      simp only [g1, if_true, Bool.false_eq_true, if_false]
      refine ih k k' (i + 1) a _ _ _ _ (by omega) (by omega) ?_ (by omega) (by omega)
      rw [range_snoc s a i (by omega) ha]; exact g4
theorem range_bad (s : ByteArray) (hs : s.size ≤ 50000) : ∃ r, utf_Bad.f (s.size + 100) s = some r ∧ riffleref02_Bad.f (s.size + 100) s = some r :=
  bad_same s hs s.size _ _ 0 0 0 0 0 0 (by omega) (by omega) (Inv.none 0 0) (by omega) (by omega)
theorem l0_ge (s : ByteArray) (hs : s.size ≤ 50000) : ∀ (k : Nat) (a i r : Int), 0 ≤ i → riffleref02_Bad.l0 k s a i = some r → r ≥ -1
  | 0, _, _, _, _, h => by simp [riffleref02_Bad.l0] at h
  | k + 1, a, i, r, hi, h => by
    simp only [riffleref02_Bad.l0] at h
    split at h
    · rename_i h1
      have w1 : wrap64 (i + 1) = i + 1 := by unfold wrap64; omega
      rw [w1] at h
      split at h
      · split at h
        · split at h
          · obtain ⟨x, _, h⟩ := Option.bind_eq_some_iff.mp h
            split at h
            · split at h
              · exact l0_ge s hs k _ _ r (by omega) h
              · exact l0_ge s hs k _ _ r (by omega) h
            · obtain rfl := Option.some.inj h; omega
          · cases h
        · cases h
      · cases h
    · split at h
      · obtain rfl := Option.some.inj h; omega
      · obtain rfl := Option.some.inj h; omega
theorem bad_calls2 (s : ByteArray) (hs : s.size ≤ 50000) : ∃ r : Int, r ≥ -1 ∧ (∀ w, Calls Tryd.prog 17 #[.string s] w fun e w' => e = .returned (.int .i64 r) ∧ Below w.heap.size w w') ∧ riffleref02_Bad.f (s.size + 100) s = some r := by
  obtain ⟨r, h1, h2⟩ := range_bad s hs
  exact ⟨r, l0_ge s hs _ 0 0 r (by omega) h2, fun w => utf_Bad.calls _ s r w h1, h2⟩
end Go.Proofs.YthfhefkacmepkaaDoor.LinkU
