/- A text's first whole sign is the one that the reference's loop finds. Conditions: none. -/
import Derived.Test.YthfhefkacmepkaaDoorDecL
namespace Go.Proofs.YthfhefkacmepkaaDoor.Beg
open Go.Lib
open Go.Proofs.YthfhefkacmepkaaDoor.Num (L L_len L_range)
set_option linter.unusedVariables false
set_option linter.unusedSimpArgs false
/-- A row of signs begins with its first one. -/
theorem len_enc (r : Int) (q : List Int) : lenOf (encodeRuneZ r ++ q) = (encodeRuneZ r).length := by
  have key : ∀ (b0 b1 b2 b3 n : Nat) (l : List Int) (d : Nat × Nat), Same l d → d ≠ (65533, 1) → lenOf l = d.2 := by
    intro b0 b1 b2 b3 n l d h hd
    rcases h with ⟨h1, _⟩ | ⟨h1, _⟩
    · exact absurd h1 hd
    · exact h1.symm
  by_cases h1 : 0 ≤ r ∧ r ≤ 127
  · rw [encodeRuneZ_one h1.1 h1.2]
    obtain ⟨b0, rfl⟩ : ∃ b : Nat, r = (b : Int) := ⟨r.toNat, by omega⟩
    have hd : decodeN 0 b0 0 0 0 = (b0, 1) := by unfold decodeN; rw [if_pos (by omega)]
    have := same_a b0 q (by omega) 0 0 0 0
    rw [hd] at this
    exact key 0 0 0 0 0 _ _ this (by simp; omega)
  by_cases h2 : 128 ≤ r ∧ r ≤ 2047
  · rw [encodeRuneZ_two h2.1 h2.2]
    obtain ⟨x, rfl⟩ : ∃ b : Nat, r = (b : Int) := ⟨r.toNat, by omega⟩
    obtain ⟨b0, hb0⟩ : ∃ b0, b0 = 192 + x / 64 := ⟨_, rfl⟩
    obtain ⟨b1, hb1⟩ : ∃ b1, b1 = 128 + x % 64 := ⟨_, rfl⟩
    have e : ([192 + (x : Int) / 64, 128 + (x : Int) % 64] ++ q : List Int) = (b0 : Int) :: (b1 : Int) :: q := by
      simp only [List.cons_append, List.nil_append]; congr 1; · omega
      congr 1; omega
    rw [e]
    have hd : decodeN ((((b1 : Int) :: q).length) + 1) b0 b1 0 0 = (x, 2) := by
      unfold decodeN
      rw [if_neg (by omega), if_pos (by simp; omega), if_pos (by omega)]
      congr 1; omega
    have := same_c b0 b1 0 0 _ ((b1 : Int) :: q) (by omega) rfl (by simp) (by omega)
    rw [hd] at this
    exact key 0 0 0 0 0 _ _ this (by simp)
  have h3g : ∀ x : Nat, 2048 ≤ x → x ≤ 65535 → (x < 55296 ∨ 57343 < x) → lenOf ([224 + (x : Int) / 4096, 128 + (x : Int) / 64 % 64, 128 + (x : Int) % 64] ++ q) = 3 := by
    intro x hx0 hx1 hx2
    obtain ⟨b0, hb0⟩ : ∃ b0, b0 = 224 + x / 4096 := ⟨_, rfl⟩
    obtain ⟨b1, hb1⟩ : ∃ b1, b1 = 128 + x / 64 % 64 := ⟨_, rfl⟩
    obtain ⟨b2, hb2⟩ : ∃ b2, b2 = 128 + x % 64 := ⟨_, rfl⟩
    have e : ([224 + (x : Int) / 4096, 128 + (x : Int) / 64 % 64, 128 + (x : Int) % 64] ++ q : List Int) = (b0 : Int) :: (b1 : Int) :: (b2 : Int) :: q := by
      simp only [List.cons_append, List.nil_append]; congr 1; · omega
      congr 1; · omega
      congr 1; omega
    rw [e]
    have hd : decodeN ((((b1 : Int) :: (b2 : Int) :: q).length) + 1) b0 b1 b2 0 = (x, 3) := by
      unfold decodeN
      rw [if_neg (by omega), if_neg (by omega), if_pos (by simp; omega), if_pos (by omega)]
      congr 1; omega
    have := same_d b0 b1 b2 0 _ ((b1 : Int) :: (b2 : Int) :: q) (by omega) rfl (by simp) (by simp) (by omega) (by omega)
    rw [hd] at this
    exact key 0 0 0 0 0 _ _ this (by simp)
  by_cases h3 : (2048 ≤ r ∧ r < 55296) ∨ (57343 < r ∧ r ≤ 65535)
  · rw [encodeRuneZ_three h3]
    obtain ⟨x, rfl⟩ : ∃ b : Nat, r = (b : Int) := ⟨r.toNat, by omega⟩
    exact h3g x (by omega) (by omega) (by omega)
  by_cases h4 : 65536 ≤ r ∧ r ≤ 1114111
  · rw [encodeRuneZ_four h4.1 h4.2]
    obtain ⟨x, rfl⟩ : ∃ b : Nat, r = (b : Int) := ⟨r.toNat, by omega⟩
    obtain ⟨b0, hb0⟩ : ∃ b0, b0 = 240 + x / 262144 := ⟨_, rfl⟩
    obtain ⟨b1, hb1⟩ : ∃ b1, b1 = 128 + x / 4096 % 64 := ⟨_, rfl⟩
    obtain ⟨b2, hb2⟩ : ∃ b2, b2 = 128 + x / 64 % 64 := ⟨_, rfl⟩
    obtain ⟨b3, hb3⟩ : ∃ b3, b3 = 128 + x % 64 := ⟨_, rfl⟩
    have e : ([240 + (x : Int) / 262144, 128 + (x : Int) / 4096 % 64, 128 + (x : Int) / 64 % 64, 128 + (x : Int) % 64] ++ q : List Int) = (b0 : Int) :: (b1 : Int) :: (b2 : Int) :: (b3 : Int) :: q := by
      simp only [List.cons_append, List.nil_append]; congr 1; · omega
      congr 1; · omega
      congr 1; · omega
      congr 1; omega
    rw [e]
    have hd : decodeN ((((b1 : Int) :: (b2 : Int) :: (b3 : Int) :: q).length) + 1) b0 b1 b2 b3 = (x, 4) := by
      unfold decodeN
      rw [if_neg (by omega), if_neg (by omega), if_neg (by omega), if_pos (by simp; omega), if_pos (by omega)]
      congr 1; omega
    have := same_e b0 b1 b2 b3 _ ((b1 : Int) :: (b2 : Int) :: (b3 : Int) :: q) (by omega) rfl (by simp) (by simp) (by simp) (by omega) (by omega) (by omega)
    rw [hd] at this
    exact key 0 0 0 0 0 _ _ this (by simp)
  · rw [encodeRuneZ_bad (by omega)]
    exact h3g 65533 (by omega) (by omega) (by omega)

theorem whole_enc {m : List Int} (hr : ∀ c ∈ m, 0 ≤ c ∧ c < 256) (h : (beg m).2.1 = true) : ∃ r, m = encodeRuneZ r := by
  cases m with
  | nil => simp [beg] at h
  | cons c r =>
    have hc := hr c (by simp)
    simp only [beg] at h
    split at h
    · simp [F] at h
    · rename_i hz
      unfold begN at h
      split at h
      · rename_i hall
        simp only [List.drop_succ_cons, List.drop_zero] at hall
        unfold judge at h
        split at h
        · simp [F] at h
        · rename_i hj
          split at h
          · rename_i hm
            have hsz := sz_range c
            simp only [List.length_cons] at hm hz
            match r, hm, hall, hr, hj with
            | [], hm, hall, hr, hj =>
              simp only [List.length_nil] at hm
              have h1 : sz c = 1 := by omega
              have h2 : c < 128 := by unfold sz at h1; repeat' split at h1
                                      all_goals omega
              exact ⟨c, (encodeRuneZ_one hc.1 (by omega)).symm⟩
            | [b], hm, hall, hr, hj =>
              simp only [List.length_cons, List.length_nil] at hm
              have h1 : sz c = 2 := by omega
              have h2 : 192 ≤ c ∧ c < 224 := by unfold sz at h1; repeat' split at h1
                                                all_goals omega
              rw [h1] at hj
              simp [ct] at hall
              simp [fill, nm, least] at hj
              refine ⟨(c - 192) * 64 + b - 128, ?_⟩
              rw [encodeRuneZ_two (by omega) (by omega)]
              congr 1
              · omega
              · congr 1; omega
            | [b, d], hm, hall, hr, hj =>
              simp only [List.length_cons, List.length_nil] at hm
              have h1 : sz c = 3 := by omega
              have h2 : 224 ≤ c ∧ c < 240 := by unfold sz at h1; repeat' split at h1
                                                all_goals omega
              rw [h1] at hj
              simp [ct] at hall
              simp [fill, nm, least] at hj
              refine ⟨((c - 224) * 64 + b - 128) * 64 + d - 128, ?_⟩
              rw [encodeRuneZ_three (by omega)]
              congr 1
              · omega
              · congr 1
                · omega
                · congr 1; omega
            | [b, d, e], hm, hall, hr, hj =>
              simp only [List.length_cons, List.length_nil] at hm
              have h1 : sz c = 4 := by omega
              have h2 : 240 ≤ c ∧ c < 248 := by unfold sz at h1; repeat' split at h1
                                                all_goals omega
              rw [h1] at hj
              simp [ct] at hall
              simp [fill, nm, least] at hj
              refine ⟨(((c - 240) * 64 + b - 128) * 64 + d - 128) * 64 + e - 128, ?_⟩
              rw [encodeRuneZ_four (by omega) (by omega)]
              congr 1
              · omega
              · congr 1
                · omega
                · congr 1
                  · omega
                  · congr 1; omega
            | b :: d :: e :: f :: q, hm, hall, hr, hj => simp only [List.length_cons] at hm; omega
          · simp at h
      · simp [F] at h
theorem lenGo_whole (l : List Int) : ∀ (f i : Nat), lenGo l f i ≠ 0 → (beg (l.take (lenGo l f i))).2.1 = true ∧ lenGo l f i ≤ l.length
  | 0, _, h => absurd rfl h
  | f + 1, i, h => by
    unfold lenGo at h ⊢
    split
    · rename_i h1
      rw [if_pos h1] at h
      split
      · rename_i h2
        rw [if_pos h2] at h
        split
        · rename_i h3
          exact ⟨h3, h1⟩
        · rename_i h3
          rw [if_neg h3] at h
          exact lenGo_whole l f (i + 1) h
      · rename_i h2
        rw [if_neg h2] at h
        exact absurd rfl h
    · rename_i h1
      rw [if_neg h1] at h
      exact absurd rfl h
theorem lenOf_four {l : List Int} (hr : ∀ c ∈ l, 0 ≤ c ∧ c < 256) : lenOf l ≤ 4 := by
  by_cases h : lenOf l = 0
  · omega
  · obtain ⟨h1, h2⟩ := lenGo_whole l l.length 1 h
    obtain ⟨r, hr2⟩ := whole_enc (fun c hc => hr c (List.mem_of_mem_take hc)) h1
    have h3 := congrArg List.length hr2
    rw [List.length_take] at h3
    have h4 := (encodeRuneZ_length r).2
    have h5 : lenOf l = lenGo l l.length 1 := rfl
    omega
theorem whole_iff {l : List Int} (hr : ∀ c ∈ l, 0 ≤ c ∧ c < 256) {i : Nat} (h1 : 1 ≤ i) (hi : i ≤ l.length) : (beg (l.take i)).2.1 = true ↔ i = lenOf l := by
  constructor
  · intro h
    obtain ⟨r, hr2⟩ := whole_enc (fun c hc => hr c (List.mem_of_mem_take hc)) h
    have h3 := congrArg List.length hr2
    rw [List.length_take, Nat.min_eq_left hi] at h3
    have h4 : l = encodeRuneZ r ++ l.drop i := by rw [← hr2, List.take_append_drop]
    rw [h4, len_enc, h3]
  · intro h
    have h2 : lenGo l l.length 1 ≠ 0 := by have h5 : lenOf l = lenGo l l.length 1 := rfl; omega
    have := (lenGo_whole l l.length 1 h2).1
    rw [h]; exact this
end Go.Proofs.YthfhefkacmepkaaDoor.Beg
