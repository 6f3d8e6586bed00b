/- Which texts are UTF-8: by the reference, and as rows of signs. Conditions: none. -/
import Derived.Test.YtlhpflicchchlaaBadP
import Derived.Test.YtlhpflicchchlaaPutEq
namespace Go.Proofs.Ytlhpflicchchlaa.RB
open Go.RowKit Go.Proofs.YtlhpflicchchlaaW.PrintWords Go.Lib
open Go.Proofs.Ytlhpflicchchlaa.Beg Go.Proofs.Ytlhpflicchchlaa.Bld Go.Proofs.Ytlhpflicchchlaa.RPut Go.Proofs.Ytlhpflicchchlaa.BadP
open Go.Proofs.Ytlhpflicchchlaa.Num (L L_len L_range)
set_option linter.unusedVariables false
set_option linter.unusedSimpArgs false
def okL : Nat → List Int → Bool
  | _, [] => true
  | 0, _ :: _ => false
  | f + 1, l => decide (lenOf l ≠ 0) && okL f (l.drop (lenOf l))
theorem okL_bad {f : Nat} {l : List Int} (h : lenOf l = 0) (hl : l ≠ []) : okL f l = false := by
  cases l with
  | nil => exact absurd rfl hl
  | cons c r => cases f with
    | zero => rfl
    | succ f => simp [okL, h]
theorem okL_good {f : Nat} {l : List Int} (h : lenOf l ≠ 0) : okL (f + 1) l = okL f (l.drop (lenOf l)) := by
  cases l with
  | nil => exact absurd rfl h
  | cons c r => simp [okL, h]
theorem lenGo_stop {l : List Int} {f i : Nat} (h : (beg (l.take i)).1 = false) : lenGo l f i = 0 := go_bad l f i h
theorem bad_go (s : ByteArray) (hs : s.size ≤ 1000000) (d : Nat) : ∀ (k i a f : Nat), i + d = s.size → a ≤ i → d + 60 ≤ k → s.size - a ≤ f →
    lenOf ((L s).drop a) = lenGo ((L s).drop a) d (i - a + 1) →
    ∃ r, riffleref02_Bad.l0 k s a i = some r ∧ (r = -1 ↔ okL f ((L s).drop a) = true) := by
  induction d with
  | zero =>
    intro k i a f hi ha hk hf hl
    obtain ⟨k, rfl⟩ : ∃ j, k = j + 1 := ⟨k - 1, by omega⟩
    simp only [riffleref02_Bad.l0]
    rw [if_neg (by omega)]
    by_cases h : a < s.size
    · have hne : (L s).drop a ≠ [] := by rw [ne_eq, List.drop_eq_nil_iff, L_len]; omega
      rw [if_pos (by omega)]
      refine ⟨_, rfl, ⟨fun e => by omega, fun e => ?_⟩⟩
      rw [okL_bad (hl.trans rfl) hne] at e
      cases e
    · rw [if_neg (by omega), List.drop_eq_nil_of_le (by rw [L_len]; omega)]
      refine ⟨_, rfl, ⟨fun _ => by cases f <;> rfl, fun _ => rfl⟩⟩
  | succ d ih =>
    intro k i a f hi ha hk hf hl
    obtain ⟨k, rfl⟩ : ∃ j, k = j + 1 := ⟨k - 1, by omega⟩
    simp only [riffleref02_Bad.l0]
    have w1 : wrap64 ((i : Int) + 1) = ((i + 1 : Nat) : Int) := by unfold wrap64; omega
    rw [if_pos (by omega), w1, if_pos (by omega), if_pos (by omega), if_pos (by omega)]
    simp only [Int.toNat_natCast]
    rw [begins_eq k (by omega), sub_take s a (i + 1) (i - a + 1) (by omega)]
    simp only [Option.bind_some]
    have hlen : i - a + 1 ≤ ((L s).drop a).length := by rw [List.length_drop, L_len]; omega
    have hne : (L s).drop a ≠ [] := by rw [ne_eq, List.drop_eq_nil_iff, L_len]; omega
    by_cases h1 : (beg (((L s).drop a).take (i - a + 1))).1 = true
    · rw [if_pos h1]
      by_cases h2 : (beg (((L s).drop a).take (i - a + 1))).2.1 = true
      · rw [if_pos h2]
        have hN : lenOf ((L s).drop a) = i - a + 1 := by rw [hl]; unfold lenGo; rw [if_pos hlen, if_pos h1, if_pos h2]
        obtain ⟨f, rfl⟩ : ∃ g, f = g + 1 := ⟨f - 1, by omega⟩
        rw [okL_good (by omega), hN, List.drop_drop, show a + (i - a + 1) = i + 1 by omega]
        refine ih k (i + 1) (i + 1) f (by omega) (Nat.le_refl _) (by omega) (by omega) ?_
        unfold lenOf
        rw [List.length_drop, L_len]
        congr 1 <;> omega
      · rw [if_neg h2]
        refine ih k (i + 1) a f (by omega) (by omega) (by omega) hf ?_
        rw [hl, show i + 1 - a + 1 = (i - a + 1) + 1 by omega]
        conv => lhs; unfold lenGo
        rw [if_pos hlen, if_pos h1, if_neg h2]
    · rw [if_neg h1]
      refine ⟨_, rfl, ⟨fun e => by omega, fun e => ?_⟩⟩
      have : lenOf ((L s).drop a) = 0 := by rw [hl]; exact go_bad _ _ _ (Bool.eq_false_iff.mpr h1)
      rw [okL_bad this hne] at e
      cases e
theorem bad_calls (s : ByteArray) (hs : s.size ≤ 1000000) (w : World) : ∃ r : Int, (r = -1 ↔ okL s.size (L s) = true) ∧ Calls Try.prog 18 #[.string s] w fun e w' => e = .returned (.int .i64 r) ∧ Below w.heap.size w w' := by
  obtain ⟨r, h1, h2⟩ := bad_go s hs s.size (s.size + 100) 0 0 s.size (by omega) (Nat.le_refl _) (by omega) (by omega) (by
    unfold lenOf
    rw [List.length_drop, L_len]
    rfl)
  exact ⟨r, by simpa using h2, riffleref02_Bad.calls (s.size + 100) s r w h1⟩
def textFrom (s : ByteArray) : Nat → Nat → List UInt8
  | 0, _ => []
  | f + 1, pos => if pos < s.size then encodeRune (Utf8.decode s pos).1 ++ textFrom s f (pos + (Utf8.decode s pos).2) else []
def textOf (s : ByteArray) : List UInt8 := textFrom s s.size 0
theorem text_same (s : ByteArray) : ∀ (f pos : Nat), s.size - pos ≤ f → okL f ((L s).drop pos) = true → textFrom s f pos = ((L s).drop pos).map fun c => c.toNat.toUInt8
  | 0, pos, hf, _ => by
    rw [List.drop_eq_nil_of_le (by rw [L_len]; omega)]; rfl
  | f + 1, pos, hf, h => by
    unfold textFrom
    by_cases hp : pos < s.size
    · rw [if_pos hp]
      have hne : (L s).drop pos ≠ [] := by rw [ne_eq, List.drop_eq_nil_iff, L_len]; omega
      rcases same s pos hp with ⟨hd, hl⟩ | ⟨h1, h2, h3, h4, _, _⟩
      · rw [okL_bad hl hne] at h; cases h
      · rw [okL_good (by omega), List.drop_drop, ← h1] at h
        rw [text_same s f _ (by omega) h]
        conv => rhs; rw [← List.take_append_drop (Utf8.decode s pos).2 ((L s).drop pos), List.drop_drop, List.map_append, ← h4]
        rfl
    · rw [if_neg hp, List.drop_eq_nil_of_le (by rw [L_len]; omega)]; rfl
theorem text_ok (s : ByteArray) (h : okL s.size (L s) = true) : textOf s = s.data.toList := by
  unfold textOf
  rw [text_same s s.size 0 (by omega) (by simpa using h), bytes_L]
  simp
/-- A row of signs begins with its first one. -/
theorem len_enc (r : Int) (q : List Int) : lenOf (encodeRuneZ r ++ q) = (encodeRuneZ r).length := by
  have key : ∀ (b0 b1 b2 b3 n : Nat) (l : List Int) (d : Nat × Nat), Same l d → d ≠ (65533, 1) → lenOf l = d.2 := by
    intro b0 b1 b2 b3 n l d h hd
    rcases h with ⟨h1, _⟩ | ⟨h1, _⟩
    · exact absurd h1 hd
    · exact h1.symm
  by_cases h1 : 0 ≤ r ∧ r ≤ 127
  · rw [encodeRuneZ_one h1.1 h1.2]
    obtain ⟨b0, rfl⟩ : ∃ b : Nat, r = (b : Int) := ⟨r.toNat, by omega⟩
    have hd : decodeN 0 b0 0 0 0 = (b0, 1) := by unfold decodeN; rw [if_pos (by omega)]
    have := same_a b0 q (by omega) 0 0 0 0
    rw [hd] at this
    exact key 0 0 0 0 0 _ _ this (by simp; omega)
  by_cases h2 : 128 ≤ r ∧ r ≤ 2047
  · rw [encodeRuneZ_two h2.1 h2.2]
    obtain ⟨x, rfl⟩ : ∃ b : Nat, r = (b : Int) := ⟨r.toNat, by omega⟩
    obtain ⟨b0, hb0⟩ : ∃ b0, b0 = 192 + x / 64 := ⟨_, rfl⟩
    obtain ⟨b1, hb1⟩ : ∃ b1, b1 = 128 + x % 64 := ⟨_, rfl⟩
    have e : ([192 + (x : Int) / 64, 128 + (x : Int) % 64] ++ q : List Int) = (b0 : Int) :: (b1 : Int) :: q := by
      simp only [List.cons_append, List.nil_append]; congr 1; · omega
      congr 1; omega
    rw [e]
    have hd : decodeN ((((b1 : Int) :: q).length) + 1) b0 b1 0 0 = (x, 2) := by
      unfold decodeN
      rw [if_neg (by omega), if_pos (by simp; omega), if_pos (by omega)]
      congr 1; omega
    have := same_c b0 b1 0 0 _ ((b1 : Int) :: q) (by omega) rfl (by simp) (by omega)
    rw [hd] at this
    exact key 0 0 0 0 0 _ _ this (by simp)
  have h3g : ∀ x : Nat, 2048 ≤ x → x ≤ 65535 → (x < 55296 ∨ 57343 < x) → lenOf ([224 + (x : Int) / 4096, 128 + (x : Int) / 64 % 64, 128 + (x : Int) % 64] ++ q) = 3 := by
    intro x hx0 hx1 hx2
    obtain ⟨b0, hb0⟩ : ∃ b0, b0 = 224 + x / 4096 := ⟨_, rfl⟩
    obtain ⟨b1, hb1⟩ : ∃ b1, b1 = 128 + x / 64 % 64 := ⟨_, rfl⟩
    obtain ⟨b2, hb2⟩ : ∃ b2, b2 = 128 + x % 64 := ⟨_, rfl⟩
    have e : ([224 + (x : Int) / 4096, 128 + (x : Int) / 64 % 64, 128 + (x : Int) % 64] ++ q : List Int) = (b0 : Int) :: (b1 : Int) :: (b2 : Int) :: q := by
      simp only [List.cons_append, List.nil_append]; congr 1; · omega
      congr 1; · omega
      congr 1; omega
    rw [e]
    have hd : decodeN ((((b1 : Int) :: (b2 : Int) :: q).length) + 1) b0 b1 b2 0 = (x, 3) := by
      unfold decodeN
      rw [if_neg (by omega), if_neg (by omega), if_pos (by simp; omega), if_pos (by omega)]
      congr 1; omega
    have := same_d b0 b1 b2 0 _ ((b1 : Int) :: (b2 : Int) :: q) (by omega) rfl (by simp) (by simp) (by omega) (by omega)
    rw [hd] at this
    exact key 0 0 0 0 0 _ _ this (by simp)
  by_cases h3 : (2048 ≤ r ∧ r < 55296) ∨ (57343 < r ∧ r ≤ 65535)
  · rw [encodeRuneZ_three h3]
    obtain ⟨x, rfl⟩ : ∃ b : Nat, r = (b : Int) := ⟨r.toNat, by omega⟩
    exact h3g x (by omega) (by omega) (by omega)
  by_cases h4 : 65536 ≤ r ∧ r ≤ 1114111
  · rw [encodeRuneZ_four h4.1 h4.2]
    obtain ⟨x, rfl⟩ : ∃ b : Nat, r = (b : Int) := ⟨r.toNat, by omega⟩
    obtain ⟨b0, hb0⟩ : ∃ b0, b0 = 240 + x / 262144 := ⟨_, rfl⟩
    obtain ⟨b1, hb1⟩ : ∃ b1, b1 = 128 + x / 4096 % 64 := ⟨_, rfl⟩
    obtain ⟨b2, hb2⟩ : ∃ b2, b2 = 128 + x / 64 % 64 := ⟨_, rfl⟩
    obtain ⟨b3, hb3⟩ : ∃ b3, b3 = 128 + x % 64 := ⟨_, rfl⟩
    have e : ([240 + (x : Int) / 262144, 128 + (x : Int) / 4096 % 64, 128 + (x : Int) / 64 % 64, 128 + (x : Int) % 64] ++ q : List Int) = (b0 : Int) :: (b1 : Int) :: (b2 : Int) :: (b3 : Int) :: q := by
      simp only [List.cons_append, List.nil_append]; congr 1; · omega
      congr 1; · omega
      congr 1; · omega
      congr 1; omega
    rw [e]
    have hd : decodeN ((((b1 : Int) :: (b2 : Int) :: (b3 : Int) :: q).length) + 1) b0 b1 b2 b3 = (x, 4) := by
      unfold decodeN
      rw [if_neg (by omega), if_neg (by omega), if_neg (by omega), if_pos (by simp; omega), if_pos (by omega)]
      congr 1; omega
    have := same_e b0 b1 b2 b3 _ ((b1 : Int) :: (b2 : Int) :: (b3 : Int) :: q) (by omega) rfl (by simp) (by simp) (by simp) (by omega) (by omega) (by omega)
    rw [hd] at this
    exact key 0 0 0 0 0 _ _ this (by simp)
  · rw [encodeRuneZ_bad (by omega)]
    exact h3g 65533 (by omega) (by omega) (by omega)
theorem ok_enc : ∀ (rs : List Int) (f : Nat), (rs.flatMap encodeRuneZ).length ≤ f → okL f (rs.flatMap encodeRuneZ) = true
  | [], f, _ => by cases f <;> rfl
  | r :: rs, f, hf => by
    have h1 := encodeRuneZ_length r
    rw [List.flatMap_cons] at hf ⊢
    rw [List.length_append] at hf
    obtain ⟨f, rfl⟩ : ∃ g, f = g + 1 := ⟨f - 1, by omega⟩
    rw [okL_good (by rw [len_enc]; omega), len_enc, List.drop_left]
    exact ok_enc rs f (by omega)
def ints (t : List UInt8) : List Int := t.map fun b => (b.toNat : Int)
theorem ints_enc (r : Int) : ints (encodeRune r) = encodeRuneZ r := by
  unfold ints encodeRune
  rw [List.map_map]
  conv => rhs; rw [← List.map_id (encodeRuneZ r)]
  refine List.map_congr_left (fun x hx => ?_)
  have := encodeRuneZ_byte r x hx
  exact toByte x this.1 this.2
theorem ints_flat (rs : List Int) : ints (rs.flatMap encodeRune) = rs.flatMap encodeRuneZ := by
  induction rs with
  | nil => rfl
  | cons r rs ih =>
    rw [List.flatMap_cons, List.flatMap_cons, ← ih, ← ints_enc]
    simp [ints]
theorem ok_text (rs : List Int) (t : List UInt8) (h : t = rs.flatMap encodeRune) : okL (⟨t.toArray⟩ : ByteArray).size (L ⟨t.toArray⟩) = true := by
  subst h
  have : L ⟨(rs.flatMap encodeRune).toArray⟩ = rs.flatMap encodeRuneZ := by rw [← ints_flat]; simp [L, ints]
  rw [this]
  refine ok_enc rs _ ?_
  rw [← ints_flat]
  simp [ints, ByteArray.size]
end Go.Proofs.Ytlhpflicchchlaa.RB
