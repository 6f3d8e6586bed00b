/- The plain laws of paths: what is put is read again by both readers, and the document's reader reads nothing else. Conditions: none. -/
import Derived.Test.YthfhefkacmepkaaDoorLinkU
import Derived.Test.YthfhefkacmepkaaDoorPName
import Derived.Lib.ItoaNum
import Derived.Lib.AtoiTie
import Derived.Test.YthfhefkacmepkaaDoorPPut
import Derived.Lib.AtoiAllCases
namespace Go.Proofs.YthfhefkacmepkaaDoor.PB
open Go.RowKit Go.Proofs.YthfhefkacmepkaaDoorW.PrintWords Go.Lib
open Go.Proofs.YthfhefkacmepkaaDoor.PPathPuts Go.Proofs.YthfhefkacmepkaaDoor.Beg Go.Proofs.YthfhefkacmepkaaDoor.Bld Go.Proofs.YthfhefkacmepkaaDoor.PS
open Go.Proofs.YthfhefkacmepkaaDoor.Num (L L_len L_range)
set_option linter.unusedVariables false
set_option linter.unusedSimpArgs false
theorem sub_take (s : ByteArray) (pos i j : Nat) (h : i = pos + j) : L (s.extract pos i) = ((L s).drop pos).take j := by
  rw [range_L, List.drop_take, h, show pos + j - pos = j by omega]
def okL : Nat → List Int → Bool
  | _, [] => true
  | 0, _ :: _ => false
  | f + 1, l => decide (lenOf l ≠ 0) && okL f (l.drop (lenOf l))
theorem okL_bad {f : Nat} {l : List Int} (h : lenOf l = 0) (hl : l ≠ []) : okL f l = false := by
  cases l with
  | nil => exact absurd rfl hl
  | cons c r => cases f with
    | zero => rfl
    | succ f => simp [okL, h]
theorem okL_good {f : Nat} {l : List Int} (h : lenOf l ≠ 0) : okL (f + 1) l = okL f (l.drop (lenOf l)) := by
  cases l with
  | nil => exact absurd rfl h
  | cons c r => simp [okL, h]
theorem lenGo_stop {l : List Int} {f i : Nat} (h : (beg (l.take i)).1 = false) : lenGo l f i = 0 := go_bad l f i h
theorem bad_go (s : ByteArray) (hs : s.size ≤ 1000000) (d : Nat) : ∀ (k i a f : Nat), i + d = s.size → a ≤ i → d + 60 ≤ k → s.size - a ≤ f →
    lenOf ((L s).drop a) = lenGo ((L s).drop a) d (i - a + 1) →
    ∃ r, riffleref02_Bad.l0 k s a i = some r ∧ (r = -1 ↔ okL f ((L s).drop a) = true) := by
  induction d with
  | zero =>
    intro k i a f hi ha hk hf hl
    obtain ⟨k, rfl⟩ : ∃ j, k = j + 1 := ⟨k - 1, by omega⟩
    simp only [riffleref02_Bad.l0]
    rw [if_neg (by omega)]
    by_cases h : a < s.size
    · have hne : (L s).drop a ≠ [] := by rw [ne_eq, List.drop_eq_nil_iff, L_len]; omega
      rw [if_pos (by omega)]
      refine ⟨_, rfl, ⟨fun e => by omega, fun e => ?_⟩⟩
      rw [okL_bad (hl.trans rfl) hne] at e
      cases e
    · rw [if_neg (by omega), List.drop_eq_nil_of_le (by rw [L_len]; omega)]
      refine ⟨_, rfl, ⟨fun _ => by cases f <;> rfl, fun _ => rfl⟩⟩
  | succ d ih =>
    intro k i a f hi ha hk hf hl
    obtain ⟨k, rfl⟩ : ∃ j, k = j + 1 := ⟨k - 1, by omega⟩
    simp only [riffleref02_Bad.l0]
    have w1 : wrap64 ((i : Int) + 1) = ((i + 1 : Nat) : Int) := by unfold wrap64; omega
    rw [if_pos (by omega), w1, if_pos (by omega), if_pos (by omega), if_pos (by omega)]
    simp only [Int.toNat_natCast]
    rw [begins_eq k (by omega), sub_take s a (i + 1) (i - a + 1) (by omega)]
    simp only [Option.bind_some]
    have hlen : i - a + 1 ≤ ((L s).drop a).length := by rw [List.length_drop, L_len]; omega
    have hne : (L s).drop a ≠ [] := by rw [ne_eq, List.drop_eq_nil_iff, L_len]; omega
    by_cases h1 : (beg (((L s).drop a).take (i - a + 1))).1 = true
    · rw [if_pos h1]
      by_cases h2 : (beg (((L s).drop a).take (i - a + 1))).2.1 = true
      · rw [if_pos h2]
        have hN : lenOf ((L s).drop a) = i - a + 1 := by rw [hl]; unfold lenGo; rw [if_pos hlen, if_pos h1, if_pos h2]
        obtain ⟨f, rfl⟩ : ∃ g, f = g + 1 := ⟨f - 1, by omega⟩
        rw [okL_good (by omega), hN, List.drop_drop, show a + (i - a + 1) = i + 1 by omega]
        refine ih k (i + 1) (i + 1) f (by omega) (Nat.le_refl _) (by omega) (by omega) ?_
        unfold lenOf
        rw [List.length_drop, L_len]
        congr 1 <;> omega
      · rw [if_neg h2]
        refine ih k (i + 1) a f (by omega) (by omega) (by omega) hf ?_
        rw [hl, show i + 1 - a + 1 = (i - a + 1) + 1 by omega]
        conv => lhs; unfold lenGo
        rw [if_pos hlen, if_pos h1, if_neg h2]
    · rw [if_neg h1]
      refine ⟨_, rfl, ⟨fun e => by omega, fun e => ?_⟩⟩
      have : lenOf ((L s).drop a) = 0 := by rw [hl]; exact go_bad _ _ _ (Bool.eq_false_iff.mpr h1)
      rw [okL_bad this hne] at e
      cases e
theorem bad_f (s : ByteArray) (hs : s.size ≤ 1000000) : ∃ r : Int, (r = -1 ↔ okL s.size (L s) = true) ∧ riffleref02_Bad.f (s.size + 100) s = some r := by
  obtain ⟨r, h1, h2⟩ := bad_go s hs s.size (s.size + 100) 0 0 s.size (by omega) (Nat.le_refl _) (by omega) (by omega) (by
    unfold lenOf
    rw [List.length_drop, L_len]
    rfl)
  exact ⟨r, by simpa using h2, h1⟩
theorem ok_enc : ∀ (rs : List Int) (f : Nat), (rs.flatMap encodeRuneZ).length ≤ f → okL f (rs.flatMap encodeRuneZ) = true
  | [], f, _ => by cases f <;> rfl
  | r :: rs, f, hf => by
    have h1 := encodeRuneZ_length r
    rw [List.flatMap_cons] at hf ⊢
    rw [List.length_append] at hf
    obtain ⟨f, rfl⟩ : ∃ g, f = g + 1 := ⟨f - 1, by omega⟩
    rw [okL_good (by rw [len_enc]; omega), len_enc, List.drop_left]
    exact ok_enc rs f (by omega)
def ints (t : List UInt8) : List Int := t.map fun b => (b.toNat : Int)
theorem ints_enc (r : Int) : ints (encodeRune r) = encodeRuneZ r := by
  unfold ints encodeRune
  rw [List.map_map]
  conv => rhs; rw [← List.map_id (encodeRuneZ r)]
  refine List.map_congr_left (fun x hx => ?_)
  have := encodeRuneZ_byte r x hx
  exact toByte x this.1 this.2
theorem ints_flat (rs : List Int) : ints (rs.flatMap encodeRune) = rs.flatMap encodeRuneZ := by
  induction rs with
  | nil => rfl
  | cons r rs ih =>
    rw [List.flatMap_cons, List.flatMap_cons, ← ih, ← ints_enc]
    simp [ints]
theorem ok_text (rs : List Int) (t : List UInt8) (h : t = rs.flatMap encodeRune) : okL (⟨t.toArray⟩ : ByteArray).size (L ⟨t.toArray⟩) = true := by
  subst h
  have : L ⟨(rs.flatMap encodeRune).toArray⟩ = rs.flatMap encodeRuneZ := by rw [← ints_flat]; simp [L, ints]
  rw [this]
  refine ok_enc rs _ ?_
  rw [← ints_flat]
  simp [ints, ByteArray.size]
end Go.Proofs.YthfhefkacmepkaaDoor.PB
namespace Go.Proofs.YthfhefkacmepkaaDoor.PB
open Go.RowKit Go.Proofs.YthfhefkacmepkaaDoorW.PrintWords Go.Lib
open Go.Proofs.YthfhefkacmepkaaDoor.PPathPuts Go.Proofs.YthfhefkacmepkaaDoor.Beg Go.Proofs.YthfhefkacmepkaaDoor.Bld Go.Proofs.YthfhefkacmepkaaDoor.PS
open Go.Proofs.YthfhefkacmepkaaDoor.Num (L L_len L_range)
set_option linter.unusedVariables false
set_option linter.unusedSimpArgs false
def b8 (l : List Int) : List UInt8 := l.map fun c => c.toNat.toUInt8
theorem b8_ints (t : List UInt8) : b8 (ints t) = t := by
  unfold b8 ints
  rw [List.map_map]
  conv => rhs; rw [← List.map_id t]
  refine List.map_congr_left (fun b _ => ?_)
  simp
theorem ints_b8 (l : List Int) (h : ∀ c ∈ l, 0 ≤ c ∧ c < 256) : ints (b8 l) = l := by
  unfold b8 ints
  rw [List.map_map]
  conv => rhs; rw [← List.map_id l]
  refine List.map_congr_left (fun b hb => ?_)
  have := h b hb
  exact toByte b this.1 this.2
theorem ints_app (a b : List UInt8) : ints (a ++ b) = ints a ++ ints b := by simp [ints]
theorem ints_len (a : List UInt8) : (ints a).length = a.length := by simp [ints]
theorem ints_range (t : List UInt8) : ∀ c ∈ ints t, 0 ≤ c ∧ c < 256 := by
  intro c hc
  simp only [ints, List.mem_map] at hc
  obtain ⟨b, _, rfl⟩ := hc
  have := b.toNat_lt
  omega
def Ok (r : Nat) : Prop := r ≤ 1114111 ∧ ¬ (55296 ≤ r ∧ r ≤ 57343)
theorem enc_ok (z : Int) : ∃ r : Nat, Ok r ∧ encodeRuneZ z = encodeRuneZ (r : Int) := by
  by_cases h : z < 0 ∨ (55296 ≤ z ∧ z ≤ 57343) ∨ 1114111 < z
  · exact ⟨65533, ⟨by omega, by omega⟩, by rw [encodeRuneZ_bad h]; decide⟩
  · exact ⟨z.toNat, ⟨by omega, by omega⟩, by rw [show ((z.toNat : Nat) : Int) = z by omega]⟩
theorem enc_head (r : Nat) : (r < 128 ∧ encodeRuneZ (r : Int) = [(r : Int)]) ∨ (128 ≤ r ∧ ∀ x ∈ encodeRuneZ (r : Int), 128 ≤ x ∧ x < 256) := by
  by_cases h : r < 128
  · exact .inl ⟨h, encodeRuneZ_one (by omega) (by omega)⟩
  · refine .inr ⟨by omega, fun x hx => ?_⟩
    unfold encodeRuneZ at hx
    repeat' split at hx
    all_goals (simp at hx; omega)
theorem esc_small : ∀ r : Fin 128, escOf ((r.val : Nat) : Int) = [] ↔ (32 ≤ r.val ∧ r.val ≠ 39 ∧ r.val ≠ 92) := by decide +kernel
theorem esc_nil (r : Nat) : escOf (r : Int) = [] ↔ (32 ≤ r ∧ r ≠ 39 ∧ r ≠ 92) := by
  by_cases h : r < 128
  · exact esc_small ⟨r, h⟩
  · refine ⟨fun _ => by omega, fun _ => ?_⟩
    unfold escOf
    rw [if_neg (by omega), if_neg (by omega), if_neg (by omega), if_neg (by omega), if_neg (by omega), if_neg (by omega), if_neg (by omega), if_neg (by omega)]
theorem out_plain {r : Nat} (h : escOf (r : Int) = []) : runeOut r = encodeRune (r : Int) := by unfold runeOut; rw [if_pos h]
def low6 (ok : Bool) (t : List UInt8) : Nat → Nat → List UInt8 × Nat
  | 0, _ => ([], 0)
  | f + 1, c => if (runeOut c).length = 6 ∧ ok = true ∧ t = runeOut c then ([c.toUInt8], 6) else low6 ok t f (c + 1)
/-- The sign that begins a text, within marks, and how many bytes; 0: none. -/
def oneV : List Int → List UInt8 × Nat
  | [] => ([], 0)
  | c :: r =>
    if c = 39 ∨ c < 32 then ([], 0)
    else if c ≠ 92 then (if lenOf (c :: r) = 0 then ([], 0) else (b8 ((c :: r).take (lenOf (c :: r))), lenOf (c :: r)))
    else match r with
      | [] => ([], 0)
      | d :: q => match pf d lT lF with
        | some y => ([y.toNat.toUInt8], 2)
        | none => low6 (decide (6 ≤ q.length + 2)) (b8 ((c :: d :: q).take 6)) 32 0
theorem oneV_cons (c : Int) (r : List Int) : oneV (c :: r) = (if c = 39 ∨ c < 32 then ([], 0)
    else if c ≠ 92 then (if lenOf (c :: r) = 0 then ([], 0) else (b8 ((c :: r).take (lenOf (c :: r))), lenOf (c :: r)))
    else match r with
      | [] => ([], 0)
      | d :: q => match pf d lT lF with
        | some y => ([y.toNat.toUInt8], 2)
        | none => low6 (decide (6 ≤ q.length + 2)) (b8 ((c :: d :: q).take 6)) 32 0) := rfl
theorem low6_tells (ok : Bool) (t : List UInt8) : ∀ (f c : Nat), (low6 ok t f c).2 ≠ 0 → ∃ k, k < c + f ∧ low6 ok t f c = ([k.toUInt8], 6) ∧ ok = true ∧ t = runeOut k ∧ (runeOut k).length = 6
  | 0, c, h => absurd rfl h
  | f + 1, c, h => by
    unfold low6 at h ⊢
    split
    · rename_i h1
      exact ⟨c, by omega, rfl, h1.2.1, h1.2.2, h1.1⟩
    · rename_i h1
      rw [if_neg h1] at h
      obtain ⟨k, h2, h3⟩ := low6_tells ok t f (c + 1) h
      exact ⟨k, by omega, h3⟩
def chk (r : Nat) : Bool := if escOf (r : Int) = [] then true else match runeOut r with
  | [a, d] => a == 92 && (pf (d.toNat : Int) lT lF == some (r : Int)) && (encodeRune (r : Int) == [r.toUInt8])
  | [a, b, c, d, e, f] => a == 92 && b == 117 && (low6 true [a, b, c, d, e, f] 32 0 == (encodeRune (r : Int), 6))
  | _ => false
theorem chk_all : ∀ r : Fin 128, chk r.val = true := by decide +kernel
theorem pf117 : pf 117 lT lF = none := by decide
def chk2 (d : Nat) : Bool := match pf (d : Int) lT lF with
  | some y => (runeOut y.toNat == [92, d.toUInt8]) && (encodeRune (y.toNat : Int) == [y.toNat.toUInt8]) && decide (y.toNat < 128)
  | none => true
theorem chk2_all : ∀ d : Fin 256, chk2 d.val = true := by decide +kernel
theorem enc_small : ∀ k : Fin 128, encodeRune ((k.val : Nat) : Int) = [k.val.toUInt8] := by decide +kernel
/-- What is put is found. -/
theorem oneV_out (r : Nat) (hok : Ok r) (q : List Int) : oneV (ints (runeOut r) ++ q) = (encodeRune (r : Int), (runeOut r).length) := by
  by_cases he : escOf (r : Int) = []
  · have h3 := (esc_nil r).1 he
    rw [out_plain he, ints_enc]
    have hlen : (encodeRune (r : Int)).length = (encodeRuneZ (r : Int)).length := by simp [encodeRune]
    have hl := len_enc (r : Int) q
    have h1 := encodeRuneZ_length (r : Int)
    obtain ⟨c, t, hct⟩ : ∃ c t, encodeRuneZ (r : Int) = c :: t := by
      cases h : encodeRuneZ (r : Int) with
      | nil => rw [h] at h1; simp at h1
      | cons c t => exact ⟨c, t, rfl⟩
    have hc : c ≠ 39 ∧ ¬ c < 32 ∧ c ≠ 92 := by
      rcases enc_head r with ⟨h4, h5⟩ | ⟨h4, h5⟩
      · rw [h5] at hct
        obtain ⟨rfl, _⟩ := List.cons.inj hct
        omega
      · have := h5 c (by rw [hct]; simp)
        omega
    have h6 : b8 ((encodeRuneZ (r : Int) ++ q).take (encodeRuneZ (r : Int)).length) = encodeRune (r : Int) := by rw [List.take_left]; rfl
    rw [hlen]
    generalize hN : (encodeRuneZ (r : Int)).length = N at *
    rw [hct] at hl h6 ⊢
    rw [List.cons_append] at hl h6 ⊢
    rw [oneV_cons, if_neg (by omega), if_pos hc.2.2, hl, if_neg (by omega), h6]
  · have hr : r < 128 := by
      have := mt (esc_nil r).2 he
      omega
    have hk := chk_all ⟨r, hr⟩
    unfold chk at hk
    simp only at hk
    rw [if_neg he] at hk
    split at hk
    · rename_i a d ho
      simp only [Bool.and_eq_true, beq_iff_eq] at hk
      obtain ⟨⟨rfl, h2⟩, h3⟩ := hk
      rw [ho, h3]
      show oneV (92 :: (d.toNat : Int) :: q) = _
      rw [oneV_cons, if_neg (by omega), if_neg (by simp)]
      simp only [h2]
      simp
    · rename_i a b c d e f ho
      simp only [Bool.and_eq_true, beq_iff_eq] at hk
      obtain ⟨⟨rfl, rfl⟩, h3⟩ := hk
      rw [ho]
      show oneV (92 :: 117 :: ints [c, d, e, f] ++ q) = _
      have h4 : b8 ((92 :: 117 :: (ints [c, d, e, f] ++ q) : List Int).take 6) = [92, 117, c, d, e, f] := by
        have := b8_ints [92, 117, c, d, e, f]
        rw [← this]
        rfl
      rw [List.cons_append, List.cons_append]
      rw [oneV_cons, if_neg (by omega), if_neg (by simp)]
      simp only [pf117, h4]
      rw [show decide (6 ≤ (ints [c, d, e, f] ++ q).length + 2) = true by simp [ints]]
      exact h3
    · cases hk
/-- What is found was put so. -/
theorem oneV_tells (l : List Int) (hr : ∀ c ∈ l, 0 ≤ c ∧ c < 256) (h : (oneV l).2 ≠ 0) : ∃ r, Ok r ∧ l.take (oneV l).2 = ints (runeOut r) ∧ (oneV l).1 = encodeRune (r : Int) ∧ (oneV l).2 ≤ l.length ∧ (oneV l).2 = (runeOut r).length := by
  match l, hr, h with
  | [], _, h => exact absurd rfl h
  | c :: r, hr, h =>
    rw [oneV_cons] at h ⊢
    by_cases h1 : c = 39 ∨ c < 32
    · rw [if_pos h1] at h; exact absurd rfl h
    rw [if_neg h1] at h ⊢
    by_cases h2 : c ≠ 92
    · rw [if_pos h2] at h ⊢
      by_cases h3 : lenOf (c :: r) = 0
      · rw [if_pos h3] at h; exact absurd rfl h
      rw [if_neg h3] at h ⊢
      simp only
      obtain ⟨h4, h5⟩ := lenGo_whole (c :: r) (c :: r).length 1 h3
      obtain ⟨z, hz⟩ := whole_enc (fun x hx => hr x (List.mem_of_mem_take hx)) h4
      obtain ⟨k, hk, hzk⟩ := enc_ok z
      have h6 : (c :: r).take (lenOf (c :: r)) = encodeRuneZ (k : Int) := hz.trans hzk
      have h7 : lenOf (c :: r) ≤ (c :: r).length := h5
      have hlen : lenOf (c :: r) = (encodeRuneZ (k : Int)).length := by
        rw [← h6, List.length_take]; omega
      have he : escOf (k : Int) = [] := by
        rw [esc_nil]
        have hp := (encodeRuneZ_length (k : Int)).1
        rcases enc_head k with ⟨h8, h9⟩ | ⟨h8, _⟩
        · rw [h9] at h6 hlen
          rw [hlen] at h6
          simp at h6
          omega
        · omega
      refine ⟨k, hk, ?_, ?_, h7, ?_⟩
      · rw [out_plain he, ints_enc]; exact h6
      · rw [h6]; rfl
      · rw [out_plain he, hlen]; simp [encodeRune]
    rw [if_neg h2] at h ⊢
    have hc : c = 92 := Classical.byContradiction h2
    subst hc
    match r, hr, h with
    | [], _, h => exact absurd rfl h
    | d :: q, hr, h =>
      simp only at h ⊢
      have hd := hr d (by simp)
      cases hp : pf d lT lF with
      | some y =>
        simp only [hp] at h ⊢
        have hk := chk2_all ⟨d.toNat, by omega⟩
        unfold chk2 at hk
        simp only [show ((d.toNat : Nat) : Int) = d by omega, hp, Bool.and_eq_true, beq_iff_eq, decide_eq_true_eq] at hk
        obtain ⟨⟨h1, h2⟩, h3⟩ := hk
        refine ⟨y.toNat, ⟨by omega, by omega⟩, ?_, h2.symm, by simp, by rw [h1]; rfl⟩
        rw [h1]
        have := toByte d hd.1 hd.2
        simp [ints, this]
        omega
      | none =>
        simp only [hp] at h ⊢
        obtain ⟨k, h1, h2, h3, h4, h5⟩ := low6_tells _ _ 32 0 h
        rw [h2]
        simp only
        have h6 := of_decide_eq_true h3
        have h7 := enc_small ⟨k, by omega⟩
        refine ⟨k, ⟨by omega, by omega⟩, ?_, h7.symm, by simp; omega, h5.symm⟩
        rw [← h4, ints_b8 _ (fun x hx => hr x (List.mem_of_mem_take hx))]
end Go.Proofs.YthfhefkacmepkaaDoor.PB
namespace Go.Proofs.YthfhefkacmepkaaDoor.PB
open Go.RowKit Go.Proofs.YthfhefkacmepkaaDoorW.PrintWords Go.Lib
open Go.Proofs.YthfhefkacmepkaaDoor.PPathPuts Go.Proofs.YthfhefkacmepkaaDoor.Beg Go.Proofs.YthfhefkacmepkaaDoor.Bld Go.Proofs.YthfhefkacmepkaaDoor.PS
open Go.Proofs.YthfhefkacmepkaaDoor.Num (L L_len L_range)
set_option linter.unusedVariables false
set_option linter.unusedSimpArgs false
def EZ (rs : List Nat) : List Int := rs.flatMap fun (r : Nat) => encodeRuneZ (r : Int)
def OU (rs : List Nat) : List UInt8 := rs.flatMap runeOut
def TX (rs : List Nat) : List UInt8 := rs.flatMap fun (r : Nat) => encodeRune (r : Int)
theorem ints_TX (rs : List Nat) : ints (TX rs) = EZ rs := by
  induction rs with
  | nil => rfl
  | cons r rs ih =>
    unfold TX EZ at *
    rw [List.flatMap_cons, List.flatMap_cons, ints_app, ints_enc, ih]
theorem L_mk (t : List UInt8) : L ⟨t.toArray⟩ = ints t := by simp [L, ints]
theorem L_inj {a b : ByteArray} (h : L a = L b) : a = b := by
  have h1 := bytes_L a
  have h2 := bytes_L b
  rw [h, ← h2] at h1
  exact ByteArray.ext (Array.toList_inj.1 h1)
theorem mk_L (s : ByteArray) : s = ⟨(b8 (L s)).toArray⟩ := by
  refine L_inj (Eq.symm ?_)
  rw [L_mk]
  exact ints_b8 _ (L_range s)
/-- The name that is found, and how many bytes it takes, ahead of the mark that ends it, or of the text's end. -/
def nameV : Nat → List Int → Option (List UInt8 × Nat)
  | 0, _ => none
  | f + 1, l => match l with
    | [] => some ([], 0)
    | c :: r => if c = 39 then some ([], 0) else if (oneV (c :: r)).2 = 0 then none else (nameV f ((c :: r).drop (oneV (c :: r)).2)).map fun x => ((oneV (c :: r)).1 ++ x.1, (oneV (c :: r)).2 + x.2)
theorem nameV_tells : ∀ (f : Nat) (l : List Int) (nm : List UInt8) (n : Nat), (∀ c ∈ l, 0 ≤ c ∧ c < 256) → nameV f l = some (nm, n) → ∃ rs : List Nat, (∀ r ∈ rs, Ok r) ∧ nm = TX rs ∧ l.take n = ints (OU rs) ∧ n ≤ l.length ∧ (l.drop n = [] ∨ ∃ q, l.drop n = 39 :: q)
  | 0, l, nm, n, _, h => by cases h
  | f + 1, [], nm, n, _, h => by
    obtain ⟨rfl, rfl⟩ := Prod.mk.inj (Option.some.inj h)
    exact ⟨[], by simp, rfl, rfl, by simp, .inl rfl⟩
  | f + 1, c :: r, nm, n, hr, h => by
    unfold nameV at h
    by_cases h1 : c = 39
    · simp only [if_pos h1] at h
      obtain ⟨rfl, rfl⟩ := Prod.mk.inj (Option.some.inj h)
      exact ⟨[], by simp, rfl, rfl, by simp, .inr ⟨r, by rw [List.drop_zero, h1]⟩⟩
    simp only [if_neg h1] at h
    by_cases h2 : (oneV (c :: r)).2 = 0
    · rw [if_pos h2] at h; cases h
    rw [if_neg h2] at h
    obtain ⟨⟨nm2, n2⟩, h3, h4⟩ := Option.map_eq_some_iff.1 h
    obtain ⟨rfl, rfl⟩ := Prod.mk.inj h4
    obtain ⟨rs, k1, k2, k3, k4, k5⟩ := nameV_tells f _ nm2 n2 (fun x hx => hr x (List.mem_of_mem_drop hx)) h3
    obtain ⟨x, m1, m2, m3, m4, m5⟩ := oneV_tells (c :: r) hr h2
    generalize (oneV (c :: r)).2 = N at *
    generalize (oneV (c :: r)).1 = B at *
    rw [List.length_drop] at k4
    refine ⟨x :: rs, ?_, ?_, ?_, by omega, ?_⟩
    · intro y hy
      rcases List.mem_cons.1 hy with rfl | hy
      · exact m1
      · exact k1 y hy
    · rw [m3, k2]; rfl
    · rw [List.take_add, m2, k3, ← ints_app]; rfl
    · rw [← List.drop_drop]; exact k5
theorem out_head (r : Nat) (hok : Ok r) : ∃ c t, ints (runeOut r) = c :: t ∧ c ≠ 39 := by
  by_cases he : escOf (r : Int) = []
  · rw [out_plain he, ints_enc]
    have h3 := (esc_nil r).1 he
    rcases enc_head r with ⟨h4, h5⟩ | ⟨h4, h5⟩
    · exact ⟨_, _, h5, by omega⟩
    · have h1 := (encodeRuneZ_length (r : Int)).1
      cases h : encodeRuneZ (r : Int) with
      | nil => rw [h] at h1; simp at h1
      | cons c t =>
        have := h5 c (by rw [h]; simp)
        exact ⟨c, t, rfl, by omega⟩
  · unfold runeOut
    rw [if_neg he]
    unfold escOf at he ⊢
    repeat' split
    all_goals first | exact ⟨_, _, rfl, by decide⟩ | skip
    simp_all
theorem nameV_out : ∀ (rs : List Nat) (f : Nat) (q : List Int), (∀ r ∈ rs, Ok r) → rs.length < f → nameV f (ints (OU rs) ++ 39 :: q) = some (TX rs, (OU rs).length)
  | [], f + 1, q, _, _ => by
    show nameV (f + 1) (39 :: q) = _
    unfold nameV
    simp [TX, OU]
  | r :: rs, f + 1, q, hok, hf => by
    have ho := hok r (by simp)
    obtain ⟨c, t, h1, h2⟩ := out_head r ho
    have h3 := oneV_out r ho (ints (OU rs) ++ 39 :: q)
    have e : ints (OU (r :: rs)) ++ 39 :: q = ints (runeOut r) ++ (ints (OU rs) ++ 39 :: q) := by
      unfold OU; rw [List.flatMap_cons, ints_app, List.append_assoc]
    have hlen : (ints (runeOut r)).length = (runeOut r).length := ints_len _
    have hpos : (runeOut r).length ≠ 0 := by rw [← hlen, h1]; simp
    have hd : (ints (runeOut r) ++ (ints (OU rs) ++ 39 :: q)).drop (runeOut r).length = ints (OU rs) ++ 39 :: q := by rw [← hlen, List.drop_left]
    have ih := nameV_out rs f q (fun x hx => hok x (by simp [hx])) (by simp at hf; omega)
    rw [e]
    generalize hg : ints (OU rs) ++ 39 :: q = Q at *
    rw [h1, List.cons_append] at h3 hd ⊢
    unfold nameV
    simp only [if_neg h2, h3, if_neg hpos, hd, ih, Option.map_some]
    simp [TX, OU]
theorem putFrom_enc (s : ByteArray) : ∀ (rs : List Nat) (f pos : Nat), (L s).drop pos = EZ rs → s.size - pos ≤ f → putFrom s f pos = OU rs
  | [], f, pos, h, hf => by
    have : ¬ pos < s.size := by
      intro h1
      have := congrArg List.length h
      rw [List.length_drop, L_len] at this
      simp [EZ] at this
      omega
    rw [putFrom_end s f pos this]; rfl
  | r :: rs, f, pos, h, hf => by
    have e : EZ (r :: rs) = encodeRuneZ (r : Int) ++ EZ rs := by unfold EZ; rw [List.flatMap_cons]
    rw [e] at h
    have hl := (encodeRuneZ_length (r : Int)).1
    have hp : pos < s.size := by
      have := congrArg List.length h
      rw [List.length_drop, L_len, List.length_append] at this
      omega
    obtain ⟨f, rfl⟩ : ∃ g, f = g + 1 := ⟨f - 1, by omega⟩
    have hle := len_enc (r : Int) (EZ rs)
    rcases same s pos hp with ⟨hd, hlz⟩ | ⟨h1, h2, h3, h4, h5, h6⟩
    · rw [h, hle] at hlz; omega
    · rw [h] at h1 h4
      rw [hle] at h1
      rw [h1, List.take_left] at h4
      have hro : runeOut (Utf8.decode s pos).1 = runeOut r := by
        by_cases h7 : (Utf8.decode s pos).2 = 1
        · have h8 := h5 h7
          rw [encodeRuneZ_one (by omega) (by omega)] at h4
          have h9 : (encodeRuneZ (r : Int)).length = 1 := by omega
          rcases enc_head r with ⟨k1, k2⟩ | ⟨k1, k2⟩
          · rw [k2] at h4
            simp at h4
            rw [show (Utf8.decode s pos).1 = r by omega]
          · have := k2 ((Utf8.decode s pos).1 : Int) (by rw [← h4]; simp)
            omega
        · have h8 := h6 h7
          have h9 : 128 ≤ r := by
            rcases enc_head r with ⟨k1, k2⟩ | ⟨k1, k2⟩
            · rw [k2] at h1; simp at h1; omega
            · exact k1
          rw [out_plain ((esc_nil _).2 ⟨by omega, by omega, by omega⟩), out_plain ((esc_nil _).2 ⟨by omega, by omega, by omega⟩)]
          unfold encodeRune; rw [h4]
      unfold putFrom
      rw [if_pos hp, hro]
      have ih := putFrom_enc s rs f (pos + (Utf8.decode s pos).2) (by rw [← List.drop_drop, h, h1, List.drop_left]) (by omega)
      rw [ih]
      unfold OU; rw [List.flatMap_cons]
theorem putOf_enc (rs : List Nat) : putOf ⟨(TX rs).toArray⟩ = 39 :: (OU rs ++ [39]) := by
  unfold putOf
  rw [putFrom_enc _ rs _ 0 (by rw [List.drop_zero, L_mk, ints_TX]) (by omega)]
theorem okL_enc : ∀ (f : Nat) (l : List Int), (∀ c ∈ l, 0 ≤ c ∧ c < 256) → okL f l = true → ∃ rs : List Nat, (∀ r ∈ rs, Ok r) ∧ l = EZ rs
  | _, [], _, _ => ⟨[], by simp, rfl⟩
  | 0, c :: r, _, h => by simp [okL] at h
  | f + 1, c :: r, hr, h => by
    simp only [okL, Bool.and_eq_true, decide_eq_true_eq] at h
    obtain ⟨rs, h1, h2⟩ := okL_enc f _ (fun x hx => hr x (List.mem_of_mem_drop hx)) h.2
    obtain ⟨h4, h5⟩ := lenGo_whole (c :: r) (c :: r).length 1 h.1
    obtain ⟨z, hz⟩ := whole_enc (fun x hx => hr x (List.mem_of_mem_take hx)) h4
    obtain ⟨k, hk, hzk⟩ := enc_ok z
    have h6 : (c :: r).take (lenOf (c :: r)) = encodeRuneZ (k : Int) := hz.trans hzk
    refine ⟨k :: rs, ?_, ?_⟩
    · intro y hy
      rcases List.mem_cons.1 hy with rfl | hy
      · exact hk
      · exact h1 y hy
    · have e : EZ (k :: rs) = encodeRuneZ (k : Int) ++ EZ rs := by unfold EZ; rw [List.flatMap_cons]
      rw [e, ← h6, ← h2, List.take_append_drop]
theorem EZ_ok (rs : List Nat) (f : Nat) (h : (EZ rs).length ≤ f) : okL f (EZ rs) = true := by
  have e : EZ rs = (rs.map fun (r : Nat) => (r : Int)).flatMap encodeRuneZ := by unfold EZ; rw [List.flatMap_map]
  rw [e] at h ⊢
  exact ok_enc _ f h
/-- The names that may be. -/
theorem name_ok (s : ByteArray) : okL s.size (L s) = true ↔ ∃ rs : List Nat, (∀ r ∈ rs, Ok r) ∧ s = ⟨(TX rs).toArray⟩ := by
  constructor
  · intro h
    obtain ⟨rs, h1, h2⟩ := okL_enc _ _ (L_range s) h
    refine ⟨rs, h1, L_inj ?_⟩
    rw [h2, L_mk, ints_TX]
  · rintro ⟨rs, _, rfl⟩
    rw [L_mk, ints_TX]
    refine EZ_ok rs _ ?_
    rw [← L_len, L_mk, ints_TX]
    exact Nat.le_refl _
end Go.Proofs.YthfhefkacmepkaaDoor.PB
namespace Go.Proofs.YthfhefkacmepkaaDoor.PB
open Go.RowKit Go.Proofs.YthfhefkacmepkaaDoorW.PrintWords Go.Lib
open Go.Proofs.YthfhefkacmepkaaDoor.Num (L L_len L_range)
set_option linter.unusedVariables false
set_option linter.unusedSimpArgs false
def isD (c : Int) : Bool := decide (48 ≤ c ∧ c ≤ 57)
def val : Nat → List Int → Nat
  | v, [] => v
  | v, c :: r => val (v * 10 + (c - 48).toNat) r
def digs : Nat → List Int → Nat → Nat × Nat
  | 0, _, v => (v, 0)
  | _ + 1, [], v => (v, 0)
  | f + 1, c :: r, v => if isD c = true then ((digs f r (v * 10 + (c - 48).toNat)).1, (digs f r (v * 10 + (c - 48).toNat)).2 + 1) else (v, 0)
/-- The number with which a text begins, and how many bytes; 0: none. -/
def numV (l : List Int) : Nat × Nat :=
  if (1 < (digs 16 l 0).2 ∧ l.head? = some 48) ∨ 9007199254740991 < (digs 16 l 0).1 ∨ (l.drop (digs 16 l 0).2).head?.any isD = true then (0, 0) else digs 16 l 0
theorem val_app : ∀ (a b : List Int) (v : Nat), val v (a ++ b) = val (val v a) b
  | [], b, v => rfl
  | c :: r, b, v => by rw [List.cons_append]; exact val_app r b _
theorem digs_run : ∀ (ds : List Int) (f : Nat) (q : List Int) (v : Nat), ds.all isD = true → ds.length ≤ f → digs f (ds ++ q) v = ((digs (f - ds.length) q (val v ds)).1, (digs (f - ds.length) q (val v ds)).2 + ds.length)
  | [], f, q, v, _, _ => rfl
  | c :: r, 0, q, v, _, hf => by simp at hf
  | c :: r, f + 1, q, v, h, hf => by
    simp only [List.all_cons, Bool.and_eq_true] at h
    rw [List.cons_append]
    simp only [digs, if_pos h.1]
    rw [digs_run r f q _ h.2 (by simp at hf; omega)]
    simp only [List.length_cons, val]
    rw [show f + 1 - (r.length + 1) = f - r.length by omega]
    rfl
theorem digs_tells : ∀ (f : Nat) (l : List Int) (v : Nat), (digs f l v).2 ≤ l.length ∧ (digs f l v).2 ≤ f ∧ (l.take (digs f l v).2).all isD = true ∧ (digs f l v).1 = val v (l.take (digs f l v).2)
  | 0, l, v => by simp [digs, val]
  | f + 1, [], v => by simp [digs, val]
  | f + 1, c :: r, v => by
    unfold digs
    by_cases h : isD c = true
    · rw [if_pos h]
      obtain ⟨h1, h2, h3, h4⟩ := digs_tells f r (v * 10 + (c - 48).toNat)
      refine ⟨by simp; omega, by simp; omega, ?_, ?_⟩
      · simp only [List.take_succ_cons, List.all_cons, h, h3, Bool.and_true]
      · simp only [List.take_succ_cons, val]; exact h4
    · rw [if_neg h]
      simp [val]
theorem isD_iff (c : Int) : isD c = true ↔ 48 ≤ c ∧ c ≤ 57 := by simp [isD]
theorem digit_int (n : Nat) (h : n < 10) : (((UInt8.ofNat (48 + n)).toNat : Nat) : Int) = 48 + (n : Int) := by
  rw [UInt8.toNat_ofNat']; omega
theorem dec_snoc {u : Nat} (h : ¬ u < 10) : ints (decDigits u) = ints (decDigits (u / 10)) ++ [48 + ((u % 10 : Nat) : Int)] := by
  have : decDigits u = decDigits (u / 10) ++ [UInt8.ofNat (48 + u % 10)] := by conv => lhs; rw [decDigits, dif_neg h]
  rw [this, ints_app]
  congr 1
  show [(((UInt8.ofNat (48 + u % 10)).toNat : Nat) : Int)] = _
  rw [digit_int _ (by omega)]
theorem dec_one {u : Nat} (h : u < 10) : ints (decDigits u) = [48 + (u : Int)] := by
  rw [decDigits_one h]
  show [(((UInt8.ofNat (48 + u)).toNat : Nat) : Int)] = _
  rw [digit_int _ h]
theorem dec_all (u : Nat) : (ints (decDigits u)).all isD = true ∧ val 0 (ints (decDigits u)) = u ∧ ints (decDigits u) ≠ [] := by
  induction u using Nat.strongRecOn with
  | _ u ih =>
    by_cases h : u < 10
    · rw [dec_one h]
      refine ⟨?_, ?_, by simp⟩
      · simp [isD]; omega
      · simp [val]; omega
    · obtain ⟨h1, h2, h3⟩ := ih (u / 10) (by omega)
      rw [dec_snoc h]
      refine ⟨?_, ?_, by simp⟩
      · rw [List.all_append, h1]; simp [isD]; omega
      · rw [val_app, h2]; simp [val]; omega
theorem dec_head (u : Nat) : 10 ≤ u → (ints (decDigits u)).head? ≠ some 48 := by
  induction u using Nat.strongRecOn with
  | _ u ih =>
    intro h10
    rw [dec_snoc (by omega)]
    by_cases h : u / 10 < 10
    · rw [dec_one h]
      simp; omega
    · have := ih (u / 10) (by omega) (by omega)
      have h3 := (dec_all (u / 10)).2.2
      cases hl : ints (decDigits (u / 10)) with
      | nil => exact absurd hl h3
      | cons c r => rw [hl] at this; simpa using this
theorem dec_of (n : Nat) : ∀ ds : List Int, ds.length = n → ds ≠ [] → ds.all isD = true → (ds.head? ≠ some 48 ∨ ds.length = 1) → ds = ints (decDigits (val 0 ds)) := by
  induction n with
  | zero => intro ds h1 h2; exact absurd (List.length_eq_zero_iff.1 h1) h2
  | succ n ih =>
    intro ds h1 h2 h3 h4
    obtain ⟨a, d, rfl⟩ : ∃ a d, ds = a ++ [d] := ⟨ds.dropLast, ds.getLast h2, (List.dropLast_concat_getLast h2).symm⟩
    rw [List.all_append, Bool.and_eq_true] at h3
    have hd := (isD_iff d).1 (by simpa using h3.2)
    simp at h1
    cases a with
    | nil =>
      simp [val]
      rw [dec_one (by omega)]
      congr 1; omega
    | cons c r =>
      have hc : c ≠ 48 := by
        rcases h4 with h4 | h4
        · simpa using h4
        · simp at h4
      have hi := ih (c :: r) h1 (by simp) h3.1 (.inl (by simpa using hc))
      rw [val_app]
      generalize hv : val 0 (c :: r) = v at *
      have hv1 : 1 ≤ v := by
        apply Classical.byContradiction
        intro h0
        rw [show v = 0 by omega, dec_one (by omega)] at hi
        have := (List.cons.inj hi).1
        omega
      simp only [val]
      rw [dec_snoc (by omega), show (v * 10 + (d - 48).toNat) / 10 = v by omega, ← hi]
      congr 1; congr 1; omega
theorem dec_len (u : Nat) (h : u ≤ 9007199254740991) : (decDigits u).length ≤ 16 := by
  rw [decDigits_length]
  apply Classical.byContradiction
  intro h1
  have : ∀ k v : Nat, 10 ^ k ≤ v → v < 10 ^ (k + 1) → nDigits v = k + 1 := nDigits_unique
  have key : ∀ (k v : Nat), v < 10 ^ k → 1 ≤ k → nDigits v ≤ k := by
    intro k
    induction k with
    | zero => intro v _ h; omega
    | succ k ih =>
      intro v hv _
      by_cases h10 : v < 10
      · rw [nDigits_small h10]; omega
      · rw [nDigits_big h10]
        by_cases hk : k = 0
        · subst hk; simp at hv; omega
        · have := ih (v / 10) (by rw [Nat.pow_succ] at hv; omega) (by omega)
          omega
  have := key 16 u (by omega) (by omega)
  omega
theorem numV_out (v : Nat) (hv : v ≤ 9007199254740991) (q : List Int) : numV (ints (itoa (v : Int)) ++ 93 :: q) = (v, (itoa (v : Int)).length) := by
  have hi : itoa (v : Int) = decDigits v := by unfold itoa; rw [if_neg (by omega)]; simp
  obtain ⟨h1, h2, h3⟩ := dec_all v
  have h4 := dec_len v hv
  have h5 : digs 16 (ints (decDigits v) ++ 93 :: q) 0 = (v, (decDigits v).length) := by
    rw [digs_run _ _ _ _ h1 (by rw [ints_len]; exact h4), h2, ints_len]
    have : ∀ g, digs g (93 :: q) v = (v, 0) := fun g => by cases g <;> simp [digs, isD]
    rw [this]; simp
  rw [hi]
  unfold numV
  rw [h5]
  simp only
  rw [if_neg]
  rintro (⟨k1, k2⟩ | k | k)
  · by_cases h10 : v < 10
    · rw [decDigits_one h10] at k1; simp at k1
    · apply dec_head v (by omega)
      cases hl : ints (decDigits v) with
      | nil => exact absurd hl h3
      | cons c r => rw [hl] at k2; simpa using k2
  · omega
  · rw [← ints_len, List.drop_left] at k
    simp [isD] at k
theorem numV_tells (l : List Int) (h : (numV l).2 ≠ 0) : (numV l).1 ≤ 9007199254740991 ∧ l.take (numV l).2 = ints (itoa ((numV l).1 : Int)) ∧ (numV l).2 ≤ l.length ∧ (numV l).2 = (itoa ((numV l).1 : Int)).length := by
  unfold numV at h ⊢
  split
  · rename_i h1; rw [if_pos h1] at h; exact absurd rfl h
  · rename_i h1
    rw [if_neg h1] at h
    obtain ⟨h2, h3, h4, h5⟩ := digs_tells 16 l 0
    generalize hd : digs 16 l 0 = d at *
    obtain ⟨v, n⟩ := d
    simp only at *
    have hi : itoa (v : Int) = decDigits v := by unfold itoa; rw [if_neg (by omega)]; simp
    have hlen : (l.take n).length = n := by rw [List.length_take]; omega
    have h6 := dec_of n (l.take n) hlen (by intro e; rw [e] at hlen; exact h hlen.symm) h4 (by
      by_cases hn : n = 1
      · right; omega
      · left
        intro e
        apply h1
        left
        refine ⟨by omega, ?_⟩
        cases l with
        | nil => simp at e
        | cons c r =>
          obtain ⟨m, rfl⟩ : ∃ m, n = m + 1 := ⟨n - 1, by omega⟩
          simpa using e)
    rw [← h5] at h6
    refine ⟨by omega, by rw [hi]; exact h6, h2, ?_⟩
    rw [hi, ← ints_len, ← h6]; exact hlen.symm
theorem decFrom_run : ∀ (u : Nat), decFrom 0 (decDigits u) = some u := by
  have snoc : ∀ (a : List UInt8) (b : UInt8) (acc n d : Nat), decFrom acc a = some n → digitVal b = some d → decFrom acc (a ++ [b]) = some (n * 10 + d) := by
    intro a b acc n d h1 h2
    have := decFrom_take (a ++ [b]) a.length acc n b d (by rw [List.take_left]; exact h1) (by simp) h2
    rwa [List.take_of_length_le (by simp)] at this
  have dv : ∀ k : Fin 10, digitVal (UInt8.ofNat (48 + k.val)) = some k.val := by decide
  intro u
  induction u using Nat.strongRecOn with
  | _ u ih =>
    by_cases h : u < 10
    · rw [decDigits_one h]
      have := snoc [] (UInt8.ofNat (48 + u)) 0 0 u rfl (dv ⟨u, h⟩)
      simpa using this
    · have : decDigits u = decDigits (u / 10) ++ [UInt8.ofNat (48 + u % 10)] := by conv => lhs; rw [decDigits, dif_neg h]
      rw [this]
      have := snoc _ _ 0 _ _ (ih (u / 10) (by omega)) (dv ⟨u % 10, by omega⟩)
      rw [this]
      congr 1; simp only; omega
theorem atoi_cons (b : UInt8) (r : List UInt8) : atoi (b :: r) = (if (b == 45) = true then (decNat r).map fun (m : Nat) => -(m : Int) else if (b == 43) = true then (decNat r).map fun (m : Nat) => (m : Int) else (decNat (b :: r)).map fun (m : Nat) => (m : Int)) := rfl
theorem atoi_itoa (v : Nat) (hv : v ≤ 9007199254740991) : atoiAll (itoa (v : Int)) = .ok (v : Int) := by
  have hi : itoa (v : Int) = decDigits v := by unfold itoa; rw [if_neg (by omega)]; simp
  have h4 := dec_len v hv
  rw [hi, atoiAll_short _ (by omega)]
  have h1 := decFrom_run v
  obtain ⟨k1, k2, k3⟩ := dec_all v
  cases hl : decDigits v with
  | nil => rw [hl] at k3; exact absurd rfl k3
  | cons c r =>
    rw [hl] at h1 k1
    have hc : 48 ≤ c.toNat ∧ c.toNat ≤ 57 := by
      simp only [ints, List.map_cons, List.all_cons, Bool.and_eq_true, isD_iff] at k1
      omega
    have : atoi (c :: r) = some (v : Int) := by
      have n45 : ¬ ((c == 45) = true) := by
        intro e
        have := congrArg UInt8.toNat (beq_iff_eq.1 e)
        simp at this; omega
      have n43 : ¬ ((c == 43) = true) := by
        intro e
        have := congrArg UInt8.toNat (beq_iff_eq.1 e)
        simp at this; omega
      rw [atoi_cons, if_neg n45, if_neg n43]
      unfold decNat
      rw [if_neg (by simp), h1]
      rfl
    rw [this]
    rfl
end Go.Proofs.YthfhefkacmepkaaDoor.PB
namespace Go.Proofs.YthfhefkacmepkaaDoor.PB
open Go.RowKit Go.Proofs.YthfhefkacmepkaaDoorW.PrintWords Go.Lib
open Go.Proofs.YthfhefkacmepkaaDoor.PPathPuts Go.Proofs.YthfhefkacmepkaaDoor.Beg Go.Proofs.YthfhefkacmepkaaDoor.Bld Go.Proofs.YthfhefkacmepkaaDoor.PS Go.Proofs.YthfhefkacmepkaaDoor.PP
open Go.Proofs.YthfhefkacmepkaaDoor.Num (L L_len L_range)
set_option linter.unusedVariables false
set_option linter.unusedSimpArgs false
theorem right_iff (x : S26) (hs : x.f1.size ≤ 40000) : rightV x = true ↔ (x.f0 = true ∧ x.f2 = 0 ∧ ∃ rs : List Nat, (∀ r ∈ rs, Ok r) ∧ x.f1 = ⟨(TX rs).toArray⟩) ∨ (x.f0 = false ∧ x.f1 = ⟨#[]⟩ ∧ 0 ≤ x.f2 ∧ x.f2 ≤ 9007199254740991) := by
  obtain ⟨r, h1, h2⟩ := bad_f x.f1 (by omega)
  have hn := name_ok x.f1
  unfold rightV riffleref13_Right.f
  cases x.f0 with
  | true =>
    rw [if_pos rfl]
    by_cases hx : x.f2 = 0
    · rw [if_pos hx, h2]
      simp only [Option.bind_some, hx]
      rw [← hn, ← h1]
      simp
    · rw [if_neg hx]
      simp [hx]
  | false =>
    rw [if_neg (by simp)]
    have he : x.f1.toList = ([] : List UInt8) ↔ x.f1 = ⟨#[]⟩ := by
      constructor
      · intro h
        rw [ByteArray.toList_eq] at h
        exact ByteArray.ext (Array.toList_inj.1 h)
      · intro h; rw [h, ByteArray.toList_eq]
    by_cases h : x.f1.toList = ([] : List UInt8)
    · rw [if_pos h]
      have h3 := he.1 h
      by_cases hx : x.f2 ≥ 0
      · rw [if_pos hx]
        simp [h3, hx]
      · rw [if_neg hx]
        have : ¬ 0 ≤ x.f2 := hx
        simp [this]
    · rw [if_neg h]
      have h3 := mt he.2 h
      simp [h3]
/-- The steps that are read, as the document reads them, behind the first sign. -/
def parseV : Nat → List Int → Option (List S26)
  | 0, _ => none
  | f + 1, l => match l with
    | [] => some []
    | c :: r => if c ≠ 91 then none else match r with
      | [] => none
      | d :: q => if d ≠ 39 then (if (numV (d :: q)).2 = 0 ∨ ((d :: q).drop (numV (d :: q)).2).head? ≠ some 93 then none
          else (parseV f ((d :: q).drop ((numV (d :: q)).2 + 1))).map fun t => (⟨false, ⟨#[]⟩, ((numV (d :: q)).1 : Int)⟩ : S26) :: t)
        else match nameV (q.length + 1) q with
          | none => none
          | some (nm, n) => if ((q.drop n).drop 1).head? ≠ some 93 then none
            else (parseV f (q.drop (n + 2))).map fun t => (⟨true, ⟨nm.toArray⟩, 0⟩ : S26) :: t
theorem parseV_cons (f : Nat) (c : Int) (r : List Int) : parseV (f + 1) (c :: r) = (if c ≠ 91 then none else match r with
      | [] => none
      | d :: q => if d ≠ 39 then (if (numV (d :: q)).2 = 0 ∨ ((d :: q).drop (numV (d :: q)).2).head? ≠ some 93 then none
          else (parseV f ((d :: q).drop ((numV (d :: q)).2 + 1))).map fun t => (⟨false, ⟨#[]⟩, ((numV (d :: q)).1 : Int)⟩ : S26) :: t)
        else match nameV (q.length + 1) q with
          | none => none
          | some (nm, n) => if ((q.drop n).drop 1).head? ≠ some 93 then none
            else (parseV f (q.drop (n + 2))).map fun t => (⟨true, ⟨nm.toArray⟩, 0⟩ : S26) :: t) := rfl
def outs (l : List S26) : List UInt8 := l.flatMap stepOut
theorem path_of {l : List S26} (h : l.all rightV = true) : pathOf l = 36 :: outs l := by unfold pathOf; rw [if_pos h]; rfl
theorem out_name {x : S26} {rs : List Nat} (h0 : x.f0 = true) (h1 : x.f1 = ⟨(TX rs).toArray⟩) : stepOut x = 91 :: 39 :: (OU rs ++ [39, 93]) := by
  unfold stepOut
  rw [if_pos h0, h1, putOf_enc]; simp
theorem out_num {x : S26} (h0 : x.f0 = false) : stepOut x = 91 :: (itoa x.f2 ++ [93]) := by
  unfold stepOut
  rw [if_neg (by rw [h0]; simp)]
theorem itoa_head (v : Nat) : ∃ c t, ints (itoa (v : Int)) = c :: t ∧ 48 ≤ c ∧ c ≤ 57 := by
  have hi : itoa (v : Int) = decDigits v := by unfold itoa; rw [if_neg (by omega)]; simp
  obtain ⟨h1, _, h3⟩ := dec_all v
  rw [hi]
  cases hl : ints (decDigits v) with
  | nil => exact absurd hl h3
  | cons c t =>
    rw [hl] at h1
    simp only [List.all_cons, Bool.and_eq_true, isD_iff] at h1
    exact ⟨c, t, rfl, h1.1⟩
theorem OU_len (rs : List Nat) (h : ∀ r ∈ rs, Ok r) : rs.length ≤ (OU rs).length := by
  induction rs with
  | nil => simp
  | cons r rs ih =>
    have := ih (fun x hx => h x (by simp [hx]))
    obtain ⟨c, t, h1, _⟩ := out_head r (h r (by simp))
    have h2 := congrArg List.length h1
    rw [ints_len] at h2
    unfold OU at *
    rw [List.flatMap_cons, List.length_append, h2]
    simp only [List.length_cons]
    omega
/-- What is put is read. -/
theorem parseV_out : ∀ (l : List S26) (f : Nat), l.all rightV = true → (∀ x ∈ l, x.f1.size ≤ 40000) → l.length < f → parseV f (ints (outs l)) = some l
  | [], f + 1, _, _, _ => rfl
  | x :: l, f + 1, h, hs, hf => by
    simp only [List.all_cons, Bool.and_eq_true] at h
    have ih := parseV_out l f h.2 (fun y hy => hs y (by simp [hy])) (by simp at hf; omega)
    have e : ints (outs (x :: l)) = ints (stepOut x) ++ ints (outs l) := by
      unfold outs; rw [List.flatMap_cons, ints_app]
    rw [e]
    rcases (right_iff x (hs x (by simp))).1 h.1 with ⟨h0, h2, rs, hok, h1⟩ | ⟨h0, h1, h2, h3⟩
    · rw [out_name h0 h1]
      have e2 : ints (91 :: 39 :: (OU rs ++ [39, 93])) ++ ints (outs l) = 91 :: 39 :: (ints (OU rs) ++ 39 :: 93 :: ints (outs l)) := by simp [ints]
      rw [e2]
      rw [parseV_cons]
      simp only [ne_eq, not_true_eq_false, if_false]
      rw [nameV_out rs _ _ hok (by have := OU_len rs hok; simp [ints_len]; omega)]
      simp only
      have e3 : (ints (OU rs) ++ 39 :: 93 :: ints (outs l)).drop (OU rs).length = 39 :: 93 :: ints (outs l) := by rw [← ints_len, List.drop_left]
      rw [← List.drop_drop, e3]
      simp only [List.drop_succ_cons, List.drop_zero, List.head?_cons, not_true_eq_false, if_false, ih, Option.map_some]
      congr 2
      cases x
      simp_all
    · obtain ⟨v, hv⟩ : ∃ v : Nat, x.f2 = (v : Int) := ⟨x.f2.toNat, by omega⟩
      rw [out_num h0, hv]
      obtain ⟨c, t, k1, k2⟩ := itoa_head v
      have e2 : ints (91 :: (itoa (v : Int) ++ [93])) ++ ints (outs l) = 91 :: (ints (itoa (v : Int)) ++ 93 :: ints (outs l)) := by simp [ints]
      have hn := numV_out v (by omega) (ints (outs l))
      have e3 : (ints (itoa (v : Int)) ++ 93 :: ints (outs l)).drop (itoa (v : Int)).length = 93 :: ints (outs l) := by rw [← ints_len, List.drop_left]
      have hp : (itoa (v : Int)).length ≠ 0 := by rw [← ints_len, k1]; simp
      rw [e2]
      rw [k1, List.cons_append] at hn e3 ⊢
      rw [parseV_cons]
      simp only [ne_eq, not_true_eq_false, if_false, if_pos (show ¬ c = 39 by omega), hn]
      rw [if_neg (by rw [e3]; simp [hp]), ← List.drop_drop, e3]
      simp only [List.drop_succ_cons, List.drop_zero, ih, Option.map_some]
      congr 2
      cases x
      simp_all
/-- What is read was put so. -/
theorem parseV_tells : ∀ (f : Nat) (l : List Int) (t : List S26), (∀ c ∈ l, 0 ≤ c ∧ c < 256) → l.length ≤ 40000 → parseV f l = some t → t.all rightV = true ∧ l = ints (outs t) ∧ (∀ x ∈ t, x.f1.size ≤ 40000) ∧ t.length ≤ l.length
  | 0, _, _, _, _, h => by cases h
  | f + 1, [], t, _, _, h => by
    obtain rfl := Option.some.inj h
    exact ⟨rfl, rfl, by simp, by simp⟩
  | f + 1, c :: r, t, hr, hlen, h => by
    rw [parseV_cons] at h
    by_cases h1 : c ≠ 91
    · simp only [if_pos h1] at h; cases h
    obtain rfl : c = 91 := Classical.byContradiction h1
    simp only [if_neg h1] at h
    match r, hr, hlen, h with
    | [], _, _, h => cases h
    | d :: q, hr, hlen, h =>
      simp only at h
      by_cases h2 : d ≠ 39
      · simp only [if_pos h2] at h
        by_cases h3 : (numV (d :: q)).2 = 0 ∨ ((d :: q).drop (numV (d :: q)).2).head? ≠ some 93
        · rw [if_pos h3] at h; cases h
        rw [if_neg h3] at h
        obtain ⟨t2, h4, rfl⟩ := Option.map_eq_some_iff.1 h
        have h5 : (numV (d :: q)).2 ≠ 0 := fun e => h3 (.inl e)
        have h6 : ((d :: q).drop (numV (d :: q)).2).head? = some 93 := Classical.byContradiction fun e => h3 (.inr e)
        obtain ⟨k1, k2, k3, k4⟩ := numV_tells (d :: q) h5
        generalize (numV (d :: q)).1 = v at *
        generalize (numV (d :: q)).2 = n at *
        have hr2 : ∀ x ∈ d :: q, 0 ≤ x ∧ x < 256 := fun x hx => hr x (List.mem_cons_of_mem _ hx)
        obtain ⟨i1, i2, i3, i4⟩ := parseV_tells f _ t2 (fun x hx => hr2 x (List.mem_of_mem_drop hx)) (by rw [List.length_drop]; simp at hlen ⊢; omega) h4
        have hx : rightV (⟨false, ⟨#[]⟩, (v : Int)⟩ : S26) = true := (right_iff _ (by simp [ByteArray.size])).2 (.inr ⟨rfl, rfl, by simp, by simp; omega⟩)
        have e1 : (d :: q).drop n = 93 :: (d :: q).drop (n + 1) := by
          rw [← List.drop_drop]
          cases hd : (d :: q).drop n with
          | nil => rw [hd] at h6; cases h6
          | cons a b => rw [hd] at h6; obtain rfl := Option.some.inj h6; rfl
        refine ⟨by rw [List.all_cons, hx, i1]; rfl, ?_, ?_, ?_⟩
        · have : outs (⟨false, ⟨#[]⟩, (v : Int)⟩ :: t2) = stepOut ⟨false, ⟨#[]⟩, (v : Int)⟩ ++ outs t2 := by unfold outs; rw [List.flatMap_cons]
          rw [this, out_num rfl, ints_app, ← i2]
          conv => lhs; rw [← List.take_append_drop n (d :: q), k2, e1]
          simp [ints]
        · intro y hy
          rcases List.mem_cons.1 hy with rfl | hy
          · simp [ByteArray.size]
          · exact i3 y hy
        · rw [List.length_drop] at i4; simp at i4 ⊢; omega
      · obtain rfl : d = 39 := Classical.byContradiction h2
        simp only [if_neg h2] at h
        cases h3 : nameV (q.length + 1) q with
        | none => rw [h3] at h; cases h
        | some x =>
          obtain ⟨nm, n⟩ := x
          rw [h3] at h
          simp only at h
          by_cases h4 : ((q.drop n).drop 1).head? ≠ some 93
          · rw [if_pos h4] at h; cases h
          rw [if_neg h4] at h
          have h6 : ((q.drop n).drop 1).head? = some 93 := Classical.byContradiction h4
          obtain ⟨t2, h5, rfl⟩ := Option.map_eq_some_iff.1 h
          have hr2 : ∀ x ∈ q, 0 ≤ x ∧ x < 256 := fun x hx => hr x (by simp [hx])
          obtain ⟨rs, k1, k2, k3, k4, k5⟩ := nameV_tells _ q nm n hr2 h3
          obtain ⟨i1, i2, i3, i4⟩ := parseV_tells f _ t2 (fun x hx => hr2 x (List.mem_of_mem_drop hx)) (by rw [List.length_drop]; simp at hlen ⊢; omega) h5
          have hTO : (TX rs).length ≤ n := by
            have h8 := congrArg List.length k3
            rw [List.length_take, ints_len] at h8
            have : (TX rs).length ≤ (OU rs).length := by
              clear k2 k3 h8 h3
              induction rs with
              | nil => simp [TX]
              | cons r rs ih =>
                have h9 := ih (fun x hx => k1 x (by simp [hx]))
                have h10 : (encodeRune (r : Int)).length ≤ (runeOut r).length := by
                  unfold runeOut
                  split
                  · exact Nat.le_refl _
                  · rename_i he
                    have hr9 : r < 128 := by have := mt (esc_nil r).2 he; omega
                    have hs9 := enc_small ⟨r, hr9⟩
                    simp only at hs9
                    rw [hs9]
                    cases hn : escOf (r : Int) with
                    | nil => exact absurd hn he
                    | cons a b => simp
                unfold TX OU at *
                rw [List.flatMap_cons, List.flatMap_cons, List.length_append, List.length_append]
                omega
            omega
          have hsz : (⟨nm.toArray⟩ : ByteArray).size ≤ 40000 := by
            rw [k2]; simp [ByteArray.size]; simp at hlen; omega
          have hx : rightV (⟨true, ⟨nm.toArray⟩, 0⟩ : S26) = true := (right_iff _ hsz).2 (.inl ⟨rfl, rfl, rs, k1, by rw [k2]⟩)
          have e1 : q.drop n = 39 :: 93 :: q.drop (n + 2) := by
            rw [show n + 2 = n + (1 + 1) by omega, ← List.drop_drop, ← List.drop_drop]
            rcases k5 with k5 | ⟨p, k5⟩
            · rw [k5] at h6; cases h6
            · rw [k5] at h6 ⊢
              cases p with
              | nil => cases h6
              | cons a b =>
                obtain rfl := Option.some.inj h6
                rfl
          refine ⟨by rw [List.all_cons, hx, i1]; rfl, ?_, ?_, ?_⟩
          · have : outs (⟨true, ⟨nm.toArray⟩, 0⟩ :: t2) = stepOut ⟨true, ⟨nm.toArray⟩, 0⟩ ++ outs t2 := by unfold outs; rw [List.flatMap_cons]
            rw [this, out_name rfl (by rw [k2]), ints_app, ← i2]
            conv => lhs; rw [← List.take_append_drop n q, k3, e1]
            simp [ints]
          · intro y hy
            rcases List.mem_cons.1 hy with rfl | hy
            · exact hsz
            · exact i3 y hy
          · rw [List.length_drop] at i4; simp at i4 ⊢; omega
end Go.Proofs.YthfhefkacmepkaaDoor.PB
namespace Go.Proofs.YthfhefkacmepkaaDoor.PB
open Go.RowKit Go.Proofs.YthfhefkacmepkaaDoorW.PrintWords Go.Lib
open Go.Proofs.YthfhefkacmepkaaDoor.PPathPuts Go.Proofs.YthfhefkacmepkaaDoor.Beg Go.Proofs.YthfhefkacmepkaaDoor.Bld Go.Proofs.YthfhefkacmepkaaDoor.PS Go.Proofs.YthfhefkacmepkaaDoor.PP
open Go.Proofs.YthfhefkacmepkaaDoor.Num (L L_len L_range)
set_option linter.unusedVariables false
set_option linter.unusedSimpArgs false
def hexD (c : Int) : Option Nat := if 48 ≤ c ∧ c ≤ 57 then some (c - 48).toNat else if 97 ≤ c ∧ c ≤ 102 then some (c - 87).toNat else if 65 ≤ c ∧ c ≤ 70 then some (c - 55).toNat else none
/-- What four signs are as a number to the base 16; 0: they are none. -/
def hexV (l : List Int) : Nat := match l with
  | [a, b, c, d] => match hexD a, hexD b, hexD c, hexD d with
    | some x, some y, some z, some u => ((x * 16 + y) * 16 + z) * 16 + u
    | _, _, _, _ => 0
  | _ => 0
def lB : List Int := [98, 116, 110, 102, 114]
def lC : List Int := [8, 9, 10, 12, 13]
/-- The name that is read behind its first mark, and how many bytes it takes, both marks among them. -/
def plainV : Nat → List Int → List UInt8 → Nat → List UInt8 × Nat
  | 0, _, _, _ => ([], 0)
  | _ + 1, [], _, _ => ([], 0)
  | f + 1, c :: r, b, i =>
    if c = 39 then (b, i + 1)
    else if c ≠ 92 then plainV f r (b ++ [c.toNat.toUInt8]) (i + 1)
    else match r with
      | [] => ([], 0)
      | d :: q => match pf d lB lC with
        | some y => plainV f q (b ++ [y.toNat.toUInt8]) (i + 2)
        | none => if d ≠ 117 ∨ q.length < 4 then plainV f q (b ++ [d.toNat.toUInt8]) (i + 2)
          else plainV f (q.drop 4) (b ++ encodeRune (hexV (q.take 4) : Nat)) (i + 6)
theorem plainV_cons (f : Nat) (c : Int) (r : List Int) (b : List UInt8) (i : Nat) : plainV (f + 1) (c :: r) b i = (if c = 39 then (b, i + 1)
    else if c ≠ 92 then plainV f r (b ++ [c.toNat.toUInt8]) (i + 1)
    else match r with
      | [] => ([], 0)
      | d :: q => match pf d lB lC with
        | some y => plainV f q (b ++ [y.toNat.toUInt8]) (i + 2)
        | none => if d ≠ 117 ∨ q.length < 4 then plainV f q (b ++ [d.toNat.toUInt8]) (i + 2)
          else plainV f (q.drop 4) (b ++ encodeRune (hexV (q.take 4) : Nat)) (i + 6)) := rfl
theorem plain_copy : ∀ (cs : List Int) (f : Nat) (q : List Int) (b : List UInt8) (i : Nat), (∀ c ∈ cs, c ≠ 39 ∧ c ≠ 92) → plainV (f + cs.length) (cs ++ q) b i = plainV f q (b ++ b8 cs) (i + cs.length)
  | [], f, q, b, i, _ => by simp [b8]
  | c :: cs, f, q, b, i, h => by
    have hc := h c (by simp)
    rw [List.length_cons, ← Nat.add_assoc, List.cons_append]
    rw [plainV_cons, if_neg hc.1, if_pos hc.2, plain_copy cs f q _ (i + 1) (fun x hx => h x (by simp [hx]))]
    simp [b8]
    congr 1; omega
def chk3 (r : Nat) : Bool := if escOf (r : Int) = [] then true else match runeOut r with
  | [a, d] => a == 92 && (match pf (d.toNat : Int) lB lC with
    | some y => y == (r : Int)
    | none => d != 117 && d.toNat == r) && (encodeRune (r : Int) == [r.toUInt8])
  | [a, b, c, d, e, f] => a == 92 && b == 117 && (hexV (ints [c, d, e, f]) == r)
  | _ => false
theorem chk3_all : ∀ r : Fin 128, chk3 r.val = true := by decide +kernel
theorem pfB117 : pf 117 lB lC = none := by decide
theorem plain_rune (r : Nat) (hok : Ok r) (q : List Int) (b : List UInt8) (i : Nat) : ∃ k, k ≤ (runeOut r).length ∧ ∀ f, plainV (f + k) (ints (runeOut r) ++ q) b i = plainV f q (b ++ encodeRune (r : Int)) (i + (runeOut r).length) := by
  by_cases he : escOf (r : Int) = []
  · have h3 := (esc_nil r).1 he
    refine ⟨(ints (runeOut r)).length, by rw [ints_len]; exact Nat.le_refl _, fun f => ?_⟩
    rw [plain_copy _ f q b i, b8_ints, ints_len]
    · rw [out_plain he]
    · rw [out_plain he, ints_enc]
      rcases enc_head r with ⟨h4, h5⟩ | ⟨h4, h5⟩
      · rw [h5]
        intro c hc
        rw [List.mem_singleton] at hc
        omega
      · intro c hc
        have := h5 c hc
        omega
  · have hr : r < 128 := by
      have := mt (esc_nil r).2 he
      omega
    have hk := chk3_all ⟨r, hr⟩
    unfold chk3 at hk
    simp only at hk
    rw [if_neg he] at hk
    split at hk
    · rename_i a d ho
      simp only [Bool.and_eq_true, beq_iff_eq] at hk
      obtain ⟨⟨rfl, h2⟩, h3⟩ := hk
      refine ⟨1, by rw [ho]; simp, fun f => ?_⟩
      rw [ho, h3]
      show plainV (f + 1) (92 :: (d.toNat : Int) :: q) b i = _
      rw [plainV_cons, if_neg (by omega), if_neg (by simp)]
      simp only
      split at h2
      · rename_i y hy
        simp only [beq_iff_eq] at h2
        rw [h2]
        simp
      · rename_i hy
        simp only [Bool.and_eq_true, bne_iff_ne, beq_iff_eq] at h2
        have h5 : ¬ ((d.toNat : Nat) : Int) = 117 := by
          intro e
          apply h2.1
          have : d.toNat = 117 := by omega
          exact UInt8.toNat_inj.1 (by rw [this]; rfl)
        rw [if_pos (.inl h5), ← h2.2]
        simp
    · rename_i a b2 c d e g ho
      simp only [Bool.and_eq_true, beq_iff_eq] at hk
      obtain ⟨⟨rfl, rfl⟩, h3⟩ := hk
      refine ⟨1, by rw [ho]; simp, fun f => ?_⟩
      rw [ho]
      show plainV (f + 1) (92 :: 117 :: (ints [c, d, e, g] ++ q)) b i = _
      have h4 : (ints [c, d, e, g] ++ q).take 4 = ints [c, d, e, g] := by
        have : (ints [c, d, e, g]).length = 4 := rfl
        rw [← this, List.take_left]
      have h5 : (ints [c, d, e, g] ++ q).drop 4 = q := by
        have : (ints [c, d, e, g]).length = 4 := rfl
        rw [← this, List.drop_left]
      rw [plainV_cons, if_neg (by omega), if_neg (by simp)]
      simp only [pfB117, h4, h5, h3]
      rw [if_neg (by simp [ints])]
      rfl
    · cases hk
theorem plain_out : ∀ (rs : List Nat) (f : Nat) (q : List Int) (b : List UInt8) (i : Nat), (∀ r ∈ rs, Ok r) → (OU rs).length < f → plainV f (ints (OU rs) ++ 39 :: q) b i = (b ++ TX rs, i + (OU rs).length + 1)
  | [], f, q, b, i, _, hf => by
    obtain ⟨f, rfl⟩ : ∃ g, f = g + 1 := ⟨f - 1, by omega⟩
    show plainV (f + 1) (39 :: q) b i = _
    unfold plainV
    simp [TX, OU]
  | r :: rs, f, q, b, i, hok, hf => by
    have e : ints (OU (r :: rs)) ++ 39 :: q = ints (runeOut r) ++ (ints (OU rs) ++ 39 :: q) := by
      unfold OU; rw [List.flatMap_cons, ints_app, List.append_assoc]
    have e2 : (OU (r :: rs)).length = (runeOut r).length + (OU rs).length := by unfold OU; rw [List.flatMap_cons, List.length_append]
    rw [e2] at hf
    obtain ⟨k, h1, h2⟩ := plain_rune r (hok r (by simp)) (ints (OU rs) ++ 39 :: q) b i
    rw [e, e2]
    obtain ⟨g, rfl⟩ : ∃ g, f = g + k := ⟨f - k, by omega⟩
    rw [h2 g, plain_out rs g q _ _ (fun x hx => hok x (by simp [hx])) (by omega)]
    have e3 : TX (r :: rs) = encodeRune (r : Int) ++ TX rs := by unfold TX; rw [List.flatMap_cons]
    rw [e3, List.append_assoc]
    congr 1; omega
def atoiV (t : List UInt8) : Int := match atoiAll t with
  | .ok v => v
  | .range => atoiSat t
  | _ => 0
def idx93 : List Int → Nat → Nat
  | [], _ => 0
  | c :: r, i => if c = 93 then i else idx93 r (i + 1)
/-- The steps that are read, as the program does, behind the first sign. -/
def loopV : Nat → List Int → List S26 → Option (List S26)
  | 0, _, _ => none
  | f + 1, l, out => match l with
    | [] => some out
    | c :: r => if c ≠ 91 then none
      else if r.head? = some 39 then
        (if ((r.drop (plainV (r.length + 1) (r.drop 1) [] 1).2).head? ≠ some 93) then none
          else loopV f (r.drop ((plainV (r.length + 1) (r.drop 1) [] 1).2 + 1)) (out ++ [⟨true, ⟨(plainV (r.length + 1) (r.drop 1) [] 1).1.toArray⟩, 0⟩]))
      else
        (if ((r.drop (idx93 r 0)).head? ≠ some 93) then none
          else loopV f (r.drop (idx93 r 0 + 1)) (out ++ [⟨false, ⟨#[]⟩, atoiV (b8 (r.take (idx93 r 0)))⟩]))
theorem loopV_cons (f : Nat) (c : Int) (r : List Int) (out : List S26) : loopV (f + 1) (c :: r) out = (if c ≠ 91 then none
      else if r.head? = some 39 then
        (if ((r.drop (plainV (r.length + 1) (r.drop 1) [] 1).2).head? ≠ some 93) then none
          else loopV f (r.drop ((plainV (r.length + 1) (r.drop 1) [] 1).2 + 1)) (out ++ [⟨true, ⟨(plainV (r.length + 1) (r.drop 1) [] 1).1.toArray⟩, 0⟩]))
      else
        (if ((r.drop (idx93 r 0)).head? ≠ some 93) then none
          else loopV f (r.drop (idx93 r 0 + 1)) (out ++ [⟨false, ⟨#[]⟩, atoiV (b8 (r.take (idx93 r 0)))⟩]))) := rfl
theorem idx_run : ∀ (a : List Int) (q : List Int) (i : Nat), (∀ c ∈ a, c ≠ 93) → idx93 (a ++ 93 :: q) i = i + a.length
  | [], q, i, _ => by simp [idx93]
  | c :: a, q, i, h => by
    rw [List.cons_append]
    unfold idx93
    rw [if_neg (h c (by simp)), idx_run a q (i + 1) (fun x hx => h x (by simp [hx]))]
    simp; omega
/-- What is put is read. -/
theorem loopV_out : ∀ (l : List S26) (f : Nat) (out : List S26), l.all rightV = true → (∀ x ∈ l, x.f1.size ≤ 40000) → l.length < f → loopV f (ints (outs l)) out = some (out ++ l)
  | [], f + 1, out, _, _, _ => by show some out = _; simp
  | x :: l, f + 1, out, h, hs, hf => by
    simp only [List.all_cons, Bool.and_eq_true] at h
    have ih := fun o => loopV_out l f o h.2 (fun y hy => hs y (by simp [hy])) (by simp at hf; omega)
    have e : ints (outs (x :: l)) = ints (stepOut x) ++ ints (outs l) := by
      unfold outs; rw [List.flatMap_cons, ints_app]
    rw [e]
    rcases (right_iff x (hs x (by simp))).1 h.1 with ⟨h0, h2, rs, hok, h1⟩ | ⟨h0, h1, h2, h3⟩
    · rw [out_name h0 h1]
      have e2 : ints (91 :: 39 :: (OU rs ++ [39, 93])) ++ ints (outs l) = 91 :: 39 :: (ints (OU rs) ++ 39 :: 93 :: ints (outs l)) := by simp [ints]
      have hp := plain_out rs ((39 :: (ints (OU rs) ++ 39 :: 93 :: ints (outs l))).length + 1) (93 :: ints (outs l)) [] 1 hok (by simp [ints_len]; omega)
      have e3 : (39 :: (ints (OU rs) ++ 39 :: 93 :: ints (outs l))).drop (1 + (OU rs).length + 1) = 93 :: ints (outs l) := by
        rw [show 1 + (OU rs).length + 1 = 1 + ((OU rs).length + 1) by omega, ← List.drop_drop, ← List.drop_drop]
        rw [show (39 :: (ints (OU rs) ++ 39 :: 93 :: ints (outs l))).drop 1 = ints (OU rs) ++ 39 :: 93 :: ints (outs l) from rfl]
        rw [← ints_len, List.drop_left]; rfl
      rw [e2]
      rw [loopV_cons]
      have hp2 : plainV ((39 :: (ints (OU rs) ++ 39 :: 93 :: ints (outs l))).length + 1) ((39 :: (ints (OU rs) ++ 39 :: 93 :: ints (outs l))).drop 1) [] 1 = ([] ++ TX rs, 1 + (OU rs).length + 1) := hp
      rw [if_neg (by simp), if_pos (show (39 :: (ints (OU rs) ++ 39 :: 93 :: ints (outs l))).head? = some (39 : Int) from rfl), hp2, e3, if_neg (by simp), ← List.drop_drop, e3]
      simp only [List.drop_succ_cons, List.drop_zero, List.nil_append]
      rw [ih, List.append_assoc]
      congr 2
      cases x
      simp_all
    · obtain ⟨v, hv⟩ : ∃ v : Nat, x.f2 = (v : Int) := ⟨x.f2.toNat, by omega⟩
      rw [out_num h0, hv]
      obtain ⟨c, t, k1, k2⟩ := itoa_head v
      have e2 : ints (91 :: (itoa (v : Int) ++ [93])) ++ ints (outs l) = 91 :: (ints (itoa (v : Int)) ++ 93 :: ints (outs l)) := by simp [ints]
      have hi : itoa (v : Int) = decDigits v := by unfold itoa; rw [if_neg (by omega)]; simp
      have hx : idx93 (ints (itoa (v : Int)) ++ 93 :: ints (outs l)) 0 = (itoa (v : Int)).length := by
        rw [idx_run _ _ 0 ?_, ints_len]
        · omega
        · intro c hc e
          have h1 := (dec_all v).1
          rw [hi] at hc
          have h2 := (isD_iff c).1 (List.all_eq_true.1 h1 c hc)
          omega
      have e3 : (ints (itoa (v : Int)) ++ 93 :: ints (outs l)).drop (itoa (v : Int)).length = 93 :: ints (outs l) := by rw [← ints_len, List.drop_left]
      have e4 : (ints (itoa (v : Int)) ++ 93 :: ints (outs l)).take (itoa (v : Int)).length = ints (itoa (v : Int)) := by rw [← ints_len, List.take_left]
      have ha : atoiV (itoa (v : Int)) = (v : Int) := by unfold atoiV; rw [atoi_itoa v (by omega)]
      have hh : (ints (itoa (v : Int)) ++ 93 :: ints (outs l)).head? ≠ some 39 := by rw [k1]; simp; omega
      rw [e2]
      rw [loopV_cons]
      simp only [ne_eq, not_true_eq_false, if_false]
      rw [if_neg hh, hx, e3, e4, ← List.drop_drop, e3, b8_ints, ha]
      simp only [List.head?_cons, not_true_eq_false, if_false, List.drop_succ_cons, List.drop_zero]
      rw [ih, List.append_assoc]
      congr 2
      cases x
      simp_all
end Go.Proofs.YthfhefkacmepkaaDoor.PB
