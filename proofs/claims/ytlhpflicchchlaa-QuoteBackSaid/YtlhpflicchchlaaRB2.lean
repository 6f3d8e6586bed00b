/- A string that was put is read again. Conditions: none. -/
import Derived.Test.YtlhpflicchchlaaRB1
import Derived.Test.YtlhpflicchchlaaQE
namespace Go.Proofs.Ytlhpflicchchlaa.RB
open Go.RowKit Go.Proofs.YtlhpflicchchlaaW.PrintWords Go.Lib
open Go.Proofs.Ytlhpflicchchlaa.Beg Go.Proofs.Ytlhpflicchchlaa.Bld Go.Proofs.Ytlhpflicchchlaa.RPut Go.Proofs.Ytlhpflicchchlaa.QW
open Go.Proofs.Ytlhpflicchchlaa.Num (L L_len L_range)
set_option linter.unusedVariables false
set_option linter.unusedSimpArgs false
theorem qread_on {q q' : QS} {c : Int} {r : List Int} {i : Nat} (h : qstep q c = (q', 0)) : qread q (c :: r) i = qread q' r (i + 1) := by
  simp only [qread, h, if_pos]
structure Ready (q : QS) : Prop where
  a : q.a = 0
  l : q.l = 0
theorem step_first {q : QS} (h : Ready q) {c : Int} (h1 : c ≠ 34) (h2 : c ≠ 92) (h3 : ¬ c < 32) : qstep q c = amongT q (ustep 0 q.lo q.hi q.sg c) := by
  unfold qstep amongS
  rw [if_pos h.a, if_neg (fun e => h1 e.2), if_neg (fun e => h2 e.2), if_neg (fun e => h3 e.2), h.l]
theorem step_next {q : QS} (ha : q.a = 0) (hl : q.l > 0) (c : Int) : qstep q c = amongT q (ustep q.l q.lo q.hi q.sg c) := by
  unfold qstep amongS
  rw [if_pos ha, if_neg (fun e => e.1 hl), if_neg (fun e => e.1 hl), if_neg (fun e => e.1 hl)]
theorem ustep_new {c lo hi sg l1 lo1 hi1 sg1 : Int} (h : uf c = (l1, lo1, hi1, sg1, true)) : ustep 0 lo hi sg c = (true, l1, lo1, hi1, sg1) := by
  unfold ustep; rw [if_pos rfl, h]; rfl
theorem ustep_in {c l lo hi sg : Int} (h : l ≠ 0) (h1 : lo ≤ c) (h2 : c ≤ hi) : ustep l lo hi sg c = (true, l - 1, 128, 191, sg * 64 + c % 64) := by
  unfold ustep; rw [if_neg h, if_neg (by omega)]
theorem amongT_more {q : QS} {l lo hi sg : Int} (h : l > 0) : amongT q (true, l, lo, hi, sg) = ({ q with l := l, lo := lo, hi := hi, sg := sg }, 0) := by
  unfold amongT; rw [if_neg (by simp), if_pos h]
theorem amongT_end {q : QS} {l lo hi sg : Int} (h : ¬ l > 0) : amongT q (true, l, lo, hi, sg) = ({ q with l := l, lo := lo, hi := hi, sg := sg, text := q.text ++ encodeRune sg }, 0) := by
  unfold amongT; rw [if_neg (by simp), if_neg h]
/-- What reading a sign's bytes comes to. -/
def Reads (q : QS) (bs : List Int) (t : List UInt8) : Prop := ∀ (rest : List Int) (i : Nat), ∃ q', Ready q' ∧ q'.text = q.text ++ t ∧ qread q (bs ++ rest) i = qread q' rest (i + bs.length)
theorem reads1 {q : QS} (h : Ready q) (c : Int) (h0 : 32 ≤ c) (h1 : c < 128) (h2 : c ≠ 34) (h3 : c ≠ 92) : Reads q [c] (encodeRune c) := by
  intro rest i
  have hu : uf c = (0, 128, 191, c, true) := by unfold uf; rw [if_pos (by omega)]
  have e1 : qstep q c = ({ q with l := 0, lo := 128, hi := 191, sg := c, text := q.text ++ encodeRune c }, 0) := by
    rw [step_first h h2 h3 (by omega), ustep_new hu, amongT_end (by omega)]
  refine ⟨_, ?_, ?_, qread_on e1⟩
  · exact ⟨h.a, rfl⟩
  · rfl
theorem reads2 {q : QS} (h : Ready q) (c d x : Int) (h0 : 194 ≤ c) (h1 : c < 224) (k0 : 128 ≤ d) (k1 : d ≤ 191) (hx : x = c % 32 * 64 + d % 64) : Reads q [c, d] (encodeRune x) := by
  intro rest i
  have hu : uf c = (1, 128, 191, c % 32, true) := by unfold uf; rw [if_neg (by omega), if_neg (by omega), if_pos (by omega)]
  have e1 : qstep q c = ({ q with l := 1, lo := 128, hi := 191, sg := c % 32 }, 0) := by
    rw [step_first h (by omega) (by omega) (by omega), ustep_new hu, amongT_more (by omega)]
  have e2 : qstep { q with l := 1, lo := 128, hi := 191, sg := c % 32 } d = ({ q with l := 0, lo := 128, hi := 191, sg := x, text := q.text ++ encodeRune x }, 0) := by
    refine (step_next (by exact h.a) (by simp) d).trans ?_
    simp only
    rw [ustep_in (l := 1) (by decide) k0 k1, amongT_end (l := 1 - 1) (by decide)]
    simp [hx]
  refine ⟨_, ?_, ?_, (qread_on e1).trans ((qread_on e2).trans (by rfl))⟩
  · exact ⟨h.a, rfl⟩
  · rfl
theorem reads3 {q : QS} (h : Ready q) (c d e x : Int) (h0 : 224 ≤ c) (h1 : c < 240) (k0 : (if c = 224 then 160 else 128) ≤ d) (k1 : d ≤ (if c = 237 then 159 else 191)) (m0 : 128 ≤ e) (m1 : e ≤ 191) (hx : x = (c % 16 * 64 + d % 64) * 64 + e % 64) : Reads q [c, d, e] (encodeRune x) := by
  intro rest i
  have hu : uf c = (2, if c = 224 then 160 else 128, if c = 237 then 159 else 191, c % 16, true) := by unfold uf; rw [if_neg (by omega), if_neg (by omega), if_neg (by omega), if_pos (by omega)]
  have e1 : qstep q c = ({ q with l := 2, lo := if c = 224 then 160 else 128, hi := if c = 237 then 159 else 191, sg := c % 16 }, 0) := by
    rw [step_first h (by omega) (by omega) (by omega), ustep_new hu, amongT_more (by omega)]
  have e2 : qstep { q with l := 2, lo := if c = 224 then 160 else 128, hi := if c = 237 then 159 else 191, sg := c % 16 } d = ({ q with l := 1, lo := 128, hi := 191, sg := c % 16 * 64 + d % 64 }, 0) := by
    refine (step_next (by exact h.a) (by simp) d).trans ?_
    simp only
    rw [ustep_in (l := 2) (by decide) k0 k1, amongT_more (l := 2 - 1) (by decide)]
    simp
  have e3 : qstep { q with l := 1, lo := 128, hi := 191, sg := c % 16 * 64 + d % 64 } e = ({ q with l := 0, lo := 128, hi := 191, sg := x, text := q.text ++ encodeRune x }, 0) := by
    refine (step_next (by exact h.a) (by simp) e).trans ?_
    simp only
    rw [ustep_in (l := 1) (by decide) m0 m1, amongT_end (l := 1 - 1) (by decide)]
    simp [hx]
  refine ⟨_, ?_, ?_, (qread_on e1).trans ((qread_on e2).trans ((qread_on e3).trans (by rfl)))⟩
  · exact ⟨h.a, rfl⟩
  · rfl
theorem reads4 {q : QS} (h : Ready q) (c d e f x : Int) (h0 : 240 ≤ c) (h1 : c ≤ 244) (k0 : (if c = 240 then 144 else 128) ≤ d) (k1 : d ≤ (if c = 244 then 143 else 191)) (m0 : 128 ≤ e) (m1 : e ≤ 191) (n0 : 128 ≤ f) (n1 : f ≤ 191) (hx : x = ((c % 8 * 64 + d % 64) * 64 + e % 64) * 64 + f % 64) : Reads q [c, d, e, f] (encodeRune x) := by
  intro rest i
  have hu : uf c = (3, if c = 240 then 144 else 128, if c = 244 then 143 else 191, c % 8, true) := by unfold uf; rw [if_neg (by omega), if_neg (by omega), if_neg (by omega), if_neg (by omega)]
  have e1 : qstep q c = ({ q with l := 3, lo := if c = 240 then 144 else 128, hi := if c = 244 then 143 else 191, sg := c % 8 }, 0) := by
    rw [step_first h (by omega) (by omega) (by omega), ustep_new hu, amongT_more (by omega)]
  have e2 : qstep { q with l := 3, lo := if c = 240 then 144 else 128, hi := if c = 244 then 143 else 191, sg := c % 8 } d = ({ q with l := 2, lo := 128, hi := 191, sg := c % 8 * 64 + d % 64 }, 0) := by
    refine (step_next (by exact h.a) (by simp) d).trans ?_
    simp only
    rw [ustep_in (l := 3) (by decide) k0 k1, amongT_more (l := 3 - 1) (by decide)]
    simp
  have e3 : qstep { q with l := 2, lo := 128, hi := 191, sg := c % 8 * 64 + d % 64 } e = ({ q with l := 1, lo := 128, hi := 191, sg := (c % 8 * 64 + d % 64) * 64 + e % 64 }, 0) := by
    refine (step_next (by exact h.a) (by simp) e).trans ?_
    simp only
    rw [ustep_in (l := 2) (by decide) m0 m1, amongT_more (l := 2 - 1) (by decide)]
    simp
  have e4 : qstep { q with l := 1, lo := 128, hi := 191, sg := (c % 8 * 64 + d % 64) * 64 + e % 64 } f = ({ q with l := 0, lo := 128, hi := 191, sg := x, text := q.text ++ encodeRune x }, 0) := by
    refine (step_next (by exact h.a) (by simp) f).trans ?_
    simp only
    rw [ustep_in (l := 1) (by decide) n0 n1, amongT_end (l := 1 - 1) (by decide)]
    simp [hx]
  refine ⟨_, ?_, ?_, (qread_on e1).trans ((qread_on e2).trans ((qread_on e3).trans ((qread_on e4).trans (by rfl))))⟩
  · exact ⟨h.a, rfl⟩
  · rfl
theorem step_slash {q : QS} (h : Ready q) : qstep q 92 = ({ q with a := 1 }, 0) := by
  unfold qstep amongS
  rw [if_pos h.a, if_neg (by simp), if_pos ⟨by rw [h.l]; simp, rfl⟩]
theorem reads_esc {q : QS} (h : Ready q) (x r : Int) (hx : x ≠ 117) (hl : letV x = (r, true)) : Reads q [92, x] [r.toNat.toUInt8] := by
  intro rest i
  have e2 : qstep { q with a := 1 } x = ({ q with a := 0, text := q.text ++ [r.toNat.toUInt8] }, 0) := by
    unfold qstep slashS
    rw [if_neg (by simp), if_pos rfl, if_neg hx, hl, if_neg (by simp)]
  refine ⟨_, ?_, ?_, (qread_on (step_slash h)).trans ((qread_on e2).trans (by rfl))⟩
  · exact ⟨rfl, h.l⟩
  · rfl
theorem step_digit {q : QS} (ha : q.a = 2) (hf : q.fi = 0) {c n : Int} (hx : hexV c = (n, true)) (h2 : secondV q.le (q.un * 16 + n) ≠ 2) (hle : q.le - 1 > 0) : qstep q c = ({ q with un := q.un * 16 + n, le := q.le - 1 }, 0) := by
  unfold qstep digitS digitT
  rw [if_neg (by omega), if_neg (by omega), if_pos ha, hx]
  simp only
  rw [if_neg (by omega), if_neg (by simp), if_neg (fun e => h2 e.2), if_pos hle]
theorem reads_hex {q : QS} (h : Ready q) (h1 h2 a b : Int) (ha : hexV h1 = (a, true)) (hb : hexV h2 = (b, true)) (a0 : 0 ≤ a) (a1 : a < 16) (b0 : 0 ≤ b) (b1 : b < 16) : Reads q [92, 117, 48, 48, h1, h2] (encodeRune (a * 16 + b)) := by
  intro rest i
  have e2 : qstep { q with a := 1 } 117 = ({ q with a := 2, le := 4, un := 0, fi := 0 }, 0) := by
    unfold qstep slashS
    rw [if_neg (by simp), if_pos rfl, if_pos rfl]
  have h48 : hexV 48 = (0, true) := by decide
  have e3 : qstep { q with a := 2, le := 4, un := 0, fi := 0 } 48 = ({ q with a := 2, le := 3, un := 0, fi := 0 }, 0) := by
    refine (step_digit (by rfl) (by rfl) h48 (by simp [secondV]) (by simp)).trans ?_; simp
  have e4 : qstep { q with a := 2, le := 3, un := 0, fi := 0 } 48 = ({ q with a := 2, le := 2, un := 0, fi := 0 }, 0) := by
    refine (step_digit (by rfl) (by rfl) h48 (by simp [secondV, unitV]) (by simp)).trans ?_; simp
  have e5 : qstep { q with a := 2, le := 2, un := 0, fi := 0 } h1 = ({ q with a := 2, le := 1, un := a, fi := 0 }, 0) := by
    refine (step_digit (by rfl) (by rfl) ha (by simp [secondV]) (by simp)).trans ?_; simp
  have e6 : qstep { q with a := 2, le := 1, un := a, fi := 0 } h2 = ({ q with a := 0, le := 0, un := a * 16 + b, fi := 0, text := q.text ++ encodeRune (a * 16 + b) }, 0) := by
    unfold qstep digitS digitT
    rw [if_neg (by simp), if_neg (by simp), if_pos rfl, hb]
    simp only
    rw [if_neg (by simp), if_neg (by simp), if_neg (by simp [secondV]), if_neg (by simp), if_neg (by simp), if_neg]
    · simp
    · unfold unitV; rw [if_neg (by omega), if_neg (by omega)]; simp
  refine ⟨_, ?_, ?_, (qread_on (step_slash h)).trans ((qread_on e2).trans ((qread_on e3).trans ((qread_on e4).trans ((qread_on e5).trans ((qread_on e6).trans (by rfl))))))⟩
  · exact ⟨rfl, h.l⟩
  · rfl
theorem hexV_of : ∀ k : Fin 16, hexV ((hexOf k.val).toNat : Int) = (((k.val : Nat) : Int), true) := by decide +kernel
theorem enc_small : ∀ k : Fin 128, encodeRune ((k.val : Nat) : Int) = [k.val.toUInt8] := by decide +kernel
theorem reads_rune {q : QS} (h : Ready q) (r : Nat) : Reads q (ints (runeOut r)) (encodeRune r) := by
  unfold runeOut
  by_cases he : escOf (r : Int) = []
  · rw [if_pos he, ints_enc]
    unfold escOf at he
    by_cases h34 : (r : Int) = 34
    · rw [if_pos h34] at he; simp at he
    rw [if_neg h34] at he
    by_cases h92 : (r : Int) = 92
    · rw [if_pos h92] at he; simp at he
    rw [if_neg h92] at he
    by_cases h8 : (r : Int) = 8
    · rw [if_pos h8] at he; simp at he
    rw [if_neg h8] at he
    by_cases h12 : (r : Int) = 12
    · rw [if_pos h12] at he; simp at he
    rw [if_neg h12] at he
    by_cases h10 : (r : Int) = 10
    · rw [if_pos h10] at he; simp at he
    rw [if_neg h10] at he
    by_cases h13 : (r : Int) = 13
    · rw [if_pos h13] at he; simp at he
    rw [if_neg h13] at he
    by_cases h9 : (r : Int) = 9
    · rw [if_pos h9] at he; simp at he
    rw [if_neg h9] at he
    by_cases h32 : (r : Int) < 32
    · rw [if_pos h32] at he; simp at he
    by_cases c1 : 0 ≤ (r : Int) ∧ (r : Int) ≤ 127
    · rw [encodeRuneZ_one c1.1 c1.2]
      exact reads1 h r (by omega) (by omega) h34 h92
    by_cases c2 : 128 ≤ (r : Int) ∧ (r : Int) ≤ 2047
    · rw [encodeRuneZ_two c2.1 c2.2]
      exact reads2 h _ _ r (by omega) (by omega) (by omega) (by omega) (by omega)
    by_cases c3 : (2048 ≤ (r : Int) ∧ (r : Int) < 55296) ∨ (57343 < (r : Int) ∧ (r : Int) ≤ 65535)
    · rw [encodeRuneZ_three c3]
      exact reads3 h _ _ _ r (by omega) (by omega) (by split <;> omega) (by split <;> omega) (by omega) (by omega) (by omega)
    by_cases c4 : 65536 ≤ (r : Int) ∧ (r : Int) ≤ 1114111
    · rw [encodeRuneZ_four c4.1 c4.2]
      exact reads4 h _ _ _ _ r (by omega) (by omega) (by split <;> omega) (by split <;> omega) (by omega) (by omega) (by omega) (by omega) (by omega)
    · have hz := encodeRuneZ_bad (r := (r : Int)) (by omega)
      have h2 : encodeRune (r : Int) = encodeRune 65533 := by unfold encodeRune; rw [hz]; rfl
      rw [hz, h2]
      exact reads3 h _ _ _ 65533 (by omega) (by omega) (by decide) (by decide) (by omega) (by omega) (by omega)
  · rw [if_neg he]
    have small : ∀ (k x : Nat), k < 128 → x ≠ 117 → letV (x : Int) = (((k : Nat) : Int), true) → Reads q [92, (x : Int)] (encodeRune (k : Int)) := by
      intro k x hk hx hl
      have h1 := reads_esc h (x : Int) (k : Int) (by omega) hl
      have h2 := enc_small ⟨k, hk⟩
      simp only at h2
      rw [h2]
      simpa using h1
    by_cases h34 : (r : Int) = 34
    · obtain rfl : r = 34 := by omega
      exact small 34 34 (by omega) (by omega) (by decide)
    by_cases h92 : (r : Int) = 92
    · obtain rfl : r = 92 := by omega
      exact small 92 92 (by omega) (by omega) (by decide)
    by_cases h8 : (r : Int) = 8
    · obtain rfl : r = 8 := by omega
      exact small 8 98 (by omega) (by omega) (by decide)
    by_cases h12 : (r : Int) = 12
    · obtain rfl : r = 12 := by omega
      exact small 12 102 (by omega) (by omega) (by decide)
    by_cases h10 : (r : Int) = 10
    · obtain rfl : r = 10 := by omega
      exact small 10 110 (by omega) (by omega) (by decide)
    by_cases h13 : (r : Int) = 13
    · obtain rfl : r = 13 := by omega
      exact small 13 114 (by omega) (by omega) (by decide)
    by_cases h9 : (r : Int) = 9
    · obtain rfl : r = 9 := by omega
      exact small 9 116 (by omega) (by omega) (by decide)
    by_cases h32 : (r : Int) < 32
    · have e1 : escOf (r : Int) = [92, 117, 48, 48, hexOf (r / 16), hexOf (r % 16)] := by
        unfold escOf
        rw [if_neg h34, if_neg h92, if_neg h8, if_neg h12, if_neg h10, if_neg h13, if_neg h9, if_pos h32]
        rfl
      rw [e1]
      have ha := hexV_of ⟨r / 16, by omega⟩
      have hb := hexV_of ⟨r % 16, by omega⟩
      simp only at ha hb
      have := reads_hex h _ _ _ _ ha hb (by omega) (by omega) (by omega) (by omega)
      rw [show ((r / 16 : Nat) : Int) * 16 + ((r % 16 : Nat) : Int) = (r : Int) by omega] at this
      exact this
    · exfalso
      apply he
      unfold escOf
      rw [if_neg h34, if_neg h92, if_neg h8, if_neg h12, if_neg h10, if_neg h13, if_neg h9, if_neg h32]
theorem read_from (s : ByteArray) : ∀ (f pos : Nat) (q : QS) (rest : List Int) (i : Nat), Ready q → ∃ q', Ready q' ∧ q'.text = q.text ++ textFrom s f pos ∧ qread q (ints (putFrom s f pos) ++ rest) i = qread q' rest (i + (putFrom s f pos).length)
  | 0, pos, q, rest, i, h => ⟨q, h, by simp [textFrom], by simp [putFrom, ints]⟩
  | f + 1, pos, q, rest, i, h => by
    unfold textFrom putFrom
    by_cases hp : pos < s.size
    · rw [if_pos hp, if_pos hp]
      obtain ⟨q1, r1, t1, e1⟩ := reads_rune h (Utf8.decode s pos).1 (ints (putFrom s f (pos + (Utf8.decode s pos).2)) ++ rest) i
      obtain ⟨q2, r2, t2, e2⟩ := read_from s f (pos + (Utf8.decode s pos).2) q1 rest (i + (ints (runeOut (Utf8.decode s pos).1)).length) r1
      refine ⟨q2, r2, by rw [t2, t1, List.append_assoc], ?_⟩
      have : ints (runeOut (Utf8.decode s pos).1 ++ putFrom s f (pos + (Utf8.decode s pos).2)) ++ rest = ints (runeOut (Utf8.decode s pos).1) ++ (ints (putFrom s f (pos + (Utf8.decode s pos).2)) ++ rest) := by simp [ints]
      rw [this, e1, e2]
      simp [ints]
      congr 1
      omega
    · rw [if_neg hp, if_neg hp]
      exact ⟨q, h, by simp, by simp [ints]⟩
theorem read_put (s : ByteArray) : qread q0 (ints ((putOf s).drop 1)) 0 = (textOf s, (putOf s).length - 1, 1) := by
  obtain ⟨q, hr, ht, he⟩ := read_from s s.size 0 q0 [34] 0 ⟨rfl, rfl⟩
  have h1 : ints ((putOf s).drop 1) = ints (putFrom s s.size 0) ++ [34] := by simp [putOf, ints]
  have h34 : qstep q 34 = ({ q with a := 5 }, 1) := by
    unfold qstep amongS
    rw [if_pos hr.a, if_pos ⟨by rw [hr.l]; simp, rfl⟩]
  rw [h1, he]
  simp only [qread, h34, if_neg (show ¬ (1 : Int) = 0 by decide), if_pos]
  rw [ht]
  simp [q0, textOf, putOf]
/-- A text that is a row of signs. -/
def Enc (t : List UInt8) : Prop := ∃ rs : List Int, t = rs.flatMap encodeRune
theorem Enc.snoc {t : List UInt8} (h : Enc t) (r : Int) : Enc (t ++ encodeRune r) := by
  obtain ⟨rs, rfl⟩ := h
  exact ⟨rs ++ [r], by simp⟩
theorem letV_small : ∀ k : Fin 256, (letV ((k.val : Nat) : Int)).2 = true → encodeRune (letV ((k.val : Nat) : Int)).1 = [(letV ((k.val : Nat) : Int)).1.toNat.toUInt8] := by decide +kernel
theorem enc_step {q : QS} (h : Enc q.text) (c : Int) (h0 : 0 ≤ c) (h1 : c < 256) : Enc (qstep q c).1.text := by
  unfold qstep
  split
  · unfold amongS
    split
    · exact h
    split
    · exact h
    split
    · exact h
    unfold amongT
    split
    · exact h
    split
    · exact h
    · exact h.snoc _
  split
  · unfold slashS
    split
    · exact h
    split
    · exact h
    · rename_i _ hl
      have := letV_small ⟨c.toNat, by omega⟩
      simp only [show ((c.toNat : Nat) : Int) = c by omega] at this
      simp only
      rw [← this (by simpa using hl)]
      exact h.snoc _
  split
  · unfold digitS digitT
    repeat' split
    all_goals first | exact h | exact h.snoc _
  split
  · split <;> exact h
  split
  · split <;> exact h
  · exact h
theorem qread_tells : ∀ (l : List Int) (q : QS) (i : Nat), Enc q.text → (∀ c ∈ l, 0 ≤ c ∧ c < 256) → Enc (qread q l i).1 ∧ (qread q l i).2.1 ≤ i + l.length ∧ ((qread q l i).2.2 ≠ 1 → (qread q l i).1 = [])
  | [], q, i, h, _ => ⟨⟨[], rfl⟩, by simp [qread], fun _ => rfl⟩
  | c :: r, q, i, h, hl => by
    have hc := hl c (by simp)
    simp only [qread]
    split
    · have := qread_tells r (qstep q c).1 (i + 1) (enc_step h c hc.1 hc.2) (fun x hx => hl x (by simp [hx]))
      exact ⟨this.1, by have := this.2.1; simp only [List.length_cons]; omega, this.2.2⟩
    split
    · exact ⟨enc_step h c hc.1 hc.2, by simp only [List.length_cons]; omega, fun e => absurd rfl e⟩
    · exact ⟨⟨[], rfl⟩, by simp only [List.length_cons]; omega, fun _ => rfl⟩
theorem text_enc (s : ByteArray) : ∀ (f pos : Nat), Enc (textFrom s f pos)
  | 0, _ => ⟨[], rfl⟩
  | f + 1, pos => by
    unfold textFrom
    split
    · obtain ⟨rs, h⟩ := text_enc s f (pos + (Utf8.decode s pos).2)
      exact ⟨((Utf8.decode s pos).1 : Int) :: rs, by rw [h]; simp⟩
    · exact ⟨[], rfl⟩
end Go.Proofs.Ytlhpflicchchlaa.RB
