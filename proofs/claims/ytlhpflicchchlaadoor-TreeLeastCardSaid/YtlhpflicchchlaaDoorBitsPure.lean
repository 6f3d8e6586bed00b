/- Bits in words, plainly: what pushing, popping and asking a bit are on the words. Conditions: none. -/
import Derived.Laws.Bits64b
import Derived.RowKit3
import Derived.Laws.BitsLemmas
namespace Go.Proofs.YtlhpflicchchlaaDoor.BitsW
open Go.RowKit

/-- A chunk's number. -/
def num : List Bool → Nat
  | [] => 0
  | b :: r => (if b then 1 else 0) + 2 * num r
theorem num_lt : ∀ c : List Bool, num c < 2 ^ c.length
  | [] => by simp [num]
  | b :: r => by
    have := num_lt r
    simp only [num, List.length_cons, Nat.pow_succ]
    split <;> omega
theorem num_bit : ∀ (c : List Bool) (r : Nat) (b : Bool), c[r]? = some b → num c / 2 ^ r % 2 = if b then 1 else 0
  | [], r, b, h => by simp at h
  | a :: c, 0, b, h => by
    simp at h; subst h
    simp only [num, Nat.pow_zero, Nat.div_one]
    split <;> omega
  | a :: c, r + 1, b, h => by
    simp at h
    rw [← num_bit c r b h]
    have e : ((if a then 1 else 0) + 2 * num c) / 2 = num c := by split <;> omega
    simp only [num]
    rw [Nat.pow_succ', ← Nat.div_div_eq_div_mul, e]
theorem num_snoc : ∀ (c : List Bool) (b : Bool), num (c ++ [b]) = num c + (if b then 2 ^ c.length else 0)
  | [], b => by cases b <;> simp [num]
  | a :: c, b => by
    simp only [List.cons_append, num, num_snoc c b, List.length_cons, Nat.pow_succ]
    split <;> split <;> omega
theorem pow64 {k : Nat} (h : k < 64) : 2 ^ k < 18446744073709551616 := by
  have : 2 ^ k < 2 ^ 64 := Nat.pow_lt_pow_right (by omega) h
  omega
theorem num64 {c : List Bool} (h : c.length ≤ 64) : num c < 18446744073709551616 := by
  have h1 := num_lt c
  have : 2 ^ c.length ≤ 2 ^ 64 := Nat.pow_le_pow_right (by omega) h
  omega
/-- Or-ing a bit above all. -/
theorem or_bit (c : List Bool) (h : c.length < 64) : bits .or .u64 (num c : Int) (2 ^ c.length : Int) = (num (c ++ [true]) : Int) := by
  have h1 := num_lt c
  rw [show ((2 : Int) ^ c.length) = ((2 ^ c.length : Nat) : Int) by simp]
  rw [bits_or_u64_nat _ _ (num64 (by omega)) (pow64 h), num_snoc]
  have := Nat.two_pow_add_eq_or_of_lt h1 1
  rw [Nat.mul_one] at this
  rw [Nat.or_comm, ← this, if_pos rfl, Nat.add_comm]
theorem andNot_bit (c : List Bool) (b : Bool) (h : c.length < 64) : bits .andNot .u64 (num (c ++ [b]) : Int) (2 ^ c.length : Int) = (num c : Int) := by
  have h1 := num_lt c
  have h2 : num (c ++ [b]) < 18446744073709551616 := num64 (by simp; omega)
  have key : (BitVec.ofInt 64 (num (c ++ [b]) : Int) &&& ~~~(BitVec.ofInt 64 (2 ^ c.length : Int))) = BitVec.ofNat 64 (num c) := by
    rw [show ((2 : Int) ^ c.length) = ((2 ^ c.length : Nat) : Int) by simp]
    rw [BitVec.ofInt_natCast, BitVec.ofInt_natCast]
    apply BitVec.eq_of_getLsbD_eq
    intro i hi
    rw [BitVec.getLsbD_and, BitVec.getLsbD_not, BitVec.getLsbD_ofNat, BitVec.getLsbD_ofNat, BitVec.getLsbD_ofNat]
    simp only [hi, decide_true, Bool.true_and]
    rw [Nat.testBit_two_pow]
    have hz : (num c).testBit c.length = false := Nat.testBit_lt_two_pow h1
    by_cases hic : c.length = i
    · subst hic; simp [hz]
    · simp only [hic, decide_false, Bool.not_false, Bool.and_true]
      rw [num_snoc]
      cases b with
      | false => simp
      | true =>
        have := Nat.two_pow_add_eq_or_of_lt h1 1
        rw [Nat.mul_one] at this
        simp only [if_true]
        rw [Nat.add_comm, this, Nat.testBit_or, Nat.testBit_two_pow]
        simp [hic]
  show IntKind.u64.wrap ((BitVec.ofInt 64 (num (c ++ [b]) : Int) &&& ~~~(BitVec.ofInt 64 (2 ^ c.length : Int))).toNat : Int) = _
  rw [key, BitVec.toNat_ofNat]
  have h3 := num64 (c := c) (by omega)
  rw [Nat.mod_eq_of_lt (by omega)]
  simp [IntKind.wrap, IntKind.bits, IntKind.signed]
  omega
theorem and_bit (c : List Bool) (r : Nat) (b : Bool) (hc : c.length ≤ 64) (h : c[r]? = some b) : (bits .and .u64 ((num c : Int) / 2 ^ r) 1 == 1) = b := by
  have e : ((num c : Int) / 2 ^ r) = ((num c / 2 ^ r : Nat) : Int) := by simp
  have h2 : num c / 2 ^ r < 18446744073709551616 := Nat.lt_of_le_of_lt (Nat.div_le_self _ _) (num64 hc)
  rw [e, show (1 : Int) = ((1 : Nat) : Int) by rfl, bits_and_u64_nat _ _ h2 (by omega), Nat.and_one_is_mod, num_bit c r b h]
  cases b <;> simp

/-! ### words -/
def chunk (l : List Bool) (j : Nat) : List Bool := (l.drop (64 * j)).take 64
theorem chunk_len (l : List Bool) (j : Nat) : (chunk l j).length ≤ 64 := by simp [chunk]; omega
theorem chunk_at (l : List Bool) (j r : Nat) (h : r < 64) : (chunk l j)[r]? = l[64 * j + r]? := by
  simp [chunk, h]
def pk (m : Nat) (l : List Bool) : List Int := (List.range m).map fun j => (num (chunk l j) : Int)
theorem pk_len (m : Nat) (l : List Bool) : (pk m l).length = m := by simp [pk]
theorem pk_at {m j : Nat} (l : List Bool) (h : j < m) : (pk m l)[j]? = some (num (chunk l j) : Int) := by simp [pk, h]
theorem chunk_same (l : List Bool) (b : Bool) (j : Nat) (h : j < l.length / 64) : chunk (l ++ [b]) j = chunk l j := by
  unfold chunk
  rw [List.drop_append_of_le_length (by omega), List.take_append_of_le_length (by rw [List.length_drop]; omega)]
theorem chunk_snoc (l : List Bool) (b : Bool) : chunk (l ++ [b]) (l.length / 64) = chunk l (l.length / 64) ++ [b] := by
  unfold chunk
  rw [List.drop_append_of_le_length (by omega), List.take_of_length_le (by simp; omega), List.take_of_length_le (by simp; omega)]
theorem chunk_last_len (l : List Bool) : (chunk l (l.length / 64)).length = l.length % 64 := by simp [chunk]; omega
theorem pk_set (l : List Bool) (b : Bool) : (pk (l.length / 64 + 1) l).set (l.length / 64) (num (chunk l (l.length / 64) ++ [b]) : Int) = pk (l.length / 64 + 1) (l ++ [b]) := by
  apply List.ext_getElem?
  intro i
  rw [List.getElem?_set]
  by_cases h : l.length / 64 = i
  · subst h
    rw [if_pos rfl, pk_len, if_pos (by omega), pk_at _ (by omega), chunk_snoc]
  · rw [if_neg h]
    by_cases h2 : i < l.length / 64 + 1
    · rw [pk_at _ h2, pk_at _ h2, chunk_same l b i (by omega)]
    · rw [List.getElem?_eq_none (by rw [pk_len]; omega), List.getElem?_eq_none (by rw [pk_len]; omega)]
theorem pk_unset (l : List Bool) (b : Bool) : (pk (l.length / 64 + 1) (l ++ [b])).set (l.length / 64) (num (chunk l (l.length / 64)) : Int) = pk (l.length / 64 + 1) l := by
  apply List.ext_getElem?
  intro i
  rw [List.getElem?_set]
  by_cases h : l.length / 64 = i
  · subst h
    rw [if_pos rfl, pk_len, if_pos (by omega), pk_at _ (by omega)]
  · rw [if_neg h]
    by_cases h2 : i < l.length / 64 + 1
    · rw [pk_at _ h2, pk_at _ h2, chunk_same l b i (by omega)]
    · rw [List.getElem?_eq_none (by rw [pk_len]; omega), List.getElem?_eq_none (by rw [pk_len]; omega)]
theorem pk_false (l : List Bool) : pk (l.length / 64 + 1) (l ++ [false]) = pk (l.length / 64 + 1) l := by
  apply List.ext_getElem?
  intro i
  by_cases h2 : i < l.length / 64 + 1
  · rw [pk_at _ h2, pk_at _ h2]
    by_cases h : i < l.length / 64
    · rw [chunk_same l _ i h]
    · obtain rfl : i = l.length / 64 := by omega
      rw [chunk_snoc, num_snoc]; simp
  · rw [List.getElem?_eq_none (by rw [pk_len]; omega), List.getElem?_eq_none (by rw [pk_len]; omega)]
theorem chunk_nil (l : List Bool) (h : l.length % 64 = 0) : chunk l (l.length / 64) = [] := List.eq_nil_of_length_eq_zero (by rw [chunk_last_len, h])
theorem pk_more (l : List Bool) (h : l.length % 64 = 0) : pk (l.length / 64) l ++ [0] = pk (l.length / 64 + 1) l := by
  unfold pk
  rw [List.range_succ, List.map_append]
  simp [chunk_nil l h, num]
theorem pk_take (q : Nat) (l : List Bool) : (pk (q + 1) l).take q = pk q l := by
  unfold pk
  rw [List.range_succ, List.map_append, List.take_left' (by simp)]
/-- How many words so many bits take. -/
def mw (n : Nat) : Nat := (n + 63) / 64
end Go.Proofs.YtlhpflicchchlaaDoor.BitsW
