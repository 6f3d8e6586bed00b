/- How long a text's first sign is, and which number it has: the reference's answer and the decoder's are the same. Conditions: none. -/
import Derived.Test.YthfhefkacmepkaaDoorBeg
import Derived.Lib.DecodeN
import Derived.Lib.RuneBytes
namespace Go.Proofs.YthfhefkacmepkaaDoor.Beg
open Go.Lib
open Go.Proofs.YthfhefkacmepkaaDoor.Num (L L_len L_range)
set_option linter.unusedVariables false
set_option linter.unusedSimpArgs false
def lenGo (l : List Int) : Nat → Nat → Nat
  | 0, _ => 0
  | f + 1, i => if i ≤ l.length then (if (beg (l.take i)).1 = true then (if (beg (l.take i)).2.1 = true then i else lenGo l f (i + 1)) else 0) else 0
def lenOf (l : List Int) : Nat := lenGo l l.length 1
theorem go_end (l : List Int) (f i : Nat) (h : ¬ i ≤ l.length) : lenGo l f i = 0 := by cases f <;> simp [lenGo, h]
theorem go_bad (l : List Int) (f i : Nat) (h : (beg (l.take i)).1 = false) : lenGo l f i = 0 := by cases f <;> simp [lenGo, h]
theorem go_on (l : List Int) (f i : Nat) (h : i ≤ l.length) (h1 : beg (l.take i) = (true, false, 0)) : lenGo l (f + 1) i = lenGo l f (i + 1) := by simp [lenGo, h, h1]
theorem go_all (l : List Int) (f i : Nat) (a : Int) (h : i ≤ l.length) (h1 : beg (l.take i) = (true, true, a)) : lenGo l (f + 1) i = i := by simp [lenGo, h, h1]
/-- What is told of a sign of n bytes at most that begins with l. -/
def Same (l : List Int) (d : Nat × Nat) : Prop := (d = (65533, 1) ∧ lenOf l = 0) ∨ (d.2 = lenOf l ∧ 1 ≤ d.2 ∧ d.2 ≤ l.length ∧ encodeRuneZ d.1 = l.take d.2 ∧ (d.2 = 1 → (d.1 : Int) < 128) ∧ (d.2 ≠ 1 → 128 ≤ d.1))
theorem same_a (b0 : Nat) (q : List Int) (h : b0 < 128) (n b1 b2 b3 : Nat) : Same ((b0 : Int) :: q) (decodeN n b0 b1 b2 b3) := by
  have hd : decodeN n b0 b1 b2 b3 = (b0, 1) := by unfold decodeN; rw [if_pos h]
  rw [hd]
  have hb : beg [(b0 : Int)] = (true, true, (b0 : Int)) := by
    rw [beg_cons (b0 : Int) [] 1 (sz1 (by omega)) (by omega) (by simp) (by simp)]
    rw [judge_ok (by simp [fill, nm, least]; omega)]
    simp [fill, nm]
  refine .inr ⟨?_, by simp, by simp, ?_, by simp; omega, by simp⟩
  · show 1 = lenGo _ (q.length + 1) 1
    rw [go_all _ _ _ (b0 : Int) (by simp) (by simpa using hb)]
  · rw [encodeRuneZ_one (by simp) (by simp; omega)]; simp
theorem same_b (b0 : Nat) (q : List Int) (h : (128 ≤ b0 ∧ b0 < 192) ∨ 248 ≤ b0) (n b1 b2 b3 : Nat) (hb0 : b0 < 256) : Same ((b0 : Int) :: q) (decodeN n b0 b1 b2 b3) := by
  have hd : decodeN n b0 b1 b2 b3 = (65533, 1) := by
    unfold decodeN
    rw [if_neg (by omega), if_neg (by omega), if_neg (by omega), if_neg (by omega)]
  rw [hd]
  refine .inl ⟨rfl, ?_⟩
  exact go_bad _ _ _ (by simp [beg_0 (b0 : Int) [] (sz0 (by omega)), F])
theorem same_c (b0 b1 b2 b3 n : Nat) (q : List Int) (h : 192 ≤ b0 ∧ b0 < 224) (hn : n = q.length + 1) (h1 : q ≠ [] → q.head? = some (b1 : Int)) (hb1 : b1 < 256) : Same ((b0 : Int) :: q) (decodeN n b0 b1 b2 b3) := by
  have hbeg1 : 194 ≤ b0 → beg [(b0 : Int)] = (true, false, 0) := by
    intro h2
    rw [beg_cons (b0 : Int) [] 2 (sz2 (by omega)) (by omega) (by simp) (by simp), judge_ok (by simp [fill, nm, least]; omega)]
    simp
  have hbeg1n : b0 < 194 → beg [(b0 : Int)] = F := by
    intro h2
    rw [beg_cons (b0 : Int) [] 2 (sz2 (by omega)) (by omega) (by simp) (by simp), judge_bad (by simp [fill, nm, least]; omega)]
  have hd : decodeN n b0 b1 b2 b3 = if 1 < n ∧ b1 / 64 = 2 ∧ 194 ≤ b0 then (b0 % 32 * 64 + b1 % 64, 2) else (65533, 1) := by
    unfold decodeN
    rw [if_neg (by omega)]
    by_cases c : 1 < n ∧ b1 / 64 = 2
    · rw [if_pos (by omega)]
      by_cases c2 : 194 ≤ b0
      · rw [if_pos (by omega), if_pos (by omega)]
      · rw [if_neg (by omega), if_neg (by omega)]
    · rw [if_neg (by omega), if_neg (by omega), if_neg (by omega), if_neg (by omega)]
  rw [hd]
  by_cases g : 194 ≤ b0
  · cases q with
    | nil =>
      rw [if_neg (by simp at hn; omega)]
      refine .inl ⟨rfl, ?_⟩
      show lenGo _ 1 1 = 0
      rw [go_on _ _ _ (by simp) (by simpa using hbeg1 g), go_end _ _ _ (by simp)]
    | cons c1 q =>
      obtain rfl : c1 = (b1 : Int) := by simpa using h1
      have hr : lenOf ((b0 : Int) :: (b1 : Int) :: q) = lenGo ((b0 : Int) :: (b1 : Int) :: q) (q.length + 1) 2 := by
        show lenGo _ (q.length + 1 + 1) 1 = _
        rw [go_on _ _ _ (by simp) (by simpa using hbeg1 g)]
      unfold Same
      rw [hr]
      by_cases k : b1 / 64 = 2
      · rw [if_pos (by simp at hn; omega)]
        have hb2 : beg [(b0 : Int), (b1 : Int)] = (true, true, nm [(b0 : Int), (b1 : Int)]) := by
          rw [beg_cons (b0 : Int) [(b1 : Int)] 2 (sz2 (by omega)) (by omega) (by simp) (by simp [ct]; omega), judge_ok (by simp [fill, nm, least]; omega)]
          simp [fill]
        refine .inr ⟨?_, by simp, by simp, ?_, by simp, by intro; simp; omega⟩
        · rw [go_all _ _ _ _ (by simp) (by simpa using hb2)]
        · rw [encodeRuneZ_two (by simp; omega) (by simp; omega)]
          simp
          omega
      · rw [if_neg (by omega)]
        refine .inl ⟨rfl, ?_⟩
        exact go_bad _ _ _ (by simp [beg_ct (b0 : Int) [(b1 : Int)] (by simp [ct]; omega), F])
  · rw [if_neg (by omega)]
    exact .inl ⟨rfl, go_bad _ _ _ (by simp [hbeg1n (by omega), F])⟩
theorem same_d (b0 b1 b2 b3 n : Nat) (q : List Int) (h : 224 ≤ b0 ∧ b0 < 240) (hn : n = q.length + 1) (h1 : q[0]? = some (b1 : Int) ∨ q = []) (h2 : q[1]? = some (b2 : Int) ∨ q.length ≤ 1) (hb1 : b1 < 256) (hb2 : b2 < 256) : Same ((b0 : Int) :: q) (decodeN n b0 b1 b2 b3) := by
  have e1 : beg [(b0 : Int)] = (true, false, 0) := by
    rw [beg_cons (b0 : Int) [] 3 (sz3 (by omega)) (by omega) (by simp) (by simp), judge_ok (by simp [fill, nm, least, List.replicate]; omega)]
    simp
  have e2 : b1 / 64 = 2 → ¬ (b0 = 224 ∧ b1 < 160) → ¬ (b0 = 237 ∧ 160 ≤ b1) → beg [(b0 : Int), (b1 : Int)] = (true, false, 0) := by
    intro k1 k2 k3
    rw [beg_cons (b0 : Int) [(b1 : Int)] 3 (sz3 (by omega)) (by omega) (by simp) (by simp [ct]; omega), judge_ok (by simp [fill, nm, least, List.replicate]; omega)]
    simp
  have e2n : (b0 = 224 ∧ b1 < 160) ∨ (b0 = 237 ∧ 160 ≤ b1) → beg [(b0 : Int), (b1 : Int)] = F := by
    intro k
    by_cases k1 : b1 / 64 = 2
    · rw [beg_cons (b0 : Int) [(b1 : Int)] 3 (sz3 (by omega)) (by omega) (by simp) (by simp [ct]; omega), judge_bad (by simp [fill, nm, least, List.replicate]; omega)]
    · exact beg_ct (b0 : Int) [(b1 : Int)] (by simp [ct]; omega)
  have hd : decodeN n b0 b1 b2 b3 = if 2 < n ∧ b1 / 64 = 2 ∧ b2 / 64 = 2 ∧ ¬ (b0 = 224 ∧ b1 < 160) ∧ ¬ (b0 = 237 ∧ 160 ≤ b1) then (b0 % 16 * 4096 + b1 % 64 * 64 + b2 % 64, 3) else (65533, 1) := by
    unfold decodeN
    rw [if_neg (by omega), if_neg (by omega)]
    by_cases c : 2 < n ∧ b1 / 64 = 2 ∧ b2 / 64 = 2
    · rw [if_pos (by omega)]
      by_cases c2 : ¬ (b0 = 224 ∧ b1 < 160) ∧ ¬ (b0 = 237 ∧ 160 ≤ b1)
      · rw [if_pos (by omega), if_pos (by omega)]
      · rw [if_neg (by omega), if_neg (by omega)]
    · rw [if_neg (by omega), if_neg (by omega), if_neg (by omega)]
  rw [hd]
  match q, hn, h1, h2 with
  | [], hn, h1, h2 =>
    rw [if_neg (by simp at hn; omega)]
    refine .inl ⟨rfl, ?_⟩
    show lenGo _ 1 1 = 0
    rw [go_on _ _ _ (by simp) (by simpa using e1), go_end _ _ _ (by simp)]
  | [c1], hn, h1, h2 =>
    obtain rfl : c1 = (b1 : Int) := by simpa using h1
    rw [if_neg (by simp at hn; omega)]
    refine .inl ⟨rfl, ?_⟩
    show lenGo _ 2 1 = 0
    rw [go_on _ _ _ (by simp) (by simpa using e1)]
    by_cases k1 : b1 / 64 = 2
    · by_cases k2 : (b0 = 224 ∧ b1 < 160) ∨ (b0 = 237 ∧ 160 ≤ b1)
      · exact go_bad _ _ _ (by simp [e2n k2, F])
      · rw [go_on _ _ _ (by simp) (by simpa using e2 k1 (by omega) (by omega)), go_end _ _ _ (by simp)]
    · exact go_bad _ _ _ (by simp [beg_ct (b0 : Int) [(b1 : Int)] (by simp [ct]; omega), F])
  | c1 :: c2 :: q, hn, h1, h2 =>
    obtain rfl : c1 = (b1 : Int) := by simpa using h1
    obtain rfl : c2 = (b2 : Int) := by simpa using h2
    have hr : lenOf ((b0 : Int) :: (b1 : Int) :: (b2 : Int) :: q) = lenGo ((b0 : Int) :: (b1 : Int) :: (b2 : Int) :: q) (q.length + 2) 2 := by
      show lenGo _ (q.length + 2 + 1) 1 = _
      rw [go_on _ _ _ (by simp) (by simpa using e1)]
    unfold Same
    rw [hr]
    by_cases k1 : b1 / 64 = 2
    · by_cases k2 : (b0 = 224 ∧ b1 < 160) ∨ (b0 = 237 ∧ 160 ≤ b1)
      · rw [if_neg (by omega)]
        exact .inl ⟨rfl, go_bad _ _ _ (by simp [e2n k2, F])⟩
      · rw [go_on _ _ _ (by simp) (by simpa using e2 k1 (by omega) (by omega))]
        by_cases k3 : b2 / 64 = 2
        · rw [if_pos (by simp at hn; omega)]
          have hb3 : beg [(b0 : Int), (b1 : Int), (b2 : Int)] = (true, true, nm [(b0 : Int), (b1 : Int), (b2 : Int)]) := by
            rw [beg_cons (b0 : Int) [(b1 : Int), (b2 : Int)] 3 (sz3 (by omega)) (by omega) (by simp) (by simp [ct]; omega), judge_ok (by simp [fill, nm, least, List.replicate]; omega)]
            simp [fill]
          refine .inr ⟨?_, by simp, by simp, ?_, by simp, by intro; simp; omega⟩
          · rw [go_all _ _ _ _ (by simp) (by simpa using hb3)]
          · rw [encodeRuneZ_three (by simp; omega)]
            simp
            omega
        · rw [if_neg (by omega)]
          exact .inl ⟨rfl, go_bad _ _ _ (by simp [beg_ct (b0 : Int) [(b1 : Int), (b2 : Int)] (by simp [ct]; omega), F])⟩
    · rw [if_neg (by omega)]
      exact .inl ⟨rfl, go_bad _ _ _ (by simp [beg_ct (b0 : Int) [(b1 : Int)] (by simp [ct]; omega), F])⟩
theorem same_e (b0 b1 b2 b3 n : Nat) (q : List Int) (h : 240 ≤ b0 ∧ b0 < 248) (hn : n = q.length + 1) (h1 : q[0]? = some (b1 : Int) ∨ q = []) (h2 : q[1]? = some (b2 : Int) ∨ q.length ≤ 1) (h3 : q[2]? = some (b3 : Int) ∨ q.length ≤ 2) (hb1 : b1 < 256) (hb2 : b2 < 256) (hb3 : b3 < 256) : Same ((b0 : Int) :: q) (decodeN n b0 b1 b2 b3) := by
  have e1 : b0 < 245 → beg [(b0 : Int)] = (true, false, 0) := by
    intro k
    rw [beg_cons (b0 : Int) [] 4 (sz4 (by omega)) (by omega) (by simp) (by simp), judge_ok (by simp [fill, nm, least, List.replicate]; omega)]
    simp
  have e1n : 245 ≤ b0 → beg [(b0 : Int)] = F := by
    intro k
    rw [beg_cons (b0 : Int) [] 4 (sz4 (by omega)) (by omega) (by simp) (by simp), judge_bad (by simp [fill, nm, least, List.replicate]; omega)]
  have e2 : b1 / 64 = 2 → b0 < 245 → ¬ (b0 = 240 ∧ b1 < 144) → ¬ (b0 = 244 ∧ 144 ≤ b1) → beg [(b0 : Int), (b1 : Int)] = (true, false, 0) := by
    intro k1 k0 k2 k3
    rw [beg_cons (b0 : Int) [(b1 : Int)] 4 (sz4 (by omega)) (by omega) (by simp) (by simp [ct]; omega), judge_ok (by simp [fill, nm, least, List.replicate]; omega)]
    simp
  have e3 : b1 / 64 = 2 → b2 / 64 = 2 → b0 < 245 → ¬ (b0 = 240 ∧ b1 < 144) → ¬ (b0 = 244 ∧ 144 ≤ b1) → beg [(b0 : Int), (b1 : Int), (b2 : Int)] = (true, false, 0) := by
    intro k1 k4 k0 k2 k3
    rw [beg_cons (b0 : Int) [(b1 : Int), (b2 : Int)] 4 (sz4 (by omega)) (by omega) (by simp) (by simp [ct]; omega), judge_ok (by simp [fill, nm, least, List.replicate]; omega)]
    simp
  have e2n : (b0 = 240 ∧ b1 < 144) ∨ (b0 = 244 ∧ 144 ≤ b1) → beg [(b0 : Int), (b1 : Int)] = F := by
    intro k
    by_cases k1 : b1 / 64 = 2
    · rw [beg_cons (b0 : Int) [(b1 : Int)] 4 (sz4 (by omega)) (by omega) (by simp) (by simp [ct]; omega), judge_bad (by simp [fill, nm, least, List.replicate]; omega)]
    · exact beg_ct (b0 : Int) [(b1 : Int)] (by simp [ct]; omega)
  have hd : decodeN n b0 b1 b2 b3 = if 3 < n ∧ b1 / 64 = 2 ∧ b2 / 64 = 2 ∧ b3 / 64 = 2 ∧ b0 < 245 ∧ ¬ (b0 = 240 ∧ b1 < 144) ∧ ¬ (b0 = 244 ∧ 144 ≤ b1) then (b0 % 8 * 262144 + b1 % 64 * 4096 + b2 % 64 * 64 + b3 % 64, 4) else (65533, 1) := by
    unfold decodeN
    rw [if_neg (by omega), if_neg (by omega), if_neg (by omega)]
    by_cases c : 3 < n ∧ b1 / 64 = 2 ∧ b2 / 64 = 2 ∧ b3 / 64 = 2
    · rw [if_pos (by omega)]
      by_cases c2 : b0 < 245 ∧ ¬ (b0 = 240 ∧ b1 < 144) ∧ ¬ (b0 = 244 ∧ 144 ≤ b1)
      · rw [if_pos (by omega), if_pos (by omega)]
      · rw [if_neg (by omega), if_neg (by omega)]
    · rw [if_neg (by omega), if_neg (by omega)]
  rw [hd]
  by_cases k0 : b0 < 245
  · match q, hn, h1, h2, h3 with
    | [], hn, h1, h2, h3 =>
      rw [if_neg (by simp at hn; omega)]
      refine .inl ⟨rfl, ?_⟩
      show lenGo _ 1 1 = 0
      rw [go_on _ _ _ (by simp) (by simpa using e1 k0), go_end _ _ _ (by simp)]
    | [c1], hn, h1, h2, h3 =>
      obtain rfl : c1 = (b1 : Int) := by simpa using h1
      rw [if_neg (by simp at hn; omega)]
      refine .inl ⟨rfl, ?_⟩
      show lenGo _ 2 1 = 0
      rw [go_on _ _ _ (by simp) (by simpa using e1 k0)]
      by_cases k1 : b1 / 64 = 2
      · by_cases k2 : (b0 = 240 ∧ b1 < 144) ∨ (b0 = 244 ∧ 144 ≤ b1)
        · exact go_bad _ _ _ (by simp [e2n k2, F])
        · rw [go_on _ _ _ (by simp) (by simpa using e2 k1 k0 (by omega) (by omega)), go_end _ _ _ (by simp)]
      · exact go_bad _ _ _ (by simp [beg_ct (b0 : Int) [(b1 : Int)] (by simp [ct]; omega), F])
    | [c1, c2], hn, h1, h2, h3 =>
      obtain rfl : c1 = (b1 : Int) := by simpa using h1
      obtain rfl : c2 = (b2 : Int) := by simpa using h2
      rw [if_neg (by simp at hn; omega)]
      refine .inl ⟨rfl, ?_⟩
      show lenGo _ 3 1 = 0
      rw [go_on _ _ _ (by simp) (by simpa using e1 k0)]
      by_cases k1 : b1 / 64 = 2
      · by_cases k2 : (b0 = 240 ∧ b1 < 144) ∨ (b0 = 244 ∧ 144 ≤ b1)
        · exact go_bad _ _ _ (by simp [e2n k2, F])
        · rw [go_on _ _ _ (by simp) (by simpa using e2 k1 k0 (by omega) (by omega))]
          by_cases k3 : b2 / 64 = 2
          · rw [go_on _ _ _ (by simp) (by simpa using e3 k1 k3 k0 (by omega) (by omega)), go_end _ _ _ (by simp)]
          · exact go_bad _ _ _ (by simp [beg_ct (b0 : Int) [(b1 : Int), (b2 : Int)] (by simp [ct]; omega), F])
      · exact go_bad _ _ _ (by simp [beg_ct (b0 : Int) [(b1 : Int)] (by simp [ct]; omega), F])
    | c1 :: c2 :: c3 :: q, hn, h1, h2, h3 =>
      obtain rfl : c1 = (b1 : Int) := by simpa using h1
      obtain rfl : c2 = (b2 : Int) := by simpa using h2
      obtain rfl : c3 = (b3 : Int) := by simpa using h3
      have hr : lenOf ((b0 : Int) :: (b1 : Int) :: (b2 : Int) :: (b3 : Int) :: q) = lenGo ((b0 : Int) :: (b1 : Int) :: (b2 : Int) :: (b3 : Int) :: q) (q.length + 3) 2 := by
        show lenGo _ (q.length + 3 + 1) 1 = _
        rw [go_on _ _ _ (by simp) (by simpa using e1 k0)]
      unfold Same
      rw [hr]
      by_cases k1 : b1 / 64 = 2
      · by_cases k2 : (b0 = 240 ∧ b1 < 144) ∨ (b0 = 244 ∧ 144 ≤ b1)
        · rw [if_neg (by omega)]
          exact .inl ⟨rfl, go_bad _ _ _ (by simp [e2n k2, F])⟩
        · rw [go_on _ _ _ (by simp) (by simpa using e2 k1 k0 (by omega) (by omega))]
          by_cases k3 : b2 / 64 = 2
          · rw [go_on _ _ _ (by simp) (by simpa using e3 k1 k3 k0 (by omega) (by omega))]
            by_cases k4 : b3 / 64 = 2
            · rw [if_pos (by simp at hn; omega)]
              have hb4 : beg [(b0 : Int), (b1 : Int), (b2 : Int), (b3 : Int)] = (true, true, nm [(b0 : Int), (b1 : Int), (b2 : Int), (b3 : Int)]) := by
                rw [beg_cons (b0 : Int) [(b1 : Int), (b2 : Int), (b3 : Int)] 4 (sz4 (by omega)) (by omega) (by simp) (by simp [ct]; omega), judge_ok (by simp [fill, nm, least, List.replicate]; omega)]
                simp [fill]
              refine .inr ⟨?_, by simp, by simp, ?_, by simp, by intro; simp; omega⟩
              · rw [go_all _ _ _ _ (by simp) (by simpa using hb4)]
              · rw [encodeRuneZ_four (by simp; omega) (by simp; omega)]
                simp
                omega
            · rw [if_neg (by omega)]
              exact .inl ⟨rfl, go_bad _ _ _ (by simp [beg_ct (b0 : Int) [(b1 : Int), (b2 : Int), (b3 : Int)] (by simp [ct]; omega), F])⟩
          · rw [if_neg (by omega)]
            exact .inl ⟨rfl, go_bad _ _ _ (by simp [beg_ct (b0 : Int) [(b1 : Int), (b2 : Int)] (by simp [ct]; omega), F])⟩
      · rw [if_neg (by omega)]
        exact .inl ⟨rfl, go_bad _ _ _ (by simp [beg_ct (b0 : Int) [(b1 : Int)] (by simp [ct]; omega), F])⟩
  · rw [if_neg (by omega)]
    exact .inl ⟨rfl, go_bad _ _ _ (by simp [e1n (by omega), F])⟩
theorem get_L (s : ByteArray) (i : Nat) (h : i < s.size) : (L s)[i]? = some ((s.get! i).toNat : Int) := by
  have h' : i < s.data.size := h
  have : s.get! i = s[i] := by simp [ByteArray.get!, getElem!_pos, h]; rfl
  rw [this]
  simp [L]
  exact ⟨s[i], by rw [Array.getElem?_eq_getElem h']; rfl, rfl⟩
theorem same (s : ByteArray) (pos : Nat) (h : pos < s.size) : Same ((L s).drop pos) (Utf8.decode s pos) := by
  have hlt : pos < (L s).length := by rw [L_len]; exact h
  have g0 := get_L s pos h
  have hc : (L s).drop pos = ((s.get! pos).toNat : Int) :: (L s).drop (pos + 1) := by
    rw [List.drop_eq_getElem_cons hlt]
    congr 1
    rw [List.getElem?_eq_getElem hlt] at g0
    exact Option.some.inj g0
  have gk : ∀ j, ((L s).drop (pos + 1))[j]? = some ((s.get! (pos + (j + 1))).toNat : Int) ∨ ((L s).drop (pos + 1)).length ≤ j := by
    intro j
    by_cases hj : pos + (j + 1) < s.size
    · left; rw [List.getElem?_drop, show pos + 1 + j = pos + (j + 1) by omega]; exact get_L s _ hj
    · right; rw [List.length_drop, L_len]; omega
  have hlen : s.size - pos = ((L s).drop (pos + 1)).length + 1 := by rw [List.length_drop, L_len]; omega
  rw [decode_at, hc]
  have q0 := (s.get! pos).toNat_lt
  have q1 := (s.get! (pos + 1)).toNat_lt
  have q2 := (s.get! (pos + 2)).toNat_lt
  have q3 := (s.get! (pos + 3)).toNat_lt
  have g1 := gk 0
  have g2 := gk 1
  have g3 := gk 2
  simp only [Nat.zero_add] at g1 g2 g3
  generalize (s.get! pos).toNat = b0 at *
  generalize (s.get! (pos + 1)).toNat = b1 at *
  generalize (s.get! (pos + 2)).toNat = b2 at *
  generalize (s.get! (pos + 3)).toNat = b3 at *
  generalize (L s).drop (pos + 1) = q at *
  generalize s.size - pos = n at *
  have g1' : q[0]? = some (b1 : Int) ∨ q = [] := g1.imp id (fun h => List.length_eq_zero_iff.1 (by omega))
  by_cases k1 : b0 < 128
  · exact same_a b0 q k1 _ _ _ _
  by_cases k2 : b0 < 192 ∨ 248 ≤ b0
  · exact same_b b0 q (by omega) _ _ _ _ q0
  by_cases k3 : b0 < 224
  · exact same_c b0 b1 b2 b3 n q (by omega) hlen (fun hq => by rcases g1' with g | g; · rw [List.head?_eq_getElem?]; exact g
                                                               · exact absurd g hq) q1
  by_cases k4 : b0 < 240
  · exact same_d b0 b1 b2 b3 n q (by omega) hlen g1' g2 q1 q2
  · exact same_e b0 b1 b2 b3 n q (by omega) hlen g1' g2 g3 q1 q2 q3
end Go.Proofs.YthfhefkacmepkaaDoor.Beg
