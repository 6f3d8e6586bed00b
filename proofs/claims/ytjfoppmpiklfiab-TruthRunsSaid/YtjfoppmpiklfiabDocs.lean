/- Things that may be true, plainly: the document's values are the book's. Conditions: none. -/
import Derived.Test.YtjfoppmpiklfiabPTruthRunsx2
import Derived.Test.YtjfoppmpiklfiabStays
namespace Go.Proofs.Ytjfoppmpiklfiab.Truth
open Go.RowKit Go.Proofs.YtjfoppmpiklfiabW.PrintWords Go.Proofs.YtjfoppmpiklfiabW.PrintLast Go.Proofs.Ytjfoppmpiklfiab.PTruthRuns
set_option linter.unusedVariables false
set_option linter.unusedSimpArgs false
def pv (vals : List Int) (x : Int) : Int := if 0 ≤ x then (if x < vals.length then rd vals x else 2) else 2
def cnt (vals : List Int) (v : Int) (l : List Int) : Nat := l.countP (fun x => pv vals x == v)
theorem cnt_le (vals : List Int) (v : Int) (l : List Int) : cnt vals v l ≤ l.length := List.countP_le_length
theorem count_loop (vals of_ : List Int) (v : Int) (hl : of_.length < 1000) : ∀ (d k n i : Nat), i + d = of_.length → n ≤ i → 2 * d < k → riffleref18_count.l0 k vals v (n : Int) of_ (of_.length : Int) (i : Int) = some ((n + cnt vals v (of_.drop i) : Nat) : Int) := by
  intro d
  induction d with
  | zero =>
    intro k n i hi hn hk
    obtain ⟨k, rfl⟩ : ∃ m, k = m + 1 := ⟨k - 1, by omega⟩
    simp only [riffleref18_count.l0]
    rw [if_neg (by omega), List.drop_of_length_le (by omega)]
    rfl
  | succ d ih =>
    intro k n i hi hn hk
    obtain ⟨k, rfl⟩ : ∃ m, k = m + 2 := ⟨k - 2, by omega⟩
    have hlt : i < of_.length := by omega
    have hdr : of_.drop i = rd of_ (i : Int) :: of_.drop (i + 1) := by
      unfold rd
      rw [Int.toNat_natCast, List.getD_eq_getElem?_getD, List.getElem?_eq_getElem hlt]
      exact List.drop_eq_getElem_cons hlt
    have h1 : wrap64 ((i : Int) + 1) = ((i + 1 : Nat) : Int) := by unfold wrap64; omega
    have h2 : wrap64 ((n : Int) + 1) = ((n + 1 : Nat) : Int) := by unfold wrap64; omega
    have hc : cnt vals v (of_.drop i) = cnt vals v (of_.drop (i + 1)) + (if pv vals (rd of_ (i : Int)) = v then 1 else 0) := by
      rw [hdr]
      unfold cnt
      rw [List.countP_cons]
      congr 1
      simp
    generalize hx : rd of_ (i : Int) = x at *
    rw [hc]
    have A := ih k n (i + 1) (by omega) (by omega) (by omega)
    have B := ih k (n + 1) (i + 1) (by omega) (by omega) (by omega)
    simp only [riffleref18_count.l0]
    rw [if_pos (by omega), if_pos (by omega), if_pos (by omega), hx]
    unfold pv
    by_cases h0 : 0 ≤ x
    · rw [if_pos (by omega), if_pos h0]
      by_cases h3 : x < (vals.length : Int)
      · rw [decide_eq_true h3, if_pos h3]
        simp only [riffleref18_count.j1]
        rw [if_pos trivial, if_pos h0, if_pos h3, h1, h2]
        by_cases h4 : rd vals x = v
        · rw [if_pos h4, if_pos h4, B]; congr 2; omega
        · rw [if_neg h4, if_neg h4, A]; rfl
      · rw [decide_eq_false h3, if_neg h3]
        simp only [riffleref18_count.j1]
        rw [if_neg (by decide), h1, h2]
        by_cases h4 : (2 : Int) = v
        · rw [if_pos h4, if_pos h4, B]; congr 2; omega
        · rw [if_neg h4, if_neg h4, A]; rfl
    · rw [if_neg (by omega), if_neg h0]
      simp only [riffleref18_count.j1]
      rw [if_neg (by decide), h1, h2]
      by_cases h4 : (2 : Int) = v
      · rw [if_pos h4, if_pos h4, B]; congr 2; omega
      · rw [if_neg h4, if_neg h4, A]; rfl
theorem count_f (vals of_ : List Int) (v : Int) (hl : of_.length < 1000) (k : Nat) (hk : 2000 ≤ k) : riffleref18_count.f k vals of_ v = some ((cnt vals v of_ : Nat) : Int) := by
  have := count_loop vals of_ v hl of_.length k 0 0 (by omega) (by omega) (by omega)
  simpa [riffleref18_count.f] using this
def low (out : List Int) (t : S51) : Prop := t.f0 = 0 ∨ (t.f0 = 3 ∧ 0 < cnt out 2 t.f1) ∨ (t.f0 = 4 ∧ cnt out 2 t.f1 = t.f1.length)
def high (out : List Int) (t : S51) : Prop := t.f0 = 1 ∨ (t.f0 = 3 ∧ cnt out 1 t.f1 = t.f1.length) ∨ (t.f0 = 4 ∧ 0 < cnt out 1 t.f1)
instance (out : List Int) (t : S51) : Decidable (low out t) := by unfold low; infer_instance
instance (out : List Int) (t : S51) : Decidable (high out t) := by unfold high; infer_instance
def valueOf (out : List Int) (t : S51) : Int := if t.f0 = 2 then t.f2 else if high out t then 1 else if low out t then 2 else 0
def values (out : List Int) : List S51 → List Int
  | [] => out
  | t :: l => values (out ++ [valueOf out t]) l
theorem values_loop (l : List S51) (hl : l.length < 1000) (ho : ∀ t ∈ l, t.f1.length < 1000) : ∀ (d k : Nat) (out : List Int) (i : Nat), i + d = l.length → out.length ≤ i → 4 * d + 3000 < k →
    riffleref18_Values.l0 k out l (l.length : Int) (i : Int) = some (values out (l.drop i)) := by
  intro d
  induction d with
  | zero =>
    intro k out i hi hn hk
    obtain ⟨k, rfl⟩ : ∃ m, k = m + 1 := ⟨k - 1, by omega⟩
    simp only [riffleref18_Values.l0]
    rw [if_neg (by omega), List.drop_of_length_le (by omega)]
    rfl
  | succ d ih =>
    intro k out i hi hn hk
    obtain ⟨k, rfl⟩ : ∃ m, k = m + 4 := ⟨k - 4, by omega⟩
    have hlt : i < l.length := by omega
    have h1 : wrap64 ((i : Int) + 1) = ((i + 1 : Nat) : Int) := by unfold wrap64; omega
    have hdr : l.drop i = rd_T51 l (i : Int) :: l.drop (i + 1) := by
      unfold rd_T51
      rw [Int.toNat_natCast, List.getD_eq_getElem?_getD, List.getElem?_eq_getElem hlt]
      exact List.drop_eq_getElem_cons hlt
    have hm : rd_T51 l (i : Int) ∈ l := by
      have : rd_T51 l (i : Int) ∈ l.drop i := by rw [hdr]; exact List.mem_cons_self
      exact List.mem_of_mem_drop this
    have hol := ho _ hm
    rw [hdr]
    generalize hx : rd_T51 l (i : Int) = t at *
    have A := ih k (out ++ [valueOf out t]) (i + 1) (by omega) (by simp; omega) (by omega)
    have c1 := count_f out t.f1 1 hol (k + 3) (by omega)
    have c2 := count_f out t.f1 2 hol (k + 3) (by omega)
    show _ = some (values (out ++ [valueOf out t]) (l.drop (i + 1)))
    rw [← A]
    have j3 : ∀ (b : Bool) (v6 : Int), riffleref18_Values.j3 (k + 1) out v6 l (l.length : Int) (i : Int) b t.f0 t.f1 t.f2 = riffleref18_Values.l0 k (out ++ [if t.f0 = 2 then t.f2 else if b = true then 1 else v6]) l (l.length : Int) ((i + 1 : Nat) : Int) := by
      intro b v6
      have ho2 : out.length < 17592186044416 := by omega
      simp only [riffleref18_Values.j3, if_pos ho2, h1]
      cases b <;> by_cases h2 : t.f0 = 2 <;> simp [h2]
    have j2 : ∀ (v6 : Int), riffleref18_Values.j2 (k + 2) out v6 ((cnt out 1 t.f1 : Nat) : Int) l (l.length : Int) (i : Int) t.f0 t.f1 t.f2 = riffleref18_Values.l0 k (out ++ [if t.f0 = 2 then t.f2 else if high out t then 1 else v6]) l (l.length : Int) ((i + 1 : Nat) : Int) := by
      intro v6
      have e : ∀ b : Bool, (b = true ↔ high out t) → riffleref18_Values.j3 (k + 1) out v6 l (l.length : Int) (i : Int) b t.f0 t.f1 t.f2 = riffleref18_Values.l0 k (out ++ [if t.f0 = 2 then t.f2 else if high out t then 1 else v6]) l (l.length : Int) ((i + 1 : Nat) : Int) := by
        intro b hb
        rw [j3]
        by_cases h : high out t
        · rw [hb.2 h]; simp [h]
        · have : b = false := by cases b with | false => rfl | true => exact absurd (hb.1 rfl) h
          rw [this]; simp [h]
      simp only [riffleref18_Values.j2]
      by_cases a1 : t.f0 = 1
      · rw [if_pos a1]; exact e true (by unfold high; simp [a1])
      · rw [if_neg a1]
        by_cases a3 : t.f0 = 3
        · rw [if_pos a3]
          by_cases a5 : ((cnt out 1 t.f1 : Nat) : Int) = (t.f1.length : Int)
          · rw [if_pos a5]; exact e true (by unfold high; simp [a3]; omega)
          · rw [if_neg a5, if_neg (by omega)]; exact e false (by unfold high; simp [a3]; omega)
        · rw [if_neg a3]
          by_cases a4 : t.f0 = 4
          · rw [if_pos a4]; exact e _ (by unfold high; simp [a4])
          · rw [if_neg a4]; exact e false (by unfold high; simp [a1, a3, a4])
    have j1 : ∀ b : Bool, (b = true ↔ low out t) → riffleref18_Values.j1 (k + 3) out 0 ((cnt out 1 t.f1 : Nat) : Int) l (l.length : Int) (i : Int) b t.f0 t.f1 t.f2 = riffleref18_Values.l0 k (out ++ [valueOf out t]) l (l.length : Int) ((i + 1 : Nat) : Int) := by
      intro b hb
      simp only [riffleref18_Values.j1]
      unfold valueOf
      by_cases h : low out t
      · rw [hb.2 h, if_pos rfl, j2, if_pos h]
      · have : b = false := by cases b with | false => rfl | true => exact absurd (hb.1 rfl) h
        rw [this, if_neg (by decide), j2, if_neg h]
    simp only [riffleref18_Values.l0]
    rw [if_pos (by omega), if_pos (by omega), if_pos (by omega), hx, c1]
    simp only [Option.bind_some]
    rw [c2]
    simp only [Option.bind_some]
    by_cases a0 : t.f0 = 0
    · rw [if_pos a0]; exact j1 true (by unfold low; simp [a0])
    · rw [if_neg a0]
      by_cases a3 : t.f0 = 3
      · rw [if_pos a3]
        by_cases a5 : ((cnt out 2 t.f1 : Nat) : Int) > 0
        · rw [if_pos a5]; exact j1 true (by unfold low; simp [a3]; omega)
        · rw [if_neg a5, if_neg (by omega)]; exact j1 false (by unfold low; simp [a3]; omega)
      · rw [if_neg a3]
        by_cases a4 : t.f0 = 4
        · rw [if_pos a4]; exact j1 _ (by unfold low; simp [a4]; omega)
        · rw [if_neg a4]; exact j1 false (by unfold low; simp [a0, a3, a4])
theorem values_f (l : List S51) (hl : l.length < 1000) (ho : ∀ t ∈ l, t.f1.length < 1000) : riffleref18_Values.f 10000 l = some (values [] l) := by
  have := values_loop l hl ho l.length 10000 [] 0 (by omega) (by simp) (by omega)
  simpa [riffleref18_Values.f] using this
end Go.Proofs.Ytjfoppmpiklfiab.Truth
