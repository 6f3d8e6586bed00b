/- Of any bytes, and any sizes, the chunks; together they are the bytes. Conditions: none. -/
import Derived.Test.YtjfoppmpiklfiaaPCursorCutsx3
import Derived.Test.YtjfoppmpiklfiaaCutsPure
namespace Go.Proofs.Ytjfoppmpiklfiaa.Pure
open Go.RowKit Go.Proofs.Ytjfoppmpiklfiaa.PCursorCuts Go.Proofs.YtjfoppmpiklfiaaW.PrintWords Go.Proofs.YtjfoppmpiklfiaaW.PrintLast Go.Proofs.Ytjfoppmpiklfiaa.CutsPure
theorem drop_step (b : List Int) (a : Nat) (h : a < b.length) (d : Nat) : [rd b (a : Int)] ++ (b.drop (a + 1)).take d = (b.drop a).take (d + 1) := by
  unfold rd
  rw [Int.toNat_natCast, List.getD_eq_getElem?_getD, List.getElem?_eq_getElem h]
  have e : b.drop a = b[a] :: b.drop (a + 1) := List.drop_eq_getElem_cons h
  rw [e, List.take_succ_cons]
  rfl
theorem ref_inner (b ss : List Int) (n i : Int) (s : Int) (hb : b.length ≤ 1000) : ∀ (d k : Nat) (out : List (List Int)) (a : Nat) (c : List Int) (j : Nat), a ≤ b.length → c.length ≤ a → j ≤ a → d = min (s.toNat - j) (b.length - a) → out.length < 1000 →
    riffleref03_Cut.l1 (k + 1 + d) b out (a : Int) s c (j : Int) ss n i = riffleref03_Cut.l0 k b (out ++ [c ++ (b.drop a).take d]) ((a + d : Nat) : Int) ss n (wrap64 (i + 1)) := by
  intro d
  induction d with
  | zero =>
    intro k out a c j ha hc hj hd ho
    simp only [Nat.add_zero, riffleref03_Cut.l1]
    by_cases h1 : (j : Int) < s
    · rw [if_pos h1, if_neg (by omega), if_pos (by omega)]
      simp
    · rw [if_neg h1, if_pos (by omega)]
      simp
  | succ d ih =>
    intro k out a c j ha hc hj hd ho
    rw [show k + 1 + (d + 1) = (k + 1 + d) + 1 from by omega]
    simp only [riffleref03_Cut.l1]
    have h1 : wrap64 ((a : Int) + 1) = ((a + 1 : Nat) : Int) := by unfold wrap64; omega
    have h2 : wrap64 ((j : Int) + 1) = ((j + 1 : Nat) : Int) := by unfold wrap64; omega
    rw [if_pos (by omega), if_pos (by omega), if_pos (by omega), if_pos (by omega), h1, h2, ih k out (a + 1) (c ++ [rd b (a : Int)]) (j + 1) (by omega) (by simp; omega) (by omega) (by omega) ho]
    rw [List.append_assoc, drop_step b a (by omega) d, show a + 1 + d = a + (d + 1) from by omega]
theorem ref_loop (b ss : List Int) (hb : b.length ≤ 1000) (hs : ss.length ≤ 200) : ∀ (d k : Nat) (out : List (List Int)) (a i : Nat), i + d = ss.length → a ≤ b.length → out.length ≤ i → 2 * d + (b.length - a) < k →
    riffleref03_Cut.l0 k b out (a : Int) ss (ss.length : Int) (i : Int) = some (out ++ cuts (b.drop a) (ss.drop i)) := by
  intro d
  induction d with
  | zero =>
    intro k out a i hi ha ho hk
    obtain ⟨k, rfl⟩ : ∃ m, k = m + 1 := ⟨k - 1, by omega⟩
    have e : ss.drop i = [] := List.drop_of_length_le (by omega)
    simp only [riffleref03_Cut.l0]
    rw [if_neg (by omega), e]
    unfold cuts
    have hl : (b.drop a).length = b.length - a := List.length_drop
    by_cases h : a < b.length
    · rw [if_pos (by omega), if_pos (by omega)]
      simp only [Option.bind_some]
      rw [if_pos (by omega), if_pos (by omega), Int.toNat_natCast, if_pos (by rw [hl]; simp; omega), if_pos (by omega)]
      simp
    · rw [if_neg (by omega), if_neg (by omega), List.append_nil]
  | succ d ih =>
    intro k out a i hi ha ho hk
    have hlt : i < ss.length := by omega
    have hrd : rd ss (i : Int) = ss[i] := by unfold rd; rw [Int.toNat_natCast, List.getD_eq_getElem?_getD, List.getElem?_eq_getElem hlt]; rfl
    have hw : wrap64 ((i : Int) + 1) = ((i + 1 : Nat) : Int) := by unfold wrap64; omega
    have hl : (b.drop a).length = b.length - a := List.length_drop
    obtain ⟨m, hm⟩ : ∃ m, m = min ((ss[i]).toNat - 0) (b.length - a) := ⟨_, rfl⟩
    have hmu : much ss[i] (b.drop a).length = m := by unfold much; omega
    obtain ⟨k, rfl⟩ : ∃ q, k = (q + 1 + m) + 1 := ⟨k - m - 2, by omega⟩
    simp only [riffleref03_Cut.l0]
    rw [if_pos (by omega), if_pos (by omega), if_pos (by omega), hrd]
    have hin := ref_inner b ss (ss.length : Int) (i : Int) ss[i] hb m k out a [] 0 ha (by simp) (by omega) hm (by omega)
    rw [show ((0 : Nat) : Int) = 0 from rfl] at hin
    rw [hin, hw, ih k _ (a + m) (i + 1) (by omega) (by omega) (by simp; omega) (by omega), List.drop_eq_getElem_cons hlt, cuts, hmu]
    simp [List.drop_drop]
theorem same_loop (l : List (List Int)) (hl : l.length ≤ 1000) : ∀ (d k i : Nat), i + d = l.length → d < k → riffleref03_Same.l0 k l l (l.length : Int) (i : Int) = some true := by
  intro d
  induction d with
  | zero =>
    intro k i hi hk
    obtain ⟨k, rfl⟩ : ∃ m, k = m + 1 := ⟨k - 1, by omega⟩
    simp only [riffleref03_Same.l0]
    rw [if_neg (by omega)]
  | succ d ih =>
    intro k i hi hk
    obtain ⟨k, rfl⟩ : ∃ m, k = m + 1 := ⟨k - 1, by omega⟩
    have hw : wrap64 ((i : Int) + 1) = ((i + 1 : Nat) : Int) := by unfold wrap64; omega
    simp only [riffleref03_Same.l0]
    rw [if_pos (by omega), if_pos (by omega), if_pos (by omega), if_pos (by omega), if_pos trivial, hw]
    exact ih k (i + 1) (by omega) (by omega)
theorem CursorCuts : rifflelaw03_CursorCuts.Pure := by
  intro b ss h1 h2 h3 h4 h5 h6
  refine ⟨3000, ?_⟩
  unfold rifflelaw03_CursorCuts.f rifflelaw03_cursorAlive.f
  simp only [Option.bind_some]
  rw [if_pos trivial]
  by_cases hb : (b.length : Int) > 1000
  · rw [if_pos hb]
    simp only [rifflelaw03_CursorCuts.j0]
    rfl
  · rw [if_neg hb]
    by_cases hs : (ss.length : Int) > 200
    · rw [decide_eq_true hs]
      simp only [rifflelaw03_CursorCuts.j0]
      rfl
    · rw [decide_eq_false hs]
      simp only [rifflelaw03_CursorCuts.j0]
      rw [if_neg (by decide), cut_f b ss (by omega) (by omega) 2999 (by omega)]
      simp only [Option.bind_some]
      have hr := ref_loop b ss (by omega) (by omega) ss.length 2999 [] 0 0 (by omega) (by omega) (by simp) (by omega)
      rw [show ((0 : Nat) : Int) = 0 from rfl] at hr
      unfold riffleref03_Cut.f
      rw [hr]
      have hcl := cuts_len ss b
      have hsm := same_loop (cuts b ss) (by omega) (cuts b ss).length 2999 0 (by omega) (by omega)
      rw [show ((0 : Nat) : Int) = 0 from rfl] at hsm
      simp only [Option.bind_some, List.nil_append, List.drop_zero]
      unfold riffleref03_Same.f
      rw [if_pos rfl, hsm]
      simp only [Option.bind_some]
      unfold cursor_Join.f slices_Concat_byte_byte.f
      rw [if_pos trivial, cuts_flat, if_pos (by omega)]
      simp
end Go.Proofs.Ytjfoppmpiklfiaa.Pure
