/- Things that may be true, plainly: a variable is set; what can't be set. Conditions: none. -/
import Derived.Test.YtjfoppmpiklfiabDocs2
import Derived.Test.YtjfoppmpiklfiabBookG
namespace Go.Proofs.Ytjfoppmpiklfiab.Truth
open Go.RowKit Go.Proofs.YtjfoppmpiklfiabW.PrintWords Go.Proofs.YtjfoppmpiklfiabW.PrintLast Go.Proofs.Ytjfoppmpiklfiab.PTruthRuns Go.Proofs.Ytjfoppmpiklfiab.BookW
set_option linter.unusedVariables false
set_option linter.unusedSimpArgs false
theorem getD_set {α : Type} (l : List α) (i j : Nat) (t d : α) (hi : i < l.length) : (l.set i t).getD j d = if i = j then t else l.getD j d := by
  rw [List.getD_eq_getElem?_getD, List.getElem?_set, List.getD_eq_getElem?_getD]
  by_cases h : i = j
  · rw [if_pos h, if_pos h, if_pos hi]; rfl
  · rw [if_neg h, if_neg h]
/-- A thing that is a variable, and isn't known. -/
theorem Doc.free {L : List T} {ids : List Int} {l : List S51} (h : Doc L ids l) {i : Nat} (hi : i < l.length) (h2 : (l.getD i z51).f0 = 2) (h0 : (l.getD i z51).f2 = 0) : (gT L (ids.getD i 0).toNat).made = 1 := by
  rcases h.each i hi with ⟨k0, _⟩ | ⟨k0, _⟩ | ⟨_, hv⟩ | ⟨k0, _⟩ | ⟨k0, _⟩
  · rw [h2] at k0; cases k0
  · rw [h2] at k0; cases k0
  · rcases hv with ⟨a, _⟩ | ⟨_, b, _⟩
    · exact a
    · exact absurd h0 b
  · rw [h2] at k0; cases k0
  · rw [h2] at k0; cases k0
theorem Doc.bound_ {L : List T} {ids : List Int} {l : List S51} (h : Doc L ids l) {i : Nat} (hi : i < l.length) (h2 : (l.getD i z51).f0 = 2) (h0 : (l.getD i z51).f2 ≠ 0) : canSet L (ids.getD i 0) = false := by
  have hm : (gT L (ids.getD i 0).toNat).made = 0 := by
    rcases h.each i hi with ⟨k0, _⟩ | ⟨k0, _⟩ | ⟨_, hv⟩ | ⟨k0, _⟩ | ⟨k0, _⟩
    · rw [h2] at k0; cases k0
    · rw [h2] at k0; cases k0
    · rcases hv with ⟨_, b⟩ | ⟨a, _⟩
      · exact absurd b h0
      · exact a
    · rw [h2] at k0; cases k0
    · rw [h2] at k0; cases k0
  unfold canSet
  rw [hm]
  simp
theorem Doc.set_ {L : List T} {ids : List Int} {l : List S51} (h : Doc L ids l) {i : Nat} (hi : i < l.length) (h2 : (l.getD i z51).f0 = 2) (h0 : (l.getD i z51).f2 = 0) (yes : Bool) :
    ∃ L', prop (L.length + 2) (Truth.start L (ids.getD i 0).toNat yes) [(ids.getD i 0).toNat] = some L' ∧ L'.length = L.length ∧ Doc L' ids (l.set i ⟨(l.getD i z51).f0, (l.getD i z51).f1, if yes then 1 else 2⟩) := by
  have hid := h.id hi
  have hm := h.free hi h2 h0
  obtain ⟨L', hp, hinv, hs, m0, v0, hlen⟩ := set_inv h.inv (x := (ids.getD i 0).toNat) (by omega) hm yes (L.length + 2) (by omega)
  refine ⟨L', hp, hlen, hinv, by rw [List.length_set]; exact h.len, by rw [List.length_set]; exact h.some_, fun x hx => by rw [hlen]; exact h.hids x hx, fun j hj => ?_, fun j k hjk hk k1 k2 => ?_⟩
  · rw [List.length_set] at hj
    rw [getD_set l i j _ _ hi]
    by_cases e : i = j
    · subst e
      rw [if_pos rfl]
      refine .inr (.inr (.inl ⟨h2, .inr ⟨m0, ?_, ?_⟩⟩))
      · cases yes <;> simp
      · rw [valT_in hid.1 (by omega), v0]
        cases yes <;> rfl
    · rw [if_neg e]
      refine One.step h hs (fun k hk => by have : (gT L k).made = 1 := by (rw [hk]; exact hm)
                                           omega) hj (fun hk he => ?_)
      have hid2 := h.id hj
      rcases Nat.lt_or_gt_of_ne e with e | e
      · exact h.apart i j e hj h2 hk (by omega)
      · exact h.apart j i e hi hk h2 (by omega)
  · rw [List.length_set] at hk
    have f (j : Nat) : ((l.set i ⟨(l.getD i z51).f0, (l.getD i z51).f1, if yes then 1 else 2⟩).getD j z51).f0 = (l.getD j z51).f0 := by
      rw [getD_set l i j _ _ hi]
      split
      · rename_i e; rw [← e]
      · rfl
    rw [f] at k1 k2
    exact h.apart j k hjk hk k1 k2
theorem newL_doc : Doc newL [0, 1] [⟨0, [], 0⟩, ⟨1, [], 0⟩] := by
  refine ⟨newL_inv, rfl, by decide, fun x hx => ?_, fun i hi => ?_, fun i j hij hj k1 k2 => ?_⟩
  · simp at hx
    have : newL.length = 2 := rfl
    omega
  · match i, hi with
    | 0, _ => exact .inl ⟨rfl, rfl⟩
    | 1, _ => exact .inr (.inl ⟨rfl, rfl⟩)
  · have hj' : j < 2 := hj
    have hi0 : i = 0 := by omega
    subst hi0
    cases k1
theorem canSet_no {L : List T} (h : Inv L) : canSet L 0 = false ∧ canSet L 1 = false ∧ canSet L (-1) = false ∧ canSet L (L.length : Int) = false := by
  have h2 := h.two_
  refine ⟨?_, ?_, ?_, ?_⟩
  · by_cases e : (gT L (0 : Int).toNat).made = 1
    · have := h.open_ 0 (by omega) e
      rw [h.no] at this; cases this
    · unfold canSet; rw [decide_eq_false e, Bool.and_false]
  · by_cases e : (gT L (1 : Int).toNat).made = 1
    · have := h.open_ 1 (by omega) e
      rw [h.yes] at this; cases this
    · unfold canSet; rw [decide_eq_false e, Bool.and_false]
  · unfold canSet; simp
  · unfold canSet; simp
theorem valT_ends (L : List T) : valT L (-1) = 2 ∧ valT L (L.length : Int) = 2 := ⟨valT_out (.inl (by omega)), valT_out (.inr (by omega))⟩
theorem two_len (L : List T) (m : Nat) (x y : Int) : (two L m x y).1.length ≤ L.length + 1 := by
  unfold two addUp
  split
  · simp
  · split
    · simp
    · split
      · simp
      · split <;> simp
theorem orAll_len : ∀ (xs : List Int) (L : List T) (s : Int), (orAll L s xs).1.length ≤ L.length + xs.length
  | [], L, s => Nat.le_refl _
  | x :: xs, L, s => by
    have h1 := orAll_len xs (two L 3 s x).1 (two L 3 s x).2
    have h2 := two_len L 3 s x
    show (orAll _ _ xs).1.length ≤ _
    rw [List.length_cons]; omega
end Go.Proofs.Ytjfoppmpiklfiab.Truth
