/- Things that may be true, plainly: what is known stays; behind all variables all is known. Conditions: none. -/
import Derived.Test.YtjfoppmpiklfiabTruth
namespace Go.Proofs.Ytjfoppmpiklfiab.Truth
set_option linter.unusedVariables false
theorem two_made {L : List T} {m : Nat} (hm : m = 2 ∨ m = 3) {x y : Int} (hx : x < L.length) (hy : y < L.length) (k : Nat) (hk : k < (two L m x y).1.length) (h1 : (gT (two L m x y).1 k).made ≤ 1) : k < L.length ∧ (gT L k).made = (gT (two L m x y).1 k).made := by
  unfold two at hk h1 ⊢
  split at hk
  · rename_i h; rw [if_pos h] at h1 ⊢; exact ⟨hk, rfl⟩
  · rename_i h; rw [if_neg h] at h1 ⊢
    split at hk
    · rename_i h; rw [if_pos h] at h1 ⊢; exact ⟨hk, rfl⟩
    · rename_i h; rw [if_neg h] at h1 ⊢
      split at hk
      · rename_i h; rw [if_pos h] at h1 ⊢; exact ⟨hk, rfl⟩
      · rename_i h; rw [if_neg h] at h1 ⊢
        split at hk
        · rename_i h; rw [if_pos h] at h1 ⊢; exact ⟨hk, rfl⟩
        · rename_i hu hv; rw [if_neg hv] at h1 ⊢
          have hv0 : valT L x = 0 := by omega
          have hu0 : valT L y = 0 := by omega
          have hx0 : 0 ≤ x := by
            by_cases e : 0 ≤ x
            · exact e
            · rw [valT_out (.inl (by omega))] at hv0; cases hv0
          have hy0 : 0 ≤ y := by
            by_cases e : 0 ≤ y
            · exact e
            · rw [valT_out (.inl (by omega))] at hu0; cases hu0
          obtain ⟨c, d, e⟩ := newT_get (L := L) (m := m) (x := x.toNat) (y := y.toNat) (by omega) (by omega) (by omega)
          have hk' : k < (newT L m x.toNat y.toNat).length := hk
          have h1' : (gT (newT L m x.toNat y.toNat) k).made ≤ 1 := h1
          show k < L.length ∧ (gT L k).made = (gT (newT L m x.toNat y.toNat) k).made
          by_cases e2 : k = L.length
          · rw [e2, d] at h1'
            have : m ≤ 1 := h1'
            omega
          · rw [e k (by omega)]
            exact ⟨by omega, rfl⟩
theorem two_nonneg {L : List T} {m : Nat} {x y : Int} (hx : 0 ≤ x) (hy : 0 ≤ y) : 0 ≤ (two L m x y).2 := by
  unfold two
  repeat' split
  all_goals first | exact hx | exact hy | (show (0 : Int) ≤ _; omega)
theorem orAll_made : ∀ (xs : List Int) (L : List T) (s : Int), Inv L → s < L.length → (∀ x ∈ xs, x < L.length) → ∀ k, k < (orAll L s xs).1.length → (gT (orAll L s xs).1 k).made ≤ 1 → k < L.length ∧ (gT L k).made = (gT (orAll L s xs).1 k).made
  | [], L, s, h, hs, _, k, hk, h1 => ⟨hk, rfl⟩
  | x :: xs, L, s, h, hs, hx, k, hk, h1 => by
    have hx0 := hx x (List.mem_cons_self)
    obtain ⟨a, b, c, d, e⟩ := two_inv h (.inr rfl : (3 : Nat) = 2 ∨ 3 = 3) hs hx0
    have hl := b.len
    obtain ⟨h2, h3⟩ := orAll_made xs _ _ a d (fun z hz => by have := hx z (List.mem_cons_of_mem _ hz); omega) k hk h1
    obtain ⟨h4, h5⟩ := two_made (.inr rfl) hs hx0 k h2 (by rw [h3]; exact h1)
    exact ⟨h4, h5.trans h3⟩
theorem orAll_nonneg : ∀ (xs : List Int) (L : List T) (s : Int), 0 ≤ s → (∀ x ∈ xs, 0 ≤ x) → 0 ≤ (orAll L s xs).2
  | [], _, _, hs, _ => hs
  | x :: xs, L, s, hs, hx => orAll_nonneg xs _ _ (two_nonneg hs (hx x (List.mem_cons_self))) (fun z hz => hx z (List.mem_cons_of_mem _ hz))
/-- All that has been made, and the variables among it. -/
structure Stay (L : List T) (ids vars : List Int) : Prop where
  inv : Inv L
  some_ : 0 < ids.length
  hids : ∀ x ∈ ids, 0 ≤ x ∧ x < L.length
  hvars : ∀ x ∈ vars, 0 ≤ x ∧ x < L.length ∧ (gT L x.toNat).made = 1
  nodup : vars.Nodup
  all : ∀ k, k < L.length → (gT L k).made = 1 → (k : Int) ∈ vars
theorem Stay.var {L : List T} {ids vars : List Int} (h : Stay L ids vars) : Stay (mkVar L) (ids ++ [(L.length : Int)]) (vars ++ [(L.length : Int)]) := by
  have hl : (mkVar L).length = L.length + 1 := by simp [mkVar]
  have ga : ∀ k, k < L.length → gT (mkVar L) k = gT L k := fun k hk => get_app _ hk
  have gl : gT (mkVar L) L.length = ⟨1, 0, 0, 0, []⟩ := get_last _ _
  refine ⟨(inv_var h.inv).1, by simp, fun x hx => ?_, fun x hx => ?_, ?_, fun k hk h1 => ?_⟩
  · rcases List.mem_append.1 hx with hx | hx
    · have := h.hids x hx; omega
    · have := List.mem_singleton.1 hx; omega
  · rcases List.mem_append.1 hx with hx | hx
    · have := h.hvars x hx
      exact ⟨this.1, by omega, by rw [ga _ (by omega)]; exact this.2.2⟩
    · have := List.mem_singleton.1 hx
      subst this
      exact ⟨by omega, by omega, by rw [Int.toNat_natCast, gl]⟩
  · rw [List.nodup_append]
    refine ⟨h.nodup, by simp, fun x hx y hy => ?_⟩
    have := List.mem_singleton.1 hy
    have := h.hvars x hx
    omega
  · by_cases e : k < L.length
    · rw [ga k e] at h1
      exact List.mem_append_left _ (h.all k e h1)
    · have : k = L.length := by omega
      rw [this]; simp
theorem Stay.and_ {L : List T} {ids vars : List Int} (h : Stay L ids vars) {x y : Int} (hx : x ∈ ids) (hy : y ∈ ids) : Stay (two L 2 x y).1 (ids ++ [(two L 2 x y).2]) vars := by
  have hx1 := h.hids x hx
  have hy1 := h.hids y hy
  obtain ⟨a, b, c, d, e⟩ := two_inv h.inv (.inl rfl : (2 : Nat) = 2 ∨ 2 = 3) hx1.2 hy1.2
  have hl := b.len
  refine ⟨a, by simp, fun z hz => ?_, fun z hz => ?_, h.nodup, fun k hk h1 => ?_⟩
  · rcases List.mem_append.1 hz with hz | hz
    · have := h.hids z hz; omega
    · have := List.mem_singleton.1 hz
      subst this
      exact ⟨two_nonneg hx1.1 hy1.1, d⟩
  · have := h.hvars z hz
    exact ⟨this.1, by omega, by rw [(b.made _ (by omega) (fun hf => hf)).1]; exact this.2.2⟩
  · obtain ⟨h2, h3⟩ := two_made (.inl rfl) hx1.2 hy1.2 k hk (by omega)
    exact h.all k h2 (by rw [h3]; exact h1)
theorem Stay.or_ {L : List T} {ids vars : List Int} (h : Stay L ids vars) {xs : List Int} (hx : ∀ x ∈ xs, x ∈ ids) : Stay (orAll L 0 xs).1 (ids ++ [(orAll L 0 xs).2]) vars := by
  have h2 := h.inv.two_
  have hx1 : ∀ x ∈ xs, x < L.length := fun x hxx => (h.hids x (hx x hxx)).2
  obtain ⟨a, b, c, d, e⟩ := orAll_inv xs L 0 h.inv (by omega) hx1
  have hl := b.len
  refine ⟨a, by simp, fun z hz => ?_, fun z hz => ?_, h.nodup, fun k hk h1 => ?_⟩
  · rcases List.mem_append.1 hz with hz | hz
    · have := h.hids z hz; omega
    · have := List.mem_singleton.1 hz
      subst this
      exact ⟨orAll_nonneg xs L 0 (Int.le_refl _) (fun x hxx => (h.hids x (hx x hxx)).1), d⟩
  · have := h.hvars z hz
    exact ⟨this.1, by omega, by rw [(b.made _ (by omega) (fun hf => hf)).1]; exact this.2.2⟩
  · obtain ⟨h3, h4⟩ := orAll_made xs L 0 h.inv (by omega) hx1 k hk (by omega)
    exact h.all k h3 (by rw [h4]; exact h1)
/-- A variable is set. -/
theorem Stay.set_ {L : List T} {ids vars : List Int} {v : Int} (h : Stay L ids (v :: vars)) (yes : Bool) (k : Nat) (hk : L.length + 1 < k) :
    ∃ L', prop k (start L v.toNat yes) [v.toNat] = some L' ∧ Stay L' ids vars ∧ Step (· = v.toNat) L L' ∧ L'.length = L.length := by
  obtain ⟨v0, v1, vm⟩ := h.hvars v (List.mem_cons_self)
  obtain ⟨L', a, b, c, d, e, f⟩ := set_inv h.inv (x := v.toNat) (by omega) vm yes k hk
  refine ⟨L', a, ⟨b, h.some_, fun x hx => by rw [f]; exact h.hids x hx, fun x hx => ?_, (List.nodup_cons.1 h.nodup).2, fun k hk h1 => ?_⟩, c, f⟩
  · have := h.hvars x (List.mem_cons_of_mem _ hx)
    have hne : x ≠ v := fun he => (List.nodup_cons.1 h.nodup).1 (by rw [← he]; exact hx)
    exact ⟨this.1, by rw [f]; exact this.2.1, by rw [(c.made _ (by omega) (fun he => hne (by omega))).1]; exact this.2.2⟩
  · by_cases e2 : k = v.toNat
    · rw [e2, d] at h1; cases h1
    · have h3 := (c.made k (by omega) e2).1
      rw [h3] at h1
      rcases List.mem_cons.1 (h.all k (by omega) h1) with h4 | h4
      · omega
      · exact h4
theorem Stay.known {L : List T} {ids : List Int} (h : Stay L ids []) : ∀ x ∈ ids, valT L x ≠ 0 := by
  have hk : ∀ k, k < L.length → (gT L k).val ≠ 0 := by
    intro k
    induction k using Nat.strongRecOn with
    | ind k ih =>
      intro hk
      have hkinds := h.inv.kinds k hk
      by_cases e0 : (gT L k).made = 0
      · exact h.inv.known k hk e0
      · by_cases e1 : (gT L k).made = 1
        · exact absurd (h.all k hk e1) (by simp)
        · have hp := h.inv.parts k hk (by omega)
          rw [Inv.eq h.inv k hk (by omega)]
          have hx := ih _ hp.1 (by omega)
          have hy := ih _ hp.2 (by omega)
          have := h.inv.le (gT L k).x
          have := h.inv.le (gT L k).y
          exact worth_known (by omega) (by omega)
  intro x hx
  have := h.hids x hx
  rw [valT_in this.1 this.2]
  exact hk _ (by omega)
/-- What was known is so still. -/
def Was (L : List T) (ids was : List Int) : Prop := was.length = ids.length ∧ ∀ m, m < ids.length → was.getD m 0 ≠ 0 → was.getD m 0 = (valT L (ids.getD m 0) : Nat)
theorem Was.zeros (L : List T) (ids : List Int) : Was L ids (List.replicate ids.length 0) := by
  refine ⟨by simp, fun m hm h => absurd ?_ h⟩
  rw [List.getD_eq_getElem?_getD, List.getElem?_replicate, if_pos hm]; rfl
theorem Was.step {S : Nat → Prop} {L L' : List T} {ids was : List Int} (h : Was L ids was) (hs : Step S L L') (hi : ∀ x ∈ ids, 0 ≤ x ∧ x < L.length) : Was L' ids was := by
  refine ⟨h.1, fun m hm h1 => ?_⟩
  have h2 := h.2 m hm h1
  have hin : ids.getD m 0 ∈ ids := by
    rw [List.getD_eq_getElem?_getD, List.getElem?_eq_getElem hm]; exact List.getElem_mem _
  rw [h2, valT_step hs (hi _ hin).2 (by omega)]
theorem Was.put {L : List T} {ids was : List Int} (h : Was L ids was) (m : Nat) (hm : m < ids.length) : Was L ids (was.set m (valT L (ids.getD m 0) : Nat)) := by
  refine ⟨by rw [List.length_set]; exact h.1, fun k hk h1 => ?_⟩
  have hl := h.1
  by_cases e : k = m
  · subst e
    rw [List.getD_eq_getElem?_getD, List.getElem?_set_self (by omega)]
    rfl
  · have e2 : (was.set m (valT L (ids.getD m 0) : Nat)).getD k 0 = was.getD k 0 := by
      rw [List.getD_eq_getElem?_getD, List.getElem?_set_ne (Ne.symm e), ← List.getD_eq_getElem?_getD]
    rw [e2] at h1 ⊢
    exact h.2 k hk h1
end Go.Proofs.Ytjfoppmpiklfiab.Truth
