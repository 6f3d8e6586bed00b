/- Things that may be true, plainly: what the document makes of the same acts. Conditions: none. -/
import Derived.Test.YtjfoppmpiklfiabDocs
namespace Go.Proofs.Ytjfoppmpiklfiab.Truth
open Go.RowKit Go.Proofs.YtjfoppmpiklfiabW.PrintWords Go.Proofs.YtjfoppmpiklfiabW.PrintLast Go.Proofs.Ytjfoppmpiklfiab.PTruthRuns
set_option linter.unusedVariables false
set_option linter.unusedSimpArgs false
def idAt (ids : List Int) (n : Nat) (x : Int) : Int := if 0 ≤ x ∧ x < n then ids.getD x.toNat 0 else -1
/-- A thing of the document's, and the book's. -/
def One (L : List T) (ids : List Int) (i : Nat) (t : S51) : Prop :=
  (t.f0 = 0 ∧ valT L (ids.getD i 0) = 2) ∨ (t.f0 = 1 ∧ valT L (ids.getD i 0) = 1) ∨
  (t.f0 = 2 ∧ ((gT L (ids.getD i 0).toNat).made = 1 ∧ t.f2 = 0 ∨ (gT L (ids.getD i 0).toNat).made = 0 ∧ t.f2 ≠ 0 ∧ t.f2 = (valT L (ids.getD i 0) : Nat))) ∨
  (t.f0 = 3 ∧ ∃ X Y, t.f1 = [X, Y] ∧ Rel L (ids.getD i 0) 2 (idAt ids i X) (idAt ids i Y)) ∨
  (t.f0 = 4 ∧ Chain L 0 (t.f1.map (idAt ids i)) (ids.getD i 0))
structure Doc (L : List T) (ids : List Int) (l : List S51) : Prop where
  inv : Inv L
  len : ids.length = l.length
  some_ : 2 ≤ l.length
  hids : ∀ x ∈ ids, 0 ≤ x ∧ x < L.length
  each : ∀ i, i < l.length → One L ids i (l.getD i z51)
  apart : ∀ i j, i < j → j < l.length → (l.getD i z51).f0 = 2 → (l.getD j z51).f0 = 2 → ids.getD i 0 ≠ ids.getD j 0
theorem getD_in {α : Type} {l : List α} {i : Nat} (d : α) (h : i < l.length) : l.getD i d ∈ l := by
  rw [List.getD_eq_getElem?_getD, List.getElem?_eq_getElem h]; exact List.getElem_mem _
theorem Doc.id {L : List T} {ids : List Int} {l : List S51} (h : Doc L ids l) {i : Nat} (hi : i < l.length) : 0 ≤ ids.getD i 0 ∧ ids.getD i 0 < L.length := h.hids _ (getD_in 0 (by rw [h.len]; exact hi))
theorem Doc.idAt_lt {L : List T} {ids : List Int} {l : List S51} (h : Doc L ids l) (n : Nat) (hn : n ≤ l.length) (x : Int) : idAt ids n x < L.length := by
  unfold idAt
  split
  · rename_i hx
    exact (h.id (by omega)).2
  · omega
theorem worth3_or (v w : Nat) (hv : v ≤ 2) (hw : w ≤ 2) : worth 3 v w = if v = 1 ∨ w = 1 then 1 else if v = 2 ∧ w = 2 then 2 else 0 := by unfold worth; rw [if_pos rfl]
theorem orVal_eq : ∀ (vs : List Nat) (v : Nat), v ≤ 2 → (∀ a ∈ vs, a ≤ 2) → orVal v vs = if v = 1 ∨ 1 ∈ vs then 1 else if v = 2 ∧ ∀ a ∈ vs, a = 2 then 2 else 0
  | [], v, hv, _ => by
    have : v = 0 ∨ v = 1 ∨ v = 2 := by omega
    rcases this with rfl | rfl | rfl <;> rfl
  | a :: vs, v, hv, hvs => by
    have ha := hvs a (List.mem_cons_self)
    have ih := orVal_eq vs (worth 3 v a) (worth_le _ _ _) (fun b hb => hvs b (List.mem_cons_of_mem _ hb))
    show orVal (worth 3 v a) vs = _
    rw [ih]
    have h1 : v = 0 ∨ v = 1 ∨ v = 2 := by omega
    have h2 : a = 0 ∨ a = 1 ∨ a = 2 := by omega
    rcases h1 with rfl | rfl | rfl <;> rcases h2 with rfl | rfl | rfl <;> simp [worth]
theorem pv_at {L : List T} {ids : List Int} {l : List S51} (h : Doc L ids l) {i : Nat} (hi : i ≤ l.length) (x : Int) : pv ((ids.take i).map fun y => ((valT L y : Nat) : Int)) x = ((valT L (idAt ids i x) : Nat) : Int) := by
  have hl : ((ids.take i).map fun y => ((valT L y : Nat) : Int)).length = i := by rw [List.length_map, List.length_take, h.len]; omega
  have hm : valT L (-1) = 2 := valT_out (.inl (by omega))
  unfold pv idAt
  by_cases h0 : 0 ≤ x
  · rw [if_pos h0, hl]
    by_cases h1 : x < (i : Int)
    · rw [if_pos h1, if_pos ⟨h0, h1⟩]
      unfold rd
      have hlt : x.toNat < ids.length := by rw [h.len]; omega
      rw [List.getD_eq_getElem?_getD, List.getD_eq_getElem?_getD, List.getElem?_map, List.getElem?_take_of_lt (by omega), List.getElem?_eq_getElem hlt]
      rfl
    · rw [if_neg h1, if_neg (fun h2 => h1 h2.2), hm]; rfl
  · rw [if_neg h0, if_neg (fun h2 => h0 h2.1), hm]; rfl
theorem cnt_at {L : List T} {ids : List Int} {l : List S51} (h : Doc L ids l) {i : Nat} (hi : i ≤ l.length) (v : Nat) (xs : List Int) :
    cnt ((ids.take i).map fun y => ((valT L y : Nat) : Int)) v xs = (xs.map fun x => valT L (idAt ids i x)).countP (fun a => a == v) := by
  unfold cnt
  rw [List.countP_map]
  congr 1
  funext x
  rw [pv_at h hi]
  show (((valT L (idAt ids i x) : Nat) : Int) == (v : Int)) = (valT L (idAt ids i x) == v)
  rw [Bool.eq_iff_iff]
  simp only [beq_iff_eq]
  omega
theorem One.value {L : List T} {ids : List Int} {l : List S51} (h : Doc L ids l) {i : Nat} (hi : i < l.length) : valueOf ((ids.take i).map fun y => ((valT L y : Nat) : Int)) (l.getD i z51) = ((valT L (ids.getD i 0) : Nat) : Int) := by
  have ho := h.each i hi
  have hid := h.id hi
  have h2 := h.inv.two_
  generalize l.getD i z51 = t at ho
  have c1 := cnt_at h (Nat.le_of_lt hi) 1 t.f1
  have c2 := cnt_at h (Nat.le_of_lt hi) 2 t.f1
  have hH : high ((ids.take i).map fun y => ((valT L y : Nat) : Int)) t ↔ (t.f0 = 1 ∨ (t.f0 = 3 ∧ (t.f1.map fun x => valT L (idAt ids i x)).countP (fun a => a == 1) = t.f1.length) ∨ (t.f0 = 4 ∧ 0 < (t.f1.map fun x => valT L (idAt ids i x)).countP (fun a => a == 1))) := by
    rw [← c1]; exact Iff.rfl
  have hL : low ((ids.take i).map fun y => ((valT L y : Nat) : Int)) t ↔ (t.f0 = 0 ∨ (t.f0 = 3 ∧ 0 < (t.f1.map fun x => valT L (idAt ids i x)).countP (fun a => a == 2)) ∨ (t.f0 = 4 ∧ (t.f1.map fun x => valT L (idAt ids i x)).countP (fun a => a == 2) = t.f1.length)) := by
    rw [← c2]; exact Iff.rfl
  simp only [valueOf, hH, hL]
  clear c1 c2 hH hL
  rcases ho with ⟨k0, hv⟩ | ⟨k0, hv⟩ | ⟨k0, hv⟩ | ⟨k0, X, Y, hof, hr⟩ | ⟨k0, hc⟩
  · rw [hv]; simp [k0]
  · rw [hv]; simp [k0]
  · rcases hv with ⟨hm, h0⟩ | ⟨_, _, h0⟩
    · have hz := h.inv.open_ _ (by omega) hm
      rw [valT_in hid.1 hid.2, hz]
      simp [k0, h0]
    · simp [k0, h0]
  · have hv := hr.val h.inv hid.2
    rw [hv, hof]
    have hx := valT_le h.inv (idAt ids i X)
    have hy := valT_le h.inv (idAt ids i Y)
    simp only [List.map_cons, List.map_nil]
    generalize valT L (idAt ids i X) = a at hx ⊢
    generalize valT L (idAt ids i Y) = b at hy ⊢
    have ha : a = 0 ∨ a = 1 ∨ a = 2 := by omega
    have hb : b = 0 ∨ b = 1 ∨ b = 2 := by omega
    rcases ha with rfl | rfl | rfl <;> rcases hb with rfl | rfl | rfl <;> simp [k0, worth]
  · have hv := hc.val h.inv
    have hz : valT L 0 = 2 := by rw [valT_in (by omega) (by omega)]; exact h.inv.no
    rw [hv, hz, List.map_map]
    have hle : ∀ a ∈ t.f1.map (valT L ∘ idAt ids i), a ≤ 2 := fun a ha => by
      obtain ⟨x, _, rfl⟩ := List.mem_map.1 ha
      exact valT_le h.inv _
    have e : (t.f1.map fun x => valT L (idAt ids i x)) = t.f1.map (valT L ∘ idAt ids i) := rfl
    have hlen : (t.f1.map (valT L ∘ idAt ids i)).length = t.f1.length := List.length_map ..
    rw [e, ← hlen]
    generalize t.f1.map (valT L ∘ idAt ids i) = vs at hle ⊢
    rw [orVal_eq vs 2 (by omega) hle]
    have p1 : (0 < vs.countP (fun a => a == 1)) ↔ 1 ∈ vs := by
      rw [List.countP_pos_iff]
      constructor
      · rintro ⟨a, ha, hb⟩
        have : a = 1 := by simpa using hb
        rw [← this]; exact ha
      · intro h1; exact ⟨1, h1, rfl⟩
    have p2 : (vs.countP (fun a => a == 2) = vs.length) ↔ ∀ a ∈ vs, a = 2 := by
      rw [List.countP_eq_length]
      constructor
      · intro h1 a ha; simpa using h1 a ha
      · intro h1 a ha; simp [h1 a ha]
    simp only [k0, p1, p2]
    by_cases h1 : 1 ∈ vs
    · simp [h1]
    · by_cases h3 : ∀ a ∈ vs, a = 2
      · have e3 : (∀ a, a ∈ vs → a = 2) = True := eq_true h3
        simp only [e3, h1]; simp
      · have e3 : (∀ a, a ∈ vs → a = 2) = False := eq_false h3
        simp only [e3, h1]; simp
theorem Doc.values {L : List T} {ids : List Int} {l : List S51} (h : Doc L ids l) : values [] l = ids.map fun y => ((valT L y : Nat) : Int) := by
  have key : ∀ (d i : Nat), i + d = l.length → Truth.values ((ids.take i).map fun y => ((valT L y : Nat) : Int)) (l.drop i) = ids.map fun y => ((valT L y : Nat) : Int) := by
    intro d
    induction d with
    | zero =>
      intro i hi
      rw [List.drop_of_length_le (by omega), List.take_of_length_le (by rw [h.len]; omega)]
      rfl
    | succ d ih =>
      intro i hi
      have hlt : i < l.length := by omega
      have hdr : l.drop i = l.getD i z51 :: l.drop (i + 1) := by
        rw [List.getD_eq_getElem?_getD, List.getElem?_eq_getElem hlt]
        exact List.drop_eq_getElem_cons hlt
      rw [hdr]
      show Truth.values (_ ++ [valueOf _ (l.getD i z51)]) (l.drop (i + 1)) = _
      rw [One.value h hlt]
      have hi2 : i < ids.length := by rw [h.len]; exact hlt
      have e : (ids.take i).map (fun y => ((valT L y : Nat) : Int)) ++ [((valT L (ids.getD i 0) : Nat) : Int)] = (ids.take (i + 1)).map fun y => ((valT L y : Nat) : Int) := by
        rw [List.take_succ_eq_append_getElem hi2, List.map_append, List.getD_eq_getElem?_getD, List.getElem?_eq_getElem hi2]
        rfl
      rw [e]
      exact ih (i + 1) (by omega)
  have := key l.length 0 (by omega)
  simpa using this
/-- The old things, with more of them, or more known. -/
theorem One.step {S : Nat → Prop} {L L' : List T} {ids : List Int} {l : List S51} (h : Doc L ids l) (hs : Step S L L') (hS : ∀ k, S k → (gT L k).made ≤ 1) {i : Nat} (hi : i < l.length) (hne : (l.getD i z51).f0 = 2 → ¬ S (ids.getD i 0).toNat) : One L' ids i (l.getD i z51) := by
  have hid := h.id hi
  have hat : ∀ x, idAt ids i x < L.length := h.idAt_lt i (Nat.le_of_lt hi)
  have h2 := h.inv.two_
  rcases h.each i hi with ⟨k0, hv⟩ | ⟨k0, hv⟩ | ⟨k0, hv⟩ | ⟨k0, X, Y, hof, hr⟩ | ⟨k0, hc⟩
  · exact .inl ⟨k0, by rw [valT_step hs hid.2 (by omega)]; exact hv⟩
  · exact .inr (.inl ⟨k0, by rw [valT_step hs hid.2 (by omega)]; exact hv⟩)
  · have hm := (hs.made (ids.getD i 0).toNat (by omega) (hne k0)).1
    refine .inr (.inr (.inl ⟨k0, ?_⟩))
    rcases hv with ⟨a, b⟩ | ⟨a, b, c⟩
    · exact .inl ⟨by rw [hm]; exact a, b⟩
    · refine .inr ⟨by rw [hm]; exact a, b, ?_⟩
      rw [c, valT_step hs hid.2 (by omega)]
  · exact .inr (.inr (.inr (.inl ⟨k0, X, Y, hof, hr.step hs hS hid.2 (hat _) (hat _)⟩)))
  · exact .inr (.inr (.inr (.inr ⟨k0, hc.step hs hS⟩)))
theorem idAt_app {ids : List Int} {n : Nat} (hn : n ≤ ids.length) (y : Int) : idAt (ids ++ [y]) n = idAt ids n := by
  funext x
  unfold idAt
  split
  · rename_i hx
    rw [List.getD_eq_getElem?_getD, List.getD_eq_getElem?_getD, List.getElem?_append_left (by omega)]
  · rfl
theorem getD_app {α : Type} {l : List α} {i : Nat} (d y : α) (h : i < l.length) : (l ++ [y]).getD i d = l.getD i d := by
  rw [List.getD_eq_getElem?_getD, List.getD_eq_getElem?_getD, List.getElem?_append_left h]
theorem getD_new {α : Type} (l : List α) (d y : α) : (l ++ [y]).getD l.length d = y := by
  rw [List.getD_eq_getElem?_getD]; simp
theorem One.app {L : List T} {ids : List Int} {i : Nat} {t : S51} (h : One L ids i t) (hi : i < ids.length) (y : Int) : One L (ids ++ [y]) i t := by
  unfold One
  rw [getD_app 0 y hi, idAt_app (Nat.le_of_lt hi)]
  exact h
/-- One more thing. -/
theorem Doc.more {L L' : List T} {ids : List Int} {l : List S51} (h : Doc L ids l) (hinv : Inv L') (hs : Step (fun _ => False) L L') {y : Int} {t : S51} (hy : 0 ≤ y ∧ y < L'.length) (ho : One L' (ids ++ [y]) l.length t) (hv : t.f0 = 2 → ∀ x ∈ ids, x ≠ y) : Doc L' (ids ++ [y]) (l ++ [t]) := by
  have hl := hs.len
  have hlen := h.len
  refine ⟨hinv, by simp [hlen], by simp; have := h.some_; omega, fun x hx => ?_, fun i hi => ?_, fun i j hij hj k1 k2 => ?_⟩
  · rcases List.mem_append.1 hx with hx | hx
    · have := h.hids x hx; omega
    · rw [List.mem_singleton.1 hx]; exact hy
  · rw [List.length_append, List.length_singleton] at hi
    by_cases e : i < l.length
    · rw [getD_app z51 t e]
      exact (One.step h hs (fun _ hf => hf.elim) e (fun _ hf => hf)).app (by omega) y
    · have : i = l.length := by omega
      subst this
      rw [getD_new]
      exact ho
  · rw [List.length_append, List.length_singleton] at hj
    rw [getD_app z51 t (by omega)] at k1
    rw [getD_app 0 y (by omega)]
    by_cases e : j < l.length
    · rw [getD_app z51 t e] at k2
      rw [getD_app 0 y (by omega)]
      exact h.apart i j hij e k1 k2
    · have : j = l.length := by omega
      subst this
      rw [getD_new] at k2
      rw [← hlen, getD_new]
      exact hv k2 _ (getD_in 0 (by omega))
theorem Doc.var {L : List T} {ids : List Int} {l : List S51} (h : Doc L ids l) : Doc (mkVar L) (ids ++ [(L.length : Int)]) (l ++ [⟨2, [], 0⟩]) := by
  obtain ⟨a, b⟩ := inv_var h.inv
  have hl : (mkVar L).length = L.length + 1 := by simp [mkVar]
  refine h.more a b ⟨by omega, by omega⟩ (.inr (.inr (.inl ⟨rfl, .inl ⟨?_, rfl⟩⟩))) (fun _ x hx he => by have := h.hids x hx; omega)
  rw [← h.len, getD_new, Int.toNat_natCast]
  rw [show gT (mkVar L) L.length = ⟨1, 0, 0, 0, []⟩ from get_last _ _]
theorem Doc.and_ {L : List T} {ids : List Int} {l : List S51} (h : Doc L ids l) (X Y : Int) (hn : 0 ≤ (two L 2 (idAt ids l.length X) (idAt ids l.length Y)).2) :
    Doc (two L 2 (idAt ids l.length X) (idAt ids l.length Y)).1 (ids ++ [(two L 2 (idAt ids l.length X) (idAt ids l.length Y)).2]) (l ++ [⟨3, [X, Y], 0⟩]) := by
  obtain ⟨a, b, c, d, e⟩ := two_inv h.inv (.inl rfl : (2 : Nat) = 2 ∨ 2 = 3) (h.idAt_lt l.length (Nat.le_refl _) X) (h.idAt_lt l.length (Nat.le_refl _) Y)
  refine h.more a b ⟨hn, d⟩ (.inr (.inr (.inr (.inl ⟨rfl, X, Y, rfl, ?_⟩)))) (fun h2 => by cases h2)
  rw [idAt_app (by rw [h.len]; exact Nat.le_refl _)]
  rw [← h.len, getD_new, h.len]
  exact c
theorem Doc.or_ {L : List T} {ids : List Int} {l : List S51} (h : Doc L ids l) (xs : List Int) (hn : 0 ≤ (orAll L 0 (xs.map (idAt ids l.length))).2) :
    Doc (orAll L 0 (xs.map (idAt ids l.length))).1 (ids ++ [(orAll L 0 (xs.map (idAt ids l.length))).2]) (l ++ [⟨4, xs, 0⟩]) := by
  have h2 := h.inv.two_
  obtain ⟨a, b, c, d, e⟩ := orAll_inv (xs.map (idAt ids l.length)) L 0 h.inv (by omega) (fun x hx => by
    obtain ⟨y, _, rfl⟩ := List.mem_map.1 hx
    exact h.idAt_lt l.length (Nat.le_refl _) y)
  refine h.more a b ⟨hn, d⟩ (.inr (.inr (.inr (.inr ⟨rfl, ?_⟩)))) (fun h2 => by cases h2)
  rw [idAt_app (by rw [h.len]; exact Nat.le_refl _)]
  rw [← h.len, getD_new, h.len]
  exact c
/-- Both parts are known to be none: what is made of them is one of the first two. -/
theorem two_ge {L : List T} (hinv : Inv L) {m : Nat} (hm : m = 2 ∨ m = 3) {x y : Int} (hx : x = -1 ∨ 0 ≤ x) (hy : y = -1 ∨ 0 ≤ y) : 0 ≤ (two L m x y).2 := by
  have vx := valT_le hinv x
  have vy := valT_le hinv y
  by_cases hx0 : 0 ≤ x
  · by_cases hy0 : 0 ≤ y
    · exact two_nonneg hx0 hy0
    · have e : valT L y = 2 := valT_out (.inl (by omega))
      unfold two
      rw [e]
      generalize valT L x = v at vx ⊢
      have h3 : v = 0 ∨ v = 1 ∨ v = 2 := by omega
      rcases hm with rfl | rfl <;> rcases h3 with rfl | rfl | rfl <;> simp [worth, hx0]
  · have e : valT L x = 2 := valT_out (.inl (by omega))
    unfold two
    rw [e]
    generalize hvv : valT L y = v at vy ⊢
    have h3 : v = 0 ∨ v = 1 ∨ v = 2 := by omega
    have hyv : v ≠ 2 → 0 ≤ y := fun h => by
      by_cases hy0 : 0 ≤ y
      · exact hy0
      · rw [valT_out (.inl (by omega))] at hvv; exact absurd hvv.symm h
    rcases hm with rfl | rfl <;> rcases h3 with rfl | rfl | rfl <;> simp [worth] <;> exact hyv (by decide)
theorem idAt_ge {L : List T} {ids : List Int} {l : List S51} (h : Doc L ids l) (n : Nat) (hn : n ≤ l.length) (x : Int) : idAt ids n x = -1 ∨ 0 ≤ idAt ids n x := by
  unfold idAt
  split
  · rename_i hx
    exact .inr (h.id (by omega)).1
  · exact .inl rfl
theorem orAll_ge : ∀ (xs : List Int) (L : List T) (s : Int), Inv L → 0 ≤ s → s < L.length → (∀ x ∈ xs, (x = -1 ∨ 0 ≤ x) ∧ x < L.length) → 0 ≤ (orAll L s xs).2
  | [], _, _, _, hs, _, _ => hs
  | x :: xs, L, s, hi, hs, hsl, hx => by
    have hx0 := hx x (List.mem_cons_self)
    obtain ⟨a, b, c, d, e⟩ := two_inv hi (.inr rfl : (3 : Nat) = 2 ∨ 3 = 3) hsl hx0.2
    have hl := b.len
    exact orAll_ge xs _ _ a (two_ge hi (.inr rfl) (.inr hs) hx0.1) d (fun z hz => by have := hx z (List.mem_cons_of_mem _ hz); exact ⟨this.1, by omega⟩)
end Go.Proofs.Ytjfoppmpiklfiab.Truth
