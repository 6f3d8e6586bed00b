/- Things that may be true, plainly: what is made, what is set, and what follows. Conditions: none. -/
import Derived.WalkKit
namespace Go.Proofs.Ytjfoppmpiklfiab.Truth
structure T where
  made : Nat
  val : Nat
  x : Nat
  y : Nat
  ups : List Nat
def T.setVal (t : T) (v : Nat) : T := ⟨t.made, v, t.x, t.y, t.ups⟩
def T.setUps (t : T) (us : List Nat) : T := ⟨t.made, t.val, t.x, t.y, us⟩
def T.setKnown (t : T) (v : Nat) : T := ⟨0, v, t.x, t.y, t.ups⟩
def none_ : T := ⟨0, 0, 0, 0, []⟩
def gT (L : List T) (i : Nat) : T := L.getD i none_
def worth (made v w : Nat) : Nat :=
  if made = 3 then (if v = 1 ∨ w = 1 then 1 else if v = 2 ∧ w = 2 then 2 else 0)
  else (if v = 2 ∨ w = 2 then 2 else if v = 1 ∧ w = 1 then 1 else 0)
def valT (L : List T) (x : Int) : Nat := if x < 0 ∨ (L.length : Int) ≤ x then 2 else (gT L x.toNat).val
def mkVar (L : List T) : List T := L ++ [⟨1, 0, 0, 0, []⟩]
def addUp (L : List T) (p n : Nat) : List T := L.set p ((gT L p).setUps ((gT L p).ups ++ [n]))
def two (L : List T) (made : Nat) (x y : Int) : List T × Int :=
  if worth made (valT L x) (valT L y) = 1 then (L, 1)
  else if worth made (valT L x) (valT L y) = 2 then (L, 0)
  else if valT L x ≠ 0 then (L, y)
  else if valT L y ≠ 0 ∨ x = y then (L, x)
  else (addUp (addUp (L ++ [⟨made, 0, x.toNat, y.toNat, []⟩]) x.toNat L.length) y.toNat L.length, L.length)
def orAll (L : List T) (out : Int) : List Int → List T × Int
  | [] => (L, out)
  | x :: xs => orAll (two L 3 out x).1 (two L 3 out x).2 xs
/-- What is made of one thing is looked at anew. -/
def inner (L : List T) (todo : List Nat) : List Nat → List T × List Nat
  | [] => (L, todo)
  | u :: us =>
    if (gT L u).val ≠ 0 then inner L todo us
    else if worth (gT L u).made (gT L (gT L u).x).val (gT L (gT L u).y).val ≠ 0 then inner (L.set u ((gT L u).setVal (worth (gT L u).made (gT L (gT L u).x).val (gT L (gT L u).y).val))) (todo ++ [u]) us
    else inner (L.set u ((gT L u).setVal 0)) todo us
def clear (L : List T) (t : Nat) : List T := L.set t ((gT L t).setUps [])
def prop : Nat → List T → List Nat → Option (List T)
  | 0, _, _ => none
  | _ + 1, L, [] => some L
  | k + 1, L, t :: ts => prop k (inner (clear L t) ts (gT L t).ups).1 (inner (clear L t) ts (gT L t).ups).2
def start (L : List T) (x : Nat) (yes : Bool) : List T := L.set x ((gT L x).setKnown (if yes then 1 else 2))
def canSet (L : List T) (x : Int) : Bool := decide (0 ≤ x) && decide (x < L.length) && decide ((gT L x.toNat).made = 1)

theorem get_set (L : List T) (i j : Nat) (t : T) : gT (L.set i t) j = if i = j ∧ i < L.length then t else gT L j := by
  unfold gT
  simp only [List.getD_eq_getElem?_getD, List.getElem?_set]
  by_cases h : i = j
  · subst h
    by_cases h2 : i < L.length
    · simp [h2]
    · simp [h2]
  · simp [h]
theorem get_set_self {L : List T} {i : Nat} (t : T) (h : i < L.length) : gT (L.set i t) i = t := by rw [get_set, if_pos ⟨rfl, h⟩]
theorem get_set_ne {L : List T} {i j : Nat} (t : T) (h : i ≠ j) : gT (L.set i t) j = gT L j := by rw [get_set, if_neg (fun h2 => h h2.1)]
theorem get_app {L : List T} {i : Nat} (t : T) (h : i < L.length) : gT (L ++ [t]) i = gT L i := by
  unfold gT; rw [List.getD_eq_getElem?_getD, List.getD_eq_getElem?_getD, List.getElem?_append_left h]
theorem get_last (L : List T) (t : T) : gT (L ++ [t]) L.length = t := by
  unfold gT; rw [List.getD_eq_getElem?_getD]; simp

theorem worth_mono {m v v' w : Nat} (h : worth m v w ≠ 0) (hv : v ≠ 0 → v' = v) : worth m v' w = worth m v w := by
  unfold worth at h ⊢
  by_cases h0 : v = 0
  · subst h0
    split at h <;> (rename_i hm; simp only [hm, if_true, if_false] at h ⊢) <;> split at h <;> first | omega | skip
    all_goals (rename_i h1; first | (rw [if_pos (by omega)] ; rw [if_pos (by omega)]) | (simp at h))
  · rw [hv h0]
theorem worth_comm (m v w : Nat) : worth m v w = worth m w v := by
  unfold worth
  split <;> (simp only [or_comm, and_comm])
theorem worth_mono2 {m v v' w w' : Nat} (h : worth m v w ≠ 0) (hv : v ≠ 0 → v' = v) (hw : w ≠ 0 → w' = w) : worth m v' w' = worth m v w := by
  have h1 := worth_mono h hv
  have h2 : worth m v' w' = worth m v' w := by
    rw [worth_comm m v' w', worth_comm m v' w]
    exact worth_mono (by rw [worth_comm, h1]; exact h) hw
  rw [h2, h1]
theorem worth_le (m v w : Nat) : worth m v w ≤ 2 := by unfold worth; split <;> (split <;> (try split)) <;> omega
theorem worth_known {m v w : Nat} (hv : v = 1 ∨ v = 2) (hw : w = 1 ∨ w = 2) : worth m v w ≠ 0 := by
  unfold worth
  rcases hv with rfl | rfl <;> rcases hw with rfl | rfl <;> split <;> simp

/-- L' is L, with more known, and perhaps more things; what is in S may be made anew. -/
structure Step (S : Nat → Prop) (L L' : List T) : Prop where
  len : L.length ≤ L'.length
  val : ∀ k, k < L.length → (gT L k).val ≠ 0 → (gT L' k).val = (gT L k).val
  made : ∀ k, k < L.length → ¬ S k → (gT L' k).made = (gT L k).made ∧ (gT L' k).x = (gT L k).x ∧ (gT L' k).y = (gT L k).y
theorem Step.refl (S : Nat → Prop) (L : List T) : Step S L L := ⟨Nat.le_refl _, fun _ _ _ => rfl, fun _ _ _ => ⟨rfl, rfl, rfl⟩⟩
theorem Step.trans {S : Nat → Prop} {L L' L'' : List T} (h : Step S L L') (h' : Step S L' L'') : Step S L L'' :=
  ⟨Nat.le_trans h.len h'.len, fun k hk hv => by
    have h1 := h.val k hk hv
    rw [h'.val k (Nat.lt_of_lt_of_le hk h.len) (by rw [h1]; exact hv), h1], fun k hk hs => by
    obtain ⟨a, b, c⟩ := h.made k hk hs
    obtain ⟨a', b', c'⟩ := h'.made k (Nat.lt_of_lt_of_le hk h.len) hs
    exact ⟨a'.trans a, b'.trans b, c'.trans c⟩⟩
theorem Step.mono {S S' : Nat → Prop} {L L' : List T} (h : Step S L L') (hs : ∀ k, S k → S' k) : Step S' L L' := ⟨h.len, h.val, fun k hk hn => h.made k hk (fun h2 => hn (hs k h2))⟩
structure Mid (L : List T) (todo rem : List Nat) : Prop where
  le : ∀ k, (gT L k).val ≤ 2
  known : ∀ k, k < L.length → (gT L k).made = 0 → (gT L k).val ≠ 0
  open_ : ∀ k, k < L.length → (gT L k).made = 1 → (gT L k).val = 0
  kinds : ∀ k, k < L.length → (gT L k).made ≤ 3
  parts : ∀ k, k < L.length → 2 ≤ (gT L k).made → (gT L k).x < k ∧ (gT L k).y < k
  eq1 : ∀ k, k < L.length → 2 ≤ (gT L k).made → (gT L k).val ≠ 0 → (gT L k).val = worth (gT L k).made (gT L (gT L k).x).val (gT L (gT L k).y).val
  eq0 : ∀ k, k < L.length → 2 ≤ (gT L k).made → (gT L k).val = 0 → worth (gT L k).made (gT L (gT L k).x).val (gT L (gT L k).y).val = 0 ∨
    ((gT L k).x ∈ todo ∧ k ∈ (gT L (gT L k).x).ups) ∨ ((gT L k).y ∈ todo ∧ k ∈ (gT L (gT L k).y).ups) ∨ k ∈ rem
  up : ∀ k, k < L.length → 2 ≤ (gT L k).made → (gT L k).val = 0 → ((gT L (gT L k).x).val = 0 → k ∈ (gT L (gT L k).x).ups) ∧ ((gT L (gT L k).y).val = 0 → k ∈ (gT L (gT L k).y).ups)
  ups : ∀ k, ∀ u ∈ (gT L k).ups, u < L.length ∧ 2 ≤ (gT L u).made
  many : ∀ k, (gT L k).ups.length ≤ 2 * L.length
  todo : ∀ t ∈ todo, t < L.length ∧ (gT L t).val ≠ 0
  rem : ∀ u ∈ rem, u < L.length ∧ 2 ≤ (gT L u).made
  two_ : 2 ≤ L.length
  no : (gT L 0).val = 2
  yes : (gT L 1).val = 1
def Inv (L : List T) : Prop := Mid L [] []
theorem Inv.eq {L : List T} (h : Inv L) (k : Nat) (hk : k < L.length) (hm : 2 ≤ (gT L k).made) : (gT L k).val = worth (gT L k).made (gT L (gT L k).x).val (gT L (gT L k).y).val := by
  by_cases hv : (gT L k).val = 0
  · rcases h.eq0 k hk hm hv with h1 | h1 | h1 | h1
    · rw [h1, hv]
    · cases h1.1
    · cases h1.1
    · cases h1
  · exact h.eq1 k hk hm hv
def unk (L : List T) : Nat := L.countP (fun t => t.val == 0)
theorem unk_le (L : List T) : unk L ≤ L.length := List.countP_le_length
theorem unk_set {L : List T} {u : Nat} (hu : u < L.length) (t : T) (h0 : (gT L u).val = 0) (h1 : t.val ≠ 0) : unk (L.set u t) + 1 = unk L := by
  have he : L = L.take u ++ gT L u :: L.drop (u + 1) := by
    conv => lhs; rw [← List.take_append_drop u L, List.drop_eq_getElem_cons hu]
    unfold gT
    rw [List.getD_eq_getElem?_getD, List.getElem?_eq_getElem hu]; rfl
  have hs : L.set u t = L.take u ++ t :: L.drop (u + 1) := List.set_eq_take_append_cons_drop.trans (if_pos hu)
  have e2 : unk L = unk (L.take u ++ gT L u :: L.drop (u + 1)) := congrArg unk he
  rw [e2, hs]
  unfold unk
  simp only [List.countP_append, List.countP_cons]
  have a : (t.val == 0) = false := by simp [h1]
  have b : ((gT L u).val == 0) = true := by simp [h0]
  rw [a, b]
  simp
  omega
theorem unk_same {L : List T} {u : Nat} (t : T) (h : (t.val == 0) = ((gT L u).val == 0)) : unk (L.set u t) = unk L := by
  by_cases hu : u < L.length
  · have he : L = L.take u ++ gT L u :: L.drop (u + 1) := by
      conv => lhs; rw [← List.take_append_drop u L, List.drop_eq_getElem_cons hu]
      unfold gT
      rw [List.getD_eq_getElem?_getD, List.getElem?_eq_getElem hu]; rfl
    have hs : L.set u t = L.take u ++ t :: L.drop (u + 1) := List.set_eq_take_append_cons_drop.trans (if_pos hu)
    have e2 : unk L = unk (L.take u ++ gT L u :: L.drop (u + 1)) := congrArg unk he
    rw [e2, hs]
    unfold unk
    simp only [List.countP_append, List.countP_cons, h]
  · rw [List.set_eq_of_length_le (by omega)]
/-- A thing's value becomes known. -/
theorem mid_known {L : List T} {todo rem : List Nat} {u : Nat} (h : Mid L todo (u :: rem)) (h0 : (gT L u).val = 0) (v : Nat) (hv : v = worth (gT L u).made (gT L (gT L u).x).val (gT L (gT L u).y).val) (hn : v ≠ 0) :
    Mid (L.set u ((gT L u).setVal v)) (todo ++ [u]) rem ∧ Step (fun _ => False) L (L.set u ((gT L u).setVal v)) := by
  obtain ⟨hu, hm⟩ := h.rem u (List.mem_cons_self)
  have hl : (L.set u ((gT L u).setVal v)).length = L.length := List.length_set
  have gs : gT (L.set u ((gT L u).setVal v)) u = ((gT L u).setVal v) := get_set_self _ hu
  have gn : ∀ k, k ≠ u → gT (L.set u ((gT L u).setVal v)) k = gT L k := fun k hk => get_set_ne _ (Ne.symm hk)
  have gm : ∀ k, (gT (L.set u ((gT L u).setVal v)) k).made = (gT L k).made := fun k => by by_cases e : k = u; (rw [e, gs]; first | done | rfl); (rw [gn k e])
  have gx : ∀ k, (gT (L.set u ((gT L u).setVal v)) k).x = (gT L k).x := fun k => by by_cases e : k = u; (rw [e, gs]; first | done | rfl); (rw [gn k e])
  have gy : ∀ k, (gT (L.set u ((gT L u).setVal v)) k).y = (gT L k).y := fun k => by by_cases e : k = u; (rw [e, gs]; first | done | rfl); (rw [gn k e])
  have gu : ∀ k, (gT (L.set u ((gT L u).setVal v)) k).ups = (gT L k).ups := fun k => by by_cases e : k = u; (rw [e, gs]; first | done | rfl); (rw [gn k e])
  have gv : ∀ k, (gT L k).val ≠ 0 → (gT (L.set u ((gT L u).setVal v)) k).val = (gT L k).val := fun k hk => by
    by_cases e : k = u
    · rw [e] at hk; exact absurd h0 hk
    · rw [gn k e]
  have hv2 : v ≤ 2 := by rw [hv]; exact worth_le _ _ _
  have hp := h.parts u hu hm
  generalize hL' : L.set u ((gT L u).setVal v) = L' at *
  have gvu : (gT L' u).val = v := by rw [gs]; rfl
  refine ⟨⟨fun k => ?_, fun k hk h1 => ?_, fun k hk h1 => ?_, fun k hk => ?_, fun k hk h1 => ?_, fun k hk h1 h2 => ?_, fun k hk h1 h2 => ?_, fun k hk h1 h2 => ?_, fun k w hw => ?_, fun k => ?_, fun t ht => ?_, fun w hw => ?_, ?_, ?_, ?_⟩, ⟨by omega, fun k hk hv => gv k hv, fun k hk _ => ⟨gm k, gx k, gy k⟩⟩⟩
  · by_cases e : k = u
    · rw [e, gvu]; exact hv2
    · rw [gn k e]; exact h.le k
  · rw [gm] at h1
    have := h.known k (by omega) h1
    rw [gv k this]; exact this
  · rw [gm] at h1
    by_cases e : k = u
    · rw [e] at h1; omega
    · rw [gn k e]; exact h.open_ k (by omega) h1
  · rw [gm]; exact h.kinds k (by omega)
  · rw [gm] at h1; rw [gx, gy]; exact h.parts k (by omega) h1
  · rw [gm] at h1
    rw [gm, gx, gy]
    by_cases e : k = u
    · subst e
      rw [gvu, hv]
      rw [hv] at hn
      exact (worth_mono2 hn (fun h2 => gv _ h2) (fun h2 => gv _ h2)).symm
    · rw [gn k e] at h2 ⊢
      have h3 := h.eq1 k (by omega) h1 h2
      rw [h3]
      rw [h3] at h2
      exact (worth_mono2 h2 (fun h4 => gv _ h4) (fun h4 => gv _ h4)).symm
  · rw [gm] at h1
    by_cases e : k = u
    · rw [e, gvu] at h2; exact absurd h2 hn
    · rw [gn k e] at h2
      rw [gm, gx, gy, gu, gu]
      have hup := h.up k (by omega) h1 h2
      by_cases ex : (gT L k).x = u
      · exact .inr (.inl ⟨by rw [ex]; simp, hup.1 (by rw [ex]; exact h0)⟩)
      · by_cases ey : (gT L k).y = u
        · exact .inr (.inr (.inl ⟨by rw [ey]; simp, hup.2 (by rw [ey]; exact h0)⟩))
        · rw [gn _ ex, gn _ ey]
          rcases h.eq0 k (by omega) h1 h2 with h3 | h3 | h3 | h3
          · exact .inl h3
          · exact .inr (.inl ⟨List.mem_append_left _ h3.1, h3.2⟩)
          · exact .inr (.inr (.inl ⟨List.mem_append_left _ h3.1, h3.2⟩))
          · rcases List.mem_cons.1 h3 with h3 | h3
            · exact absurd h3 e
            · exact .inr (.inr (.inr h3))
  · rw [gm] at h1
    by_cases e : k = u
    · rw [e, gvu] at h2; exact absurd h2 hn
    · rw [gn k e] at h2
      rw [gx, gy, gu, gu]
      have hup := h.up k (by omega) h1 h2
      refine ⟨fun h3 => ?_, fun h3 => ?_⟩
      · by_cases ex : (gT L k).x = u
        · rw [ex, gvu] at h3; exact absurd h3 hn
        · rw [gn _ ex] at h3; exact hup.1 h3
      · by_cases ey : (gT L k).y = u
        · rw [ey, gvu] at h3; exact absurd h3 hn
        · rw [gn _ ey] at h3; exact hup.2 h3
  · rw [gu] at hw
    have := h.ups k w hw
    rw [gm]; omega
  · rw [gu]; have := h.many k; omega
  · rcases List.mem_append.1 ht with ht | ht
    · have := h.todo t ht
      rw [gv t this.2]; exact ⟨by omega, this.2⟩
    · have := List.mem_singleton.1 ht
      subst this
      rw [gvu]; exact ⟨by omega, hn⟩
  · have := h.rem w (List.mem_cons_of_mem _ hw)
    rw [gm]; omega
  · have := h.two_; omega
  · rw [gv 0 (by rw [h.no]; decide)]; exact h.no
  · rw [gv 1 (by rw [h.yes]; decide)]; exact h.yes
theorem mid_skip {L : List T} {todo rem : List Nat} {u : Nat} (h : Mid L todo (u :: rem)) (h0 : (gT L u).val ≠ 0 ∨ worth (gT L u).made (gT L (gT L u).x).val (gT L (gT L u).y).val = 0) : Mid L todo rem :=
  { h with
    eq0 := fun k hk h1 h2 => by
      rcases h.eq0 k hk h1 h2 with h3 | h3 | h3 | h3
      · exact .inl h3
      · exact .inr (.inl h3)
      · exact .inr (.inr (.inl h3))
      · rcases List.mem_cons.1 h3 with h3 | h3
        · subst h3
          rcases h0 with h0 | h0
          · exact absurd h2 h0
          · exact .inl h0
        · exact .inr (.inr (.inr h3))
    rem := fun w hw => h.rem w (List.mem_cons_of_mem _ hw) }
theorem set_zero {L : List T} {u : Nat} (h : (gT L u).val = 0) : L.set u ((gT L u).setVal 0) = L := by
  by_cases hu : u < L.length
  · have e : ((gT L u).setVal 0) = L[u] := by
      have : gT L u = L[u] := by unfold gT; rw [List.getD_eq_getElem?_getD, List.getElem?_eq_getElem hu]; rfl
      rw [← this]
      cases h2 : gT L u
      rw [h2] at h
      simp at h
      simp [h, T.setVal]
    rw [e, List.set_getElem_self]
  · rw [List.set_eq_of_length_le (by omega)]
theorem inner_mid : ∀ (us : List Nat) (L : List T) (todo : List Nat), Mid L todo us →
    Mid (inner L todo us).1 (inner L todo us).2 [] ∧ Step (fun _ => False) L (inner L todo us).1 ∧ (inner L todo us).2.length + unk (inner L todo us).1 = todo.length + unk L ∧ (inner L todo us).1.length = L.length
  | [], L, todo, h => ⟨h, Step.refl _ _, rfl, rfl⟩
  | u :: us, L, todo, h => by
    unfold inner
    by_cases h0 : (gT L u).val = 0
    · rw [if_neg (by rw [h0]; simp)]
      by_cases h1 : worth (gT L u).made (gT L (gT L u).x).val (gT L (gT L u).y).val = 0
      · rw [if_neg (by rw [h1]; simp), set_zero h0]
        exact inner_mid us L todo (mid_skip h (.inr h1))
      · rw [if_pos h1]
        obtain ⟨a, b⟩ := mid_known h h0 _ rfl h1
        obtain ⟨c, d, e, f⟩ := inner_mid us _ _ a
        refine ⟨c, b.trans d, ?_, by rw [f, List.length_set]⟩
        rw [e, List.length_append]
        have := unk_set (h.rem u (List.mem_cons_self)).1 ((gT L u).setVal (worth (gT L u).made (gT L (gT L u).x).val (gT L (gT L u).y).val)) h0 h1
        simp only [List.length_singleton]
        omega
    · rw [if_pos h0]
      exact inner_mid us L todo (mid_skip h (.inl h0))
theorem clear_mid {L : List T} {ts : List Nat} {t : Nat} (h : Mid L (t :: ts) []) : Mid (clear L t) ts (gT L t).ups ∧ Step (fun _ => False) L (clear L t) ∧ unk (clear L t) = unk L := by
  obtain ⟨ht, hv⟩ := h.todo t (List.mem_cons_self)
  have gs : gT (clear L t) t = ((gT L t).setUps []) := get_set_self _ ht
  have gn : ∀ k, k ≠ t → gT (clear L t) k = gT L k := fun k hk => get_set_ne _ (Ne.symm hk)
  have gm : ∀ k, (gT (clear L t) k).made = (gT L k).made := fun k => by by_cases e : k = t; (rw [e, gs]; first | done | rfl); (rw [gn k e])
  have gx : ∀ k, (gT (clear L t) k).x = (gT L k).x := fun k => by by_cases e : k = t; (rw [e, gs]; first | done | rfl); (rw [gn k e])
  have gy : ∀ k, (gT (clear L t) k).y = (gT L k).y := fun k => by by_cases e : k = t; (rw [e, gs]; first | done | rfl); (rw [gn k e])
  have gv : ∀ k, (gT (clear L t) k).val = (gT L k).val := fun k => by by_cases e : k = t; (rw [e, gs]; first | done | rfl); (rw [gn k e])
  have gu : ∀ k w, w ∈ (gT (clear L t) k).ups → w ∈ (gT L k).ups := fun k w hw => by
    by_cases e : k = t
    · rw [e, gs] at hw; cases hw
    · rwa [gn k e] at hw
  have gu2 : ∀ k, (gT (clear L t) k).ups.length ≤ (gT L k).ups.length := fun k => by
    by_cases e : k = t
    · rw [e, gs]; exact Nat.zero_le _
    · rw [gn k e]; exact Nat.le_refl _
  have hl : (clear L t).length = L.length := List.length_set
  have hunk : unk (clear L t) = unk L := unk_same _ rfl
  generalize clear L t = L' at *
  refine ⟨⟨fun k => by rw [gv]; exact h.le k, fun k hk h1 => by rw [gm] at h1; rw [gv]; exact h.known k (by omega) h1, fun k hk h1 => by rw [gm] at h1; rw [gv]; exact h.open_ k (by omega) h1, fun k hk => by rw [gm]; exact h.kinds k (by omega),
    fun k hk h1 => by rw [gm] at h1; rw [gx, gy]; exact h.parts k (by omega) h1, fun k hk h1 h2 => by rw [gm] at h1; rw [gv] at h2; rw [gv, gm, gx, gy, gv, gv]; exact h.eq1 k (by omega) h1 h2, fun k hk h1 h2 => ?_, fun k hk h1 h2 => ?_, fun k w hw => ?_, fun k => ?_, fun s hs => ?_, fun w hw => ?_, by have := h.two_; omega, by rw [gv]; exact h.no, by rw [gv]; exact h.yes⟩,
    ⟨by omega, fun k _ _ => gv k, fun k _ _ => ⟨gm k, gx k, gy k⟩⟩, hunk⟩
  · rw [gm] at h1; rw [gv] at h2; rw [gm, gx, gy, gv, gv]
    rcases h.eq0 k (by omega) h1 h2 with h3 | h3 | h3 | h3
    · exact .inl h3
    · by_cases e : (gT L k).x = t
      · exact .inr (.inr (.inr (by rw [← e]; exact h3.2)))
      · rcases List.mem_cons.1 h3.1 with h4 | h4
        · exact absurd h4 e
        · exact .inr (.inl ⟨h4, by rw [gn _ e]; exact h3.2⟩)
    · by_cases e : (gT L k).y = t
      · exact .inr (.inr (.inr (by rw [← e]; exact h3.2)))
      · rcases List.mem_cons.1 h3.1 with h4 | h4
        · exact absurd h4 e
        · exact .inr (.inr (.inl ⟨h4, by rw [gn _ e]; exact h3.2⟩))
    · cases h3
  · rw [gm] at h1; rw [gv] at h2; rw [gx, gy, gv, gv]
    have hup := h.up k (by omega) h1 h2
    refine ⟨fun h3 => ?_, fun h3 => ?_⟩
    · by_cases e : (gT L k).x = t
      · rw [e] at h3; exact absurd h3 hv
      · rw [gn _ e]; exact hup.1 h3
    · by_cases e : (gT L k).y = t
      · rw [e] at h3; exact absurd h3 hv
      · rw [gn _ e]; exact hup.2 h3
  · have := h.ups k w (gu k w hw); rw [gm]; omega
  · have := gu2 k; have := h.many k; omega
  · have := h.todo s (List.mem_cons_of_mem _ hs); rw [gv]; exact ⟨by omega, this.2⟩
  · have := h.ups t w hw; rw [gm]; omega
theorem prop_mid : ∀ (k : Nat) (L : List T) (todo : List Nat), Mid L todo [] → todo.length + unk L < k → ∃ L', prop k L todo = some L' ∧ Inv L' ∧ Step (fun _ => False) L L' ∧ L'.length = L.length
  | 0, _, _, _, h => by omega
  | k + 1, L, [], h, _ => ⟨L, rfl, h, Step.refl _ _, rfl⟩
  | k + 1, L, t :: ts, h, hk => by
    obtain ⟨a, b, c⟩ := clear_mid h
    obtain ⟨d, e, f, g⟩ := inner_mid _ _ _ a
    simp only [List.length_cons] at hk
    obtain ⟨L', h1, h2, h3, h4⟩ := prop_mid k _ _ d (by rw [f, c]; omega)
    exact ⟨L', h1, h2, (b.trans e).trans h3, by rw [h4, g]; exact List.length_set⟩
theorem start_mid {L : List T} (h : Inv L) {x : Nat} (hx : x < L.length) (hm : (gT L x).made = 1) (yes : Bool) : Mid (start L x yes) [x] [] ∧ Step (· = x) L (start L x yes) ∧ (gT (start L x yes) x).made = 0 ∧ (gT (start L x yes) x).val = (if yes then 1 else 2) ∧ (start L x yes).length = L.length := by
  have h0 := h.open_ x hx hm
  obtain ⟨v, hv⟩ : ∃ v, v = (if yes then 1 else 2 : Nat) := ⟨_, rfl⟩
  have hv2 : v = 1 ∨ v = 2 := by rw [hv]; cases yes <;> simp
  unfold start
  rw [← hv]
  have hl : (L.set x ((gT L x).setKnown v)).length = L.length := List.length_set
  have gs : gT (L.set x ((gT L x).setKnown v)) x = ((gT L x).setKnown v) := get_set_self _ hx
  have gn : ∀ k, k ≠ x → gT (L.set x ((gT L x).setKnown v)) k = gT L k := fun k hk => get_set_ne _ (Ne.symm hk)
  have gu : ∀ k, (gT (L.set x ((gT L x).setKnown v)) k).ups = (gT L k).ups := fun k => by by_cases e : k = x; (rw [e, gs]; first | done | rfl); (rw [gn k e])
  have gv : ∀ k, (gT L k).val ≠ 0 → (gT (L.set x ((gT L x).setKnown v)) k).val = (gT L k).val := fun k hk => by
    by_cases e : k = x
    · rw [e] at hk; exact absurd h0 hk
    · rw [gn k e]
  generalize L.set x ((gT L x).setKnown v) = L' at *
  have gvx : (gT L' x).val = v := by rw [gs]; rfl
  have gmx : (gT L' x).made = 0 := by rw [gs]; rfl
  have nx : ∀ k, 2 ≤ (gT L' k).made → k ≠ x := fun k hk e => by rw [e, gmx] at hk; omega
  have nx2 : ∀ k, 2 ≤ (gT L k).made → k ≠ x := fun k hk e => by rw [e, hm] at hk; omega
  refine ⟨⟨fun k => ?_, fun k hk h1 => ?_, fun k hk h1 => ?_, fun k hk => ?_, fun k hk h1 => ?_, fun k hk h1 h2 => ?_, fun k hk h1 h2 => ?_, fun k hk h1 h2 => ?_, fun k w hw => ?_, fun k => ?_, fun t ht => ?_, fun w hw => (by cases hw), (by have := h.two_; omega), ?_, ?_⟩, ⟨by omega, fun k hk hv => gv k hv, fun k hk hs => (by rw [gn k hs]; exact ⟨rfl, rfl, rfl⟩)⟩, gmx, gvx, hl⟩
  · by_cases e : k = x
    · rw [e, gvx]; omega
    · rw [gn k e]; exact h.le k
  · by_cases e : k = x
    · rw [e, gvx]; omega
    · rw [gn k e] at h1 ⊢; exact h.known k (by omega) h1
  · by_cases e : k = x
    · rw [e, gmx] at h1; omega
    · rw [gn k e] at h1 ⊢; exact h.open_ k (by omega) h1
  · by_cases e : k = x
    · rw [e, gmx]; omega
    · rw [gn k e]; exact h.kinds k (by omega)
  · have e := nx k h1
    rw [gn k e] at h1 ⊢; exact h.parts k (by omega) h1
  · have e := nx k h1
    rw [gn k e] at h1 h2 ⊢
    have h3 := h.eq1 k (by omega) h1 h2
    rw [h3]
    rw [h3] at h2
    exact (worth_mono2 h2 (fun h4 => gv _ h4) (fun h4 => gv _ h4)).symm
  · have e := nx k h1
    rw [gn k e] at h1 h2 ⊢
    rw [gu, gu]
    have hup := h.up k (by omega) h1 h2
    by_cases ex : (gT L k).x = x
    · exact .inr (.inl ⟨by rw [ex]; simp, hup.1 (by rw [ex]; exact h0)⟩)
    · by_cases ey : (gT L k).y = x
      · exact .inr (.inr (.inl ⟨by rw [ey]; simp, hup.2 (by rw [ey]; exact h0)⟩))
      · rw [gn _ ex, gn _ ey]
        have h3 := Inv.eq h k (by omega) h1
        exact .inl (by rw [← h3]; exact h2)
  · have e := nx k h1
    rw [gn k e] at h1 h2 ⊢
    rw [gu, gu]
    have hup := h.up k (by omega) h1 h2
    refine ⟨fun h3 => ?_, fun h3 => ?_⟩
    · by_cases ex : (gT L k).x = x
      · rw [ex, gvx] at h3; omega
      · rw [gn _ ex] at h3; exact hup.1 h3
    · by_cases ey : (gT L k).y = x
      · rw [ey, gvx] at h3; omega
      · rw [gn _ ey] at h3; exact hup.2 h3
  · rw [gu] at hw
    have := h.ups k w hw
    rw [gn w (nx2 w this.2)]; omega
  · rw [gu]; have := h.many k; omega
  · have := List.mem_singleton.1 ht
    subst this
    rw [gvx]; omega
  · rw [gv 0 (by rw [h.no]; decide)]; exact h.no
  · rw [gv 1 (by rw [h.yes]; decide)]; exact h.yes
/-- Set, whole. -/
theorem set_inv {L : List T} (h : Inv L) {x : Nat} (hx : x < L.length) (hm : (gT L x).made = 1) (yes : Bool) (k : Nat) (hk : L.length + 1 < k) :
    ∃ L', prop k (start L x yes) [x] = some L' ∧ Inv L' ∧ Step (· = x) L L' ∧ (gT L' x).made = 0 ∧ (gT L' x).val = (if yes then 1 else 2) ∧ L'.length = L.length := by
  obtain ⟨a, b, c, d, e⟩ := start_mid h hx hm yes
  have := unk_le (start L x yes)
  obtain ⟨L', h1, h2, h3, h4⟩ := prop_mid k _ _ a (by simp only [List.length_singleton]; omega)
  have hx' : x < (start L x yes).length := by omega
  refine ⟨L', h1, h2, b.trans (h3.mono (fun _ hf => hf.elim)), ?_, ?_, by omega⟩
  · rw [(h3.made x hx' (fun hf => hf)).1]; exact c
  · rw [h3.val x hx' (by rw [d]; cases yes <;> simp)]; exact d

/-! ### what is made -/
theorem get_beyond {L : List T} {k : Nat} (h : L.length ≤ k) : gT L k = none_ := by
  unfold gT; rw [List.getD_eq_getElem?_getD, List.getElem?_eq_none h]; rfl
theorem valT_in {L : List T} {x : Int} (h0 : 0 ≤ x) (h1 : x < L.length) : valT L x = (gT L x.toNat).val := by unfold valT; rw [if_neg (by omega)]
theorem valT_out {L : List T} {x : Int} (h : x < 0 ∨ (L.length : Int) ≤ x) : valT L x = 2 := by unfold valT; rw [if_pos h]
theorem valT_le {L : List T} (h : Inv L) (x : Int) : valT L x ≤ 2 := by
  unfold valT
  split
  · omega
  · exact h.le _
theorem valT_step {S : Nat → Prop} {L L' : List T} (h : Step S L L') {x : Int} (hx : x < L.length) (hv : valT L x ≠ 0) : valT L' x = valT L x := by
  by_cases h0 : x < 0
  · rw [valT_out (.inl h0), valT_out (.inl h0)]
  · have hl := h.len
    rw [valT_in (by omega) hx] at hv ⊢
    rw [valT_in (by omega) (by omega)]
    exact h.val _ (by omega) hv
theorem inv_var {L : List T} (h : Inv L) : Inv (mkVar L) ∧ Step (fun _ => False) L (mkVar L) := by
  have hl : (mkVar L).length = L.length + 1 := by simp [mkVar]
  have ga : ∀ k, k < L.length → gT (mkVar L) k = gT L k := fun k hk => get_app _ hk
  have gl : gT (mkVar L) L.length = ⟨1, 0, 0, 0, []⟩ := get_last _ _
  have gb : ∀ k, L.length < k → gT (mkVar L) k = none_ := fun k hk => get_beyond (by omega)
  have htw := h.two_
  generalize mkVar L = L' at *
  have lt_of : ∀ k, k < L'.length → 2 ≤ (gT L' k).made → k < L.length := fun k hk hm => by
    by_cases e : k = L.length
    · rw [e, gl] at hm; exact absurd hm (by decide)
    · omega
  refine ⟨⟨fun k => ?_, fun k hk h1 => ?_, fun k hk h1 => ?_, fun k hk => ?_, fun k hk h1 => ?_, fun k hk h1 h2 => ?_, fun k hk h1 h2 => ?_, fun k hk h1 h2 => ?_, fun k w hw => ?_, fun k => ?_, fun t ht => (by cases ht), fun w hw => (by cases hw), by omega, ?_, ?_⟩, ⟨by omega, fun k hk _ => by rw [ga k hk], fun k hk _ => by rw [ga k hk]; exact ⟨rfl, rfl, rfl⟩⟩⟩
  · rcases Nat.lt_trichotomy k L.length with e | e | e
    · rw [ga k e]; exact h.le k
    · rw [e, gl]; exact Nat.zero_le _
    · rw [gb k e]; exact Nat.zero_le _
  · by_cases e : k < L.length
    · rw [ga k e] at h1 ⊢; exact h.known k e h1
    · rw [show k = L.length by omega, gl] at h1; cases h1
  · by_cases e : k < L.length
    · rw [ga k e] at h1 ⊢; exact h.open_ k e h1
    · rw [show k = L.length by omega, gl]
  · by_cases e : k < L.length
    · rw [ga k e]; exact h.kinds k e
    · rw [show k = L.length by omega, gl]; decide
  · have e := lt_of k hk h1
    rw [ga k e] at h1 ⊢; exact h.parts k e h1
  · have e := lt_of k hk h1
    rw [ga k e] at h1 h2 ⊢
    have hp := h.parts k e h1
    rw [ga _ (by omega), ga _ (by omega)]
    exact h.eq1 k e h1 h2
  · have e := lt_of k hk h1
    rw [ga k e] at h1 h2 ⊢
    have hp := h.parts k e h1
    rw [ga _ (by omega), ga _ (by omega)]
    exact h.eq0 k e h1 h2
  · have e := lt_of k hk h1
    rw [ga k e] at h1 h2 ⊢
    have hp := h.parts k e h1
    rw [ga _ (by omega), ga _ (by omega)]
    exact h.up k e h1 h2
  · by_cases e : k < L.length
    · rw [ga k e] at hw
      have := h.ups k w hw
      rw [ga w this.1]; omega
    · by_cases e2 : k = L.length
      · rw [e2, gl] at hw; cases hw
      · rw [gb k (by omega)] at hw; cases hw
  · by_cases e : k < L.length
    · rw [ga k e]; have := h.many k; omega
    · by_cases e2 : k = L.length
      · rw [e2, gl]; exact Nat.zero_le _
      · rw [gb k (by omega)]; exact Nat.zero_le _
  · rw [ga 0 (by omega)]; exact h.no
  · rw [ga 1 (by omega)]; exact h.yes
def newT (L : List T) (m x y : Nat) : List T := addUp (addUp (L ++ [⟨m, 0, x, y, []⟩]) x L.length) y L.length
theorem newT_get {L : List T} {m x y : Nat} (hx : x < L.length) (hy : y < L.length) (hxy : x ≠ y) :
    (newT L m x y).length = L.length + 1 ∧ gT (newT L m x y) L.length = ⟨m, 0, x, y, []⟩ ∧
    (∀ k, k < L.length → gT (newT L m x y) k = (gT L k).setUps (if k = x ∨ k = y then (gT L k).ups ++ [L.length] else (gT L k).ups)) := by
  unfold newT addUp
  refine ⟨by simp, ?_, fun k hk => ?_⟩
  · rw [get_set_ne _ (by omega), get_set_ne _ (by omega), get_last]
  · by_cases e2 : k = y
    · subst e2
      rw [get_set_self _ (by simp; omega), get_set_ne _ hxy, get_app _ hk, if_pos (.inr rfl)]
    · rw [get_set_ne _ (Ne.symm e2)]
      by_cases e1 : k = x
      · subst e1
        rw [get_set_self _ (by simp; omega), get_app _ hk, if_pos (.inl rfl)]
      · rw [get_set_ne _ (Ne.symm e1), get_app _ hk, if_neg (by omega)]
        rfl
theorem inv_new {L : List T} (h : Inv L) {m x y : Nat} (hm : m = 2 ∨ m = 3) (hx : x < L.length) (hy : y < L.length) (hxy : x ≠ y) (vx : (gT L x).val = 0) (vy : (gT L y).val = 0) :
    Inv (newT L m x y) ∧ Step (fun _ => False) L (newT L m x y) := by
  obtain ⟨hl, gl, ga⟩ := newT_get (m := m) hx hy hxy
  have gb : ∀ k, L.length < k → gT (newT L m x y) k = none_ := fun k hk => get_beyond (by omega)
  have htw := h.two_
  generalize newT L m x y = L' at *
  have gm : ∀ k, k < L.length → (gT L' k).made = (gT L k).made := fun k hk => by rw [ga k hk]; rfl
  have gv : ∀ k, k < L.length → (gT L' k).val = (gT L k).val := fun k hk => by rw [ga k hk]; rfl
  have gx : ∀ k, k < L.length → (gT L' k).x = (gT L k).x := fun k hk => by rw [ga k hk]; rfl
  have gy : ∀ k, k < L.length → (gT L' k).y = (gT L k).y := fun k hk => by rw [ga k hk]; rfl
  have gu : ∀ k, k < L.length → ∀ u, u ∈ (gT L k).ups → u ∈ (gT L' k).ups := fun k hk u hu => by
    rw [ga k hk]
    show u ∈ (if k = x ∨ k = y then (gT L k).ups ++ [L.length] else (gT L k).ups)
    split
    · exact List.mem_append_left _ hu
    · exact hu
  have gux : ∀ k, k < L.length → (k = x ∨ k = y) → L.length ∈ (gT L' k).ups := fun k hk he => by
    rw [ga k hk]
    show L.length ∈ (if k = x ∨ k = y then (gT L k).ups ++ [L.length] else (gT L k).ups)
    rw [if_pos he]; simp
  have guo : ∀ k, k < L.length → ∀ u, u ∈ (gT L' k).ups → u ∈ (gT L k).ups ∨ u = L.length := fun k hk u hu => by
    rw [ga k hk] at hu
    have hu' : u ∈ (if k = x ∨ k = y then (gT L k).ups ++ [L.length] else (gT L k).ups) := hu
    split at hu'
    · rcases List.mem_append.1 hu' with h1 | h1
      · exact .inl h1
      · exact .inr (List.mem_singleton.1 h1)
    · exact .inl hu'
  have gul : ∀ k, k < L.length → (gT L' k).ups.length ≤ (gT L k).ups.length + 1 := fun k hk => by
    rw [ga k hk]
    show (if k = x ∨ k = y then (gT L k).ups ++ [L.length] else (gT L k).ups).length ≤ _
    split
    · simp
    · omega
  refine ⟨⟨fun k => ?_, fun k hk h1 => ?_, fun k hk h1 => ?_, fun k hk => ?_, fun k hk h1 => ?_, fun k hk h1 h2 => ?_, fun k hk h1 h2 => ?_, fun k hk h1 h2 => ?_, fun k w hw => ?_, fun k => ?_, fun t ht => (by cases ht), fun w hw => (by cases hw), by omega, ?_, ?_⟩, ⟨by omega, fun k hk _ => gv k hk, fun k hk _ => ⟨gm k hk, gx k hk, gy k hk⟩⟩⟩
  · rcases Nat.lt_trichotomy k L.length with e | e | e
    · rw [gv k e]; exact h.le k
    · rw [e, gl]; exact Nat.zero_le _
    · rw [gb k e]; exact Nat.zero_le _
  · by_cases e : k < L.length
    · rw [gm k e] at h1; rw [gv k e]; exact h.known k e h1
    · rw [show k = L.length by omega, gl] at h1
      rcases hm with rfl | rfl <;> cases h1
  · by_cases e : k < L.length
    · rw [gm k e] at h1; rw [gv k e]; exact h.open_ k e h1
    · rw [show k = L.length by omega, gl]
  · by_cases e : k < L.length
    · rw [gm k e]; exact h.kinds k e
    · rw [show k = L.length by omega, gl]
      show m ≤ 3
      omega
  · by_cases e : k < L.length
    · rw [gm k e] at h1; rw [gx k e, gy k e]; exact h.parts k e h1
    · rw [show k = L.length by omega, gl]; exact ⟨hx, hy⟩
  · by_cases e : k < L.length
    · rw [gm k e] at h1
      rw [gv k e] at h2
      have hp := h.parts k e h1
      rw [gv k e, gm k e, gx k e, gy k e, gv _ (by omega), gv _ (by omega)]
      exact h.eq1 k e h1 h2
    · rw [show k = L.length by omega, gl] at h2; exact absurd rfl h2
  · by_cases e : k < L.length
    · rw [gm k e] at h1
      rw [gv k e] at h2
      have hp := h.parts k e h1
      rw [gm k e, gx k e, gy k e, gv _ (by omega), gv _ (by omega)]
      rcases h.eq0 k e h1 h2 with h3 | h3 | h3 | h3
      · exact .inl h3
      · cases h3.1
      · cases h3.1
      · cases h3
    · rw [show k = L.length by omega, gl]
      show worth m (gT L' x).val (gT L' y).val = 0 ∨ _
      rw [gv x hx, gv y hy, vx, vy]
      exact .inl (by rcases hm with rfl | rfl <;> rfl)
  · by_cases e : k < L.length
    · rw [gm k e] at h1
      rw [gv k e] at h2
      have hp := h.parts k e h1
      rw [gx k e, gy k e, gv _ (by omega), gv _ (by omega)]
      have := h.up k e h1 h2
      exact ⟨fun h3 => gu _ (by omega) _ (this.1 h3), fun h3 => gu _ (by omega) _ (this.2 h3)⟩
    · rw [show k = L.length by omega, gl]
      exact ⟨fun _ => gux x hx (.inl rfl), fun _ => gux y hy (.inr rfl)⟩
  · by_cases e : k < L.length
    · rcases guo k e w hw with h1 | h1
      · have := h.ups k w h1
        rw [gm w this.1]; omega
      · rw [h1, gl]
        exact ⟨by omega, (by show 2 ≤ m; omega)⟩
    · by_cases e2 : k = L.length
      · rw [e2, gl] at hw; cases hw
      · rw [gb k (by omega)] at hw; cases hw
  · by_cases e : k < L.length
    · have := gul k e; have := h.many k; omega
    · by_cases e2 : k = L.length
      · rw [e2, gl]; exact Nat.zero_le _
      · rw [gb k (by omega)]; exact Nat.zero_le _
  · rw [gv 0 (by omega)]; exact h.no
  · rw [gv 1 (by omega)]; exact h.yes
/-- How a thing t stands to what it is made of. -/
def Rel (L : List T) (t : Int) (m : Nat) (x y : Int) : Prop :=
  (worth m (valT L x) (valT L y) ≠ 0 ∧ valT L t = worth m (valT L x) (valT L y)) ∨ (valT L x ≠ 0 ∧ (∀ w, w ≤ 2 → worth m (valT L x) w = w) ∧ t = y) ∨ (valT L y ≠ 0 ∧ (∀ w, w ≤ 2 → worth m w (valT L y) = w) ∧ t = x) ∨ (x = y ∧ t = x) ∨
  (0 ≤ t ∧ 0 ≤ x ∧ 0 ≤ y ∧ 2 ≤ (gT L t.toNat).made ∧ (gT L t.toNat).made = m ∧ (gT L t.toNat).x = x.toNat ∧ (gT L t.toNat).y = y.toNat)
theorem worth_same {m v : Nat} (hv : v ≤ 2) : worth m v v = v := by
  have : v = 0 ∨ v = 1 ∨ v = 2 := by omega
  unfold worth
  rcases this with rfl | rfl | rfl <;> split <;> simp
theorem worth_neutral {m v w : Nat} (hv : v ≤ 2) (hw : w ≤ 2) (h0 : v ≠ 0) (h : worth m v w = 0) : ∀ u, u ≤ 2 → worth m v u = u := by
  intro u hu
  have h1 : v = 1 ∨ v = 2 := by omega
  have h2 : w = 0 ∨ w = 1 ∨ w = 2 := by omega
  have h3 : u = 0 ∨ u = 1 ∨ u = 2 := by omega
  unfold worth at h ⊢
  rcases h1 with rfl | rfl <;> rcases h2 with rfl | rfl | rfl <;> rcases h3 with rfl | rfl | rfl <;> split at h <;> simp_all
theorem Rel.val {L : List T} (h : Inv L) {t : Int} {m : Nat} {x y : Int} (hr : Rel L t m x y) (ht : t < L.length) : valT L t = worth m (valT L x) (valT L y) := by
  rcases hr with h1 | ⟨_, h1, rfl⟩ | ⟨_, h1, rfl⟩ | ⟨rfl, rfl⟩ | ⟨h0, hx, hy, h2, h3, h4, h5⟩
  · exact h1.2
  · exact (h1 _ (valT_le h _)).symm
  · exact (h1 _ (valT_le h _)).symm
  · exact (worth_same (valT_le h _)).symm
  · have hp := h.parts t.toNat (by omega) h2
    rw [valT_in h0 ht, Inv.eq h t.toNat (by omega) h2, h3, h4, h5, valT_in hx (by omega), valT_in hy (by omega)]
theorem Rel.step {S : Nat → Prop} {L L' : List T} (hs : Step S L L') (hS : ∀ k, S k → (gT L k).made ≤ 1) {t : Int} {m : Nat} {x y : Int} (hr : Rel L t m x y) (ht : t < L.length) (hx : x < L.length) (hy : y < L.length) : Rel L' t m x y := by
  rcases hr with ⟨h1, h2⟩ | ⟨h0, h1, rfl⟩ | ⟨h0, h1, rfl⟩ | ⟨rfl, rfl⟩ | ⟨h0, hx', hy', h2, h3, h4, h5⟩
  · left
    have e : worth m (valT L' x) (valT L' y) = worth m (valT L x) (valT L y) := worth_mono2 h1 (fun h => valT_step hs hx h) (fun h => valT_step hs hy h)
    rw [e]
    exact ⟨h1, by rw [← h2]; exact valT_step hs ht (by rw [h2]; exact h1)⟩
  · right; left
    rw [valT_step hs hx h0]
    exact ⟨h0, h1, rfl⟩
  · right; right; left
    rw [valT_step hs hy h0]
    exact ⟨h0, h1, rfl⟩
  · exact .inr (.inr (.inr (.inl ⟨rfl, rfl⟩)))
  · right; right; right; right
    obtain ⟨a, b, c⟩ := hs.made t.toNat (by omega) (fun h => by have := hS _ h; omega)
    rw [a, b, c]
    exact ⟨h0, hx', hy', h2, h3, h4, h5⟩
/-- Both, or one of both. -/
theorem two_inv {L : List T} (h : Inv L) {m : Nat} (hm : m = 2 ∨ m = 3) {x y : Int} (hx : x < L.length) (hy : y < L.length) :
    Inv (two L m x y).1 ∧ Step (fun _ => False) L (two L m x y).1 ∧ Rel (two L m x y).1 (two L m x y).2 m x y ∧ (two L m x y).2 < (two L m x y).1.length ∧ (two L m x y).1.length ≤ L.length + 1 := by
  have h2 := h.two_
  unfold two
  split
  · rename_i hw
    show Inv L ∧ Step _ L L ∧ Rel L 1 m x y ∧ (1 : Int) < (L.length : Int) ∧ L.length ≤ L.length + 1
    exact ⟨h, Step.refl _ _, .inl ⟨by rw [hw]; decide, by rw [hw, valT_in (by omega) (by omega)]; exact h.yes⟩, by omega, by omega⟩
  · rename_i hw1
    split
    · rename_i hw
      show Inv L ∧ Step _ L L ∧ Rel L 0 m x y ∧ (0 : Int) < (L.length : Int) ∧ L.length ≤ L.length + 1
      exact ⟨h, Step.refl _ _, .inl ⟨by rw [hw]; decide, by rw [hw, valT_in (by omega) (by omega)]; exact h.no⟩, by omega, by omega⟩
    · rename_i hw2
      have hw0 : worth m (valT L x) (valT L y) = 0 := by have := worth_le m (valT L x) (valT L y); omega
      split
      · rename_i hv
        show Inv L ∧ Step _ L L ∧ Rel L y m x y ∧ y < (L.length : Int) ∧ L.length ≤ L.length + 1
        exact ⟨h, Step.refl _ _, .inr (.inl ⟨hv, worth_neutral (valT_le h _) (valT_le h _) hv hw0, rfl⟩), hy, by omega⟩
      · rename_i hv
        split
        · rename_i hu
          show Inv L ∧ Step _ L L ∧ Rel L x m x y ∧ x < (L.length : Int) ∧ L.length ≤ L.length + 1
          rcases hu with hu | rfl
          · refine ⟨h, Step.refl _ _, .inr (.inr (.inl ⟨hu, fun w hw => ?_, rfl⟩)), hx, by omega⟩
            rw [worth_comm]
            exact worth_neutral (valT_le h _) (valT_le h _) hu (by rw [worth_comm]; exact hw0) w hw
          · exact ⟨h, Step.refl _ _, .inr (.inr (.inr (.inl ⟨rfl, rfl⟩))), hx, by omega⟩
        · rename_i hu
          have hv0 : valT L x = 0 := by omega
          have hu0 : valT L y = 0 := by omega
          have hx0 : 0 ≤ x := by
            by_cases e : 0 ≤ x
            · exact e
            · rw [valT_out (.inl (by omega))] at hv0; cases hv0
          have hy0 : 0 ≤ y := by
            by_cases e : 0 ≤ y
            · exact e
            · rw [valT_out (.inl (by omega))] at hu0; cases hu0
          have hxy : x ≠ y := fun e => hu (.inr e)
          rw [valT_in hx0 hx] at hv0
          rw [valT_in hy0 hy] at hu0
          obtain ⟨a, b⟩ := inv_new h hm (x := x.toNat) (y := y.toNat) (by omega) (by omega) (by omega) hv0 hu0
          obtain ⟨c, d, _⟩ := newT_get (L := L) (m := m) (x := x.toNat) (y := y.toNat) (by omega) (by omega) (by omega)
          refine ⟨a, b, .inr (.inr (.inr (.inr ⟨by omega, hx0, hy0, ?_⟩))), ?_, ?_⟩
          · show 2 ≤ (gT (newT L m x.toNat y.toNat) (L.length : Int).toNat).made ∧ _
            rw [Int.toNat_natCast, show addUp (addUp (L ++ [⟨m, 0, x.toNat, y.toNat, []⟩]) x.toNat L.length) y.toNat L.length = newT L m x.toNat y.toNat from rfl, d]
            exact ⟨(by show 2 ≤ m; omega), rfl, rfl, rfl⟩
          · show (L.length : Int) < ((newT L m x.toNat y.toNat).length : Nat)
            omega
          · show (newT L m x.toNat y.toNat).length ≤ _
            omega
/-- One of some: each in turn. -/
inductive Chain (L : List T) : Int → List Int → Int → Prop
  | nil (t : Int) : Chain L t [] t
  | cons {s u t x : Int} {xs : List Int} : Rel L u 3 s x → u < L.length → s < L.length → x < L.length → Chain L u xs t → Chain L s (x :: xs) t
theorem Chain.step {S : Nat → Prop} {L L' : List T} (hs : Step S L L') (hS : ∀ k, S k → (gT L k).made ≤ 1) {s t : Int} {xs : List Int} (h : Chain L s xs t) : Chain L' s xs t := by
  have hl := hs.len
  induction h with
  | nil t => exact Chain.nil t
  | cons hr h1 h2 h3 _ ih => exact Chain.cons (hr.step hs hS h1 h2 h3) (by omega) (by omega) (by omega) ih
def orVal (v : Nat) (l : List Nat) : Nat := l.foldl (worth 3) v
theorem Chain.val {L : List T} (h : Inv L) {s t : Int} {xs : List Int} (hc : Chain L s xs t) : valT L t = orVal (valT L s) (xs.map (valT L)) := by
  induction hc with
  | nil t => rfl
  | cons hr h1 h2 h3 _ ih =>
    rw [ih, hr.val h h1]
    rfl
theorem orAll_inv : ∀ (xs : List Int) (L : List T) (s : Int), Inv L → s < L.length → (∀ x ∈ xs, x < L.length) →
    Inv (orAll L s xs).1 ∧ Step (fun _ => False) L (orAll L s xs).1 ∧ Chain (orAll L s xs).1 s xs (orAll L s xs).2 ∧ (orAll L s xs).2 < (orAll L s xs).1.length ∧ (orAll L s xs).1.length ≤ L.length + xs.length
  | [], L, s, h, hs, _ => ⟨h, Step.refl _ _, Chain.nil _, hs, by simp [orAll]⟩
  | x :: xs, L, s, h, hs, hx => by
    obtain ⟨a, b, c, d, e⟩ := two_inv h (.inr rfl : (3 : Nat) = 2 ∨ 3 = 3) hs (hx x (List.mem_cons_self))
    have hl := b.len
    obtain ⟨a', b', c', d', e'⟩ := orAll_inv xs _ _ a d (fun z hz => by have := hx z (List.mem_cons_of_mem _ hz); omega)
    have hl' := b'.len
    have hx0 := hx x (List.mem_cons_self)
    refine ⟨a', b.trans b', Chain.cons (c.step b' (fun _ hf => hf.elim) d (by omega) (by omega)) (by show (two L 3 s x).2 < ((orAll (two L 3 s x).1 (two L 3 s x).2 xs).1.length : Nat); omega) ?_ ?_ c', d', ?_⟩
    · show s < ((orAll (two L 3 s x).1 (two L 3 s x).2 xs).1.length : Nat)
      omega
    · show x < ((orAll (two L 3 s x).1 (two L 3 s x).2 xs).1.length : Nat)
      omega
    · show (orAll (two L 3 s x).1 (two L 3 s x).2 xs).1.length ≤ _
      rw [List.length_cons]
      omega
end Go.Proofs.Ytjfoppmpiklfiab.Truth
