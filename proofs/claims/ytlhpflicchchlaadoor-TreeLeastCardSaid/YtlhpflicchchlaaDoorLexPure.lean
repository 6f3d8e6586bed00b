/- Tokens, byte by byte, over whatever machines go through strings, numbers and words: they lie one behind the other, and what lies between them is blank. Conditions: a machine's fault is no end. -/
import Derived.Handy
namespace Go.Proofs.YtlhpflicchchlaaDoor.LexPure
set_option linter.unusedVariables false
set_option linter.unusedSimpArgs false
inductive Res where
  | on | done (t : ByteArray) | past (t : ByteArray) | bad (f : Int)
/-- The machines within tokens: how one is set up for a kind and a first byte, what a byte does to it, which text a number has that is whole. -/
structure Sub (σ : Type) where
  start : σ → Int → Int → σ
  go : σ → Int → Int → σ × Res
  close : σ → Option ByteArray
structure Tk where
  kind : Int
  begun : Bool
  frm : Nat
  to : Nat
  text : ByteArray
structure St (σ : Type) where
  at_ : Nat
  frm : Nat
  within : Int
  sub : σ
def blankB (c : Int) : Bool := decide (c = 32 ∨ c = 9 ∨ c = 10 ∨ c = 13)
def kindOf (c : Int) : Int :=
  if c = 32 ∨ c = 9 ∨ c = 10 ∨ c = 13 then 1 else if c = 91 then 2 else if c = 93 then 3 else if c = 123 then 4 else if c = 125 then 5 else if c = 44 then 6 else if c = 58 then 7 else if c = 34 then 8
  else if c = 45 then 9 else if c = 116 ∨ c = 102 ∨ c = 110 then 10 else if 48 ≤ c ∧ c ≤ 57 then 9 else 0
theorem kind_blank (c : Int) (h : kindOf c = 1) : blankB c = true := by
  unfold kindOf at h
  unfold blankB
  split at h
  · rename_i h1; exact decide_eq_true h1
  · repeat' split at h
    all_goals omega
def beginV {σ : Type} (u : Sub σ) (s : St σ) (c : Int) : St σ × List Tk × Int :=
  if kindOf c = 0 then (s, [], 8)
  else if kindOf c = 1 then (s, [], 0)
  else if kindOf c = 8 ∨ kindOf c = 9 ∨ kindOf c = 10 then ({ s with within := kindOf c, frm := s.at_, sub := u.start s.sub (kindOf c) c }, [⟨kindOf c, true, s.at_, s.at_, ⟨#[]⟩⟩], 0)
  else (s, [⟨kindOf c, false, s.at_, s.at_ + 1, ⟨#[]⟩⟩], 0)
def lookV {σ : Type} (u : Sub σ) (s : St σ) (c : Int) : St σ × List Tk × Int :=
  if s.within = 0 then beginV u s c
  else match u.go s.sub s.within c with
    | (z, .on) => ({ s with sub := z }, [], 0)
    | (z, .done t) => ({ s with sub := z, within := 0 }, [⟨s.within, false, s.frm, s.at_ + 1, t⟩], 0)
    | (z, .past t) => ((beginV u { s with sub := z, within := 0 } c).1, ⟨s.within, false, s.frm, s.at_, t⟩ :: (beginV u { s with sub := z, within := 0 } c).2.1, (beginV u { s with sub := z, within := 0 } c).2.2)
    | (z, .bad f) => ({ s with sub := z }, [], f)
/-- All tokens, the verdict's kind and its place. -/
def allV {σ : Type} (u : Sub σ) : List Int → St σ → List Tk × Int × Nat
  | [], s => if s.within = 0 then ([], 1, s.at_) else if s.within = 9 then (match u.close s.sub with
      | some t => ([⟨9, false, s.frm, s.at_, t⟩], 1, s.at_)
      | none => ([], 10, s.at_)) else ([], 10, s.at_)
  | c :: r, s => if (lookV u s c).2.2 ≠ 0 then ((lookV u s c).2.1, (lookV u s c).2.2, s.at_)
    else ((lookV u s c).2.1 ++ (allV u r { (lookV u s c).1 with at_ := s.at_ + 1 }).1, (allV u r { (lookV u s c).1 with at_ := s.at_ + 1 }).2)
/-- What the law does with a token: where the last one ended, where one is open; none: it says no. -/
def spanStep (b : List Int) (x : Nat × Option Nat) (t : Tk) : Option (Nat × Option Nat) :=
  if t.begun = true then (if x.2 ≠ none ∨ t.frm < x.1 ∨ t.to ≠ t.frm ∨ b.length ≤ t.frm then none else some (x.1, some t.frm))
  else if (x.2 ≠ none ∧ x.2 ≠ some t.frm) ∨ t.frm < x.1 ∨ t.to ≤ t.frm ∨ b.length < t.to then none
  else if ((b.drop x.1).take (t.frm - x.1)).all blankB = true then some (t.to, none) else none
def spans (b : List Int) : List Tk → Nat × Option Nat → Option (Nat × Option Nat)
  | [], x => some x
  | t :: r, x => (spanStep b x t).bind (spans b r)
theorem spans_app (b : List Int) : ∀ (l m : List Tk) (x y : Nat × Option Nat), spans b l x = some y → spans b (l ++ m) x = spans b m y
  | [], m, x, y, h => by obtain rfl := Option.some.inj h; rfl
  | t :: l, m, x, y, h => by
    obtain ⟨z, h1, h2⟩ := Option.bind_eq_some_iff.1 h
    show (spanStep b x t).bind (spans b (l ++ m)) = _
    rw [h1]
    exact spans_app b l m z y h2
/-- Where one is ahead of the byte at s.at_: outside of tokens all since the last one is blank; within one, all from the last one to where it began. -/
structure Inv {σ : Type} (b : List Int) (s : St σ) (x : Nat × Option Nat) : Prop where
  top : s.at_ ≤ b.length
  out : s.within = 0 → x.2 = none ∧ x.1 ≤ s.at_ ∧ ((b.drop x.1).take (s.at_ - x.1)).all blankB = true
  wit : s.within ≠ 0 → x.2 = some s.frm ∧ x.1 ≤ s.frm ∧ s.frm < s.at_ ∧ ((b.drop x.1).take (s.frm - x.1)).all blankB = true
def Bads {σ : Type} (u : Sub σ) : Prop := ∀ z w c f, (u.go z w c).2 = .bad f → f ≠ 0 ∧ f ≠ 1
theorem blank_more {b : List Int} {A i : Nat} {c : Int} (h1 : A ≤ i) (h2 : ((b.drop A).take (i - A)).all blankB = true) (hc : b[i]? = some c) (hb : blankB c = true) : ((b.drop A).take (i + 1 - A)).all blankB = true := by
  have e : (b.drop A).take (i + 1 - A) = (b.drop A).take (i - A) ++ [c] := by
    rw [show i + 1 - A = (i - A) + 1 by omega, List.take_add_one, List.getElem?_drop, show A + (i - A) = i by omega, hc]
    rfl
  rw [e, List.all_append, h2]
  simp [hb]
/-- One byte outside of tokens. -/
theorem begin_inv {σ : Type} (u : Sub σ) (b : List Int) (s : St σ) (x : Nat × Option Nat) (c : Int) (hc : b[s.at_]? = some c) (hw : s.within = 0) (h : Inv b s x) :
    ((beginV u s c).2.2 = 0 ∧ ∃ y, spans b (beginV u s c).2.1 x = some y ∧ Inv b { (beginV u s c).1 with at_ := s.at_ + 1 } y ∧ y.1 ≤ s.at_ + 1) ∨ ((beginV u s c).2.2 = 8 ∧ (beginV u s c).2.1 = []) := by
  obtain ⟨h1, h2, h3⟩ := h.out hw
  have hlt : s.at_ < b.length := (List.getElem?_eq_some_iff.1 hc).1
  unfold beginV
  split
  · right; exact ⟨rfl, rfl⟩
  split
  · rename_i hk
    left
    refine ⟨rfl, x, rfl, ⟨hlt, fun _ => ⟨h1, by simp only; omega, blank_more h2 h3 hc (kind_blank c hk)⟩, fun hn => absurd hw hn⟩, by omega⟩
  split
  · rename_i hk
    left
    refine ⟨rfl, (x.1, some s.at_), ?_, ⟨hlt, fun h0 => ?_, fun _ => ⟨rfl, h2, by simp, h3⟩⟩, by simp only; omega⟩
    · show (spanStep b x ⟨kindOf c, true, s.at_, s.at_, ⟨#[]⟩⟩).bind (spans b []) = _
      unfold spanStep
      rw [if_pos rfl, if_neg (by rw [h1]; simp; omega)]
      rfl
    · simp only at h0; omega
  · left
    refine ⟨rfl, (s.at_ + 1, none), ?_, ⟨hlt, fun _ => ⟨rfl, by simp, by simp⟩, fun hn => absurd hw hn⟩, by simp⟩
    show (spanStep b x ⟨kindOf c, false, s.at_, s.at_ + 1, ⟨#[]⟩⟩).bind (spans b []) = _
    unfold spanStep
    rw [if_neg (by simp), if_neg (by rw [h1]; simp; omega), if_pos h3]
    rfl
theorem look_inv {σ : Type} (u : Sub σ) (hu : Bads u) (b : List Int) (s : St σ) (x : Nat × Option Nat) (c : Int) (hc : b[s.at_]? = some c) (h : Inv b s x) (hx : x.1 ≤ s.at_) :
    ((lookV u s c).2.2 = 0 ∧ ∃ y, spans b (lookV u s c).2.1 x = some y ∧ Inv b { (lookV u s c).1 with at_ := s.at_ + 1 } y ∧ y.1 ≤ s.at_ + 1) ∨ ((lookV u s c).2.2 ≠ 0 ∧ (lookV u s c).2.2 ≠ 1 ∧ ∃ y, spans b (lookV u s c).2.1 x = some y ∧ y.1 ≤ s.at_) := by
  have hlt : s.at_ < b.length := (List.getElem?_eq_some_iff.1 hc).1
  unfold lookV
  by_cases hw : s.within = 0
  · rw [if_pos hw]
    rcases begin_inv u b s x c hc hw h with h1 | ⟨h1, h2⟩
    · exact .inl h1
    · right; rw [h1, h2]; exact ⟨by decide, by decide, x, rfl, hx⟩
  rw [if_neg hw]
  obtain ⟨w1, w2, w3, w4⟩ := h.wit hw
  have hend : ∀ (to : Nat) (t : ByteArray), s.frm < to → to ≤ b.length → spanStep b x ⟨s.within, false, s.frm, to, t⟩ = some (to, none) := by
    intro to t h1 h2
    unfold spanStep
    rw [if_neg (by simp), if_neg (by rw [w1]; simp; omega), if_pos w4]
  rcases hg : u.go s.sub s.within c with ⟨z, r⟩
  cases r with
  | on =>
    left
    exact ⟨rfl, x, rfl, ⟨hlt, fun h0 => absurd h0 hw, fun _ => ⟨w1, w2, by simp only; omega, w4⟩⟩, by omega⟩
  | done t =>
    left
    refine ⟨rfl, (s.at_ + 1, none), ?_, ⟨hlt, fun _ => ⟨rfl, by simp, by simp⟩, fun hn => absurd rfl hn⟩, by simp⟩
    show (spanStep b x ⟨s.within, false, s.frm, s.at_ + 1, t⟩).bind (spans b []) = _
    rw [hend _ t (by omega) (by omega)]
    rfl
  | past t =>
    have hs : Inv b { s with sub := z, within := 0 } (s.at_, none) := ⟨h.top, fun _ => ⟨rfl, by simp, by simp⟩, fun hn => absurd rfl hn⟩
    have h0 : spanStep b x ⟨s.within, false, s.frm, s.at_, t⟩ = some (s.at_, none) := hend _ t (by omega) (by omega)
    rcases begin_inv u b { s with sub := z, within := 0 } (s.at_, none) c hc rfl hs with ⟨h1, y, h2, h3, h4⟩ | ⟨h1, h2⟩
    · left
      refine ⟨h1, y, ?_, h3, h4⟩
      show (spanStep b x _).bind (spans b _) = _
      rw [h0]
      exact h2
    · right
      refine ⟨by simp only [h1]; decide, by simp only [h1]; decide, (s.at_, none), ?_, by simp⟩
      show (spanStep b x _).bind (spans b _) = _
      rw [h0]
      simp only [h2]
      rfl
  | bad f =>
    have := hu s.sub s.within c f (by rw [hg])
    right
    exact ⟨this.1, this.2, x, rfl, hx⟩
/-- What the law asks of all tokens and the verdict. -/
theorem all_spans {σ : Type} (u : Sub σ) (hu : Bads u) (b : List Int) : ∀ (r : List Int) (s : St σ) (x : Nat × Option Nat), b.drop s.at_ = r → Inv b s x → x.1 ≤ s.at_ →
    ∃ y, spans b (allV u r s).1 x = some y ∧ y.1 ≤ (allV u r s).2.2 ∧ (allV u r s).2.2 ≤ b.length ∧ ((allV u r s).2.1 = 1 → y.2 = none ∧ (allV u r s).2.2 = b.length)
  | [], s, x, hr, h, hx => by
    have hat : s.at_ = b.length := by
      have := congrArg List.length hr
      rw [List.length_drop] at this
      have := h.top
      simp at *; omega
    unfold allV
    by_cases hw : s.within = 0
    · rw [if_pos hw]
      exact ⟨x, rfl, hx, h.top, fun _ => ⟨(h.out hw).1, hat⟩⟩
    rw [if_neg hw]
    obtain ⟨w1, w2, w3, w4⟩ := h.wit hw
    by_cases h9 : s.within = 9
    · rw [if_pos h9]
      cases u.close s.sub with
      | none => exact ⟨x, rfl, hx, h.top, fun h => by simp at h⟩
      | some t =>
        refine ⟨(s.at_, none), ?_, by simp, h.top, fun _ => ⟨rfl, hat⟩⟩
        show (spanStep b x ⟨9, false, s.frm, s.at_, t⟩).bind (spans b []) = _
        unfold spanStep
        rw [if_neg (by simp), if_neg (by rw [w1]; simp; omega), if_pos w4]
        rfl
    · rw [if_neg h9]
      exact ⟨x, rfl, hx, h.top, fun h => by simp at h⟩
  | c :: r, s, x, hr, h, hx => by
    have hc : b[s.at_]? = some c := by
      have := congrArg (fun l => l[0]?) hr
      simpa [List.getElem?_drop] using this
    have hr2 : b.drop (s.at_ + 1) = r := by rw [← List.drop_drop, hr]; rfl
    unfold allV
    rcases look_inv u hu b s x c hc h hx with ⟨h1, y, h2, h3, h4⟩ | ⟨h1, h2, y, h3, h4⟩
    · rw [if_neg (by simp [h1])]
      obtain ⟨z, k1, k2, k3, k4⟩ := all_spans u hu b r { (lookV u s c).1 with at_ := s.at_ + 1 } y hr2 h3 h4
      exact ⟨z, by rw [spans_app b _ _ x y h2]; exact k1, k2, k3, k4⟩
    · rw [if_pos h1]
      exact ⟨y, h3, h4, h.top, fun h => absurd h h2⟩
end Go.Proofs.YtlhpflicchchlaaDoor.LexPure
