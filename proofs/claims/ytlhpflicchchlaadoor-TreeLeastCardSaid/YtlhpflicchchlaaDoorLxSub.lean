/- The machines within tokens, as plain machines; what they tell is no end. Conditions: none. -/
import Derived.Test.YtlhpflicchchlaaDoorLxQE
import Derived.Test.YtlhpflicchchlaaDoorLxNum
import Derived.Test.YtlhpflicchchlaaDoorLxLit
namespace Go.Proofs.YtlhpflicchchlaaDoor.LxA
open Go.Proofs.YtlhpflicchchlaaDoor.LexPure Go.Proofs.YtlhpflicchchlaaDoor.LxQ Go.Proofs.YtlhpflicchchlaaDoor.LxN
set_option linter.unusedVariables false
set_option linter.unusedSimpArgs false
structure SS where
  num : Int
  text : List UInt8
  wa : Nat
  wi : Nat
  q : QS
def startS (z : SS) (k c : Int) : SS :=
  if k = 8 then { z with q := q0 } else if k = 9 then { z with num := (numV 0 c).1, text := [c.toNat.toUInt8] } else { z with wa := (stepF 0 0 c).2.1, wi := (stepF 0 0 c).2.2 }
def strS (z : SS) (c : Int) : SS × Res :=
  ({ z with q := (qstep z.q c).1 }, if (qstep z.q c).2 = 0 then .on else if (qstep z.q c).2 = 1 then .done ⟨(qstep z.q c).1.text.toArray⟩ else .bad (qstep z.q c).2)
def litS (z : SS) (c : Int) : SS × Res :=
  ({ z with wa := (stepF z.wa z.wi c).2.1, wi := (stepF z.wa z.wi c).2.2 }, if (stepF z.wa z.wi c).1 = 2 then .bad 6 else if (stepF z.wa z.wi c).1 = 1 then .done ((word (stepF z.wa z.wi c).2.1).extract 0 (stepF z.wa z.wi c).2.2) else .on)
def numS (z : SS) (c : Int) : SS × Res :=
  if (numV z.num c).2 = 2 then (z, .bad 5) else if (numV z.num c).2 = 0 then ({ z with num := (numV z.num c).1, text := z.text ++ [c.toNat.toUInt8] }, .on) else (z, .past ⟨z.text.toArray⟩)
def goS (z : SS) (k c : Int) : SS × Res := if k = 8 then strS z c else if k = 10 then litS z c else numS z c
def sub : LexPure.Sub SS := ⟨startS, goS, fun z => if wholeV z.num = true then some ⟨z.text.toArray⟩ else none⟩
theorem bads : Bads sub := by
  intro z w c f h
  show f ≠ 0 ∧ f ≠ 1
  have h : (goS z w c).2 = .bad f := h
  unfold goS strS litS numS at h
  split at h
  · simp only at h
    split at h
    · simp at h
    · split at h
      · simp at h
      · rename_i h0 h1
        obtain rfl := Res.bad.inj h
        exact ⟨h0, h1⟩
  · split at h
    · simp only at h
      split at h
      · obtain rfl := Res.bad.inj h; decide
      · split at h <;> simp at h
    · split at h
      · obtain rfl := Res.bad.inj h; decide
      · split at h <;> simp at h
def s0 : St SS := ⟨0, 0, 0, ⟨0, [], 0, 0, q0⟩⟩
theorem alive : allV sub [91, 49, 50, 93] s0 = ([⟨2, false, 0, 1, ⟨#[]⟩⟩, ⟨9, true, 1, 1, ⟨#[]⟩⟩, ⟨9, false, 1, 3, ⟨#[49, 50]⟩⟩, ⟨3, false, 3, 4, ⟨#[]⟩⟩], 1, 4) := by rfl
theorem inv0 (b : List Int) : Inv b s0 (0, none) := ⟨Nat.zero_le _, fun _ => ⟨rfl, Nat.le_refl _, by simp [s0]⟩, fun h => absurd rfl h⟩
end Go.Proofs.YtlhpflicchchlaaDoor.LxA
