/- The plain law of LiteralWalks: what the reference says of each byte is what a step says. Conditions: none. -/
import Derived.Test.YtjfoppmpiklfiaaDoorLitK
import Derived.Test.YtjfoppmpiklfiaaDoorRefStep
namespace Go.Proofs.YtjfoppmpiklfiaaDoor.Lit
open Go.RowKit Go.Proofs.YtjfoppmpiklfiaaDoorW.PrintWords Go.Proofs.YtjfoppmpiklfiaaDoorW.PrintLast Go.Proofs.YtjfoppmpiklfiaaDoorW.PrintMore Go.Proofs.YtjfoppmpiklfiaaDoor.PLiteralWalks

/-- The text so far. -/
def txt (a i : Nat) : ByteArray := (word a).extract 0 i
def one (c : Nat) : ByteArray := ⟨#[UInt8.ofNat c]⟩
set_option maxRecDepth 100000 in
theorem ref_all : ∀ a < 3, ∀ i < 6, i ≤ (word a).size → ∀ c < 256, riffleref05_Step.f 9 (txt a i) (c : Nat) = some (stepF a i (c : Nat)).1 := by decide +kernel
set_option maxRecDepth 100000 in
theorem next_all : ∀ a < 3, ∀ i < 6, i ≤ (word a).size → ∀ c < 256, (stepF a i (c : Nat)).1 ≠ 2 → txt (stepF a i (c : Nat)).2.1 (stepF a i (c : Nat)).2.2 = txt a i ++ one c := by decide +kernel
set_option maxRecDepth 100000 in
theorem stay_all : ∀ a < 3, ∀ i < 6, i ≤ (word a).size → ∀ c < 256, (stepF a i (c : Nat)).1 = 2 → txt (stepF a i (c : Nat)).2.1 (stepF a i (c : Nat)).2.2 = txt a i := by decide +kernel
theorem word_size (a : Nat) (ha : a < 3) : (word a).size < 6 := by
  match a, ha with
  | 0, _ => decide
  | 1, _ => decide
  | 2, _ => decide
end Go.Proofs.YtjfoppmpiklfiaaDoor.Lit
