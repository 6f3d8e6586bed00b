/- nest.Nest.Take, in one sentence. Conditions: none. -/
import Derived.Test.YtlhpflicchchlaaDoorNx7
namespace Go.Proofs.YtlhpflicchchlaaDoor.Nx
open Go.RowKit Go.Proofs.YtlhpflicchchlaaDoorW.PrintWords Go.Proofs.YtlhpflicchchlaaDoorW.PrintLast Go.Proofs.YtlhpflicchchlaaDoorW.PrintMore
open Go.Proofs.YtlhpflicchchlaaDoor.LexPure Go.Proofs.YtlhpflicchchlaaDoor.BitsW
set_option linter.unusedVariables false
set_option linter.unusedSimpArgs false
/-- What the walk of Take asks of a Nest. -/
structure Good (s : NS) : Prop where
  lo : 0 ≤ s.may
  hi : s.may ≤ 7
  inn : 1 ≤ s.may → s.may ≤ 5 → s.stk ≠ []
  len : s.stk.length ≤ 80000
  most : s.most ≤ 1000000
  many : ∀ l ∈ s.lv, l.many ≤ 1000000
theorem take_calls {w0 W : World} {g : Nat} {s : NS} {lvv : Value} (h : Nx w0 W g s lvv) (hB0 : Below w0.heap.size w0 W) (hT : LxN.Tab W) (G : Good s) (t : Tk) :
    Calls Tryd.prog 36 #[.pointer (some ⟨g, 0, none⟩), .agg #[.int .i64 t.kind, .bool t.begun, .int .i64 (t.frm : Int), .int .i64 (t.to : Int), .string t.text]] W fun e w' => ∃ v, e = .returned (.tuple #[v, .int .i64 (takeV s t).2.2]) ∧ PostN w0 W g (takeV s t).1 (takeV s t).2.1 v w' := by
  obtain ⟨g0, g7, gi, hn, hmost, hm⟩ := G
  by_cases h7 : s.may = 7
  · exact take_broken h hB0 hT hn hmost hm t h7
  by_cases hb : s.begun = 0
  · by_cases h6 : s.may = 6
    · exact take_nothing h hB0 hT hn hmost hm t h6 hb
    have : s.may = 0 ∨ s.may = 1 ∨ s.may = 2 ∨ s.may = 3 ∨ s.may = 4 ∨ s.may = 5 := by omega
    rcases this with e | e | e | e | e | e
    · exact take_m0 h hB0 hT hn hmost hm t e hb
    · exact take_m1 h hB0 hT hn hmost hm t e hb (gi (by omega) (by omega))
    · exact take_m2 h hB0 hT hn hmost hm t e hb (gi (by omega) (by omega))
    · exact take_m3 h hB0 hT hn hmost hm t e hb (gi (by omega) (by omega))
    · exact take_m4 h hB0 hT hn hmost hm t e hb (gi (by omega) (by omega))
    · exact take_m5 h hB0 hT hn hmost hm t e hb (gi (by omega) (by omega))
  · exact take_behind h hB0 hT hn hmost hm t h7 hb (fun e => gi (by omega) (by omega))
end Go.Proofs.YtlhpflicchchlaaDoor.Nx
