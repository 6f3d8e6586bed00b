/- What the row's list says of the table of powers of ten. Conditions: none. -/
import Derived.Test.YthfhefkacmepkaaDoorOpenSteps
namespace Go.Proofs.YthfhefkacmepkaaDoor.Opens
open Go.RowKit Go.Lib
theorem gPow : Tryd.prog.globalNamed "internal/strconv.uint64pow10" = some 3 := by kernel_rfl
theorem gPowType : (Tryd.prog.globals[3]?).map (·.type) = some 102 := by kernel_rfl
theorem und209 : Tryd.prog.underlying 102 = some (.array 20 71) := by kernel_rfl
theorem und169 : Tryd.prog.underlying 71 = some (.int .u64) := by kernel_rfl
theorem cel209 : Tryd.prog.cellsOf 102 = 20 := by kernel_rfl
theorem cel169 : Tryd.prog.cellsOf 71 = 1 := by kernel_rfl
theorem pow_data : (Rows.laid_internal_strconv_uint64pow10 : DataW Unit) = tabData .u64 pow10Tab := by kernel_rfl
theorem tab_of_laid {W : World} (h : laidMet Tryd.prog Rows.pathPutsRow.laid W) : TabIs Tryd.prog W "internal/strconv.uint64pow10" .u64 pow10Tab := by
  obtain ⟨ps, hl, _⟩ := h
  obtain ⟨_, _, _, _, _, q1, _, _, _, _, hl2, _⟩ := hl
  obtain ⟨_, _, _, _, _, q2, _, _, _, _, hl3, _⟩ := hl2
  obtain ⟨g', t', cs, fuel, p, q, hg', ht', hvar, hd, _, _⟩ := hl3
  obtain rfl := Option.some.inj (gPow.symm.trans hg')
  obtain rfl := Option.some.inj (gPowType.symm.trans ht')
  rw [pow_data] at hd
  unfold TabIs
  rw [hvar, ← cells_of_tab und209 und169 cel169 cel209 hd]
end Go.Proofs.YthfhefkacmepkaaDoor.Opens
