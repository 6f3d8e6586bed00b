/- What the row's list says of the table of words. Conditions: none. -/
import Derived.Test.YtjfoppmpiklfiaaDoorRows
import Derived.Test.YtjfoppmpiklfiaaDoorLit
import Derived.Lib.LaidTab
namespace Go.Proofs.YtjfoppmpiklfiaaDoor.Lit
open Go.RowKit

theorem cells_of_words {H : Type} {enc : TypeId × Value → H} {P : Program} {w : World} {base : Nat} {sp : Nat → Bool} {held : Bool} {fuel : Nat} {t e : TypeId} {cs : List Value} {zs : List (List UInt8)} {p : List MemPlace}
    (ht : P.underlying t = some (.array 3 e)) (he : P.underlying e = some .string) (hce : P.cellsOf e = 1) (hct : P.cellsOf t = 3) (hz : zs.length = 3)
    (h : DataW.trod enc P w base sp held fuel t cs = some (.agg (zs.map fun z => .lit (.string z)), p)) : cs = zs.map fun z => Value.string ⟨z.toArray⟩ := by
  cases fuel with
  | zero => simp [DataW.trod] at h
  | succ fuel =>
    simp only [DataW.trod, ht, hce, hct, Nat.mul_one] at h
    split at h
    · rename_i hl
      obtain ⟨xs, hm, hx⟩ := Option.map_eq_some_iff.1 h
      have hxs : xs.map (·.1) = zs.map fun z => (DataW.lit (.string z) : DataW H) := by
        have := congrArg Prod.fst hx
        simpa using this
      apply List.ext_getElem?
      intro i
      by_cases hi : i < 3
      · obtain ⟨b, hb, hf⟩ := Lib.mapM_at hm i i (by simp [hi])
        have hone : (((cs.drop i).take 1)) = [cs[i]'(by omega)] := by
          rw [List.drop_eq_getElem_cons (by omega)]; rfl
        have h2 : (xs.map (·.1))[i]? = some b.1 := by simp [hb]
        rw [hxs] at h2
        simp only [List.getElem?_map, Option.map_eq_some_iff] at h2
        obtain ⟨z, hz1, hz2⟩ := h2
        rw [hone] at hf
        obtain ⟨s, hs, hd, _⟩ := DataW.trod_string he hf
        simp only [List.cons.injEq, and_true] at hs
        rw [hd] at hz2
        simp only [DataW.lit.injEq, Lit.string.injEq] at hz2
        rw [List.getElem?_eq_getElem (by omega), hs, List.getElem?_map, hz1, hz2]
        rfl
      · rw [List.getElem?_eq_none (by omega), List.getElem?_eq_none (by simp; omega)]
    · cases h

theorem gTab : Tryd.prog.globalNamed "riffle/literal.words" = some 0 := by kernel_rfl
theorem gTabType : (Tryd.prog.globals[0]?).map (·.type) = some 35 := by kernel_rfl
theorem cells35 : Tryd.prog.cellsOf 35 = 3 := by kernel_rfl
theorem cells9 : Tryd.prog.cellsOf 9 = 1 := by kernel_rfl
theorem und35 : Tryd.prog.underlying 35 = some (.array 3 9) := by kernel_rfl
theorem und9 : Tryd.prog.underlying 9 = some .string := by kernel_rfl
theorem tab_of_laid {W : World} (h : laidMet Tryd.prog [("riffle/literal.words", Rows.laid_riffle_literal_words)] W) : Tab W := by
  obtain ⟨ps, ⟨g', t', cs, fuel, p, q, hg', ht', hvar, hd, _, _⟩, _⟩ := h
  obtain rfl := Option.some.inj (gTab.symm.trans hg')
  obtain rfl := Option.some.inj (gTabType.symm.trans ht')
  have hc := cells_of_words (zs := [[116, 114, 117, 101], [102, 97, 108, 115, 101], [110, 117, 108, 108]]) und35 und9 cells9 cells35 rfl hd
  have hv : W.var? Tryd.prog "riffle/literal.words" = some (([[116, 114, 117, 101], [102, 97, 108, 115, 101], [110, 117, 108, 108]] : List (List UInt8)).map fun z => Value.string ⟨z.toArray⟩).toArray := by rw [hvar, ← hc]
  have c0 := World.var?_cell gTab hv 0
  have c1 := World.var?_cell gTab hv 1
  have c2 := World.var?_cell gTab hv 2
  exact ⟨World.block_lt_of_cell? _ _ c0, c0, c1, c2⟩
end Go.Proofs.YtjfoppmpiklfiaaDoor.Lit
