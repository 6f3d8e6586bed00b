/- Lemmas of rows and bytes. Conditions: none. -/
import Derived.Test.YtlhpflicchchlaaDoorLxPq
import Derived.Test.YtlhpflicchchlaaDoorLxShf
import Derived.Test.YtlhpflicchchlaaDoorLexPure
import Derived.IntWalk
namespace Go.Proofs.YtlhpflicchchlaaDoor.LxQ
open Go.RowKit Go.Proofs.YtlhpflicchchlaaDoorW.PrintWords Go.Proofs.YtlhpflicchchlaaDoorW.PrintLast Go.Proofs.YtlhpflicchchlaaDoorW.PrintMore
attribute [local go_sem] max2_int min2_int max_two min_two max_three min_three max_four min_four
set_option linter.unusedVariables false
set_option linter.unusedSimpArgs false
theorem own_below {w w' : World} {B n m : Nat} {e : TypeId} {v : Value} {xs : List Value} (h : w.ownsRow B e n v m xs) (hb : Below w.heap.size w w') : w'.ownsRow B e n v m xs := by
  refine ⟨h.1, ?_⟩
  rcases h.2 with hn | ⟨g, cap, cur, hv, hbg, hg, rest⟩
  · exact .inl hn
  · exact .inr ⟨g, cap, cur, hv, hbg, (hb.block g (Array.getElem?_eq_some_iff.1 hg).1).trans hg, rest⟩
theorem lit_cells (W : World) (news : List Value) : ∀ (j : Nat) u, news[j]? = some u → (W.alloc (.cells news.toArray 5)).cell? ((⟨W.heap.size, 0, none⟩ : Addr).add j) = some u := by
  intro j u hj
  rw [show (⟨W.heap.size, 0, none⟩ : Addr).add j = ⟨W.heap.size, j, none⟩ by cases j <;> simp [Addr.add]]
  exact (blk_cell (heap_alloc_new W _) j).trans (by simpa using hj)
theorem own_cells {W : World} {B k : Nat} {v : Value} {acc new : List UInt8} {cs : List Value} (h : W.ownsRow B 5 1 v (acc.length + k) (Lib.byteCells acc ++ cs)) (hc : cs = Lib.byteCells new) (hk : k = new.length) : W.ownsRow B 5 1 v (acc ++ new).length (Lib.byteCells (acc ++ new)) := by
  subst hc hk
  rw [List.length_append, Lib.byteCells_append]
  exact h
theorem own_text {w : World} {B : Nat} {v : Value} {l : List UInt8} (h : w.ownsRow B 5 1 v l.length (Lib.byteCells l)) (h0 : 0 < l.length) : (convert 32 9 v).run Tryd.prog w = .ok (.string ⟨l.toArray⟩) w := by
  rcases h.2 with ⟨_, hn⟩ | ⟨g, cap, cur, rfl, hbg, hg, hnc, hc, hsz, hx⟩
  · omega
  · refine run_convert_bytes_back _ 32 9 5 ⟨g, 0, none⟩ cap l Tryd.underlying32 Tryd.underlying5 Tryd.underlying9 ?_
    intro j hj
    have h1 : (Lib.byteCells l)[j]? = some (.int .u8 (l[j].toNat : Int)) := by simp [Lib.byteCells, hj]
    rw [← hx, List.getElem?_take, if_pos (by omega), Array.getElem?_toList] at h1
    have h2 := (blk_cell hg j).trans h1
    rw [show (⟨g, 0, none⟩ : Addr).add j = ⟨g, j, none⟩ by cases j <;> simp [Addr.add]]
    exact h2
theorem toByte (E : Int) (h0 : 0 ≤ E) (h1 : E < 256) : ((E.toNat.toUInt8).toNat : Int) = E := by
  rw [show (E.toNat.toUInt8).toNat = E.toNat % 256 from UInt8.toNat_ofNat']
  omega
end Go.Proofs.YtlhpflicchchlaaDoor.LxQ
