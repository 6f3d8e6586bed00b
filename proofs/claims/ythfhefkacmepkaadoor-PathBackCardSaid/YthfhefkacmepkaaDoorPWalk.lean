/- The walk of the law PathPuts. Conditions: the table of powers of ten reads as it is laid. -/
import Derived.Test.YthfhefkacmepkaaDoorPLaw0
namespace Go.Proofs.YthfhefkacmepkaaDoor.PP
open Go.RowKit Go.Proofs.YthfhefkacmepkaaDoorW.PrintWords Go.Proofs.YthfhefkacmepkaaDoorW.PrintLast Go.Proofs.YthfhefkacmepkaaDoorW.PrintMore
open Go.Proofs.YthfhefkacmepkaaDoor.PPathPuts Go.Proofs.YthfhefkacmepkaaDoor.Beg Go.Proofs.YthfhefkacmepkaaDoor.Bld Go.Proofs.YthfhefkacmepkaaDoor.PR Go.Proofs.YthfhefkacmepkaaDoor.GR
attribute [local go_sem] max2_int min2_int max_two min_two max_three min_three max_four min_four
set_option linter.unusedVariables false
set_option linter.unusedSimpArgs false
theorem two_C (w : World) : Kd.C k26 (w.alloc (.cells #[.bool true, .string ⟨#[97, 39, 98]⟩, .int .i64 0, .bool false, .string ⟨#[]⟩, .int .i64 0] 26)) (some ⟨w.heap.size, 0, none⟩) two.length two := by
  refine ⟨rfl, by decide, fun _ => ⟨_, rfl, fun j p hj => ?_⟩⟩
  match j, hj with
  | 0, hj =>
    obtain rfl : (⟨true, ⟨#[97, 39, 98]⟩, 0⟩ : S26) = p := by simpa [two] using hj
    refine ⟨_, rfl, k26_mk _ _, fun i u hu => ?_⟩
    match i, hu with
    | 0, hu => obtain rfl := Option.some.inj hu; exact (blk_cell (heap_alloc_new w _) 0).trans rfl
    | 1, hu => obtain rfl := Option.some.inj hu; exact (blk_cell (heap_alloc_new w _) 1).trans rfl
    | 2, hu => obtain rfl := Option.some.inj hu; exact (blk_cell (heap_alloc_new w _) 2).trans rfl
    | i + 3, hu => simp at hu
  | 1, hj =>
    obtain rfl : (⟨false, ⟨#[]⟩, 0⟩ : S26) = p := by simpa [two] using hj
    refine ⟨_, rfl, k26_mk _ _, fun i u hu => ?_⟩
    match i, hu with
    | 0, hu => obtain rfl := Option.some.inj hu; exact (blk_cell (heap_alloc_new w _) 3).trans rfl
    | 1, hu => obtain rfl := Option.some.inj hu; exact (blk_cell (heap_alloc_new w _) 4).trans rfl
    | 2, hu => obtain rfl := Option.some.inj hu; exact (blk_cell (heap_alloc_new w _) 5).trans rfl
    | i + 3, hu => simp at hu
  | j + 2, hj => simp [two] at hj
set_option maxHeartbeats 2000000 in
set_option maxRecDepth 100000 in
theorem alive (w : World) (htab : Lib.TabIs Tryd.prog w "internal/strconv.uint64pow10" .u64 Lib.pow10Tab) : Calls Tryd.prog 6 #[] w fun e w' => e = .returned (.bool true) ∧ Below w.heap.size w w' := by
  have HT := Aside0.mk (Lib.tabBelow_of_tabIs htab)
  have hu26 := Tryd.underlying26
  clear htab
  go_enter Tryd.func6, Tryd.ntmps6
  go_wp2_with (fail)
  go_at_call 10
  refine (put_calls (some ⟨w.heap.size, 0, none⟩) 2 two _ (two_C w) (Nat.le_refl _) two_small (HT.out.on (below_alloc (Below.refl _ _) _)).here).mono ?_
  rintro e w2 ⟨rfl, hb⟩
  have HB := Aside0.mk (below_step (below_alloc (Below.refl _ _) _) hb)
  clear hb
  rw [two_path]
  go_wp2_with (fail)
  go_ret
  exact ⟨by first | rfl | simp, HB.out⟩
end Go.Proofs.YthfhefkacmepkaaDoor.PP
