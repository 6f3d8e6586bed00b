/- rifflelaw07.lexAlive, walked. Conditions: none. -/
import Derived.Test.YtlhpflicchchlaaDoorLxAll2
import Derived.Lib.SlBytesConst
namespace Go.Proofs.YtlhpflicchchlaaDoor.LxA
open Go.RowKit Go.Proofs.YtlhpflicchchlaaDoorW.PrintWords Go.Proofs.YtlhpflicchchlaaDoorW.PrintLast Go.Proofs.YtlhpflicchchlaaDoorW.PrintMore
attribute [local go_sem] max2_int min2_int max_two min_two max_three min_three max_four min_four
open Go.Proofs.YtlhpflicchchlaaDoor.LexPure Go.Proofs.YtlhpflicchchlaaDoor.LxQ Go.Proofs.YtlhpflicchchlaaDoor.LxN
set_option linter.unusedVariables false
set_option linter.unusedSimpArgs false
theorem own_cell {W : World} {B n sz : Nat} {e : TypeId} {g cap : Nat} {xs : List Value} (h : W.ownsRow B e sz (.slice (some ⟨g, 0, none⟩) n cap) n xs) (j : Nat) (u : Value) (hj : xs[j]? = some u) : W.cell? ⟨g, j, none⟩ = some u := by
  have := h.cells (g := g) rfl j u hj
  rw [show (⟨g, 0, none⟩ : Addr).add j = ⟨g, j, none⟩ by cases j <;> simp [Addr.add]] at this
  exact this
theorem own_toks {W : World} {B : Nat} {v : Value} {T : List Tk} (h : W.ownsRow B 39 5 v T.length (T.flatMap tkCells)) : (v = .slice none 0 0 ∧ T = []) ∨ ∃ g cap, v = .slice (some ⟨g, 0, none⟩) T.length cap ∧ B ≤ g ∧ g < W.heap.size := by
  rcases h.2 with ⟨hv, hn⟩ | ⟨g, cap, cur, hv, hbg, hg, _⟩
  · exact .inl ⟨hv, List.eq_nil_of_length_eq_zero hn⟩
  · exact .inr ⟨g, cap, hv, hbg, (Array.getElem?_eq_some_iff.1 hg).1⟩
set_option maxHeartbeats 16000000 in
set_option maxRecDepth 100000 in
theorem alive_calls (W : World) (hT : Tab W) : Calls Tryd.prog 19 #[] W fun e w' => e = .returned (.bool true) ∧ Below W.heap.size W w' := by
  have HT := Aside0.mk hT
  clear hT
  have kc := fun (w : World) (C : Array Value) (n c : Nat) => Lib.run_convert_bytes_const (P := Tryd.prog) w 32 5 C n c Tryd.underlying32 Tryd.underlying5
  go_enter Tryd.func19, Tryd.ntmps19
  go_wp2_with (fail)
  clear kc
  generalize hw1 : World.alloc W _ = w1
  have B1 : Aside0 (Below W.heap.size W w1) := ⟨by subst hw1; exact below_alloc (Below.refl _ _) _⟩
  have R1 : Aside0 (ReadsOf (Value.int .u8) 0 w1 (some ⟨W.heap.size, 0, none⟩) 4 [91, 49, 50, 93]) := ⟨by
    subst hw1
    refine ⟨rfl, by omega, fun _ => ⟨_, rfl, fun j hj => ?_⟩⟩
    have hj4 : j = 0 ∨ j = 1 ∨ j = 2 ∨ j = 3 := by omega
    rw [show (⟨W.heap.size, 0, none⟩ : Addr).add j = ⟨W.heap.size, j, none⟩ by cases j <;> simp [Addr.add]]
    rcases hj4 with rfl | rfl | rfl | rfl <;> exact (World.cell?_alloc_mark W _ _ _ _).trans rfl⟩
  have HA := Aside0.mk (all_calls _ 4 4 _ w1 R1.out (by decide) (by decide) (Tab.below HT.out B1.out HT.out.1))
  rw [alive] at HA
  clear hw1
  go_at_call 20
  refine HA.out.mono ?_
  rintro e w2 ⟨v, rfl, hb, hrow⟩
  dsimp only at hrow
  have B2 := Aside0.mk (B1.out.trans (hb.mono B1.out.size))
  obtain ⟨_, hT0⟩ | ⟨g, cap, rfl, hg1, hg2⟩ := own_toks hrow
  · cases hT0
  have ROW := Aside0.mk hrow
  have HG := Aside0.mk hg2
  clear hb hrow HA
  dsimp only [List.length] at ROW ⊢
  go_upto_region 2 with (fail)
  generalize hw3 : World.alloc w2 _ = w3
  have VB : Aside0 (w3.heap[w2.heap.size]? = some (.cells #[.int .i64 1, .int .i64 4] 35 (0, 0))) := ⟨by subst hw3; exact blk_new w2 _⟩
  have B3 : Aside0 (Below w2.heap.size w2 w3) := ⟨by subst hw3; exact below_alloc (Below.refl w2.heap.size w2) _⟩
  have ROW3 := Aside0.mk (own_more ROW.out (fun k hk => B3.out.block k (own_lt ROW.out k hk).2))
  clear hw3
  have x6 := own_cell ROW3.out 6 (.bool true) rfl
  have x10 := own_cell ROW3.out 10 (.int .i64 9) rfl
  have x11 := own_cell ROW3.out 11 (.bool false) rfl
  have x12 := own_cell ROW3.out 12 (.int .i64 1) rfl
  have x13 := own_cell ROW3.out 13 (.int .i64 3) rfl
  have x14 := own_cell ROW3.out 14 (.string ⟨#[49, 50]⟩) rfl
  obtain ⟨y0, y1⟩ := ver_cells VB.out
  go_wp2_with (fail)
  go_ret
  exact ⟨rfl, B2.out.trans (B3.out.mono B2.out.size)⟩
end Go.Proofs.YtlhpflicchchlaaDoor.LxA
