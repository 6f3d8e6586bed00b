/- rifflelaw10.treeAlive, walked. Conditions: none. -/
import Derived.Test.YtlhpflicchchlaaDoorTrPa
namespace Go.Proofs.YtlhpflicchchlaaDoor.Tr
open Go.RowKit Go.Proofs.YtlhpflicchchlaaDoorW.PrintWords Go.Proofs.YtlhpflicchchlaaDoorW.PrintLast Go.Proofs.YtlhpflicchchlaaDoorW.PrintMore
attribute [local go_sem] max2_int min2_int max_two min_two max_three min_three max_four min_four
open Go.Proofs.YtlhpflicchchlaaDoor.LexPure
open Go.Proofs.YtlhpflicchchlaaDoor.Nx (KT)
set_option linter.unusedVariables false
set_option linter.unusedSimpArgs false
theorem a1 : thr [91, 49, 44, 93] LxA.s0 (Nx.ns0 3) = (8, 3) := by rfl
theorem a2 : thr [91, 49] LxA.s0 (Nx.ns0 3) = (10, 2) := by rfl
theorem a3 : thr [49, 32, 49] LxA.s0 (Nx.ns0 3) = (9, 2) := by rfl
theorem a4 : thr [91, 49, 93] LxA.s0 (Nx.ns0 1) = (1, 3) := by rfl
theorem a5 : (bldr [91, 49, 93] LxA.s0 (Nx.ns0 1) ⟨[], none⟩).root = some 1 := by rfl
theorem lit_reads {w1 w2 : World} {fz : Nat × Nat} (zs : List Int) (cs : Array Value) (hc : cs = (zs.map (Value.int .u8)).toArray) (hz : zs.length ≤ 1000) (hw : w1.alloc (.cells cs 5 fz) = w2) : ReadsOf (Value.int .u8) 0 w2 (some ⟨w1.heap.size, 0, none⟩) zs.length zs := by
  subst hw hc
  refine ⟨rfl, by omega, fun _ => ⟨_, rfl, fun j hj => ?_⟩⟩
  rw [show (⟨w1.heap.size, 0, none⟩ : Addr).add j = ⟨w1.heap.size, j, none⟩ by cases j <;> simp [Addr.add]]
  refine (World.cell?_alloc_mark w1 _ _ _ _).trans ?_
  simp [List.getElem?_eq_getElem hj, List.getD_eq_getElem?_getD]
set_option maxHeartbeats 16000000 in
set_option maxRecDepth 100000 in
theorem treeAlive_calls (W : World) (hT : LxN.Tab W) : Calls Tryd.prog 39 #[] W fun e w' => e = .returned (.bool true) ∧ Below W.heap.size W w' := by
  have HT := Aside0.mk hT
  clear hT
  have kc := fun (w : World) (C : Array Value) (n c : Nat) => Lib.run_convert_bytes_const (P := Tryd.prog) w 32 5 C n c Tryd.underlying32 Tryd.underlying5
  go_enter Tryd.func39, Tryd.ntmps39
  go_wp2_with (fail)
  generalize hwL : World.alloc W _ = wL1
  have RL1 : Aside0 (ReadsOf (Value.int .u8) 0 wL1 (some ⟨W.heap.size, 0, none⟩) ([91, 49, 44, 93] : List Int).length [91, 49, 44, 93]) := ⟨lit_reads [91, 49, 44, 93] _ rfl (by decide) hwL⟩
  have KL1 : Aside0 (Below W.heap.size W wL1) := ⟨by subst hwL; exact below_alloc (Below.refl _ _) _⟩
  clear hwL
  have BL1 : Aside0 (Below W.heap.size W wL1) := ⟨KL1.out⟩
  have HP1 := Aside0.mk (parse_calls _ 4 4 3 [91, 49, 44, 93] RL1.out (by decide) (by decide) (by decide) (LxN.Tab.below HT.out BL1.out HT.out.1))
  rw [a1] at HP1
  go_upto_region 2 with (go_at_call 40; refine HP1.out.mono ?_; rintro e wc1 ⟨⟨c0, c1, c2, c3, c4, c5, rfl, i0, i1, i2, x, a, q, c, rfl, rfl, rfl, rfl, rfl, ⟨a', q', c', rfl⟩, hq⟩, hb⟩; have HQ1 := Aside0.mk hq; have BC1 := Aside0.mk hb; clear hq hb)
  generalize hwa : World.alloc wc1 _ = wa1
  generalize hwb : World.alloc wa1 _ = w1
  have KA1 : Below wc1.heap.size wc1 wa1 := by subst hwa; exact below_alloc (Below.refl _ _) _
  have KB1 : Below wa1.heap.size wa1 w1 := by subst hwb; exact below_alloc (Below.refl _ _) _
  have V1 : Aside0 (w1.heap[wa1.heap.size]? = some (.cells #[.int .i64 8, .int .i64 3] 35 (0, 0))) := ⟨by subst hwb; exact blk_new wa1 _⟩
  rw [show wa1.heap.size = wc1.heap.size + 1 by subst hwa; simp] at V1
  have B1 : Aside0 (Below W.heap.size W w1) := ⟨((BL1.out.trans (BC1.out.mono BL1.out.size)).trans (KA1.mono (Nat.le_trans BL1.out.size BC1.out.size))).trans (KB1.mono (Nat.le_trans BL1.out.size (Nat.le_trans BC1.out.size KA1.size)))⟩
  clear hwa hwb KA1 KB1 RL1 KL1 HP1 BL1 BC1
  go_wp2_with (fail)
  generalize hwL : World.alloc w1 _ = wL2
  have RL2 : Aside0 (ReadsOf (Value.int .u8) 0 wL2 (some ⟨w1.heap.size, 0, none⟩) ([91, 49] : List Int).length [91, 49]) := ⟨lit_reads [91, 49] _ rfl (by decide) hwL⟩
  have KL2 : Aside0 (Below w1.heap.size w1 wL2) := ⟨by subst hwL; exact below_alloc (Below.refl _ _) _⟩
  clear hwL
  have BL2 : Aside0 (Below W.heap.size W wL2) := ⟨B1.out.trans (KL2.out.mono B1.out.size)⟩
  have V1 := Aside0.mk ((KT.of_below (p := []) KL2.out).blk V1.out (by simp))
  have HP2 := Aside0.mk (parse_calls _ 2 2 3 [91, 49] RL2.out (by decide) (by decide) (by decide) (LxN.Tab.below HT.out BL2.out HT.out.1))
  rw [a2] at HP2
  go_upto_region 3 with (go_at_call 40; refine HP2.out.mono ?_; rintro e wc2 ⟨⟨c0, c1, c2, c3, c4, c5, rfl, i0, i1, i2, x, a, q, c, rfl, rfl, rfl, rfl, rfl, ⟨a', q', c', rfl⟩, hq⟩, hb⟩; have HQ2 := Aside0.mk hq; have BC2 := Aside0.mk hb; clear hq hb)
  generalize hwa : World.alloc wc2 _ = wa2
  generalize hwb : World.alloc wa2 _ = w2
  have KA2 : Below wc2.heap.size wc2 wa2 := by subst hwa; exact below_alloc (Below.refl _ _) _
  have KB2 : Below wa2.heap.size wa2 w2 := by subst hwb; exact below_alloc (Below.refl _ _) _
  have V2 : Aside0 (w2.heap[wa2.heap.size]? = some (.cells #[.int .i64 10, .int .i64 2] 35 (0, 0))) := ⟨by subst hwb; exact blk_new wa2 _⟩
  rw [show wa2.heap.size = wc2.heap.size + 1 by subst hwa; simp] at V2
  have V1 := Aside0.mk ((KT.of_below (p := []) KB2).blk ((KT.of_below (p := []) KA2).blk ((KT.of_below (p := []) BC2.out).blk V1.out (by simp)) (by simp)) (by simp))
  have B2 : Aside0 (Below W.heap.size W w2) := ⟨((BL2.out.trans (BC2.out.mono BL2.out.size)).trans (KA2.mono (Nat.le_trans BL2.out.size BC2.out.size))).trans (KB2.mono (Nat.le_trans BL2.out.size (Nat.le_trans BC2.out.size KA2.size)))⟩
  clear hwa hwb KA2 KB2 RL2 KL2 HP2 BL2 BC2
  go_wp2_with (fail)
  generalize hwL : World.alloc w2 _ = wL3
  have RL3 : Aside0 (ReadsOf (Value.int .u8) 0 wL3 (some ⟨w2.heap.size, 0, none⟩) ([49, 32, 49] : List Int).length [49, 32, 49]) := ⟨lit_reads [49, 32, 49] _ rfl (by decide) hwL⟩
  have KL3 : Aside0 (Below w2.heap.size w2 wL3) := ⟨by subst hwL; exact below_alloc (Below.refl _ _) _⟩
  clear hwL
  have BL3 : Aside0 (Below W.heap.size W wL3) := ⟨B2.out.trans (KL3.out.mono B2.out.size)⟩
  have V1 := Aside0.mk ((KT.of_below (p := []) KL3.out).blk V1.out (by simp))
  have V2 := Aside0.mk ((KT.of_below (p := []) KL3.out).blk V2.out (by simp))
  have HP3 := Aside0.mk (parse_calls _ 3 3 3 [49, 32, 49] RL3.out (by decide) (by decide) (by decide) (LxN.Tab.below HT.out BL3.out HT.out.1))
  rw [a3] at HP3
  go_upto_region 4 with (go_at_call 40; refine HP3.out.mono ?_; rintro e wc3 ⟨⟨c0, c1, c2, c3, c4, c5, rfl, i0, i1, i2, x, a, q, c, rfl, rfl, rfl, rfl, rfl, ⟨a', q', c', rfl⟩, hq⟩, hb⟩; have HQ3 := Aside0.mk hq; have BC3 := Aside0.mk hb; clear hq hb)
  generalize hwa : World.alloc wc3 _ = wa3
  generalize hwb : World.alloc wa3 _ = w3
  have KA3 : Below wc3.heap.size wc3 wa3 := by subst hwa; exact below_alloc (Below.refl _ _) _
  have KB3 : Below wa3.heap.size wa3 w3 := by subst hwb; exact below_alloc (Below.refl _ _) _
  have V3 : Aside0 (w3.heap[wa3.heap.size]? = some (.cells #[.int .i64 9, .int .i64 2] 35 (0, 0))) := ⟨by subst hwb; exact blk_new wa3 _⟩
  rw [show wa3.heap.size = wc3.heap.size + 1 by subst hwa; simp] at V3
  have V1 := Aside0.mk ((KT.of_below (p := []) KB3).blk ((KT.of_below (p := []) KA3).blk ((KT.of_below (p := []) BC3.out).blk V1.out (by simp)) (by simp)) (by simp))
  have V2 := Aside0.mk ((KT.of_below (p := []) KB3).blk ((KT.of_below (p := []) KA3).blk ((KT.of_below (p := []) BC3.out).blk V2.out (by simp)) (by simp)) (by simp))
  have B3 : Aside0 (Below W.heap.size W w3) := ⟨((BL3.out.trans (BC3.out.mono BL3.out.size)).trans (KA3.mono (Nat.le_trans BL3.out.size BC3.out.size))).trans (KB3.mono (Nat.le_trans BL3.out.size (Nat.le_trans BC3.out.size KA3.size)))⟩
  clear hwa hwb KA3 KB3 RL3 KL3 HP3 BL3 BC3
  go_wp2_with (fail)
  generalize hwL : World.alloc w3 _ = wL4
  have RL4 : Aside0 (ReadsOf (Value.int .u8) 0 wL4 (some ⟨w3.heap.size, 0, none⟩) ([91, 49, 93] : List Int).length [91, 49, 93]) := ⟨lit_reads [91, 49, 93] _ rfl (by decide) hwL⟩
  have KL4 : Aside0 (Below w3.heap.size w3 wL4) := ⟨by subst hwL; exact below_alloc (Below.refl _ _) _⟩
  clear hwL
  have BL4 : Aside0 (Below W.heap.size W wL4) := ⟨B3.out.trans (KL4.out.mono B3.out.size)⟩
  have V1 := Aside0.mk ((KT.of_below (p := []) KL4.out).blk V1.out (by simp))
  have V2 := Aside0.mk ((KT.of_below (p := []) KL4.out).blk V2.out (by simp))
  have V3 := Aside0.mk ((KT.of_below (p := []) KL4.out).blk V3.out (by simp))
  have HP4 := Aside0.mk (parse_calls _ 3 3 1 [91, 49, 93] RL4.out (by decide) (by decide) (by decide) (LxN.Tab.below HT.out BL4.out HT.out.1))
  rw [a4] at HP4
  go_upto_region 5 with (go_at_call 40; refine HP4.out.mono ?_; rintro e wc4 ⟨⟨c0, c1, c2, c3, c4, c5, rfl, i0, i1, i2, x, a, q, c, rfl, rfl, rfl, rfl, rfl, ⟨a', q', c', rfl⟩, hq⟩, hb⟩; have HQ4 := Aside0.mk hq; have BC4 := Aside0.mk hb; clear hq hb)
  generalize hwa : World.alloc wc4 _ = wa4
  generalize hwb : World.alloc wa4 _ = w4
  have KA4 : Below wc4.heap.size wc4 wa4 := by subst hwa; exact below_alloc (Below.refl _ _) _
  have KB4 : Below wa4.heap.size wa4 w4 := by subst hwb; exact below_alloc (Below.refl _ _) _
  have V4 : Aside0 (w4.heap[wa4.heap.size]? = some (.cells #[.int .i64 1, .int .i64 3] 35 (0, 0))) := ⟨by subst hwb; exact blk_new wa4 _⟩
  rw [show wa4.heap.size = wc4.heap.size + 1 by subst hwa; simp] at V4
  have TV : Aside0 (w4.heap[wc4.heap.size]? = some (.cells #[.int .i64 i0, .int .i64 i1, .int .i64 i2, .string x, .slice a q c, .slice a' q' c'] 68 (0, 0))) := ⟨(KT.of_below (p := []) KB4).blk (by subst hwa; exact blk_new wc4 _) (by simp)⟩
  have V1 := Aside0.mk ((KT.of_below (p := []) KB4).blk ((KT.of_below (p := []) KA4).blk ((KT.of_below (p := []) BC4.out).blk V1.out (by simp)) (by simp)) (by simp))
  have V2 := Aside0.mk ((KT.of_below (p := []) KB4).blk ((KT.of_below (p := []) KA4).blk ((KT.of_below (p := []) BC4.out).blk V2.out (by simp)) (by simp)) (by simp))
  have V3 := Aside0.mk ((KT.of_below (p := []) KB4).blk ((KT.of_below (p := []) KA4).blk ((KT.of_below (p := []) BC4.out).blk V3.out (by simp)) (by simp)) (by simp))
  have B4 : Aside0 (Below W.heap.size W w4) := ⟨((BL4.out.trans (BC4.out.mono BL4.out.size)).trans (KA4.mono (Nat.le_trans BL4.out.size BC4.out.size))).trans (KB4.mono (Nat.le_trans BL4.out.size (Nat.le_trans BC4.out.size KA4.size)))⟩
  clear hwa hwb KA4 KB4 RL4 KL4 HP4 BL4 BC4
  generalize wc4.heap.size = t4 at *
  obtain rfl : q = 1 := by first | exact HQ4.out rfl 1 a5 | exact HQ4.out trivial 1 a5
  have c10 := (blk_cell V1.out 0).trans rfl
  have c11 := (blk_cell V1.out 1).trans rfl
  have c20 := (blk_cell V2.out 0).trans rfl
  have c21 := (blk_cell V2.out 1).trans rfl
  have c30 := (blk_cell V3.out 0).trans rfl
  have c31 := (blk_cell V3.out 1).trans rfl
  have c40 := (blk_cell V4.out 0).trans rfl
  have c41 := (blk_cell V4.out 1).trans rfl
  have ct := (blk_cell TV.out 4).trans rfl
  clear kc
  go_wp2_with (fail)
  go_ret
  exact ⟨rfl, B4.out⟩
end Go.Proofs.YtlhpflicchchlaaDoor.Tr
