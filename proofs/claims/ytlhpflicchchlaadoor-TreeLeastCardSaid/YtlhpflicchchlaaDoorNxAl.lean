/- rifflelaw09.nestAlive, walked: it returns true. Conditions: none. -/
import Derived.Test.YtlhpflicchchlaaDoorNxA0
namespace Go.Proofs.YtlhpflicchchlaaDoor.Nx
open Go.RowKit Go.Proofs.YtlhpflicchchlaaDoorW.PrintWords Go.Proofs.YtlhpflicchchlaaDoorW.PrintLast Go.Proofs.YtlhpflicchchlaaDoorW.PrintMore
attribute [local go_sem] max2_int min2_int max_two min_two max_three min_three max_four min_four
open Go.Proofs.YtlhpflicchchlaaDoor.LexPure Go.Proofs.YtlhpflicchchlaaDoor.BitsW
set_option linter.unusedVariables false
set_option linter.unusedSimpArgs false
theorem row0 (w : World) (B : Nat) (e sz : Nat) (hB : B ≤ w.heap.size) (o : Obj) (ho : o = .cells #[] e) : (w.alloc o).ownsRow B e sz (.slice (some ⟨w.heap.size, 0, none⟩) 0 0) 0 [] := by
  subst ho
  exact ⟨by simp, .inr ⟨w.heap.size, 0, #[], rfl, hB, heap_alloc_new w _, Nat.le_refl _, by unfold maxLen; omega, by simp, by simp⟩⟩
set_option maxHeartbeats 16000000 in
set_option maxRecDepth 100000 in
theorem nestAlive_calls (W : World) (hT : LxN.Tab W) : Calls Tryd.prog 34 #[] W fun e w' => e = .returned (.bool true) ∧ Below W.heap.size W w' := by
  have HT := Aside0.mk hT
  have HNEW : Aside0 (Calls Tryd.prog 35 #[.int .i64 3] W fun e w' => e = .returned (.pointer (some ⟨W.heap.size, 0, none⟩)) ∧ Nx W w' W.heap.size (ns0 3) (.slice none 0 0) ∧ Below W.heap.size W w') := ⟨new_calls W W 3 (by omega) (Nat.le_refl _)⟩
  clear hT
  have kc := fun (w : World) (C : Array Value) (n c : Nat) => Lib.run_convert_bytes_const (P := Tryd.prog) w 32 5 C n c Tryd.underlying32 Tryd.underlying5
  go_enter Tryd.func34, Tryd.ntmps34
  go_wp2_with (fail)
  go_at_call 35
  refine HNEW.out.mono ?_
  rintro e w1 ⟨rfl, hn, hb⟩
  have N1 := Aside0.mk hn
  have B1 := Aside0.mk hb
  clear hn hb HNEW
  obtain ⟨g, hg⟩ : ∃ g, g = W.heap.size := ⟨_, rfl⟩
  rw [← hg] at N1 ⊢
  have HG := Aside0.mk hg
  clear hg
  go_wp2_with (fail)
  clear kc
  generalize hw2 : World.alloc w1 _ = w2
  have K2 : Aside0 (Below w1.heap.size w1 w2) := ⟨by subst hw2; exact below_alloc (Below.refl _ _) _⟩
  have R2 : Aside0 (ReadsOf (Value.int .u8) 0 w2 (some ⟨w1.heap.size, 0, none⟩) 3 [91, 55, 93]) := ⟨by
    subst hw2
    refine ⟨rfl, by omega, fun _ => ⟨_, rfl, fun j hj => ?_⟩⟩
    have hj4 : j = 0 ∨ j = 1 ∨ j = 2 := by omega
    rw [show (⟨w1.heap.size, 0, none⟩ : Addr).add j = ⟨w1.heap.size, j, none⟩ by cases j <;> simp [Addr.add]]
    rcases hj4 with rfl | rfl | rfl <;> exact (World.cell?_alloc_mark w1 _ _ _ _).trans rfl⟩
  have B2 : Aside0 (Below W.heap.size W w2) := ⟨B1.out.trans (K2.out.mono B1.out.size)⟩
  have N2 : Aside0 (Nx W w2 g (ns0 3) (.slice none 0 0)) := ⟨(KT.of_below (p := []) K2.out).nx N1.out (by simp) (by simp) (by simp)⟩
  have HA := Aside0.mk (LxA.all_calls _ 3 3 _ w2 R2.out (by decide) (by decide) (LxN.Tab.below HT.out B2.out HT.out.1))
  rw [alive7] at HA
  clear hw2 K2 R2 N1 B1
  go_at_call 20
  refine HA.out.mono ?_
  rintro e w3 ⟨v, rfl, hb, hrow⟩
  dsimp only at hrow
  have N3 : Aside0 (Nx W w3 g (ns0 3) (.slice none 0 0)) := ⟨(KT.of_below (p := []) hb).nx N2.out (by simp) (by simp) (by simp)⟩
  have B3 : Aside0 (Below W.heap.size W w3) := ⟨B2.out.trans (hb.mono B2.out.size)⟩
  obtain ⟨_, hT0⟩ | ⟨gt, cap, rfl, hg1, hg2⟩ := LxA.own_toks hrow
  · cases hT0
  have ROW := Aside0.mk hrow
  clear hb hrow HA hg1 hg2 N2 B2
  go_upto_region 5 with (fail)
  generalize hw4 : World.alloc w3 _ = w4
  have K4 : Aside0 (Below w3.heap.size w3 w4) := ⟨by subst hw4; exact below_alloc (Below.refl _ _) _⟩
  have N4 : Aside0 (Nx W w4 g (ns0 3) (.slice none 0 0)) := ⟨(KT.of_below (p := []) K4.out).nx N3.out (by simp) (by simp) (by simp)⟩
  have ROW4 := Aside0.mk ((KT.of_below (p := []) K4.out).row ROW.out (by simp))
  have B4 : Aside0 (Below W.heap.size W w4) := ⟨B3.out.trans (K4.out.mono B3.out.size)⟩
  clear hw4 K4 N3 ROW B3
  go_wp2_with (fail)
  generalize hw5 : World.alloc w4 _ = w5
  have K5 : Aside0 (Below w4.heap.size w4 w5) := ⟨by subst hw5; exact below_alloc (Below.refl _ _) _⟩
  have E5 : Aside0 (w5.ownsRow W.heap.size 62 8 (.slice (some ⟨w4.heap.size, 0, none⟩) 0 0) ([] : List Ev).length (([] : List Ev).flatMap evCells)) := ⟨by subst hw5; exact row0 _ _ _ _ B4.out.size _ rfl⟩
  have N5 : Aside0 (Nx W w5 g (ns0 3) (.slice none 0 0)) := ⟨(KT.of_below (p := []) K5.out).nx N4.out (by simp) (by simp) (by simp)⟩
  have ROW5 := Aside0.mk ((KT.of_below (p := []) K5.out).row ROW4.out (by simp))
  have B5 : Aside0 (Below W.heap.size W w5) := ⟨B4.out.trans (K5.out.mono B4.out.size)⟩
  clear hw5 K5 N4 ROW4 B4
  dsimp only [tk7, List.length]
  go_loopg [4, 21] 4 (fun kq v4 v21 w' => ∃ (j : Nat) (s : NS) (E : List Ev) (lvv : Value) (wj : World), wj = w' ∧ v21 = .int .i64 (j : Int) ∧ Aside0 (j + kq = 4) ∧ Aside0 (runV s E (tk7.drop j) = some (⟨3, [], [], 6, 0, true⟩, ev7)) ∧ Aside0 (E.length ≤ j) ∧ Aside0 (Nx W wj g s lvv) ∧ Aside0 (wj.ownsRow W.heap.size 62 8 v4 E.length (E.flatMap evCells)) ∧ Aside0 (wj.ownsRow w2.heap.size 39 5 (.slice (some ⟨gt, 0, none⟩) tk7.length cap) tk7.length (tk7.flatMap LxA.tkCells)) ∧ Aside0 (Below W.heap.size W wj))
  case atStart => exact ⟨0, _, _, _, _, rfl, rfl, ⟨by omega⟩, ⟨run7⟩, ⟨by simp⟩, N5, E5, ROW5, B5⟩
  case round =>
    obtain ⟨j, s, E, lvv, wj, rfl, rfl, HJ, HR, HE, NJ, EJ, TJ, BJ⟩ := hrel
    cases gk with
    | zero =>
      have hj : j = 4 := by have := HJ.out; omega
      subst hj
      obtain ⟨rfl, rfl⟩ : s = ⟨3, [], [], 6, 0, true⟩ ∧ E = ev7 := by
        have := HR.out
        simpa [tk7, runV] using this
      obtain ⟨ao, cp, rfl, hao⟩ := own_evs EJ.out
      obtain ⟨ge, rfl, _, _⟩ := hao (by simp [ev7])
      have x16 := LxA.own_cell EJ.out 16 (.int .i64 2) rfl
      have x23 := LxA.own_cell EJ.out 23 (.string ⟨#[55]⟩) rfl
      have HD := Aside0.mk (done_calls NJ.out)
      clear hao
      dsimp only [ev7, List.length] at x16 x23 ⊢
      go_wp2_with (fail)
      go_at_call 38
      refine HD.out.mono ?_
      rintro e w6 ⟨rfl, rfl⟩
      go_wp2_with (fail)
      go_ret
      exact ⟨rfl, BJ.out⟩
    | succ d =>
      have hj : j < 4 := by have := HJ.out; omega
      have c1 : decide ((j : Int) < 4) = true := by simp; omega
      have c2 : decide (j < 4) = true := by simp; omega
      have j1 : (0 : Int) ≤ (j : Int) := by omega
      have j2 : (j : Int) < 4 := by omega
      have j3 := eq_true hj
      have HJ4 := Aside0.mk hj
      have j4 : wrap64 ((j : Int) + 1) = (j : Int) + 1 := by unfold wrap64; omega
      obtain ⟨t, ht⟩ : ∃ t, tk7[j]? = some t := ⟨tk7[j]'(by simpa [tk7] using hj), List.getElem?_eq_getElem _⟩
      have x0 := LxA.own_cell TJ.out (j * 5 + 0) (.int .i64 t.kind) (by rw [flat_tk tk7 j 0 t ht (by omega)]; rfl)
      have x1 := LxA.own_cell TJ.out (j * 5 + 1) (.bool t.begun) (by rw [flat_tk tk7 j 1 t ht (by omega)]; rfl)
      have x2 := LxA.own_cell TJ.out (j * 5 + 2) (.int .i64 (t.frm : Int)) (by rw [flat_tk tk7 j 2 t ht (by omega)]; rfl)
      have x3 := LxA.own_cell TJ.out (j * 5 + 3) (.int .i64 (t.to : Int)) (by rw [flat_tk tk7 j 3 t ht (by omega)]; rfl)
      have x4 := LxA.own_cell TJ.out (j * 5 + 4) (.string t.text) (by rw [flat_tk tk7 j 4 t ht (by omega)]; rfl)
      rw [Nat.add_zero] at x0
      have hr := HR.out
      rw [drop_tkN ht, runV] at hr
      by_cases hc : (takeV s t).2.2 = 0 ∧ goodB s = true
      · rw [if_pos hc] at hr
        have H0 := Aside0.mk hc.1
        have HGD := Aside0.mk (goodB_good hc.2)
        have HR1 := Aside0.mk hr
        clear hr hc ht
        go_upto_region 9 with (fail)
        generalize hwk : World.alloc wj _ = wk
        have TB : Aside0 (wk.heap[wj.heap.size]? = some (.cells #[.int .i64 t.kind, .bool t.begun, .int .i64 (t.frm : Int), .int .i64 (t.to : Int), .string t.text] 39 (0, 0))) := ⟨by subst hwk; exact blk_new wj _⟩
        have KK : Aside0 (Below wj.heap.size wj wk) := ⟨by subst hwk; exact below_alloc (Below.refl _ _) _⟩
        have NK : Aside0 (Nx W wk g s lvv) := ⟨(KT.of_below (p := []) KK.out).nx NJ.out (by simp) (by simp) (by simp)⟩
        have EK := Aside0.mk ((KT.of_below (p := []) KK.out).row EJ.out (by simp))
        have TK := Aside0.mk ((KT.of_below (p := []) KK.out).row TJ.out (by simp))
        have BK : Aside0 (Below W.heap.size W wk) := ⟨BJ.out.trans (KK.out.mono BJ.out.size)⟩
        have HTK := Aside0.mk (take_calls NK.out BK.out (LxN.Tab.below HT.out BK.out HT.out.1) HGD.out t)
        rw [H0.out] at HTK
        clear hwk x0 x1 x2 x3 x4 c1 c2 j1 j2 j3 KK NJ EJ TJ BJ
        generalize wj.heap.size = g8 at *
        obtain ⟨y0, y1, y2, y3, y4⟩ := tokN_cells TB.out
        go_wp2_with (fail)
        go_at_call 36
        refine HTK.out.mono ?_
        rintro e w6 ⟨v, rfl, lvv', p1, p2, p3, p4, p5⟩
        have NX6 := Aside0.mk p1
        have K6 := KT.of_nest p3 NK.out
        have E6 := Aside0.mk (K6.row EK.out (by simp))
        have T6 := Aside0.mk (K6.row TK.out (by simp))
        have B6 : Aside0 (Below W.heap.size W w6) := ⟨BK.out.trans p2⟩
        have V6 := Aside0.mk p4
        have HNIL := Aside0.mk p5
        have LEN : Aside0 (E.length + (takeV s t).2.1.length ≤ 1000000) := ⟨by have := takeV_len s t; have := HE.out; have := HJ4.out; omega⟩
        clear p1 p2 p3 p4 p5 K6 HTK TB y0 y1 y2 y3 y4 NK EK TK BK
        go_wp2_with (at_builtin; refine wpList_ev_append rfl _ _ rfl W.heap.size _ _ v E (takeV s t).2.1 rfl rfl E6.out V6.out HNIL.out LEN.out B6.out.size ?_)
        intro v' w7 h1 h2 h3
        rw [← List.length_append, ← List.flatMap_append] at h1
        have E7 := Aside0.mk h1
        have N7 : Aside0 (Nx W w7 g (takeV s t).1 lvv') := ⟨h3.nx NX6.out (by simp) (by simp) (by simp)⟩
        have T7 := Aside0.mk (h3.row T6.out (by simp))
        have B7 : Aside0 (Below W.heap.size W w7) := ⟨B6.out.trans h2⟩
        clear h1 h2 h3
        go_wp2_with (fail)
        go_roundg d
        case measure => omega
        case rel => exact ⟨j + 1, _, _, lvv', _, rfl, rfl, ⟨by have := HJ.out; omega⟩, HR1, ⟨by have := takeV_len s t; have := HE.out; simp only [List.length_append]; omega⟩, N7, E7, T7, B7⟩
      · rw [if_neg hc] at hr
        cases hr
end Go.Proofs.YtlhpflicchchlaaDoor.Nx
