/- nest.Nest.Take, walked. Conditions: none. -/
import Derived.Test.YtlhpflicchchlaaDoorNx6
namespace Go.Proofs.YtlhpflicchchlaaDoor.Nx
open Go.RowKit Go.Proofs.YtlhpflicchchlaaDoorW.PrintWords Go.Proofs.YtlhpflicchchlaaDoorW.PrintLast Go.Proofs.YtlhpflicchchlaaDoorW.PrintMore
attribute [local go_sem] max2_int min2_int max_two min_two max_three min_three max_four min_four
open Go.Proofs.YtlhpflicchchlaaDoor.LexPure Go.Proofs.YtlhpflicchchlaaDoor.BitsW
set_option linter.unusedVariables false
set_option linter.unusedSimpArgs false
def objS (l : List Bool) : Bool := decide (l.getLast? = some true)
def takeB (s : NS) (t : Tk) : NS × List Ev × Int :=
  if t.begun = true then tbeginV s t (decide (s.may = 0 ∨ s.may = 1))
  else if (s.may = 0 ∨ s.may = 1) ∧ (t.kind = 2 ∨ t.kind = 4) then downV s t
  else if t.kind = 3 ∧ (s.may = 1 ∨ (s.may = 5 ∧ objS s.stk = false)) then upV s t 4
  else if t.kind = 5 ∧ (s.may = 2 ∨ (s.may = 5 ∧ objS s.stk = true)) then upV s t 5
  else if t.kind = 6 ∧ s.may = 5 then ({ s with may := if objS s.stk = true then 3 else 0 }, [], 0)
  else if t.kind = 7 ∧ s.may = 4 then ({ s with may := 0 }, [], 0)
  else badV s 8
def takeV (s : NS) (t : Tk) : NS × List Ev × Int :=
  if s.may = 7 then (s, [], 14)
  else if s.begun ≠ 0 then behindV s t
  else if s.may = 6 then badV s 9
  else takeB { s with began := true } t
theorem PostN.pre {w0 W w2 w' : World} {g : Nat} {s' : NS} {evs : List Ev} {v : Value} (hP : PostN w0 w2 g s' evs v w') (hB : Below w0.heap.size W w2) (hK : KeepN g W w2) : PostN w0 W g s' evs v w' := by
  obtain ⟨lvv', h1, h2, h3, h4, h5⟩ := hP
  exact ⟨lvv', h1, hB.trans h2, hK.trans h3, LxA.own_base h4 (fun k hk => Nat.le_trans hK.1 (LxA.own_lt h4 k hk).1), h5⟩
theorem top_calls {w0 W : World} {g : Nat} {s : NS} {lvv : Value} (h : Nx w0 W g s lvv) (hn : s.stk.length ≤ 90000) : Calls Tryd.prog 75 #[.pointer (some ⟨g, 1, none⟩)] W fun e w' => (∃ i, e = .returned (.tuple #[.bool (objS s.stk), .bool i])) ∧ W = w' := by
  have hb := h.bits
  by_cases hs : s.stk = []
  · rw [hs] at hb ⊢
    exact (top_none _ g w0 W hb).mono fun e w' h => ⟨⟨false, h.1⟩, h.2⟩
  · obtain ⟨bs, b, hs2⟩ := snoc_of _ hs
    rw [hs2] at hb hn ⊢
    rw [show objS (bs ++ [b]) = b by unfold objS; cases b <;> simp]
    exact (top_some _ g _ bs b w0 W hb (by simp [mw]; omega) (by simp at hn; omega)).mono fun e w' h => ⟨⟨true, h.1⟩, h.2⟩
set_option maxHeartbeats 16000000 in
set_option maxRecDepth 100000 in
theorem take_broken {w0 W : World} {g : Nat} {s : NS} {lvv : Value} (h : Nx w0 W g s lvv) (hB0 : Below w0.heap.size w0 W) (hT : LxN.Tab W) (hn : s.stk.length ≤ 80000) (hmost : s.most ≤ 1000000) (hm : ∀ l ∈ s.lv, l.many ≤ 1000000) (t : Tk) (hmay : s.may = 7) :
    Calls Tryd.prog 36 #[.pointer (some ⟨g, 0, none⟩), .agg #[.int .i64 t.kind, .bool t.begun, .int .i64 (t.frm : Int), .int .i64 (t.to : Int), .string t.text]] W fun e w' => ∃ v, e = .returned (.tuple #[v, .int .i64 (takeV s t).2.2]) ∧ PostN w0 W g (takeV s t).1 (takeV s t).2.1 v w' := by
  have HMAY := Aside0.mk hmay
  have E := Aside0.mk (show takeV s t = (s, [], 14) by unfold takeV; rw [if_pos hmay])
  clear hmay
  have H := Aside0.mk h
  have HB0 := Aside0.mk hB0
  have HT := Aside0.mk hT
  have HN := Aside0.mk hn
  have HMO := Aside0.mk hmost
  have HMM := Aside0.mk hm
  clear h hB0 hT hn hmost hm
  go_enter Tryd.func36, Tryd.ntmps36
  go_upto_region 1 with (fail)
  generalize hw1 : World.alloc W _ = w1
  have TB : Aside0 (w1.heap[W.heap.size]? = some (.cells (tokCells t) 39 (0, 0))) := ⟨by subst hw1; exact blk_new W _⟩
  have B1 : Aside0 (Below W.heap.size W w1) := ⟨by subst hw1; exact below_alloc (Below.refl _ _) _⟩
  have N1 : Aside0 (Nx w0 w1 g s lvv) := ⟨H.out.below B1.out⟩
  have L3 : Aside0 (W.heap.size ≠ g) := ⟨fun e => by have := H.out.lt; omega⟩
  have T1 : Aside0 (LxN.Tab w1) := ⟨LxN.Tab.below HT.out B1.out HT.out.1⟩
  have HWL : Aside0 (w0.heap.size ≤ W.heap.size) := ⟨Nat.le_trans H.out.ge (Nat.le_of_lt H.out.lt)⟩
  clear hw1
  obtain ⟨b3, hb3⟩ : ∃ b3, b3 = W.heap.size := ⟨_, rfl⟩
  rw [← hb3] at TB L3 ⊢
  clear hb3
  obtain ⟨wv1, hb1⟩ := N1.out.blk
  have c4 : w1.cell? ⟨g, 4, none⟩ = some (.int .i64 s.may) := (blk_cell hb1 4).trans rfl
  have c5 : w1.cell? ⟨g, 5, none⟩ = some (.int .i64 s.begun) := (blk_cell hb1 5).trans rfl
  have c6 : w1.cell? ⟨g, 6, none⟩ = some (.bool s.began) := (blk_cell hb1 6).trans rfl
  have z6 := blk_frozen hb1 6
  have z4 := blk_frozen hb1 4
  have t0 : w1.cell? ⟨b3, 0, none⟩ = some (.int .i64 t.kind) := (blk_cell TB.out 0).trans rfl
  have t1 : w1.cell? ⟨b3, 1, none⟩ = some (.bool t.begun) := (blk_cell TB.out 1).trans rfl
  have t2 : w1.cell? ⟨b3, 2, none⟩ = some (.int .i64 (t.frm : Int)) := (blk_cell TB.out 2).trans rfl
  have t3 : w1.cell? ⟨b3, 3, none⟩ = some (.int .i64 (t.to : Int)) := (blk_cell TB.out 3).trans rfl
  have t4 : w1.cell? ⟨b3, 4, none⟩ = some (.string t.text) := (blk_cell TB.out 4).trans rfl
  have l1 : ¬ b3 = g := L3.out
  have l2 : ¬ g = b3 := fun e => L3.out e.symm
  clear hb1
  rw [HMAY.out] at c4
  have N2 := N1
  have B2 : Aside0 (Below w0.heap.size W w1) := ⟨B1.out.mono HWL.out⟩
  have K2 : Aside0 (KeepN g W w1) := ⟨KeepN.of_below B1.out⟩
  go_wp2_with (fail)
  go_ret2
  rw [E.out]
  exact ⟨_, rfl, lvv, N2.out, B2.out, K2.out, World.ownsRow_nil _ _ _ _, fun _ => rfl⟩
set_option maxHeartbeats 16000000 in
set_option maxRecDepth 100000 in
theorem take_behind {w0 W : World} {g : Nat} {s : NS} {lvv : Value} (h : Nx w0 W g s lvv) (hB0 : Below w0.heap.size w0 W) (hT : LxN.Tab W) (hn : s.stk.length ≤ 80000) (hmost : s.most ≤ 1000000) (hm : ∀ l ∈ s.lv, l.many ≤ 1000000) (t : Tk) (hmay : s.may ≠ 7) (hbeg : s.begun ≠ 0) (hi : s.may = 2 ∨ s.may = 3 → s.stk ≠ []) :
    Calls Tryd.prog 36 #[.pointer (some ⟨g, 0, none⟩), .agg #[.int .i64 t.kind, .bool t.begun, .int .i64 (t.frm : Int), .int .i64 (t.to : Int), .string t.text]] W fun e w' => ∃ v, e = .returned (.tuple #[v, .int .i64 (takeV s t).2.2]) ∧ PostN w0 W g (takeV s t).1 (takeV s t).2.1 v w' := by
  have E := Aside0.mk (show takeV s t = behindV s t by unfold takeV; rw [if_neg hmay, if_pos hbeg])
  have HI := Aside0.mk hi
  have g1 : (s.may == 7) = false := by simp [hmay]
  have g2 : (s.begun != 0) = true := by simp [hbeg]
  have g3 : decide (s.begun = 0) = false := by simp [hbeg]
  have g4 : (s.begun == 0) = false := by simp [hbeg]
  clear hmay hbeg hi
  have H := Aside0.mk h
  have HB0 := Aside0.mk hB0
  have HT := Aside0.mk hT
  have HN := Aside0.mk hn
  have HMO := Aside0.mk hmost
  have HMM := Aside0.mk hm
  clear h hB0 hT hn hmost hm
  go_enter Tryd.func36, Tryd.ntmps36
  go_upto_region 1 with (fail)
  generalize hw1 : World.alloc W _ = w1
  have TB : Aside0 (w1.heap[W.heap.size]? = some (.cells (tokCells t) 39 (0, 0))) := ⟨by subst hw1; exact blk_new W _⟩
  have B1 : Aside0 (Below W.heap.size W w1) := ⟨by subst hw1; exact below_alloc (Below.refl _ _) _⟩
  have N1 : Aside0 (Nx w0 w1 g s lvv) := ⟨H.out.below B1.out⟩
  have L3 : Aside0 (W.heap.size ≠ g) := ⟨fun e => by have := H.out.lt; omega⟩
  have T1 : Aside0 (LxN.Tab w1) := ⟨LxN.Tab.below HT.out B1.out HT.out.1⟩
  have HWL : Aside0 (w0.heap.size ≤ W.heap.size) := ⟨Nat.le_trans H.out.ge (Nat.le_of_lt H.out.lt)⟩
  clear hw1
  obtain ⟨b3, hb3⟩ : ∃ b3, b3 = W.heap.size := ⟨_, rfl⟩
  rw [← hb3] at TB L3 ⊢
  clear hb3
  obtain ⟨wv1, hb1⟩ := N1.out.blk
  have c4 : w1.cell? ⟨g, 4, none⟩ = some (.int .i64 s.may) := (blk_cell hb1 4).trans rfl
  have c5 : w1.cell? ⟨g, 5, none⟩ = some (.int .i64 s.begun) := (blk_cell hb1 5).trans rfl
  have c6 : w1.cell? ⟨g, 6, none⟩ = some (.bool s.began) := (blk_cell hb1 6).trans rfl
  have z6 := blk_frozen hb1 6
  have z4 := blk_frozen hb1 4
  have t0 : w1.cell? ⟨b3, 0, none⟩ = some (.int .i64 t.kind) := (blk_cell TB.out 0).trans rfl
  have t1 : w1.cell? ⟨b3, 1, none⟩ = some (.bool t.begun) := (blk_cell TB.out 1).trans rfl
  have t2 : w1.cell? ⟨b3, 2, none⟩ = some (.int .i64 (t.frm : Int)) := (blk_cell TB.out 2).trans rfl
  have t3 : w1.cell? ⟨b3, 3, none⟩ = some (.int .i64 (t.to : Int)) := (blk_cell TB.out 3).trans rfl
  have t4 : w1.cell? ⟨b3, 4, none⟩ = some (.string t.text) := (blk_cell TB.out 4).trans rfl
  have l1 : ¬ b3 = g := L3.out
  have l2 : ¬ g = b3 := fun e => L3.out e.symm
  clear hb1
  have N2 := N1
  have B2 : Aside0 (Below w0.heap.size W w1) := ⟨B1.out.mono HWL.out⟩
  have K2 : Aside0 (KeepN g W w1) := ⟨KeepN.of_below B1.out⟩
  go_wp2_with (fail)
  go_at_call 73
  have HD := beh_calls N2.out T1.out (by have := HN.out; omega) HMM.out t HI.out
  refine HD.mono ?_
  rintro e wX ⟨v, rfl, hP⟩
  have HP := Aside0.mk hP
  clear hP
  go_wp2_with (fail)
  go_ret2
  rw [E.out]
  exact ⟨_, rfl, HP.out.pre B2.out K2.out⟩
set_option maxHeartbeats 16000000 in
set_option maxRecDepth 100000 in
theorem take_nothing {w0 W : World} {g : Nat} {s : NS} {lvv : Value} (h : Nx w0 W g s lvv) (hB0 : Below w0.heap.size w0 W) (hT : LxN.Tab W) (hn : s.stk.length ≤ 80000) (hmost : s.most ≤ 1000000) (hm : ∀ l ∈ s.lv, l.many ≤ 1000000) (t : Tk) (hmay : s.may = 6) (hbeg : s.begun = 0) :
    Calls Tryd.prog 36 #[.pointer (some ⟨g, 0, none⟩), .agg #[.int .i64 t.kind, .bool t.begun, .int .i64 (t.frm : Int), .int .i64 (t.to : Int), .string t.text]] W fun e w' => ∃ v, e = .returned (.tuple #[v, .int .i64 (takeV s t).2.2]) ∧ PostN w0 W g (takeV s t).1 (takeV s t).2.1 v w' := by
  have HMAY := Aside0.mk hmay
  have HBEG := Aside0.mk hbeg
  have E := Aside0.mk (show takeV s t = badV s 9 by unfold takeV; rw [if_neg (by omega), if_neg (by omega), if_pos hmay])
  clear hmay hbeg
  have H := Aside0.mk h
  have HB0 := Aside0.mk hB0
  have HT := Aside0.mk hT
  have HN := Aside0.mk hn
  have HMO := Aside0.mk hmost
  have HMM := Aside0.mk hm
  clear h hB0 hT hn hmost hm
  go_enter Tryd.func36, Tryd.ntmps36
  go_upto_region 1 with (fail)
  generalize hw1 : World.alloc W _ = w1
  have TB : Aside0 (w1.heap[W.heap.size]? = some (.cells (tokCells t) 39 (0, 0))) := ⟨by subst hw1; exact blk_new W _⟩
  have B1 : Aside0 (Below W.heap.size W w1) := ⟨by subst hw1; exact below_alloc (Below.refl _ _) _⟩
  have N1 : Aside0 (Nx w0 w1 g s lvv) := ⟨H.out.below B1.out⟩
  have L3 : Aside0 (W.heap.size ≠ g) := ⟨fun e => by have := H.out.lt; omega⟩
  have T1 : Aside0 (LxN.Tab w1) := ⟨LxN.Tab.below HT.out B1.out HT.out.1⟩
  have HWL : Aside0 (w0.heap.size ≤ W.heap.size) := ⟨Nat.le_trans H.out.ge (Nat.le_of_lt H.out.lt)⟩
  clear hw1
  obtain ⟨b3, hb3⟩ : ∃ b3, b3 = W.heap.size := ⟨_, rfl⟩
  rw [← hb3] at TB L3 ⊢
  clear hb3
  obtain ⟨wv1, hb1⟩ := N1.out.blk
  have c4 : w1.cell? ⟨g, 4, none⟩ = some (.int .i64 s.may) := (blk_cell hb1 4).trans rfl
  have c5 : w1.cell? ⟨g, 5, none⟩ = some (.int .i64 s.begun) := (blk_cell hb1 5).trans rfl
  have c6 : w1.cell? ⟨g, 6, none⟩ = some (.bool s.began) := (blk_cell hb1 6).trans rfl
  have z6 := blk_frozen hb1 6
  have z4 := blk_frozen hb1 4
  have t0 : w1.cell? ⟨b3, 0, none⟩ = some (.int .i64 t.kind) := (blk_cell TB.out 0).trans rfl
  have t1 : w1.cell? ⟨b3, 1, none⟩ = some (.bool t.begun) := (blk_cell TB.out 1).trans rfl
  have t2 : w1.cell? ⟨b3, 2, none⟩ = some (.int .i64 (t.frm : Int)) := (blk_cell TB.out 2).trans rfl
  have t3 : w1.cell? ⟨b3, 3, none⟩ = some (.int .i64 (t.to : Int)) := (blk_cell TB.out 3).trans rfl
  have t4 : w1.cell? ⟨b3, 4, none⟩ = some (.string t.text) := (blk_cell TB.out 4).trans rfl
  have l1 : ¬ b3 = g := L3.out
  have l2 : ¬ g = b3 := fun e => L3.out e.symm
  clear hb1
  rw [HMAY.out] at c4
  rw [HBEG.out] at c5
  have N2 := N1
  have B2 : Aside0 (Below w0.heap.size W w1) := ⟨B1.out.mono HWL.out⟩
  have K2 : Aside0 (KeepN g W w1) := ⟨KeepN.of_below B1.out⟩
  go_wp2_with (fail)
  go_at_call 74
  refine (bad_calls N2.out 9).mono ?_
  rintro e wX ⟨rfl, h1, h2, h3⟩
  have H1 := Aside0.mk h1
  have H2 := Aside0.mk h2
  have H3 := Aside0.mk h3
  clear h1 h2 h3
  go_wp2_with (fail)
  go_ret2
  rw [E.out]
  exact ⟨_, rfl, lvv, H1.out, B2.out.trans H2.out, K2.out.trans H3.out, World.ownsRow_nil _ _ _ _, fun _ => rfl⟩
set_option maxHeartbeats 16000000 in
set_option maxRecDepth 100000 in
theorem take_m0 {w0 W : World} {g : Nat} {s : NS} {lvv : Value} (h : Nx w0 W g s lvv) (hB0 : Below w0.heap.size w0 W) (hT : LxN.Tab W) (hn : s.stk.length ≤ 80000) (hmost : s.most ≤ 1000000) (hm : ∀ l ∈ s.lv, l.many ≤ 1000000) (t : Tk) (hmay : s.may = 0) (hbeg : s.begun = 0) :
    Calls Tryd.prog 36 #[.pointer (some ⟨g, 0, none⟩), .agg #[.int .i64 t.kind, .bool t.begun, .int .i64 (t.frm : Int), .int .i64 (t.to : Int), .string t.text]] W fun e w' => ∃ v, e = .returned (.tuple #[v, .int .i64 (takeV s t).2.2]) ∧ PostN w0 W g (takeV s t).1 (takeV s t).2.1 v w' := by
  have HMAY := Aside0.mk hmay
  have HBEG := Aside0.mk hbeg
  clear hmay hbeg
  have H := Aside0.mk h
  have HB0 := Aside0.mk hB0
  have HT := Aside0.mk hT
  have HN := Aside0.mk hn
  have HMO := Aside0.mk hmost
  have HMM := Aside0.mk hm
  clear h hB0 hT hn hmost hm
  go_enter Tryd.func36, Tryd.ntmps36
  go_upto_region 1 with (fail)
  generalize hw1 : World.alloc W _ = w1
  have TB : Aside0 (w1.heap[W.heap.size]? = some (.cells (tokCells t) 39 (0, 0))) := ⟨by subst hw1; exact blk_new W _⟩
  have B1 : Aside0 (Below W.heap.size W w1) := ⟨by subst hw1; exact below_alloc (Below.refl _ _) _⟩
  have N1 : Aside0 (Nx w0 w1 g s lvv) := ⟨H.out.below B1.out⟩
  have L3 : Aside0 (W.heap.size ≠ g) := ⟨fun e => by have := H.out.lt; omega⟩
  have T1 : Aside0 (LxN.Tab w1) := ⟨LxN.Tab.below HT.out B1.out HT.out.1⟩
  have HWL : Aside0 (w0.heap.size ≤ W.heap.size) := ⟨Nat.le_trans H.out.ge (Nat.le_of_lt H.out.lt)⟩
  clear hw1
  obtain ⟨b3, hb3⟩ : ∃ b3, b3 = W.heap.size := ⟨_, rfl⟩
  rw [← hb3] at TB L3 ⊢
  clear hb3
  obtain ⟨wv1, hb1⟩ := N1.out.blk
  have c4 : w1.cell? ⟨g, 4, none⟩ = some (.int .i64 s.may) := (blk_cell hb1 4).trans rfl
  have c5 : w1.cell? ⟨g, 5, none⟩ = some (.int .i64 s.begun) := (blk_cell hb1 5).trans rfl
  have c6 : w1.cell? ⟨g, 6, none⟩ = some (.bool s.began) := (blk_cell hb1 6).trans rfl
  have z6 := blk_frozen hb1 6
  have z4 := blk_frozen hb1 4
  have t0 : w1.cell? ⟨b3, 0, none⟩ = some (.int .i64 t.kind) := (blk_cell TB.out 0).trans rfl
  have t1 : w1.cell? ⟨b3, 1, none⟩ = some (.bool t.begun) := (blk_cell TB.out 1).trans rfl
  have t2 : w1.cell? ⟨b3, 2, none⟩ = some (.int .i64 (t.frm : Int)) := (blk_cell TB.out 2).trans rfl
  have t3 : w1.cell? ⟨b3, 3, none⟩ = some (.int .i64 (t.to : Int)) := (blk_cell TB.out 3).trans rfl
  have t4 : w1.cell? ⟨b3, 4, none⟩ = some (.string t.text) := (blk_cell TB.out 4).trans rfl
  have l1 : ¬ b3 = g := L3.out
  have l2 : ¬ g = b3 := fun e => L3.out e.symm
  clear hb1
  rw [HMAY.out] at c4
  rw [HBEG.out] at c5
  go_wp2_with (fail)
  generalize hw2 : World.setCell w1 ⟨g, 6, none⟩ _ = w2
  have N2 : Aside0 (Nx w0 w2 g { s with began := true } lvv) := ⟨by subst hw2; exact N1.out.set6 true⟩
  have B2 : Aside0 (Below w0.heap.size W w2) := ⟨by subst hw2; exact (B1.out.mono HWL.out).setCell (p := ⟨g, 6, none⟩) H.out.ge _⟩
  have K2 : Aside0 (KeepN g W w2) := ⟨by subst hw2; exact (KeepN.of_below B1.out).trans (KeepN.set_ _ _ _)⟩
  have TB2 : Aside0 (w2.heap[b3]? = some (.cells (tokCells t) 39 (0, 0))) := ⟨by subst hw2; exact blk_far TB.out (p := ⟨g, 6, none⟩) L3.out _⟩
  have HTOP := Aside0.mk (top_calls N2.out (by have := HN.out; simp only; omega))
  clear hw2 N1 B1 TB T1 c4 c5 c6 z6 z4 t0 t1 t2 t3 t4
  obtain ⟨wv2, hb2⟩ := N2.out.blk
  have c4 : w2.cell? ⟨g, 4, none⟩ = some (.int .i64 s.may) := (blk_cell hb2 4).trans rfl
  have z4 := blk_frozen hb2 4
  have t0 : w2.cell? ⟨b3, 0, none⟩ = some (.int .i64 t.kind) := (blk_cell TB2.out 0).trans rfl
  have t1 : w2.cell? ⟨b3, 1, none⟩ = some (.bool t.begun) := (blk_cell TB2.out 1).trans rfl
  have t2 : w2.cell? ⟨b3, 2, none⟩ = some (.int .i64 (t.frm : Int)) := (blk_cell TB2.out 2).trans rfl
  have t3 : w2.cell? ⟨b3, 3, none⟩ = some (.int .i64 (t.to : Int)) := (blk_cell TB2.out 3).trans rfl
  have t4 : w2.cell? ⟨b3, 4, none⟩ = some (.string t.text) := (blk_cell TB2.out 4).trans rfl
  clear hb2
  rw [HMAY.out] at c4
  go_at_call 75
  refine HTOP.out.mono ?_
  rintro e w3 ⟨⟨ii, rfl⟩, rfl⟩
  by_cases htb : t.begun = true
  · have HTB := Aside0.mk htb
    have E := Aside0.mk (show takeV s t = tbeginV { s with began := true } t true by unfold takeV takeB; simp [HMAY.out, HBEG.out, htb])
    rw [htb] at t1
    clear htb
    go_wp2_with (fail)
    go_at_call 76
    have HD := begin_calls N2.out (by have := HN.out; simp only; omega) t true
    rw [HTB.out] at HD
    refine HD.mono ?_
    rintro e wX ⟨v, rfl, hP⟩
    have HP := Aside0.mk hP
    clear hP
    go_wp2_with (fail)
    go_ret2
    rw [E.out]
    exact ⟨_, rfl, HP.out.pre B2.out K2.out⟩
  have HTB := Aside0.mk (show t.begun = false by simpa using htb)
  rw [HTB.out] at t1
  clear htb
  by_cases hk2 : t.kind = 2
  · have hk := hk2
    clear hk2
    have E := Aside0.mk (show takeV s t = downV ({ s with began := true } : NS) t by unfold takeV takeB; simp [HMAY.out, HBEG.out, HTB.out, hk])
    rw [hk] at t0
    have HK := Aside0.mk hk
    clear hk
    go_wp2_with (fail)
    go_at_call 77
    have HD := down_calls N2.out (HB0.out.trans B2.out) (by have := HN.out; simp only; omega) HMO.out t
    rw [HTB.out, HK.out] at HD
    refine HD.mono ?_
    rintro e wX ⟨v, rfl, hP⟩
    have HP := Aside0.mk hP
    clear hP
    go_wp2_with (fail)
    go_ret2
    rw [E.out]
    exact ⟨_, rfl, HP.out.pre B2.out K2.out⟩
  by_cases hk3 : t.kind = 3
  · have hk := hk3
    clear hk3
    have E := Aside0.mk (show takeV s t = badV ({ s with began := true } : NS) 8 by unfold takeV takeB; simp [HMAY.out, HBEG.out, HTB.out, hk])
    rw [hk] at t0
    have HK := Aside0.mk hk
    clear hk hk2
    go_wp2_with (fail)
    go_at_call 74
    refine (bad_calls N2.out 8).mono ?_
    rintro e wX ⟨rfl, h1, h2, h3⟩
    have H1 := Aside0.mk h1
    have H2 := Aside0.mk h2
    have H3 := Aside0.mk h3
    clear h1 h2 h3
    go_wp2_with (fail)
    go_ret2
    rw [E.out]
    exact ⟨_, rfl, lvv, H1.out, B2.out.trans H2.out, K2.out.trans H3.out, World.ownsRow_nil _ _ _ _, fun _ => rfl⟩
  by_cases hk4 : t.kind = 4
  · have hk := hk4
    clear hk4
    have E := Aside0.mk (show takeV s t = downV ({ s with began := true } : NS) t by unfold takeV takeB; simp [HMAY.out, HBEG.out, HTB.out, hk])
    rw [hk] at t0
    have HK := Aside0.mk hk
    clear hk hk2 hk3
    go_wp2_with (fail)
    go_at_call 77
    have HD := down_calls N2.out (HB0.out.trans B2.out) (by have := HN.out; simp only; omega) HMO.out t
    rw [HTB.out, HK.out] at HD
    refine HD.mono ?_
    rintro e wX ⟨v, rfl, hP⟩
    have HP := Aside0.mk hP
    clear hP
    go_wp2_with (fail)
    go_ret2
    rw [E.out]
    exact ⟨_, rfl, HP.out.pre B2.out K2.out⟩
  by_cases hk5 : t.kind = 5
  · have hk := hk5
    clear hk5
    have E := Aside0.mk (show takeV s t = badV ({ s with began := true } : NS) 8 by unfold takeV takeB; simp [HMAY.out, HBEG.out, HTB.out, hk])
    rw [hk] at t0
    have HK := Aside0.mk hk
    clear hk hk2 hk3 hk4
    go_wp2_with (fail)
    go_at_call 74
    refine (bad_calls N2.out 8).mono ?_
    rintro e wX ⟨rfl, h1, h2, h3⟩
    have H1 := Aside0.mk h1
    have H2 := Aside0.mk h2
    have H3 := Aside0.mk h3
    clear h1 h2 h3
    go_wp2_with (fail)
    go_ret2
    rw [E.out]
    exact ⟨_, rfl, lvv, H1.out, B2.out.trans H2.out, K2.out.trans H3.out, World.ownsRow_nil _ _ _ _, fun _ => rfl⟩
  by_cases hk6 : t.kind = 6
  · have hk := hk6
    clear hk6
    have E := Aside0.mk (show takeV s t = badV ({ s with began := true } : NS) 8 by unfold takeV takeB; simp [HMAY.out, HBEG.out, HTB.out, hk])
    rw [hk] at t0
    have HK := Aside0.mk hk
    clear hk hk2 hk3 hk4 hk5
    go_wp2_with (fail)
    go_at_call 74
    refine (bad_calls N2.out 8).mono ?_
    rintro e wX ⟨rfl, h1, h2, h3⟩
    have H1 := Aside0.mk h1
    have H2 := Aside0.mk h2
    have H3 := Aside0.mk h3
    clear h1 h2 h3
    go_wp2_with (fail)
    go_ret2
    rw [E.out]
    exact ⟨_, rfl, lvv, H1.out, B2.out.trans H2.out, K2.out.trans H3.out, World.ownsRow_nil _ _ _ _, fun _ => rfl⟩
  by_cases hk7 : t.kind = 7
  · have hk := hk7
    clear hk7
    have E := Aside0.mk (show takeV s t = badV ({ s with began := true } : NS) 8 by unfold takeV takeB; simp [HMAY.out, HBEG.out, HTB.out, hk])
    rw [hk] at t0
    have HK := Aside0.mk hk
    clear hk hk2 hk3 hk4 hk5 hk6
    go_wp2_with (fail)
    go_at_call 74
    refine (bad_calls N2.out 8).mono ?_
    rintro e wX ⟨rfl, h1, h2, h3⟩
    have H1 := Aside0.mk h1
    have H2 := Aside0.mk h2
    have H3 := Aside0.mk h3
    clear h1 h2 h3
    go_wp2_with (fail)
    go_ret2
    rw [E.out]
    exact ⟨_, rfl, lvv, H1.out, B2.out.trans H2.out, K2.out.trans H3.out, World.ownsRow_nil _ _ _ _, fun _ => rfl⟩
  have E := Aside0.mk (show takeV s t = badV ({ s with began := true } : NS) 8 by unfold takeV takeB; simp [HMAY.out, HBEG.out, HTB.out, hk2, hk3, hk4, hk5, hk6, hk7])
  have k2 : (t.kind == 2) = false := by simp [hk2]
  have k3 : (t.kind == 3) = false := by simp [hk3]
  have k4 : (t.kind == 4) = false := by simp [hk4]
  have k5 : (t.kind == 5) = false := by simp [hk5]
  have k6 : (t.kind == 6) = false := by simp [hk6]
  have k7 : (t.kind == 7) = false := by simp [hk7]
  clear hk2 hk3 hk4 hk5 hk6 hk7
  go_wp2_with (fail)
  go_at_call 74
  refine (bad_calls N2.out 8).mono ?_
  rintro e wX ⟨rfl, h1, h2, h3⟩
  have H1 := Aside0.mk h1
  have H2 := Aside0.mk h2
  have H3 := Aside0.mk h3
  clear h1 h2 h3
  go_wp2_with (fail)
  go_ret2
  rw [E.out]
  exact ⟨_, rfl, lvv, H1.out, B2.out.trans H2.out, K2.out.trans H3.out, World.ownsRow_nil _ _ _ _, fun _ => rfl⟩
set_option maxHeartbeats 16000000 in
set_option maxRecDepth 100000 in
theorem take_m1 {w0 W : World} {g : Nat} {s : NS} {lvv : Value} (h : Nx w0 W g s lvv) (hB0 : Below w0.heap.size w0 W) (hT : LxN.Tab W) (hn : s.stk.length ≤ 80000) (hmost : s.most ≤ 1000000) (hm : ∀ l ∈ s.lv, l.many ≤ 1000000) (t : Tk) (hmay : s.may = 1) (hbeg : s.begun = 0) (hne : s.stk ≠ []) :
    Calls Tryd.prog 36 #[.pointer (some ⟨g, 0, none⟩), .agg #[.int .i64 t.kind, .bool t.begun, .int .i64 (t.frm : Int), .int .i64 (t.to : Int), .string t.text]] W fun e w' => ∃ v, e = .returned (.tuple #[v, .int .i64 (takeV s t).2.2]) ∧ PostN w0 W g (takeV s t).1 (takeV s t).2.1 v w' := by
  have HMAY := Aside0.mk hmay
  have HBEG := Aside0.mk hbeg
  have HNE := Aside0.mk hne
  clear hne
  clear hmay hbeg
  have H := Aside0.mk h
  have HB0 := Aside0.mk hB0
  have HT := Aside0.mk hT
  have HN := Aside0.mk hn
  have HMO := Aside0.mk hmost
  have HMM := Aside0.mk hm
  clear h hB0 hT hn hmost hm
  go_enter Tryd.func36, Tryd.ntmps36
  go_upto_region 1 with (fail)
  generalize hw1 : World.alloc W _ = w1
  have TB : Aside0 (w1.heap[W.heap.size]? = some (.cells (tokCells t) 39 (0, 0))) := ⟨by subst hw1; exact blk_new W _⟩
  have B1 : Aside0 (Below W.heap.size W w1) := ⟨by subst hw1; exact below_alloc (Below.refl _ _) _⟩
  have N1 : Aside0 (Nx w0 w1 g s lvv) := ⟨H.out.below B1.out⟩
  have L3 : Aside0 (W.heap.size ≠ g) := ⟨fun e => by have := H.out.lt; omega⟩
  have T1 : Aside0 (LxN.Tab w1) := ⟨LxN.Tab.below HT.out B1.out HT.out.1⟩
  have HWL : Aside0 (w0.heap.size ≤ W.heap.size) := ⟨Nat.le_trans H.out.ge (Nat.le_of_lt H.out.lt)⟩
  clear hw1
  obtain ⟨b3, hb3⟩ : ∃ b3, b3 = W.heap.size := ⟨_, rfl⟩
  rw [← hb3] at TB L3 ⊢
  clear hb3
  obtain ⟨wv1, hb1⟩ := N1.out.blk
  have c4 : w1.cell? ⟨g, 4, none⟩ = some (.int .i64 s.may) := (blk_cell hb1 4).trans rfl
  have c5 : w1.cell? ⟨g, 5, none⟩ = some (.int .i64 s.begun) := (blk_cell hb1 5).trans rfl
  have c6 : w1.cell? ⟨g, 6, none⟩ = some (.bool s.began) := (blk_cell hb1 6).trans rfl
  have z6 := blk_frozen hb1 6
  have z4 := blk_frozen hb1 4
  have t0 : w1.cell? ⟨b3, 0, none⟩ = some (.int .i64 t.kind) := (blk_cell TB.out 0).trans rfl
  have t1 : w1.cell? ⟨b3, 1, none⟩ = some (.bool t.begun) := (blk_cell TB.out 1).trans rfl
  have t2 : w1.cell? ⟨b3, 2, none⟩ = some (.int .i64 (t.frm : Int)) := (blk_cell TB.out 2).trans rfl
  have t3 : w1.cell? ⟨b3, 3, none⟩ = some (.int .i64 (t.to : Int)) := (blk_cell TB.out 3).trans rfl
  have t4 : w1.cell? ⟨b3, 4, none⟩ = some (.string t.text) := (blk_cell TB.out 4).trans rfl
  have l1 : ¬ b3 = g := L3.out
  have l2 : ¬ g = b3 := fun e => L3.out e.symm
  clear hb1
  rw [HMAY.out] at c4
  rw [HBEG.out] at c5
  go_wp2_with (fail)
  generalize hw2 : World.setCell w1 ⟨g, 6, none⟩ _ = w2
  have N2 : Aside0 (Nx w0 w2 g { s with began := true } lvv) := ⟨by subst hw2; exact N1.out.set6 true⟩
  have B2 : Aside0 (Below w0.heap.size W w2) := ⟨by subst hw2; exact (B1.out.mono HWL.out).setCell (p := ⟨g, 6, none⟩) H.out.ge _⟩
  have K2 : Aside0 (KeepN g W w2) := ⟨by subst hw2; exact (KeepN.of_below B1.out).trans (KeepN.set_ _ _ _)⟩
  have TB2 : Aside0 (w2.heap[b3]? = some (.cells (tokCells t) 39 (0, 0))) := ⟨by subst hw2; exact blk_far TB.out (p := ⟨g, 6, none⟩) L3.out _⟩
  have HTOP := Aside0.mk (top_calls N2.out (by have := HN.out; simp only; omega))
  clear hw2 N1 B1 TB T1 c4 c5 c6 z6 z4 t0 t1 t2 t3 t4
  obtain ⟨wv2, hb2⟩ := N2.out.blk
  have c4 : w2.cell? ⟨g, 4, none⟩ = some (.int .i64 s.may) := (blk_cell hb2 4).trans rfl
  have z4 := blk_frozen hb2 4
  have t0 : w2.cell? ⟨b3, 0, none⟩ = some (.int .i64 t.kind) := (blk_cell TB2.out 0).trans rfl
  have t1 : w2.cell? ⟨b3, 1, none⟩ = some (.bool t.begun) := (blk_cell TB2.out 1).trans rfl
  have t2 : w2.cell? ⟨b3, 2, none⟩ = some (.int .i64 (t.frm : Int)) := (blk_cell TB2.out 2).trans rfl
  have t3 : w2.cell? ⟨b3, 3, none⟩ = some (.int .i64 (t.to : Int)) := (blk_cell TB2.out 3).trans rfl
  have t4 : w2.cell? ⟨b3, 4, none⟩ = some (.string t.text) := (blk_cell TB2.out 4).trans rfl
  clear hb2
  rw [HMAY.out] at c4
  go_at_call 75
  refine HTOP.out.mono ?_
  rintro e w3 ⟨⟨ii, rfl⟩, rfl⟩
  by_cases htb : t.begun = true
  · have HTB := Aside0.mk htb
    have E := Aside0.mk (show takeV s t = tbeginV { s with began := true } t true by unfold takeV takeB; simp [HMAY.out, HBEG.out, htb])
    rw [htb] at t1
    clear htb
    go_wp2_with (fail)
    go_at_call 76
    have HD := begin_calls N2.out (by have := HN.out; simp only; omega) t true
    rw [HTB.out] at HD
    refine HD.mono ?_
    rintro e wX ⟨v, rfl, hP⟩
    have HP := Aside0.mk hP
    clear hP
    go_wp2_with (fail)
    go_ret2
    rw [E.out]
    exact ⟨_, rfl, HP.out.pre B2.out K2.out⟩
  have HTB := Aside0.mk (show t.begun = false by simpa using htb)
  rw [HTB.out] at t1
  clear htb
  by_cases hk2 : t.kind = 2
  · have hk := hk2
    clear hk2
    have E := Aside0.mk (show takeV s t = downV ({ s with began := true } : NS) t by unfold takeV takeB; simp [HMAY.out, HBEG.out, HTB.out, hk])
    rw [hk] at t0
    have HK := Aside0.mk hk
    clear hk
    go_wp2_with (fail)
    go_at_call 77
    have HD := down_calls N2.out (HB0.out.trans B2.out) (by have := HN.out; simp only; omega) HMO.out t
    rw [HTB.out, HK.out] at HD
    refine HD.mono ?_
    rintro e wX ⟨v, rfl, hP⟩
    have HP := Aside0.mk hP
    clear hP
    go_wp2_with (fail)
    go_ret2
    rw [E.out]
    exact ⟨_, rfl, HP.out.pre B2.out K2.out⟩
  by_cases hk3 : t.kind = 3
  · have hk := hk3
    clear hk3
    have E := Aside0.mk (show takeV s t = upV ({ s with began := true } : NS) t 4 by unfold takeV takeB; simp [HMAY.out, HBEG.out, HTB.out, hk])
    rw [hk] at t0
    have HK := Aside0.mk hk
    clear hk hk2
    go_wp2_with (fail)
    go_at_call 78
    have HD := up_calls N2.out (HB0.out.trans B2.out) (by have := HN.out; simp only; omega) HMM.out HNE.out t 4
    rw [HTB.out, HK.out] at HD
    refine HD.mono ?_
    rintro e wX ⟨v, rfl, hP⟩
    have HP := Aside0.mk hP
    clear hP
    go_wp2_with (fail)
    go_ret2
    rw [E.out]
    exact ⟨_, rfl, HP.out.pre B2.out K2.out⟩
  by_cases hk4 : t.kind = 4
  · have hk := hk4
    clear hk4
    have E := Aside0.mk (show takeV s t = downV ({ s with began := true } : NS) t by unfold takeV takeB; simp [HMAY.out, HBEG.out, HTB.out, hk])
    rw [hk] at t0
    have HK := Aside0.mk hk
    clear hk hk2 hk3
    go_wp2_with (fail)
    go_at_call 77
    have HD := down_calls N2.out (HB0.out.trans B2.out) (by have := HN.out; simp only; omega) HMO.out t
    rw [HTB.out, HK.out] at HD
    refine HD.mono ?_
    rintro e wX ⟨v, rfl, hP⟩
    have HP := Aside0.mk hP
    clear hP
    go_wp2_with (fail)
    go_ret2
    rw [E.out]
    exact ⟨_, rfl, HP.out.pre B2.out K2.out⟩
  by_cases hk5 : t.kind = 5
  · have hk := hk5
    clear hk5
    have E := Aside0.mk (show takeV s t = badV ({ s with began := true } : NS) 8 by unfold takeV takeB; simp [HMAY.out, HBEG.out, HTB.out, hk])
    rw [hk] at t0
    have HK := Aside0.mk hk
    clear hk hk2 hk3 hk4
    go_wp2_with (fail)
    go_at_call 74
    refine (bad_calls N2.out 8).mono ?_
    rintro e wX ⟨rfl, h1, h2, h3⟩
    have H1 := Aside0.mk h1
    have H2 := Aside0.mk h2
    have H3 := Aside0.mk h3
    clear h1 h2 h3
    go_wp2_with (fail)
    go_ret2
    rw [E.out]
    exact ⟨_, rfl, lvv, H1.out, B2.out.trans H2.out, K2.out.trans H3.out, World.ownsRow_nil _ _ _ _, fun _ => rfl⟩
  by_cases hk6 : t.kind = 6
  · have hk := hk6
    clear hk6
    have E := Aside0.mk (show takeV s t = badV ({ s with began := true } : NS) 8 by unfold takeV takeB; simp [HMAY.out, HBEG.out, HTB.out, hk])
    rw [hk] at t0
    have HK := Aside0.mk hk
    clear hk hk2 hk3 hk4 hk5
    go_wp2_with (fail)
    go_at_call 74
    refine (bad_calls N2.out 8).mono ?_
    rintro e wX ⟨rfl, h1, h2, h3⟩
    have H1 := Aside0.mk h1
    have H2 := Aside0.mk h2
    have H3 := Aside0.mk h3
    clear h1 h2 h3
    go_wp2_with (fail)
    go_ret2
    rw [E.out]
    exact ⟨_, rfl, lvv, H1.out, B2.out.trans H2.out, K2.out.trans H3.out, World.ownsRow_nil _ _ _ _, fun _ => rfl⟩
  by_cases hk7 : t.kind = 7
  · have hk := hk7
    clear hk7
    have E := Aside0.mk (show takeV s t = badV ({ s with began := true } : NS) 8 by unfold takeV takeB; simp [HMAY.out, HBEG.out, HTB.out, hk])
    rw [hk] at t0
    have HK := Aside0.mk hk
    clear hk hk2 hk3 hk4 hk5 hk6
    go_wp2_with (fail)
    go_at_call 74
    refine (bad_calls N2.out 8).mono ?_
    rintro e wX ⟨rfl, h1, h2, h3⟩
    have H1 := Aside0.mk h1
    have H2 := Aside0.mk h2
    have H3 := Aside0.mk h3
    clear h1 h2 h3
    go_wp2_with (fail)
    go_ret2
    rw [E.out]
    exact ⟨_, rfl, lvv, H1.out, B2.out.trans H2.out, K2.out.trans H3.out, World.ownsRow_nil _ _ _ _, fun _ => rfl⟩
  have E := Aside0.mk (show takeV s t = badV ({ s with began := true } : NS) 8 by unfold takeV takeB; simp [HMAY.out, HBEG.out, HTB.out, hk2, hk3, hk4, hk5, hk6, hk7])
  have k2 : (t.kind == 2) = false := by simp [hk2]
  have k3 : (t.kind == 3) = false := by simp [hk3]
  have k4 : (t.kind == 4) = false := by simp [hk4]
  have k5 : (t.kind == 5) = false := by simp [hk5]
  have k6 : (t.kind == 6) = false := by simp [hk6]
  have k7 : (t.kind == 7) = false := by simp [hk7]
  clear hk2 hk3 hk4 hk5 hk6 hk7
  go_wp2_with (fail)
  go_at_call 74
  refine (bad_calls N2.out 8).mono ?_
  rintro e wX ⟨rfl, h1, h2, h3⟩
  have H1 := Aside0.mk h1
  have H2 := Aside0.mk h2
  have H3 := Aside0.mk h3
  clear h1 h2 h3
  go_wp2_with (fail)
  go_ret2
  rw [E.out]
  exact ⟨_, rfl, lvv, H1.out, B2.out.trans H2.out, K2.out.trans H3.out, World.ownsRow_nil _ _ _ _, fun _ => rfl⟩
set_option maxHeartbeats 16000000 in
set_option maxRecDepth 100000 in
theorem take_m2 {w0 W : World} {g : Nat} {s : NS} {lvv : Value} (h : Nx w0 W g s lvv) (hB0 : Below w0.heap.size w0 W) (hT : LxN.Tab W) (hn : s.stk.length ≤ 80000) (hmost : s.most ≤ 1000000) (hm : ∀ l ∈ s.lv, l.many ≤ 1000000) (t : Tk) (hmay : s.may = 2) (hbeg : s.begun = 0) (hne : s.stk ≠ []) :
    Calls Tryd.prog 36 #[.pointer (some ⟨g, 0, none⟩), .agg #[.int .i64 t.kind, .bool t.begun, .int .i64 (t.frm : Int), .int .i64 (t.to : Int), .string t.text]] W fun e w' => ∃ v, e = .returned (.tuple #[v, .int .i64 (takeV s t).2.2]) ∧ PostN w0 W g (takeV s t).1 (takeV s t).2.1 v w' := by
  have HMAY := Aside0.mk hmay
  have HBEG := Aside0.mk hbeg
  have HNE := Aside0.mk hne
  clear hne
  clear hmay hbeg
  have H := Aside0.mk h
  have HB0 := Aside0.mk hB0
  have HT := Aside0.mk hT
  have HN := Aside0.mk hn
  have HMO := Aside0.mk hmost
  have HMM := Aside0.mk hm
  clear h hB0 hT hn hmost hm
  go_enter Tryd.func36, Tryd.ntmps36
  go_upto_region 1 with (fail)
  generalize hw1 : World.alloc W _ = w1
  have TB : Aside0 (w1.heap[W.heap.size]? = some (.cells (tokCells t) 39 (0, 0))) := ⟨by subst hw1; exact blk_new W _⟩
  have B1 : Aside0 (Below W.heap.size W w1) := ⟨by subst hw1; exact below_alloc (Below.refl _ _) _⟩
  have N1 : Aside0 (Nx w0 w1 g s lvv) := ⟨H.out.below B1.out⟩
  have L3 : Aside0 (W.heap.size ≠ g) := ⟨fun e => by have := H.out.lt; omega⟩
  have T1 : Aside0 (LxN.Tab w1) := ⟨LxN.Tab.below HT.out B1.out HT.out.1⟩
  have HWL : Aside0 (w0.heap.size ≤ W.heap.size) := ⟨Nat.le_trans H.out.ge (Nat.le_of_lt H.out.lt)⟩
  clear hw1
  obtain ⟨b3, hb3⟩ : ∃ b3, b3 = W.heap.size := ⟨_, rfl⟩
  rw [← hb3] at TB L3 ⊢
  clear hb3
  obtain ⟨wv1, hb1⟩ := N1.out.blk
  have c4 : w1.cell? ⟨g, 4, none⟩ = some (.int .i64 s.may) := (blk_cell hb1 4).trans rfl
  have c5 : w1.cell? ⟨g, 5, none⟩ = some (.int .i64 s.begun) := (blk_cell hb1 5).trans rfl
  have c6 : w1.cell? ⟨g, 6, none⟩ = some (.bool s.began) := (blk_cell hb1 6).trans rfl
  have z6 := blk_frozen hb1 6
  have z4 := blk_frozen hb1 4
  have t0 : w1.cell? ⟨b3, 0, none⟩ = some (.int .i64 t.kind) := (blk_cell TB.out 0).trans rfl
  have t1 : w1.cell? ⟨b3, 1, none⟩ = some (.bool t.begun) := (blk_cell TB.out 1).trans rfl
  have t2 : w1.cell? ⟨b3, 2, none⟩ = some (.int .i64 (t.frm : Int)) := (blk_cell TB.out 2).trans rfl
  have t3 : w1.cell? ⟨b3, 3, none⟩ = some (.int .i64 (t.to : Int)) := (blk_cell TB.out 3).trans rfl
  have t4 : w1.cell? ⟨b3, 4, none⟩ = some (.string t.text) := (blk_cell TB.out 4).trans rfl
  have l1 : ¬ b3 = g := L3.out
  have l2 : ¬ g = b3 := fun e => L3.out e.symm
  clear hb1
  rw [HMAY.out] at c4
  rw [HBEG.out] at c5
  go_wp2_with (fail)
  generalize hw2 : World.setCell w1 ⟨g, 6, none⟩ _ = w2
  have N2 : Aside0 (Nx w0 w2 g { s with began := true } lvv) := ⟨by subst hw2; exact N1.out.set6 true⟩
  have B2 : Aside0 (Below w0.heap.size W w2) := ⟨by subst hw2; exact (B1.out.mono HWL.out).setCell (p := ⟨g, 6, none⟩) H.out.ge _⟩
  have K2 : Aside0 (KeepN g W w2) := ⟨by subst hw2; exact (KeepN.of_below B1.out).trans (KeepN.set_ _ _ _)⟩
  have TB2 : Aside0 (w2.heap[b3]? = some (.cells (tokCells t) 39 (0, 0))) := ⟨by subst hw2; exact blk_far TB.out (p := ⟨g, 6, none⟩) L3.out _⟩
  have HTOP := Aside0.mk (top_calls N2.out (by have := HN.out; simp only; omega))
  clear hw2 N1 B1 TB T1 c4 c5 c6 z6 z4 t0 t1 t2 t3 t4
  obtain ⟨wv2, hb2⟩ := N2.out.blk
  have c4 : w2.cell? ⟨g, 4, none⟩ = some (.int .i64 s.may) := (blk_cell hb2 4).trans rfl
  have z4 := blk_frozen hb2 4
  have t0 : w2.cell? ⟨b3, 0, none⟩ = some (.int .i64 t.kind) := (blk_cell TB2.out 0).trans rfl
  have t1 : w2.cell? ⟨b3, 1, none⟩ = some (.bool t.begun) := (blk_cell TB2.out 1).trans rfl
  have t2 : w2.cell? ⟨b3, 2, none⟩ = some (.int .i64 (t.frm : Int)) := (blk_cell TB2.out 2).trans rfl
  have t3 : w2.cell? ⟨b3, 3, none⟩ = some (.int .i64 (t.to : Int)) := (blk_cell TB2.out 3).trans rfl
  have t4 : w2.cell? ⟨b3, 4, none⟩ = some (.string t.text) := (blk_cell TB2.out 4).trans rfl
  clear hb2
  rw [HMAY.out] at c4
  go_at_call 75
  refine HTOP.out.mono ?_
  rintro e w3 ⟨⟨ii, rfl⟩, rfl⟩
  by_cases htb : t.begun = true
  · have HTB := Aside0.mk htb
    have E := Aside0.mk (show takeV s t = tbeginV { s with began := true } t false by unfold takeV takeB; simp [HMAY.out, HBEG.out, htb])
    rw [htb] at t1
    clear htb
    go_wp2_with (fail)
    go_at_call 76
    have HD := begin_calls N2.out (by have := HN.out; simp only; omega) t false
    rw [HTB.out] at HD
    refine HD.mono ?_
    rintro e wX ⟨v, rfl, hP⟩
    have HP := Aside0.mk hP
    clear hP
    go_wp2_with (fail)
    go_ret2
    rw [E.out]
    exact ⟨_, rfl, HP.out.pre B2.out K2.out⟩
  have HTB := Aside0.mk (show t.begun = false by simpa using htb)
  rw [HTB.out] at t1
  clear htb
  by_cases hk2 : t.kind = 2
  · have hk := hk2
    clear hk2
    have E := Aside0.mk (show takeV s t = badV ({ s with began := true } : NS) 8 by unfold takeV takeB; simp [HMAY.out, HBEG.out, HTB.out, hk])
    rw [hk] at t0
    have HK := Aside0.mk hk
    clear hk
    go_wp2_with (fail)
    go_at_call 74
    refine (bad_calls N2.out 8).mono ?_
    rintro e wX ⟨rfl, h1, h2, h3⟩
    have H1 := Aside0.mk h1
    have H2 := Aside0.mk h2
    have H3 := Aside0.mk h3
    clear h1 h2 h3
    go_wp2_with (fail)
    go_ret2
    rw [E.out]
    exact ⟨_, rfl, lvv, H1.out, B2.out.trans H2.out, K2.out.trans H3.out, World.ownsRow_nil _ _ _ _, fun _ => rfl⟩
  by_cases hk3 : t.kind = 3
  · have hk := hk3
    clear hk3
    have E := Aside0.mk (show takeV s t = badV ({ s with began := true } : NS) 8 by unfold takeV takeB; simp [HMAY.out, HBEG.out, HTB.out, hk])
    rw [hk] at t0
    have HK := Aside0.mk hk
    clear hk hk2
    go_wp2_with (fail)
    go_at_call 74
    refine (bad_calls N2.out 8).mono ?_
    rintro e wX ⟨rfl, h1, h2, h3⟩
    have H1 := Aside0.mk h1
    have H2 := Aside0.mk h2
    have H3 := Aside0.mk h3
    clear h1 h2 h3
    go_wp2_with (fail)
    go_ret2
    rw [E.out]
    exact ⟨_, rfl, lvv, H1.out, B2.out.trans H2.out, K2.out.trans H3.out, World.ownsRow_nil _ _ _ _, fun _ => rfl⟩
  by_cases hk4 : t.kind = 4
  · have hk := hk4
    clear hk4
    have E := Aside0.mk (show takeV s t = badV ({ s with began := true } : NS) 8 by unfold takeV takeB; simp [HMAY.out, HBEG.out, HTB.out, hk])
    rw [hk] at t0
    have HK := Aside0.mk hk
    clear hk hk2 hk3
    go_wp2_with (fail)
    go_at_call 74
    refine (bad_calls N2.out 8).mono ?_
    rintro e wX ⟨rfl, h1, h2, h3⟩
    have H1 := Aside0.mk h1
    have H2 := Aside0.mk h2
    have H3 := Aside0.mk h3
    clear h1 h2 h3
    go_wp2_with (fail)
    go_ret2
    rw [E.out]
    exact ⟨_, rfl, lvv, H1.out, B2.out.trans H2.out, K2.out.trans H3.out, World.ownsRow_nil _ _ _ _, fun _ => rfl⟩
  by_cases hk5 : t.kind = 5
  · have hk := hk5
    clear hk5
    have E := Aside0.mk (show takeV s t = upV ({ s with began := true } : NS) t 5 by unfold takeV takeB; simp [HMAY.out, HBEG.out, HTB.out, hk])
    rw [hk] at t0
    have HK := Aside0.mk hk
    clear hk hk2 hk3 hk4
    go_wp2_with (fail)
    go_at_call 78
    have HD := up_calls N2.out (HB0.out.trans B2.out) (by have := HN.out; simp only; omega) HMM.out HNE.out t 5
    rw [HTB.out, HK.out] at HD
    refine HD.mono ?_
    rintro e wX ⟨v, rfl, hP⟩
    have HP := Aside0.mk hP
    clear hP
    go_wp2_with (fail)
    go_ret2
    rw [E.out]
    exact ⟨_, rfl, HP.out.pre B2.out K2.out⟩
  by_cases hk6 : t.kind = 6
  · have hk := hk6
    clear hk6
    have E := Aside0.mk (show takeV s t = badV ({ s with began := true } : NS) 8 by unfold takeV takeB; simp [HMAY.out, HBEG.out, HTB.out, hk])
    rw [hk] at t0
    have HK := Aside0.mk hk
    clear hk hk2 hk3 hk4 hk5
    go_wp2_with (fail)
    go_at_call 74
    refine (bad_calls N2.out 8).mono ?_
    rintro e wX ⟨rfl, h1, h2, h3⟩
    have H1 := Aside0.mk h1
    have H2 := Aside0.mk h2
    have H3 := Aside0.mk h3
    clear h1 h2 h3
    go_wp2_with (fail)
    go_ret2
    rw [E.out]
    exact ⟨_, rfl, lvv, H1.out, B2.out.trans H2.out, K2.out.trans H3.out, World.ownsRow_nil _ _ _ _, fun _ => rfl⟩
  by_cases hk7 : t.kind = 7
  · have hk := hk7
    clear hk7
    have E := Aside0.mk (show takeV s t = badV ({ s with began := true } : NS) 8 by unfold takeV takeB; simp [HMAY.out, HBEG.out, HTB.out, hk])
    rw [hk] at t0
    have HK := Aside0.mk hk
    clear hk hk2 hk3 hk4 hk5 hk6
    go_wp2_with (fail)
    go_at_call 74
    refine (bad_calls N2.out 8).mono ?_
    rintro e wX ⟨rfl, h1, h2, h3⟩
    have H1 := Aside0.mk h1
    have H2 := Aside0.mk h2
    have H3 := Aside0.mk h3
    clear h1 h2 h3
    go_wp2_with (fail)
    go_ret2
    rw [E.out]
    exact ⟨_, rfl, lvv, H1.out, B2.out.trans H2.out, K2.out.trans H3.out, World.ownsRow_nil _ _ _ _, fun _ => rfl⟩
  have E := Aside0.mk (show takeV s t = badV ({ s with began := true } : NS) 8 by unfold takeV takeB; simp [HMAY.out, HBEG.out, HTB.out, hk2, hk3, hk4, hk5, hk6, hk7])
  have k2 : (t.kind == 2) = false := by simp [hk2]
  have k3 : (t.kind == 3) = false := by simp [hk3]
  have k4 : (t.kind == 4) = false := by simp [hk4]
  have k5 : (t.kind == 5) = false := by simp [hk5]
  have k6 : (t.kind == 6) = false := by simp [hk6]
  have k7 : (t.kind == 7) = false := by simp [hk7]
  clear hk2 hk3 hk4 hk5 hk6 hk7
  go_wp2_with (fail)
  go_at_call 74
  refine (bad_calls N2.out 8).mono ?_
  rintro e wX ⟨rfl, h1, h2, h3⟩
  have H1 := Aside0.mk h1
  have H2 := Aside0.mk h2
  have H3 := Aside0.mk h3
  clear h1 h2 h3
  go_wp2_with (fail)
  go_ret2
  rw [E.out]
  exact ⟨_, rfl, lvv, H1.out, B2.out.trans H2.out, K2.out.trans H3.out, World.ownsRow_nil _ _ _ _, fun _ => rfl⟩
set_option maxHeartbeats 16000000 in
set_option maxRecDepth 100000 in
theorem take_m3 {w0 W : World} {g : Nat} {s : NS} {lvv : Value} (h : Nx w0 W g s lvv) (hB0 : Below w0.heap.size w0 W) (hT : LxN.Tab W) (hn : s.stk.length ≤ 80000) (hmost : s.most ≤ 1000000) (hm : ∀ l ∈ s.lv, l.many ≤ 1000000) (t : Tk) (hmay : s.may = 3) (hbeg : s.begun = 0) (hne : s.stk ≠ []) :
    Calls Tryd.prog 36 #[.pointer (some ⟨g, 0, none⟩), .agg #[.int .i64 t.kind, .bool t.begun, .int .i64 (t.frm : Int), .int .i64 (t.to : Int), .string t.text]] W fun e w' => ∃ v, e = .returned (.tuple #[v, .int .i64 (takeV s t).2.2]) ∧ PostN w0 W g (takeV s t).1 (takeV s t).2.1 v w' := by
  have HMAY := Aside0.mk hmay
  have HBEG := Aside0.mk hbeg
  have HNE := Aside0.mk hne
  clear hne
  clear hmay hbeg
  have H := Aside0.mk h
  have HB0 := Aside0.mk hB0
  have HT := Aside0.mk hT
  have HN := Aside0.mk hn
  have HMO := Aside0.mk hmost
  have HMM := Aside0.mk hm
  clear h hB0 hT hn hmost hm
  go_enter Tryd.func36, Tryd.ntmps36
  go_upto_region 1 with (fail)
  generalize hw1 : World.alloc W _ = w1
  have TB : Aside0 (w1.heap[W.heap.size]? = some (.cells (tokCells t) 39 (0, 0))) := ⟨by subst hw1; exact blk_new W _⟩
  have B1 : Aside0 (Below W.heap.size W w1) := ⟨by subst hw1; exact below_alloc (Below.refl _ _) _⟩
  have N1 : Aside0 (Nx w0 w1 g s lvv) := ⟨H.out.below B1.out⟩
  have L3 : Aside0 (W.heap.size ≠ g) := ⟨fun e => by have := H.out.lt; omega⟩
  have T1 : Aside0 (LxN.Tab w1) := ⟨LxN.Tab.below HT.out B1.out HT.out.1⟩
  have HWL : Aside0 (w0.heap.size ≤ W.heap.size) := ⟨Nat.le_trans H.out.ge (Nat.le_of_lt H.out.lt)⟩
  clear hw1
  obtain ⟨b3, hb3⟩ : ∃ b3, b3 = W.heap.size := ⟨_, rfl⟩
  rw [← hb3] at TB L3 ⊢
  clear hb3
  obtain ⟨wv1, hb1⟩ := N1.out.blk
  have c4 : w1.cell? ⟨g, 4, none⟩ = some (.int .i64 s.may) := (blk_cell hb1 4).trans rfl
  have c5 : w1.cell? ⟨g, 5, none⟩ = some (.int .i64 s.begun) := (blk_cell hb1 5).trans rfl
  have c6 : w1.cell? ⟨g, 6, none⟩ = some (.bool s.began) := (blk_cell hb1 6).trans rfl
  have z6 := blk_frozen hb1 6
  have z4 := blk_frozen hb1 4
  have t0 : w1.cell? ⟨b3, 0, none⟩ = some (.int .i64 t.kind) := (blk_cell TB.out 0).trans rfl
  have t1 : w1.cell? ⟨b3, 1, none⟩ = some (.bool t.begun) := (blk_cell TB.out 1).trans rfl
  have t2 : w1.cell? ⟨b3, 2, none⟩ = some (.int .i64 (t.frm : Int)) := (blk_cell TB.out 2).trans rfl
  have t3 : w1.cell? ⟨b3, 3, none⟩ = some (.int .i64 (t.to : Int)) := (blk_cell TB.out 3).trans rfl
  have t4 : w1.cell? ⟨b3, 4, none⟩ = some (.string t.text) := (blk_cell TB.out 4).trans rfl
  have l1 : ¬ b3 = g := L3.out
  have l2 : ¬ g = b3 := fun e => L3.out e.symm
  clear hb1
  rw [HMAY.out] at c4
  rw [HBEG.out] at c5
  go_wp2_with (fail)
  generalize hw2 : World.setCell w1 ⟨g, 6, none⟩ _ = w2
  have N2 : Aside0 (Nx w0 w2 g { s with began := true } lvv) := ⟨by subst hw2; exact N1.out.set6 true⟩
  have B2 : Aside0 (Below w0.heap.size W w2) := ⟨by subst hw2; exact (B1.out.mono HWL.out).setCell (p := ⟨g, 6, none⟩) H.out.ge _⟩
  have K2 : Aside0 (KeepN g W w2) := ⟨by subst hw2; exact (KeepN.of_below B1.out).trans (KeepN.set_ _ _ _)⟩
  have TB2 : Aside0 (w2.heap[b3]? = some (.cells (tokCells t) 39 (0, 0))) := ⟨by subst hw2; exact blk_far TB.out (p := ⟨g, 6, none⟩) L3.out _⟩
  have HTOP := Aside0.mk (top_calls N2.out (by have := HN.out; simp only; omega))
  clear hw2 N1 B1 TB T1 c4 c5 c6 z6 z4 t0 t1 t2 t3 t4
  obtain ⟨wv2, hb2⟩ := N2.out.blk
  have c4 : w2.cell? ⟨g, 4, none⟩ = some (.int .i64 s.may) := (blk_cell hb2 4).trans rfl
  have z4 := blk_frozen hb2 4
  have t0 : w2.cell? ⟨b3, 0, none⟩ = some (.int .i64 t.kind) := (blk_cell TB2.out 0).trans rfl
  have t1 : w2.cell? ⟨b3, 1, none⟩ = some (.bool t.begun) := (blk_cell TB2.out 1).trans rfl
  have t2 : w2.cell? ⟨b3, 2, none⟩ = some (.int .i64 (t.frm : Int)) := (blk_cell TB2.out 2).trans rfl
  have t3 : w2.cell? ⟨b3, 3, none⟩ = some (.int .i64 (t.to : Int)) := (blk_cell TB2.out 3).trans rfl
  have t4 : w2.cell? ⟨b3, 4, none⟩ = some (.string t.text) := (blk_cell TB2.out 4).trans rfl
  clear hb2
  rw [HMAY.out] at c4
  go_at_call 75
  refine HTOP.out.mono ?_
  rintro e w3 ⟨⟨ii, rfl⟩, rfl⟩
  by_cases htb : t.begun = true
  · have HTB := Aside0.mk htb
    have E := Aside0.mk (show takeV s t = tbeginV { s with began := true } t false by unfold takeV takeB; simp [HMAY.out, HBEG.out, htb])
    rw [htb] at t1
    clear htb
    go_wp2_with (fail)
    go_at_call 76
    have HD := begin_calls N2.out (by have := HN.out; simp only; omega) t false
    rw [HTB.out] at HD
    refine HD.mono ?_
    rintro e wX ⟨v, rfl, hP⟩
    have HP := Aside0.mk hP
    clear hP
    go_wp2_with (fail)
    go_ret2
    rw [E.out]
    exact ⟨_, rfl, HP.out.pre B2.out K2.out⟩
  have HTB := Aside0.mk (show t.begun = false by simpa using htb)
  rw [HTB.out] at t1
  clear htb
  by_cases hk2 : t.kind = 2
  · have hk := hk2
    clear hk2
    have E := Aside0.mk (show takeV s t = badV ({ s with began := true } : NS) 8 by unfold takeV takeB; simp [HMAY.out, HBEG.out, HTB.out, hk])
    rw [hk] at t0
    have HK := Aside0.mk hk
    clear hk
    go_wp2_with (fail)
    go_at_call 74
    refine (bad_calls N2.out 8).mono ?_
    rintro e wX ⟨rfl, h1, h2, h3⟩
    have H1 := Aside0.mk h1
    have H2 := Aside0.mk h2
    have H3 := Aside0.mk h3
    clear h1 h2 h3
    go_wp2_with (fail)
    go_ret2
    rw [E.out]
    exact ⟨_, rfl, lvv, H1.out, B2.out.trans H2.out, K2.out.trans H3.out, World.ownsRow_nil _ _ _ _, fun _ => rfl⟩
  by_cases hk3 : t.kind = 3
  · have hk := hk3
    clear hk3
    have E := Aside0.mk (show takeV s t = badV ({ s with began := true } : NS) 8 by unfold takeV takeB; simp [HMAY.out, HBEG.out, HTB.out, hk])
    rw [hk] at t0
    have HK := Aside0.mk hk
    clear hk hk2
    go_wp2_with (fail)
    go_at_call 74
    refine (bad_calls N2.out 8).mono ?_
    rintro e wX ⟨rfl, h1, h2, h3⟩
    have H1 := Aside0.mk h1
    have H2 := Aside0.mk h2
    have H3 := Aside0.mk h3
    clear h1 h2 h3
    go_wp2_with (fail)
    go_ret2
    rw [E.out]
    exact ⟨_, rfl, lvv, H1.out, B2.out.trans H2.out, K2.out.trans H3.out, World.ownsRow_nil _ _ _ _, fun _ => rfl⟩
  by_cases hk4 : t.kind = 4
  · have hk := hk4
    clear hk4
    have E := Aside0.mk (show takeV s t = badV ({ s with began := true } : NS) 8 by unfold takeV takeB; simp [HMAY.out, HBEG.out, HTB.out, hk])
    rw [hk] at t0
    have HK := Aside0.mk hk
    clear hk hk2 hk3
    go_wp2_with (fail)
    go_at_call 74
    refine (bad_calls N2.out 8).mono ?_
    rintro e wX ⟨rfl, h1, h2, h3⟩
    have H1 := Aside0.mk h1
    have H2 := Aside0.mk h2
    have H3 := Aside0.mk h3
    clear h1 h2 h3
    go_wp2_with (fail)
    go_ret2
    rw [E.out]
    exact ⟨_, rfl, lvv, H1.out, B2.out.trans H2.out, K2.out.trans H3.out, World.ownsRow_nil _ _ _ _, fun _ => rfl⟩
  by_cases hk5 : t.kind = 5
  · have hk := hk5
    clear hk5
    have E := Aside0.mk (show takeV s t = badV ({ s with began := true } : NS) 8 by unfold takeV takeB; simp [HMAY.out, HBEG.out, HTB.out, hk])
    rw [hk] at t0
    have HK := Aside0.mk hk
    clear hk hk2 hk3 hk4
    go_wp2_with (fail)
    go_at_call 74
    refine (bad_calls N2.out 8).mono ?_
    rintro e wX ⟨rfl, h1, h2, h3⟩
    have H1 := Aside0.mk h1
    have H2 := Aside0.mk h2
    have H3 := Aside0.mk h3
    clear h1 h2 h3
    go_wp2_with (fail)
    go_ret2
    rw [E.out]
    exact ⟨_, rfl, lvv, H1.out, B2.out.trans H2.out, K2.out.trans H3.out, World.ownsRow_nil _ _ _ _, fun _ => rfl⟩
  by_cases hk6 : t.kind = 6
  · have hk := hk6
    clear hk6
    have E := Aside0.mk (show takeV s t = badV ({ s with began := true } : NS) 8 by unfold takeV takeB; simp [HMAY.out, HBEG.out, HTB.out, hk])
    rw [hk] at t0
    have HK := Aside0.mk hk
    clear hk hk2 hk3 hk4 hk5
    go_wp2_with (fail)
    go_at_call 74
    refine (bad_calls N2.out 8).mono ?_
    rintro e wX ⟨rfl, h1, h2, h3⟩
    have H1 := Aside0.mk h1
    have H2 := Aside0.mk h2
    have H3 := Aside0.mk h3
    clear h1 h2 h3
    go_wp2_with (fail)
    go_ret2
    rw [E.out]
    exact ⟨_, rfl, lvv, H1.out, B2.out.trans H2.out, K2.out.trans H3.out, World.ownsRow_nil _ _ _ _, fun _ => rfl⟩
  by_cases hk7 : t.kind = 7
  · have hk := hk7
    clear hk7
    have E := Aside0.mk (show takeV s t = badV ({ s with began := true } : NS) 8 by unfold takeV takeB; simp [HMAY.out, HBEG.out, HTB.out, hk])
    rw [hk] at t0
    have HK := Aside0.mk hk
    clear hk hk2 hk3 hk4 hk5 hk6
    go_wp2_with (fail)
    go_at_call 74
    refine (bad_calls N2.out 8).mono ?_
    rintro e wX ⟨rfl, h1, h2, h3⟩
    have H1 := Aside0.mk h1
    have H2 := Aside0.mk h2
    have H3 := Aside0.mk h3
    clear h1 h2 h3
    go_wp2_with (fail)
    go_ret2
    rw [E.out]
    exact ⟨_, rfl, lvv, H1.out, B2.out.trans H2.out, K2.out.trans H3.out, World.ownsRow_nil _ _ _ _, fun _ => rfl⟩
  have E := Aside0.mk (show takeV s t = badV ({ s with began := true } : NS) 8 by unfold takeV takeB; simp [HMAY.out, HBEG.out, HTB.out, hk2, hk3, hk4, hk5, hk6, hk7])
  have k2 : (t.kind == 2) = false := by simp [hk2]
  have k3 : (t.kind == 3) = false := by simp [hk3]
  have k4 : (t.kind == 4) = false := by simp [hk4]
  have k5 : (t.kind == 5) = false := by simp [hk5]
  have k6 : (t.kind == 6) = false := by simp [hk6]
  have k7 : (t.kind == 7) = false := by simp [hk7]
  clear hk2 hk3 hk4 hk5 hk6 hk7
  go_wp2_with (fail)
  go_at_call 74
  refine (bad_calls N2.out 8).mono ?_
  rintro e wX ⟨rfl, h1, h2, h3⟩
  have H1 := Aside0.mk h1
  have H2 := Aside0.mk h2
  have H3 := Aside0.mk h3
  clear h1 h2 h3
  go_wp2_with (fail)
  go_ret2
  rw [E.out]
  exact ⟨_, rfl, lvv, H1.out, B2.out.trans H2.out, K2.out.trans H3.out, World.ownsRow_nil _ _ _ _, fun _ => rfl⟩
set_option maxHeartbeats 16000000 in
set_option maxRecDepth 100000 in
theorem take_m4 {w0 W : World} {g : Nat} {s : NS} {lvv : Value} (h : Nx w0 W g s lvv) (hB0 : Below w0.heap.size w0 W) (hT : LxN.Tab W) (hn : s.stk.length ≤ 80000) (hmost : s.most ≤ 1000000) (hm : ∀ l ∈ s.lv, l.many ≤ 1000000) (t : Tk) (hmay : s.may = 4) (hbeg : s.begun = 0) (hne : s.stk ≠ []) :
    Calls Tryd.prog 36 #[.pointer (some ⟨g, 0, none⟩), .agg #[.int .i64 t.kind, .bool t.begun, .int .i64 (t.frm : Int), .int .i64 (t.to : Int), .string t.text]] W fun e w' => ∃ v, e = .returned (.tuple #[v, .int .i64 (takeV s t).2.2]) ∧ PostN w0 W g (takeV s t).1 (takeV s t).2.1 v w' := by
  have HMAY := Aside0.mk hmay
  have HBEG := Aside0.mk hbeg
  have HNE := Aside0.mk hne
  clear hne
  clear hmay hbeg
  have H := Aside0.mk h
  have HB0 := Aside0.mk hB0
  have HT := Aside0.mk hT
  have HN := Aside0.mk hn
  have HMO := Aside0.mk hmost
  have HMM := Aside0.mk hm
  clear h hB0 hT hn hmost hm
  go_enter Tryd.func36, Tryd.ntmps36
  go_upto_region 1 with (fail)
  generalize hw1 : World.alloc W _ = w1
  have TB : Aside0 (w1.heap[W.heap.size]? = some (.cells (tokCells t) 39 (0, 0))) := ⟨by subst hw1; exact blk_new W _⟩
  have B1 : Aside0 (Below W.heap.size W w1) := ⟨by subst hw1; exact below_alloc (Below.refl _ _) _⟩
  have N1 : Aside0 (Nx w0 w1 g s lvv) := ⟨H.out.below B1.out⟩
  have L3 : Aside0 (W.heap.size ≠ g) := ⟨fun e => by have := H.out.lt; omega⟩
  have T1 : Aside0 (LxN.Tab w1) := ⟨LxN.Tab.below HT.out B1.out HT.out.1⟩
  have HWL : Aside0 (w0.heap.size ≤ W.heap.size) := ⟨Nat.le_trans H.out.ge (Nat.le_of_lt H.out.lt)⟩
  clear hw1
  obtain ⟨b3, hb3⟩ : ∃ b3, b3 = W.heap.size := ⟨_, rfl⟩
  rw [← hb3] at TB L3 ⊢
  clear hb3
  obtain ⟨wv1, hb1⟩ := N1.out.blk
  have c4 : w1.cell? ⟨g, 4, none⟩ = some (.int .i64 s.may) := (blk_cell hb1 4).trans rfl
  have c5 : w1.cell? ⟨g, 5, none⟩ = some (.int .i64 s.begun) := (blk_cell hb1 5).trans rfl
  have c6 : w1.cell? ⟨g, 6, none⟩ = some (.bool s.began) := (blk_cell hb1 6).trans rfl
  have z6 := blk_frozen hb1 6
  have z4 := blk_frozen hb1 4
  have t0 : w1.cell? ⟨b3, 0, none⟩ = some (.int .i64 t.kind) := (blk_cell TB.out 0).trans rfl
  have t1 : w1.cell? ⟨b3, 1, none⟩ = some (.bool t.begun) := (blk_cell TB.out 1).trans rfl
  have t2 : w1.cell? ⟨b3, 2, none⟩ = some (.int .i64 (t.frm : Int)) := (blk_cell TB.out 2).trans rfl
  have t3 : w1.cell? ⟨b3, 3, none⟩ = some (.int .i64 (t.to : Int)) := (blk_cell TB.out 3).trans rfl
  have t4 : w1.cell? ⟨b3, 4, none⟩ = some (.string t.text) := (blk_cell TB.out 4).trans rfl
  have l1 : ¬ b3 = g := L3.out
  have l2 : ¬ g = b3 := fun e => L3.out e.symm
  clear hb1
  rw [HMAY.out] at c4
  rw [HBEG.out] at c5
  go_wp2_with (fail)
  generalize hw2 : World.setCell w1 ⟨g, 6, none⟩ _ = w2
  have N2 : Aside0 (Nx w0 w2 g { s with began := true } lvv) := ⟨by subst hw2; exact N1.out.set6 true⟩
  have B2 : Aside0 (Below w0.heap.size W w2) := ⟨by subst hw2; exact (B1.out.mono HWL.out).setCell (p := ⟨g, 6, none⟩) H.out.ge _⟩
  have K2 : Aside0 (KeepN g W w2) := ⟨by subst hw2; exact (KeepN.of_below B1.out).trans (KeepN.set_ _ _ _)⟩
  have TB2 : Aside0 (w2.heap[b3]? = some (.cells (tokCells t) 39 (0, 0))) := ⟨by subst hw2; exact blk_far TB.out (p := ⟨g, 6, none⟩) L3.out _⟩
  have HTOP := Aside0.mk (top_calls N2.out (by have := HN.out; simp only; omega))
  clear hw2 N1 B1 TB T1 c4 c5 c6 z6 z4 t0 t1 t2 t3 t4
  obtain ⟨wv2, hb2⟩ := N2.out.blk
  have c4 : w2.cell? ⟨g, 4, none⟩ = some (.int .i64 s.may) := (blk_cell hb2 4).trans rfl
  have z4 := blk_frozen hb2 4
  have t0 : w2.cell? ⟨b3, 0, none⟩ = some (.int .i64 t.kind) := (blk_cell TB2.out 0).trans rfl
  have t1 : w2.cell? ⟨b3, 1, none⟩ = some (.bool t.begun) := (blk_cell TB2.out 1).trans rfl
  have t2 : w2.cell? ⟨b3, 2, none⟩ = some (.int .i64 (t.frm : Int)) := (blk_cell TB2.out 2).trans rfl
  have t3 : w2.cell? ⟨b3, 3, none⟩ = some (.int .i64 (t.to : Int)) := (blk_cell TB2.out 3).trans rfl
  have t4 : w2.cell? ⟨b3, 4, none⟩ = some (.string t.text) := (blk_cell TB2.out 4).trans rfl
  clear hb2
  rw [HMAY.out] at c4
  go_at_call 75
  refine HTOP.out.mono ?_
  rintro e w3 ⟨⟨ii, rfl⟩, rfl⟩
  by_cases htb : t.begun = true
  · have HTB := Aside0.mk htb
    have E := Aside0.mk (show takeV s t = tbeginV { s with began := true } t false by unfold takeV takeB; simp [HMAY.out, HBEG.out, htb])
    rw [htb] at t1
    clear htb
    go_wp2_with (fail)
    go_at_call 76
    have HD := begin_calls N2.out (by have := HN.out; simp only; omega) t false
    rw [HTB.out] at HD
    refine HD.mono ?_
    rintro e wX ⟨v, rfl, hP⟩
    have HP := Aside0.mk hP
    clear hP
    go_wp2_with (fail)
    go_ret2
    rw [E.out]
    exact ⟨_, rfl, HP.out.pre B2.out K2.out⟩
  have HTB := Aside0.mk (show t.begun = false by simpa using htb)
  rw [HTB.out] at t1
  clear htb
  by_cases hk2 : t.kind = 2
  · have hk := hk2
    clear hk2
    have E := Aside0.mk (show takeV s t = badV ({ s with began := true } : NS) 8 by unfold takeV takeB; simp [HMAY.out, HBEG.out, HTB.out, hk])
    rw [hk] at t0
    have HK := Aside0.mk hk
    clear hk
    go_wp2_with (fail)
    go_at_call 74
    refine (bad_calls N2.out 8).mono ?_
    rintro e wX ⟨rfl, h1, h2, h3⟩
    have H1 := Aside0.mk h1
    have H2 := Aside0.mk h2
    have H3 := Aside0.mk h3
    clear h1 h2 h3
    go_wp2_with (fail)
    go_ret2
    rw [E.out]
    exact ⟨_, rfl, lvv, H1.out, B2.out.trans H2.out, K2.out.trans H3.out, World.ownsRow_nil _ _ _ _, fun _ => rfl⟩
  by_cases hk3 : t.kind = 3
  · have hk := hk3
    clear hk3
    have E := Aside0.mk (show takeV s t = badV ({ s with began := true } : NS) 8 by unfold takeV takeB; simp [HMAY.out, HBEG.out, HTB.out, hk])
    rw [hk] at t0
    have HK := Aside0.mk hk
    clear hk hk2
    go_wp2_with (fail)
    go_at_call 74
    refine (bad_calls N2.out 8).mono ?_
    rintro e wX ⟨rfl, h1, h2, h3⟩
    have H1 := Aside0.mk h1
    have H2 := Aside0.mk h2
    have H3 := Aside0.mk h3
    clear h1 h2 h3
    go_wp2_with (fail)
    go_ret2
    rw [E.out]
    exact ⟨_, rfl, lvv, H1.out, B2.out.trans H2.out, K2.out.trans H3.out, World.ownsRow_nil _ _ _ _, fun _ => rfl⟩
  by_cases hk4 : t.kind = 4
  · have hk := hk4
    clear hk4
    have E := Aside0.mk (show takeV s t = badV ({ s with began := true } : NS) 8 by unfold takeV takeB; simp [HMAY.out, HBEG.out, HTB.out, hk])
    rw [hk] at t0
    have HK := Aside0.mk hk
    clear hk hk2 hk3
    go_wp2_with (fail)
    go_at_call 74
    refine (bad_calls N2.out 8).mono ?_
    rintro e wX ⟨rfl, h1, h2, h3⟩
    have H1 := Aside0.mk h1
    have H2 := Aside0.mk h2
    have H3 := Aside0.mk h3
    clear h1 h2 h3
    go_wp2_with (fail)
    go_ret2
    rw [E.out]
    exact ⟨_, rfl, lvv, H1.out, B2.out.trans H2.out, K2.out.trans H3.out, World.ownsRow_nil _ _ _ _, fun _ => rfl⟩
  by_cases hk5 : t.kind = 5
  · have hk := hk5
    clear hk5
    have E := Aside0.mk (show takeV s t = badV ({ s with began := true } : NS) 8 by unfold takeV takeB; simp [HMAY.out, HBEG.out, HTB.out, hk])
    rw [hk] at t0
    have HK := Aside0.mk hk
    clear hk hk2 hk3 hk4
    go_wp2_with (fail)
    go_at_call 74
    refine (bad_calls N2.out 8).mono ?_
    rintro e wX ⟨rfl, h1, h2, h3⟩
    have H1 := Aside0.mk h1
    have H2 := Aside0.mk h2
    have H3 := Aside0.mk h3
    clear h1 h2 h3
    go_wp2_with (fail)
    go_ret2
    rw [E.out]
    exact ⟨_, rfl, lvv, H1.out, B2.out.trans H2.out, K2.out.trans H3.out, World.ownsRow_nil _ _ _ _, fun _ => rfl⟩
  by_cases hk6 : t.kind = 6
  · have hk := hk6
    clear hk6
    have E := Aside0.mk (show takeV s t = badV ({ s with began := true } : NS) 8 by unfold takeV takeB; simp [HMAY.out, HBEG.out, HTB.out, hk])
    rw [hk] at t0
    have HK := Aside0.mk hk
    clear hk hk2 hk3 hk4 hk5
    go_wp2_with (fail)
    go_at_call 74
    refine (bad_calls N2.out 8).mono ?_
    rintro e wX ⟨rfl, h1, h2, h3⟩
    have H1 := Aside0.mk h1
    have H2 := Aside0.mk h2
    have H3 := Aside0.mk h3
    clear h1 h2 h3
    go_wp2_with (fail)
    go_ret2
    rw [E.out]
    exact ⟨_, rfl, lvv, H1.out, B2.out.trans H2.out, K2.out.trans H3.out, World.ownsRow_nil _ _ _ _, fun _ => rfl⟩
  by_cases hk7 : t.kind = 7
  · have hk := hk7
    clear hk7
    have E := Aside0.mk (show takeV s t = ({ s with began := true, may := 0 }, [], 0) by unfold takeV takeB; simp [HMAY.out, HBEG.out, HTB.out, hk])
    rw [hk] at t0
    have HK := Aside0.mk hk
    clear hk hk2 hk3 hk4 hk5 hk6
    go_wp2_with (fail)
    go_ret2
    rw [E.out]
    exact ⟨_, rfl, lvv, N2.out.set4 0, B2.out.trans ((Below.refl _ _).setCell (p := ⟨g, 4, none⟩) H.out.ge _), K2.out.trans (KeepN.set_ _ _ _), World.ownsRow_nil _ _ _ _, fun _ => rfl⟩
  have E := Aside0.mk (show takeV s t = badV ({ s with began := true } : NS) 8 by unfold takeV takeB; simp [HMAY.out, HBEG.out, HTB.out, hk2, hk3, hk4, hk5, hk6, hk7])
  have k2 : (t.kind == 2) = false := by simp [hk2]
  have k3 : (t.kind == 3) = false := by simp [hk3]
  have k4 : (t.kind == 4) = false := by simp [hk4]
  have k5 : (t.kind == 5) = false := by simp [hk5]
  have k6 : (t.kind == 6) = false := by simp [hk6]
  have k7 : (t.kind == 7) = false := by simp [hk7]
  clear hk2 hk3 hk4 hk5 hk6 hk7
  go_wp2_with (fail)
  go_at_call 74
  refine (bad_calls N2.out 8).mono ?_
  rintro e wX ⟨rfl, h1, h2, h3⟩
  have H1 := Aside0.mk h1
  have H2 := Aside0.mk h2
  have H3 := Aside0.mk h3
  clear h1 h2 h3
  go_wp2_with (fail)
  go_ret2
  rw [E.out]
  exact ⟨_, rfl, lvv, H1.out, B2.out.trans H2.out, K2.out.trans H3.out, World.ownsRow_nil _ _ _ _, fun _ => rfl⟩
set_option maxHeartbeats 16000000 in
set_option maxRecDepth 100000 in
theorem take_m5 {w0 W : World} {g : Nat} {s : NS} {lvv : Value} (h : Nx w0 W g s lvv) (hB0 : Below w0.heap.size w0 W) (hT : LxN.Tab W) (hn : s.stk.length ≤ 80000) (hmost : s.most ≤ 1000000) (hm : ∀ l ∈ s.lv, l.many ≤ 1000000) (t : Tk) (hmay : s.may = 5) (hbeg : s.begun = 0) (hne : s.stk ≠ []) :
    Calls Tryd.prog 36 #[.pointer (some ⟨g, 0, none⟩), .agg #[.int .i64 t.kind, .bool t.begun, .int .i64 (t.frm : Int), .int .i64 (t.to : Int), .string t.text]] W fun e w' => ∃ v, e = .returned (.tuple #[v, .int .i64 (takeV s t).2.2]) ∧ PostN w0 W g (takeV s t).1 (takeV s t).2.1 v w' := by
  have HMAY := Aside0.mk hmay
  have HBEG := Aside0.mk hbeg
  have HNE := Aside0.mk hne
  clear hne
  clear hmay hbeg
  have H := Aside0.mk h
  have HB0 := Aside0.mk hB0
  have HT := Aside0.mk hT
  have HN := Aside0.mk hn
  have HMO := Aside0.mk hmost
  have HMM := Aside0.mk hm
  clear h hB0 hT hn hmost hm
  go_enter Tryd.func36, Tryd.ntmps36
  go_upto_region 1 with (fail)
  generalize hw1 : World.alloc W _ = w1
  have TB : Aside0 (w1.heap[W.heap.size]? = some (.cells (tokCells t) 39 (0, 0))) := ⟨by subst hw1; exact blk_new W _⟩
  have B1 : Aside0 (Below W.heap.size W w1) := ⟨by subst hw1; exact below_alloc (Below.refl _ _) _⟩
  have N1 : Aside0 (Nx w0 w1 g s lvv) := ⟨H.out.below B1.out⟩
  have L3 : Aside0 (W.heap.size ≠ g) := ⟨fun e => by have := H.out.lt; omega⟩
  have T1 : Aside0 (LxN.Tab w1) := ⟨LxN.Tab.below HT.out B1.out HT.out.1⟩
  have HWL : Aside0 (w0.heap.size ≤ W.heap.size) := ⟨Nat.le_trans H.out.ge (Nat.le_of_lt H.out.lt)⟩
  clear hw1
  obtain ⟨b3, hb3⟩ : ∃ b3, b3 = W.heap.size := ⟨_, rfl⟩
  rw [← hb3] at TB L3 ⊢
  clear hb3
  obtain ⟨wv1, hb1⟩ := N1.out.blk
  have c4 : w1.cell? ⟨g, 4, none⟩ = some (.int .i64 s.may) := (blk_cell hb1 4).trans rfl
  have c5 : w1.cell? ⟨g, 5, none⟩ = some (.int .i64 s.begun) := (blk_cell hb1 5).trans rfl
  have c6 : w1.cell? ⟨g, 6, none⟩ = some (.bool s.began) := (blk_cell hb1 6).trans rfl
  have z6 := blk_frozen hb1 6
  have z4 := blk_frozen hb1 4
  have t0 : w1.cell? ⟨b3, 0, none⟩ = some (.int .i64 t.kind) := (blk_cell TB.out 0).trans rfl
  have t1 : w1.cell? ⟨b3, 1, none⟩ = some (.bool t.begun) := (blk_cell TB.out 1).trans rfl
  have t2 : w1.cell? ⟨b3, 2, none⟩ = some (.int .i64 (t.frm : Int)) := (blk_cell TB.out 2).trans rfl
  have t3 : w1.cell? ⟨b3, 3, none⟩ = some (.int .i64 (t.to : Int)) := (blk_cell TB.out 3).trans rfl
  have t4 : w1.cell? ⟨b3, 4, none⟩ = some (.string t.text) := (blk_cell TB.out 4).trans rfl
  have l1 : ¬ b3 = g := L3.out
  have l2 : ¬ g = b3 := fun e => L3.out e.symm
  clear hb1
  rw [HMAY.out] at c4
  rw [HBEG.out] at c5
  go_wp2_with (fail)
  generalize hw2 : World.setCell w1 ⟨g, 6, none⟩ _ = w2
  have N2 : Aside0 (Nx w0 w2 g { s with began := true } lvv) := ⟨by subst hw2; exact N1.out.set6 true⟩
  have B2 : Aside0 (Below w0.heap.size W w2) := ⟨by subst hw2; exact (B1.out.mono HWL.out).setCell (p := ⟨g, 6, none⟩) H.out.ge _⟩
  have K2 : Aside0 (KeepN g W w2) := ⟨by subst hw2; exact (KeepN.of_below B1.out).trans (KeepN.set_ _ _ _)⟩
  have TB2 : Aside0 (w2.heap[b3]? = some (.cells (tokCells t) 39 (0, 0))) := ⟨by subst hw2; exact blk_far TB.out (p := ⟨g, 6, none⟩) L3.out _⟩
  have HTOP := Aside0.mk (top_calls N2.out (by have := HN.out; simp only; omega))
  clear hw2 N1 B1 TB T1 c4 c5 c6 z6 z4 t0 t1 t2 t3 t4
  obtain ⟨wv2, hb2⟩ := N2.out.blk
  have c4 : w2.cell? ⟨g, 4, none⟩ = some (.int .i64 s.may) := (blk_cell hb2 4).trans rfl
  have z4 := blk_frozen hb2 4
  have t0 : w2.cell? ⟨b3, 0, none⟩ = some (.int .i64 t.kind) := (blk_cell TB2.out 0).trans rfl
  have t1 : w2.cell? ⟨b3, 1, none⟩ = some (.bool t.begun) := (blk_cell TB2.out 1).trans rfl
  have t2 : w2.cell? ⟨b3, 2, none⟩ = some (.int .i64 (t.frm : Int)) := (blk_cell TB2.out 2).trans rfl
  have t3 : w2.cell? ⟨b3, 3, none⟩ = some (.int .i64 (t.to : Int)) := (blk_cell TB2.out 3).trans rfl
  have t4 : w2.cell? ⟨b3, 4, none⟩ = some (.string t.text) := (blk_cell TB2.out 4).trans rfl
  clear hb2
  rw [HMAY.out] at c4
  go_at_call 75
  refine HTOP.out.mono ?_
  rintro e w3 ⟨⟨ii, rfl⟩, rfl⟩
  by_cases htb : t.begun = true
  · have HTB := Aside0.mk htb
    have E := Aside0.mk (show takeV s t = tbeginV { s with began := true } t false by unfold takeV takeB; simp [HMAY.out, HBEG.out, htb])
    rw [htb] at t1
    clear htb
    go_wp2_with (fail)
    go_at_call 76
    have HD := begin_calls N2.out (by have := HN.out; simp only; omega) t false
    rw [HTB.out] at HD
    refine HD.mono ?_
    rintro e wX ⟨v, rfl, hP⟩
    have HP := Aside0.mk hP
    clear hP
    go_wp2_with (fail)
    go_ret2
    rw [E.out]
    exact ⟨_, rfl, HP.out.pre B2.out K2.out⟩
  have HTB := Aside0.mk (show t.begun = false by simpa using htb)
  rw [HTB.out] at t1
  clear htb
  by_cases hk2 : t.kind = 2
  · have hk := hk2
    clear hk2
    have E := Aside0.mk (show takeV s t = badV ({ s with began := true } : NS) 8 by unfold takeV takeB; simp [HMAY.out, HBEG.out, HTB.out, hk])
    rw [hk] at t0
    have HK := Aside0.mk hk
    clear hk
    go_wp2_with (fail)
    go_at_call 74
    refine (bad_calls N2.out 8).mono ?_
    rintro e wX ⟨rfl, h1, h2, h3⟩
    have H1 := Aside0.mk h1
    have H2 := Aside0.mk h2
    have H3 := Aside0.mk h3
    clear h1 h2 h3
    go_wp2_with (fail)
    go_ret2
    rw [E.out]
    exact ⟨_, rfl, lvv, H1.out, B2.out.trans H2.out, K2.out.trans H3.out, World.ownsRow_nil _ _ _ _, fun _ => rfl⟩
  by_cases hk3 : t.kind = 3
  · have hk := hk3
    clear hk3
    cases ho : objS s.stk with
    | true =>
      have E := Aside0.mk (show takeV s t = badV ({ s with began := true } : NS) 8 by unfold takeV takeB; simp [HMAY.out, HBEG.out, HTB.out, hk, ho])
      rw [hk] at t0
      have HK := Aside0.mk hk
      clear hk hk2
      skip
      clear ho
      go_wp2_with (fail)
      go_at_call 74
      refine (bad_calls N2.out 8).mono ?_
      rintro e wX ⟨rfl, h1, h2, h3⟩
      have H1 := Aside0.mk h1
      have H2 := Aside0.mk h2
      have H3 := Aside0.mk h3
      clear h1 h2 h3
      go_wp2_with (fail)
      go_ret2
      rw [E.out]
      exact ⟨_, rfl, lvv, H1.out, B2.out.trans H2.out, K2.out.trans H3.out, World.ownsRow_nil _ _ _ _, fun _ => rfl⟩
    | false =>
      have E := Aside0.mk (show takeV s t = upV ({ s with began := true } : NS) t 4 by unfold takeV takeB; simp [HMAY.out, HBEG.out, HTB.out, hk, ho])
      rw [hk] at t0
      have HK := Aside0.mk hk
      clear hk hk2
      skip
      clear ho
      go_wp2_with (fail)
      go_at_call 78
      have HD := up_calls N2.out (HB0.out.trans B2.out) (by have := HN.out; simp only; omega) HMM.out HNE.out t 4
      rw [HTB.out, HK.out] at HD
      refine HD.mono ?_
      rintro e wX ⟨v, rfl, hP⟩
      have HP := Aside0.mk hP
      clear hP
      go_wp2_with (fail)
      go_ret2
      rw [E.out]
      exact ⟨_, rfl, HP.out.pre B2.out K2.out⟩
  by_cases hk4 : t.kind = 4
  · have hk := hk4
    clear hk4
    have E := Aside0.mk (show takeV s t = badV ({ s with began := true } : NS) 8 by unfold takeV takeB; simp [HMAY.out, HBEG.out, HTB.out, hk])
    rw [hk] at t0
    have HK := Aside0.mk hk
    clear hk hk2 hk3
    go_wp2_with (fail)
    go_at_call 74
    refine (bad_calls N2.out 8).mono ?_
    rintro e wX ⟨rfl, h1, h2, h3⟩
    have H1 := Aside0.mk h1
    have H2 := Aside0.mk h2
    have H3 := Aside0.mk h3
    clear h1 h2 h3
    go_wp2_with (fail)
    go_ret2
    rw [E.out]
    exact ⟨_, rfl, lvv, H1.out, B2.out.trans H2.out, K2.out.trans H3.out, World.ownsRow_nil _ _ _ _, fun _ => rfl⟩
  by_cases hk5 : t.kind = 5
  · have hk := hk5
    clear hk5
    cases ho : objS s.stk with
    | true =>
      have E := Aside0.mk (show takeV s t = upV ({ s with began := true } : NS) t 5 by unfold takeV takeB; simp [HMAY.out, HBEG.out, HTB.out, hk, ho])
      rw [hk] at t0
      have HK := Aside0.mk hk
      clear hk hk2 hk3 hk4
      skip
      clear ho
      go_wp2_with (fail)
      go_at_call 78
      have HD := up_calls N2.out (HB0.out.trans B2.out) (by have := HN.out; simp only; omega) HMM.out HNE.out t 5
      rw [HTB.out, HK.out] at HD
      refine HD.mono ?_
      rintro e wX ⟨v, rfl, hP⟩
      have HP := Aside0.mk hP
      clear hP
      go_wp2_with (fail)
      go_ret2
      rw [E.out]
      exact ⟨_, rfl, HP.out.pre B2.out K2.out⟩
    | false =>
      have E := Aside0.mk (show takeV s t = badV ({ s with began := true } : NS) 8 by unfold takeV takeB; simp [HMAY.out, HBEG.out, HTB.out, hk, ho])
      rw [hk] at t0
      have HK := Aside0.mk hk
      clear hk hk2 hk3 hk4
      skip
      clear ho
      go_wp2_with (fail)
      go_at_call 74
      refine (bad_calls N2.out 8).mono ?_
      rintro e wX ⟨rfl, h1, h2, h3⟩
      have H1 := Aside0.mk h1
      have H2 := Aside0.mk h2
      have H3 := Aside0.mk h3
      clear h1 h2 h3
      go_wp2_with (fail)
      go_ret2
      rw [E.out]
      exact ⟨_, rfl, lvv, H1.out, B2.out.trans H2.out, K2.out.trans H3.out, World.ownsRow_nil _ _ _ _, fun _ => rfl⟩
  by_cases hk6 : t.kind = 6
  · have hk := hk6
    clear hk6
    cases ho : objS s.stk with
    | true =>
      have E := Aside0.mk (show takeV s t = ({ s with began := true, may := 3 }, [], 0) by unfold takeV takeB; simp [HMAY.out, HBEG.out, HTB.out, hk, ho])
      rw [hk] at t0
      have HK := Aside0.mk hk
      clear hk hk2 hk3 hk4 hk5
      skip
      clear ho
      go_wp2_with (fail)
      go_ret2
      rw [E.out]
      exact ⟨_, rfl, lvv, (N2.out.set4 0).set4 3, B2.out.trans (((Below.refl _ _).setCell (p := ⟨g, 4, none⟩) H.out.ge _).setCell (p := ⟨g, 4, none⟩) H.out.ge _), K2.out.trans ((KeepN.set_ _ _ _).trans (KeepN.set_ _ _ _)), World.ownsRow_nil _ _ _ _, fun _ => rfl⟩
    | false =>
      have E := Aside0.mk (show takeV s t = ({ s with began := true, may := 0 }, [], 0) by unfold takeV takeB; simp [HMAY.out, HBEG.out, HTB.out, hk, ho])
      rw [hk] at t0
      have HK := Aside0.mk hk
      clear hk hk2 hk3 hk4 hk5
      skip
      clear ho
      go_wp2_with (fail)
      go_ret2
      rw [E.out]
      exact ⟨_, rfl, lvv, N2.out.set4 0, B2.out.trans ((Below.refl _ _).setCell (p := ⟨g, 4, none⟩) H.out.ge _), K2.out.trans (KeepN.set_ _ _ _), World.ownsRow_nil _ _ _ _, fun _ => rfl⟩
  by_cases hk7 : t.kind = 7
  · have hk := hk7
    clear hk7
    have E := Aside0.mk (show takeV s t = badV ({ s with began := true } : NS) 8 by unfold takeV takeB; simp [HMAY.out, HBEG.out, HTB.out, hk])
    rw [hk] at t0
    have HK := Aside0.mk hk
    clear hk hk2 hk3 hk4 hk5 hk6
    go_wp2_with (fail)
    go_at_call 74
    refine (bad_calls N2.out 8).mono ?_
    rintro e wX ⟨rfl, h1, h2, h3⟩
    have H1 := Aside0.mk h1
    have H2 := Aside0.mk h2
    have H3 := Aside0.mk h3
    clear h1 h2 h3
    go_wp2_with (fail)
    go_ret2
    rw [E.out]
    exact ⟨_, rfl, lvv, H1.out, B2.out.trans H2.out, K2.out.trans H3.out, World.ownsRow_nil _ _ _ _, fun _ => rfl⟩
  have E := Aside0.mk (show takeV s t = badV ({ s with began := true } : NS) 8 by unfold takeV takeB; simp [HMAY.out, HBEG.out, HTB.out, hk2, hk3, hk4, hk5, hk6, hk7])
  have k2 : (t.kind == 2) = false := by simp [hk2]
  have k3 : (t.kind == 3) = false := by simp [hk3]
  have k4 : (t.kind == 4) = false := by simp [hk4]
  have k5 : (t.kind == 5) = false := by simp [hk5]
  have k6 : (t.kind == 6) = false := by simp [hk6]
  have k7 : (t.kind == 7) = false := by simp [hk7]
  clear hk2 hk3 hk4 hk5 hk6 hk7
  go_wp2_with (fail)
  go_at_call 74
  refine (bad_calls N2.out 8).mono ?_
  rintro e wX ⟨rfl, h1, h2, h3⟩
  have H1 := Aside0.mk h1
  have H2 := Aside0.mk h2
  have H3 := Aside0.mk h3
  clear h1 h2 h3
  go_wp2_with (fail)
  go_ret2
  rw [E.out]
  exact ⟨_, rfl, lvv, H1.out, B2.out.trans H2.out, K2.out.trans H3.out, World.ownsRow_nil _ _ _ _, fun _ => rfl⟩
end Go.Proofs.YtlhpflicchchlaaDoor.Nx
