/- nest.Nest.behind, walked. Conditions: none. -/
import Derived.Test.YtlhpflicchchlaaDoorNx5
namespace Go.Proofs.YtlhpflicchchlaaDoor.Nx
open Go.RowKit Go.Proofs.YtlhpflicchchlaaDoorW.PrintWords Go.Proofs.YtlhpflicchchlaaDoorW.PrintLast Go.Proofs.YtlhpflicchchlaaDoorW.PrintMore
attribute [local go_sem] max2_int min2_int max_two min_two max_three min_three max_four min_four
open Go.Proofs.YtlhpflicchchlaaDoor.LexPure Go.Proofs.YtlhpflicchchlaaDoor.BitsW
set_option linter.unusedVariables false
set_option linter.unusedSimpArgs false
def behK (t : Tk) : Int × Bool := if t.kind = 9 then (2, true) else if t.kind = 10 then kindL t.text else (3, true)
def behindV (s : NS) (t : Tk) : NS × List Ev × Int :=
  if t.begun = true ∨ t.kind ≠ s.begun ∨ (behK t).2 = false then badV s 8
  else if s.may = 2 ∨ s.may = 3 then ({ s with begun := 0, lv := setNm s.lv t.text, may := 4 }, [], 0)
  else (endedV { s with begun := 0 }, [⟨2, (behK t).1, t.frm, t.to, stepV s, t.text⟩], 0)
set_option maxHeartbeats 16000000 in
set_option maxRecDepth 100000 in
theorem beh_begun9 {w0 W : World} {g : Nat} {s : NS} {lvv : Value} (h : Nx w0 W g s lvv) (hT : LxN.Tab W) (hn : s.stk.length ≤ 90000) (hm : ∀ l ∈ s.lv, l.many ≤ 1000000) (t : Tk) (hk : t.kind = 9) (hb : t.begun = true) :
    Calls Tryd.prog 73 #[.pointer (some ⟨g, 0, none⟩), .agg #[.int .i64 t.kind, .bool t.begun, .int .i64 (t.frm : Int), .int .i64 (t.to : Int), .string t.text]] W fun e w' => ∃ v, e = .returned (.tuple #[v, .int .i64 (behindV s t).2.2]) ∧ PostN w0 W g (behindV s t).1 (behindV s t).2.1 v w' := by
  have hbk : behK t = (2, true) := by unfold behK; rw [if_pos hk]
  have HK := Aside0.mk hk
  have E := Aside0.mk (show behindV s t = badV s 8 by unfold behindV; rw [if_pos (.inl hb)])
  have HBG := Aside0.mk hb
  clear hb hbk
  clear hk
  have H := Aside0.mk h
  have HN := Aside0.mk hn
  have HMM := Aside0.mk hm
  have HT := Aside0.mk hT
  clear h hn hm hT
  go_enter Tryd.func73, Tryd.ntmps73
  go_upto_region 2 with (fail)
  generalize hw1 : World.alloc W _ = w1
  have TB : Aside0 (w1.heap[W.heap.size]? = some (.cells (tokCells t) 39 (0, 0))) := ⟨by subst hw1; exact blk_new W _⟩
  have B1 : Aside0 (Below W.heap.size W w1) := ⟨by subst hw1; exact below_alloc (Below.refl _ _) _⟩
  have N1 : Aside0 (Nx w0 w1 g s lvv) := ⟨H.out.below B1.out⟩
  have L3 : Aside0 (W.heap.size ≠ g) := ⟨fun e => by have := H.out.lt; omega⟩
  have HTB : Aside0 (LxN.Tab w1) := ⟨LxN.Tab.below HT.out B1.out HT.out.1⟩
  clear hw1
  obtain ⟨b3, hb3⟩ : ∃ b3, b3 = W.heap.size := ⟨_, rfl⟩
  rw [← hb3] at TB L3 ⊢
  clear hb3
  have d0 : w1.cell? ⟨b3, 0, none⟩ = some (.int .i64 t.kind) := (blk_cell TB.out 0).trans rfl
  rw [HK.out] at d0
  have TB2 := TB
  have N2 := N1
  have B2 := B1
  obtain ⟨w2, hw2⟩ : ∃ w2, w2 = w1 := ⟨_, rfl⟩
  rw [← hw2] at TB2 N2 B2 d0 ⊢
  clear hw2 TB N1 B1 HTB
  go_upto_region 7 with (fail)
  have e0 : w2.cell? ⟨b3, 0, none⟩ = some (.int .i64 t.kind) := (blk_cell TB2.out 0).trans rfl
  have e1 : w2.cell? ⟨b3, 1, none⟩ = some (.bool t.begun) := (blk_cell TB2.out 1).trans rfl
  obtain ⟨wv2, hb2⟩ := N2.out.blk
  have c5 : w2.cell? ⟨g, 5, none⟩ = some (.int .i64 s.begun) := (blk_cell hb2 5).trans rfl
  clear hb2
  try clear d0
  rw [HBG.out] at e1
  refine ListedB.wp_region_listed (G := [3, 4, 5, 6, 7, 8, 9, 12, 13]) (by kernel_rfl) (by kernel_rfl) ?_
  go_wp2_with (fail)
  refine ListedB.fin_intro (by kernel_rfl) ?_
  have HBAD := Aside0.mk (bad_calls (N2.out.below (Below.refl w2.heap.size w2).drew) 8)
  go_wp2_with (fail)
  go_at_call 74
  refine HBAD.out.mono ?_
  rintro e w3 ⟨rfl, h1, h2, h3⟩
  have H1 := Aside0.mk h1
  have H2 := Aside0.mk h2
  have H3 := Aside0.mk h3
  clear h1 h2 h3
  go_wp2_with (fail)
  go_ret2
  rw [E.out]
  exact ⟨_, rfl, lvv, H1.out, (B2.out.drew.mono (Nat.le_trans H.out.ge (Nat.le_of_lt H.out.lt))).trans H2.out, (KeepN.of_below B2.out.drew).trans H3.out, World.ownsRow_nil _ _ _ _, fun _ => rfl⟩
set_option maxHeartbeats 16000000 in
set_option maxRecDepth 100000 in
theorem beh_other9 {w0 W : World} {g : Nat} {s : NS} {lvv : Value} (h : Nx w0 W g s lvv) (hT : LxN.Tab W) (hn : s.stk.length ≤ 90000) (hm : ∀ l ∈ s.lv, l.many ≤ 1000000) (t : Tk) (hk : t.kind = 9) (hb : t.begun = false) (hne : t.kind ≠ s.begun) :
    Calls Tryd.prog 73 #[.pointer (some ⟨g, 0, none⟩), .agg #[.int .i64 t.kind, .bool t.begun, .int .i64 (t.frm : Int), .int .i64 (t.to : Int), .string t.text]] W fun e w' => ∃ v, e = .returned (.tuple #[v, .int .i64 (behindV s t).2.2]) ∧ PostN w0 W g (behindV s t).1 (behindV s t).2.1 v w' := by
  have hbk : behK t = (2, true) := by unfold behK; rw [if_pos hk]
  have HK := Aside0.mk hk
  have E := Aside0.mk (show behindV s t = badV s 8 by unfold behindV; rw [if_pos (.inr (.inl hne))])
  have HBG := Aside0.mk hb
  have g1 : (t.kind != s.begun) = true := by simp [hne]
  have g2 : decide (t.kind = s.begun) = false := by simp [hne]
  have g3 : (t.kind == s.begun) = false := by simp [hne]
  clear hb hbk hne
  clear hk
  have H := Aside0.mk h
  have HN := Aside0.mk hn
  have HMM := Aside0.mk hm
  have HT := Aside0.mk hT
  clear h hn hm hT
  go_enter Tryd.func73, Tryd.ntmps73
  go_upto_region 2 with (fail)
  generalize hw1 : World.alloc W _ = w1
  have TB : Aside0 (w1.heap[W.heap.size]? = some (.cells (tokCells t) 39 (0, 0))) := ⟨by subst hw1; exact blk_new W _⟩
  have B1 : Aside0 (Below W.heap.size W w1) := ⟨by subst hw1; exact below_alloc (Below.refl _ _) _⟩
  have N1 : Aside0 (Nx w0 w1 g s lvv) := ⟨H.out.below B1.out⟩
  have L3 : Aside0 (W.heap.size ≠ g) := ⟨fun e => by have := H.out.lt; omega⟩
  have HTB : Aside0 (LxN.Tab w1) := ⟨LxN.Tab.below HT.out B1.out HT.out.1⟩
  clear hw1
  obtain ⟨b3, hb3⟩ : ∃ b3, b3 = W.heap.size := ⟨_, rfl⟩
  rw [← hb3] at TB L3 ⊢
  clear hb3
  have d0 : w1.cell? ⟨b3, 0, none⟩ = some (.int .i64 t.kind) := (blk_cell TB.out 0).trans rfl
  rw [HK.out] at d0
  have TB2 := TB
  have N2 := N1
  have B2 := B1
  obtain ⟨w2, hw2⟩ : ∃ w2, w2 = w1 := ⟨_, rfl⟩
  rw [← hw2] at TB2 N2 B2 d0 ⊢
  clear hw2 TB N1 B1 HTB
  go_upto_region 7 with (fail)
  have e0 : w2.cell? ⟨b3, 0, none⟩ = some (.int .i64 t.kind) := (blk_cell TB2.out 0).trans rfl
  have e1 : w2.cell? ⟨b3, 1, none⟩ = some (.bool t.begun) := (blk_cell TB2.out 1).trans rfl
  obtain ⟨wv2, hb2⟩ := N2.out.blk
  have c5 : w2.cell? ⟨g, 5, none⟩ = some (.int .i64 s.begun) := (blk_cell hb2 5).trans rfl
  clear hb2
  try clear d0
  rw [HBG.out] at e1
  refine ListedB.wp_region_listed (G := [12, 13]) (by kernel_rfl) (by kernel_rfl) ?_
  go_wp2_with (fail)
  refine ListedB.fin_intro (by kernel_rfl) ?_
  have HBAD := Aside0.mk (bad_calls (N2.out.below (Below.refl w2.heap.size w2).drew) 8)
  go_wp2_with (fail)
  go_at_call 74
  refine HBAD.out.mono ?_
  rintro e w3 ⟨rfl, h1, h2, h3⟩
  have H1 := Aside0.mk h1
  have H2 := Aside0.mk h2
  have H3 := Aside0.mk h3
  clear h1 h2 h3
  go_wp2_with (fail)
  go_ret2
  rw [E.out]
  exact ⟨_, rfl, lvv, H1.out, (B2.out.drew.mono (Nat.le_trans H.out.ge (Nat.le_of_lt H.out.lt))).trans H2.out, (KeepN.of_below B2.out.drew).trans H3.out, World.ownsRow_nil _ _ _ _, fun _ => rfl⟩
set_option maxHeartbeats 16000000 in
set_option maxRecDepth 100000 in
theorem beh_begun10 {w0 W : World} {g : Nat} {s : NS} {lvv : Value} (h : Nx w0 W g s lvv) (hT : LxN.Tab W) (hn : s.stk.length ≤ 90000) (hm : ∀ l ∈ s.lv, l.many ≤ 1000000) (t : Tk) (hk : t.kind = 10) (hb : t.begun = true) :
    Calls Tryd.prog 73 #[.pointer (some ⟨g, 0, none⟩), .agg #[.int .i64 t.kind, .bool t.begun, .int .i64 (t.frm : Int), .int .i64 (t.to : Int), .string t.text]] W fun e w' => ∃ v, e = .returned (.tuple #[v, .int .i64 (behindV s t).2.2]) ∧ PostN w0 W g (behindV s t).1 (behindV s t).2.1 v w' := by
  obtain ⟨⟨kd, fn⟩, hkd⟩ : ∃ x, kindL t.text = x := ⟨_, rfl⟩
  have hbk : behK t = (kd, fn) := by unfold behK; rw [if_neg (by omega), if_pos hk, hkd]
  have HK := Aside0.mk hk
  have HKD := Aside0.mk (show kindL t.text = (kd, fn) from hkd)
  clear hkd
  have E := Aside0.mk (show behindV s t = badV s 8 by unfold behindV; rw [if_pos (.inl hb)])
  have HBG := Aside0.mk hb
  clear hb hbk
  clear hk
  have H := Aside0.mk h
  have HN := Aside0.mk hn
  have HMM := Aside0.mk hm
  have HT := Aside0.mk hT
  clear h hn hm hT
  go_enter Tryd.func73, Tryd.ntmps73
  go_upto_region 2 with (fail)
  generalize hw1 : World.alloc W _ = w1
  have TB : Aside0 (w1.heap[W.heap.size]? = some (.cells (tokCells t) 39 (0, 0))) := ⟨by subst hw1; exact blk_new W _⟩
  have B1 : Aside0 (Below W.heap.size W w1) := ⟨by subst hw1; exact below_alloc (Below.refl _ _) _⟩
  have N1 : Aside0 (Nx w0 w1 g s lvv) := ⟨H.out.below B1.out⟩
  have L3 : Aside0 (W.heap.size ≠ g) := ⟨fun e => by have := H.out.lt; omega⟩
  have HTB : Aside0 (LxN.Tab w1) := ⟨LxN.Tab.below HT.out B1.out HT.out.1⟩
  clear hw1
  obtain ⟨b3, hb3⟩ : ∃ b3, b3 = W.heap.size := ⟨_, rfl⟩
  rw [← hb3] at TB L3 ⊢
  clear hb3
  have d0 : w1.cell? ⟨b3, 0, none⟩ = some (.int .i64 t.kind) := (blk_cell TB.out 0).trans rfl
  rw [HK.out] at d0
  have d4 : w1.cell? ⟨b3, 4, none⟩ = some (.string t.text) := (blk_cell TB.out 4).trans rfl
  have HKL := Aside0.mk (kindL_calls t.text w1 HTB.out)
  rw [HKD.out] at HKL
  go_wp2_with (fail)
  go_at_call 109
  refine HKL.out.mono ?_
  rintro e w2 ⟨rfl, hb2⟩
  have TB2 := Aside0.mk (blk_below TB.out hb2)
  have N2 := Aside0.mk (N1.out.below hb2)
  have B2 := Aside0.mk (B1.out.trans (hb2.mono B1.out.size))
  clear hb2 d0 d4 HKL TB N1 B1
  go_upto_region 7 with (fail)
  have e0 : w2.cell? ⟨b3, 0, none⟩ = some (.int .i64 t.kind) := (blk_cell TB2.out 0).trans rfl
  have e1 : w2.cell? ⟨b3, 1, none⟩ = some (.bool t.begun) := (blk_cell TB2.out 1).trans rfl
  obtain ⟨wv2, hb2⟩ := N2.out.blk
  have c5 : w2.cell? ⟨g, 5, none⟩ = some (.int .i64 s.begun) := (blk_cell hb2 5).trans rfl
  clear hb2
  try clear d0
  rw [HBG.out] at e1
  refine ListedB.wp_region_listed (G := [3, 4, 5, 6, 7, 8, 9, 12, 13]) (by kernel_rfl) (by kernel_rfl) ?_
  go_wp2_with (fail)
  refine ListedB.fin_intro (by kernel_rfl) ?_
  have HBAD := Aside0.mk (bad_calls (N2.out.below (Below.refl w2.heap.size w2).drew) 8)
  go_wp2_with (fail)
  go_at_call 74
  refine HBAD.out.mono ?_
  rintro e w3 ⟨rfl, h1, h2, h3⟩
  have H1 := Aside0.mk h1
  have H2 := Aside0.mk h2
  have H3 := Aside0.mk h3
  clear h1 h2 h3
  go_wp2_with (fail)
  go_ret2
  rw [E.out]
  exact ⟨_, rfl, lvv, H1.out, (B2.out.drew.mono (Nat.le_trans H.out.ge (Nat.le_of_lt H.out.lt))).trans H2.out, (KeepN.of_below B2.out.drew).trans H3.out, World.ownsRow_nil _ _ _ _, fun _ => rfl⟩
set_option maxHeartbeats 16000000 in
set_option maxRecDepth 100000 in
theorem beh_other10 {w0 W : World} {g : Nat} {s : NS} {lvv : Value} (h : Nx w0 W g s lvv) (hT : LxN.Tab W) (hn : s.stk.length ≤ 90000) (hm : ∀ l ∈ s.lv, l.many ≤ 1000000) (t : Tk) (hk : t.kind = 10) (hb : t.begun = false) (hne : t.kind ≠ s.begun) :
    Calls Tryd.prog 73 #[.pointer (some ⟨g, 0, none⟩), .agg #[.int .i64 t.kind, .bool t.begun, .int .i64 (t.frm : Int), .int .i64 (t.to : Int), .string t.text]] W fun e w' => ∃ v, e = .returned (.tuple #[v, .int .i64 (behindV s t).2.2]) ∧ PostN w0 W g (behindV s t).1 (behindV s t).2.1 v w' := by
  obtain ⟨⟨kd, fn⟩, hkd⟩ : ∃ x, kindL t.text = x := ⟨_, rfl⟩
  have hbk : behK t = (kd, fn) := by unfold behK; rw [if_neg (by omega), if_pos hk, hkd]
  have HK := Aside0.mk hk
  have HKD := Aside0.mk (show kindL t.text = (kd, fn) from hkd)
  clear hkd
  have E := Aside0.mk (show behindV s t = badV s 8 by unfold behindV; rw [if_pos (.inr (.inl hne))])
  have HBG := Aside0.mk hb
  have g1 : (t.kind != s.begun) = true := by simp [hne]
  have g2 : decide (t.kind = s.begun) = false := by simp [hne]
  have g3 : (t.kind == s.begun) = false := by simp [hne]
  clear hb hbk hne
  clear hk
  have H := Aside0.mk h
  have HN := Aside0.mk hn
  have HMM := Aside0.mk hm
  have HT := Aside0.mk hT
  clear h hn hm hT
  go_enter Tryd.func73, Tryd.ntmps73
  go_upto_region 2 with (fail)
  generalize hw1 : World.alloc W _ = w1
  have TB : Aside0 (w1.heap[W.heap.size]? = some (.cells (tokCells t) 39 (0, 0))) := ⟨by subst hw1; exact blk_new W _⟩
  have B1 : Aside0 (Below W.heap.size W w1) := ⟨by subst hw1; exact below_alloc (Below.refl _ _) _⟩
  have N1 : Aside0 (Nx w0 w1 g s lvv) := ⟨H.out.below B1.out⟩
  have L3 : Aside0 (W.heap.size ≠ g) := ⟨fun e => by have := H.out.lt; omega⟩
  have HTB : Aside0 (LxN.Tab w1) := ⟨LxN.Tab.below HT.out B1.out HT.out.1⟩
  clear hw1
  obtain ⟨b3, hb3⟩ : ∃ b3, b3 = W.heap.size := ⟨_, rfl⟩
  rw [← hb3] at TB L3 ⊢
  clear hb3
  have d0 : w1.cell? ⟨b3, 0, none⟩ = some (.int .i64 t.kind) := (blk_cell TB.out 0).trans rfl
  rw [HK.out] at d0
  have d4 : w1.cell? ⟨b3, 4, none⟩ = some (.string t.text) := (blk_cell TB.out 4).trans rfl
  have HKL := Aside0.mk (kindL_calls t.text w1 HTB.out)
  rw [HKD.out] at HKL
  go_wp2_with (fail)
  go_at_call 109
  refine HKL.out.mono ?_
  rintro e w2 ⟨rfl, hb2⟩
  have TB2 := Aside0.mk (blk_below TB.out hb2)
  have N2 := Aside0.mk (N1.out.below hb2)
  have B2 := Aside0.mk (B1.out.trans (hb2.mono B1.out.size))
  clear hb2 d0 d4 HKL TB N1 B1
  go_upto_region 7 with (fail)
  have e0 : w2.cell? ⟨b3, 0, none⟩ = some (.int .i64 t.kind) := (blk_cell TB2.out 0).trans rfl
  have e1 : w2.cell? ⟨b3, 1, none⟩ = some (.bool t.begun) := (blk_cell TB2.out 1).trans rfl
  obtain ⟨wv2, hb2⟩ := N2.out.blk
  have c5 : w2.cell? ⟨g, 5, none⟩ = some (.int .i64 s.begun) := (blk_cell hb2 5).trans rfl
  clear hb2
  try clear d0
  rw [HBG.out] at e1
  refine ListedB.wp_region_listed (G := [12, 13]) (by kernel_rfl) (by kernel_rfl) ?_
  go_wp2_with (fail)
  refine ListedB.fin_intro (by kernel_rfl) ?_
  have HBAD := Aside0.mk (bad_calls (N2.out.below (Below.refl w2.heap.size w2).drew) 8)
  go_wp2_with (fail)
  go_at_call 74
  refine HBAD.out.mono ?_
  rintro e w3 ⟨rfl, h1, h2, h3⟩
  have H1 := Aside0.mk h1
  have H2 := Aside0.mk h2
  have H3 := Aside0.mk h3
  clear h1 h2 h3
  go_wp2_with (fail)
  go_ret2
  rw [E.out]
  exact ⟨_, rfl, lvv, H1.out, (B2.out.drew.mono (Nat.le_trans H.out.ge (Nat.le_of_lt H.out.lt))).trans H2.out, (KeepN.of_below B2.out.drew).trans H3.out, World.ownsRow_nil _ _ _ _, fun _ => rfl⟩
set_option maxHeartbeats 16000000 in
set_option maxRecDepth 100000 in
theorem beh_fine10 {w0 W : World} {g : Nat} {s : NS} {lvv : Value} (h : Nx w0 W g s lvv) (hT : LxN.Tab W) (hn : s.stk.length ≤ 90000) (hm : ∀ l ∈ s.lv, l.many ≤ 1000000) (t : Tk) (hk : t.kind = 10) (hb : t.begun = false) (he : t.kind = s.begun) (hf : (kindL t.text).2 = false) :
    Calls Tryd.prog 73 #[.pointer (some ⟨g, 0, none⟩), .agg #[.int .i64 t.kind, .bool t.begun, .int .i64 (t.frm : Int), .int .i64 (t.to : Int), .string t.text]] W fun e w' => ∃ v, e = .returned (.tuple #[v, .int .i64 (behindV s t).2.2]) ∧ PostN w0 W g (behindV s t).1 (behindV s t).2.1 v w' := by
  obtain ⟨⟨kd, fn⟩, hkd⟩ : ∃ x, kindL t.text = x := ⟨_, rfl⟩
  have hbk : behK t = (kd, fn) := by unfold behK; rw [if_neg (by omega), if_pos hk, hkd]
  have HK := Aside0.mk hk
  have HKD := Aside0.mk (show kindL t.text = (kd, fn) from hkd)
  clear hkd
  have E := Aside0.mk (show behindV s t = badV s 8 by unfold behindV; rw [if_pos (.inr (.inr (by rw [hbk]; rw [HKD.out] at hf; exact hf)))])
  rw [HKD.out] at hf
  have HBG := Aside0.mk hb
  have HE := Aside0.mk he
  have g1 : (t.kind != s.begun) = false := by simp [he]
  simp only at hf
  subst hf
  clear hb hbk he
  clear hk
  have H := Aside0.mk h
  have HN := Aside0.mk hn
  have HMM := Aside0.mk hm
  have HT := Aside0.mk hT
  clear h hn hm hT
  go_enter Tryd.func73, Tryd.ntmps73
  go_upto_region 2 with (fail)
  generalize hw1 : World.alloc W _ = w1
  have TB : Aside0 (w1.heap[W.heap.size]? = some (.cells (tokCells t) 39 (0, 0))) := ⟨by subst hw1; exact blk_new W _⟩
  have B1 : Aside0 (Below W.heap.size W w1) := ⟨by subst hw1; exact below_alloc (Below.refl _ _) _⟩
  have N1 : Aside0 (Nx w0 w1 g s lvv) := ⟨H.out.below B1.out⟩
  have L3 : Aside0 (W.heap.size ≠ g) := ⟨fun e => by have := H.out.lt; omega⟩
  have HTB : Aside0 (LxN.Tab w1) := ⟨LxN.Tab.below HT.out B1.out HT.out.1⟩
  clear hw1
  obtain ⟨b3, hb3⟩ : ∃ b3, b3 = W.heap.size := ⟨_, rfl⟩
  rw [← hb3] at TB L3 ⊢
  clear hb3
  have d0 : w1.cell? ⟨b3, 0, none⟩ = some (.int .i64 t.kind) := (blk_cell TB.out 0).trans rfl
  rw [HK.out] at d0
  have d4 : w1.cell? ⟨b3, 4, none⟩ = some (.string t.text) := (blk_cell TB.out 4).trans rfl
  have HKL := Aside0.mk (kindL_calls t.text w1 HTB.out)
  rw [HKD.out] at HKL
  go_wp2_with (fail)
  go_at_call 109
  refine HKL.out.mono ?_
  rintro e w2 ⟨rfl, hb2⟩
  have TB2 := Aside0.mk (blk_below TB.out hb2)
  have N2 := Aside0.mk (N1.out.below hb2)
  have B2 := Aside0.mk (B1.out.trans (hb2.mono B1.out.size))
  clear hb2 d0 d4 HKL TB N1 B1
  go_upto_region 7 with (fail)
  have e0 : w2.cell? ⟨b3, 0, none⟩ = some (.int .i64 t.kind) := (blk_cell TB2.out 0).trans rfl
  have e1 : w2.cell? ⟨b3, 1, none⟩ = some (.bool t.begun) := (blk_cell TB2.out 1).trans rfl
  obtain ⟨wv2, hb2⟩ := N2.out.blk
  have c5 : w2.cell? ⟨g, 5, none⟩ = some (.int .i64 s.begun) := (blk_cell hb2 5).trans rfl
  clear hb2
  try clear d0
  rw [HBG.out] at e1
  rw [← HE.out] at c5
  refine ListedB.wp_region_listed (G := []) (by kernel_rfl) (by kernel_rfl) ?_
  go_wp2_with (fail)
  refine ListedB.fin_intro (by kernel_rfl) ?_
  have HBAD := Aside0.mk (bad_calls (N2.out.below (Below.refl w2.heap.size w2).drew) 8)
  go_wp2_with (fail)
  go_at_call 74
  refine HBAD.out.mono ?_
  rintro e w3 ⟨rfl, h1, h2, h3⟩
  have H1 := Aside0.mk h1
  have H2 := Aside0.mk h2
  have H3 := Aside0.mk h3
  clear h1 h2 h3
  go_wp2_with (fail)
  go_ret2
  rw [E.out]
  exact ⟨_, rfl, lvv, H1.out, (B2.out.drew.mono (Nat.le_trans H.out.ge (Nat.le_of_lt H.out.lt))).trans H2.out, (KeepN.of_below B2.out.drew).trans H3.out, World.ownsRow_nil _ _ _ _, fun _ => rfl⟩
set_option maxHeartbeats 16000000 in
set_option maxRecDepth 100000 in
theorem beh_begun8 {w0 W : World} {g : Nat} {s : NS} {lvv : Value} (h : Nx w0 W g s lvv) (hT : LxN.Tab W) (hn : s.stk.length ≤ 90000) (hm : ∀ l ∈ s.lv, l.many ≤ 1000000) (t : Tk) (hk9 : t.kind ≠ 9) (hk10 : t.kind ≠ 10) (hb : t.begun = true) :
    Calls Tryd.prog 73 #[.pointer (some ⟨g, 0, none⟩), .agg #[.int .i64 t.kind, .bool t.begun, .int .i64 (t.frm : Int), .int .i64 (t.to : Int), .string t.text]] W fun e w' => ∃ v, e = .returned (.tuple #[v, .int .i64 (behindV s t).2.2]) ∧ PostN w0 W g (behindV s t).1 (behindV s t).2.1 v w' := by
  have hbk : behK t = (3, true) := by unfold behK; rw [if_neg hk9, if_neg hk10]
  have HK := Aside0.mk (show (t.kind == 9) = false ∧ (t.kind == 10) = false from ⟨by simp [hk9], by simp [hk10]⟩)
  clear hk9 hk10
  have E := Aside0.mk (show behindV s t = badV s 8 by unfold behindV; rw [if_pos (.inl hb)])
  have HBG := Aside0.mk hb
  clear hb hbk
  have H := Aside0.mk h
  have HN := Aside0.mk hn
  have HMM := Aside0.mk hm
  have HT := Aside0.mk hT
  clear h hn hm hT
  go_enter Tryd.func73, Tryd.ntmps73
  go_upto_region 2 with (fail)
  generalize hw1 : World.alloc W _ = w1
  have TB : Aside0 (w1.heap[W.heap.size]? = some (.cells (tokCells t) 39 (0, 0))) := ⟨by subst hw1; exact blk_new W _⟩
  have B1 : Aside0 (Below W.heap.size W w1) := ⟨by subst hw1; exact below_alloc (Below.refl _ _) _⟩
  have N1 : Aside0 (Nx w0 w1 g s lvv) := ⟨H.out.below B1.out⟩
  have L3 : Aside0 (W.heap.size ≠ g) := ⟨fun e => by have := H.out.lt; omega⟩
  have HTB : Aside0 (LxN.Tab w1) := ⟨LxN.Tab.below HT.out B1.out HT.out.1⟩
  clear hw1
  obtain ⟨b3, hb3⟩ : ∃ b3, b3 = W.heap.size := ⟨_, rfl⟩
  rw [← hb3] at TB L3 ⊢
  clear hb3
  have d0 : w1.cell? ⟨b3, 0, none⟩ = some (.int .i64 t.kind) := (blk_cell TB.out 0).trans rfl
  have k9 : (t.kind == 9) = false := HK.out.1
  have k10 : (t.kind == 10) = false := HK.out.2
  have TB2 := TB
  have N2 := N1
  have B2 := B1
  obtain ⟨w2, hw2⟩ : ∃ w2, w2 = w1 := ⟨_, rfl⟩
  rw [← hw2] at TB2 N2 B2 d0 ⊢
  clear hw2 TB N1 B1 HTB
  go_upto_region 7 with (fail)
  have e0 : w2.cell? ⟨b3, 0, none⟩ = some (.int .i64 t.kind) := (blk_cell TB2.out 0).trans rfl
  have e1 : w2.cell? ⟨b3, 1, none⟩ = some (.bool t.begun) := (blk_cell TB2.out 1).trans rfl
  obtain ⟨wv2, hb2⟩ := N2.out.blk
  have c5 : w2.cell? ⟨g, 5, none⟩ = some (.int .i64 s.begun) := (blk_cell hb2 5).trans rfl
  clear hb2
  try clear d0
  rw [HBG.out] at e1
  refine ListedB.wp_region_listed (G := [3, 4, 5, 6, 7, 8, 9, 12, 13]) (by kernel_rfl) (by kernel_rfl) ?_
  go_wp2_with (fail)
  refine ListedB.fin_intro (by kernel_rfl) ?_
  have HBAD := Aside0.mk (bad_calls (N2.out.below (Below.refl w2.heap.size w2).drew) 8)
  go_wp2_with (fail)
  go_at_call 74
  refine HBAD.out.mono ?_
  rintro e w3 ⟨rfl, h1, h2, h3⟩
  have H1 := Aside0.mk h1
  have H2 := Aside0.mk h2
  have H3 := Aside0.mk h3
  clear h1 h2 h3
  go_wp2_with (fail)
  go_ret2
  rw [E.out]
  exact ⟨_, rfl, lvv, H1.out, (B2.out.drew.mono (Nat.le_trans H.out.ge (Nat.le_of_lt H.out.lt))).trans H2.out, (KeepN.of_below B2.out.drew).trans H3.out, World.ownsRow_nil _ _ _ _, fun _ => rfl⟩
set_option maxHeartbeats 16000000 in
set_option maxRecDepth 100000 in
theorem beh_other8 {w0 W : World} {g : Nat} {s : NS} {lvv : Value} (h : Nx w0 W g s lvv) (hT : LxN.Tab W) (hn : s.stk.length ≤ 90000) (hm : ∀ l ∈ s.lv, l.many ≤ 1000000) (t : Tk) (hk9 : t.kind ≠ 9) (hk10 : t.kind ≠ 10) (hb : t.begun = false) (hne : t.kind ≠ s.begun) :
    Calls Tryd.prog 73 #[.pointer (some ⟨g, 0, none⟩), .agg #[.int .i64 t.kind, .bool t.begun, .int .i64 (t.frm : Int), .int .i64 (t.to : Int), .string t.text]] W fun e w' => ∃ v, e = .returned (.tuple #[v, .int .i64 (behindV s t).2.2]) ∧ PostN w0 W g (behindV s t).1 (behindV s t).2.1 v w' := by
  have hbk : behK t = (3, true) := by unfold behK; rw [if_neg hk9, if_neg hk10]
  have HK := Aside0.mk (show (t.kind == 9) = false ∧ (t.kind == 10) = false from ⟨by simp [hk9], by simp [hk10]⟩)
  clear hk9 hk10
  have E := Aside0.mk (show behindV s t = badV s 8 by unfold behindV; rw [if_pos (.inr (.inl hne))])
  have HBG := Aside0.mk hb
  have g1 : (t.kind != s.begun) = true := by simp [hne]
  have g2 : decide (t.kind = s.begun) = false := by simp [hne]
  have g3 : (t.kind == s.begun) = false := by simp [hne]
  clear hb hbk hne
  have H := Aside0.mk h
  have HN := Aside0.mk hn
  have HMM := Aside0.mk hm
  have HT := Aside0.mk hT
  clear h hn hm hT
  go_enter Tryd.func73, Tryd.ntmps73
  go_upto_region 2 with (fail)
  generalize hw1 : World.alloc W _ = w1
  have TB : Aside0 (w1.heap[W.heap.size]? = some (.cells (tokCells t) 39 (0, 0))) := ⟨by subst hw1; exact blk_new W _⟩
  have B1 : Aside0 (Below W.heap.size W w1) := ⟨by subst hw1; exact below_alloc (Below.refl _ _) _⟩
  have N1 : Aside0 (Nx w0 w1 g s lvv) := ⟨H.out.below B1.out⟩
  have L3 : Aside0 (W.heap.size ≠ g) := ⟨fun e => by have := H.out.lt; omega⟩
  have HTB : Aside0 (LxN.Tab w1) := ⟨LxN.Tab.below HT.out B1.out HT.out.1⟩
  clear hw1
  obtain ⟨b3, hb3⟩ : ∃ b3, b3 = W.heap.size := ⟨_, rfl⟩
  rw [← hb3] at TB L3 ⊢
  clear hb3
  have d0 : w1.cell? ⟨b3, 0, none⟩ = some (.int .i64 t.kind) := (blk_cell TB.out 0).trans rfl
  have k9 : (t.kind == 9) = false := HK.out.1
  have k10 : (t.kind == 10) = false := HK.out.2
  have TB2 := TB
  have N2 := N1
  have B2 := B1
  obtain ⟨w2, hw2⟩ : ∃ w2, w2 = w1 := ⟨_, rfl⟩
  rw [← hw2] at TB2 N2 B2 d0 ⊢
  clear hw2 TB N1 B1 HTB
  go_upto_region 7 with (fail)
  have e0 : w2.cell? ⟨b3, 0, none⟩ = some (.int .i64 t.kind) := (blk_cell TB2.out 0).trans rfl
  have e1 : w2.cell? ⟨b3, 1, none⟩ = some (.bool t.begun) := (blk_cell TB2.out 1).trans rfl
  obtain ⟨wv2, hb2⟩ := N2.out.blk
  have c5 : w2.cell? ⟨g, 5, none⟩ = some (.int .i64 s.begun) := (blk_cell hb2 5).trans rfl
  clear hb2
  try clear d0
  rw [HBG.out] at e1
  refine ListedB.wp_region_listed (G := [12, 13]) (by kernel_rfl) (by kernel_rfl) ?_
  go_wp2_with (fail)
  refine ListedB.fin_intro (by kernel_rfl) ?_
  have HBAD := Aside0.mk (bad_calls (N2.out.below (Below.refl w2.heap.size w2).drew) 8)
  go_wp2_with (fail)
  go_at_call 74
  refine HBAD.out.mono ?_
  rintro e w3 ⟨rfl, h1, h2, h3⟩
  have H1 := Aside0.mk h1
  have H2 := Aside0.mk h2
  have H3 := Aside0.mk h3
  clear h1 h2 h3
  go_wp2_with (fail)
  go_ret2
  rw [E.out]
  exact ⟨_, rfl, lvv, H1.out, (B2.out.drew.mono (Nat.le_trans H.out.ge (Nat.le_of_lt H.out.lt))).trans H2.out, (KeepN.of_below B2.out.drew).trans H3.out, World.ownsRow_nil _ _ _ _, fun _ => rfl⟩
set_option maxHeartbeats 16000000 in
set_option maxRecDepth 100000 in
theorem beh_name9_2 {w0 W : World} {g : Nat} {s : NS} {lvv : Value} (h : Nx w0 W g s lvv) (hT : LxN.Tab W) (hn : s.stk.length ≤ 90000) (hm : ∀ l ∈ s.lv, l.many ≤ 1000000) (t : Tk) (hk : t.kind = 9) (hb : t.begun = false) (he : t.kind = s.begun) (hmm : s.may = 2) (hne : s.stk ≠ []) :
    Calls Tryd.prog 73 #[.pointer (some ⟨g, 0, none⟩), .agg #[.int .i64 t.kind, .bool t.begun, .int .i64 (t.frm : Int), .int .i64 (t.to : Int), .string t.text]] W fun e w' => ∃ v, e = .returned (.tuple #[v, .int .i64 (behindV s t).2.2]) ∧ PostN w0 W g (behindV s t).1 (behindV s t).2.1 v w' := by
  have hbk : behK t = (2, true) := by unfold behK; rw [if_pos hk]
  have HK := Aside0.mk hk
  obtain ⟨bs, bb, hs⟩ := snoc_of _ hne
  have hlne : s.lv ≠ [] := fun e => by have := h.len; rw [e, hs] at this; simp at this
  obtain ⟨pre, x, hl⟩ := snoc_of _ hlne
  obtain ⟨k, hk0⟩ : ∃ k, pre.length = k := ⟨_, rfl⟩
  have E := Aside0.mk (show behindV s t = ({ s with begun := 0, lv := pre ++ [{ x with nm := t.text }], may := 4 }, [], 0) by unfold behindV; rw [if_neg (by rw [hbk]; simp [hb, he]), if_pos (by omega), hl, setNm_snoc])
  have HL := Aside0.mk (And.intro hl hk0)
  have HMY := Aside0.mk hmm
  clear hs hlne hl hk0 hne hmm
  have HBG := Aside0.mk hb
  have HE := Aside0.mk he
  have g1 : (t.kind != s.begun) = false := by simp [he]
  clear hb hbk he
  clear hk
  have H := Aside0.mk h
  have HN := Aside0.mk hn
  have HMM := Aside0.mk hm
  have HT := Aside0.mk hT
  clear h hn hm hT
  go_enter Tryd.func73, Tryd.ntmps73
  go_upto_region 2 with (fail)
  generalize hw1 : World.alloc W _ = w1
  have TB : Aside0 (w1.heap[W.heap.size]? = some (.cells (tokCells t) 39 (0, 0))) := ⟨by subst hw1; exact blk_new W _⟩
  have B1 : Aside0 (Below W.heap.size W w1) := ⟨by subst hw1; exact below_alloc (Below.refl _ _) _⟩
  have N1 : Aside0 (Nx w0 w1 g s lvv) := ⟨H.out.below B1.out⟩
  have L3 : Aside0 (W.heap.size ≠ g) := ⟨fun e => by have := H.out.lt; omega⟩
  have HTB : Aside0 (LxN.Tab w1) := ⟨LxN.Tab.below HT.out B1.out HT.out.1⟩
  clear hw1
  obtain ⟨b3, hb3⟩ : ∃ b3, b3 = W.heap.size := ⟨_, rfl⟩
  rw [← hb3] at TB L3 ⊢
  clear hb3
  have d0 : w1.cell? ⟨b3, 0, none⟩ = some (.int .i64 t.kind) := (blk_cell TB.out 0).trans rfl
  rw [HK.out] at d0
  have TB2 := TB
  have N2 := N1
  have B2 := B1
  obtain ⟨w2, hw2⟩ : ∃ w2, w2 = w1 := ⟨_, rfl⟩
  rw [← hw2] at TB2 N2 B2 d0 ⊢
  clear hw2 TB N1 B1 HTB
  go_upto_region 7 with (fail)
  have e0 : w2.cell? ⟨b3, 0, none⟩ = some (.int .i64 t.kind) := (blk_cell TB2.out 0).trans rfl
  have e1 : w2.cell? ⟨b3, 1, none⟩ = some (.bool t.begun) := (blk_cell TB2.out 1).trans rfl
  obtain ⟨wv2, hb2⟩ := N2.out.blk
  have c5 : w2.cell? ⟨g, 5, none⟩ = some (.int .i64 s.begun) := (blk_cell hb2 5).trans rfl
  clear hb2
  try clear d0
  rw [HBG.out] at e1
  rw [← HE.out] at c5
  refine ListedB.wp_region_listed (G := []) (by kernel_rfl) (by kernel_rfl) ?_
  go_wp2_with (fail)
  refine ListedB.fin_intro (by kernel_rfl) ?_
  obtain ⟨wv3, hb3⟩ := (N2.out.below (Below.refl w2.heap.size w2).drew).blk
  have f4 : w2.cell? ⟨g, 4, none⟩ = some (.int .i64 s.may) := (blk_cell hb3 4).trans rfl
  have zf5 : w2.frozen? ⟨g, 5, none⟩ = false := blk_frozen hb3 5
  clear hb3 e0 e1
  rw [HMY.out] at f4
  go_upto_region 11 with (fail)
  generalize hwC : World.drew (World.setCell _ ⟨g, 5, none⟩ _) = wC
  have NC : Aside0 (Nx w0 wC g { s with begun := 0 } lvv) := ⟨by subst hwC; exact (N2.out.set5 0).below (Below.refl _ _).drew⟩
  have BC : Aside0 (Below w0.heap.size W wC) := ⟨by subst hwC; exact ((B2.out.mono (Nat.le_trans H.out.ge (Nat.le_of_lt H.out.lt))).setCell (p := ⟨g, 5, none⟩) H.out.ge _).drew⟩
  have KC : Aside0 (KeepN g W wC) := ⟨by subst hwC; exact ((KeepN.of_below B2.out).trans (KeepN.set_ _ _ _)).trans (KeepN.of_below (Below.refl _ _).drew)⟩
  have TBC : Aside0 (wC.heap[b3]? = some (.cells (tokCells t) 39 (0, 0))) := ⟨by subst hwC; exact blk_far TB2.out (p := ⟨g, 5, none⟩) L3.out _⟩
  clear hwC f4 zf5 c5 TB2 N2 B2
  have hr := NC.out.row
  have hl := HL.out.1
  have hk0 := HL.out.2
  simp only at hr
  rw [hl] at hr
  obtain ⟨gl, cap, he2, hgl, cur, hcur, hcap⟩ := own_pos hr
  subst he2
  have hlen : s.lv.length = k + 1 := by rw [hl]; simp [hk0]
  have NC2 := NC.out
  rw [show (pre ++ [x]).length = k + 1 by simp [hk0]] at NC2 hr
  have NC := Aside0.mk NC2
  have hkn : k < 90001 := by have h1 := H.out.len; have h2 := HN.out; rw [hl] at h1; simp at h1; omega
  obtain ⟨c3, _⟩ := lvAt_of NC.out (show ({ s with begun := 0 } : NS).lv = pre ++ [x] from hl) hk0
  obtain ⟨n, hnn⟩ : ∃ n, n = k + 1 := ⟨_, rfl⟩
  rw [← hnn] at c3
  have HNN := Aside0.mk hnn
  have n1 : wrap64 ((n : Int) - 1) = (k : Int) := by unfold wrap64; omega
  have n2 : (0 : Int) ≤ (k : Int) := by omega
  have n3 : (k : Int) < (n : Int) := by omega
  have n4 : (k < n) = True := eq_true (by omega)
  have n5 : (n : Int) - 1 = (k : Int) := by omega
  have n6 : IntKind.i64.wrap (k : Int) = (k : Int) := IntWalk.i64_in _ (by omega)
  have x5 : wC.cell? ⟨gl, k * 6 + 5, none⟩ = some (.string x.nm) := (lv_top hr hk0).2.2.2.2.2
  have zl : wC.frozen? ⟨gl, k * 6 + 5, none⟩ = false := blk_frozen hcur _
  have d4 : wC.cell? ⟨b3, 4, none⟩ = some (.string t.text) := (blk_cell TBC.out 4).trans rfl
  clear hr hl hk0 hlen NC2 hkn hnn hgl hcur hcap
  refine ListedB.wp_region_listed (G := []) (by kernel_rfl) (by kernel_rfl) ?_
  go_wp2_with (fail)
  refine ListedB.fin_intro (by kernel_rfl) ?_
  obtain ⟨h1, h2, h3, h4⟩ := NC.out.lvset (j := 5) (v := .string t.text) (y := { x with nm := t.text }) (show ({ s with begun := 0 } : NS).lv = pre ++ [x] from HL.out.1) HL.out.2 (by decide) rfl
  generalize hw3 : World.setCell wC ⟨gl, k * 6 + 5, none⟩ _ = w3
  rw [hw3] at h1 h2
  have B3 : Aside0 (Below w0.heap.size W w3) := ⟨by subst hw3; exact BC.out.setCell (p := ⟨gl, k * 6 + 5, none⟩) h3 _⟩
  have N3 := Aside0.mk (Nx.below h1 (Below.refl w3.heap.size w3).drew)
  have K3 := Aside0.mk ((KC.out.trans h2).trans (KeepN.of_below (Below.refl w3.heap.size w3).drew))
  clear hw3 h1 h2 h3 h4 c3 x5 zl d4
  obtain ⟨wv, hb⟩ := N3.out.blk
  have c4 := (blk_cell hb 4).trans rfl
  have z4 := blk_frozen hb 4
  clear hb
  go_wp2_with (fail)
  go_ret2
  rw [E.out]
  exact ⟨_, rfl, _, N3.out.set4 4, B3.out.drew.trans ((Below.refl _ _).setCell (p := ⟨g, 4, none⟩) H.out.ge _), K3.out.trans (KeepN.set_ _ _ _), World.ownsRow_nil _ _ _ _, fun _ => rfl⟩
set_option maxHeartbeats 16000000 in
set_option maxRecDepth 100000 in
theorem beh_name9_3 {w0 W : World} {g : Nat} {s : NS} {lvv : Value} (h : Nx w0 W g s lvv) (hT : LxN.Tab W) (hn : s.stk.length ≤ 90000) (hm : ∀ l ∈ s.lv, l.many ≤ 1000000) (t : Tk) (hk : t.kind = 9) (hb : t.begun = false) (he : t.kind = s.begun) (hmm : s.may = 3) (hne : s.stk ≠ []) :
    Calls Tryd.prog 73 #[.pointer (some ⟨g, 0, none⟩), .agg #[.int .i64 t.kind, .bool t.begun, .int .i64 (t.frm : Int), .int .i64 (t.to : Int), .string t.text]] W fun e w' => ∃ v, e = .returned (.tuple #[v, .int .i64 (behindV s t).2.2]) ∧ PostN w0 W g (behindV s t).1 (behindV s t).2.1 v w' := by
  have hbk : behK t = (2, true) := by unfold behK; rw [if_pos hk]
  have HK := Aside0.mk hk
  obtain ⟨bs, bb, hs⟩ := snoc_of _ hne
  have hlne : s.lv ≠ [] := fun e => by have := h.len; rw [e, hs] at this; simp at this
  obtain ⟨pre, x, hl⟩ := snoc_of _ hlne
  obtain ⟨k, hk0⟩ : ∃ k, pre.length = k := ⟨_, rfl⟩
  have E := Aside0.mk (show behindV s t = ({ s with begun := 0, lv := pre ++ [{ x with nm := t.text }], may := 4 }, [], 0) by unfold behindV; rw [if_neg (by rw [hbk]; simp [hb, he]), if_pos (by omega), hl, setNm_snoc])
  have HL := Aside0.mk (And.intro hl hk0)
  have HMY := Aside0.mk hmm
  clear hs hlne hl hk0 hne hmm
  have HBG := Aside0.mk hb
  have HE := Aside0.mk he
  have g1 : (t.kind != s.begun) = false := by simp [he]
  clear hb hbk he
  clear hk
  have H := Aside0.mk h
  have HN := Aside0.mk hn
  have HMM := Aside0.mk hm
  have HT := Aside0.mk hT
  clear h hn hm hT
  go_enter Tryd.func73, Tryd.ntmps73
  go_upto_region 2 with (fail)
  generalize hw1 : World.alloc W _ = w1
  have TB : Aside0 (w1.heap[W.heap.size]? = some (.cells (tokCells t) 39 (0, 0))) := ⟨by subst hw1; exact blk_new W _⟩
  have B1 : Aside0 (Below W.heap.size W w1) := ⟨by subst hw1; exact below_alloc (Below.refl _ _) _⟩
  have N1 : Aside0 (Nx w0 w1 g s lvv) := ⟨H.out.below B1.out⟩
  have L3 : Aside0 (W.heap.size ≠ g) := ⟨fun e => by have := H.out.lt; omega⟩
  have HTB : Aside0 (LxN.Tab w1) := ⟨LxN.Tab.below HT.out B1.out HT.out.1⟩
  clear hw1
  obtain ⟨b3, hb3⟩ : ∃ b3, b3 = W.heap.size := ⟨_, rfl⟩
  rw [← hb3] at TB L3 ⊢
  clear hb3
  have d0 : w1.cell? ⟨b3, 0, none⟩ = some (.int .i64 t.kind) := (blk_cell TB.out 0).trans rfl
  rw [HK.out] at d0
  have TB2 := TB
  have N2 := N1
  have B2 := B1
  obtain ⟨w2, hw2⟩ : ∃ w2, w2 = w1 := ⟨_, rfl⟩
  rw [← hw2] at TB2 N2 B2 d0 ⊢
  clear hw2 TB N1 B1 HTB
  go_upto_region 7 with (fail)
  have e0 : w2.cell? ⟨b3, 0, none⟩ = some (.int .i64 t.kind) := (blk_cell TB2.out 0).trans rfl
  have e1 : w2.cell? ⟨b3, 1, none⟩ = some (.bool t.begun) := (blk_cell TB2.out 1).trans rfl
  obtain ⟨wv2, hb2⟩ := N2.out.blk
  have c5 : w2.cell? ⟨g, 5, none⟩ = some (.int .i64 s.begun) := (blk_cell hb2 5).trans rfl
  clear hb2
  try clear d0
  rw [HBG.out] at e1
  rw [← HE.out] at c5
  refine ListedB.wp_region_listed (G := []) (by kernel_rfl) (by kernel_rfl) ?_
  go_wp2_with (fail)
  refine ListedB.fin_intro (by kernel_rfl) ?_
  obtain ⟨wv3, hb3⟩ := (N2.out.below (Below.refl w2.heap.size w2).drew).blk
  have f4 : w2.cell? ⟨g, 4, none⟩ = some (.int .i64 s.may) := (blk_cell hb3 4).trans rfl
  have zf5 : w2.frozen? ⟨g, 5, none⟩ = false := blk_frozen hb3 5
  clear hb3 e0 e1
  rw [HMY.out] at f4
  go_upto_region 11 with (fail)
  generalize hwC : World.drew (World.setCell _ ⟨g, 5, none⟩ _) = wC
  have NC : Aside0 (Nx w0 wC g { s with begun := 0 } lvv) := ⟨by subst hwC; exact (N2.out.set5 0).below (Below.refl _ _).drew⟩
  have BC : Aside0 (Below w0.heap.size W wC) := ⟨by subst hwC; exact ((B2.out.mono (Nat.le_trans H.out.ge (Nat.le_of_lt H.out.lt))).setCell (p := ⟨g, 5, none⟩) H.out.ge _).drew⟩
  have KC : Aside0 (KeepN g W wC) := ⟨by subst hwC; exact ((KeepN.of_below B2.out).trans (KeepN.set_ _ _ _)).trans (KeepN.of_below (Below.refl _ _).drew)⟩
  have TBC : Aside0 (wC.heap[b3]? = some (.cells (tokCells t) 39 (0, 0))) := ⟨by subst hwC; exact blk_far TB2.out (p := ⟨g, 5, none⟩) L3.out _⟩
  clear hwC f4 zf5 c5 TB2 N2 B2
  have hr := NC.out.row
  have hl := HL.out.1
  have hk0 := HL.out.2
  simp only at hr
  rw [hl] at hr
  obtain ⟨gl, cap, he2, hgl, cur, hcur, hcap⟩ := own_pos hr
  subst he2
  have hlen : s.lv.length = k + 1 := by rw [hl]; simp [hk0]
  have NC2 := NC.out
  rw [show (pre ++ [x]).length = k + 1 by simp [hk0]] at NC2 hr
  have NC := Aside0.mk NC2
  have hkn : k < 90001 := by have h1 := H.out.len; have h2 := HN.out; rw [hl] at h1; simp at h1; omega
  obtain ⟨c3, _⟩ := lvAt_of NC.out (show ({ s with begun := 0 } : NS).lv = pre ++ [x] from hl) hk0
  obtain ⟨n, hnn⟩ : ∃ n, n = k + 1 := ⟨_, rfl⟩
  rw [← hnn] at c3
  have HNN := Aside0.mk hnn
  have n1 : wrap64 ((n : Int) - 1) = (k : Int) := by unfold wrap64; omega
  have n2 : (0 : Int) ≤ (k : Int) := by omega
  have n3 : (k : Int) < (n : Int) := by omega
  have n4 : (k < n) = True := eq_true (by omega)
  have n5 : (n : Int) - 1 = (k : Int) := by omega
  have n6 : IntKind.i64.wrap (k : Int) = (k : Int) := IntWalk.i64_in _ (by omega)
  have x5 : wC.cell? ⟨gl, k * 6 + 5, none⟩ = some (.string x.nm) := (lv_top hr hk0).2.2.2.2.2
  have zl : wC.frozen? ⟨gl, k * 6 + 5, none⟩ = false := blk_frozen hcur _
  have d4 : wC.cell? ⟨b3, 4, none⟩ = some (.string t.text) := (blk_cell TBC.out 4).trans rfl
  clear hr hl hk0 hlen NC2 hkn hnn hgl hcur hcap
  refine ListedB.wp_region_listed (G := []) (by kernel_rfl) (by kernel_rfl) ?_
  go_wp2_with (fail)
  refine ListedB.fin_intro (by kernel_rfl) ?_
  obtain ⟨h1, h2, h3, h4⟩ := NC.out.lvset (j := 5) (v := .string t.text) (y := { x with nm := t.text }) (show ({ s with begun := 0 } : NS).lv = pre ++ [x] from HL.out.1) HL.out.2 (by decide) rfl
  generalize hw3 : World.setCell wC ⟨gl, k * 6 + 5, none⟩ _ = w3
  rw [hw3] at h1 h2
  have B3 : Aside0 (Below w0.heap.size W w3) := ⟨by subst hw3; exact BC.out.setCell (p := ⟨gl, k * 6 + 5, none⟩) h3 _⟩
  have N3 := Aside0.mk (Nx.below h1 (Below.refl w3.heap.size w3).drew)
  have K3 := Aside0.mk ((KC.out.trans h2).trans (KeepN.of_below (Below.refl w3.heap.size w3).drew))
  clear hw3 h1 h2 h3 h4 c3 x5 zl d4
  obtain ⟨wv, hb⟩ := N3.out.blk
  have c4 := (blk_cell hb 4).trans rfl
  have z4 := blk_frozen hb 4
  clear hb
  go_wp2_with (fail)
  go_ret2
  rw [E.out]
  exact ⟨_, rfl, _, N3.out.set4 4, B3.out.drew.trans ((Below.refl _ _).setCell (p := ⟨g, 4, none⟩) H.out.ge _), K3.out.trans (KeepN.set_ _ _ _), World.ownsRow_nil _ _ _ _, fun _ => rfl⟩
set_option maxHeartbeats 16000000 in
set_option maxRecDepth 100000 in
theorem beh_value9 {w0 W : World} {g : Nat} {s : NS} {lvv : Value} (h : Nx w0 W g s lvv) (hT : LxN.Tab W) (hn : s.stk.length ≤ 90000) (hm : ∀ l ∈ s.lv, l.many ≤ 1000000) (t : Tk) (hk : t.kind = 9) (hb : t.begun = false) (he : t.kind = s.begun) (hm2 : s.may ≠ 2) (hm3 : s.may ≠ 3) :
    Calls Tryd.prog 73 #[.pointer (some ⟨g, 0, none⟩), .agg #[.int .i64 t.kind, .bool t.begun, .int .i64 (t.frm : Int), .int .i64 (t.to : Int), .string t.text]] W fun e w' => ∃ v, e = .returned (.tuple #[v, .int .i64 (behindV s t).2.2]) ∧ PostN w0 W g (behindV s t).1 (behindV s t).2.1 v w' := by
  have hbk : behK t = (2, true) := by unfold behK; rw [if_pos hk]
  have HK := Aside0.mk hk
  obtain ⟨sv, hsv⟩ : ∃ sv, stepV s = sv := ⟨_, rfl⟩
  have E := Aside0.mk (show behindV s t = (endedV { s with begun := 0 }, [⟨2, 2, t.frm, t.to, sv, t.text⟩], 0) by unfold behindV; rw [if_neg (by rw [hbk]; simp [hb, he]), if_neg (by omega), hsv, hbk])
  have HSV := Aside0.mk hsv
  have m2 : (s.may == 2) = false := by simp; omega
  have md2 : decide (s.may = 2) = false := by simp; omega
  have m3 : (s.may == 3) = false := by simp; omega
  have md3 : decide (s.may = 3) = false := by simp; omega
  clear hsv hm2 hm3
  have HBG := Aside0.mk hb
  have HE := Aside0.mk he
  have g1 : (t.kind != s.begun) = false := by simp [he]
  clear hb hbk he
  clear hk
  have H := Aside0.mk h
  have HN := Aside0.mk hn
  have HMM := Aside0.mk hm
  have HT := Aside0.mk hT
  clear h hn hm hT
  go_enter Tryd.func73, Tryd.ntmps73
  go_upto_region 2 with (fail)
  generalize hw1 : World.alloc W _ = w1
  have TB : Aside0 (w1.heap[W.heap.size]? = some (.cells (tokCells t) 39 (0, 0))) := ⟨by subst hw1; exact blk_new W _⟩
  have B1 : Aside0 (Below W.heap.size W w1) := ⟨by subst hw1; exact below_alloc (Below.refl _ _) _⟩
  have N1 : Aside0 (Nx w0 w1 g s lvv) := ⟨H.out.below B1.out⟩
  have L3 : Aside0 (W.heap.size ≠ g) := ⟨fun e => by have := H.out.lt; omega⟩
  have HTB : Aside0 (LxN.Tab w1) := ⟨LxN.Tab.below HT.out B1.out HT.out.1⟩
  clear hw1
  obtain ⟨b3, hb3⟩ : ∃ b3, b3 = W.heap.size := ⟨_, rfl⟩
  rw [← hb3] at TB L3 ⊢
  clear hb3
  have d0 : w1.cell? ⟨b3, 0, none⟩ = some (.int .i64 t.kind) := (blk_cell TB.out 0).trans rfl
  rw [HK.out] at d0
  have TB2 := TB
  have N2 := N1
  have B2 := B1
  obtain ⟨w2, hw2⟩ : ∃ w2, w2 = w1 := ⟨_, rfl⟩
  rw [← hw2] at TB2 N2 B2 d0 ⊢
  clear hw2 TB N1 B1 HTB
  go_upto_region 7 with (fail)
  have e0 : w2.cell? ⟨b3, 0, none⟩ = some (.int .i64 t.kind) := (blk_cell TB2.out 0).trans rfl
  have e1 : w2.cell? ⟨b3, 1, none⟩ = some (.bool t.begun) := (blk_cell TB2.out 1).trans rfl
  obtain ⟨wv2, hb2⟩ := N2.out.blk
  have c5 : w2.cell? ⟨g, 5, none⟩ = some (.int .i64 s.begun) := (blk_cell hb2 5).trans rfl
  clear hb2
  try clear d0
  rw [HBG.out] at e1
  rw [← HE.out] at c5
  refine ListedB.wp_region_listed (G := []) (by kernel_rfl) (by kernel_rfl) ?_
  go_wp2_with (fail)
  refine ListedB.fin_intro (by kernel_rfl) ?_
  obtain ⟨wv3, hb3⟩ := (N2.out.below (Below.refl w2.heap.size w2).drew).blk
  have f4 : w2.cell? ⟨g, 4, none⟩ = some (.int .i64 s.may) := (blk_cell hb3 4).trans rfl
  have zf5 : w2.frozen? ⟨g, 5, none⟩ = false := blk_frozen hb3 5
  clear hb3 e0 e1
  go_upto_region 14 with (fail)
  generalize hwC : World.drew (World.setCell _ ⟨g, 5, none⟩ _) = wC
  have ND : Aside0 (Nx w0 wC.drew g { s with begun := 0 } lvv) := ⟨by subst hwC; exact ((N2.out.set5 0).below (Below.refl _ _).drew).below (Below.refl _ _).drew⟩
  have BD : Aside0 (Below w0.heap.size W wC.drew) := ⟨by subst hwC; exact ((B2.out.mono (Nat.le_trans H.out.ge (Nat.le_of_lt H.out.lt))).setCell (p := ⟨g, 5, none⟩) H.out.ge _).drew.drew⟩
  have KD : Aside0 (KeepN g W wC.drew) := ⟨by subst hwC; exact (((KeepN.of_below B2.out).trans (KeepN.set_ _ _ _)).trans (KeepN.of_below (Below.refl _ _).drew)).trans (KeepN.of_below (Below.refl _ _).drew)⟩
  have TB : Aside0 (wC.drew.heap[b3]? = some (.cells (tokCells t) 39 (0, 0))) := ⟨by subst hwC; exact blk_far TB2.out (p := ⟨g, 5, none⟩) L3.out _⟩
  have TF : Aside0 (wC.drew.cell? ⟨b3, 2, none⟩ = some (.int .i64 (t.frm : Int)) ∧ wC.drew.cell? ⟨b3, 3, none⟩ = some (.int .i64 (t.to : Int)) ∧ wC.drew.cell? ⟨b3, 4, none⟩ = some (.string t.text)) := ⟨(blk_cell TB.out 2).trans rfl, (blk_cell TB.out 3).trans rfl, (blk_cell TB.out 4).trans rfl⟩
  have TFB : Aside0 (∀ w, Below wC.drew.heap.size wC.drew w → w.cell? ⟨b3, 2, none⟩ = some (.int .i64 (t.frm : Int)) ∧ w.cell? ⟨b3, 3, none⟩ = some (.int .i64 (t.to : Int)) ∧ w.cell? ⟨b3, 4, none⟩ = some (.string t.text)) := ⟨fun w hb => ⟨pw_cell_below hb TF.out.1, pw_cell_below hb TF.out.2.1, pw_cell_below hb TF.out.2.2⟩⟩
  have HSTEP : Aside0 (∀ w, Below wC.drew.heap.size wC.drew w → Calls Tryd.prog 110 #[.pointer (some ⟨g, 0, none⟩)] w fun e w' => e = .returned (.agg #[.bool sv.named, .string sv.name, .int .i64 (sv.idx : Int)]) ∧ Below w.heap.size w w') := ⟨fun w hb => by
    have := step_calls (ND.out.below hb) (by have := HN.out; simp only; omega)
    rw [show stepV { s with begun := 0 } = sv from HSV.out] at this
    exact this⟩
  clear hwC f4 zf5 c5 TB2 N2 B2
  refine start_ (n := 12) (S := fun w' => w'.cell? ⟨b3, 2, none⟩ = some (.int .i64 (t.frm : Int)) ∧ w'.cell? ⟨b3, 3, none⟩ = some (.int .i64 (t.to : Int)) ∧ w'.cell? ⟨b3, 4, none⟩ = some (.string t.text)) (ds := [11]) #[false, false, false, false, false, false, false, false, false, false, false, false] (by kernel_rfl) rfl rfl ⟨TF.out.1, TF.out.2.1, TF.out.2.2⟩ (fun hHeld => ?_)
  generalize hwd_ : wC.drew = wE at TF TFB HSTEP ND TB BD KD hHeld ⊢
  clear hwd_
  refine pure_ (i := 0) (N := some 72) (v := ?_) (a' := ?_) #[true, false, false, false, false, false, false, false, false, false, false, false] rfl rfl (by kernel_rfl) (fun _ _ _ h => h) (Or.inl ⟨by rfl, ?_⟩) ?_ ?_
  rotate_left
  · intro w'
    go_simp
    with_reducible rfl
  rotate_left
  · simp only [Act.put, List.setIfInBounds_toArray, List.set_cons_zero, List.set_cons_succ, i64_w, i32_w]
    rfl
  refine pure_ (i := 1) (N := some 73) (v := ?_) (a' := ?_) #[true, true, false, false, false, false, false, false, false, false, false, false] rfl rfl (by kernel_rfl) (fun _ _ _ h => h) (Or.inl ⟨by rfl, ?_⟩) ?_ ?_
  rotate_left
  · intro w'
    go_simp
    with_reducible rfl
  rotate_left
  · simp only [Act.put, List.setIfInBounds_toArray, List.set_cons_zero, List.set_cons_succ, i64_w, i32_w]
    rfl
  refine pure_ (i := 3) (N := some 75) (v := ?_) (a' := ?_) #[true, true, false, true, false, false, false, false, false, false, false, false] rfl rfl (by kernel_rfl) (fun _ _ _ h => h) (Or.inl ⟨by rfl, ?_⟩) ?_ ?_
  rotate_left
  · intro w'
    go_simp
    with_reducible rfl
  rotate_left
  · simp only [Act.put, List.setIfInBounds_toArray, List.set_cons_zero, List.set_cons_succ, i64_w, i32_w]
    rfl
  refine pure_ (i := 5) (N := some 77) (v := ?_) (a' := ?_) #[true, true, false, true, false, true, false, false, false, false, false, false] rfl rfl (by kernel_rfl) (fun _ _ _ h => h) (Or.inl ⟨by rfl, ?_⟩) ?_ ?_
  rotate_left
  · intro w'
    go_simp
    with_reducible rfl
  rotate_left
  · simp only [Act.put, List.setIfInBounds_toArray, List.set_cons_zero, List.set_cons_succ, i64_w, i32_w]
    rfl
  refine pure_ (i := 7) (N := some 79) (v := ?_) (a' := ?_) #[true, true, false, true, false, true, false, true, false, false, false, false] rfl rfl (by kernel_rfl) (fun _ _ _ h => h) (Or.inl ⟨by rfl, ?_⟩) ?_ ?_
  rotate_left
  · intro w'
    go_simp
    with_reducible rfl
  rotate_left
  · simp only [Act.put, List.setIfInBounds_toArray, List.set_cons_zero, List.set_cons_succ, i64_w, i32_w]
    rfl
  refine take_ (i := 2) (N := some 74) (v := ?_) (a' := ?_) #[true, true, true, true, false, true, false, true, false, false, false, false] rfl rfl (by kernel_rfl) (fun _ _ _ h => h) (Or.inl ⟨by rfl, ?_⟩) hHeld ?_ ?_
  rotate_left
  · rintro w' ⟨s0, s1, s2⟩
    go_simp
    with_reducible rfl
  rotate_left
  · simp only [Act.put, List.setIfInBounds_toArray, List.set_cons_zero, List.set_cons_succ, i64_w, i32_w]
    rfl
  refine take_ (i := 4) (N := some 76) (v := ?_) (a' := ?_) #[true, true, true, true, true, true, false, true, false, false, false, false] rfl rfl (by kernel_rfl) (fun _ _ _ h => h) (Or.inl ⟨by rfl, ?_⟩) hHeld ?_ ?_
  rotate_left
  · rintro w' ⟨s0, s1, s2⟩
    go_simp
    with_reducible rfl
  rotate_left
  · simp only [Act.put, List.setIfInBounds_toArray, List.set_cons_zero, List.set_cons_succ, i64_w, i32_w]
    rfl
  refine take_ (i := 8) (N := some 80) (v := ?_) (a' := ?_) #[true, true, true, true, true, true, false, true, true, false, false, false] rfl rfl (by kernel_rfl) (fun _ _ _ h => h) (Or.inl ⟨by rfl, ?_⟩) hHeld ?_ ?_
  rotate_left
  · rintro w' ⟨s0, s1, s2⟩
    go_simp
    with_reducible rfl
  rotate_left
  · simp only [Act.put, List.setIfInBounds_toArray, List.set_cons_zero, List.set_cons_succ, i64_w, i32_w]
    rfl
  refine join_ (σ := Nat) 1 #[true, true, true, true, true, true, true, true, true, true, true, false] (fun b => [(8, .pointer (some ⟨b, 0, none⟩)), (78, .agg #[.bool sv.named, .string sv.name, .int .i64 (sv.idx : Int)]), (81, .agg #[.int .i64 2, .int .i64 2, .int .i64 (t.frm : Int), .int .i64 (t.to : Int), .bool sv.named, .string sv.name, .int .i64 (sv.idx : Int), .string t.text])]) (fun b w' => w'.heap[b]? = some (.cells (evCells ev0).toArray 62 (0, 0)) ∧ Below wE.heap.size wE w' ∧ wE.heap.size ≤ b) ?_ ?_
  rotate_left
  · intro hCont
    refine two_ (i := 6) (j := 10) (Ni := some 78) (Nj := some 8) #[true, true, true, true, true, true, true, true, true, false, false, false] #[true, true, true, true, true, true, false, true, true, false, true, false] rfl rfl rfl rfl (by kernel_rfl) (by decide) (by decide) (fun K hK => ?_) (fun K hK => ?_)
    · skip
      refine goes_ Tryd.func110 (by kernel_rfl) rfl #[.pointer (some ⟨g, 0, none⟩)] (by rfl) rfl rfl (by simp only [List.map_toArray, List.map_cons, List.map_nil]; rfl) ?_
      with_reducible refine (HSTEP.out _ (Below.refl _ _)).mono ?_
      rintro e w5 ⟨rfl, hb⟩
      refine ⟨_, rfl, ?_⟩
      have B5 := Aside0.mk hb
      clear hb
      have FF5 := Aside0.mk (TFB.out _ B5.out)
      refine hK.out _ _ ⟨FF5.out.1, FF5.out.2.1, FF5.out.2.2⟩ (fun hHeld => ?_)
      clear hK K
      refine norm_ (a' := ?_) ?_ ?_
      rotate_left
      · show Act.put _ (some 78) _ = _
        simp only [Act.put, List.setIfInBounds_toArray, List.set_cons_zero, List.set_cons_succ, i64_w, i32_w]
        rfl
      refine pure_ (i := 9) (N := some 81) (v := ?_) (a' := ?_) #[true, true, true, true, true, true, true, true, true, true, false, false] rfl rfl (by kernel_rfl) (fun _ _ _ h => h) (Or.inl ⟨by rfl, ?_⟩) ?_ ?_
      rotate_left
      · intro w'
        go_simp
        with_reducible rfl
      rotate_left
      · simp only [Act.put, List.setIfInBounds_toArray, List.set_cons_zero, List.set_cons_succ, i64_w, i32_w]
        rfl
      refine one_ (i := 10) (N := some 8) #[true, true, true, true, true, true, true, true, true, true, true, false] rfl rfl (by kernel_rfl) (by decide) (fun K hK => ?_)
      refine value_ (w1 := ?_) (v := ?_) (by rfl) rfl ?_ ?_
      rotate_left 2
      · go_simp
        constructor
        · rfl
        · rfl
      generalize hg5 : World.alloc w5 _ = w6
      have EB6 : Aside0 (w6.heap[w5.heap.size]? = some (.cells (evCells ev0).toArray 62 (0, 0))) := ⟨by subst hg5; exact blk_new _ _⟩
      have B6 : Aside0 (Below wE.heap.size wE w6) := ⟨by subst hg5; exact B5.out.trans ((below_alloc (Below.refl _ _) _).mono B5.out.size)⟩
      clear hg5
      have FF6 := Aside0.mk (TFB.out _ B6.out)
      refine hK.out _ _ ⟨FF6.out.1, FF6.out.2.1, FF6.out.2.2⟩ (fun hHeld => ?_)
      clear hK K
      refine norm_ (a' := ?_) ?_ ?_
      rotate_left
      · show Act.put _ (some 8) _ = _
        simp only [Act.put, List.setIfInBounds_toArray, List.set_cons_zero, List.set_cons_succ, i64_w, i32_w]
        rfl
      exact norm_ (by simp only [putAll, Act.put, List.setIfInBounds_toArray, List.set_cons_zero, List.set_cons_succ]) (hCont w5.heap.size _ ⟨EB6.out, B6.out, B5.out.size⟩)
    · skip
      refine value_ (w1 := ?_) (v := ?_) (by rfl) rfl ?_ ?_
      rotate_left 2
      · go_simp
        constructor
        · rfl
        · rfl
      generalize hg5 : World.alloc wE _ = w5
      have EB : Aside0 (w5.heap[wE.heap.size]? = some (.cells (evCells ev0).toArray 62 (0, 0))) := ⟨by subst hg5; exact blk_new _ _⟩
      have B5 : Aside0 (Below wE.heap.size wE w5) := ⟨by subst hg5; exact below_alloc (Below.refl _ _) _⟩
      clear hg5
      have FF5 := Aside0.mk (TFB.out _ B5.out)
      refine hK.out _ _ ⟨FF5.out.1, FF5.out.2.1, FF5.out.2.2⟩ (fun hHeld => ?_)
      clear hK K
      refine norm_ (a' := ?_) ?_ ?_
      rotate_left
      · show Act.put _ (some 8) _ = _
        simp only [Act.put, List.setIfInBounds_toArray, List.set_cons_zero, List.set_cons_succ, i64_w, i32_w]
        rfl
      refine one_ (i := 6) (N := some 78) #[true, true, true, true, true, true, true, true, true, false, true, false] rfl rfl (by kernel_rfl) (by decide) (fun K hK => ?_)
      refine goes_ Tryd.func110 (by kernel_rfl) rfl #[.pointer (some ⟨g, 0, none⟩)] (by rfl) rfl rfl (by simp only [List.map_toArray, List.map_cons, List.map_nil]; rfl) ?_
      with_reducible refine (HSTEP.out _ B5.out).mono ?_
      rintro e w6 ⟨rfl, hb⟩
      refine ⟨_, rfl, ?_⟩
      have B6 := Aside0.mk (B5.out.trans (hb.mono B5.out.size))
      have EB6 := Aside0.mk (blk_below EB.out hb)
      clear hb
      have FF6 := Aside0.mk (TFB.out _ B6.out)
      refine hK.out _ _ ⟨FF6.out.1, FF6.out.2.1, FF6.out.2.2⟩ (fun hHeld => ?_)
      clear hK K
      refine norm_ (a' := ?_) ?_ ?_
      rotate_left
      · show Act.put _ (some 78) _ = _
        simp only [Act.put, List.setIfInBounds_toArray, List.set_cons_zero, List.set_cons_succ, i64_w, i32_w]
        rfl
      refine pure_ (i := 9) (N := some 81) (v := ?_) (a' := ?_) #[true, true, true, true, true, true, true, true, true, true, true, false] rfl rfl (by kernel_rfl) (fun _ _ _ h => h) (Or.inl ⟨by rfl, ?_⟩) ?_ ?_
      rotate_left
      · intro w'
        go_simp
        with_reducible rfl
      rotate_left
      · simp only [Act.put, List.setIfInBounds_toArray, List.set_cons_zero, List.set_cons_succ, i64_w, i32_w]
        rfl
      exact norm_ (by simp only [putAll, Act.put, List.setIfInBounds_toArray, List.set_cons_zero, List.set_cons_succ]) (hCont wE.heap.size _ ⟨EB6.out, B6.out, Nat.le_refl _⟩)
  rintro b w7 ⟨hEB, hB7, hb7⟩
  have EB7 := Aside0.mk hEB
  have B7 := Aside0.mk hB7
  have LB7 := Aside0.mk hb7
  have hHeld := TFB.out _ B7.out
  clear hEB hB7 hb7
  refine norm_ (a' := ?_) ?_ ?_
  rotate_left
  · simp only [putAll, Act.put, List.setIfInBounds_toArray, List.set_cons_zero, List.set_cons_succ]
    rfl
  refine last_ (i := 11) (N := none) #[true, true, true, true, true, true, true, true, true, true, true, true] rfl rfl (by kernel_rfl) (by decide) (fun K hK => ?_)
  obtain ⟨x0, x1, x2, x3, x4, x5, x6, x7⟩ := ev_cells EB7.out
  have z0 := blk_frozen EB7.out 0
  have z1 := blk_frozen EB7.out 1
  have z2 := blk_frozen EB7.out 2
  have z3 := blk_frozen EB7.out 3
  have z4 := blk_frozen EB7.out 4
  have z5 := blk_frozen EB7.out 5
  have z6 := blk_frozen EB7.out 6
  have z7 := blk_frozen EB7.out 7
  refine skip_ (w1 := ?_) (by rfl) rfl ?_ ?_
  rotate_left
  · go_simp
    rfl
  refine hK.out _ _ ?_
  clear hK K
  refine done_ (by kernel_rfl) ?_
  generalize hw8 : World.setCell _ ⟨b, 7, none⟩ _ = w8
  have hw8 : evPut w7 b ⟨2, 2, t.frm, t.to, sv, t.text⟩ = w8 := hw8
  have EB8 := Aside0.mk (hw8 ▸ ev_put EB7.out ⟨2, 2, t.frm, t.to, sv, t.text⟩)
  have BE : Aside0 (Below wE.heap.size wE w8) := ⟨hw8 ▸ B7.out.trans (ev_below w7 _ b LB7.out ⟨2, 2, t.frm, t.to, sv, t.text⟩)⟩
  have N8 := Aside0.mk (ND.out.below BE.out)
  have BW8 : Aside0 (Below w0.heap.size W w8) := ⟨BD.out.trans (BE.out.mono (Nat.le_trans ND.out.ge (Nat.le_of_lt ND.out.lt)))⟩
  have K8 := Aside0.mk (KD.out.trans (KeepN.of_below BE.out))
  have NBG : Aside0 (b ≠ g) := ⟨fun e => by have := ND.out.lt; have := LB7.out; omega⟩
  clear hw8 x0 x1 x2 x3 x4 x5 x6 x7 z0 z1 z2 z3 z4 z5 z6 z7 TF TFB HSTEP ND TB BD KD EB7 B7 BE
  have HEN := Aside0.mk (ended_calls N8.out (by have := HN.out; simp only; omega) HMM.out)
  go_wp2_with (fail)
  go_at_call 111
  refine HEN.out.mono ?_
  rintro e wB ⟨rfl, h1, h2, h3, h4⟩
  have NB := Aside0.mk h1
  have EBB := Aside0.mk (blk_nest EB8.out h3 NBG.out (by decide) (by decide))
  have KB := Aside0.mk (K8.out.trans h3)
  have BB := Aside0.mk (BW8.out.trans h2)
  clear h1 h2 h3 h4 HEN K8 BW8 EB8 N8
  obtain ⟨v0, v1, v2, v3, v4, v5, v6, v7⟩ := ev_cells EBB.out
  go_wp2_with (fail)
  go_ret2
  rw [E.out]
  exact ⟨_, rfl, _, NB.out.below (below_alloc (Below.refl _ _) _), BB.out.trans ((below_alloc (Below.refl _ _) _).mono (Nat.le_trans NB.out.ge (Nat.le_of_lt NB.out.lt))), KB.out.trans (KeepN.of_below (below_alloc (Below.refl _ _) _)), rowE wB _ ⟨2, 2, t.frm, t.to, sv, t.text⟩ KB.out.1 _ _ rfl rfl, fun h => by simp at h⟩
set_option maxHeartbeats 16000000 in
set_option maxRecDepth 100000 in
theorem beh_name10_2 {w0 W : World} {g : Nat} {s : NS} {lvv : Value} (h : Nx w0 W g s lvv) (hT : LxN.Tab W) (hn : s.stk.length ≤ 90000) (hm : ∀ l ∈ s.lv, l.many ≤ 1000000) (t : Tk) (hk : t.kind = 10) (hb : t.begun = false) (he : t.kind = s.begun) (hf : (kindL t.text).2 = true) (hmm : s.may = 2) (hne : s.stk ≠ []) :
    Calls Tryd.prog 73 #[.pointer (some ⟨g, 0, none⟩), .agg #[.int .i64 t.kind, .bool t.begun, .int .i64 (t.frm : Int), .int .i64 (t.to : Int), .string t.text]] W fun e w' => ∃ v, e = .returned (.tuple #[v, .int .i64 (behindV s t).2.2]) ∧ PostN w0 W g (behindV s t).1 (behindV s t).2.1 v w' := by
  obtain ⟨⟨kd, fn⟩, hkd⟩ : ∃ x, kindL t.text = x := ⟨_, rfl⟩
  have hbk : behK t = (kd, fn) := by unfold behK; rw [if_neg (by omega), if_pos hk, hkd]
  have HK := Aside0.mk hk
  have HKD := Aside0.mk (show kindL t.text = (kd, fn) from hkd)
  clear hkd
  rw [HKD.out] at hf
  simp only at hf
  subst hf
  obtain ⟨bs, bb, hs⟩ := snoc_of _ hne
  have hlne : s.lv ≠ [] := fun e => by have := h.len; rw [e, hs] at this; simp at this
  obtain ⟨pre, x, hl⟩ := snoc_of _ hlne
  obtain ⟨k, hk0⟩ : ∃ k, pre.length = k := ⟨_, rfl⟩
  have E := Aside0.mk (show behindV s t = ({ s with begun := 0, lv := pre ++ [{ x with nm := t.text }], may := 4 }, [], 0) by unfold behindV; rw [if_neg (by rw [hbk]; simp [hb, he]), if_pos (by omega), hl, setNm_snoc])
  have HL := Aside0.mk (And.intro hl hk0)
  have HMY := Aside0.mk hmm
  clear hs hlne hl hk0 hne hmm
  have HBG := Aside0.mk hb
  have HE := Aside0.mk he
  have g1 : (t.kind != s.begun) = false := by simp [he]
  clear hb hbk he
  clear hk
  have H := Aside0.mk h
  have HN := Aside0.mk hn
  have HMM := Aside0.mk hm
  have HT := Aside0.mk hT
  clear h hn hm hT
  go_enter Tryd.func73, Tryd.ntmps73
  go_upto_region 2 with (fail)
  generalize hw1 : World.alloc W _ = w1
  have TB : Aside0 (w1.heap[W.heap.size]? = some (.cells (tokCells t) 39 (0, 0))) := ⟨by subst hw1; exact blk_new W _⟩
  have B1 : Aside0 (Below W.heap.size W w1) := ⟨by subst hw1; exact below_alloc (Below.refl _ _) _⟩
  have N1 : Aside0 (Nx w0 w1 g s lvv) := ⟨H.out.below B1.out⟩
  have L3 : Aside0 (W.heap.size ≠ g) := ⟨fun e => by have := H.out.lt; omega⟩
  have HTB : Aside0 (LxN.Tab w1) := ⟨LxN.Tab.below HT.out B1.out HT.out.1⟩
  clear hw1
  obtain ⟨b3, hb3⟩ : ∃ b3, b3 = W.heap.size := ⟨_, rfl⟩
  rw [← hb3] at TB L3 ⊢
  clear hb3
  have d0 : w1.cell? ⟨b3, 0, none⟩ = some (.int .i64 t.kind) := (blk_cell TB.out 0).trans rfl
  rw [HK.out] at d0
  have d4 : w1.cell? ⟨b3, 4, none⟩ = some (.string t.text) := (blk_cell TB.out 4).trans rfl
  have HKL := Aside0.mk (kindL_calls t.text w1 HTB.out)
  rw [HKD.out] at HKL
  go_wp2_with (fail)
  go_at_call 109
  refine HKL.out.mono ?_
  rintro e w2 ⟨rfl, hb2⟩
  have TB2 := Aside0.mk (blk_below TB.out hb2)
  have N2 := Aside0.mk (N1.out.below hb2)
  have B2 := Aside0.mk (B1.out.trans (hb2.mono B1.out.size))
  clear hb2 d0 d4 HKL TB N1 B1
  go_upto_region 7 with (fail)
  have e0 : w2.cell? ⟨b3, 0, none⟩ = some (.int .i64 t.kind) := (blk_cell TB2.out 0).trans rfl
  have e1 : w2.cell? ⟨b3, 1, none⟩ = some (.bool t.begun) := (blk_cell TB2.out 1).trans rfl
  obtain ⟨wv2, hb2⟩ := N2.out.blk
  have c5 : w2.cell? ⟨g, 5, none⟩ = some (.int .i64 s.begun) := (blk_cell hb2 5).trans rfl
  clear hb2
  try clear d0
  rw [HBG.out] at e1
  rw [← HE.out] at c5
  refine ListedB.wp_region_listed (G := []) (by kernel_rfl) (by kernel_rfl) ?_
  go_wp2_with (fail)
  refine ListedB.fin_intro (by kernel_rfl) ?_
  obtain ⟨wv3, hb3⟩ := (N2.out.below (Below.refl w2.heap.size w2).drew).blk
  have f4 : w2.cell? ⟨g, 4, none⟩ = some (.int .i64 s.may) := (blk_cell hb3 4).trans rfl
  have zf5 : w2.frozen? ⟨g, 5, none⟩ = false := blk_frozen hb3 5
  clear hb3 e0 e1
  rw [HMY.out] at f4
  go_upto_region 11 with (fail)
  generalize hwC : World.drew (World.setCell _ ⟨g, 5, none⟩ _) = wC
  have NC : Aside0 (Nx w0 wC g { s with begun := 0 } lvv) := ⟨by subst hwC; exact (N2.out.set5 0).below (Below.refl _ _).drew⟩
  have BC : Aside0 (Below w0.heap.size W wC) := ⟨by subst hwC; exact ((B2.out.mono (Nat.le_trans H.out.ge (Nat.le_of_lt H.out.lt))).setCell (p := ⟨g, 5, none⟩) H.out.ge _).drew⟩
  have KC : Aside0 (KeepN g W wC) := ⟨by subst hwC; exact ((KeepN.of_below B2.out).trans (KeepN.set_ _ _ _)).trans (KeepN.of_below (Below.refl _ _).drew)⟩
  have TBC : Aside0 (wC.heap[b3]? = some (.cells (tokCells t) 39 (0, 0))) := ⟨by subst hwC; exact blk_far TB2.out (p := ⟨g, 5, none⟩) L3.out _⟩
  clear hwC f4 zf5 c5 TB2 N2 B2
  have hr := NC.out.row
  have hl := HL.out.1
  have hk0 := HL.out.2
  simp only at hr
  rw [hl] at hr
  obtain ⟨gl, cap, he2, hgl, cur, hcur, hcap⟩ := own_pos hr
  subst he2
  have hlen : s.lv.length = k + 1 := by rw [hl]; simp [hk0]
  have NC2 := NC.out
  rw [show (pre ++ [x]).length = k + 1 by simp [hk0]] at NC2 hr
  have NC := Aside0.mk NC2
  have hkn : k < 90001 := by have h1 := H.out.len; have h2 := HN.out; rw [hl] at h1; simp at h1; omega
  obtain ⟨c3, _⟩ := lvAt_of NC.out (show ({ s with begun := 0 } : NS).lv = pre ++ [x] from hl) hk0
  obtain ⟨n, hnn⟩ : ∃ n, n = k + 1 := ⟨_, rfl⟩
  rw [← hnn] at c3
  have HNN := Aside0.mk hnn
  have n1 : wrap64 ((n : Int) - 1) = (k : Int) := by unfold wrap64; omega
  have n2 : (0 : Int) ≤ (k : Int) := by omega
  have n3 : (k : Int) < (n : Int) := by omega
  have n4 : (k < n) = True := eq_true (by omega)
  have n5 : (n : Int) - 1 = (k : Int) := by omega
  have n6 : IntKind.i64.wrap (k : Int) = (k : Int) := IntWalk.i64_in _ (by omega)
  have x5 : wC.cell? ⟨gl, k * 6 + 5, none⟩ = some (.string x.nm) := (lv_top hr hk0).2.2.2.2.2
  have zl : wC.frozen? ⟨gl, k * 6 + 5, none⟩ = false := blk_frozen hcur _
  have d4 : wC.cell? ⟨b3, 4, none⟩ = some (.string t.text) := (blk_cell TBC.out 4).trans rfl
  clear hr hl hk0 hlen NC2 hkn hnn hgl hcur hcap
  refine ListedB.wp_region_listed (G := []) (by kernel_rfl) (by kernel_rfl) ?_
  go_wp2_with (fail)
  refine ListedB.fin_intro (by kernel_rfl) ?_
  obtain ⟨h1, h2, h3, h4⟩ := NC.out.lvset (j := 5) (v := .string t.text) (y := { x with nm := t.text }) (show ({ s with begun := 0 } : NS).lv = pre ++ [x] from HL.out.1) HL.out.2 (by decide) rfl
  generalize hw3 : World.setCell wC ⟨gl, k * 6 + 5, none⟩ _ = w3
  rw [hw3] at h1 h2
  have B3 : Aside0 (Below w0.heap.size W w3) := ⟨by subst hw3; exact BC.out.setCell (p := ⟨gl, k * 6 + 5, none⟩) h3 _⟩
  have N3 := Aside0.mk (Nx.below h1 (Below.refl w3.heap.size w3).drew)
  have K3 := Aside0.mk ((KC.out.trans h2).trans (KeepN.of_below (Below.refl w3.heap.size w3).drew))
  clear hw3 h1 h2 h3 h4 c3 x5 zl d4
  obtain ⟨wv, hb⟩ := N3.out.blk
  have c4 := (blk_cell hb 4).trans rfl
  have z4 := blk_frozen hb 4
  clear hb
  go_wp2_with (fail)
  go_ret2
  rw [E.out]
  exact ⟨_, rfl, _, N3.out.set4 4, B3.out.drew.trans ((Below.refl _ _).setCell (p := ⟨g, 4, none⟩) H.out.ge _), K3.out.trans (KeepN.set_ _ _ _), World.ownsRow_nil _ _ _ _, fun _ => rfl⟩
set_option maxHeartbeats 16000000 in
set_option maxRecDepth 100000 in
theorem beh_name10_3 {w0 W : World} {g : Nat} {s : NS} {lvv : Value} (h : Nx w0 W g s lvv) (hT : LxN.Tab W) (hn : s.stk.length ≤ 90000) (hm : ∀ l ∈ s.lv, l.many ≤ 1000000) (t : Tk) (hk : t.kind = 10) (hb : t.begun = false) (he : t.kind = s.begun) (hf : (kindL t.text).2 = true) (hmm : s.may = 3) (hne : s.stk ≠ []) :
    Calls Tryd.prog 73 #[.pointer (some ⟨g, 0, none⟩), .agg #[.int .i64 t.kind, .bool t.begun, .int .i64 (t.frm : Int), .int .i64 (t.to : Int), .string t.text]] W fun e w' => ∃ v, e = .returned (.tuple #[v, .int .i64 (behindV s t).2.2]) ∧ PostN w0 W g (behindV s t).1 (behindV s t).2.1 v w' := by
  obtain ⟨⟨kd, fn⟩, hkd⟩ : ∃ x, kindL t.text = x := ⟨_, rfl⟩
  have hbk : behK t = (kd, fn) := by unfold behK; rw [if_neg (by omega), if_pos hk, hkd]
  have HK := Aside0.mk hk
  have HKD := Aside0.mk (show kindL t.text = (kd, fn) from hkd)
  clear hkd
  rw [HKD.out] at hf
  simp only at hf
  subst hf
  obtain ⟨bs, bb, hs⟩ := snoc_of _ hne
  have hlne : s.lv ≠ [] := fun e => by have := h.len; rw [e, hs] at this; simp at this
  obtain ⟨pre, x, hl⟩ := snoc_of _ hlne
  obtain ⟨k, hk0⟩ : ∃ k, pre.length = k := ⟨_, rfl⟩
  have E := Aside0.mk (show behindV s t = ({ s with begun := 0, lv := pre ++ [{ x with nm := t.text }], may := 4 }, [], 0) by unfold behindV; rw [if_neg (by rw [hbk]; simp [hb, he]), if_pos (by omega), hl, setNm_snoc])
  have HL := Aside0.mk (And.intro hl hk0)
  have HMY := Aside0.mk hmm
  clear hs hlne hl hk0 hne hmm
  have HBG := Aside0.mk hb
  have HE := Aside0.mk he
  have g1 : (t.kind != s.begun) = false := by simp [he]
  clear hb hbk he
  clear hk
  have H := Aside0.mk h
  have HN := Aside0.mk hn
  have HMM := Aside0.mk hm
  have HT := Aside0.mk hT
  clear h hn hm hT
  go_enter Tryd.func73, Tryd.ntmps73
  go_upto_region 2 with (fail)
  generalize hw1 : World.alloc W _ = w1
  have TB : Aside0 (w1.heap[W.heap.size]? = some (.cells (tokCells t) 39 (0, 0))) := ⟨by subst hw1; exact blk_new W _⟩
  have B1 : Aside0 (Below W.heap.size W w1) := ⟨by subst hw1; exact below_alloc (Below.refl _ _) _⟩
  have N1 : Aside0 (Nx w0 w1 g s lvv) := ⟨H.out.below B1.out⟩
  have L3 : Aside0 (W.heap.size ≠ g) := ⟨fun e => by have := H.out.lt; omega⟩
  have HTB : Aside0 (LxN.Tab w1) := ⟨LxN.Tab.below HT.out B1.out HT.out.1⟩
  clear hw1
  obtain ⟨b3, hb3⟩ : ∃ b3, b3 = W.heap.size := ⟨_, rfl⟩
  rw [← hb3] at TB L3 ⊢
  clear hb3
  have d0 : w1.cell? ⟨b3, 0, none⟩ = some (.int .i64 t.kind) := (blk_cell TB.out 0).trans rfl
  rw [HK.out] at d0
  have d4 : w1.cell? ⟨b3, 4, none⟩ = some (.string t.text) := (blk_cell TB.out 4).trans rfl
  have HKL := Aside0.mk (kindL_calls t.text w1 HTB.out)
  rw [HKD.out] at HKL
  go_wp2_with (fail)
  go_at_call 109
  refine HKL.out.mono ?_
  rintro e w2 ⟨rfl, hb2⟩
  have TB2 := Aside0.mk (blk_below TB.out hb2)
  have N2 := Aside0.mk (N1.out.below hb2)
  have B2 := Aside0.mk (B1.out.trans (hb2.mono B1.out.size))
  clear hb2 d0 d4 HKL TB N1 B1
  go_upto_region 7 with (fail)
  have e0 : w2.cell? ⟨b3, 0, none⟩ = some (.int .i64 t.kind) := (blk_cell TB2.out 0).trans rfl
  have e1 : w2.cell? ⟨b3, 1, none⟩ = some (.bool t.begun) := (blk_cell TB2.out 1).trans rfl
  obtain ⟨wv2, hb2⟩ := N2.out.blk
  have c5 : w2.cell? ⟨g, 5, none⟩ = some (.int .i64 s.begun) := (blk_cell hb2 5).trans rfl
  clear hb2
  try clear d0
  rw [HBG.out] at e1
  rw [← HE.out] at c5
  refine ListedB.wp_region_listed (G := []) (by kernel_rfl) (by kernel_rfl) ?_
  go_wp2_with (fail)
  refine ListedB.fin_intro (by kernel_rfl) ?_
  obtain ⟨wv3, hb3⟩ := (N2.out.below (Below.refl w2.heap.size w2).drew).blk
  have f4 : w2.cell? ⟨g, 4, none⟩ = some (.int .i64 s.may) := (blk_cell hb3 4).trans rfl
  have zf5 : w2.frozen? ⟨g, 5, none⟩ = false := blk_frozen hb3 5
  clear hb3 e0 e1
  rw [HMY.out] at f4
  go_upto_region 11 with (fail)
  generalize hwC : World.drew (World.setCell _ ⟨g, 5, none⟩ _) = wC
  have NC : Aside0 (Nx w0 wC g { s with begun := 0 } lvv) := ⟨by subst hwC; exact (N2.out.set5 0).below (Below.refl _ _).drew⟩
  have BC : Aside0 (Below w0.heap.size W wC) := ⟨by subst hwC; exact ((B2.out.mono (Nat.le_trans H.out.ge (Nat.le_of_lt H.out.lt))).setCell (p := ⟨g, 5, none⟩) H.out.ge _).drew⟩
  have KC : Aside0 (KeepN g W wC) := ⟨by subst hwC; exact ((KeepN.of_below B2.out).trans (KeepN.set_ _ _ _)).trans (KeepN.of_below (Below.refl _ _).drew)⟩
  have TBC : Aside0 (wC.heap[b3]? = some (.cells (tokCells t) 39 (0, 0))) := ⟨by subst hwC; exact blk_far TB2.out (p := ⟨g, 5, none⟩) L3.out _⟩
  clear hwC f4 zf5 c5 TB2 N2 B2
  have hr := NC.out.row
  have hl := HL.out.1
  have hk0 := HL.out.2
  simp only at hr
  rw [hl] at hr
  obtain ⟨gl, cap, he2, hgl, cur, hcur, hcap⟩ := own_pos hr
  subst he2
  have hlen : s.lv.length = k + 1 := by rw [hl]; simp [hk0]
  have NC2 := NC.out
  rw [show (pre ++ [x]).length = k + 1 by simp [hk0]] at NC2 hr
  have NC := Aside0.mk NC2
  have hkn : k < 90001 := by have h1 := H.out.len; have h2 := HN.out; rw [hl] at h1; simp at h1; omega
  obtain ⟨c3, _⟩ := lvAt_of NC.out (show ({ s with begun := 0 } : NS).lv = pre ++ [x] from hl) hk0
  obtain ⟨n, hnn⟩ : ∃ n, n = k + 1 := ⟨_, rfl⟩
  rw [← hnn] at c3
  have HNN := Aside0.mk hnn
  have n1 : wrap64 ((n : Int) - 1) = (k : Int) := by unfold wrap64; omega
  have n2 : (0 : Int) ≤ (k : Int) := by omega
  have n3 : (k : Int) < (n : Int) := by omega
  have n4 : (k < n) = True := eq_true (by omega)
  have n5 : (n : Int) - 1 = (k : Int) := by omega
  have n6 : IntKind.i64.wrap (k : Int) = (k : Int) := IntWalk.i64_in _ (by omega)
  have x5 : wC.cell? ⟨gl, k * 6 + 5, none⟩ = some (.string x.nm) := (lv_top hr hk0).2.2.2.2.2
  have zl : wC.frozen? ⟨gl, k * 6 + 5, none⟩ = false := blk_frozen hcur _
  have d4 : wC.cell? ⟨b3, 4, none⟩ = some (.string t.text) := (blk_cell TBC.out 4).trans rfl
  clear hr hl hk0 hlen NC2 hkn hnn hgl hcur hcap
  refine ListedB.wp_region_listed (G := []) (by kernel_rfl) (by kernel_rfl) ?_
  go_wp2_with (fail)
  refine ListedB.fin_intro (by kernel_rfl) ?_
  obtain ⟨h1, h2, h3, h4⟩ := NC.out.lvset (j := 5) (v := .string t.text) (y := { x with nm := t.text }) (show ({ s with begun := 0 } : NS).lv = pre ++ [x] from HL.out.1) HL.out.2 (by decide) rfl
  generalize hw3 : World.setCell wC ⟨gl, k * 6 + 5, none⟩ _ = w3
  rw [hw3] at h1 h2
  have B3 : Aside0 (Below w0.heap.size W w3) := ⟨by subst hw3; exact BC.out.setCell (p := ⟨gl, k * 6 + 5, none⟩) h3 _⟩
  have N3 := Aside0.mk (Nx.below h1 (Below.refl w3.heap.size w3).drew)
  have K3 := Aside0.mk ((KC.out.trans h2).trans (KeepN.of_below (Below.refl w3.heap.size w3).drew))
  clear hw3 h1 h2 h3 h4 c3 x5 zl d4
  obtain ⟨wv, hb⟩ := N3.out.blk
  have c4 := (blk_cell hb 4).trans rfl
  have z4 := blk_frozen hb 4
  clear hb
  go_wp2_with (fail)
  go_ret2
  rw [E.out]
  exact ⟨_, rfl, _, N3.out.set4 4, B3.out.drew.trans ((Below.refl _ _).setCell (p := ⟨g, 4, none⟩) H.out.ge _), K3.out.trans (KeepN.set_ _ _ _), World.ownsRow_nil _ _ _ _, fun _ => rfl⟩
set_option maxHeartbeats 16000000 in
set_option maxRecDepth 100000 in
theorem beh_value10 {w0 W : World} {g : Nat} {s : NS} {lvv : Value} (h : Nx w0 W g s lvv) (hT : LxN.Tab W) (hn : s.stk.length ≤ 90000) (hm : ∀ l ∈ s.lv, l.many ≤ 1000000) (t : Tk) (hk : t.kind = 10) (hb : t.begun = false) (he : t.kind = s.begun) (hf : (kindL t.text).2 = true) (hm2 : s.may ≠ 2) (hm3 : s.may ≠ 3) :
    Calls Tryd.prog 73 #[.pointer (some ⟨g, 0, none⟩), .agg #[.int .i64 t.kind, .bool t.begun, .int .i64 (t.frm : Int), .int .i64 (t.to : Int), .string t.text]] W fun e w' => ∃ v, e = .returned (.tuple #[v, .int .i64 (behindV s t).2.2]) ∧ PostN w0 W g (behindV s t).1 (behindV s t).2.1 v w' := by
  obtain ⟨⟨kd, fn⟩, hkd⟩ : ∃ x, kindL t.text = x := ⟨_, rfl⟩
  have hbk : behK t = (kd, fn) := by unfold behK; rw [if_neg (by omega), if_pos hk, hkd]
  have HK := Aside0.mk hk
  have HKD := Aside0.mk (show kindL t.text = (kd, fn) from hkd)
  clear hkd
  rw [HKD.out] at hf
  simp only at hf
  subst hf
  obtain ⟨sv, hsv⟩ : ∃ sv, stepV s = sv := ⟨_, rfl⟩
  have E := Aside0.mk (show behindV s t = (endedV { s with begun := 0 }, [⟨2, kd, t.frm, t.to, sv, t.text⟩], 0) by unfold behindV; rw [if_neg (by rw [hbk]; simp [hb, he]), if_neg (by omega), hsv, hbk])
  have HSV := Aside0.mk hsv
  have m2 : (s.may == 2) = false := by simp; omega
  have md2 : decide (s.may = 2) = false := by simp; omega
  have m3 : (s.may == 3) = false := by simp; omega
  have md3 : decide (s.may = 3) = false := by simp; omega
  clear hsv hm2 hm3
  have HBG := Aside0.mk hb
  have HE := Aside0.mk he
  have g1 : (t.kind != s.begun) = false := by simp [he]
  clear hb hbk he
  clear hk
  have H := Aside0.mk h
  have HN := Aside0.mk hn
  have HMM := Aside0.mk hm
  have HT := Aside0.mk hT
  clear h hn hm hT
  go_enter Tryd.func73, Tryd.ntmps73
  go_upto_region 2 with (fail)
  generalize hw1 : World.alloc W _ = w1
  have TB : Aside0 (w1.heap[W.heap.size]? = some (.cells (tokCells t) 39 (0, 0))) := ⟨by subst hw1; exact blk_new W _⟩
  have B1 : Aside0 (Below W.heap.size W w1) := ⟨by subst hw1; exact below_alloc (Below.refl _ _) _⟩
  have N1 : Aside0 (Nx w0 w1 g s lvv) := ⟨H.out.below B1.out⟩
  have L3 : Aside0 (W.heap.size ≠ g) := ⟨fun e => by have := H.out.lt; omega⟩
  have HTB : Aside0 (LxN.Tab w1) := ⟨LxN.Tab.below HT.out B1.out HT.out.1⟩
  clear hw1
  obtain ⟨b3, hb3⟩ : ∃ b3, b3 = W.heap.size := ⟨_, rfl⟩
  rw [← hb3] at TB L3 ⊢
  clear hb3
  have d0 : w1.cell? ⟨b3, 0, none⟩ = some (.int .i64 t.kind) := (blk_cell TB.out 0).trans rfl
  rw [HK.out] at d0
  have d4 : w1.cell? ⟨b3, 4, none⟩ = some (.string t.text) := (blk_cell TB.out 4).trans rfl
  have HKL := Aside0.mk (kindL_calls t.text w1 HTB.out)
  rw [HKD.out] at HKL
  go_wp2_with (fail)
  go_at_call 109
  refine HKL.out.mono ?_
  rintro e w2 ⟨rfl, hb2⟩
  have TB2 := Aside0.mk (blk_below TB.out hb2)
  have N2 := Aside0.mk (N1.out.below hb2)
  have B2 := Aside0.mk (B1.out.trans (hb2.mono B1.out.size))
  clear hb2 d0 d4 HKL TB N1 B1
  go_upto_region 7 with (fail)
  have e0 : w2.cell? ⟨b3, 0, none⟩ = some (.int .i64 t.kind) := (blk_cell TB2.out 0).trans rfl
  have e1 : w2.cell? ⟨b3, 1, none⟩ = some (.bool t.begun) := (blk_cell TB2.out 1).trans rfl
  obtain ⟨wv2, hb2⟩ := N2.out.blk
  have c5 : w2.cell? ⟨g, 5, none⟩ = some (.int .i64 s.begun) := (blk_cell hb2 5).trans rfl
  clear hb2
  try clear d0
  rw [HBG.out] at e1
  rw [← HE.out] at c5
  refine ListedB.wp_region_listed (G := []) (by kernel_rfl) (by kernel_rfl) ?_
  go_wp2_with (fail)
  refine ListedB.fin_intro (by kernel_rfl) ?_
  obtain ⟨wv3, hb3⟩ := (N2.out.below (Below.refl w2.heap.size w2).drew).blk
  have f4 : w2.cell? ⟨g, 4, none⟩ = some (.int .i64 s.may) := (blk_cell hb3 4).trans rfl
  have zf5 : w2.frozen? ⟨g, 5, none⟩ = false := blk_frozen hb3 5
  clear hb3 e0 e1
  go_upto_region 14 with (fail)
  generalize hwC : World.drew (World.setCell _ ⟨g, 5, none⟩ _) = wC
  have ND : Aside0 (Nx w0 wC.drew g { s with begun := 0 } lvv) := ⟨by subst hwC; exact ((N2.out.set5 0).below (Below.refl _ _).drew).below (Below.refl _ _).drew⟩
  have BD : Aside0 (Below w0.heap.size W wC.drew) := ⟨by subst hwC; exact ((B2.out.mono (Nat.le_trans H.out.ge (Nat.le_of_lt H.out.lt))).setCell (p := ⟨g, 5, none⟩) H.out.ge _).drew.drew⟩
  have KD : Aside0 (KeepN g W wC.drew) := ⟨by subst hwC; exact (((KeepN.of_below B2.out).trans (KeepN.set_ _ _ _)).trans (KeepN.of_below (Below.refl _ _).drew)).trans (KeepN.of_below (Below.refl _ _).drew)⟩
  have TB : Aside0 (wC.drew.heap[b3]? = some (.cells (tokCells t) 39 (0, 0))) := ⟨by subst hwC; exact blk_far TB2.out (p := ⟨g, 5, none⟩) L3.out _⟩
  have TF : Aside0 (wC.drew.cell? ⟨b3, 2, none⟩ = some (.int .i64 (t.frm : Int)) ∧ wC.drew.cell? ⟨b3, 3, none⟩ = some (.int .i64 (t.to : Int)) ∧ wC.drew.cell? ⟨b3, 4, none⟩ = some (.string t.text)) := ⟨(blk_cell TB.out 2).trans rfl, (blk_cell TB.out 3).trans rfl, (blk_cell TB.out 4).trans rfl⟩
  have TFB : Aside0 (∀ w, Below wC.drew.heap.size wC.drew w → w.cell? ⟨b3, 2, none⟩ = some (.int .i64 (t.frm : Int)) ∧ w.cell? ⟨b3, 3, none⟩ = some (.int .i64 (t.to : Int)) ∧ w.cell? ⟨b3, 4, none⟩ = some (.string t.text)) := ⟨fun w hb => ⟨pw_cell_below hb TF.out.1, pw_cell_below hb TF.out.2.1, pw_cell_below hb TF.out.2.2⟩⟩
  have HSTEP : Aside0 (∀ w, Below wC.drew.heap.size wC.drew w → Calls Tryd.prog 110 #[.pointer (some ⟨g, 0, none⟩)] w fun e w' => e = .returned (.agg #[.bool sv.named, .string sv.name, .int .i64 (sv.idx : Int)]) ∧ Below w.heap.size w w') := ⟨fun w hb => by
    have := step_calls (ND.out.below hb) (by have := HN.out; simp only; omega)
    rw [show stepV { s with begun := 0 } = sv from HSV.out] at this
    exact this⟩
  clear hwC f4 zf5 c5 TB2 N2 B2
  refine start_ (n := 12) (S := fun w' => w'.cell? ⟨b3, 2, none⟩ = some (.int .i64 (t.frm : Int)) ∧ w'.cell? ⟨b3, 3, none⟩ = some (.int .i64 (t.to : Int)) ∧ w'.cell? ⟨b3, 4, none⟩ = some (.string t.text)) (ds := [11]) #[false, false, false, false, false, false, false, false, false, false, false, false] (by kernel_rfl) rfl rfl ⟨TF.out.1, TF.out.2.1, TF.out.2.2⟩ (fun hHeld => ?_)
  generalize hwd_ : wC.drew = wE at TF TFB HSTEP ND TB BD KD hHeld ⊢
  clear hwd_
  refine pure_ (i := 0) (N := some 72) (v := ?_) (a' := ?_) #[true, false, false, false, false, false, false, false, false, false, false, false] rfl rfl (by kernel_rfl) (fun _ _ _ h => h) (Or.inl ⟨by rfl, ?_⟩) ?_ ?_
  rotate_left
  · intro w'
    go_simp
    with_reducible rfl
  rotate_left
  · simp only [Act.put, List.setIfInBounds_toArray, List.set_cons_zero, List.set_cons_succ, i64_w, i32_w]
    rfl
  refine pure_ (i := 1) (N := some 73) (v := ?_) (a' := ?_) #[true, true, false, false, false, false, false, false, false, false, false, false] rfl rfl (by kernel_rfl) (fun _ _ _ h => h) (Or.inl ⟨by rfl, ?_⟩) ?_ ?_
  rotate_left
  · intro w'
    go_simp
    with_reducible rfl
  rotate_left
  · simp only [Act.put, List.setIfInBounds_toArray, List.set_cons_zero, List.set_cons_succ, i64_w, i32_w]
    rfl
  refine pure_ (i := 3) (N := some 75) (v := ?_) (a' := ?_) #[true, true, false, true, false, false, false, false, false, false, false, false] rfl rfl (by kernel_rfl) (fun _ _ _ h => h) (Or.inl ⟨by rfl, ?_⟩) ?_ ?_
  rotate_left
  · intro w'
    go_simp
    with_reducible rfl
  rotate_left
  · simp only [Act.put, List.setIfInBounds_toArray, List.set_cons_zero, List.set_cons_succ, i64_w, i32_w]
    rfl
  refine pure_ (i := 5) (N := some 77) (v := ?_) (a' := ?_) #[true, true, false, true, false, true, false, false, false, false, false, false] rfl rfl (by kernel_rfl) (fun _ _ _ h => h) (Or.inl ⟨by rfl, ?_⟩) ?_ ?_
  rotate_left
  · intro w'
    go_simp
    with_reducible rfl
  rotate_left
  · simp only [Act.put, List.setIfInBounds_toArray, List.set_cons_zero, List.set_cons_succ, i64_w, i32_w]
    rfl
  refine pure_ (i := 7) (N := some 79) (v := ?_) (a' := ?_) #[true, true, false, true, false, true, false, true, false, false, false, false] rfl rfl (by kernel_rfl) (fun _ _ _ h => h) (Or.inl ⟨by rfl, ?_⟩) ?_ ?_
  rotate_left
  · intro w'
    go_simp
    with_reducible rfl
  rotate_left
  · simp only [Act.put, List.setIfInBounds_toArray, List.set_cons_zero, List.set_cons_succ, i64_w, i32_w]
    rfl
  refine take_ (i := 2) (N := some 74) (v := ?_) (a' := ?_) #[true, true, true, true, false, true, false, true, false, false, false, false] rfl rfl (by kernel_rfl) (fun _ _ _ h => h) (Or.inl ⟨by rfl, ?_⟩) hHeld ?_ ?_
  rotate_left
  · rintro w' ⟨s0, s1, s2⟩
    go_simp
    with_reducible rfl
  rotate_left
  · simp only [Act.put, List.setIfInBounds_toArray, List.set_cons_zero, List.set_cons_succ, i64_w, i32_w]
    rfl
  refine take_ (i := 4) (N := some 76) (v := ?_) (a' := ?_) #[true, true, true, true, true, true, false, true, false, false, false, false] rfl rfl (by kernel_rfl) (fun _ _ _ h => h) (Or.inl ⟨by rfl, ?_⟩) hHeld ?_ ?_
  rotate_left
  · rintro w' ⟨s0, s1, s2⟩
    go_simp
    with_reducible rfl
  rotate_left
  · simp only [Act.put, List.setIfInBounds_toArray, List.set_cons_zero, List.set_cons_succ, i64_w, i32_w]
    rfl
  refine take_ (i := 8) (N := some 80) (v := ?_) (a' := ?_) #[true, true, true, true, true, true, false, true, true, false, false, false] rfl rfl (by kernel_rfl) (fun _ _ _ h => h) (Or.inl ⟨by rfl, ?_⟩) hHeld ?_ ?_
  rotate_left
  · rintro w' ⟨s0, s1, s2⟩
    go_simp
    with_reducible rfl
  rotate_left
  · simp only [Act.put, List.setIfInBounds_toArray, List.set_cons_zero, List.set_cons_succ, i64_w, i32_w]
    rfl
  refine join_ (σ := Nat) 1 #[true, true, true, true, true, true, true, true, true, true, true, false] (fun b => [(8, .pointer (some ⟨b, 0, none⟩)), (78, .agg #[.bool sv.named, .string sv.name, .int .i64 (sv.idx : Int)]), (81, .agg #[.int .i64 2, .int .i64 kd, .int .i64 (t.frm : Int), .int .i64 (t.to : Int), .bool sv.named, .string sv.name, .int .i64 (sv.idx : Int), .string t.text])]) (fun b w' => w'.heap[b]? = some (.cells (evCells ev0).toArray 62 (0, 0)) ∧ Below wE.heap.size wE w' ∧ wE.heap.size ≤ b) ?_ ?_
  rotate_left
  · intro hCont
    refine two_ (i := 6) (j := 10) (Ni := some 78) (Nj := some 8) #[true, true, true, true, true, true, true, true, true, false, false, false] #[true, true, true, true, true, true, false, true, true, false, true, false] rfl rfl rfl rfl (by kernel_rfl) (by decide) (by decide) (fun K hK => ?_) (fun K hK => ?_)
    · skip
      refine goes_ Tryd.func110 (by kernel_rfl) rfl #[.pointer (some ⟨g, 0, none⟩)] (by rfl) rfl rfl (by simp only [List.map_toArray, List.map_cons, List.map_nil]; rfl) ?_
      with_reducible refine (HSTEP.out _ (Below.refl _ _)).mono ?_
      rintro e w5 ⟨rfl, hb⟩
      refine ⟨_, rfl, ?_⟩
      have B5 := Aside0.mk hb
      clear hb
      have FF5 := Aside0.mk (TFB.out _ B5.out)
      refine hK.out _ _ ⟨FF5.out.1, FF5.out.2.1, FF5.out.2.2⟩ (fun hHeld => ?_)
      clear hK K
      refine norm_ (a' := ?_) ?_ ?_
      rotate_left
      · show Act.put _ (some 78) _ = _
        simp only [Act.put, List.setIfInBounds_toArray, List.set_cons_zero, List.set_cons_succ, i64_w, i32_w]
        rfl
      refine pure_ (i := 9) (N := some 81) (v := ?_) (a' := ?_) #[true, true, true, true, true, true, true, true, true, true, false, false] rfl rfl (by kernel_rfl) (fun _ _ _ h => h) (Or.inl ⟨by rfl, ?_⟩) ?_ ?_
      rotate_left
      · intro w'
        go_simp
        with_reducible rfl
      rotate_left
      · simp only [Act.put, List.setIfInBounds_toArray, List.set_cons_zero, List.set_cons_succ, i64_w, i32_w]
        rfl
      refine one_ (i := 10) (N := some 8) #[true, true, true, true, true, true, true, true, true, true, true, false] rfl rfl (by kernel_rfl) (by decide) (fun K hK => ?_)
      refine value_ (w1 := ?_) (v := ?_) (by rfl) rfl ?_ ?_
      rotate_left 2
      · go_simp
        constructor
        · rfl
        · rfl
      generalize hg5 : World.alloc w5 _ = w6
      have EB6 : Aside0 (w6.heap[w5.heap.size]? = some (.cells (evCells ev0).toArray 62 (0, 0))) := ⟨by subst hg5; exact blk_new _ _⟩
      have B6 : Aside0 (Below wE.heap.size wE w6) := ⟨by subst hg5; exact B5.out.trans ((below_alloc (Below.refl _ _) _).mono B5.out.size)⟩
      clear hg5
      have FF6 := Aside0.mk (TFB.out _ B6.out)
      refine hK.out _ _ ⟨FF6.out.1, FF6.out.2.1, FF6.out.2.2⟩ (fun hHeld => ?_)
      clear hK K
      refine norm_ (a' := ?_) ?_ ?_
      rotate_left
      · show Act.put _ (some 8) _ = _
        simp only [Act.put, List.setIfInBounds_toArray, List.set_cons_zero, List.set_cons_succ, i64_w, i32_w]
        rfl
      exact norm_ (by simp only [putAll, Act.put, List.setIfInBounds_toArray, List.set_cons_zero, List.set_cons_succ]) (hCont w5.heap.size _ ⟨EB6.out, B6.out, B5.out.size⟩)
    · skip
      refine value_ (w1 := ?_) (v := ?_) (by rfl) rfl ?_ ?_
      rotate_left 2
      · go_simp
        constructor
        · rfl
        · rfl
      generalize hg5 : World.alloc wE _ = w5
      have EB : Aside0 (w5.heap[wE.heap.size]? = some (.cells (evCells ev0).toArray 62 (0, 0))) := ⟨by subst hg5; exact blk_new _ _⟩
      have B5 : Aside0 (Below wE.heap.size wE w5) := ⟨by subst hg5; exact below_alloc (Below.refl _ _) _⟩
      clear hg5
      have FF5 := Aside0.mk (TFB.out _ B5.out)
      refine hK.out _ _ ⟨FF5.out.1, FF5.out.2.1, FF5.out.2.2⟩ (fun hHeld => ?_)
      clear hK K
      refine norm_ (a' := ?_) ?_ ?_
      rotate_left
      · show Act.put _ (some 8) _ = _
        simp only [Act.put, List.setIfInBounds_toArray, List.set_cons_zero, List.set_cons_succ, i64_w, i32_w]
        rfl
      refine one_ (i := 6) (N := some 78) #[true, true, true, true, true, true, true, true, true, false, true, false] rfl rfl (by kernel_rfl) (by decide) (fun K hK => ?_)
      refine goes_ Tryd.func110 (by kernel_rfl) rfl #[.pointer (some ⟨g, 0, none⟩)] (by rfl) rfl rfl (by simp only [List.map_toArray, List.map_cons, List.map_nil]; rfl) ?_
      with_reducible refine (HSTEP.out _ B5.out).mono ?_
      rintro e w6 ⟨rfl, hb⟩
      refine ⟨_, rfl, ?_⟩
      have B6 := Aside0.mk (B5.out.trans (hb.mono B5.out.size))
      have EB6 := Aside0.mk (blk_below EB.out hb)
      clear hb
      have FF6 := Aside0.mk (TFB.out _ B6.out)
      refine hK.out _ _ ⟨FF6.out.1, FF6.out.2.1, FF6.out.2.2⟩ (fun hHeld => ?_)
      clear hK K
      refine norm_ (a' := ?_) ?_ ?_
      rotate_left
      · show Act.put _ (some 78) _ = _
        simp only [Act.put, List.setIfInBounds_toArray, List.set_cons_zero, List.set_cons_succ, i64_w, i32_w]
        rfl
      refine pure_ (i := 9) (N := some 81) (v := ?_) (a' := ?_) #[true, true, true, true, true, true, true, true, true, true, true, false] rfl rfl (by kernel_rfl) (fun _ _ _ h => h) (Or.inl ⟨by rfl, ?_⟩) ?_ ?_
      rotate_left
      · intro w'
        go_simp
        with_reducible rfl
      rotate_left
      · simp only [Act.put, List.setIfInBounds_toArray, List.set_cons_zero, List.set_cons_succ, i64_w, i32_w]
        rfl
      exact norm_ (by simp only [putAll, Act.put, List.setIfInBounds_toArray, List.set_cons_zero, List.set_cons_succ]) (hCont wE.heap.size _ ⟨EB6.out, B6.out, Nat.le_refl _⟩)
  rintro b w7 ⟨hEB, hB7, hb7⟩
  have EB7 := Aside0.mk hEB
  have B7 := Aside0.mk hB7
  have LB7 := Aside0.mk hb7
  have hHeld := TFB.out _ B7.out
  clear hEB hB7 hb7
  refine norm_ (a' := ?_) ?_ ?_
  rotate_left
  · simp only [putAll, Act.put, List.setIfInBounds_toArray, List.set_cons_zero, List.set_cons_succ]
    rfl
  refine last_ (i := 11) (N := none) #[true, true, true, true, true, true, true, true, true, true, true, true] rfl rfl (by kernel_rfl) (by decide) (fun K hK => ?_)
  obtain ⟨x0, x1, x2, x3, x4, x5, x6, x7⟩ := ev_cells EB7.out
  have z0 := blk_frozen EB7.out 0
  have z1 := blk_frozen EB7.out 1
  have z2 := blk_frozen EB7.out 2
  have z3 := blk_frozen EB7.out 3
  have z4 := blk_frozen EB7.out 4
  have z5 := blk_frozen EB7.out 5
  have z6 := blk_frozen EB7.out 6
  have z7 := blk_frozen EB7.out 7
  refine skip_ (w1 := ?_) (by rfl) rfl ?_ ?_
  rotate_left
  · go_simp
    rfl
  refine hK.out _ _ ?_
  clear hK K
  refine done_ (by kernel_rfl) ?_
  generalize hw8 : World.setCell _ ⟨b, 7, none⟩ _ = w8
  have hw8 : evPut w7 b ⟨2, kd, t.frm, t.to, sv, t.text⟩ = w8 := hw8
  have EB8 := Aside0.mk (hw8 ▸ ev_put EB7.out ⟨2, kd, t.frm, t.to, sv, t.text⟩)
  have BE : Aside0 (Below wE.heap.size wE w8) := ⟨hw8 ▸ B7.out.trans (ev_below w7 _ b LB7.out ⟨2, kd, t.frm, t.to, sv, t.text⟩)⟩
  have N8 := Aside0.mk (ND.out.below BE.out)
  have BW8 : Aside0 (Below w0.heap.size W w8) := ⟨BD.out.trans (BE.out.mono (Nat.le_trans ND.out.ge (Nat.le_of_lt ND.out.lt)))⟩
  have K8 := Aside0.mk (KD.out.trans (KeepN.of_below BE.out))
  have NBG : Aside0 (b ≠ g) := ⟨fun e => by have := ND.out.lt; have := LB7.out; omega⟩
  clear hw8 x0 x1 x2 x3 x4 x5 x6 x7 z0 z1 z2 z3 z4 z5 z6 z7 TF TFB HSTEP ND TB BD KD EB7 B7 BE
  have HEN := Aside0.mk (ended_calls N8.out (by have := HN.out; simp only; omega) HMM.out)
  go_wp2_with (fail)
  go_at_call 111
  refine HEN.out.mono ?_
  rintro e wB ⟨rfl, h1, h2, h3, h4⟩
  have NB := Aside0.mk h1
  have EBB := Aside0.mk (blk_nest EB8.out h3 NBG.out (by decide) (by decide))
  have KB := Aside0.mk (K8.out.trans h3)
  have BB := Aside0.mk (BW8.out.trans h2)
  clear h1 h2 h3 h4 HEN K8 BW8 EB8 N8
  obtain ⟨v0, v1, v2, v3, v4, v5, v6, v7⟩ := ev_cells EBB.out
  go_wp2_with (fail)
  go_ret2
  rw [E.out]
  exact ⟨_, rfl, _, NB.out.below (below_alloc (Below.refl _ _) _), BB.out.trans ((below_alloc (Below.refl _ _) _).mono (Nat.le_trans NB.out.ge (Nat.le_of_lt NB.out.lt))), KB.out.trans (KeepN.of_below (below_alloc (Below.refl _ _) _)), rowE wB _ ⟨2, kd, t.frm, t.to, sv, t.text⟩ KB.out.1 _ _ rfl rfl, fun h => by simp at h⟩
set_option maxHeartbeats 16000000 in
set_option maxRecDepth 100000 in
theorem beh_name8_2 {w0 W : World} {g : Nat} {s : NS} {lvv : Value} (h : Nx w0 W g s lvv) (hT : LxN.Tab W) (hn : s.stk.length ≤ 90000) (hm : ∀ l ∈ s.lv, l.many ≤ 1000000) (t : Tk) (hk9 : t.kind ≠ 9) (hk10 : t.kind ≠ 10) (hb : t.begun = false) (he : t.kind = s.begun) (hmm : s.may = 2) (hne : s.stk ≠ []) :
    Calls Tryd.prog 73 #[.pointer (some ⟨g, 0, none⟩), .agg #[.int .i64 t.kind, .bool t.begun, .int .i64 (t.frm : Int), .int .i64 (t.to : Int), .string t.text]] W fun e w' => ∃ v, e = .returned (.tuple #[v, .int .i64 (behindV s t).2.2]) ∧ PostN w0 W g (behindV s t).1 (behindV s t).2.1 v w' := by
  have hbk : behK t = (3, true) := by unfold behK; rw [if_neg hk9, if_neg hk10]
  have HK := Aside0.mk (show (t.kind == 9) = false ∧ (t.kind == 10) = false from ⟨by simp [hk9], by simp [hk10]⟩)
  clear hk9 hk10
  obtain ⟨bs, bb, hs⟩ := snoc_of _ hne
  have hlne : s.lv ≠ [] := fun e => by have := h.len; rw [e, hs] at this; simp at this
  obtain ⟨pre, x, hl⟩ := snoc_of _ hlne
  obtain ⟨k, hk0⟩ : ∃ k, pre.length = k := ⟨_, rfl⟩
  have E := Aside0.mk (show behindV s t = ({ s with begun := 0, lv := pre ++ [{ x with nm := t.text }], may := 4 }, [], 0) by unfold behindV; rw [if_neg (by rw [hbk]; simp [hb, he]), if_pos (by omega), hl, setNm_snoc])
  have HL := Aside0.mk (And.intro hl hk0)
  have HMY := Aside0.mk hmm
  clear hs hlne hl hk0 hne hmm
  have HBG := Aside0.mk hb
  have HE := Aside0.mk he
  have g1 : (t.kind != s.begun) = false := by simp [he]
  clear hb hbk he
  have H := Aside0.mk h
  have HN := Aside0.mk hn
  have HMM := Aside0.mk hm
  have HT := Aside0.mk hT
  clear h hn hm hT
  go_enter Tryd.func73, Tryd.ntmps73
  go_upto_region 2 with (fail)
  generalize hw1 : World.alloc W _ = w1
  have TB : Aside0 (w1.heap[W.heap.size]? = some (.cells (tokCells t) 39 (0, 0))) := ⟨by subst hw1; exact blk_new W _⟩
  have B1 : Aside0 (Below W.heap.size W w1) := ⟨by subst hw1; exact below_alloc (Below.refl _ _) _⟩
  have N1 : Aside0 (Nx w0 w1 g s lvv) := ⟨H.out.below B1.out⟩
  have L3 : Aside0 (W.heap.size ≠ g) := ⟨fun e => by have := H.out.lt; omega⟩
  have HTB : Aside0 (LxN.Tab w1) := ⟨LxN.Tab.below HT.out B1.out HT.out.1⟩
  clear hw1
  obtain ⟨b3, hb3⟩ : ∃ b3, b3 = W.heap.size := ⟨_, rfl⟩
  rw [← hb3] at TB L3 ⊢
  clear hb3
  have d0 : w1.cell? ⟨b3, 0, none⟩ = some (.int .i64 t.kind) := (blk_cell TB.out 0).trans rfl
  have k9 : (t.kind == 9) = false := HK.out.1
  have k10 : (t.kind == 10) = false := HK.out.2
  have TB2 := TB
  have N2 := N1
  have B2 := B1
  obtain ⟨w2, hw2⟩ : ∃ w2, w2 = w1 := ⟨_, rfl⟩
  rw [← hw2] at TB2 N2 B2 d0 ⊢
  clear hw2 TB N1 B1 HTB
  go_upto_region 7 with (fail)
  have e0 : w2.cell? ⟨b3, 0, none⟩ = some (.int .i64 t.kind) := (blk_cell TB2.out 0).trans rfl
  have e1 : w2.cell? ⟨b3, 1, none⟩ = some (.bool t.begun) := (blk_cell TB2.out 1).trans rfl
  obtain ⟨wv2, hb2⟩ := N2.out.blk
  have c5 : w2.cell? ⟨g, 5, none⟩ = some (.int .i64 s.begun) := (blk_cell hb2 5).trans rfl
  clear hb2
  try clear d0
  rw [HBG.out] at e1
  rw [← HE.out] at c5
  refine ListedB.wp_region_listed (G := []) (by kernel_rfl) (by kernel_rfl) ?_
  go_wp2_with (fail)
  refine ListedB.fin_intro (by kernel_rfl) ?_
  obtain ⟨wv3, hb3⟩ := (N2.out.below (Below.refl w2.heap.size w2).drew).blk
  have f4 : w2.cell? ⟨g, 4, none⟩ = some (.int .i64 s.may) := (blk_cell hb3 4).trans rfl
  have zf5 : w2.frozen? ⟨g, 5, none⟩ = false := blk_frozen hb3 5
  clear hb3 e0 e1
  rw [HMY.out] at f4
  go_upto_region 11 with (fail)
  generalize hwC : World.drew (World.setCell _ ⟨g, 5, none⟩ _) = wC
  have NC : Aside0 (Nx w0 wC g { s with begun := 0 } lvv) := ⟨by subst hwC; exact (N2.out.set5 0).below (Below.refl _ _).drew⟩
  have BC : Aside0 (Below w0.heap.size W wC) := ⟨by subst hwC; exact ((B2.out.mono (Nat.le_trans H.out.ge (Nat.le_of_lt H.out.lt))).setCell (p := ⟨g, 5, none⟩) H.out.ge _).drew⟩
  have KC : Aside0 (KeepN g W wC) := ⟨by subst hwC; exact ((KeepN.of_below B2.out).trans (KeepN.set_ _ _ _)).trans (KeepN.of_below (Below.refl _ _).drew)⟩
  have TBC : Aside0 (wC.heap[b3]? = some (.cells (tokCells t) 39 (0, 0))) := ⟨by subst hwC; exact blk_far TB2.out (p := ⟨g, 5, none⟩) L3.out _⟩
  clear hwC f4 zf5 c5 TB2 N2 B2
  have hr := NC.out.row
  have hl := HL.out.1
  have hk0 := HL.out.2
  simp only at hr
  rw [hl] at hr
  obtain ⟨gl, cap, he2, hgl, cur, hcur, hcap⟩ := own_pos hr
  subst he2
  have hlen : s.lv.length = k + 1 := by rw [hl]; simp [hk0]
  have NC2 := NC.out
  rw [show (pre ++ [x]).length = k + 1 by simp [hk0]] at NC2 hr
  have NC := Aside0.mk NC2
  have hkn : k < 90001 := by have h1 := H.out.len; have h2 := HN.out; rw [hl] at h1; simp at h1; omega
  obtain ⟨c3, _⟩ := lvAt_of NC.out (show ({ s with begun := 0 } : NS).lv = pre ++ [x] from hl) hk0
  obtain ⟨n, hnn⟩ : ∃ n, n = k + 1 := ⟨_, rfl⟩
  rw [← hnn] at c3
  have HNN := Aside0.mk hnn
  have n1 : wrap64 ((n : Int) - 1) = (k : Int) := by unfold wrap64; omega
  have n2 : (0 : Int) ≤ (k : Int) := by omega
  have n3 : (k : Int) < (n : Int) := by omega
  have n4 : (k < n) = True := eq_true (by omega)
  have n5 : (n : Int) - 1 = (k : Int) := by omega
  have n6 : IntKind.i64.wrap (k : Int) = (k : Int) := IntWalk.i64_in _ (by omega)
  have x5 : wC.cell? ⟨gl, k * 6 + 5, none⟩ = some (.string x.nm) := (lv_top hr hk0).2.2.2.2.2
  have zl : wC.frozen? ⟨gl, k * 6 + 5, none⟩ = false := blk_frozen hcur _
  have d4 : wC.cell? ⟨b3, 4, none⟩ = some (.string t.text) := (blk_cell TBC.out 4).trans rfl
  clear hr hl hk0 hlen NC2 hkn hnn hgl hcur hcap
  refine ListedB.wp_region_listed (G := []) (by kernel_rfl) (by kernel_rfl) ?_
  go_wp2_with (fail)
  refine ListedB.fin_intro (by kernel_rfl) ?_
  obtain ⟨h1, h2, h3, h4⟩ := NC.out.lvset (j := 5) (v := .string t.text) (y := { x with nm := t.text }) (show ({ s with begun := 0 } : NS).lv = pre ++ [x] from HL.out.1) HL.out.2 (by decide) rfl
  generalize hw3 : World.setCell wC ⟨gl, k * 6 + 5, none⟩ _ = w3
  rw [hw3] at h1 h2
  have B3 : Aside0 (Below w0.heap.size W w3) := ⟨by subst hw3; exact BC.out.setCell (p := ⟨gl, k * 6 + 5, none⟩) h3 _⟩
  have N3 := Aside0.mk (Nx.below h1 (Below.refl w3.heap.size w3).drew)
  have K3 := Aside0.mk ((KC.out.trans h2).trans (KeepN.of_below (Below.refl w3.heap.size w3).drew))
  clear hw3 h1 h2 h3 h4 c3 x5 zl d4
  obtain ⟨wv, hb⟩ := N3.out.blk
  have c4 := (blk_cell hb 4).trans rfl
  have z4 := blk_frozen hb 4
  clear hb
  go_wp2_with (fail)
  go_ret2
  rw [E.out]
  exact ⟨_, rfl, _, N3.out.set4 4, B3.out.drew.trans ((Below.refl _ _).setCell (p := ⟨g, 4, none⟩) H.out.ge _), K3.out.trans (KeepN.set_ _ _ _), World.ownsRow_nil _ _ _ _, fun _ => rfl⟩
set_option maxHeartbeats 16000000 in
set_option maxRecDepth 100000 in
theorem beh_name8_3 {w0 W : World} {g : Nat} {s : NS} {lvv : Value} (h : Nx w0 W g s lvv) (hT : LxN.Tab W) (hn : s.stk.length ≤ 90000) (hm : ∀ l ∈ s.lv, l.many ≤ 1000000) (t : Tk) (hk9 : t.kind ≠ 9) (hk10 : t.kind ≠ 10) (hb : t.begun = false) (he : t.kind = s.begun) (hmm : s.may = 3) (hne : s.stk ≠ []) :
    Calls Tryd.prog 73 #[.pointer (some ⟨g, 0, none⟩), .agg #[.int .i64 t.kind, .bool t.begun, .int .i64 (t.frm : Int), .int .i64 (t.to : Int), .string t.text]] W fun e w' => ∃ v, e = .returned (.tuple #[v, .int .i64 (behindV s t).2.2]) ∧ PostN w0 W g (behindV s t).1 (behindV s t).2.1 v w' := by
  have hbk : behK t = (3, true) := by unfold behK; rw [if_neg hk9, if_neg hk10]
  have HK := Aside0.mk (show (t.kind == 9) = false ∧ (t.kind == 10) = false from ⟨by simp [hk9], by simp [hk10]⟩)
  clear hk9 hk10
  obtain ⟨bs, bb, hs⟩ := snoc_of _ hne
  have hlne : s.lv ≠ [] := fun e => by have := h.len; rw [e, hs] at this; simp at this
  obtain ⟨pre, x, hl⟩ := snoc_of _ hlne
  obtain ⟨k, hk0⟩ : ∃ k, pre.length = k := ⟨_, rfl⟩
  have E := Aside0.mk (show behindV s t = ({ s with begun := 0, lv := pre ++ [{ x with nm := t.text }], may := 4 }, [], 0) by unfold behindV; rw [if_neg (by rw [hbk]; simp [hb, he]), if_pos (by omega), hl, setNm_snoc])
  have HL := Aside0.mk (And.intro hl hk0)
  have HMY := Aside0.mk hmm
  clear hs hlne hl hk0 hne hmm
  have HBG := Aside0.mk hb
  have HE := Aside0.mk he
  have g1 : (t.kind != s.begun) = false := by simp [he]
  clear hb hbk he
  have H := Aside0.mk h
  have HN := Aside0.mk hn
  have HMM := Aside0.mk hm
  have HT := Aside0.mk hT
  clear h hn hm hT
  go_enter Tryd.func73, Tryd.ntmps73
  go_upto_region 2 with (fail)
  generalize hw1 : World.alloc W _ = w1
  have TB : Aside0 (w1.heap[W.heap.size]? = some (.cells (tokCells t) 39 (0, 0))) := ⟨by subst hw1; exact blk_new W _⟩
  have B1 : Aside0 (Below W.heap.size W w1) := ⟨by subst hw1; exact below_alloc (Below.refl _ _) _⟩
  have N1 : Aside0 (Nx w0 w1 g s lvv) := ⟨H.out.below B1.out⟩
  have L3 : Aside0 (W.heap.size ≠ g) := ⟨fun e => by have := H.out.lt; omega⟩
  have HTB : Aside0 (LxN.Tab w1) := ⟨LxN.Tab.below HT.out B1.out HT.out.1⟩
  clear hw1
  obtain ⟨b3, hb3⟩ : ∃ b3, b3 = W.heap.size := ⟨_, rfl⟩
  rw [← hb3] at TB L3 ⊢
  clear hb3
  have d0 : w1.cell? ⟨b3, 0, none⟩ = some (.int .i64 t.kind) := (blk_cell TB.out 0).trans rfl
  have k9 : (t.kind == 9) = false := HK.out.1
  have k10 : (t.kind == 10) = false := HK.out.2
  have TB2 := TB
  have N2 := N1
  have B2 := B1
  obtain ⟨w2, hw2⟩ : ∃ w2, w2 = w1 := ⟨_, rfl⟩
  rw [← hw2] at TB2 N2 B2 d0 ⊢
  clear hw2 TB N1 B1 HTB
  go_upto_region 7 with (fail)
  have e0 : w2.cell? ⟨b3, 0, none⟩ = some (.int .i64 t.kind) := (blk_cell TB2.out 0).trans rfl
  have e1 : w2.cell? ⟨b3, 1, none⟩ = some (.bool t.begun) := (blk_cell TB2.out 1).trans rfl
  obtain ⟨wv2, hb2⟩ := N2.out.blk
  have c5 : w2.cell? ⟨g, 5, none⟩ = some (.int .i64 s.begun) := (blk_cell hb2 5).trans rfl
  clear hb2
  try clear d0
  rw [HBG.out] at e1
  rw [← HE.out] at c5
  refine ListedB.wp_region_listed (G := []) (by kernel_rfl) (by kernel_rfl) ?_
  go_wp2_with (fail)
  refine ListedB.fin_intro (by kernel_rfl) ?_
  obtain ⟨wv3, hb3⟩ := (N2.out.below (Below.refl w2.heap.size w2).drew).blk
  have f4 : w2.cell? ⟨g, 4, none⟩ = some (.int .i64 s.may) := (blk_cell hb3 4).trans rfl
  have zf5 : w2.frozen? ⟨g, 5, none⟩ = false := blk_frozen hb3 5
  clear hb3 e0 e1
  rw [HMY.out] at f4
  go_upto_region 11 with (fail)
  generalize hwC : World.drew (World.setCell _ ⟨g, 5, none⟩ _) = wC
  have NC : Aside0 (Nx w0 wC g { s with begun := 0 } lvv) := ⟨by subst hwC; exact (N2.out.set5 0).below (Below.refl _ _).drew⟩
  have BC : Aside0 (Below w0.heap.size W wC) := ⟨by subst hwC; exact ((B2.out.mono (Nat.le_trans H.out.ge (Nat.le_of_lt H.out.lt))).setCell (p := ⟨g, 5, none⟩) H.out.ge _).drew⟩
  have KC : Aside0 (KeepN g W wC) := ⟨by subst hwC; exact ((KeepN.of_below B2.out).trans (KeepN.set_ _ _ _)).trans (KeepN.of_below (Below.refl _ _).drew)⟩
  have TBC : Aside0 (wC.heap[b3]? = some (.cells (tokCells t) 39 (0, 0))) := ⟨by subst hwC; exact blk_far TB2.out (p := ⟨g, 5, none⟩) L3.out _⟩
  clear hwC f4 zf5 c5 TB2 N2 B2
  have hr := NC.out.row
  have hl := HL.out.1
  have hk0 := HL.out.2
  simp only at hr
  rw [hl] at hr
  obtain ⟨gl, cap, he2, hgl, cur, hcur, hcap⟩ := own_pos hr
  subst he2
  have hlen : s.lv.length = k + 1 := by rw [hl]; simp [hk0]
  have NC2 := NC.out
  rw [show (pre ++ [x]).length = k + 1 by simp [hk0]] at NC2 hr
  have NC := Aside0.mk NC2
  have hkn : k < 90001 := by have h1 := H.out.len; have h2 := HN.out; rw [hl] at h1; simp at h1; omega
  obtain ⟨c3, _⟩ := lvAt_of NC.out (show ({ s with begun := 0 } : NS).lv = pre ++ [x] from hl) hk0
  obtain ⟨n, hnn⟩ : ∃ n, n = k + 1 := ⟨_, rfl⟩
  rw [← hnn] at c3
  have HNN := Aside0.mk hnn
  have n1 : wrap64 ((n : Int) - 1) = (k : Int) := by unfold wrap64; omega
  have n2 : (0 : Int) ≤ (k : Int) := by omega
  have n3 : (k : Int) < (n : Int) := by omega
  have n4 : (k < n) = True := eq_true (by omega)
  have n5 : (n : Int) - 1 = (k : Int) := by omega
  have n6 : IntKind.i64.wrap (k : Int) = (k : Int) := IntWalk.i64_in _ (by omega)
  have x5 : wC.cell? ⟨gl, k * 6 + 5, none⟩ = some (.string x.nm) := (lv_top hr hk0).2.2.2.2.2
  have zl : wC.frozen? ⟨gl, k * 6 + 5, none⟩ = false := blk_frozen hcur _
  have d4 : wC.cell? ⟨b3, 4, none⟩ = some (.string t.text) := (blk_cell TBC.out 4).trans rfl
  clear hr hl hk0 hlen NC2 hkn hnn hgl hcur hcap
  refine ListedB.wp_region_listed (G := []) (by kernel_rfl) (by kernel_rfl) ?_
  go_wp2_with (fail)
  refine ListedB.fin_intro (by kernel_rfl) ?_
  obtain ⟨h1, h2, h3, h4⟩ := NC.out.lvset (j := 5) (v := .string t.text) (y := { x with nm := t.text }) (show ({ s with begun := 0 } : NS).lv = pre ++ [x] from HL.out.1) HL.out.2 (by decide) rfl
  generalize hw3 : World.setCell wC ⟨gl, k * 6 + 5, none⟩ _ = w3
  rw [hw3] at h1 h2
  have B3 : Aside0 (Below w0.heap.size W w3) := ⟨by subst hw3; exact BC.out.setCell (p := ⟨gl, k * 6 + 5, none⟩) h3 _⟩
  have N3 := Aside0.mk (Nx.below h1 (Below.refl w3.heap.size w3).drew)
  have K3 := Aside0.mk ((KC.out.trans h2).trans (KeepN.of_below (Below.refl w3.heap.size w3).drew))
  clear hw3 h1 h2 h3 h4 c3 x5 zl d4
  obtain ⟨wv, hb⟩ := N3.out.blk
  have c4 := (blk_cell hb 4).trans rfl
  have z4 := blk_frozen hb 4
  clear hb
  go_wp2_with (fail)
  go_ret2
  rw [E.out]
  exact ⟨_, rfl, _, N3.out.set4 4, B3.out.drew.trans ((Below.refl _ _).setCell (p := ⟨g, 4, none⟩) H.out.ge _), K3.out.trans (KeepN.set_ _ _ _), World.ownsRow_nil _ _ _ _, fun _ => rfl⟩
set_option maxHeartbeats 16000000 in
set_option maxRecDepth 100000 in
theorem beh_value8 {w0 W : World} {g : Nat} {s : NS} {lvv : Value} (h : Nx w0 W g s lvv) (hT : LxN.Tab W) (hn : s.stk.length ≤ 90000) (hm : ∀ l ∈ s.lv, l.many ≤ 1000000) (t : Tk) (hk9 : t.kind ≠ 9) (hk10 : t.kind ≠ 10) (hb : t.begun = false) (he : t.kind = s.begun) (hm2 : s.may ≠ 2) (hm3 : s.may ≠ 3) :
    Calls Tryd.prog 73 #[.pointer (some ⟨g, 0, none⟩), .agg #[.int .i64 t.kind, .bool t.begun, .int .i64 (t.frm : Int), .int .i64 (t.to : Int), .string t.text]] W fun e w' => ∃ v, e = .returned (.tuple #[v, .int .i64 (behindV s t).2.2]) ∧ PostN w0 W g (behindV s t).1 (behindV s t).2.1 v w' := by
  have hbk : behK t = (3, true) := by unfold behK; rw [if_neg hk9, if_neg hk10]
  have HK := Aside0.mk (show (t.kind == 9) = false ∧ (t.kind == 10) = false from ⟨by simp [hk9], by simp [hk10]⟩)
  clear hk9 hk10
  obtain ⟨sv, hsv⟩ : ∃ sv, stepV s = sv := ⟨_, rfl⟩
  have E := Aside0.mk (show behindV s t = (endedV { s with begun := 0 }, [⟨2, 3, t.frm, t.to, sv, t.text⟩], 0) by unfold behindV; rw [if_neg (by rw [hbk]; simp [hb, he]), if_neg (by omega), hsv, hbk])
  have HSV := Aside0.mk hsv
  have m2 : (s.may == 2) = false := by simp; omega
  have md2 : decide (s.may = 2) = false := by simp; omega
  have m3 : (s.may == 3) = false := by simp; omega
  have md3 : decide (s.may = 3) = false := by simp; omega
  clear hsv hm2 hm3
  have HBG := Aside0.mk hb
  have HE := Aside0.mk he
  have g1 : (t.kind != s.begun) = false := by simp [he]
  clear hb hbk he
  have H := Aside0.mk h
  have HN := Aside0.mk hn
  have HMM := Aside0.mk hm
  have HT := Aside0.mk hT
  clear h hn hm hT
  go_enter Tryd.func73, Tryd.ntmps73
  go_upto_region 2 with (fail)
  generalize hw1 : World.alloc W _ = w1
  have TB : Aside0 (w1.heap[W.heap.size]? = some (.cells (tokCells t) 39 (0, 0))) := ⟨by subst hw1; exact blk_new W _⟩
  have B1 : Aside0 (Below W.heap.size W w1) := ⟨by subst hw1; exact below_alloc (Below.refl _ _) _⟩
  have N1 : Aside0 (Nx w0 w1 g s lvv) := ⟨H.out.below B1.out⟩
  have L3 : Aside0 (W.heap.size ≠ g) := ⟨fun e => by have := H.out.lt; omega⟩
  have HTB : Aside0 (LxN.Tab w1) := ⟨LxN.Tab.below HT.out B1.out HT.out.1⟩
  clear hw1
  obtain ⟨b3, hb3⟩ : ∃ b3, b3 = W.heap.size := ⟨_, rfl⟩
  rw [← hb3] at TB L3 ⊢
  clear hb3
  have d0 : w1.cell? ⟨b3, 0, none⟩ = some (.int .i64 t.kind) := (blk_cell TB.out 0).trans rfl
  have k9 : (t.kind == 9) = false := HK.out.1
  have k10 : (t.kind == 10) = false := HK.out.2
  have TB2 := TB
  have N2 := N1
  have B2 := B1
  obtain ⟨w2, hw2⟩ : ∃ w2, w2 = w1 := ⟨_, rfl⟩
  rw [← hw2] at TB2 N2 B2 d0 ⊢
  clear hw2 TB N1 B1 HTB
  go_upto_region 7 with (fail)
  have e0 : w2.cell? ⟨b3, 0, none⟩ = some (.int .i64 t.kind) := (blk_cell TB2.out 0).trans rfl
  have e1 : w2.cell? ⟨b3, 1, none⟩ = some (.bool t.begun) := (blk_cell TB2.out 1).trans rfl
  obtain ⟨wv2, hb2⟩ := N2.out.blk
  have c5 : w2.cell? ⟨g, 5, none⟩ = some (.int .i64 s.begun) := (blk_cell hb2 5).trans rfl
  clear hb2
  try clear d0
  rw [HBG.out] at e1
  rw [← HE.out] at c5
  refine ListedB.wp_region_listed (G := []) (by kernel_rfl) (by kernel_rfl) ?_
  go_wp2_with (fail)
  refine ListedB.fin_intro (by kernel_rfl) ?_
  obtain ⟨wv3, hb3⟩ := (N2.out.below (Below.refl w2.heap.size w2).drew).blk
  have f4 : w2.cell? ⟨g, 4, none⟩ = some (.int .i64 s.may) := (blk_cell hb3 4).trans rfl
  have zf5 : w2.frozen? ⟨g, 5, none⟩ = false := blk_frozen hb3 5
  clear hb3 e0 e1
  go_upto_region 14 with (fail)
  generalize hwC : World.drew (World.setCell _ ⟨g, 5, none⟩ _) = wC
  have ND : Aside0 (Nx w0 wC.drew g { s with begun := 0 } lvv) := ⟨by subst hwC; exact ((N2.out.set5 0).below (Below.refl _ _).drew).below (Below.refl _ _).drew⟩
  have BD : Aside0 (Below w0.heap.size W wC.drew) := ⟨by subst hwC; exact ((B2.out.mono (Nat.le_trans H.out.ge (Nat.le_of_lt H.out.lt))).setCell (p := ⟨g, 5, none⟩) H.out.ge _).drew.drew⟩
  have KD : Aside0 (KeepN g W wC.drew) := ⟨by subst hwC; exact (((KeepN.of_below B2.out).trans (KeepN.set_ _ _ _)).trans (KeepN.of_below (Below.refl _ _).drew)).trans (KeepN.of_below (Below.refl _ _).drew)⟩
  have TB : Aside0 (wC.drew.heap[b3]? = some (.cells (tokCells t) 39 (0, 0))) := ⟨by subst hwC; exact blk_far TB2.out (p := ⟨g, 5, none⟩) L3.out _⟩
  have TF : Aside0 (wC.drew.cell? ⟨b3, 2, none⟩ = some (.int .i64 (t.frm : Int)) ∧ wC.drew.cell? ⟨b3, 3, none⟩ = some (.int .i64 (t.to : Int)) ∧ wC.drew.cell? ⟨b3, 4, none⟩ = some (.string t.text)) := ⟨(blk_cell TB.out 2).trans rfl, (blk_cell TB.out 3).trans rfl, (blk_cell TB.out 4).trans rfl⟩
  have TFB : Aside0 (∀ w, Below wC.drew.heap.size wC.drew w → w.cell? ⟨b3, 2, none⟩ = some (.int .i64 (t.frm : Int)) ∧ w.cell? ⟨b3, 3, none⟩ = some (.int .i64 (t.to : Int)) ∧ w.cell? ⟨b3, 4, none⟩ = some (.string t.text)) := ⟨fun w hb => ⟨pw_cell_below hb TF.out.1, pw_cell_below hb TF.out.2.1, pw_cell_below hb TF.out.2.2⟩⟩
  have HSTEP : Aside0 (∀ w, Below wC.drew.heap.size wC.drew w → Calls Tryd.prog 110 #[.pointer (some ⟨g, 0, none⟩)] w fun e w' => e = .returned (.agg #[.bool sv.named, .string sv.name, .int .i64 (sv.idx : Int)]) ∧ Below w.heap.size w w') := ⟨fun w hb => by
    have := step_calls (ND.out.below hb) (by have := HN.out; simp only; omega)
    rw [show stepV { s with begun := 0 } = sv from HSV.out] at this
    exact this⟩
  clear hwC f4 zf5 c5 TB2 N2 B2
  refine start_ (n := 12) (S := fun w' => w'.cell? ⟨b3, 2, none⟩ = some (.int .i64 (t.frm : Int)) ∧ w'.cell? ⟨b3, 3, none⟩ = some (.int .i64 (t.to : Int)) ∧ w'.cell? ⟨b3, 4, none⟩ = some (.string t.text)) (ds := [11]) #[false, false, false, false, false, false, false, false, false, false, false, false] (by kernel_rfl) rfl rfl ⟨TF.out.1, TF.out.2.1, TF.out.2.2⟩ (fun hHeld => ?_)
  generalize hwd_ : wC.drew = wE at TF TFB HSTEP ND TB BD KD hHeld ⊢
  clear hwd_
  refine pure_ (i := 0) (N := some 72) (v := ?_) (a' := ?_) #[true, false, false, false, false, false, false, false, false, false, false, false] rfl rfl (by kernel_rfl) (fun _ _ _ h => h) (Or.inl ⟨by rfl, ?_⟩) ?_ ?_
  rotate_left
  · intro w'
    go_simp
    with_reducible rfl
  rotate_left
  · simp only [Act.put, List.setIfInBounds_toArray, List.set_cons_zero, List.set_cons_succ, i64_w, i32_w]
    rfl
  refine pure_ (i := 1) (N := some 73) (v := ?_) (a' := ?_) #[true, true, false, false, false, false, false, false, false, false, false, false] rfl rfl (by kernel_rfl) (fun _ _ _ h => h) (Or.inl ⟨by rfl, ?_⟩) ?_ ?_
  rotate_left
  · intro w'
    go_simp
    with_reducible rfl
  rotate_left
  · simp only [Act.put, List.setIfInBounds_toArray, List.set_cons_zero, List.set_cons_succ, i64_w, i32_w]
    rfl
  refine pure_ (i := 3) (N := some 75) (v := ?_) (a' := ?_) #[true, true, false, true, false, false, false, false, false, false, false, false] rfl rfl (by kernel_rfl) (fun _ _ _ h => h) (Or.inl ⟨by rfl, ?_⟩) ?_ ?_
  rotate_left
  · intro w'
    go_simp
    with_reducible rfl
  rotate_left
  · simp only [Act.put, List.setIfInBounds_toArray, List.set_cons_zero, List.set_cons_succ, i64_w, i32_w]
    rfl
  refine pure_ (i := 5) (N := some 77) (v := ?_) (a' := ?_) #[true, true, false, true, false, true, false, false, false, false, false, false] rfl rfl (by kernel_rfl) (fun _ _ _ h => h) (Or.inl ⟨by rfl, ?_⟩) ?_ ?_
  rotate_left
  · intro w'
    go_simp
    with_reducible rfl
  rotate_left
  · simp only [Act.put, List.setIfInBounds_toArray, List.set_cons_zero, List.set_cons_succ, i64_w, i32_w]
    rfl
  refine pure_ (i := 7) (N := some 79) (v := ?_) (a' := ?_) #[true, true, false, true, false, true, false, true, false, false, false, false] rfl rfl (by kernel_rfl) (fun _ _ _ h => h) (Or.inl ⟨by rfl, ?_⟩) ?_ ?_
  rotate_left
  · intro w'
    go_simp
    with_reducible rfl
  rotate_left
  · simp only [Act.put, List.setIfInBounds_toArray, List.set_cons_zero, List.set_cons_succ, i64_w, i32_w]
    rfl
  refine take_ (i := 2) (N := some 74) (v := ?_) (a' := ?_) #[true, true, true, true, false, true, false, true, false, false, false, false] rfl rfl (by kernel_rfl) (fun _ _ _ h => h) (Or.inl ⟨by rfl, ?_⟩) hHeld ?_ ?_
  rotate_left
  · rintro w' ⟨s0, s1, s2⟩
    go_simp
    with_reducible rfl
  rotate_left
  · simp only [Act.put, List.setIfInBounds_toArray, List.set_cons_zero, List.set_cons_succ, i64_w, i32_w]
    rfl
  refine take_ (i := 4) (N := some 76) (v := ?_) (a' := ?_) #[true, true, true, true, true, true, false, true, false, false, false, false] rfl rfl (by kernel_rfl) (fun _ _ _ h => h) (Or.inl ⟨by rfl, ?_⟩) hHeld ?_ ?_
  rotate_left
  · rintro w' ⟨s0, s1, s2⟩
    go_simp
    with_reducible rfl
  rotate_left
  · simp only [Act.put, List.setIfInBounds_toArray, List.set_cons_zero, List.set_cons_succ, i64_w, i32_w]
    rfl
  refine take_ (i := 8) (N := some 80) (v := ?_) (a' := ?_) #[true, true, true, true, true, true, false, true, true, false, false, false] rfl rfl (by kernel_rfl) (fun _ _ _ h => h) (Or.inl ⟨by rfl, ?_⟩) hHeld ?_ ?_
  rotate_left
  · rintro w' ⟨s0, s1, s2⟩
    go_simp
    with_reducible rfl
  rotate_left
  · simp only [Act.put, List.setIfInBounds_toArray, List.set_cons_zero, List.set_cons_succ, i64_w, i32_w]
    rfl
  refine join_ (σ := Nat) 1 #[true, true, true, true, true, true, true, true, true, true, true, false] (fun b => [(8, .pointer (some ⟨b, 0, none⟩)), (78, .agg #[.bool sv.named, .string sv.name, .int .i64 (sv.idx : Int)]), (81, .agg #[.int .i64 2, .int .i64 3, .int .i64 (t.frm : Int), .int .i64 (t.to : Int), .bool sv.named, .string sv.name, .int .i64 (sv.idx : Int), .string t.text])]) (fun b w' => w'.heap[b]? = some (.cells (evCells ev0).toArray 62 (0, 0)) ∧ Below wE.heap.size wE w' ∧ wE.heap.size ≤ b) ?_ ?_
  rotate_left
  · intro hCont
    refine two_ (i := 6) (j := 10) (Ni := some 78) (Nj := some 8) #[true, true, true, true, true, true, true, true, true, false, false, false] #[true, true, true, true, true, true, false, true, true, false, true, false] rfl rfl rfl rfl (by kernel_rfl) (by decide) (by decide) (fun K hK => ?_) (fun K hK => ?_)
    · skip
      refine goes_ Tryd.func110 (by kernel_rfl) rfl #[.pointer (some ⟨g, 0, none⟩)] (by rfl) rfl rfl (by simp only [List.map_toArray, List.map_cons, List.map_nil]; rfl) ?_
      with_reducible refine (HSTEP.out _ (Below.refl _ _)).mono ?_
      rintro e w5 ⟨rfl, hb⟩
      refine ⟨_, rfl, ?_⟩
      have B5 := Aside0.mk hb
      clear hb
      have FF5 := Aside0.mk (TFB.out _ B5.out)
      refine hK.out _ _ ⟨FF5.out.1, FF5.out.2.1, FF5.out.2.2⟩ (fun hHeld => ?_)
      clear hK K
      refine norm_ (a' := ?_) ?_ ?_
      rotate_left
      · show Act.put _ (some 78) _ = _
        simp only [Act.put, List.setIfInBounds_toArray, List.set_cons_zero, List.set_cons_succ, i64_w, i32_w]
        rfl
      refine pure_ (i := 9) (N := some 81) (v := ?_) (a' := ?_) #[true, true, true, true, true, true, true, true, true, true, false, false] rfl rfl (by kernel_rfl) (fun _ _ _ h => h) (Or.inl ⟨by rfl, ?_⟩) ?_ ?_
      rotate_left
      · intro w'
        go_simp
        with_reducible rfl
      rotate_left
      · simp only [Act.put, List.setIfInBounds_toArray, List.set_cons_zero, List.set_cons_succ, i64_w, i32_w]
        rfl
      refine one_ (i := 10) (N := some 8) #[true, true, true, true, true, true, true, true, true, true, true, false] rfl rfl (by kernel_rfl) (by decide) (fun K hK => ?_)
      refine value_ (w1 := ?_) (v := ?_) (by rfl) rfl ?_ ?_
      rotate_left 2
      · go_simp
        constructor
        · rfl
        · rfl
      generalize hg5 : World.alloc w5 _ = w6
      have EB6 : Aside0 (w6.heap[w5.heap.size]? = some (.cells (evCells ev0).toArray 62 (0, 0))) := ⟨by subst hg5; exact blk_new _ _⟩
      have B6 : Aside0 (Below wE.heap.size wE w6) := ⟨by subst hg5; exact B5.out.trans ((below_alloc (Below.refl _ _) _).mono B5.out.size)⟩
      clear hg5
      have FF6 := Aside0.mk (TFB.out _ B6.out)
      refine hK.out _ _ ⟨FF6.out.1, FF6.out.2.1, FF6.out.2.2⟩ (fun hHeld => ?_)
      clear hK K
      refine norm_ (a' := ?_) ?_ ?_
      rotate_left
      · show Act.put _ (some 8) _ = _
        simp only [Act.put, List.setIfInBounds_toArray, List.set_cons_zero, List.set_cons_succ, i64_w, i32_w]
        rfl
      exact norm_ (by simp only [putAll, Act.put, List.setIfInBounds_toArray, List.set_cons_zero, List.set_cons_succ]) (hCont w5.heap.size _ ⟨EB6.out, B6.out, B5.out.size⟩)
    · skip
      refine value_ (w1 := ?_) (v := ?_) (by rfl) rfl ?_ ?_
      rotate_left 2
      · go_simp
        constructor
        · rfl
        · rfl
      generalize hg5 : World.alloc wE _ = w5
      have EB : Aside0 (w5.heap[wE.heap.size]? = some (.cells (evCells ev0).toArray 62 (0, 0))) := ⟨by subst hg5; exact blk_new _ _⟩
      have B5 : Aside0 (Below wE.heap.size wE w5) := ⟨by subst hg5; exact below_alloc (Below.refl _ _) _⟩
      clear hg5
      have FF5 := Aside0.mk (TFB.out _ B5.out)
      refine hK.out _ _ ⟨FF5.out.1, FF5.out.2.1, FF5.out.2.2⟩ (fun hHeld => ?_)
      clear hK K
      refine norm_ (a' := ?_) ?_ ?_
      rotate_left
      · show Act.put _ (some 8) _ = _
        simp only [Act.put, List.setIfInBounds_toArray, List.set_cons_zero, List.set_cons_succ, i64_w, i32_w]
        rfl
      refine one_ (i := 6) (N := some 78) #[true, true, true, true, true, true, true, true, true, false, true, false] rfl rfl (by kernel_rfl) (by decide) (fun K hK => ?_)
      refine goes_ Tryd.func110 (by kernel_rfl) rfl #[.pointer (some ⟨g, 0, none⟩)] (by rfl) rfl rfl (by simp only [List.map_toArray, List.map_cons, List.map_nil]; rfl) ?_
      with_reducible refine (HSTEP.out _ B5.out).mono ?_
      rintro e w6 ⟨rfl, hb⟩
      refine ⟨_, rfl, ?_⟩
      have B6 := Aside0.mk (B5.out.trans (hb.mono B5.out.size))
      have EB6 := Aside0.mk (blk_below EB.out hb)
      clear hb
      have FF6 := Aside0.mk (TFB.out _ B6.out)
      refine hK.out _ _ ⟨FF6.out.1, FF6.out.2.1, FF6.out.2.2⟩ (fun hHeld => ?_)
      clear hK K
      refine norm_ (a' := ?_) ?_ ?_
      rotate_left
      · show Act.put _ (some 78) _ = _
        simp only [Act.put, List.setIfInBounds_toArray, List.set_cons_zero, List.set_cons_succ, i64_w, i32_w]
        rfl
      refine pure_ (i := 9) (N := some 81) (v := ?_) (a' := ?_) #[true, true, true, true, true, true, true, true, true, true, true, false] rfl rfl (by kernel_rfl) (fun _ _ _ h => h) (Or.inl ⟨by rfl, ?_⟩) ?_ ?_
      rotate_left
      · intro w'
        go_simp
        with_reducible rfl
      rotate_left
      · simp only [Act.put, List.setIfInBounds_toArray, List.set_cons_zero, List.set_cons_succ, i64_w, i32_w]
        rfl
      exact norm_ (by simp only [putAll, Act.put, List.setIfInBounds_toArray, List.set_cons_zero, List.set_cons_succ]) (hCont wE.heap.size _ ⟨EB6.out, B6.out, Nat.le_refl _⟩)
  rintro b w7 ⟨hEB, hB7, hb7⟩
  have EB7 := Aside0.mk hEB
  have B7 := Aside0.mk hB7
  have LB7 := Aside0.mk hb7
  have hHeld := TFB.out _ B7.out
  clear hEB hB7 hb7
  refine norm_ (a' := ?_) ?_ ?_
  rotate_left
  · simp only [putAll, Act.put, List.setIfInBounds_toArray, List.set_cons_zero, List.set_cons_succ]
    rfl
  refine last_ (i := 11) (N := none) #[true, true, true, true, true, true, true, true, true, true, true, true] rfl rfl (by kernel_rfl) (by decide) (fun K hK => ?_)
  obtain ⟨x0, x1, x2, x3, x4, x5, x6, x7⟩ := ev_cells EB7.out
  have z0 := blk_frozen EB7.out 0
  have z1 := blk_frozen EB7.out 1
  have z2 := blk_frozen EB7.out 2
  have z3 := blk_frozen EB7.out 3
  have z4 := blk_frozen EB7.out 4
  have z5 := blk_frozen EB7.out 5
  have z6 := blk_frozen EB7.out 6
  have z7 := blk_frozen EB7.out 7
  refine skip_ (w1 := ?_) (by rfl) rfl ?_ ?_
  rotate_left
  · go_simp
    rfl
  refine hK.out _ _ ?_
  clear hK K
  refine done_ (by kernel_rfl) ?_
  generalize hw8 : World.setCell _ ⟨b, 7, none⟩ _ = w8
  have hw8 : evPut w7 b ⟨2, 3, t.frm, t.to, sv, t.text⟩ = w8 := hw8
  have EB8 := Aside0.mk (hw8 ▸ ev_put EB7.out ⟨2, 3, t.frm, t.to, sv, t.text⟩)
  have BE : Aside0 (Below wE.heap.size wE w8) := ⟨hw8 ▸ B7.out.trans (ev_below w7 _ b LB7.out ⟨2, 3, t.frm, t.to, sv, t.text⟩)⟩
  have N8 := Aside0.mk (ND.out.below BE.out)
  have BW8 : Aside0 (Below w0.heap.size W w8) := ⟨BD.out.trans (BE.out.mono (Nat.le_trans ND.out.ge (Nat.le_of_lt ND.out.lt)))⟩
  have K8 := Aside0.mk (KD.out.trans (KeepN.of_below BE.out))
  have NBG : Aside0 (b ≠ g) := ⟨fun e => by have := ND.out.lt; have := LB7.out; omega⟩
  clear hw8 x0 x1 x2 x3 x4 x5 x6 x7 z0 z1 z2 z3 z4 z5 z6 z7 TF TFB HSTEP ND TB BD KD EB7 B7 BE
  have HEN := Aside0.mk (ended_calls N8.out (by have := HN.out; simp only; omega) HMM.out)
  go_wp2_with (fail)
  go_at_call 111
  refine HEN.out.mono ?_
  rintro e wB ⟨rfl, h1, h2, h3, h4⟩
  have NB := Aside0.mk h1
  have EBB := Aside0.mk (blk_nest EB8.out h3 NBG.out (by decide) (by decide))
  have KB := Aside0.mk (K8.out.trans h3)
  have BB := Aside0.mk (BW8.out.trans h2)
  clear h1 h2 h3 h4 HEN K8 BW8 EB8 N8
  obtain ⟨v0, v1, v2, v3, v4, v5, v6, v7⟩ := ev_cells EBB.out
  go_wp2_with (fail)
  go_ret2
  rw [E.out]
  exact ⟨_, rfl, _, NB.out.below (below_alloc (Below.refl _ _) _), BB.out.trans ((below_alloc (Below.refl _ _) _).mono (Nat.le_trans NB.out.ge (Nat.le_of_lt NB.out.lt))), KB.out.trans (KeepN.of_below (below_alloc (Below.refl _ _) _)), rowE wB _ ⟨2, 3, t.frm, t.to, sv, t.text⟩ KB.out.1 _ _ rfl rfl, fun h => by simp at h⟩
set_option maxHeartbeats 16000000 in
set_option maxRecDepth 100000 in
theorem beh_calls {w0 W : World} {g : Nat} {s : NS} {lvv : Value} (h : Nx w0 W g s lvv) (hT : LxN.Tab W) (hn : s.stk.length ≤ 90000) (hm : ∀ l ∈ s.lv, l.many ≤ 1000000) (t : Tk) (hi : s.may = 2 ∨ s.may = 3 → s.stk ≠ []) :
    Calls Tryd.prog 73 #[.pointer (some ⟨g, 0, none⟩), .agg #[.int .i64 t.kind, .bool t.begun, .int .i64 (t.frm : Int), .int .i64 (t.to : Int), .string t.text]] W fun e w' => ∃ v, e = .returned (.tuple #[v, .int .i64 (behindV s t).2.2]) ∧ PostN w0 W g (behindV s t).1 (behindV s t).2.1 v w' := by
  by_cases h9 : t.kind = 9
  · skip
    by_cases hb : t.begun = true
    · exact beh_begun9 h hT hn hm t h9 hb
    have hb : t.begun = false := by simpa using hb
    by_cases he : t.kind = s.begun
    · skip
      by_cases h2 : s.may = 2
      · exact beh_name9_2 h hT hn hm t h9 hb he h2 (hi (.inl h2))
      by_cases h3 : s.may = 3
      · exact beh_name9_3 h hT hn hm t h9 hb he h3 (hi (.inr h3))
      exact beh_value9 h hT hn hm t h9 hb he h2 h3
    exact beh_other9 h hT hn hm t h9 hb he
  by_cases h10 : t.kind = 10
  · skip
    by_cases hb : t.begun = true
    · exact beh_begun10 h hT hn hm t h10 hb
    have hb : t.begun = false := by simpa using hb
    by_cases he : t.kind = s.begun
    · skip
      by_cases hf : (kindL t.text).2 = true
      · skip
        by_cases h2 : s.may = 2
        · exact beh_name10_2 h hT hn hm t h10 hb he hf h2 (hi (.inl h2))
        by_cases h3 : s.may = 3
        · exact beh_name10_3 h hT hn hm t h10 hb he hf h3 (hi (.inr h3))
        exact beh_value10 h hT hn hm t h10 hb he hf h2 h3
      exact beh_fine10 h hT hn hm t h10 hb he (by simpa using hf)
    exact beh_other10 h hT hn hm t h10 hb he
  by_cases hb : t.begun = true
  · exact beh_begun8 h hT hn hm t h9 h10 hb
  have hb : t.begun = false := by simpa using hb
  by_cases he : t.kind = s.begun
  · skip
    by_cases h2 : s.may = 2
    · exact beh_name8_2 h hT hn hm t h9 h10 hb he h2 (hi (.inl h2))
    by_cases h3 : s.may = 3
    · exact beh_name8_3 h hT hn hm t h9 h10 hb he h3 (hi (.inr h3))
    exact beh_value8 h hT hn hm t h9 h10 hb he h2 h3
  exact beh_other8 h hT hn hm t h9 h10 hb he
end Go.Proofs.YtlhpflicchchlaaDoor.Nx
