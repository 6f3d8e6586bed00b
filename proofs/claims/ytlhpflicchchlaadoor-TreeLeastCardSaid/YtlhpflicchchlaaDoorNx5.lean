/- literal.Kind and nest.Nest.begin, walked. Conditions: none. -/
import Derived.Test.YtlhpflicchchlaaDoorNx4
namespace Go.Proofs.YtlhpflicchchlaaDoor.Nx
open Go.RowKit Go.Proofs.YtlhpflicchchlaaDoorW.PrintWords Go.Proofs.YtlhpflicchchlaaDoorW.PrintLast Go.Proofs.YtlhpflicchchlaaDoorW.PrintMore
attribute [local go_sem] max2_int min2_int max_two min_two max_three min_three max_four min_four
open Go.Proofs.YtlhpflicchchlaaDoor.LexPure Go.Proofs.YtlhpflicchchlaaDoor.BitsW
set_option linter.unusedVariables false
set_option linter.unusedSimpArgs false
def kindL (s : ByteArray) : Int × Bool :=
  if s.toList = ([110, 117, 108, 108] : List UInt8) then (0, true) else if s.toList = ([116, 114, 117, 101] : List UInt8) then (1, true) else if s.toList = ([102, 97, 108, 115, 101] : List UInt8) then (1, true) else (0, false)
theorem kindL_calls (a0 : ByteArray) (w : World) (hT : LxN.Tab w) : Calls Tryd.prog 109 #[.string a0] w fun e w' => e = .returned (.tuple #[.int .i64 (kindL a0).1, .bool (kindL a0).2]) ∧ Below w.heap.size w w' := by
  obtain ⟨_, t0, t1, t2⟩ := hT
  simp only [LxN.word] at t0 t1 t2
  have HB := Aside0.mk (Below.refl w.heap.size w)
  unfold kindL
  by_cases c2 : a0.toList = ([110, 117, 108, 108] : List UInt8)
  · rw [if_pos c2]
    have c2b0 : (a0.toList == ([110, 117, 108, 108] : List UInt8)) = true := beq_iff_eq.mpr c2
    have c2b1 : (a0.toList != ([110, 117, 108, 108] : List UInt8)) = false := bne_eq_false_iff_eq.mpr c2
    clear c2
    go_enter Tryd.func109, Tryd.ntmps109
    go_wp2_with fail
    go_ret2
    exact ⟨rfl, HB.out⟩
  rw [if_neg c2]
  have c2b0 : (a0.toList == ([110, 117, 108, 108] : List UInt8)) = false := beq_eq_false_iff_ne.mpr c2
  have c2b1 : (a0.toList != ([110, 117, 108, 108] : List UInt8)) = true := bne_iff_ne.mpr c2
  by_cases c3 : a0.toList = ([116, 114, 117, 101] : List UInt8)
  · rw [if_pos c3]
    have c3b0 : (a0.toList == ([116, 114, 117, 101] : List UInt8)) = true := beq_iff_eq.mpr c3
    have c3b1 : (a0.toList != ([116, 114, 117, 101] : List UInt8)) = false := bne_eq_false_iff_eq.mpr c3
    clear c3
    go_enter Tryd.func109, Tryd.ntmps109
    go_wp2_with fail
    go_ret2
    exact ⟨rfl, HB.out⟩
  rw [if_neg c3]
  have c3b0 : (a0.toList == ([116, 114, 117, 101] : List UInt8)) = false := beq_eq_false_iff_ne.mpr c3
  have c3b1 : (a0.toList != ([116, 114, 117, 101] : List UInt8)) = true := bne_iff_ne.mpr c3
  by_cases c4 : a0.toList = ([102, 97, 108, 115, 101] : List UInt8)
  · rw [if_pos c4]
    have c4b0 : (a0.toList == ([102, 97, 108, 115, 101] : List UInt8)) = true := beq_iff_eq.mpr c4
    have c4b1 : (a0.toList != ([102, 97, 108, 115, 101] : List UInt8)) = false := bne_eq_false_iff_eq.mpr c4
    clear c4
    go_enter Tryd.func109, Tryd.ntmps109
    go_wp2_with fail
    go_ret2
    exact ⟨rfl, HB.out⟩
  rw [if_neg c4]
  have c4b0 : (a0.toList == ([102, 97, 108, 115, 101] : List UInt8)) = false := beq_eq_false_iff_ne.mpr c4
  have c4b1 : (a0.toList != ([102, 97, 108, 115, 101] : List UInt8)) = true := bne_iff_ne.mpr c4
  go_enter Tryd.func109, Tryd.ntmps109
  go_wp2_with fail
  go_ret2
  exact ⟨rfl, HB.out⟩
def tbeginV (s : NS) (t : Tk) (valued : Bool) : NS × List Ev × Int :=
  if t.kind = 8 ∧ (s.may = 2 ∨ s.may = 3) then ({ s with begun := 8 }, [], 0)
  else if valued = false ∨ t.kind < 8 ∨ t.kind > 10 then badV s 8
  else ({ s with begun := t.kind }, [⟨1, (if t.kind = 8 then 3 else if t.kind = 9 then 2 else 0), t.frm, 0, stepV s, ⟨#[]⟩⟩], 0)
set_option maxHeartbeats 16000000 in
set_option maxRecDepth 100000 in
theorem begin_name2 {w0 W : World} {g : Nat} {s : NS} {lvv : Value} (h : Nx w0 W g s lvv) (hn : s.stk.length ≤ 90000) (t : Tk) (valued : Bool) (hk : t.kind = 8) (hm : s.may = 2) :
    Calls Tryd.prog 76 #[.pointer (some ⟨g, 0, none⟩), .agg #[.int .i64 t.kind, .bool t.begun, .int .i64 (t.frm : Int), .int .i64 (t.to : Int), .string t.text], .bool valued] W fun e w' => ∃ v, e = .returned (.tuple #[v, .int .i64 (tbeginV s t valued).2.2]) ∧ PostN w0 W g (tbeginV s t valued).1 (tbeginV s t valued).2.1 v w' := by
  have E := Aside0.mk (show tbeginV s t valued = ({ s with begun := 8 }, [], 0) by unfold tbeginV; rw [if_pos ⟨hk, by omega⟩])
  have HK := Aside0.mk hk
  have HM := Aside0.mk hm
  clear hk hm
  have H := Aside0.mk h
  go_enter Tryd.func76, Tryd.ntmps76
  go_upto_region 2 with (fail)
  generalize hw1 : World.alloc W _ = w1
  have TB : Aside0 (w1.heap[W.heap.size]? = some (.cells (tokCells t) 39 (0, 0))) := ⟨by subst hw1; exact blk_new W _⟩
  have B1 : Aside0 (Below W.heap.size W w1) := ⟨by subst hw1; exact below_alloc (Below.refl _ _) _⟩
  have N1 : Aside0 (Nx w0 w1 g s lvv) := ⟨H.out.below B1.out⟩
  have L3 : Aside0 (W.heap.size ≠ g) := ⟨fun e => by have := H.out.lt; omega⟩
  clear hw1
  obtain ⟨b3, hb3⟩ : ∃ b3, b3 = W.heap.size := ⟨_, rfl⟩
  rw [← hb3] at TB L3 ⊢
  clear hb3
  have d0 : w1.cell? ⟨b3, 0, none⟩ = some (.int .i64 t.kind) := (blk_cell TB.out 0).trans rfl
  obtain ⟨wv1, hb1⟩ := N1.out.blk
  have c4 : w1.cell? ⟨g, 4, none⟩ = some (.int .i64 s.may) := (blk_cell hb1 4).trans rfl
  have c5 : w1.cell? ⟨g, 5, none⟩ = some (.int .i64 s.begun) := (blk_cell hb1 5).trans rfl
  have z5 := blk_frozen hb1 5
  clear hb1
  rw [HM.out] at c4
  rw [HK.out] at d0
  clear h hn
  go_wp2_with (fail)
  go_ret2
  rw [E.out]
  exact ⟨_, rfl, lvv, N1.out.set5 8, (B1.out.mono (Nat.le_trans H.out.ge (Nat.le_of_lt H.out.lt))).trans ((Below.refl _ _).setCell (p := ⟨g, 5, none⟩) H.out.ge _), (KeepN.of_below B1.out).trans (KeepN.set_ _ _ _), World.ownsRow_nil _ _ _ _, fun _ => rfl⟩
set_option maxHeartbeats 16000000 in
set_option maxRecDepth 100000 in
theorem begin_name3 {w0 W : World} {g : Nat} {s : NS} {lvv : Value} (h : Nx w0 W g s lvv) (hn : s.stk.length ≤ 90000) (t : Tk) (valued : Bool) (hk : t.kind = 8) (hm : s.may = 3) :
    Calls Tryd.prog 76 #[.pointer (some ⟨g, 0, none⟩), .agg #[.int .i64 t.kind, .bool t.begun, .int .i64 (t.frm : Int), .int .i64 (t.to : Int), .string t.text], .bool valued] W fun e w' => ∃ v, e = .returned (.tuple #[v, .int .i64 (tbeginV s t valued).2.2]) ∧ PostN w0 W g (tbeginV s t valued).1 (tbeginV s t valued).2.1 v w' := by
  have E := Aside0.mk (show tbeginV s t valued = ({ s with begun := 8 }, [], 0) by unfold tbeginV; rw [if_pos ⟨hk, by omega⟩])
  have HK := Aside0.mk hk
  have HM := Aside0.mk hm
  clear hk hm
  have H := Aside0.mk h
  go_enter Tryd.func76, Tryd.ntmps76
  go_upto_region 2 with (fail)
  generalize hw1 : World.alloc W _ = w1
  have TB : Aside0 (w1.heap[W.heap.size]? = some (.cells (tokCells t) 39 (0, 0))) := ⟨by subst hw1; exact blk_new W _⟩
  have B1 : Aside0 (Below W.heap.size W w1) := ⟨by subst hw1; exact below_alloc (Below.refl _ _) _⟩
  have N1 : Aside0 (Nx w0 w1 g s lvv) := ⟨H.out.below B1.out⟩
  have L3 : Aside0 (W.heap.size ≠ g) := ⟨fun e => by have := H.out.lt; omega⟩
  clear hw1
  obtain ⟨b3, hb3⟩ : ∃ b3, b3 = W.heap.size := ⟨_, rfl⟩
  rw [← hb3] at TB L3 ⊢
  clear hb3
  have d0 : w1.cell? ⟨b3, 0, none⟩ = some (.int .i64 t.kind) := (blk_cell TB.out 0).trans rfl
  obtain ⟨wv1, hb1⟩ := N1.out.blk
  have c4 : w1.cell? ⟨g, 4, none⟩ = some (.int .i64 s.may) := (blk_cell hb1 4).trans rfl
  have c5 : w1.cell? ⟨g, 5, none⟩ = some (.int .i64 s.begun) := (blk_cell hb1 5).trans rfl
  have z5 := blk_frozen hb1 5
  clear hb1
  rw [HM.out] at c4
  rw [HK.out] at d0
  clear h hn
  go_wp2_with (fail)
  go_ret2
  rw [E.out]
  exact ⟨_, rfl, lvv, N1.out.set5 8, (B1.out.mono (Nat.le_trans H.out.ge (Nat.le_of_lt H.out.lt))).trans ((Below.refl _ _).setCell (p := ⟨g, 5, none⟩) H.out.ge _), (KeepN.of_below B1.out).trans (KeepN.set_ _ _ _), World.ownsRow_nil _ _ _ _, fun _ => rfl⟩
set_option maxHeartbeats 16000000 in
set_option maxRecDepth 100000 in
theorem begin_bad8 {w0 W : World} {g : Nat} {s : NS} {lvv : Value} (h : Nx w0 W g s lvv) (hn : s.stk.length ≤ 90000) (t : Tk) (valued : Bool) (hk : t.kind = 8) (hm2 : s.may ≠ 2) (hm3 : s.may ≠ 3) (hv : valued = false) :
    Calls Tryd.prog 76 #[.pointer (some ⟨g, 0, none⟩), .agg #[.int .i64 t.kind, .bool t.begun, .int .i64 (t.frm : Int), .int .i64 (t.to : Int), .string t.text], .bool valued] W fun e w' => ∃ v, e = .returned (.tuple #[v, .int .i64 (tbeginV s t valued).2.2]) ∧ PostN w0 W g (tbeginV s t valued).1 (tbeginV s t valued).2.1 v w' := by
  have E := Aside0.mk (show tbeginV s t valued = badV s 8 by unfold tbeginV; rw [if_neg (by omega), if_pos (by exact .inl hv)])
  have m2 : (s.may == 2) = false := by simp; omega
  have md2 : decide (s.may = 2) = false := by simp; omega
  have m3 : (s.may == 3) = false := by simp; omega
  have md3 : decide (s.may = 3) = false := by simp; omega
  have HK := Aside0.mk hk
  subst hv
  clear hk hm2 hm3
  have H := Aside0.mk h
  go_enter Tryd.func76, Tryd.ntmps76
  go_upto_region 2 with (fail)
  generalize hw1 : World.alloc W _ = w1
  have TB : Aside0 (w1.heap[W.heap.size]? = some (.cells (tokCells t) 39 (0, 0))) := ⟨by subst hw1; exact blk_new W _⟩
  have B1 : Aside0 (Below W.heap.size W w1) := ⟨by subst hw1; exact below_alloc (Below.refl _ _) _⟩
  have N1 : Aside0 (Nx w0 w1 g s lvv) := ⟨H.out.below B1.out⟩
  have L3 : Aside0 (W.heap.size ≠ g) := ⟨fun e => by have := H.out.lt; omega⟩
  clear hw1
  obtain ⟨b3, hb3⟩ : ∃ b3, b3 = W.heap.size := ⟨_, rfl⟩
  rw [← hb3] at TB L3 ⊢
  clear hb3
  have d0 : w1.cell? ⟨b3, 0, none⟩ = some (.int .i64 t.kind) := (blk_cell TB.out 0).trans rfl
  obtain ⟨wv1, hb1⟩ := N1.out.blk
  have c4 : w1.cell? ⟨g, 4, none⟩ = some (.int .i64 s.may) := (blk_cell hb1 4).trans rfl
  have c5 : w1.cell? ⟨g, 5, none⟩ = some (.int .i64 s.begun) := (blk_cell hb1 5).trans rfl
  have z5 := blk_frozen hb1 5
  clear hb1
  rw [HK.out] at d0
  have HBAD := Aside0.mk (bad_calls N1.out 8)
  clear h hn
  go_wp2_with (fail)
  go_at_call 74
  refine HBAD.out.mono ?_
  rintro e w3 ⟨rfl, h1, h2, h3⟩
  have H1 := Aside0.mk h1
  have H2 := Aside0.mk h2
  have H3 := Aside0.mk h3
  clear h1 h2 h3
  go_wp2_with (fail)
  go_ret2
  rw [E.out]
  exact ⟨_, rfl, lvv, H1.out, (B1.out.mono (Nat.le_trans H.out.ge (Nat.le_of_lt H.out.lt))).trans H2.out, (KeepN.of_below B1.out).trans H3.out, World.ownsRow_nil _ _ _ _, fun _ => rfl⟩
set_option maxHeartbeats 16000000 in
set_option maxRecDepth 100000 in
theorem begin_badv {w0 W : World} {g : Nat} {s : NS} {lvv : Value} (h : Nx w0 W g s lvv) (hn : s.stk.length ≤ 90000) (t : Tk) (valued : Bool) (hk : t.kind ≠ 8) (hv : valued = false) :
    Calls Tryd.prog 76 #[.pointer (some ⟨g, 0, none⟩), .agg #[.int .i64 t.kind, .bool t.begun, .int .i64 (t.frm : Int), .int .i64 (t.to : Int), .string t.text], .bool valued] W fun e w' => ∃ v, e = .returned (.tuple #[v, .int .i64 (tbeginV s t valued).2.2]) ∧ PostN w0 W g (tbeginV s t valued).1 (tbeginV s t valued).2.1 v w' := by
  have E := Aside0.mk (show tbeginV s t valued = badV s 8 by unfold tbeginV; rw [if_neg (by omega), if_pos (by exact .inl hv)])
  have H := Aside0.mk h
  go_enter Tryd.func76, Tryd.ntmps76
  go_upto_region 2 with (fail)
  generalize hw1 : World.alloc W _ = w1
  have TB : Aside0 (w1.heap[W.heap.size]? = some (.cells (tokCells t) 39 (0, 0))) := ⟨by subst hw1; exact blk_new W _⟩
  have B1 : Aside0 (Below W.heap.size W w1) := ⟨by subst hw1; exact below_alloc (Below.refl _ _) _⟩
  have N1 : Aside0 (Nx w0 w1 g s lvv) := ⟨H.out.below B1.out⟩
  have L3 : Aside0 (W.heap.size ≠ g) := ⟨fun e => by have := H.out.lt; omega⟩
  clear hw1
  obtain ⟨b3, hb3⟩ : ∃ b3, b3 = W.heap.size := ⟨_, rfl⟩
  rw [← hb3] at TB L3 ⊢
  clear hb3
  have d0 : w1.cell? ⟨b3, 0, none⟩ = some (.int .i64 t.kind) := (blk_cell TB.out 0).trans rfl
  obtain ⟨wv1, hb1⟩ := N1.out.blk
  have c4 : w1.cell? ⟨g, 4, none⟩ = some (.int .i64 s.may) := (blk_cell hb1 4).trans rfl
  have c5 : w1.cell? ⟨g, 5, none⟩ = some (.int .i64 s.begun) := (blk_cell hb1 5).trans rfl
  have z5 := blk_frozen hb1 5
  clear hb1
  have k8 : (t.kind == 8) = false := by simp; omega
  have kd8 : decide (t.kind = 8) = false := by simp; omega
  subst hv
  clear hk
  have HBAD := Aside0.mk (bad_calls N1.out 8)
  clear h hn
  go_wp2_with (fail)
  go_at_call 74
  refine HBAD.out.mono ?_
  rintro e w3 ⟨rfl, h1, h2, h3⟩
  have H1 := Aside0.mk h1
  have H2 := Aside0.mk h2
  have H3 := Aside0.mk h3
  clear h1 h2 h3
  go_wp2_with (fail)
  go_ret2
  rw [E.out]
  exact ⟨_, rfl, lvv, H1.out, (B1.out.mono (Nat.le_trans H.out.ge (Nat.le_of_lt H.out.lt))).trans H2.out, (KeepN.of_below B1.out).trans H3.out, World.ownsRow_nil _ _ _ _, fun _ => rfl⟩
set_option maxHeartbeats 16000000 in
set_option maxRecDepth 100000 in
theorem begin_badl {w0 W : World} {g : Nat} {s : NS} {lvv : Value} (h : Nx w0 W g s lvv) (hn : s.stk.length ≤ 90000) (t : Tk) (valued : Bool) (hk : t.kind < 8) (hv : valued = true) :
    Calls Tryd.prog 76 #[.pointer (some ⟨g, 0, none⟩), .agg #[.int .i64 t.kind, .bool t.begun, .int .i64 (t.frm : Int), .int .i64 (t.to : Int), .string t.text], .bool valued] W fun e w' => ∃ v, e = .returned (.tuple #[v, .int .i64 (tbeginV s t valued).2.2]) ∧ PostN w0 W g (tbeginV s t valued).1 (tbeginV s t valued).2.1 v w' := by
  have E := Aside0.mk (show tbeginV s t valued = badV s 8 by unfold tbeginV; rw [if_neg (by omega), if_pos (by exact .inr (.inl hk))])
  have H := Aside0.mk h
  go_enter Tryd.func76, Tryd.ntmps76
  go_upto_region 2 with (fail)
  generalize hw1 : World.alloc W _ = w1
  have TB : Aside0 (w1.heap[W.heap.size]? = some (.cells (tokCells t) 39 (0, 0))) := ⟨by subst hw1; exact blk_new W _⟩
  have B1 : Aside0 (Below W.heap.size W w1) := ⟨by subst hw1; exact below_alloc (Below.refl _ _) _⟩
  have N1 : Aside0 (Nx w0 w1 g s lvv) := ⟨H.out.below B1.out⟩
  have L3 : Aside0 (W.heap.size ≠ g) := ⟨fun e => by have := H.out.lt; omega⟩
  clear hw1
  obtain ⟨b3, hb3⟩ : ∃ b3, b3 = W.heap.size := ⟨_, rfl⟩
  rw [← hb3] at TB L3 ⊢
  clear hb3
  have d0 : w1.cell? ⟨b3, 0, none⟩ = some (.int .i64 t.kind) := (blk_cell TB.out 0).trans rfl
  obtain ⟨wv1, hb1⟩ := N1.out.blk
  have c4 : w1.cell? ⟨g, 4, none⟩ = some (.int .i64 s.may) := (blk_cell hb1 4).trans rfl
  have c5 : w1.cell? ⟨g, 5, none⟩ = some (.int .i64 s.begun) := (blk_cell hb1 5).trans rfl
  have z5 := blk_frozen hb1 5
  clear hb1
  have k8 : (t.kind == 8) = false := by simp; omega
  have kd8 : decide (t.kind = 8) = false := by simp; omega
  have l1 : decide (t.kind < 8) = true := by simp; omega
  subst hv
  clear hk
  have HBAD := Aside0.mk (bad_calls N1.out 8)
  clear h hn
  go_wp2_with (fail)
  go_at_call 74
  refine HBAD.out.mono ?_
  rintro e w3 ⟨rfl, h1, h2, h3⟩
  have H1 := Aside0.mk h1
  have H2 := Aside0.mk h2
  have H3 := Aside0.mk h3
  clear h1 h2 h3
  go_wp2_with (fail)
  go_ret2
  rw [E.out]
  exact ⟨_, rfl, lvv, H1.out, (B1.out.mono (Nat.le_trans H.out.ge (Nat.le_of_lt H.out.lt))).trans H2.out, (KeepN.of_below B1.out).trans H3.out, World.ownsRow_nil _ _ _ _, fun _ => rfl⟩
set_option maxHeartbeats 16000000 in
set_option maxRecDepth 100000 in
theorem begin_badg {w0 W : World} {g : Nat} {s : NS} {lvv : Value} (h : Nx w0 W g s lvv) (hn : s.stk.length ≤ 90000) (t : Tk) (valued : Bool) (hk : t.kind > 10) (hv : valued = true) :
    Calls Tryd.prog 76 #[.pointer (some ⟨g, 0, none⟩), .agg #[.int .i64 t.kind, .bool t.begun, .int .i64 (t.frm : Int), .int .i64 (t.to : Int), .string t.text], .bool valued] W fun e w' => ∃ v, e = .returned (.tuple #[v, .int .i64 (tbeginV s t valued).2.2]) ∧ PostN w0 W g (tbeginV s t valued).1 (tbeginV s t valued).2.1 v w' := by
  have E := Aside0.mk (show tbeginV s t valued = badV s 8 by unfold tbeginV; rw [if_neg (by omega), if_pos (by exact .inr (.inr hk))])
  have H := Aside0.mk h
  go_enter Tryd.func76, Tryd.ntmps76
  go_upto_region 2 with (fail)
  generalize hw1 : World.alloc W _ = w1
  have TB : Aside0 (w1.heap[W.heap.size]? = some (.cells (tokCells t) 39 (0, 0))) := ⟨by subst hw1; exact blk_new W _⟩
  have B1 : Aside0 (Below W.heap.size W w1) := ⟨by subst hw1; exact below_alloc (Below.refl _ _) _⟩
  have N1 : Aside0 (Nx w0 w1 g s lvv) := ⟨H.out.below B1.out⟩
  have L3 : Aside0 (W.heap.size ≠ g) := ⟨fun e => by have := H.out.lt; omega⟩
  clear hw1
  obtain ⟨b3, hb3⟩ : ∃ b3, b3 = W.heap.size := ⟨_, rfl⟩
  rw [← hb3] at TB L3 ⊢
  clear hb3
  have d0 : w1.cell? ⟨b3, 0, none⟩ = some (.int .i64 t.kind) := (blk_cell TB.out 0).trans rfl
  obtain ⟨wv1, hb1⟩ := N1.out.blk
  have c4 : w1.cell? ⟨g, 4, none⟩ = some (.int .i64 s.may) := (blk_cell hb1 4).trans rfl
  have c5 : w1.cell? ⟨g, 5, none⟩ = some (.int .i64 s.begun) := (blk_cell hb1 5).trans rfl
  have z5 := blk_frozen hb1 5
  clear hb1
  have k8 : (t.kind == 8) = false := by simp; omega
  have kd8 : decide (t.kind = 8) = false := by simp; omega
  have l1 : decide (t.kind < 8) = false := by simp; omega
  have l2 : decide (10 < t.kind) = true := by simp; omega
  subst hv
  clear hk
  have HBAD := Aside0.mk (bad_calls N1.out 8)
  clear h hn
  go_wp2_with (fail)
  go_at_call 74
  refine HBAD.out.mono ?_
  rintro e w3 ⟨rfl, h1, h2, h3⟩
  have H1 := Aside0.mk h1
  have H2 := Aside0.mk h2
  have H3 := Aside0.mk h3
  clear h1 h2 h3
  go_wp2_with (fail)
  go_ret2
  rw [E.out]
  exact ⟨_, rfl, lvv, H1.out, (B1.out.mono (Nat.le_trans H.out.ge (Nat.le_of_lt H.out.lt))).trans H2.out, (KeepN.of_below B1.out).trans H3.out, World.ownsRow_nil _ _ _ _, fun _ => rfl⟩
set_option maxHeartbeats 16000000 in
set_option maxRecDepth 100000 in
theorem begin_v8 {w0 W : World} {g : Nat} {s : NS} {lvv : Value} (h : Nx w0 W g s lvv) (hn : s.stk.length ≤ 90000) (t : Tk) (valued : Bool) (hk : t.kind = 8) (hm2 : s.may ≠ 2) (hm3 : s.may ≠ 3) (hv : valued = true) :
    Calls Tryd.prog 76 #[.pointer (some ⟨g, 0, none⟩), .agg #[.int .i64 t.kind, .bool t.begun, .int .i64 (t.frm : Int), .int .i64 (t.to : Int), .string t.text], .bool valued] W fun e w' => ∃ v, e = .returned (.tuple #[v, .int .i64 (tbeginV s t valued).2.2]) ∧ PostN w0 W g (tbeginV s t valued).1 (tbeginV s t valued).2.1 v w' := by
  obtain ⟨sv, hsv⟩ : ∃ sv, stepV s = sv := ⟨_, rfl⟩
  have E := Aside0.mk (show tbeginV s t valued = ({ s with begun := 8 }, [⟨1, 3, t.frm, 0, sv, ⟨#[]⟩⟩], 0) by unfold tbeginV; rw [if_neg (by omega), if_neg (by simp [hv]; omega), hsv, hk]; rfl)
  have m2 : (s.may == 2) = false := by simp; omega
  have md2 : decide (s.may = 2) = false := by simp; omega
  have m3 : (s.may == 3) = false := by simp; omega
  have md3 : decide (s.may = 3) = false := by simp; omega
  have HK := Aside0.mk hk
  clear hk hm2 hm3
  have H := Aside0.mk h
  go_enter Tryd.func76, Tryd.ntmps76
  go_upto_region 2 with (fail)
  generalize hw1 : World.alloc W _ = w1
  have TB : Aside0 (w1.heap[W.heap.size]? = some (.cells (tokCells t) 39 (0, 0))) := ⟨by subst hw1; exact blk_new W _⟩
  have B1 : Aside0 (Below W.heap.size W w1) := ⟨by subst hw1; exact below_alloc (Below.refl _ _) _⟩
  have N1 : Aside0 (Nx w0 w1 g s lvv) := ⟨H.out.below B1.out⟩
  have L3 : Aside0 (W.heap.size ≠ g) := ⟨fun e => by have := H.out.lt; omega⟩
  clear hw1
  obtain ⟨b3, hb3⟩ : ∃ b3, b3 = W.heap.size := ⟨_, rfl⟩
  rw [← hb3] at TB L3 ⊢
  clear hb3
  have d0 : w1.cell? ⟨b3, 0, none⟩ = some (.int .i64 t.kind) := (blk_cell TB.out 0).trans rfl
  obtain ⟨wv1, hb1⟩ := N1.out.blk
  have c4 : w1.cell? ⟨g, 4, none⟩ = some (.int .i64 s.may) := (blk_cell hb1 4).trans rfl
  have c5 : w1.cell? ⟨g, 5, none⟩ = some (.int .i64 s.begun) := (blk_cell hb1 5).trans rfl
  have z5 := blk_frozen hb1 5
  clear hb1
  rw [HK.out] at d0
  subst hv
  have HSV := Aside0.mk hsv
  have HN := Aside0.mk hn
  clear h hn hsv
  go_upto_region 12 with (fail)
  generalize hwC : World.setCell w1 _ _ = wC
  have ND : Aside0 (Nx w0 wC.drew g { s with begun := 8 } lvv) := ⟨by subst hwC; exact (N1.out.set5 8).below (Below.refl _ _).drew⟩
  have BD : Aside0 (Below w0.heap.size W wC.drew) := ⟨by subst hwC; exact ((B1.out.mono (Nat.le_trans H.out.ge (Nat.le_of_lt H.out.lt))).trans ((Below.refl _ _).setCell (p := ⟨g, 5, none⟩) H.out.ge _)).drew⟩
  have KD : Aside0 (KeepN g W wC.drew) := ⟨by subst hwC; exact ((KeepN.of_below B1.out).trans (KeepN.set_ _ _ _)).trans (KeepN.of_below (Below.refl _ _).drew)⟩
  have TF : Aside0 (wC.drew.cell? ⟨b3, 2, none⟩ = some (.int .i64 (t.frm : Int))) := ⟨by subst hwC; exact (blk_cell (blk_far TB.out (p := ⟨g, 5, none⟩) L3.out _) 2).trans rfl⟩
  have HSTEP : Aside0 (∀ w, Below wC.drew.heap.size wC.drew w → Calls Tryd.prog 110 #[.pointer (some ⟨g, 0, none⟩)] w fun e w' => e = .returned (.agg #[.bool sv.named, .string sv.name, .int .i64 (sv.idx : Int)]) ∧ Below w.heap.size w w') := ⟨fun w hb => by
    have := step_calls (ND.out.below hb) (by have := HN.out; simp only; omega)
    rw [show stepV { s with begun := 8 } = sv from HSV.out] at this
    exact this⟩
  clear hwC N1 B1 TB d0 c4 c5 z5
  refine start_ (n := 9) (S := fun w' => w'.cell? ⟨b3, 2, none⟩ = some (.int .i64 (t.frm : Int))) (ds := [6]) #[false, false, false, false, false, false, false, false, false] (by kernel_rfl) rfl rfl (TF.out) (fun hHeld => ?_)
  generalize hwd_ : wC.drew = wD at TF HSTEP ND BD KD hHeld ⊢
  clear hwd_
  refine pure_ (i := 0) (N := some 62) (v := ?_) (a' := ?_) #[true, false, false, false, false, false, false, false, false] rfl rfl (by kernel_rfl) (fun _ _ _ h => h) (Or.inl ⟨by rfl, ?_⟩) ?_ ?_
  rotate_left
  · intro w'
    go_simp
    with_reducible rfl
  rotate_left
  · simp only [Act.put, List.setIfInBounds_toArray, List.set_cons_zero, List.set_cons_succ, i64_w, i32_w]
    rfl
  refine pure_ (i := 1) (N := some 63) (v := ?_) (a' := ?_) #[true, true, false, false, false, false, false, false, false] rfl rfl (by kernel_rfl) (fun _ _ _ h => h) (Or.inl ⟨by rfl, ?_⟩) ?_ ?_
  rotate_left
  · intro w'
    go_simp
    with_reducible rfl
  rotate_left
  · simp only [Act.put, List.setIfInBounds_toArray, List.set_cons_zero, List.set_cons_succ, i64_w, i32_w]
    rfl
  refine pure_ (i := 3) (N := some 65) (v := ?_) (a' := ?_) #[true, true, false, true, false, false, false, false, false] rfl rfl (by kernel_rfl) (fun _ _ _ h => h) (Or.inl ⟨by rfl, ?_⟩) ?_ ?_
  rotate_left
  · intro w'
    go_simp
    with_reducible rfl
  rotate_left
  · simp only [Act.put, List.setIfInBounds_toArray, List.set_cons_zero, List.set_cons_succ, i64_w, i32_w]
    rfl
  refine take_ (i := 2) (N := some 64) (v := ?_) (a' := ?_) #[true, true, true, true, false, false, false, false, false] rfl rfl (by kernel_rfl) (fun _ _ _ h => h) (Or.inl ⟨by rfl, ?_⟩) hHeld ?_ ?_
  rotate_left
  · intro w' s0
    go_simp
    with_reducible rfl
  rotate_left
  · simp only [Act.put, List.setIfInBounds_toArray, List.set_cons_zero, List.set_cons_succ, i64_w, i32_w]
    rfl
  refine one_ (i := 4) (N := some 66) #[true, true, true, true, true, false, false, false, false] rfl rfl (by kernel_rfl) (by decide) (fun K hK => ?_)
  refine goes_ Tryd.func110 (by kernel_rfl) rfl #[.pointer (some ⟨g, 0, none⟩)] (by rfl) rfl rfl (by simp only [List.map_toArray, List.map_cons, List.map_nil]; rfl) ?_
  with_reducible refine (HSTEP.out _ (Below.refl _ _)).mono ?_
  rintro e w5 ⟨rfl, hb⟩
  refine ⟨_, rfl, ?_⟩
  have B5 := Aside0.mk hb
  clear hb
  refine hK.out _ _ (pw_cell_below B5.out TF.out) (fun hHeld => ?_)
  clear hK K
  refine norm_ (a' := ?_) ?_ ?_
  rotate_left
  · show Act.put _ (some 66) _ = _
    simp only [Act.put, List.setIfInBounds_toArray, List.set_cons_zero, List.set_cons_succ, i64_w, i32_w]
    rfl
  refine pure_ (i := 5) (N := some 67) (v := ?_) (a' := ?_) #[true, true, true, true, true, true, false, false, false] rfl rfl (by kernel_rfl) (fun _ _ _ h => h) (Or.inl ⟨by rfl, ?_⟩) ?_ ?_
  rotate_left
  · intro w'
    go_simp
    with_reducible rfl
  rotate_left
  · simp only [Act.put, List.setIfInBounds_toArray, List.set_cons_zero, List.set_cons_succ, i64_w, i32_w]
    rfl
  refine last_ (i := 6) (N := some 68) #[true, true, true, true, true, true, true, false, false] rfl rfl (by kernel_rfl) (by decide) (fun K hK => ?_)
  refine value_ (w1 := ?_) (v := ?_) (by rfl) rfl ?_ ?_
  rotate_left 2
  · go_simp
    constructor
    · rfl
    · rfl
  refine hK.out _ _ ?_
  clear hK K
  refine norm_ (a' := ?_) ?_ ?_
  rotate_left
  · show Act.put _ (some 68) _ = _
    simp only [Act.put, List.setIfInBounds_toArray, List.set_cons_zero, List.set_cons_succ, i64_w, i32_w]
    rfl
  refine pure_ (i := 7) (N := some 6) (v := ?_) (a' := ?_) #[true, true, true, true, true, true, true, true, false] rfl rfl (by kernel_rfl) (fun _ _ _ h => h) (Or.inl ⟨by rfl, ?_⟩) ?_ ?_
  rotate_left
  · intro w'
    go_simp
    with_reducible rfl
  rotate_left
  · simp only [Act.put, List.setIfInBounds_toArray, List.set_cons_zero, List.set_cons_succ, i64_w, i32_w]
    rfl
  refine pure_ (i := 8) (N := some 7) (v := ?_) (a' := ?_) #[true, true, true, true, true, true, true, true, true] rfl rfl (by kernel_rfl) (fun _ _ _ h => h) (Or.inl ⟨by rfl, ?_⟩) ?_ ?_
  rotate_left
  · intro w'
    go_simp
    with_reducible rfl
  rotate_left
  · simp only [Act.put, List.setIfInBounds_toArray, List.set_cons_zero, List.set_cons_succ, i64_w, i32_w]
    rfl
  refine done_ (by kernel_rfl) ?_
  go_wp2_with (fail)
  go_ret2
  rw [E.out]
  have N5 := ND.out.below B5.out
  have hle : w0.heap.size ≤ w5.heap.size := Nat.le_trans N5.ge (Nat.le_of_lt N5.lt)
  have hle2 : w0.heap.size ≤ wD.heap.size := Nat.le_trans ND.out.ge (Nat.le_of_lt ND.out.lt)
  exact ⟨_, rfl, lvv, N5.below (below_alloc (Below.refl _ _) _), (BD.out.trans (B5.out.mono hle2)).trans ((below_alloc (Below.refl _ _) _).mono hle), (KD.out.trans (KeepN.of_below B5.out)).trans (KeepN.of_below (below_alloc (Below.refl _ _) _)), rowE w5 _ ⟨1, 3, t.frm, 0, sv, ⟨#[]⟩⟩ (Nat.le_trans KD.out.1 B5.out.size) _ _ rfl rfl, fun h => by simp at h⟩
set_option maxHeartbeats 16000000 in
set_option maxRecDepth 100000 in
theorem begin_v9 {w0 W : World} {g : Nat} {s : NS} {lvv : Value} (h : Nx w0 W g s lvv) (hn : s.stk.length ≤ 90000) (t : Tk) (valued : Bool) (hk : t.kind = 9) (hv : valued = true) :
    Calls Tryd.prog 76 #[.pointer (some ⟨g, 0, none⟩), .agg #[.int .i64 t.kind, .bool t.begun, .int .i64 (t.frm : Int), .int .i64 (t.to : Int), .string t.text], .bool valued] W fun e w' => ∃ v, e = .returned (.tuple #[v, .int .i64 (tbeginV s t valued).2.2]) ∧ PostN w0 W g (tbeginV s t valued).1 (tbeginV s t valued).2.1 v w' := by
  obtain ⟨sv, hsv⟩ : ∃ sv, stepV s = sv := ⟨_, rfl⟩
  have E := Aside0.mk (show tbeginV s t valued = ({ s with begun := 9 }, [⟨1, 2, t.frm, 0, sv, ⟨#[]⟩⟩], 0) by unfold tbeginV; rw [if_neg (by omega), if_neg (by simp [hv]; omega), hsv, hk]; rfl)
  have HK := Aside0.mk hk
  clear hk
  have H := Aside0.mk h
  go_enter Tryd.func76, Tryd.ntmps76
  go_upto_region 2 with (fail)
  generalize hw1 : World.alloc W _ = w1
  have TB : Aside0 (w1.heap[W.heap.size]? = some (.cells (tokCells t) 39 (0, 0))) := ⟨by subst hw1; exact blk_new W _⟩
  have B1 : Aside0 (Below W.heap.size W w1) := ⟨by subst hw1; exact below_alloc (Below.refl _ _) _⟩
  have N1 : Aside0 (Nx w0 w1 g s lvv) := ⟨H.out.below B1.out⟩
  have L3 : Aside0 (W.heap.size ≠ g) := ⟨fun e => by have := H.out.lt; omega⟩
  clear hw1
  obtain ⟨b3, hb3⟩ : ∃ b3, b3 = W.heap.size := ⟨_, rfl⟩
  rw [← hb3] at TB L3 ⊢
  clear hb3
  have d0 : w1.cell? ⟨b3, 0, none⟩ = some (.int .i64 t.kind) := (blk_cell TB.out 0).trans rfl
  obtain ⟨wv1, hb1⟩ := N1.out.blk
  have c4 : w1.cell? ⟨g, 4, none⟩ = some (.int .i64 s.may) := (blk_cell hb1 4).trans rfl
  have c5 : w1.cell? ⟨g, 5, none⟩ = some (.int .i64 s.begun) := (blk_cell hb1 5).trans rfl
  have z5 := blk_frozen hb1 5
  clear hb1
  rw [HK.out] at d0
  subst hv
  have HSV := Aside0.mk hsv
  have HN := Aside0.mk hn
  clear h hn hsv
  go_upto_region 12 with (fail)
  generalize hwC : World.setCell w1 _ _ = wC
  have ND : Aside0 (Nx w0 wC.drew g { s with begun := 9 } lvv) := ⟨by subst hwC; exact (N1.out.set5 9).below (Below.refl _ _).drew⟩
  have BD : Aside0 (Below w0.heap.size W wC.drew) := ⟨by subst hwC; exact ((B1.out.mono (Nat.le_trans H.out.ge (Nat.le_of_lt H.out.lt))).trans ((Below.refl _ _).setCell (p := ⟨g, 5, none⟩) H.out.ge _)).drew⟩
  have KD : Aside0 (KeepN g W wC.drew) := ⟨by subst hwC; exact ((KeepN.of_below B1.out).trans (KeepN.set_ _ _ _)).trans (KeepN.of_below (Below.refl _ _).drew)⟩
  have TF : Aside0 (wC.drew.cell? ⟨b3, 2, none⟩ = some (.int .i64 (t.frm : Int))) := ⟨by subst hwC; exact (blk_cell (blk_far TB.out (p := ⟨g, 5, none⟩) L3.out _) 2).trans rfl⟩
  have HSTEP : Aside0 (∀ w, Below wC.drew.heap.size wC.drew w → Calls Tryd.prog 110 #[.pointer (some ⟨g, 0, none⟩)] w fun e w' => e = .returned (.agg #[.bool sv.named, .string sv.name, .int .i64 (sv.idx : Int)]) ∧ Below w.heap.size w w') := ⟨fun w hb => by
    have := step_calls (ND.out.below hb) (by have := HN.out; simp only; omega)
    rw [show stepV { s with begun := 9 } = sv from HSV.out] at this
    exact this⟩
  clear hwC N1 B1 TB d0 c4 c5 z5
  refine start_ (n := 9) (S := fun w' => w'.cell? ⟨b3, 2, none⟩ = some (.int .i64 (t.frm : Int))) (ds := [6]) #[false, false, false, false, false, false, false, false, false] (by kernel_rfl) rfl rfl (TF.out) (fun hHeld => ?_)
  generalize hwd_ : wC.drew = wD at TF HSTEP ND BD KD hHeld ⊢
  clear hwd_
  refine pure_ (i := 0) (N := some 62) (v := ?_) (a' := ?_) #[true, false, false, false, false, false, false, false, false] rfl rfl (by kernel_rfl) (fun _ _ _ h => h) (Or.inl ⟨by rfl, ?_⟩) ?_ ?_
  rotate_left
  · intro w'
    go_simp
    with_reducible rfl
  rotate_left
  · simp only [Act.put, List.setIfInBounds_toArray, List.set_cons_zero, List.set_cons_succ, i64_w, i32_w]
    rfl
  refine pure_ (i := 1) (N := some 63) (v := ?_) (a' := ?_) #[true, true, false, false, false, false, false, false, false] rfl rfl (by kernel_rfl) (fun _ _ _ h => h) (Or.inl ⟨by rfl, ?_⟩) ?_ ?_
  rotate_left
  · intro w'
    go_simp
    with_reducible rfl
  rotate_left
  · simp only [Act.put, List.setIfInBounds_toArray, List.set_cons_zero, List.set_cons_succ, i64_w, i32_w]
    rfl
  refine pure_ (i := 3) (N := some 65) (v := ?_) (a' := ?_) #[true, true, false, true, false, false, false, false, false] rfl rfl (by kernel_rfl) (fun _ _ _ h => h) (Or.inl ⟨by rfl, ?_⟩) ?_ ?_
  rotate_left
  · intro w'
    go_simp
    with_reducible rfl
  rotate_left
  · simp only [Act.put, List.setIfInBounds_toArray, List.set_cons_zero, List.set_cons_succ, i64_w, i32_w]
    rfl
  refine take_ (i := 2) (N := some 64) (v := ?_) (a' := ?_) #[true, true, true, true, false, false, false, false, false] rfl rfl (by kernel_rfl) (fun _ _ _ h => h) (Or.inl ⟨by rfl, ?_⟩) hHeld ?_ ?_
  rotate_left
  · intro w' s0
    go_simp
    with_reducible rfl
  rotate_left
  · simp only [Act.put, List.setIfInBounds_toArray, List.set_cons_zero, List.set_cons_succ, i64_w, i32_w]
    rfl
  refine one_ (i := 4) (N := some 66) #[true, true, true, true, true, false, false, false, false] rfl rfl (by kernel_rfl) (by decide) (fun K hK => ?_)
  refine goes_ Tryd.func110 (by kernel_rfl) rfl #[.pointer (some ⟨g, 0, none⟩)] (by rfl) rfl rfl (by simp only [List.map_toArray, List.map_cons, List.map_nil]; rfl) ?_
  with_reducible refine (HSTEP.out _ (Below.refl _ _)).mono ?_
  rintro e w5 ⟨rfl, hb⟩
  refine ⟨_, rfl, ?_⟩
  have B5 := Aside0.mk hb
  clear hb
  refine hK.out _ _ (pw_cell_below B5.out TF.out) (fun hHeld => ?_)
  clear hK K
  refine norm_ (a' := ?_) ?_ ?_
  rotate_left
  · show Act.put _ (some 66) _ = _
    simp only [Act.put, List.setIfInBounds_toArray, List.set_cons_zero, List.set_cons_succ, i64_w, i32_w]
    rfl
  refine pure_ (i := 5) (N := some 67) (v := ?_) (a' := ?_) #[true, true, true, true, true, true, false, false, false] rfl rfl (by kernel_rfl) (fun _ _ _ h => h) (Or.inl ⟨by rfl, ?_⟩) ?_ ?_
  rotate_left
  · intro w'
    go_simp
    with_reducible rfl
  rotate_left
  · simp only [Act.put, List.setIfInBounds_toArray, List.set_cons_zero, List.set_cons_succ, i64_w, i32_w]
    rfl
  refine last_ (i := 6) (N := some 68) #[true, true, true, true, true, true, true, false, false] rfl rfl (by kernel_rfl) (by decide) (fun K hK => ?_)
  refine value_ (w1 := ?_) (v := ?_) (by rfl) rfl ?_ ?_
  rotate_left 2
  · go_simp
    constructor
    · rfl
    · rfl
  refine hK.out _ _ ?_
  clear hK K
  refine norm_ (a' := ?_) ?_ ?_
  rotate_left
  · show Act.put _ (some 68) _ = _
    simp only [Act.put, List.setIfInBounds_toArray, List.set_cons_zero, List.set_cons_succ, i64_w, i32_w]
    rfl
  refine pure_ (i := 7) (N := some 6) (v := ?_) (a' := ?_) #[true, true, true, true, true, true, true, true, false] rfl rfl (by kernel_rfl) (fun _ _ _ h => h) (Or.inl ⟨by rfl, ?_⟩) ?_ ?_
  rotate_left
  · intro w'
    go_simp
    with_reducible rfl
  rotate_left
  · simp only [Act.put, List.setIfInBounds_toArray, List.set_cons_zero, List.set_cons_succ, i64_w, i32_w]
    rfl
  refine pure_ (i := 8) (N := some 7) (v := ?_) (a' := ?_) #[true, true, true, true, true, true, true, true, true] rfl rfl (by kernel_rfl) (fun _ _ _ h => h) (Or.inl ⟨by rfl, ?_⟩) ?_ ?_
  rotate_left
  · intro w'
    go_simp
    with_reducible rfl
  rotate_left
  · simp only [Act.put, List.setIfInBounds_toArray, List.set_cons_zero, List.set_cons_succ, i64_w, i32_w]
    rfl
  refine done_ (by kernel_rfl) ?_
  go_wp2_with (fail)
  go_ret2
  rw [E.out]
  have N5 := ND.out.below B5.out
  have hle : w0.heap.size ≤ w5.heap.size := Nat.le_trans N5.ge (Nat.le_of_lt N5.lt)
  have hle2 : w0.heap.size ≤ wD.heap.size := Nat.le_trans ND.out.ge (Nat.le_of_lt ND.out.lt)
  exact ⟨_, rfl, lvv, N5.below (below_alloc (Below.refl _ _) _), (BD.out.trans (B5.out.mono hle2)).trans ((below_alloc (Below.refl _ _) _).mono hle), (KD.out.trans (KeepN.of_below B5.out)).trans (KeepN.of_below (below_alloc (Below.refl _ _) _)), rowE w5 _ ⟨1, 2, t.frm, 0, sv, ⟨#[]⟩⟩ (Nat.le_trans KD.out.1 B5.out.size) _ _ rfl rfl, fun h => by simp at h⟩
set_option maxHeartbeats 16000000 in
set_option maxRecDepth 100000 in
theorem begin_v10 {w0 W : World} {g : Nat} {s : NS} {lvv : Value} (h : Nx w0 W g s lvv) (hn : s.stk.length ≤ 90000) (t : Tk) (valued : Bool) (hk : t.kind = 10) (hv : valued = true) :
    Calls Tryd.prog 76 #[.pointer (some ⟨g, 0, none⟩), .agg #[.int .i64 t.kind, .bool t.begun, .int .i64 (t.frm : Int), .int .i64 (t.to : Int), .string t.text], .bool valued] W fun e w' => ∃ v, e = .returned (.tuple #[v, .int .i64 (tbeginV s t valued).2.2]) ∧ PostN w0 W g (tbeginV s t valued).1 (tbeginV s t valued).2.1 v w' := by
  obtain ⟨sv, hsv⟩ : ∃ sv, stepV s = sv := ⟨_, rfl⟩
  have E := Aside0.mk (show tbeginV s t valued = ({ s with begun := 10 }, [⟨1, 0, t.frm, 0, sv, ⟨#[]⟩⟩], 0) by unfold tbeginV; rw [if_neg (by omega), if_neg (by simp [hv]; omega), hsv, hk]; rfl)
  have HK := Aside0.mk hk
  clear hk
  have H := Aside0.mk h
  go_enter Tryd.func76, Tryd.ntmps76
  go_upto_region 2 with (fail)
  generalize hw1 : World.alloc W _ = w1
  have TB : Aside0 (w1.heap[W.heap.size]? = some (.cells (tokCells t) 39 (0, 0))) := ⟨by subst hw1; exact blk_new W _⟩
  have B1 : Aside0 (Below W.heap.size W w1) := ⟨by subst hw1; exact below_alloc (Below.refl _ _) _⟩
  have N1 : Aside0 (Nx w0 w1 g s lvv) := ⟨H.out.below B1.out⟩
  have L3 : Aside0 (W.heap.size ≠ g) := ⟨fun e => by have := H.out.lt; omega⟩
  clear hw1
  obtain ⟨b3, hb3⟩ : ∃ b3, b3 = W.heap.size := ⟨_, rfl⟩
  rw [← hb3] at TB L3 ⊢
  clear hb3
  have d0 : w1.cell? ⟨b3, 0, none⟩ = some (.int .i64 t.kind) := (blk_cell TB.out 0).trans rfl
  obtain ⟨wv1, hb1⟩ := N1.out.blk
  have c4 : w1.cell? ⟨g, 4, none⟩ = some (.int .i64 s.may) := (blk_cell hb1 4).trans rfl
  have c5 : w1.cell? ⟨g, 5, none⟩ = some (.int .i64 s.begun) := (blk_cell hb1 5).trans rfl
  have z5 := blk_frozen hb1 5
  clear hb1
  rw [HK.out] at d0
  subst hv
  have HSV := Aside0.mk hsv
  have HN := Aside0.mk hn
  clear h hn hsv
  go_upto_region 12 with (fail)
  generalize hwC : World.setCell w1 _ _ = wC
  have ND : Aside0 (Nx w0 wC.drew g { s with begun := 10 } lvv) := ⟨by subst hwC; exact (N1.out.set5 10).below (Below.refl _ _).drew⟩
  have BD : Aside0 (Below w0.heap.size W wC.drew) := ⟨by subst hwC; exact ((B1.out.mono (Nat.le_trans H.out.ge (Nat.le_of_lt H.out.lt))).trans ((Below.refl _ _).setCell (p := ⟨g, 5, none⟩) H.out.ge _)).drew⟩
  have KD : Aside0 (KeepN g W wC.drew) := ⟨by subst hwC; exact ((KeepN.of_below B1.out).trans (KeepN.set_ _ _ _)).trans (KeepN.of_below (Below.refl _ _).drew)⟩
  have TF : Aside0 (wC.drew.cell? ⟨b3, 2, none⟩ = some (.int .i64 (t.frm : Int))) := ⟨by subst hwC; exact (blk_cell (blk_far TB.out (p := ⟨g, 5, none⟩) L3.out _) 2).trans rfl⟩
  have HSTEP : Aside0 (∀ w, Below wC.drew.heap.size wC.drew w → Calls Tryd.prog 110 #[.pointer (some ⟨g, 0, none⟩)] w fun e w' => e = .returned (.agg #[.bool sv.named, .string sv.name, .int .i64 (sv.idx : Int)]) ∧ Below w.heap.size w w') := ⟨fun w hb => by
    have := step_calls (ND.out.below hb) (by have := HN.out; simp only; omega)
    rw [show stepV { s with begun := 10 } = sv from HSV.out] at this
    exact this⟩
  clear hwC N1 B1 TB d0 c4 c5 z5
  refine start_ (n := 9) (S := fun w' => w'.cell? ⟨b3, 2, none⟩ = some (.int .i64 (t.frm : Int))) (ds := [6]) #[false, false, false, false, false, false, false, false, false] (by kernel_rfl) rfl rfl (TF.out) (fun hHeld => ?_)
  generalize hwd_ : wC.drew = wD at TF HSTEP ND BD KD hHeld ⊢
  clear hwd_
  refine pure_ (i := 0) (N := some 62) (v := ?_) (a' := ?_) #[true, false, false, false, false, false, false, false, false] rfl rfl (by kernel_rfl) (fun _ _ _ h => h) (Or.inl ⟨by rfl, ?_⟩) ?_ ?_
  rotate_left
  · intro w'
    go_simp
    with_reducible rfl
  rotate_left
  · simp only [Act.put, List.setIfInBounds_toArray, List.set_cons_zero, List.set_cons_succ, i64_w, i32_w]
    rfl
  refine pure_ (i := 1) (N := some 63) (v := ?_) (a' := ?_) #[true, true, false, false, false, false, false, false, false] rfl rfl (by kernel_rfl) (fun _ _ _ h => h) (Or.inl ⟨by rfl, ?_⟩) ?_ ?_
  rotate_left
  · intro w'
    go_simp
    with_reducible rfl
  rotate_left
  · simp only [Act.put, List.setIfInBounds_toArray, List.set_cons_zero, List.set_cons_succ, i64_w, i32_w]
    rfl
  refine pure_ (i := 3) (N := some 65) (v := ?_) (a' := ?_) #[true, true, false, true, false, false, false, false, false] rfl rfl (by kernel_rfl) (fun _ _ _ h => h) (Or.inl ⟨by rfl, ?_⟩) ?_ ?_
  rotate_left
  · intro w'
    go_simp
    with_reducible rfl
  rotate_left
  · simp only [Act.put, List.setIfInBounds_toArray, List.set_cons_zero, List.set_cons_succ, i64_w, i32_w]
    rfl
  refine take_ (i := 2) (N := some 64) (v := ?_) (a' := ?_) #[true, true, true, true, false, false, false, false, false] rfl rfl (by kernel_rfl) (fun _ _ _ h => h) (Or.inl ⟨by rfl, ?_⟩) hHeld ?_ ?_
  rotate_left
  · intro w' s0
    go_simp
    with_reducible rfl
  rotate_left
  · simp only [Act.put, List.setIfInBounds_toArray, List.set_cons_zero, List.set_cons_succ, i64_w, i32_w]
    rfl
  refine one_ (i := 4) (N := some 66) #[true, true, true, true, true, false, false, false, false] rfl rfl (by kernel_rfl) (by decide) (fun K hK => ?_)
  refine goes_ Tryd.func110 (by kernel_rfl) rfl #[.pointer (some ⟨g, 0, none⟩)] (by rfl) rfl rfl (by simp only [List.map_toArray, List.map_cons, List.map_nil]; rfl) ?_
  with_reducible refine (HSTEP.out _ (Below.refl _ _)).mono ?_
  rintro e w5 ⟨rfl, hb⟩
  refine ⟨_, rfl, ?_⟩
  have B5 := Aside0.mk hb
  clear hb
  refine hK.out _ _ (pw_cell_below B5.out TF.out) (fun hHeld => ?_)
  clear hK K
  refine norm_ (a' := ?_) ?_ ?_
  rotate_left
  · show Act.put _ (some 66) _ = _
    simp only [Act.put, List.setIfInBounds_toArray, List.set_cons_zero, List.set_cons_succ, i64_w, i32_w]
    rfl
  refine pure_ (i := 5) (N := some 67) (v := ?_) (a' := ?_) #[true, true, true, true, true, true, false, false, false] rfl rfl (by kernel_rfl) (fun _ _ _ h => h) (Or.inl ⟨by rfl, ?_⟩) ?_ ?_
  rotate_left
  · intro w'
    go_simp
    with_reducible rfl
  rotate_left
  · simp only [Act.put, List.setIfInBounds_toArray, List.set_cons_zero, List.set_cons_succ, i64_w, i32_w]
    rfl
  refine last_ (i := 6) (N := some 68) #[true, true, true, true, true, true, true, false, false] rfl rfl (by kernel_rfl) (by decide) (fun K hK => ?_)
  refine value_ (w1 := ?_) (v := ?_) (by rfl) rfl ?_ ?_
  rotate_left 2
  · go_simp
    constructor
    · rfl
    · rfl
  refine hK.out _ _ ?_
  clear hK K
  refine norm_ (a' := ?_) ?_ ?_
  rotate_left
  · show Act.put _ (some 68) _ = _
    simp only [Act.put, List.setIfInBounds_toArray, List.set_cons_zero, List.set_cons_succ, i64_w, i32_w]
    rfl
  refine pure_ (i := 7) (N := some 6) (v := ?_) (a' := ?_) #[true, true, true, true, true, true, true, true, false] rfl rfl (by kernel_rfl) (fun _ _ _ h => h) (Or.inl ⟨by rfl, ?_⟩) ?_ ?_
  rotate_left
  · intro w'
    go_simp
    with_reducible rfl
  rotate_left
  · simp only [Act.put, List.setIfInBounds_toArray, List.set_cons_zero, List.set_cons_succ, i64_w, i32_w]
    rfl
  refine pure_ (i := 8) (N := some 7) (v := ?_) (a' := ?_) #[true, true, true, true, true, true, true, true, true] rfl rfl (by kernel_rfl) (fun _ _ _ h => h) (Or.inl ⟨by rfl, ?_⟩) ?_ ?_
  rotate_left
  · intro w'
    go_simp
    with_reducible rfl
  rotate_left
  · simp only [Act.put, List.setIfInBounds_toArray, List.set_cons_zero, List.set_cons_succ, i64_w, i32_w]
    rfl
  refine done_ (by kernel_rfl) ?_
  go_wp2_with (fail)
  go_ret2
  rw [E.out]
  have N5 := ND.out.below B5.out
  have hle : w0.heap.size ≤ w5.heap.size := Nat.le_trans N5.ge (Nat.le_of_lt N5.lt)
  have hle2 : w0.heap.size ≤ wD.heap.size := Nat.le_trans ND.out.ge (Nat.le_of_lt ND.out.lt)
  exact ⟨_, rfl, lvv, N5.below (below_alloc (Below.refl _ _) _), (BD.out.trans (B5.out.mono hle2)).trans ((below_alloc (Below.refl _ _) _).mono hle), (KD.out.trans (KeepN.of_below B5.out)).trans (KeepN.of_below (below_alloc (Below.refl _ _) _)), rowE w5 _ ⟨1, 0, t.frm, 0, sv, ⟨#[]⟩⟩ (Nat.le_trans KD.out.1 B5.out.size) _ _ rfl rfl, fun h => by simp at h⟩
theorem begin_calls {w0 W : World} {g : Nat} {s : NS} {lvv : Value} (h : Nx w0 W g s lvv) (hn : s.stk.length ≤ 90000) (t : Tk) (valued : Bool) :
    Calls Tryd.prog 76 #[.pointer (some ⟨g, 0, none⟩), .agg #[.int .i64 t.kind, .bool t.begun, .int .i64 (t.frm : Int), .int .i64 (t.to : Int), .string t.text], .bool valued] W fun e w' => ∃ v, e = .returned (.tuple #[v, .int .i64 (tbeginV s t valued).2.2]) ∧ PostN w0 W g (tbeginV s t valued).1 (tbeginV s t valued).2.1 v w' := by
  by_cases hk : t.kind = 8
  · by_cases h2 : s.may = 2
    · exact begin_name2 h hn t valued hk h2
    by_cases h3 : s.may = 3
    · exact begin_name3 h hn t valued hk h3
    cases hv : valued with
    | false => exact begin_bad8 h hn t false hk h2 h3 rfl
    | true => exact begin_v8 h hn t true hk h2 h3 rfl
  · cases hv : valued with
    | false => exact begin_badv h hn t false hk rfl
    | true =>
      by_cases h1 : t.kind < 8
      · exact begin_badl h hn t true h1 rfl
      by_cases h2 : t.kind > 10
      · exact begin_badg h hn t true h2 rfl
      by_cases h3 : t.kind = 9
      · exact begin_v9 h hn t true h3 rfl
      · exact begin_v10 h hn t true (by omega) rfl
end Go.Proofs.YtlhpflicchchlaaDoor.Nx
