/- nest.Nest.bad, New, Depth, Done and down, walked. Conditions: none. -/
import Derived.Test.YtlhpflicchchlaaDoorNx1
namespace Go.Proofs.YtlhpflicchchlaaDoor.Nx
open Go.RowKit Go.Proofs.YtlhpflicchchlaaDoorW.PrintWords Go.Proofs.YtlhpflicchchlaaDoorW.PrintLast Go.Proofs.YtlhpflicchchlaaDoorW.PrintMore
attribute [local go_sem] max2_int min2_int max_two min_two max_three min_three max_four min_four
open Go.Proofs.YtlhpflicchchlaaDoor.LexPure Go.Proofs.YtlhpflicchchlaaDoor.BitsW
set_option linter.unusedVariables false
set_option linter.unusedSimpArgs false
theorem bad_calls {w0 W : World} {g : Nat} {s : NS} {lvv : Value} (h : Nx w0 W g s lvv) (k : Int) :
    Calls Tryd.prog 74 #[.pointer (some ⟨g, 0, none⟩), .int .i64 k] W fun e w' => e = .returned (.tuple #[.slice none 0 0, .int .i64 k]) ∧ Nx w0 w' g { s with may := 7 } lvv ∧ Below w0.heap.size W w' ∧ KeepN g W w' := by
  have H := Aside0.mk h
  obtain ⟨wv, hb⟩ := h.blk
  have c4 := (blk_cell hb 4).trans rfl
  have z4 := blk_frozen hb 4
  clear h hb
  go_enter Tryd.func74, Tryd.ntmps74
  go_wp2_with (fail)
  go_ret2
  exact ⟨rfl, H.out.set4 7, (Below.refl _ _).setCell (p := ⟨g, 4, none⟩) H.out.ge _, KeepN.set_ _ _ _⟩
theorem depth_calls {w0 W : World} {g : Nat} {s : NS} {lvv : Value} (h : Nx w0 W g s lvv) : Calls Tryd.prog 37 #[.pointer (some ⟨g, 0, none⟩)] W fun e w' => e = .returned (.int .i64 (s.stk.length : Int)) ∧ W = w' := by
  have HL := Aside0.mk (len_calls _ g _ s.stk w0 W h.bits)
  clear h
  go_enter Tryd.func37, Tryd.ntmps37
  go_wp2_with (fail)
  go_at_call 79
  refine HL.out.mono ?_
  rintro e w2 ⟨rfl, rfl⟩
  go_wp2_with (fail)
  go_ret
  exact ⟨rfl, rfl⟩
theorem done_calls {w0 W : World} {g : Nat} {s : NS} {lvv : Value} (h : Nx w0 W g s lvv) : Calls Tryd.prog 38 #[.pointer (some ⟨g, 0, none⟩)] W fun e w' => e = .returned (.bool (decide (s.may = 6))) ∧ W = w' := by
  obtain ⟨wv, hb⟩ := h.blk
  have c4 : W.cell? ⟨g, 4, none⟩ = some (.int .i64 s.may) := (blk_cell hb 4).trans rfl
  clear h hb
  generalize s.may = m at *
  by_cases hm : m = 6
  · subst hm
    go_enter Tryd.func38, Tryd.ntmps38
    go_wp2_with (fail)
    go_ret
    exact ⟨rfl, rfl⟩
  · have e1 : (m == 6) = false := by simp [hm]
    have e2 : decide (m = 6) = false := by simp [hm]
    rw [e2]
    clear hm
    go_enter Tryd.func38, Tryd.ntmps38
    go_wp2_with (fail)
    go_ret
    exact ⟨rfl, rfl⟩
def ns0 (d : Nat) : NS := ⟨max d 1, [], [], 0, 0, false⟩
theorem new_calls (w0 W : World) (d : Nat) (hd : d ≤ 1000000) (hB : w0.heap.size ≤ W.heap.size) : Calls Tryd.prog 35 #[.int .i64 (d : Int)] W fun e w' => e = .returned (.pointer (some ⟨W.heap.size, 0, none⟩)) ∧ Nx w0 w' W.heap.size (ns0 d) (.slice none 0 0) ∧ Below W.heap.size W w' := by
  have HB := Aside0.mk hB
  have key : ∀ w1 : World, w1.heap[W.heap.size]? = some (.cells #[.int .i64 ((max d 1 : Nat) : Int), .slice none 0 0, .int .i64 ((0 : Nat) : Int), .slice none 0 0, .int .i64 0, .int .i64 0, .bool false] 113 (0, 0)) → Below W.heap.size W w1 → Nx w0 w1 W.heap.size (ns0 d) (.slice none 0 0) ∧ Below W.heap.size W w1 := fun w1 hb hB1 =>
    ⟨⟨⟨_, hb, by simpa [ns0, mw, pk, nums] using World.ownsRow_nil w1 w0.heap.size 169 1, hB⟩, World.ownsRow_nil _ _ _ _, rfl⟩, hB1⟩
  have KEY := Aside0.mk key
  clear hB key
  by_cases h1 : d < 1
  · obtain rfl : d = 0 := by omega
    clear h1 hd
    go_enter Tryd.func35, Tryd.ntmps35
    go_wp2
    go_ret
    exact ⟨rfl, KEY.out _ (blk_new _ _) (below_alloc (Below.refl _ _) _)⟩
  · have hm : max d 1 = d := by omega
    have q1 : ¬ (d : Int) < 1 := by omega
    have q2 : (1 : Int) ≤ (d : Int) := by omega
    have q3 : max (d : Int) 1 = (d : Int) := by omega
    have q4 : decide ((d : Int) < 1) = false := by simp; omega
    rw [hm] at KEY
    clear h1 hd hm
    go_enter Tryd.func35, Tryd.ntmps35
    go_wp2
    go_ret
    exact ⟨rfl, KEY.out _ (blk_new _ _) (below_alloc (Below.refl _ _) _)⟩
def ev0 : Ev := ⟨0, 0, 0, 0, stp0, ⟨#[]⟩⟩
def evPut (W : World) (g : Nat) (x : Ev) : World :=
  (((((((W.setCell ⟨g, 0, none⟩ (.int .i64 x.kind)).setCell ⟨g, 1, none⟩ (.int .i64 x.value)).setCell ⟨g, 2, none⟩ (.int .i64 (x.frm : Int))).setCell ⟨g, 3, none⟩ (.int .i64 (x.til : Int))).setCell ⟨g, 4, none⟩ (.bool x.step.named)).setCell ⟨g, 5, none⟩ (.string x.step.name)).setCell ⟨g, 6, none⟩ (.int .i64 (x.step.idx : Int))).setCell ⟨g, 7, none⟩ (.string x.text)
theorem ev_put {W : World} {g : Nat} {y : Ev} (h : W.heap[g]? = some (.cells (evCells y).toArray 62 (0, 0))) (x : Ev) : (evPut W g x).heap[g]? = some (.cells (evCells x).toArray 62 (0, 0)) := by
  have h0 := blk_set h 0 (.int .i64 x.kind)
  have h1 := blk_set h0 1 (.int .i64 x.value)
  have h2 := blk_set h1 2 (.int .i64 (x.frm : Int))
  have h3 := blk_set h2 3 (.int .i64 (x.til : Int))
  have h4 := blk_set h3 4 (.bool x.step.named)
  have h5 := blk_set h4 5 (.string x.step.name)
  have h6 := blk_set h5 6 (.int .i64 (x.step.idx : Int))
  have h7 := blk_set h6 7 (.string x.text)
  simpa [evPut, evCells] using h7
theorem ev_below (W : World) (B g : Nat) (hB : B ≤ g) (x : Ev) : Below B W (evPut W g x) := by
  unfold evPut
  exact ((((((((Below.refl B W).setCell (p := ⟨g, 0, none⟩) hB _).setCell (p := ⟨g, 1, none⟩) hB _).setCell (p := ⟨g, 2, none⟩) hB _).setCell (p := ⟨g, 3, none⟩) hB _).setCell (p := ⟨g, 4, none⟩) hB _).setCell (p := ⟨g, 5, none⟩) hB _).setCell (p := ⟨g, 6, none⟩) hB _).setCell (p := ⟨g, 7, none⟩) hB _
theorem ev_cells {W : World} {g : Nat} {x : Ev} (h : W.heap[g]? = some (.cells (evCells x).toArray 62 (0, 0))) : W.cell? ⟨g, 0, none⟩ = some (.int .i64 x.kind) ∧ W.cell? ⟨g, 1, none⟩ = some (.int .i64 x.value) ∧ W.cell? ⟨g, 2, none⟩ = some (.int .i64 (x.frm : Int)) ∧ W.cell? ⟨g, 3, none⟩ = some (.int .i64 (x.til : Int)) ∧ W.cell? ⟨g, 4, none⟩ = some (.bool x.step.named) ∧ W.cell? ⟨g, 5, none⟩ = some (.string x.step.name) ∧ W.cell? ⟨g, 6, none⟩ = some (.int .i64 (x.step.idx : Int)) ∧ W.cell? ⟨g, 7, none⟩ = some (.string x.text) :=
  ⟨(blk_cell h 0).trans rfl, (blk_cell h 1).trans rfl, (blk_cell h 2).trans rfl, (blk_cell h 3).trans rfl, (blk_cell h 4).trans rfl, (blk_cell h 5).trans rfl, (blk_cell h 6).trans rfl, (blk_cell h 7).trans rfl⟩
theorem blk_bits {g k : Nat} {W W' : World} {c : Array Value} {t : TypeId} {f : Nat × Nat} (h : W.heap[k]? = some (.cells c t f)) (hk : BitsW.KeepT g W W') (hg : k ≠ g) (ht : t ≠ 169) : W'.heap[k]? = some (.cells c t f) :=
  (hk.2 k (blk_lt h) hg (fun c' f' e => by rw [h] at e; simp at e; exact ht e.2.1)).trans h
theorem blk_nest {g k : Nat} {W W' : World} {c : Array Value} {t : TypeId} {f : Nat × Nat} (h : W.heap[k]? = some (.cells c t f)) (hk : KeepN g W W') (hg : k ≠ g) (ht : t ≠ 169) (hu : t ≠ 161) : W'.heap[k]? = some (.cells c t f) :=
  (hk.2 k (blk_lt h) hg (fun c' f' e => by rw [h] at e; simp at e; exact ht e.2.1) (fun c' f' e => by rw [h] at e; simp at e; exact hu e.2.1)).trans h
def tokCells (t : Tk) : Array Value := #[.int .i64 t.kind, .bool t.begun, .int .i64 (t.frm : Int), .int .i64 (t.to : Int), .string t.text]
def PostN (w0 W : World) (g : Nat) (s' : NS) (evs : List Ev) (v : Value) (w' : World) : Prop :=
  ∃ lvv', Nx w0 w' g s' lvv' ∧ Below w0.heap.size W w' ∧ KeepN g W w' ∧ w'.ownsRow W.heap.size 62 8 v evs.length (evs.flatMap evCells) ∧ (evs = [] → v = .slice none 0 0)
theorem einfo : (Tryd.prog.info? 62).map (fun i => (i.zero, i.size, i.bytes)) = some (some (.agg #[.int .i64 0, .int .i64 0, .int .i64 0, .int .i64 0, .bool false, .string ⟨#[]⟩, .int .i64 0, .string ⟨#[]⟩]), 8, 80) := by kernel_rfl
theorem linfo : (Tryd.prog.info? 161).map (fun i => (i.zero, i.size, i.bytes)) = some (some (.agg #[.int .i64 0, .bool false, .string ⟨#[]⟩, .int .i64 0, .int .i64 0, .string ⟨#[]⟩]), 6, 64) := by kernel_rfl
theorem rowE (w : World) (B : Nat) (t : Ev) (hB : B ≤ w.heap.size) (v : Value) (o : Obj) (ho : o = .cells (evCells t).toArray 62) (hv : v = .slice (some ⟨w.heap.size, 0, none⟩) 1 1) : (w.alloc o).ownsRow B 62 8 v [t].length ([t].flatMap evCells) := by
  subst ho hv
  exact ⟨rfl, .inr ⟨w.heap.size, 1, _, rfl, hB, heap_alloc_new w _, Nat.le_refl _, by unfold maxLen; omega, rfl, rfl⟩⟩
end Go.Proofs.YtlhpflicchchlaaDoor.Nx
