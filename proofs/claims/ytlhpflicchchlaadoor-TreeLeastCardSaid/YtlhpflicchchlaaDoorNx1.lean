/- nest.Nest.step, ended, bad, New, Depth and Done, walked. Conditions: none. -/
import Derived.Test.YtlhpflicchchlaaDoorNx0
import Derived.Test.YtlhpflicchchlaaDoorListedB
namespace Go.Proofs.YtlhpflicchchlaaDoor.Nx
open Go.RowKit Go.Proofs.YtlhpflicchchlaaDoorW.PrintWords Go.Proofs.YtlhpflicchchlaaDoorW.PrintLast Go.Proofs.YtlhpflicchchlaaDoorW.PrintMore
attribute [local go_sem] max2_int min2_int max_two min_two max_three min_three max_four min_four
open Go.Proofs.YtlhpflicchchlaaDoor.LexPure Go.Proofs.YtlhpflicchchlaaDoor.BitsW
set_option linter.unusedVariables false
set_option linter.unusedSimpArgs false
def LvAt (W : World) (g gl k cap : Nat) (n : Nat) (x : Lv) : Prop := W.cell? ⟨g, 3, none⟩ = some (.slice (some ⟨gl, 0, none⟩) n cap) ∧ W.cell? ⟨gl, k * 6, none⟩ = some (.int .i64 (x.frm : Int)) ∧ W.cell? ⟨gl, k * 6 + 1, none⟩ = some (.bool x.step.named) ∧ W.cell? ⟨gl, k * 6 + 2, none⟩ = some (.string x.step.name) ∧ W.cell? ⟨gl, k * 6 + 3, none⟩ = some (.int .i64 (x.step.idx : Int)) ∧ W.cell? ⟨gl, k * 6 + 4, none⟩ = some (.int .i64 (x.many : Int)) ∧ W.cell? ⟨gl, k * 6 + 5, none⟩ = some (.string x.nm)
theorem lvAt_of {w0 W : World} {g gl k cap : Nat} {s : NS} {pre : List Lv} {x : Lv} (h : Nx w0 W g s (.slice (some ⟨gl, 0, none⟩) (k + 1) cap)) (hl : s.lv = pre ++ [x]) (hk : pre.length = k) : LvAt W g gl k cap (k + 1) x := by
  obtain ⟨wv, hb⟩ := h.blk
  have hr := h.row
  rw [hl] at hr
  rw [show (pre ++ [x]).length = k + 1 by simp [hk]] at hr
  exact ⟨(blk_cell hb 3).trans rfl, lv_top hr hk⟩
theorem LvAt.below {W W1 : World} {g gl k cap n : Nat} {x : Lv} (h : LvAt W g gl k cap n x) (hb : Below W.heap.size W W1) : LvAt W1 g gl k cap n x :=
  ⟨pw_cell_below hb h.1, pw_cell_below hb h.2.1, pw_cell_below hb h.2.2.1, pw_cell_below hb h.2.2.2.1, pw_cell_below hb h.2.2.2.2.1, pw_cell_below hb h.2.2.2.2.2.1, pw_cell_below hb h.2.2.2.2.2.2⟩
def lvPut (W : World) (g : Nat) (x : Lv) : World :=
  (((((W.setCell ⟨g, 0, none⟩ (.int .i64 (x.frm : Int))).setCell ⟨g, 1, none⟩ (.bool x.step.named)).setCell ⟨g, 2, none⟩ (.string x.step.name)).setCell ⟨g, 3, none⟩ (.int .i64 (x.step.idx : Int))).setCell ⟨g, 4, none⟩ (.int .i64 (x.many : Int))).setCell ⟨g, 5, none⟩ (.string x.nm)
theorem lv_put {W : World} {g : Nat} {y : Lv} (h : W.heap[g]? = some (.cells (lvCells y).toArray 161 (0, 0))) (x : Lv) : (lvPut W g x).heap[g]? = some (.cells (lvCells x).toArray 161 (0, 0)) := by
  have h0 := blk_set h 0 (.int .i64 (x.frm : Int))
  have h1 := blk_set h0 1 (.bool x.step.named)
  have h2 := blk_set h1 2 (.string x.step.name)
  have h3 := blk_set h2 3 (.int .i64 (x.step.idx : Int))
  have h4 := blk_set h3 4 (.int .i64 (x.many : Int))
  have h5 := blk_set h4 5 (.string x.nm)
  simpa [lvPut, lvCells] using h5
theorem lv_below (W : World) (B g : Nat) (hB : B ≤ g) (x : Lv) : Below B W (lvPut W g x) := by
  unfold lvPut
  exact ((((((Below.refl B W).setCell (p := ⟨g, 0, none⟩) hB _).setCell (p := ⟨g, 1, none⟩) hB _).setCell (p := ⟨g, 2, none⟩) hB _).setCell (p := ⟨g, 3, none⟩) hB _).setCell (p := ⟨g, 4, none⟩) hB _).setCell (p := ⟨g, 5, none⟩) hB _
theorem lv_cells {W : World} {g : Nat} {x : Lv} (h : W.heap[g]? = some (.cells (lvCells x).toArray 161 (0, 0))) : W.cell? ⟨g, 0, none⟩ = some (.int .i64 (x.frm : Int)) ∧ W.cell? ⟨g, 1, none⟩ = some (.bool x.step.named) ∧ W.cell? ⟨g, 2, none⟩ = some (.string x.step.name) ∧ W.cell? ⟨g, 3, none⟩ = some (.int .i64 (x.step.idx : Int)) ∧ W.cell? ⟨g, 4, none⟩ = some (.int .i64 (x.many : Int)) ∧ W.cell? ⟨g, 5, none⟩ = some (.string x.nm) :=
  ⟨(blk_cell h 0).trans rfl, (blk_cell h 1).trans rfl, (blk_cell h 2).trans rfl, (blk_cell h 3).trans rfl, (blk_cell h 4).trans rfl, (blk_cell h 5).trans rfl⟩
def stpCellsA (s : Stp) : Array Value := #[.bool s.named, .string s.name, .int .i64 (s.idx : Int)]
theorem stp_put {W : World} {g : Nat} {a : Bool} {b : ByteArray} {c : Int} (h : W.heap[g]? = some (.cells #[.bool a, .string b, .int .i64 c] 26 (0, 0))) (s : Stp) : (((W.setCell ⟨g, 0, none⟩ (.bool s.named)).setCell ⟨g, 1, none⟩ (.string s.name)).setCell ⟨g, 2, none⟩ (.int .i64 (s.idx : Int))).heap[g]? = some (.cells (stpCellsA s) 26 (0, 0)) := by
  have h0 := blk_set h 0 (.bool s.named)
  have h1 := blk_set h0 1 (.string s.name)
  have h2 := blk_set h1 2 (.int .i64 (s.idx : Int))
  simpa [stpCellsA] using h2
theorem stp_below {W0 W : World} {B : Nat} (h : Below B W0 W) (g : Nat) (hB : B ≤ g) (s : Stp) : Below B W0 (((W.setCell ⟨g, 0, none⟩ (.bool s.named)).setCell ⟨g, 1, none⟩ (.string s.name)).setCell ⟨g, 2, none⟩ (.int .i64 (s.idx : Int))) :=
  ((h.setCell (p := ⟨g, 0, none⟩) hB _).setCell (p := ⟨g, 1, none⟩) hB _).setCell (p := ⟨g, 2, none⟩) hB _
def lv0 : Lv := ⟨0, stp0, 0, ⟨#[]⟩⟩
set_option maxHeartbeats 16000000 in
set_option maxRecDepth 100000 in
theorem step_some {w0 W : World} {g : Nat} {s : NS} {lvv : Value} (h : Nx w0 W g s lvv) (bs : List Bool) (b : Bool) (pre : List Lv) (x : Lv) (hs : s.stk = bs ++ [b]) (hl : s.lv = pre ++ [x]) (hn : bs.length < 100000) :
    Calls Tryd.prog 110 #[.pointer (some ⟨g, 0, none⟩)] W fun e w' => e = .returned (stpVal (if b = true then ⟨true, x.nm, 0⟩ else ⟨false, ⟨#[]⟩, x.many⟩)) ∧ Below W.heap.size W w' := by
  have hlen := h.len
  rw [hs, hl] at hlen
  simp only [List.length_append, List.length_cons, List.length_nil] at hlen
  obtain ⟨k, hk⟩ : ∃ k, pre.length = k := ⟨_, rfl⟩
  have hr := h.row
  rw [hl] at hr
  obtain ⟨gl, cap, rfl, hgl, _, _, _⟩ := own_pos hr
  rw [show (pre ++ [x]).length = k + 1 by simp [hk]] at hr h
  have H0 := Aside0.mk h
  have LA0 := Aside0.mk (lvAt_of h hl hk)
  have hkn : k < 100000 := by omega
  have HB : Aside0 (∀ w, Below W.heap.size W w → Calls Tryd.prog 75 #[.pointer (some ⟨g, 1, none⟩)] w fun e w' => e = .returned (.tuple #[.bool b, .bool true]) ∧ w = w') := ⟨fun w hb => by
    have hbb := (h.below hb).bits
    rw [hs] at hbb
    exact top_some _ g _ bs b w0 w hbb (by simp [mw]; omega) (by omega)⟩
  obtain ⟨n, hnn⟩ : ∃ n, n = k + 1 := ⟨_, rfl⟩
  rw [← hnn] at LA0
  have n1 : wrap64 ((n : Int) - 1) = (k : Int) := by unfold wrap64; omega
  have n2 : (0 : Int) ≤ (k : Int) := by omega
  have n3 : (k : Int) < (n : Int) := by omega
  have n4 : (k < n) = True := eq_true (by omega)
  have n5 : (n : Int) - 1 = (k : Int) := by omega
  have n6 : IntKind.i64.wrap (k : Int) = (k : Int) := IntWalk.i64_in _ (by omega)
  clear h hr hs hl hlen hk hkn hn hnn hgl
  go_enter Tryd.func110, Tryd.ntmps110
  go_wp2_with (fail)
  generalize hw1 : World.alloc W _ = w1
  have BR : Aside0 (w1.heap[W.heap.size]? = some (.cells #[.bool false, .string ⟨#[]⟩, .int .i64 0] 26 (0, 0))) := ⟨by subst hw1; exact blk_new W _⟩
  have B1 : Aside0 (Below W.heap.size W w1) := ⟨by subst hw1; exact below_alloc (Below.refl _ _) _⟩
  clear hw1
  go_at_call 75
  refine (HB.out _ B1.out).mono ?_
  rintro e w2 ⟨rfl, rfl⟩
  go_upto_region 4 with (fail)
  have LA : Aside0 (LvAt w1.drew g gl k cap n x) := ⟨LA0.out.below B1.out.drew⟩
  have BD : Aside0 (Below W.heap.size W w1.drew) := ⟨B1.out.drew⟩
  have BR : Aside0 (w1.drew.heap[W.heap.size]? = some (.cells #[.bool false, .string ⟨#[]⟩, .int .i64 0] 26 (0, 0))) := ⟨BR.out⟩
  refine start_ (n := 14) (S := fun w' => w'.cell? ⟨g, 3, none⟩ = some (.slice (some ⟨gl, 0, none⟩) n cap) ∧ w'.cell? ⟨gl, k * 6, none⟩ = some (.int .i64 (x.frm : Int)) ∧ w'.cell? ⟨gl, k * 6 + 1, none⟩ = some (.bool x.step.named) ∧ w'.cell? ⟨gl, k * 6 + 2, none⟩ = some (.string x.step.name) ∧ w'.cell? ⟨gl, k * 6 + 3, none⟩ = some (.int .i64 (x.step.idx : Int)) ∧ w'.cell? ⟨gl, k * 6 + 4, none⟩ = some (.int .i64 (x.many : Int)) ∧ w'.cell? ⟨gl, k * 6 + 5, none⟩ = some (.string x.nm)) (ds := [13]) #[false, false, false, false, false, false, false, false, false, false, false, false, false, false] (by kernel_rfl) rfl rfl ⟨LA.out.1, LA.out.2.1, LA.out.2.2.1, LA.out.2.2.2.1, LA.out.2.2.2.2.1, LA.out.2.2.2.2.2.1, LA.out.2.2.2.2.2.2⟩ (fun hHeld => ?_)
  generalize hwd_ : w1.drew = wD at LA BD BR hHeld ⊢
  clear hwd_
  refine pure_ (i := 0) (N := some 16) (v := ?_) (a' := ?_) #[true, false, false, false, false, false, false, false, false, false, false, false, false, false] rfl rfl (by kernel_rfl) (fun _ _ _ h => h) (Or.inl ⟨by rfl, ?_⟩) ?_ ?_
  rotate_left
  · intro w'
    go_simp
    with_reducible rfl
  rotate_left
  · simp only [Act.put, List.setIfInBounds_toArray, List.set_cons_zero, List.set_cons_succ, i64_w, i32_w]
    rfl
  refine pure_ (i := 1) (N := some 17) (v := ?_) (a' := ?_) #[true, true, false, false, false, false, false, false, false, false, false, false, false, false] rfl rfl (by kernel_rfl) (fun _ _ _ h => h) (Or.inl ⟨by rfl, ?_⟩) ?_ ?_
  rotate_left
  · intro w'
    go_simp
    with_reducible rfl
  rotate_left
  · simp only [Act.put, List.setIfInBounds_toArray, List.set_cons_zero, List.set_cons_succ, i64_w, i32_w]
    rfl
  refine pure_ (i := 2) (N := some 18) (v := ?_) (a' := ?_) #[true, true, true, false, false, false, false, false, false, false, false, false, false, false] rfl rfl (by kernel_rfl) (fun _ _ _ h => h) (Or.inl ⟨by rfl, ?_⟩) ?_ ?_
  rotate_left
  · intro w'
    go_simp
    with_reducible rfl
  rotate_left
  · simp only [Act.put, List.setIfInBounds_toArray, List.set_cons_zero, List.set_cons_succ, i64_w, i32_w]
    rfl
  refine pure_ (i := 4) (N := some 20) (v := ?_) (a' := ?_) #[true, true, true, false, true, false, false, false, false, false, false, false, false, false] rfl rfl (by kernel_rfl) (fun _ _ _ h => h) (Or.inl ⟨by rfl, ?_⟩) ?_ ?_
  rotate_left
  · intro w'
    go_simp
    with_reducible rfl
  rotate_left
  · simp only [Act.put, List.setIfInBounds_toArray, List.set_cons_zero, List.set_cons_succ, i64_w, i32_w]
    rfl
  refine pure_ (i := 5) (N := some 21) (v := ?_) (a' := ?_) #[true, true, true, false, true, true, false, false, false, false, false, false, false, false] rfl rfl (by kernel_rfl) (fun _ _ _ h => h) (Or.inl ⟨by rfl, ?_⟩) ?_ ?_
  rotate_left
  · intro w'
    go_simp
    with_reducible rfl
  rotate_left
  · simp only [Act.put, List.setIfInBounds_toArray, List.set_cons_zero, List.set_cons_succ, i64_w, i32_w]
    rfl
  refine pure_ (i := 6) (N := some 22) (v := ?_) (a' := ?_) #[true, true, true, false, true, true, true, false, false, false, false, false, false, false] rfl rfl (by kernel_rfl) (fun _ _ _ h => h) (Or.inl ⟨by rfl, ?_⟩) ?_ ?_
  rotate_left
  · intro w'
    go_simp
    with_reducible rfl
  rotate_left
  · simp only [Act.put, List.setIfInBounds_toArray, List.set_cons_zero, List.set_cons_succ, i64_w, i32_w]
    rfl
  refine take_ (i := 3) (N := some 19) (v := ?_) (a' := ?_) #[true, true, true, true, true, true, true, false, false, false, false, false, false, false] rfl rfl (by kernel_rfl) (fun _ _ _ h => h) (Or.inl ⟨by rfl, ?_⟩) hHeld ?_ ?_
  rotate_left
  · rintro w' ⟨s0, s1, s2, s3, s4, s5, s6⟩
    go_simp
    with_reducible rfl
  rotate_left
  · simp only [Act.put, List.setIfInBounds_toArray, List.set_cons_zero, List.set_cons_succ, i64_w, i32_w]
    rfl
  refine take_ (i := 7) (N := some 23) (v := ?_) (a' := ?_) #[true, true, true, true, true, true, true, true, false, false, false, false, false, false] rfl rfl (by kernel_rfl) (fun _ _ _ h => h) (Or.inl ⟨by rfl, ?_⟩) hHeld ?_ ?_
  rotate_left
  · rintro w' ⟨s0, s1, s2, s3, s4, s5, s6⟩
    go_simp
    with_reducible rfl
  rotate_left
  · simp only [Act.put, List.setIfInBounds_toArray, List.set_cons_zero, List.set_cons_succ, i64_w, i32_w]
    rfl
  refine pure_ (i := 8) (N := some 24) (v := ?_) (a' := ?_) #[true, true, true, true, true, true, true, true, true, false, false, false, false, false] rfl rfl (by kernel_rfl) (fun _ _ _ h => h) (Or.inl ⟨by rfl, ?_⟩) ?_ ?_
  rotate_left
  · intro w'
    go_simp
    with_reducible rfl
  rotate_left
  · simp only [Act.put, List.setIfInBounds_toArray, List.set_cons_zero, List.set_cons_succ, i64_w, i32_w]
    rfl
  refine pure_ (i := 9) (N := some 25) (v := ?_) (a' := ?_) #[true, true, true, true, true, true, true, true, true, true, false, false, false, false] rfl rfl (by kernel_rfl) (fun _ _ _ h => h) (Or.inl ⟨by rfl, ?_⟩) ?_ ?_
  rotate_left
  · intro w'
    go_simp
    with_reducible rfl
  rotate_left
  · simp only [Act.put, List.setIfInBounds_toArray, List.set_cons_zero, List.set_cons_succ, i64_w, i32_w]
    rfl
  refine pure_ (i := 10) (N := some 26) (v := ?_) (a' := ?_) #[true, true, true, true, true, true, true, true, true, true, true, false, false, false] rfl rfl (by kernel_rfl) (fun _ _ _ h => h) (Or.inl ⟨by rfl, ?_⟩) ?_ ?_
  rotate_left
  · intro w'
    go_simp
    with_reducible rfl
  rotate_left
  · simp only [Act.put, List.setIfInBounds_toArray, List.set_cons_zero, List.set_cons_succ, i64_w, i32_w]
    rfl
  refine take_ (i := 11) (N := some 27) (v := ?_) (a' := ?_) #[true, true, true, true, true, true, true, true, true, true, true, true, false, false] rfl rfl (by kernel_rfl) (fun _ _ _ h => h) (Or.inl ⟨by rfl, ?_⟩) hHeld ?_ ?_
  rotate_left
  · rintro w' ⟨s0, s1, s2, s3, s4, s5, s6⟩
    go_simp
    with_reducible rfl
  rotate_left
  · simp only [Act.put, List.setIfInBounds_toArray, List.set_cons_zero, List.set_cons_succ, i64_w, i32_w]
    rfl
  refine one_ (i := 12) (N := some 5) #[true, true, true, true, true, true, true, true, true, true, true, true, true, false] rfl rfl (by kernel_rfl) (by decide) (fun K hK => ?_)
  refine value_ (w1 := ?_) (v := ?_) (by rfl) rfl ?_ ?_
  rotate_left 2
  · go_simp
    constructor
    · rfl
    · rfl
  generalize hg7 : World.alloc wD _ = w5
  have LA5 : Aside0 (LvAt w5 g gl k cap n x) := ⟨by subst hg7; exact LA.out.below (below_alloc (Below.refl _ _) _)⟩
  have BK : Aside0 (w5.heap[wD.heap.size]? = some (.cells (lvCells lv0).toArray 161 (0, 0))) := ⟨by subst hg7; exact blk_new wD _⟩
  have B5 : Aside0 (Below W.heap.size W w5) := ⟨by subst hg7; exact BD.out.trans ((below_alloc (Below.refl _ _) _).mono BD.out.size)⟩
  have BR5 : Aside0 (w5.heap[W.heap.size]? = some (.cells #[.bool false, .string ⟨#[]⟩, .int .i64 0] 26 (0, 0))) := ⟨by subst hg7; exact (Lib.alloc_old wD _ _ (blk_lt BR.out)).trans BR.out⟩
  have N3 : ¬ W.heap.size = wD.heap.size := Nat.ne_of_lt (blk_lt BR.out)
  have N4 : ¬ wD.heap.size = W.heap.size := Nat.ne_of_gt (blk_lt BR.out)
  clear hg7
  obtain ⟨x0, x1, x2, x3, x4, x5⟩ := lv_cells BK.out
  have z0 := blk_frozen BK.out 0
  have z1 := blk_frozen BK.out 1
  have z2 := blk_frozen BK.out 2
  have z3 := blk_frozen BK.out 3
  have z4 := blk_frozen BK.out 4
  have z5 := blk_frozen BK.out 5
  refine hK.out _ _ ⟨LA5.out.1, LA5.out.2.1, LA5.out.2.2.1, LA5.out.2.2.2.1, LA5.out.2.2.2.2.1, LA5.out.2.2.2.2.2.1, LA5.out.2.2.2.2.2.2⟩ (fun hHeld => ?_)
  clear hK K
  refine norm_ (a' := ?_) ?_ ?_
  rotate_left
  · show Act.put _ (some 5) _ = _
    simp only [Act.put, List.setIfInBounds_toArray, List.set_cons_zero, List.set_cons_succ, i64_w, i32_w]
    rfl
  refine last_ (i := 13) (N := none) #[true, true, true, true, true, true, true, true, true, true, true, true, true, true] rfl rfl (by kernel_rfl) (by decide) (fun K hK => ?_)
  refine skip_ (w1 := ?_) (by rfl) rfl ?_ ?_
  rotate_left
  · go_simp
    rfl
  refine hK.out _ _ ?_
  clear hK K
  refine done_ (by kernel_rfl) ?_
  generalize hw3 : World.setCell _ ⟨wD.heap.size, 5, none⟩ _ = w3
  have hw3 : lvPut w5 wD.heap.size x = w3 := hw3
  have BK3 := Aside0.mk (hw3 ▸ lv_put BK.out x)
  have B6 : Aside0 (Below W.heap.size W w3) := ⟨hw3 ▸ B5.out.trans (lv_below w5 _ _ BD.out.size x)⟩
  have BR6 : Aside0 (w3.heap[W.heap.size]? = some (.cells #[.bool false, .string ⟨#[]⟩, .int .i64 0] 26 (0, 0))) := ⟨hw3 ▸ ((lv_below w5 wD.heap.size wD.heap.size (Nat.le_refl _) x).block _ (blk_lt BR.out)).trans BR5.out⟩
  clear hw3 x0 x1 x2 x3 x4 x5 z0 z1 z2 z3 z4 z5
  generalize wD.heap.size = g5 at *
  obtain ⟨x0, x1, x2, x3, x4, x5⟩ := lv_cells BK3.out
  have y0 : w3.cell? ⟨W.heap.size, 0, none⟩ = some (.bool false) := (blk_cell BR6.out 0).trans rfl
  have y1 : w3.cell? ⟨W.heap.size, 1, none⟩ = some (.string ⟨#[]⟩) := (blk_cell BR6.out 1).trans rfl
  have y2 : w3.cell? ⟨W.heap.size, 2, none⟩ = some (.int .i64 0) := (blk_cell BR6.out 2).trans rfl
  have z0 := blk_frozen BR6.out 0
  have z1 := blk_frozen BR6.out 1
  have z2 := blk_frozen BR6.out 2
  cases b with
  | true =>
    go_wp2_with (fail)
    refine bodyPost_ret (results_cell_row rfl _ _ W.heap.size 26 (stpCellsA ⟨true, x.nm, 0⟩) (0, 0) _ rfl (stp_put BR6.out ⟨true, x.nm, 0⟩) Tryd.underlying26 rfl (by kernel_rfl)) rfl ?_
    exact ⟨rfl, stp_below B6.out _ (Nat.le_refl _) ⟨true, x.nm, 0⟩⟩
  | false =>
    go_wp2_with (fail)
    refine bodyPost_ret (results_cell_row rfl _ _ W.heap.size 26 (stpCellsA ⟨false, ⟨#[]⟩, x.many⟩) (0, 0) _ rfl (stp_put BR6.out ⟨false, ⟨#[]⟩, x.many⟩) Tryd.underlying26 rfl (by kernel_rfl)) rfl ?_
    exact ⟨rfl, stp_below B6.out _ (Nat.le_refl _) ⟨false, ⟨#[]⟩, x.many⟩⟩
set_option maxHeartbeats 8000000 in
theorem step_nil {w0 W : World} {g : Nat} {s : NS} {lvv : Value} (h : Nx w0 W g s lvv) (hs : s.stk = []) :
    Calls Tryd.prog 110 #[.pointer (some ⟨g, 0, none⟩)] W fun e w' => e = .returned (stpVal stp0) ∧ Below W.heap.size W w' := by
  have HB : Aside0 (∀ w, Below W.heap.size W w → Calls Tryd.prog 75 #[.pointer (some ⟨g, 1, none⟩)] w fun e w' => e = .returned (.tuple #[.bool false, .bool false]) ∧ w = w') := ⟨fun w hb => by
    have hbb := (h.below hb).bits
    rw [hs] at hbb
    exact top_none _ g w0 w hbb⟩
  clear h hs
  go_enter Tryd.func110, Tryd.ntmps110
  go_wp2_with (fail)
  generalize hw1 : World.alloc W _ = w1
  have BR : Aside0 (w1.heap[W.heap.size]? = some (.cells #[.bool false, .string ⟨#[]⟩, .int .i64 0] 26 (0, 0))) := ⟨by subst hw1; exact blk_new W _⟩
  have B1 : Aside0 (Below W.heap.size W w1) := ⟨by subst hw1; exact below_alloc (Below.refl _ _) _⟩
  clear hw1
  go_at_call 75
  refine (HB.out _ B1.out).mono ?_
  rintro e w2 ⟨rfl, rfl⟩
  have y0 : w1.cell? ⟨W.heap.size, 0, none⟩ = some (.bool false) := (blk_cell BR.out 0).trans rfl
  have y1 : w1.cell? ⟨W.heap.size, 1, none⟩ = some (.string ⟨#[]⟩) := (blk_cell BR.out 1).trans rfl
  have y2 : w1.cell? ⟨W.heap.size, 2, none⟩ = some (.int .i64 0) := (blk_cell BR.out 2).trans rfl
  have z0 := blk_frozen BR.out 0
  have z1 := blk_frozen BR.out 1
  have z2 := blk_frozen BR.out 2
  go_wp2_with (fail)
  refine bodyPost_ret (results_cell_row rfl _ _ W.heap.size 26 (stpCellsA stp0) (0, 0) _ rfl (stp_put BR.out stp0) Tryd.underlying26 rfl (by kernel_rfl)) rfl ?_
  exact ⟨rfl, stp_below B1.out _ (Nat.le_refl _) stp0⟩
theorem step_calls {w0 W : World} {g : Nat} {s : NS} {lvv : Value} (h : Nx w0 W g s lvv) (hn : s.stk.length ≤ 100000) :
    Calls Tryd.prog 110 #[.pointer (some ⟨g, 0, none⟩)] W fun e w' => e = .returned (stpVal (stepV s)) ∧ Below W.heap.size W w' := by
  by_cases hs : s.stk = []
  · rw [show stepV s = stp0 by unfold stepV; rw [hs]; rfl]
    exact step_nil h hs
  · obtain ⟨bs, b, hs2⟩ := snoc_of _ hs
    have hl : s.lv ≠ [] := fun e => by have := h.len; rw [e, hs2] at this; simp at this
    obtain ⟨pre, x, hl2⟩ := snoc_of _ hl
    rw [show stepV s = (if b = true then ⟨true, x.nm, 0⟩ else ⟨false, ⟨#[]⟩, x.many⟩) by unfold stepV; rw [hs2, hl2]; cases b <;> simp]
    exact step_some h bs b pre x hs2 hl2 (by rw [hs2] at hn; simp at hn; omega)
theorem Nx.set4 {w0 W : World} {g : Nat} {s : NS} {v : Value} (h : Nx w0 W g s v) (m : Int) : Nx w0 (W.setCell ⟨g, 4, none⟩ (.int .i64 m)) g { s with may := m } v := by
  obtain ⟨⟨wv, hb, ho, hg⟩, hr, hl⟩ := h
  exact ⟨⟨wv, by simpa using blk_set hb 4 (.int .i64 m), own_setCell ho (own_ne ho hb (by decide)) _, hg⟩, own_setCell hr (own_ne hr hb (by decide)) _, hl⟩
theorem Nx.set5 {w0 W : World} {g : Nat} {s : NS} {v : Value} (h : Nx w0 W g s v) (m : Int) : Nx w0 (W.setCell ⟨g, 5, none⟩ (.int .i64 m)) g { s with begun := m } v := by
  obtain ⟨⟨wv, hb, ho, hg⟩, hr, hl⟩ := h
  exact ⟨⟨wv, by simpa using blk_set hb 5 (.int .i64 m), own_setCell ho (own_ne ho hb (by decide)) _, hg⟩, own_setCell hr (own_ne hr hb (by decide)) _, hl⟩
theorem Nx.set6 {w0 W : World} {g : Nat} {s : NS} {v : Value} (h : Nx w0 W g s v) (m : Bool) : Nx w0 (W.setCell ⟨g, 6, none⟩ (.bool m)) g { s with began := m } v := by
  obtain ⟨⟨wv, hb, ho, hg⟩, hr, hl⟩ := h
  exact ⟨⟨wv, by simpa using blk_set hb 6 (.bool m), own_setCell ho (own_ne ho hb (by decide)) _, hg⟩, own_setCell hr (own_ne hr hb (by decide)) _, hl⟩
theorem own_put {W : World} {B n sz : Nat} {e : TypeId} {gl cap : Nat} {xs : List Value} (h : W.ownsRow B e sz (.slice (some ⟨gl, 0, none⟩) n cap) n xs) (j : Nat) (hj : j < xs.length) (v : Value) : (W.setCell ⟨gl, j, none⟩ v).ownsRow B e sz (.slice (some ⟨gl, 0, none⟩) n cap) n (xs.set j v) := by
  obtain ⟨h1, h2⟩ := h
  refine ⟨by simpa using h1, ?_⟩
  rcases h2 with ⟨h2, _⟩ | ⟨g2, cap2, cur, h2, h3, h4, h5, h6, h7, h8⟩
  · cases h2
  · injection h2 with a b c
    injection a with a
    obtain rfl := (Addr.mk.inj a).1
    subst c
    have hs := blk_set h4 j v
    refine .inr ⟨gl, cap, _, rfl, h3, hs, h5, h6, by simpa using h7, ?_⟩
    rw [← h8]
    have hjn : j < n * sz := by omega
    simp [Array.toList_set, List.take_set, hjn]
theorem flat_len (l : List Lv) : (l.flatMap lvCells).length = l.length * 6 := by
  induction l with
  | nil => rfl
  | cons a r ih => rw [List.flatMap_cons, List.length_append, ih]; simp [lvCells]; omega
/-- A level's row, and what it does to the Nest. -/
theorem Nx.lvset {w0 W : World} {g gl cap k j : Nat} {s : NS} {pre : List Lv} {x y : Lv} {v : Value} (h : Nx w0 W g s (.slice (some ⟨gl, 0, none⟩) (k + 1) cap)) (hl : s.lv = pre ++ [x]) (hk : pre.length = k) (hj : j < 6) (hy : (lvCells x).set j v = lvCells y) :
    Nx w0 (W.setCell ⟨gl, k * 6 + j, none⟩ v) g { s with lv := pre ++ [y] } (.slice (some ⟨gl, 0, none⟩) (k + 1) cap) ∧ KeepN g W (W.setCell ⟨gl, k * 6 + j, none⟩ v) ∧ w0.heap.size ≤ gl ∧ gl ≠ g := by
  obtain ⟨⟨wv, hb, ho, hg⟩, hr, hln⟩ := h
  rw [hl] at hr hln
  rw [show (pre ++ [x]).length = k + 1 by simp [hk]] at hr
  obtain ⟨gl2, cap2, he, hgl, cur, hcur, _⟩ := own_pos hr
  injection he with a1 b1 c1
  injection a1 with a1
  obtain rfl := (Addr.mk.inj a1).1
  have hne : gl ≠ g := fun e => own_ne hr hb (by decide) (by rw [e]; rfl)
  have hset := own_put hr (k * 6 + j) (by rw [flat_len]; simp [hk]; omega) v
  rw [List.flatMap_append, List.set_append_right _ _ (by rw [flat_len, hk]; omega), flat_len, hk, show k * 6 + j - k * 6 = j by omega] at hset
  rw [show ([x] : List Lv).flatMap lvCells = lvCells x by simp, hy] at hset
  have ho2 : (W.setCell ⟨gl, k * 6 + j, none⟩ v).ownsRow w0.heap.size 169 1 wv (mw s.stk.length) (nums .u64 (pk (mw s.stk.length) s.stk)) := own_setCell ho (own_ne ho hcur (by decide)) _
  refine ⟨⟨⟨wv, ?_, ho2, hg⟩, ?_, ?_⟩, ⟨by simp [World.setCell], fun q hq hqg _ hq2 => ?_⟩, hgl, hne⟩
  · exact blk_far hb (p := ⟨gl, k * 6 + j, none⟩) (fun e => hne e.symm) _
  · rw [show ((pre ++ [y]).flatMap lvCells) = pre.flatMap lvCells ++ lvCells y by simp, show (pre ++ [y]).length = k + 1 by simp [hk]]
    exact hset
  · simpa using hln
  · refine Below.heap_setCell W ⟨gl, k * 6 + j, none⟩ v q (fun e => ?_)
    rw [e] at hq2
    exact hq2 _ _ hcur
set_option maxHeartbeats 8000000 in
set_option maxRecDepth 100000 in
theorem ended_calls {w0 W : World} {g : Nat} {s : NS} {lvv : Value} (h : Nx w0 W g s lvv) (hn : s.stk.length ≤ 100000) (hm : ∀ l ∈ s.lv, l.many ≤ 1000000) :
    Calls Tryd.prog 111 #[.pointer (some ⟨g, 0, none⟩)] W fun e w' => e = .returned (.tuple #[]) ∧ Nx w0 w' g (endedV s) lvv ∧ Below w0.heap.size W w' ∧ KeepN g W w' ∧ ∀ k, k < W.heap.size → k ≠ g → lvv.ownBlock ≠ some k → w'.heap[k]? = W.heap[k]? := by
  have HL := Aside0.mk (len_calls _ g _ s.stk w0 W h.bits)
  by_cases hs : s.stk = []
  · have E := Aside0.mk (show endedV s = { s with may := 6 } by unfold endedV; rw [if_pos hs])
    have H := Aside0.mk h
    obtain ⟨wv, hb⟩ := h.blk
    have c4 := (blk_cell hb 4).trans rfl
    have z4 := blk_frozen hb 4
    rw [show (s.stk.length : Int) = 0 by rw [hs]; rfl] at HL
    clear h hs hn hm hb
    go_enter Tryd.func111, Tryd.ntmps111
    go_wp2_with (fail)
    go_at_call 79
    refine HL.out.mono ?_
    rintro e w2 ⟨rfl, rfl⟩
    go_wp2_with (fail)
    refine bodyPost_ret (results_none (by rfl) _ _ _) rfl ?_
    rw [E.out]
    exact ⟨rfl, H.out.set4 6, (Below.refl _ _).setCell (p := ⟨g, 4, none⟩) H.out.ge _, KeepN.set_ _ _ _, fun k _ hk _ => Below.heap_setCell _ ⟨g, 4, none⟩ _ k hk⟩
  · obtain ⟨bs, b, hs2⟩ := snoc_of _ hs
    have hlne : s.lv ≠ [] := fun e => by have := h.len; rw [e, hs2] at this; simp at this
    obtain ⟨pre, x, hl2⟩ := snoc_of _ hlne
    have E := Aside0.mk (show endedV s = { s with lv := pre ++ [{ x with many := x.many + 1 }], may := 5 } by unfold endedV; rw [if_neg hs, hl2, bump_snoc])
    obtain ⟨k, hk⟩ : ∃ k, pre.length = k := ⟨_, rfl⟩
    have hr := h.row
    rw [hl2] at hr
    obtain ⟨gl, cap, rfl, hgl, _, _, _⟩ := own_pos hr
    rw [show (pre ++ [x]).length = k + 1 by simp [hk]] at h hr ⊢
    have LA0 := lvAt_of h hl2 hk
    have H := Aside0.mk h
    have HK := Aside0.mk (And.intro hl2 hk)
    have hxm : x.many ≤ 1000000 := hm x (by rw [hl2]; simp)
    have hkn : k < 100001 := by have := h.len; rw [hl2] at this; simp at this; omega
    obtain ⟨n, hnn⟩ : ∃ n, n = k + 1 := ⟨_, rfl⟩
    rw [← hnn] at LA0
    have HNN := Aside0.mk hnn
    obtain ⟨c3, x0, x1, x2, x3, x4, x5⟩ := LA0
    have n1 : wrap64 ((n : Int) - 1) = (k : Int) := by unfold wrap64; omega
    have n2 : (0 : Int) ≤ (k : Int) := by omega
    have n3 : (k : Int) < (n : Int) := by omega
    have n4 : (k < n) = True := eq_true (by omega)
    have n5 : (n : Int) - 1 = (k : Int) := by omega
    have n6 : IntKind.i64.wrap (k : Int) = (k : Int) := IntWalk.i64_in _ (by omega)
    have m1 : wrap64 ((x.many : Int) + 1) = (x.many : Int) + 1 := by unfold wrap64; omega
    have zl : W.frozen? ⟨gl, k * 6 + 4, none⟩ = false := by
      obtain ⟨gl2, cap2, he, _, cur, hcur, _⟩ := own_pos hr
      injection he with a1 b1 c1
      injection a1 with a1
      obtain rfl := (Addr.mk.inj a1).1
      exact blk_frozen hcur _
    have e0 : ((s.stk.length : Int) == 0) = false := by rw [hs2]; simp; omega
    have e1 : decide ((s.stk.length : Int) = 0) = false := by rw [hs2]; simp; omega
    generalize (s.stk.length : Int) = sl at *
    clear h hr hs hs2 hl2 hlne hk hkn hn hnn hgl hm hxm
    go_enter Tryd.func111, Tryd.ntmps111
    go_wp2_with (fail)
    go_at_call 79
    refine HL.out.mono ?_
    rintro e w2 ⟨rfl, rfl⟩
    go_upto_region 2 with (fail)
    refine ListedB.wp_region_listed (G := []) (by kernel_rfl) (by kernel_rfl) ?_
    go_wp2_with (fail)
    refine ListedB.fin_intro (by kernel_rfl) ?_
    obtain ⟨h1, h2, h3, h4⟩ := H.out.lvset (j := 4) (v := .int .i64 ((x.many : Int) + 1)) (y := { x with many := x.many + 1 }) HK.out.1 HK.out.2 (by decide) rfl
    generalize hw3 : World.setCell W ⟨gl, k * 6 + 4, none⟩ _ = w3
    rw [hw3] at h1 h2
    have B3 : Aside0 (Below w0.heap.size W w3) := ⟨by subst hw3; exact (Below.refl _ _).setCell (p := ⟨gl, k * 6 + 4, none⟩) h3 _⟩
    have X3 : Aside0 (∀ q, q ≠ gl → w3.heap[q]? = W.heap[q]?) := ⟨fun q hq => by subst hw3; exact Below.heap_setCell W ⟨gl, k * 6 + 4, none⟩ _ q hq⟩
    have N3 := Aside0.mk (Nx.below h1 (Below.refl w3.heap.size w3).drew)
    have K3 := Aside0.mk (h2.trans (KeepN.of_below (Below.refl w3.heap.size w3).drew))
    clear hw3 h1 h2 h3 h4 c3 x0 x1 x2 x3 x4 x5 zl
    obtain ⟨wv, hb⟩ := N3.out.blk
    have c4 := (blk_cell hb 4).trans rfl
    have z4 := blk_frozen hb 4
    clear hb
    go_wp2_with (fail)
    go_end0
    rw [E.out]
    exact ⟨rfl, N3.out.set4 5, B3.out.drew.trans ((Below.refl _ _).setCell (p := ⟨g, 4, none⟩) H.out.ge _), K3.out.trans (KeepN.set_ _ _ _), fun q _ hq hq2 => (Below.heap_setCell _ ⟨g, 4, none⟩ _ q hq).trans (X3.out q (fun e => hq2 (by rw [e]; rfl)))⟩
end Go.Proofs.YtlhpflicchchlaaDoor.Nx
