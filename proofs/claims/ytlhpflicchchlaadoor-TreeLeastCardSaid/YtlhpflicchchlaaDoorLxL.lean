/- A Lexer's own cells; lex.Lexer.end, walked. Conditions: none. -/
import Derived.Test.YtlhpflicchchlaaDoorLxQA1
namespace Go.Proofs.YtlhpflicchchlaaDoor.LxQ
open Go.RowKit Go.Proofs.YtlhpflicchchlaaDoorW.PrintWords Go.Proofs.YtlhpflicchchlaaDoorW.PrintLast Go.Proofs.YtlhpflicchchlaaDoorW.PrintMore
attribute [local go_sem] max2_int min2_int max_two min_two max_three min_three max_four min_four
set_option linter.unusedVariables false
set_option linter.unusedSimpArgs false
section
variable {W : World} {b : Nat} {p : LP} {a l lo hi sg : Int} {tx : Value} {le un fi : Int}
theorem IsB.p0 (h : IsB W b p a l lo hi sg tx le un fi) : W.cell? ⟨b, 0, none⟩ = some (.int .i64 p.at_) := (blk_cell h.1 0).trans rfl
theorem IsB.p1 (h : IsB W b p a l lo hi sg tx le un fi) : W.cell? ⟨b, 1, none⟩ = some (.int .i64 p.frm) := (blk_cell h.1 1).trans rfl
theorem IsB.p2 (h : IsB W b p a l lo hi sg tx le un fi) : W.cell? ⟨b, 2, none⟩ = some (.int .i64 p.within) := (blk_cell h.1 2).trans rfl
theorem IsB.p3 (h : IsB W b p a l lo hi sg tx le un fi) : W.cell? ⟨b, 3, none⟩ = some (.bool p.ended) := (blk_cell h.1 3).trans rfl
theorem IsB.p4 (h : IsB W b p a l lo hi sg tx le un fi) : W.cell? ⟨b, 4, none⟩ = some p.text := (blk_cell h.1 4).trans rfl
theorem IsB.p5 (h : IsB W b p a l lo hi sg tx le un fi) : W.cell? ⟨b, 5, none⟩ = some (.int .i64 p.num) := (blk_cell h.1 5).trans rfl
theorem IsB.p6 (h : IsB W b p a l lo hi sg tx le un fi) : W.cell? ⟨b, 6, none⟩ = some (.int .i64 p.which) := (blk_cell h.1 6).trans rfl
theorem IsB.p7 (h : IsB W b p a l lo hi sg tx le un fi) : W.cell? ⟨b, 7, none⟩ = some (.int .i64 p.wat) := (blk_cell h.1 7).trans rfl
theorem IsB.w0 (h : IsB W b p a l lo hi sg tx le un fi) (x : Int) : IsB (W.setCell ⟨b, 0, none⟩ (.int .i64 x)) b { p with at_ := x } a l lo hi sg tx le un fi := ⟨by simpa using blk_set h.1 0 (.int .i64 x), by simpa [World.setCell] using h.2⟩
theorem IsB.w1 (h : IsB W b p a l lo hi sg tx le un fi) (x : Int) : IsB (W.setCell ⟨b, 1, none⟩ (.int .i64 x)) b { p with frm := x } a l lo hi sg tx le un fi := ⟨by simpa using blk_set h.1 1 (.int .i64 x), by simpa [World.setCell] using h.2⟩
theorem IsB.w2 (h : IsB W b p a l lo hi sg tx le un fi) (x : Int) : IsB (W.setCell ⟨b, 2, none⟩ (.int .i64 x)) b { p with within := x } a l lo hi sg tx le un fi := ⟨by simpa using blk_set h.1 2 (.int .i64 x), by simpa [World.setCell] using h.2⟩
theorem IsB.w3 (h : IsB W b p a l lo hi sg tx le un fi) (x : Bool) : IsB (W.setCell ⟨b, 3, none⟩ (.bool x)) b { p with ended := x } a l lo hi sg tx le un fi := ⟨by simpa using blk_set h.1 3 (.bool x), by simpa [World.setCell] using h.2⟩
theorem IsB.w4 (h : IsB W b p a l lo hi sg tx le un fi) (x : Value) : IsB (W.setCell ⟨b, 4, none⟩ x) b { p with text := x } a l lo hi sg tx le un fi := ⟨by simpa using blk_set h.1 4 x, by simpa [World.setCell] using h.2⟩
theorem IsB.w5 (h : IsB W b p a l lo hi sg tx le un fi) (x : Int) : IsB (W.setCell ⟨b, 5, none⟩ (.int .i64 x)) b { p with num := x } a l lo hi sg tx le un fi := ⟨by simpa using blk_set h.1 5 (.int .i64 x), by simpa [World.setCell] using h.2⟩
theorem IsB.w6 (h : IsB W b p a l lo hi sg tx le un fi) (x : Int) : IsB (W.setCell ⟨b, 6, none⟩ (.int .i64 x)) b { p with which := x } a l lo hi sg tx le un fi := ⟨by simpa using blk_set h.1 6 (.int .i64 x), by simpa [World.setCell] using h.2⟩
theorem IsB.w7 (h : IsB W b p a l lo hi sg tx le un fi) (x : Int) : IsB (W.setCell ⟨b, 7, none⟩ (.int .i64 x)) b { p with wat := x } a l lo hi sg tx le un fi := ⟨by simpa using blk_set h.1 7 (.int .i64 x), by simpa [World.setCell] using h.2⟩
theorem IsB.raise (h : IsB W b p a l lo hi sg tx le un fi) : IsB W b { p with B := W.heap.size } a l lo hi sg tx le un fi := ⟨h.1, Nat.le_refl _⟩
theorem IsB.keep (h : IsB W b p a l lo hi sg tx le un fi) {W' : World} (hb : W'.heap[b]? = W.heap[b]?) (hs : W.heap.size ≤ W'.heap.size) : IsB W' b p a l lo hi sg tx le un fi := ⟨hb.trans h.1, Nat.le_trans h.2 hs⟩
theorem IsB.same (h : IsB W b p a l lo hi sg tx le un fi) {p' : LP} (hp : p = p') : IsB W b p' a l lo hi sg tx le un fi := hp ▸ h
end
theorem tok_cells {W : World} {g : Nat} {k : Int} {bg : Bool} {f t : Int} {s : ByteArray} (h : W.heap[g]? = some (.cells #[.int .i64 k, .bool bg, .int .i64 f, .int .i64 t, .string s] 39 (0, 0))) :
    W.cell? ⟨g, 0, none⟩ = some (.int .i64 k) ∧ W.cell? ⟨g, 1, none⟩ = some (.bool bg) ∧ W.cell? ⟨g, 2, none⟩ = some (.int .i64 f) ∧ W.cell? ⟨g, 3, none⟩ = some (.int .i64 t) ∧ W.cell? ⟨g, 4, none⟩ = some (.string s) :=
  ⟨(blk_cell h 0).trans rfl, (blk_cell h 1).trans rfl, (blk_cell h 2).trans rfl, (blk_cell h 3).trans rfl, (blk_cell h 4).trans rfl⟩
def tokPut (W : World) (g : Nat) (k : Int) (bg : Bool) (f t : Int) (s : ByteArray) : World :=
  ((((W.setCell ⟨g, 0, none⟩ (.int .i64 k)).setCell ⟨g, 1, none⟩ (.bool bg)).setCell ⟨g, 2, none⟩ (.int .i64 f)).setCell ⟨g, 3, none⟩ (.int .i64 t)).setCell ⟨g, 4, none⟩ (.string s)
theorem tok_put {W : World} {g : Nat} {k : Int} {bg : Bool} {f t : Int} {s : ByteArray} (h : W.heap[g]? = some (.cells #[.int .i64 k, .bool bg, .int .i64 f, .int .i64 t, .string s] 39 (0, 0))) (k' : Int) (bg' : Bool) (f' t' : Int) (s' : ByteArray) :
    (tokPut W g k' bg' f' t' s').heap[g]? = some (.cells #[.int .i64 k', .bool bg', .int .i64 f', .int .i64 t', .string s'] 39 (0, 0)) := by
  have h1 := blk_set h 0 (.int .i64 k')
  have h2 := blk_set h1 1 (.bool bg')
  have h3 := blk_set h2 2 (.int .i64 f')
  have h4 := blk_set h3 3 (.int .i64 t')
  have h5 := blk_set h4 4 (.string s')
  simpa [tokPut] using h5
theorem tok_other (W : World) (g : Nat) (k : Int) (bg : Bool) (f t : Int) (s : ByteArray) (j : Nat) (hj : j ≠ g) : (tokPut W g k bg f t s).heap[j]? = W.heap[j]? := by
  unfold tokPut
  rw [Below.heap_setCell _ _ _ _ (fun e => hj (by simp [e])), Below.heap_setCell _ _ _ _ (fun e => hj (by simp [e])), Below.heap_setCell _ _ _ _ (fun e => hj (by simp [e])), Below.heap_setCell _ _ _ _ (fun e => hj (by simp [e])), Below.heap_setCell _ _ _ _ (fun e => hj (by simp [e]))]
theorem tok_below (W : World) (B g : Nat) (hB : B ≤ g) (k : Int) (bg : Bool) (f t : Int) (s : ByteArray) : Below B W (tokPut W g k bg f t s) := by
  unfold tokPut
  exact (((((Below.refl B W).setCell (p := ⟨g, 0, none⟩) hB _).setCell (p := ⟨g, 1, none⟩) hB _).setCell (p := ⟨g, 2, none⟩) hB _).setCell (p := ⟨g, 3, none⟩) hB _).setCell (p := ⟨g, 4, none⟩) hB _
theorem tok_size (W : World) (g : Nat) (k : Int) (bg : Bool) (f t : Int) (s : ByteArray) : (tokPut W g k bg f t s).heap.size = W.heap.size := by simp [tokPut, World.setCell]
theorem KeepB.tok {b : Nat} {W W1 : World} (h : KeepB b W W1) (g : Nat) (hb : b ≤ g) (hg : W.heap.size ≤ g) (k : Int) (bg : Bool) (f t : Int) (s : ByteArray) : KeepB b W (tokPut W1 g k bg f t s) :=
  ⟨h.below.trans (tok_below W1 b g hb k bg f t s), by rw [tok_size]; exact h.size, fun j hj hne => (tok_other W1 g k bg f t s j (by omega)).trans (h.block j hj hne)⟩
set_option maxHeartbeats 8000000 in
set_option maxRecDepth 100000 in
theorem end_calls {W : World} {b : Nat} {p : LP} {a l lo hi sg : Int} {tx : Value} {le un fi : Int} (h : IsB W b p a l lo hi sg tx le un fi) (te : Int) (s : ByteArray) :
    Calls Tryd.prog 100 #[.pointer (some ⟨b, 0, none⟩), .int .i64 te, .string s] W fun e w' => e = .returned (.agg #[.int .i64 p.within, .bool false, .int .i64 p.frm, .int .i64 te, .string s]) ∧ IsB w' b { p with within := 0 } a l lo hi sg tx le un fi ∧ KeepB b W w' := by
  have H0 := Aside0.mk h
  clear h
  go_enter Tryd.func100, Tryd.ntmps100
  go_upto_region 1 with (fail)
  generalize hg : World.alloc W _ = w1
  have HB1 : Aside0 (IsB w1 b p a l lo hi sg tx le un fi) := ⟨by subst hg; exact H0.out.kept (below_alloc (Below.refl _ _) _)⟩
  have K1 : Aside0 (KeepB b W w1) := ⟨by subst hg; exact (KeepB.refl b W).of_below (Nat.le_of_lt H0.out.lt) (below_alloc (Below.refl _ _) _)⟩
  have BK6 : Aside0 (w1.heap[W.heap.size]? = some (.cells #[.int .i64 0, .bool false, .int .i64 0, .int .i64 0, .string ⟨#[]⟩] 39 (0, 0))) := ⟨by subst hg; exact blk_new _ _⟩
  have N5 : ¬ b = W.heap.size := Nat.ne_of_lt H0.out.lt
  have N6 : ¬ W.heap.size = b := Nat.ne_of_gt H0.out.lt
  clear hg
  have HB1 : Aside0 (IsB w1.drew b p a l lo hi sg tx le un fi) := ⟨HB1.out⟩
  have K1 : Aside0 (KeepB b W w1.drew) := ⟨⟨K1.out.below.drew, K1.out.size, K1.out.block⟩⟩
  have BK6 : Aside0 (w1.drew.heap[W.heap.size]? = some (.cells #[.int .i64 0, .bool false, .int .i64 0, .int .i64 0, .string ⟨#[]⟩] 39 (0, 0))) := ⟨BK6.out⟩
  refine start_ (n := 13) (S := fun w' => w'.cell? ⟨b, 1, none⟩ = some (.int .i64 p.frm) ∧ w'.cell? ⟨b, 2, none⟩ = some (.int .i64 p.within)) (ds := [12]) #[false, false, false, false, false, false, false, false, false, false, false, false, false] (by kernel_rfl) rfl rfl ⟨HB1.out.p1, HB1.out.p2⟩ (fun hHeld => ?_)
  generalize hwd_ : w1.drew = wD at HB1 K1 BK6 hHeld ⊢
  clear hwd_
  refine pure_ (i := 0) (N := some 8) (v := ?_) (a' := ?_) #[true, false, false, false, false, false, false, false, false, false, false, false, false] rfl rfl (by kernel_rfl) (fun _ _ _ h => h) (Or.inl ⟨by rfl, ?_⟩) ?_ ?_
  rotate_left
  · intro w'
    go_simp
    with_reducible rfl
  rotate_left
  · simp only [Act.put, List.setIfInBounds_toArray, List.set_cons_zero, List.set_cons_succ, i64_w, i32_w]
    rfl
  refine pure_ (i := 1) (N := some 9) (v := ?_) (a' := ?_) #[true, true, false, false, false, false, false, false, false, false, false, false, false] rfl rfl (by kernel_rfl) (fun _ _ _ h => h) (Or.inl ⟨by rfl, ?_⟩) ?_ ?_
  rotate_left
  · intro w'
    go_simp
    with_reducible rfl
  rotate_left
  · simp only [Act.put, List.setIfInBounds_toArray, List.set_cons_zero, List.set_cons_succ, i64_w, i32_w]
    rfl
  refine pure_ (i := 2) (N := some 10) (v := ?_) (a' := ?_) #[true, true, true, false, false, false, false, false, false, false, false, false, false] rfl rfl (by kernel_rfl) (fun _ _ _ h => h) (Or.inl ⟨by rfl, ?_⟩) ?_ ?_
  rotate_left
  · intro w'
    go_simp
    with_reducible rfl
  rotate_left
  · simp only [Act.put, List.setIfInBounds_toArray, List.set_cons_zero, List.set_cons_succ, i64_w, i32_w]
    rfl
  refine pure_ (i := 4) (N := some 12) (v := ?_) (a' := ?_) #[true, true, true, false, true, false, false, false, false, false, false, false, false] rfl rfl (by kernel_rfl) (fun _ _ _ h => h) (Or.inl ⟨by rfl, ?_⟩) ?_ ?_
  rotate_left
  · intro w'
    go_simp
    with_reducible rfl
  rotate_left
  · simp only [Act.put, List.setIfInBounds_toArray, List.set_cons_zero, List.set_cons_succ, i64_w, i32_w]
    rfl
  refine pure_ (i := 5) (N := some 13) (v := ?_) (a' := ?_) #[true, true, true, false, true, true, false, false, false, false, false, false, false] rfl rfl (by kernel_rfl) (fun _ _ _ h => h) (Or.inl ⟨by rfl, ?_⟩) ?_ ?_
  rotate_left
  · intro w'
    go_simp
    with_reducible rfl
  rotate_left
  · simp only [Act.put, List.setIfInBounds_toArray, List.set_cons_zero, List.set_cons_succ, i64_w, i32_w]
    rfl
  refine pure_ (i := 6) (N := some 14) (v := ?_) (a' := ?_) #[true, true, true, false, true, true, true, false, false, false, false, false, false] rfl rfl (by kernel_rfl) (fun _ _ _ h => h) (Or.inl ⟨by rfl, ?_⟩) ?_ ?_
  rotate_left
  · intro w'
    go_simp
    with_reducible rfl
  rotate_left
  · simp only [Act.put, List.setIfInBounds_toArray, List.set_cons_zero, List.set_cons_succ, i64_w, i32_w]
    rfl
  refine pure_ (i := 8) (N := some 16) (v := ?_) (a' := ?_) #[true, true, true, false, true, true, true, false, true, false, false, false, false] rfl rfl (by kernel_rfl) (fun _ _ _ h => h) (Or.inl ⟨by rfl, ?_⟩) ?_ ?_
  rotate_left
  · intro w'
    go_simp
    with_reducible rfl
  rotate_left
  · simp only [Act.put, List.setIfInBounds_toArray, List.set_cons_zero, List.set_cons_succ, i64_w, i32_w]
    rfl
  refine pure_ (i := 9) (N := some 17) (v := ?_) (a' := ?_) #[true, true, true, false, true, true, true, false, true, true, false, false, false] rfl rfl (by kernel_rfl) (fun _ _ _ h => h) (Or.inl ⟨by rfl, ?_⟩) ?_ ?_
  rotate_left
  · intro w'
    go_simp
    with_reducible rfl
  rotate_left
  · simp only [Act.put, List.setIfInBounds_toArray, List.set_cons_zero, List.set_cons_succ, i64_w, i32_w]
    rfl
  refine take_ (i := 3) (N := some 11) (v := ?_) (a' := ?_) #[true, true, true, true, true, true, true, false, true, true, false, false, false] rfl rfl (by kernel_rfl) (fun _ _ _ h => h) (Or.inl ⟨by rfl, ?_⟩) hHeld ?_ ?_
  rotate_left
  · rintro w' ⟨s0, s1⟩
    go_simp
    with_reducible rfl
  rotate_left
  · simp only [Act.put, List.setIfInBounds_toArray, List.set_cons_zero, List.set_cons_succ, i64_w, i32_w]
    rfl
  refine take_ (i := 7) (N := some 15) (v := ?_) (a' := ?_) #[true, true, true, true, true, true, true, true, true, true, false, false, false] rfl rfl (by kernel_rfl) (fun _ _ _ h => h) (Or.inl ⟨by rfl, ?_⟩) hHeld ?_ ?_
  rotate_left
  · rintro w' ⟨s0, s1⟩
    go_simp
    with_reducible rfl
  rotate_left
  · simp only [Act.put, List.setIfInBounds_toArray, List.set_cons_zero, List.set_cons_succ, i64_w, i32_w]
    rfl
  refine pure_ (i := 10) (N := some 18) (v := ?_) (a' := ?_) #[true, true, true, true, true, true, true, true, true, true, true, false, false] rfl rfl (by kernel_rfl) (fun _ _ _ h => h) (Or.inl ⟨by rfl, ?_⟩) ?_ ?_
  rotate_left
  · intro w'
    go_simp
    with_reducible rfl
  rotate_left
  · simp only [Act.put, List.setIfInBounds_toArray, List.set_cons_zero, List.set_cons_succ, i64_w, i32_w]
    rfl
  refine one_ (i := 11) (N := some 7) #[true, true, true, true, true, true, true, true, true, true, true, true, false] rfl rfl (by kernel_rfl) (by decide) (fun K hK => ?_)
  refine value_ (w1 := ?_) (v := ?_) (by rfl) rfl ?_ ?_
  rotate_left 2
  · go_simp
    constructor
    · rfl
    · rfl
  generalize hg7 : World.alloc wD _ = w2
  have HB2 : Aside0 (IsB w2 b p a l lo hi sg tx le un fi) := ⟨by subst hg7; exact HB1.out.kept (below_alloc (Below.refl _ _) _)⟩
  have K2 : Aside0 (KeepB b W w2) := ⟨by subst hg7; exact K1.out.of_below (Nat.le_of_lt HB1.out.lt) (below_alloc (Below.refl _ _) _)⟩
  have BK7 : Aside0 (w2.heap[wD.heap.size]? = some (.cells #[.int .i64 0, .bool false, .int .i64 0, .int .i64 0, .string ⟨#[]⟩] 39 (0, 0))) := ⟨by subst hg7; exact blk_new _ _⟩
  have BK6b : Aside0 (w2.heap[W.heap.size]? = some (.cells #[.int .i64 0, .bool false, .int .i64 0, .int .i64 0, .string ⟨#[]⟩] 39 (0, 0))) := ⟨by subst hg7; exact (Lib.alloc_old wD _ _ (blk_lt BK6.out)).trans BK6.out⟩
  have N1 : ¬ b = wD.heap.size := Nat.ne_of_lt HB1.out.lt
  have N2 : ¬ wD.heap.size = b := Nat.ne_of_gt HB1.out.lt
  have N3 : ¬ W.heap.size = wD.heap.size := Nat.ne_of_lt (blk_lt BK6.out)
  have N4 : ¬ wD.heap.size = W.heap.size := Nat.ne_of_gt (blk_lt BK6.out)
  clear hg7
  obtain ⟨x0, x1, x2, x3, x4⟩ := tok_cells BK7.out
  have z0 := blk_frozen BK7.out 0
  have z1 := blk_frozen BK7.out 1
  have z2 := blk_frozen BK7.out 2
  have z3 := blk_frozen BK7.out 3
  have z4 := blk_frozen BK7.out 4
  refine hK.out _ _ ⟨HB2.out.p1, HB2.out.p2⟩ (fun hHeld => ?_)
  clear hK K
  refine norm_ (a' := ?_) ?_ ?_
  rotate_left
  · show Act.put _ (some 7) _ = _
    simp only [Act.put, List.setIfInBounds_toArray, List.set_cons_zero, List.set_cons_succ, i64_w, i32_w]
    rfl
  refine last_ (i := 12) (N := none) #[true, true, true, true, true, true, true, true, true, true, true, true, true] rfl rfl (by kernel_rfl) (by decide) (fun K hK => ?_)
  refine skip_ (w1 := ?_) (by rfl) rfl ?_ ?_
  rotate_left
  · go_simp
    rfl
  refine hK.out _ _ ?_
  clear hK K
  refine done_ (by kernel_rfl) ?_
  generalize hw3 : World.setCell _ ⟨wD.heap.size, 4, none⟩ _ = w3
  have hw3 : tokPut w2 wD.heap.size p.within false p.frm te s = w3 := hw3
  have L6 := blk_lt BK6.out
  have BK7 := Aside0.mk (hw3 ▸ tok_put BK7.out p.within false p.frm te s)
  have HB3 := Aside0.mk (HB2.out.keep (W' := w3) (hw3 ▸ tok_other w2 _ _ _ _ _ _ b N1) (by rw [← hw3, tok_size]; exact Nat.le_refl _))
  have K3 := Aside0.mk (hw3 ▸ K2.out.tok wD.heap.size (Nat.le_of_lt HB1.out.lt) (Nat.le_of_lt L6) p.within false p.frm te s)
  have BK6 := Aside0.mk ((hw3 ▸ tok_other w2 _ p.within false p.frm te s _ N3).trans BK6b.out)
  clear hw3 x0 x1 x2 x3 x4 z0 z1 z2 z3 z4 K2 HB2 BK6b K1 HB1 L6
  have c2 := HB3.out.p2
  have f2 := HB3.out.fz 2
  obtain ⟨x0, x1, x2, x3, x4⟩ := tok_cells BK7.out
  obtain ⟨y0, y1, y2, y3, y4⟩ := tok_cells BK6.out
  have z0 := blk_frozen BK6.out 0
  have z1 := blk_frozen BK6.out 1
  have z2 := blk_frozen BK6.out 2
  have z3 := blk_frozen BK6.out 3
  have z4 := blk_frozen BK6.out 4
  have HB4 := Aside0.mk (HB3.out.w2 0)
  have K4 := Aside0.mk (K3.out.set 2 (.int .i64 0))
  have BK8 := Aside0.mk ((Below.heap_setCell w3 ⟨b, 2, none⟩ (.int .i64 0) W.heap.size N6).trans BK6.out)
  go_wp2_with (fail)
  refine bodyPost_ret (results_cell_row rfl _ _ W.heap.size 39 #[.int .i64 p.within, .bool false, .int .i64 p.frm, .int .i64 te, .string s] (0, 0) _ rfl (tok_put BK8.out p.within false p.frm te s) Tryd.underlying39 rfl (by kernel_rfl)) rfl ?_
  exact ⟨rfl, HB4.out.keep (tok_other _ _ _ _ _ _ _ b N5) (Nat.le_of_eq (tok_size _ _ _ _ _ _ _).symm), K4.out.tok W.heap.size (Nat.le_of_lt H0.out.lt) (Nat.le_refl _) p.within false p.frm te s⟩
end Go.Proofs.YtlhpflicchchlaaDoor.LxQ
