/- nest.Nest.down, walked. Conditions: none. -/
import Derived.Test.YtlhpflicchchlaaDoorNx2
namespace Go.Proofs.YtlhpflicchchlaaDoor.Nx
open Go.RowKit Go.Proofs.YtlhpflicchchlaaDoorW.PrintWords Go.Proofs.YtlhpflicchchlaaDoorW.PrintLast Go.Proofs.YtlhpflicchchlaaDoorW.PrintMore
attribute [local go_sem] max2_int min2_int max_two min_two max_three min_three max_four min_four
open Go.Proofs.YtlhpflicchchlaaDoor.LexPure Go.Proofs.YtlhpflicchchlaaDoor.BitsW
set_option linter.unusedVariables false
set_option linter.unusedSimpArgs false
def downV (s : NS) (t : Tk) : NS × List Ev × Int :=
  if s.stk.length = s.most then badV s 12
  else ({ s with may := (if t.kind = 4 then 2 else 1), stk := s.stk ++ [decide (t.kind = 4)], lv := s.lv ++ [⟨t.frm, stepV s, 0, ⟨#[]⟩⟩] }, [⟨1, (if t.kind = 4 then 5 else 4), t.frm, 0, stepV s, ⟨#[]⟩⟩], 0)
theorem below_mid {B : Nat} {w0 W W' : World} (h : Below B w0 W) (h' : Below B w0 W') (hs : W.heap.size ≤ W'.heap.size) : Below B W W' :=
  ⟨h'.os.trans h.os.symm, h'.tape.trans h.tape.symm, h'.output.trans h.output.symm, hs, fun k hk => (h'.block k hk).trans (h.block k hk).symm⟩
theorem Nx.far {w0 W : World} {g b j : Nat} {s : NS} {v u : Value} {c : Array Value} {t : TypeId} (h : Nx w0 W g s v) (hb : W.heap[b]? = some (.cells c t (0, 0))) (hbg : b ≠ g) (h1 : t ≠ 169) (h2 : t ≠ 161) : Nx w0 (W.setCell ⟨b, j, none⟩ u) g s v := by
  obtain ⟨⟨wv, hg, ho, hgg⟩, hr, hl⟩ := h
  exact ⟨⟨wv, blk_far hg (p := ⟨b, j, none⟩) (fun e => hbg e.symm) _, own_setCell ho (own_ne ho hb (fun e => h1 e.symm)) _, hgg⟩, own_setCell hr (own_ne hr hb (fun e => h2 e.symm)) _, hl⟩
theorem KeepN.setF {g b : Nat} {W W1 : World} (h : KeepN g W W1) (hb : W.heap.size ≤ b) (j : Nat) (u : Value) : KeepN g W (W1.setCell ⟨b, j, none⟩ u) :=
  ⟨by simp [World.setCell]; exact h.1, fun k hk hg h1 h2 => (Below.heap_setCell W1 ⟨b, j, none⟩ u k (by show k ≠ b; omega)).trans (h.2 k hk hg h1 h2)⟩
theorem lv_one (l : Lv) : ∀ u ∈ lvCells l, u.oneCell' = true := by
  intro u hu
  simp only [lvCells, List.mem_cons, List.not_mem_nil, or_false] at hu
  rcases hu with rfl | rfl | rfl | rfl | rfl | rfl <;> rfl
theorem below_grown {B n sz : Nat} {W W' : World} {o : Obj} {e : TypeId} {v : Value} {xs : List Value} (h : W.ownsRow B e sz v n xs) (hg : (W.alloc o).grownBy W' v.ownBlock) (hB : B ≤ W.heap.size) : Below B W W' :=
  ((Below.refl B W).alloc hB o).grown hg (by simp; omega) (fun k hk => (h.lt k hk).1)
theorem append_at_step {P : Program} {ops : Array Oper} {o : Oper} {a : Act} {Q : Exit → Act → World → Prop} {Kc : Act → World → Prop} {w : World} (hw : Region.wanted o (yielded ops a.tmps) = true) {N : Option Tmp} (hN : o.dst = N) (s x : Operand) (t : TypeId)
    (ho : o.op = .call { callee := .builtin .append, args := #[s, x], argTypes := #[t, t] })
    (base : Nat) (e : TypeId) (i : TypeInfo) (z : Value) (size bytes : Nat) (ht : P.underlying t = some (.slice e)) (hi : P.info? e = some i) (hz : i.zero = some z)
    (hsize : i.size = size) (hby : i.bytes = bytes) (hzs : z.cells.size = size) (hsz : 0 < size)
    (v : Value) (n : Nat) (xs : List Value) (hs : a.eval s = v) (hown : w.ownsRow base e size v n xs)
    (ad : Addr) (m c : Nat) (news : List Value) (hx : a.eval x = .slice (some ad) m c) (hl : news.length = m * size) (hnews : ∀ j u, news[j]? = some u → w.cell? (ad.add j) = some u) (h1 : ∀ u ∈ news, u.oneCell' = true)
    (h63 : n + m ≤ maxLen) (hbytes : (n + m) * bytes ≤ 140737488355328) (hbase : base ≤ w.heap.size)
    (h : ∀ v' w', w'.ownsRow base e size v' (n + m) (xs ++ news) → w.grownBy w' v.ownBlock → Kc (a.put N v') w') : if Region.wanted o (yielded ops a.tmps) = true then Oper.wp P o a w Kc Q else Kc (a.put N undef) w := by
  rw [if_pos hw]
  subst hN
  obtain ⟨v', w', hr, h2, h3, _⟩ := run_append_own_at (P := P) w base t o.type e i z size bytes ht hi hz hsize hby hzs hsz v n xs hown ad m c news hl hnews h1 h63 hbytes hbase
  unfold Oper.wp execOp
  simp only [ho, resolve, invoke, builtin, Sem.run_bind, Sem.run_pure, Result.andThen_ok, List.map_toArray, List.map_cons, List.map_nil, hs, hx, hr]
  exact h v' w' h2 h3
theorem litN (W : World) (e : TypeId) (news : List Value) : ∀ (j : Nat) u, news[j]? = some u → (W.alloc (.cells news.toArray e)).cell? ((⟨W.heap.size, 0, none⟩ : Addr).add j) = some u := by
  intro j u hj
  rw [show (⟨W.heap.size, 0, none⟩ : Addr).add j = ⟨W.heap.size, j, none⟩ by cases j <;> simp [Addr.add]]
  exact (blk_cell (heap_alloc_new W _) j).trans (by simpa using hj)
theorem row_type {W : World} {B n sz : Nat} {e : TypeId} {v : Value} {xs : List Value} (h : W.ownsRow B e sz v n xs) (k : Nat) (hk : v.ownBlock = some k) : ∃ c, W.heap[k]? = some (.cells c e (0, 0)) := by
  rcases h.2 with ⟨hv, _⟩ | ⟨gg, cap, cur, hv, hbg, hgg, rest⟩
  · rw [hv] at hk; simp [Value.ownBlock] at hk
  · rw [hv] at hk
    obtain rfl : gg = k := Option.some.inj hk
    exact ⟨cur, hgg⟩
theorem grown_blk {W W' : World} {o : Obj} {B n sz k : Nat} {e t : TypeId} {v : Value} {xs : List Value} {c : Array Value} {f : Nat × Nat} (h : W.ownsRow B e sz v n xs) (hg : (W.alloc o).grownBy W' v.ownBlock) (hk : W.heap[k]? = some (.cells c t f)) (ht : t ≠ e) : W'.heap[k]? = some (.cells c t f) := by
  have hlt := blk_lt hk
  refine (hg.block k (by simp; omega) (fun e1 => ?_)).trans ((Lib.alloc_old W o k hlt).trans hk)
  obtain ⟨c2, h2⟩ := row_type h k e1.symm
  rw [hk] at h2
  simp at h2
  exact ht h2.2.1
theorem grown_row {W W' : World} {o : Obj} {B B' n m sz sz' : Nat} {e t : TypeId} {v u : Value} {xs ys : List Value} (h : W.ownsRow B e sz v n xs) (hg : (W.alloc o).grownBy W' v.ownBlock) (hu : W.ownsRow B' t sz' u m ys) (ht : t ≠ e) : W'.ownsRow B' t sz' u m ys := by
  refine ⟨hu.1, ?_⟩
  rcases hu.2 with hn | ⟨gg, cap, cur, hv, hbg, hgg, rest⟩
  · exact .inl hn
  · exact .inr ⟨gg, cap, cur, hv, hbg, grown_blk h hg hgg ht, rest⟩
theorem KeepN.grown {W W' : World} {g : Nat} {o : Obj} {B n : Nat} {v : Value} {xs : List Value} (h : W.ownsRow B 161 6 v n xs) (hg : (W.alloc o).grownBy W' v.ownBlock) : KeepN g W W' := by
  refine ⟨Nat.le_trans (by simp) hg.size, fun k hk _ _ h2 => (hg.block k (by simp; omega) (fun e1 => ?_)).trans (Lib.alloc_old W o k hk)⟩
  obtain ⟨c2, h3⟩ := row_type h k e1.symm
  exact h2 _ _ h3
set_option maxHeartbeats 16000000 in
set_option maxRecDepth 100000 in
theorem down_calls {w0 W : World} {g : Nat} {s : NS} {lvv : Value} (h : Nx w0 W g s lvv) (hB0 : Below w0.heap.size w0 W) (hn : s.stk.length ≤ 90000) (hm : s.most ≤ 1000000) (t : Tk) :
    Calls Tryd.prog 77 #[.pointer (some ⟨g, 0, none⟩), .agg #[.int .i64 t.kind, .bool t.begun, .int .i64 (t.frm : Int), .int .i64 (t.to : Int), .string t.text]] W fun e w' => ∃ v, e = .returned (.tuple #[v, .int .i64 (downV s t).2.2]) ∧ PostN w0 W g (downV s t).1 (downV s t).2.1 v w' := by
  have H := Aside0.mk h
  have HN := Aside0.mk hn
  have HM := Aside0.mk hm
  have HB0 := Aside0.mk hB0
  clear h hn hm hB0
  go_enter Tryd.func77, Tryd.ntmps77
  go_upto_region 1 with (fail)
  generalize hw1 : World.alloc W _ = w1
  have TB : Aside0 (w1.drew.heap[W.heap.size]? = some (.cells (tokCells t) 39 (0, 0))) := ⟨by subst hw1; exact blk_new W _⟩
  have BD : Aside0 (Below W.heap.size W w1.drew) := ⟨by subst hw1; exact (below_alloc (Below.refl _ _) _).drew⟩
  have ND : Aside0 (Nx w0 w1.drew g s lvv) := ⟨H.out.below BD.out⟩
  have KD : Aside0 (KeepN g W w1.drew) := ⟨KeepN.of_below BD.out⟩
  have CM : Aside0 (w1.drew.cell? ⟨g, 0, none⟩ = some (.int .i64 (s.most : Int))) := ⟨by obtain ⟨wv, hb⟩ := ND.out.blk; exact (blk_cell hb 0).trans rfl⟩
  have L3 : Aside0 (W.heap.size ≠ g) := ⟨fun e => by have := H.out.lt; omega⟩
  clear hw1
  obtain ⟨b3, hb3⟩ : ∃ b3, b3 = W.heap.size := ⟨_, rfl⟩
  rw [← hb3] at TB L3 ⊢
  have HB3 := Aside0.mk hb3
  clear hb3
  refine start_ (n := 9) (S := fun w' => w'.cell? ⟨g, 0, none⟩ = some (.int .i64 (s.most : Int))) (ds := []) #[false, false, false, false, false, false, false, false, false] (by kernel_rfl) rfl rfl (CM.out) (fun hHeld => ?_)
  generalize hwd_ : w1.drew = wD at CM ND TB BD KD hHeld ⊢
  clear hwd_
  refine pure_ (i := 0) (N := some 7) (v := ?_) (a' := ?_) #[true, false, false, false, false, false, false, false, false] rfl rfl (by kernel_rfl) (fun _ _ _ h => h) (Or.inl ⟨by rfl, ?_⟩) ?_ ?_
  rotate_left
  · intro w'
    go_simp
    with_reducible rfl
  rotate_left
  · simp only [Act.put, List.setIfInBounds_toArray, List.set_cons_zero, List.set_cons_succ, i64_w, i32_w]
    rfl
  refine pure_ (i := 1) (N := some 8) (v := ?_) (a' := ?_) #[true, true, false, false, false, false, false, false, false] rfl rfl (by kernel_rfl) (fun _ _ _ h => h) (Or.inl ⟨by rfl, ?_⟩) ?_ ?_
  rotate_left
  · intro w'
    go_simp
    with_reducible rfl
  rotate_left
  · simp only [Act.put, List.setIfInBounds_toArray, List.set_cons_zero, List.set_cons_succ, i64_w, i32_w]
    rfl
  refine pure_ (i := 2) (N := some 9) (v := ?_) (a' := ?_) #[true, true, true, false, false, false, false, false, false] rfl rfl (by kernel_rfl) (fun _ _ _ h => h) (Or.inl ⟨by rfl, ?_⟩) ?_ ?_
  rotate_left
  · intro w'
    go_simp
    with_reducible rfl
  rotate_left
  · simp only [Act.put, List.setIfInBounds_toArray, List.set_cons_zero, List.set_cons_succ, i64_w, i32_w]
    rfl
  refine pure_ (i := 4) (N := some 11) (v := ?_) (a' := ?_) #[true, true, true, false, true, false, false, false, false] rfl rfl (by kernel_rfl) (fun _ _ _ h => h) (Or.inl ⟨by rfl, ?_⟩) ?_ ?_
  rotate_left
  · intro w'
    go_simp
    with_reducible rfl
  rotate_left
  · simp only [Act.put, List.setIfInBounds_toArray, List.set_cons_zero, List.set_cons_succ, i64_w, i32_w]
    rfl
  refine pure_ (i := 5) (N := some 12) (v := ?_) (a' := ?_) #[true, true, true, false, true, true, false, false, false] rfl rfl (by kernel_rfl) (fun _ _ _ h => h) (Or.inl ⟨by rfl, ?_⟩) ?_ ?_
  rotate_left
  · intro w'
    go_simp
    with_reducible rfl
  rotate_left
  · simp only [Act.put, List.setIfInBounds_toArray, List.set_cons_zero, List.set_cons_succ, i64_w, i32_w]
    rfl
  refine pure_ (i := 6) (N := some 13) (v := ?_) (a' := ?_) #[true, true, true, false, true, true, true, false, false] rfl rfl (by kernel_rfl) (fun _ _ _ h => h) (Or.inl ⟨by rfl, ?_⟩) ?_ ?_
  rotate_left
  · intro w'
    go_simp
    with_reducible rfl
  rotate_left
  · simp only [Act.put, List.setIfInBounds_toArray, List.set_cons_zero, List.set_cons_succ, i64_w, i32_w]
    rfl
  refine take_ (i := 7) (N := some 14) (v := ?_) (a' := ?_) #[true, true, true, false, true, true, true, true, false] rfl rfl (by kernel_rfl) (fun _ _ _ h => h) (Or.inl ⟨by rfl, ?_⟩) hHeld ?_ ?_
  rotate_left
  · intro w' s0
    go_simp
    with_reducible rfl
  rotate_left
  · simp only [Act.put, List.setIfInBounds_toArray, List.set_cons_zero, List.set_cons_succ, i64_w, i32_w]
    rfl
  refine one_ (i := 3) (N := some 10) #[true, true, true, true, true, true, true, true, false] rfl rfl (by kernel_rfl) (by decide) (fun K hK => ?_)
  refine goes_ Tryd.func79 (by kernel_rfl) rfl #[.pointer (some ⟨g, 1, none⟩)] (by rfl) rfl rfl (by simp only [List.map_toArray, List.map_cons, List.map_nil]; rfl) ?_
  with_reducible refine (len_calls _ g _ s.stk w0 _ ND.out.bits).mono ?_
  rintro e w5 ⟨rfl, rfl⟩
  refine ⟨_, rfl, ?_⟩
  refine hK.out _ _ (CM.out) (fun hHeld => ?_)
  clear hK K
  refine norm_ (a' := ?_) ?_ ?_
  rotate_left
  · show Act.put _ (some 10) _ = _
    simp only [Act.put, List.setIfInBounds_toArray, List.set_cons_zero, List.set_cons_succ, i64_w, i32_w]
    rfl
  refine pure_ (i := 8) (N := some 15) (v := ?_) (a' := ?_) #[true, true, true, true, true, true, true, true, true] rfl rfl (by kernel_rfl) (fun _ _ _ h => h) (Or.inl ⟨by rfl, ?_⟩) ?_ ?_
  rotate_left
  · intro w'
    go_simp
    with_reducible rfl
  rotate_left
  · simp only [Act.put, List.setIfInBounds_toArray, List.set_cons_zero, List.set_cons_succ, i64_w, i32_w]
    rfl
  refine done_ (by kernel_rfl) ?_
  clear CM
  by_cases hfull : s.stk.length = s.most
  · have E := Aside0.mk (show downV s t = badV s 12 by unfold downV; rw [if_pos hfull])
    have g1 : ((s.stk.length : Int) == (s.most : Int)) = true := by simp; omega
    have HBAD := Aside0.mk (bad_calls ND.out 12)
    clear hfull
    go_wp2_with (fail)
    go_at_call 74
    refine HBAD.out.mono ?_
    rintro e w3 ⟨rfl, h1, h2, h3⟩
    have H1 := Aside0.mk h1
    have H2 := Aside0.mk h2
    have H3 := Aside0.mk h3
    clear h1 h2 h3
    go_wp2_with (fail)
    go_ret2
    rw [E.out]
    exact ⟨_, rfl, lvv, H1.out, (BD.out.mono (Nat.le_trans H.out.ge (Nat.le_of_lt H.out.lt))).trans H2.out, KD.out.trans H3.out, World.ownsRow_nil _ _ _ _, fun _ => rfl⟩
  · have g1 : ((s.stk.length : Int) == (s.most : Int)) = false := by simp; omega
    have g2 : decide ((s.stk.length : Int) = (s.most : Int)) = false := by simp; omega
    obtain ⟨sv, hsv⟩ : ∃ sv, stepV s = sv := ⟨_, rfl⟩
    have E := Aside0.mk (show downV s t = ({ s with may := (if t.kind = 4 then 2 else 1), stk := s.stk ++ [decide (t.kind = 4)], lv := s.lv ++ [⟨t.frm, sv, 0, ⟨#[]⟩⟩] }, [⟨1, (if t.kind = 4 then 5 else 4), t.frm, 0, sv, ⟨#[]⟩⟩], 0) by unfold downV; rw [if_neg hfull, hsv])
    have HSV := Aside0.mk hsv
    clear hfull hsv
    go_upto_region 3 with (fail)
    have ND : Aside0 (Nx w0 wD.drew g s lvv) := ⟨ND.out.below (Below.refl _ _).drew⟩
    have TB : Aside0 (wD.drew.heap[b3]? = some (.cells (tokCells t) 39 (0, 0))) := ⟨TB.out⟩
    have BD : Aside0 (Below W.heap.size W wD.drew) := ⟨BD.out.drew⟩
    have KD : Aside0 (KeepN g W wD.drew) := ⟨KeepN.of_below BD.out⟩
    have TF : Aside0 (wD.drew.cell? ⟨b3, 2, none⟩ = some (.int .i64 (t.frm : Int))) := ⟨(blk_cell TB.out 2).trans rfl⟩
    have TFB : Aside0 (∀ w, Below wD.drew.heap.size wD.drew w → w.cell? ⟨b3, 2, none⟩ = some (.int .i64 (t.frm : Int))) := ⟨fun w hb => pw_cell_below hb TF.out⟩
    have HSTEP : Aside0 (∀ w, Below wD.drew.heap.size wD.drew w → Calls Tryd.prog 110 #[.pointer (some ⟨g, 0, none⟩)] w fun e w' => e = .returned (.agg #[.bool sv.named, .string sv.name, .int .i64 (sv.idx : Int)]) ∧ Below w.heap.size w w') := ⟨fun w hb => by
      have := step_calls (ND.out.below hb) (by have := HN.out; omega)
      rw [HSV.out] at this
      exact this⟩
    clear g1 g2
    refine start_ (n := 7) (S := fun w' => w'.cell? ⟨b3, 2, none⟩ = some (.int .i64 (t.frm : Int))) (ds := [6]) #[false, false, false, false, false, false, false] (by kernel_rfl) rfl rfl (TF.out) (fun hHeld => ?_)
    generalize hwd_ : wD.drew = wE at TF TFB HSTEP ND TB BD KD hHeld ⊢
    clear hwd_
    refine pure_ (i := 0) (N := some 20) (v := ?_) (a' := ?_) #[true, false, false, false, false, false, false] rfl rfl (by kernel_rfl) (fun _ _ _ h => h) (Or.inl ⟨by rfl, ?_⟩) ?_ ?_
    rotate_left
    · intro w'
      go_simp
      with_reducible rfl
    rotate_left
    · simp only [Act.put, List.setIfInBounds_toArray, List.set_cons_zero, List.set_cons_succ, i64_w, i32_w]
      rfl
    refine pure_ (i := 2) (N := some 22) (v := ?_) (a' := ?_) #[true, false, true, false, false, false, false] rfl rfl (by kernel_rfl) (fun _ _ _ h => h) (Or.inl ⟨by rfl, ?_⟩) ?_ ?_
    rotate_left
    · intro w'
      go_simp
      with_reducible rfl
    rotate_left
    · simp only [Act.put, List.setIfInBounds_toArray, List.set_cons_zero, List.set_cons_succ, i64_w, i32_w]
      rfl
    refine take_ (i := 1) (N := some 21) (v := ?_) (a' := ?_) #[true, true, true, false, false, false, false] rfl rfl (by kernel_rfl) (fun _ _ _ h => h) (Or.inl ⟨by rfl, ?_⟩) hHeld ?_ ?_
    rotate_left
    · intro w' s0
      go_simp
      with_reducible rfl
    rotate_left
    · simp only [Act.put, List.setIfInBounds_toArray, List.set_cons_zero, List.set_cons_succ, i64_w, i32_w]
      rfl
    refine join_ (σ := Nat) 1 #[true, true, true, true, true, true, false] (fun b => [(6, .pointer (some ⟨b, 0, none⟩)), (23, .agg #[.bool sv.named, .string sv.name, .int .i64 (sv.idx : Int)]), (24, .agg #[.int .i64 1, .int .i64 4, .int .i64 (t.frm : Int), .int .i64 0, .bool sv.named, .string sv.name, .int .i64 (sv.idx : Int), .string ⟨#[]⟩])]) (fun b w' => w'.heap[b]? = some (.cells (evCells ev0).toArray 62 (0, 0)) ∧ Below wE.heap.size wE w' ∧ wE.heap.size ≤ b) ?_ ?_
    rotate_left
    · intro hCont
      refine two_ (i := 3) (j := 5) (Ni := some 23) (Nj := some 6) #[true, true, true, true, false, false, false] #[true, true, true, false, false, true, false] rfl rfl rfl rfl (by kernel_rfl) (by decide) (by decide) (fun K hK => ?_) (fun K hK => ?_)
      · skip
        refine goes_ Tryd.func110 (by kernel_rfl) rfl #[.pointer (some ⟨g, 0, none⟩)] (by rfl) rfl rfl (by simp only [List.map_toArray, List.map_cons, List.map_nil]; rfl) ?_
        with_reducible refine (HSTEP.out _ (Below.refl _ _)).mono ?_
        rintro e w5 ⟨rfl, hb⟩
        refine ⟨_, rfl, ?_⟩
        have B5 := Aside0.mk hb
        clear hb
        have FF5 := Aside0.mk (TFB.out _ B5.out)
        refine hK.out _ _ (FF5.out) (fun hHeld => ?_)
        clear hK K
        refine norm_ (a' := ?_) ?_ ?_
        rotate_left
        · show Act.put _ (some 23) _ = _
          simp only [Act.put, List.setIfInBounds_toArray, List.set_cons_zero, List.set_cons_succ, i64_w, i32_w]
          rfl
        refine pure_ (i := 4) (N := some 24) (v := ?_) (a' := ?_) #[true, true, true, true, true, false, false] rfl rfl (by kernel_rfl) (fun _ _ _ h => h) (Or.inl ⟨by rfl, ?_⟩) ?_ ?_
        rotate_left
        · intro w'
          go_simp
          with_reducible rfl
        rotate_left
        · simp only [Act.put, List.setIfInBounds_toArray, List.set_cons_zero, List.set_cons_succ, i64_w, i32_w]
          rfl
        refine one_ (i := 5) (N := some 6) #[true, true, true, true, true, true, false] rfl rfl (by kernel_rfl) (by decide) (fun K hK => ?_)
        refine value_ (w1 := ?_) (v := ?_) (by rfl) rfl ?_ ?_
        rotate_left 2
        · go_simp
          constructor
          · rfl
          · rfl
        generalize hg5 : World.alloc w5 _ = w6
        have EB6 : Aside0 (w6.heap[w5.heap.size]? = some (.cells (evCells ev0).toArray 62 (0, 0))) := ⟨by subst hg5; exact blk_new _ _⟩
        have B6 : Aside0 (Below wE.heap.size wE w6) := ⟨by subst hg5; exact B5.out.trans ((below_alloc (Below.refl _ _) _).mono B5.out.size)⟩
        clear hg5
        have FF6 := Aside0.mk (TFB.out _ B6.out)
        refine hK.out _ _ (FF6.out) (fun hHeld => ?_)
        clear hK K
        refine norm_ (a' := ?_) ?_ ?_
        rotate_left
        · show Act.put _ (some 6) _ = _
          simp only [Act.put, List.setIfInBounds_toArray, List.set_cons_zero, List.set_cons_succ, i64_w, i32_w]
          rfl
        exact norm_ (by simp only [putAll, Act.put, List.setIfInBounds_toArray, List.set_cons_zero, List.set_cons_succ]) (hCont w5.heap.size _ ⟨EB6.out, B6.out, B5.out.size⟩)
      · skip
        refine value_ (w1 := ?_) (v := ?_) (by rfl) rfl ?_ ?_
        rotate_left 2
        · go_simp
          constructor
          · rfl
          · rfl
        generalize hg5 : World.alloc wE _ = w5
        have EB : Aside0 (w5.heap[wE.heap.size]? = some (.cells (evCells ev0).toArray 62 (0, 0))) := ⟨by subst hg5; exact blk_new _ _⟩
        have B5 : Aside0 (Below wE.heap.size wE w5) := ⟨by subst hg5; exact below_alloc (Below.refl _ _) _⟩
        clear hg5
        have FF5 := Aside0.mk (TFB.out _ B5.out)
        refine hK.out _ _ (FF5.out) (fun hHeld => ?_)
        clear hK K
        refine norm_ (a' := ?_) ?_ ?_
        rotate_left
        · show Act.put _ (some 6) _ = _
          simp only [Act.put, List.setIfInBounds_toArray, List.set_cons_zero, List.set_cons_succ, i64_w, i32_w]
          rfl
        refine one_ (i := 3) (N := some 23) #[true, true, true, true, false, true, false] rfl rfl (by kernel_rfl) (by decide) (fun K hK => ?_)
        refine goes_ Tryd.func110 (by kernel_rfl) rfl #[.pointer (some ⟨g, 0, none⟩)] (by rfl) rfl rfl (by simp only [List.map_toArray, List.map_cons, List.map_nil]; rfl) ?_
        with_reducible refine (HSTEP.out _ B5.out).mono ?_
        rintro e w6 ⟨rfl, hb⟩
        refine ⟨_, rfl, ?_⟩
        have B6 := Aside0.mk (B5.out.trans (hb.mono B5.out.size))
        have EB6 := Aside0.mk (blk_below EB.out hb)
        clear hb
        have FF6 := Aside0.mk (TFB.out _ B6.out)
        refine hK.out _ _ (FF6.out) (fun hHeld => ?_)
        clear hK K
        refine norm_ (a' := ?_) ?_ ?_
        rotate_left
        · show Act.put _ (some 23) _ = _
          simp only [Act.put, List.setIfInBounds_toArray, List.set_cons_zero, List.set_cons_succ, i64_w, i32_w]
          rfl
        refine pure_ (i := 4) (N := some 24) (v := ?_) (a' := ?_) #[true, true, true, true, true, true, false] rfl rfl (by kernel_rfl) (fun _ _ _ h => h) (Or.inl ⟨by rfl, ?_⟩) ?_ ?_
        rotate_left
        · intro w'
          go_simp
          with_reducible rfl
        rotate_left
        · simp only [Act.put, List.setIfInBounds_toArray, List.set_cons_zero, List.set_cons_succ, i64_w, i32_w]
          rfl
        exact norm_ (by simp only [putAll, Act.put, List.setIfInBounds_toArray, List.set_cons_zero, List.set_cons_succ]) (hCont wE.heap.size _ ⟨EB6.out, B6.out, Nat.le_refl _⟩)
    rintro b w7 ⟨hEB, hB7, hb7⟩
    have EB7 := Aside0.mk hEB
    have B7 := Aside0.mk hB7
    have LB7 := Aside0.mk hb7
    have hHeld := TFB.out _ B7.out
    clear hEB hB7 hb7
    refine norm_ (a' := ?_) ?_ ?_
    rotate_left
    · simp only [putAll, Act.put, List.setIfInBounds_toArray, List.set_cons_zero, List.set_cons_succ]
      rfl
    refine last_ (i := 6) (N := none) #[true, true, true, true, true, true, true] rfl rfl (by kernel_rfl) (by decide) (fun K hK => ?_)
    obtain ⟨x0, x1, x2, x3, x4, x5, x6, x7⟩ := ev_cells EB7.out
    have z0 := blk_frozen EB7.out 0
    have z1 := blk_frozen EB7.out 1
    have z2 := blk_frozen EB7.out 2
    have z3 := blk_frozen EB7.out 3
    have z4 := blk_frozen EB7.out 4
    have z5 := blk_frozen EB7.out 5
    have z6 := blk_frozen EB7.out 6
    have z7 := blk_frozen EB7.out 7
    refine skip_ (w1 := ?_) (by rfl) rfl ?_ ?_
    rotate_left
    · go_simp
      rfl
    refine hK.out _ _ ?_
    clear hK K
    refine done_ (by kernel_rfl) ?_
    generalize hw8 : World.setCell _ ⟨b, 7, none⟩ _ = w8
    have hw8 : evPut w7 b ⟨1, 4, t.frm, 0, sv, ⟨#[]⟩⟩ = w8 := hw8
    have EB8 := Aside0.mk (hw8 ▸ ev_put EB7.out ⟨1, 4, t.frm, 0, sv, ⟨#[]⟩⟩)
    have LBW0 : Aside0 (W.heap.size ≤ b) := ⟨Nat.le_trans BD.out.size LB7.out⟩
    have BE : Aside0 (Below wE.heap.size wE w8) := ⟨hw8 ▸ B7.out.trans (ev_below w7 _ b LB7.out ⟨1, 4, t.frm, 0, sv, ⟨#[]⟩⟩)⟩
    have N8 := Aside0.mk (ND.out.below BE.out)
    have TB8 := Aside0.mk (blk_below TB.out BE.out)
    have BW8 : Aside0 (Below w0.heap.size W w8) := ⟨(BD.out.trans (BE.out.mono BD.out.size)).mono (Nat.le_trans H.out.ge (Nat.le_of_lt H.out.lt))⟩
    have K8 := Aside0.mk (KD.out.trans (KeepN.of_below BE.out))
    have NBG : Aside0 (b ≠ g) := ⟨fun e => by have := ND.out.lt; have := LB7.out; omega⟩
    have NBB : Aside0 (b ≠ b3) := ⟨fun e => by have := blk_lt TB.out; have := LB7.out; omega⟩
    have NB3 : Aside0 (b3 ≠ g) := ⟨L3.out⟩
    clear hw8 x0 x1 x2 x3 x4 x5 x6 x7 z0 z1 z2 z3 z4 z5 z6 z7 TF TFB HSTEP ND TB BD KD EB7 B7 BE
    obtain ⟨wv8, hb8⟩ := N8.out.blk
    have c4 : w8.cell? ⟨g, 4, none⟩ = some (.int .i64 s.may) := (blk_cell hb8 4).trans rfl
    have z4 := blk_frozen hb8 4
    clear hb8
    have v1 : w8.cell? ⟨b, 1, none⟩ = some (.int .i64 4) := (blk_cell EB8.out 1).trans rfl
    have zb1 := blk_frozen EB8.out 1
    have d0 : w8.cell? ⟨b3, 0, none⟩ = some (.int .i64 t.kind) := (blk_cell TB8.out 0).trans rfl
    have n1 : ¬ b = g := NBG.out
    have n2 : ¬ g = b := fun e => NBG.out e.symm
    have n3 : ¬ b3 = g := NB3.out
    have n4 : ¬ g = b3 := fun e => NB3.out e.symm
    have n5 : ¬ b = b3 := NBB.out
    have n6 : ¬ b3 = b := fun e => NBB.out e.symm
    have LBS : Aside0 (W.heap.size ≤ b) := ⟨LBW0.out⟩
    have LBW : Aside0 (w0.heap.size ≤ b) := ⟨Nat.le_trans (Nat.le_trans H.out.ge (Nat.le_of_lt H.out.lt)) LBW0.out⟩
    by_cases h4 : t.kind = 4
    · have H4 := Aside0.mk h4
      clear h4
      have k1 : (t.kind == 4) = true := by simp [H4.out]
      have k2 : decide (t.kind = 4) = true := by simp [H4.out]
      go_upto_region 7 with (fail)
      generalize hw9 : World.setCell _ ⟨g, 4, none⟩ _ = w9
      have N9 : Aside0 (Nx w0 w9 g { s with may := 2 } lvv) := ⟨by subst hw9; exact ((N8.out.set4 1).far (j := 1) (u := .int .i64 5) (blk_far EB8.out (p := ⟨g, 4, none⟩) NBG.out _) NBG.out (by decide) (by decide)).set4 2⟩
      have EB9 : Aside0 (w9.heap[b]? = some (.cells (evCells ⟨1, 5, t.frm, 0, sv, ⟨#[]⟩⟩).toArray 62 (0, 0))) := ⟨by subst hw9; exact blk_far (by simpa [evCells] using blk_set (blk_far EB8.out (p := ⟨g, 4, none⟩) NBG.out (.int .i64 1)) 1 (.int .i64 5)) (p := ⟨g, 4, none⟩) NBG.out _⟩
      have TB9 : Aside0 (w9.heap[b3]? = some (.cells (tokCells t) 39 (0, 0))) := ⟨by subst hw9; exact blk_far (blk_far (blk_far TB8.out (p := ⟨g, 4, none⟩) NB3.out _) (p := ⟨b, 1, none⟩) (fun e => NBB.out e.symm) _) (p := ⟨g, 4, none⟩) NB3.out _⟩
      have B9 : Aside0 (Below w0.heap.size W w9) := ⟨by subst hw9; exact ((BW8.out.setCell (p := ⟨g, 4, none⟩) H.out.ge _).setCell (p := ⟨b, 1, none⟩) LBW.out _).setCell (p := ⟨g, 4, none⟩) H.out.ge _⟩
      have K9 : Aside0 (KeepN g W w9) := ⟨by subst hw9; exact ((K8.out.trans (KeepN.set_ _ _ _)).setF LBS.out _ _).trans (KeepN.set_ _ _ _)⟩
      clear hw9 N8 EB8 TB8 BW8 K8 c4 z4 v1 zb1 d0
      have d0 : w9.cell? ⟨b3, 0, none⟩ = some (.int .i64 t.kind) := (blk_cell TB9.out 0).trans rfl
      have HP := Aside0.mk (push_calls _ g s.stk true w0 w9.drew (N9.out.below (Below.refl _ _).drew).bits (HB0.out.trans B9.out.drew) (by have := HN.out; omega))
      refine ListedB.wp_region_listed (G := []) (by kernel_rfl) (by kernel_rfl) ?_
      go_wp2_with (fail)
      go_at_call 113
      refine HP.out.mono ?_
      rintro e wA ⟨rfl, hI, hbl, hkt⟩
      have ND9 := Nx.below N9.out (Below.refl w9.heap.size w9).drew
      obtain ⟨wvn, hgn⟩ := ND9.blk
      have IA := Aside0.mk hI
      have RA := Aside0.mk (own_bits (cs := []) ND9.row hkt (by decide) hgn (by decide))
      have EBA := Aside0.mk (blk_bits (show w9.drew.heap[b]? = some (.cells (evCells ⟨1, 5, t.frm, 0, sv, ⟨#[]⟩⟩).toArray 62 (0, 0)) from EB9.out) hkt NBG.out (by decide))
      have TBA := Aside0.mk (blk_bits (show w9.drew.heap[b3]? = some (.cells (tokCells t) 39 (0, 0)) from TB9.out) hkt NB3.out (by decide))
      have KA := Aside0.mk (K9.out.trans (KeepN.trans (KeepN.of_below (Below.refl w9.heap.size w9).drew) (KeepN.of_bits hkt)))
      have BA := Aside0.mk (below_mid HB0.out hbl KA.out.1)
      have LA := Aside0.mk N9.out.len
      clear hI hbl hkt hgn d0 HP ND9
      go_wp2_with (fail)
      refine ListedB.fin_intro (by kernel_rfl) ?_
      go_upto_region 8 with (fail)
      obtain ⟨wvA, hgA, hoA, hgeA⟩ := IA.out
      have RD : Aside0 (wA.drew.ownsRow w0.heap.size 161 6 lvv s.lv.length (s.lv.flatMap lvCells)) := ⟨RA.out⟩
      have GA : Aside0 (wA.drew.heap[g]? = some (.cells #[.int .i64 (s.most : Int), wvA, .int .i64 ((s.stk ++ [true]).length : Int), lvv, .int .i64 2, .int .i64 s.begun, .bool s.began] 113 (0, 0))) := ⟨hgA⟩
      have OA : Aside0 (wA.drew.ownsRow w0.heap.size 169 1 wvA (mw (s.stk.length + 1)) (nums .u64 (pk (mw (s.stk.length + 1)) (s.stk ++ [true])))) := ⟨hoA⟩
      have EBD : Aside0 (wA.drew.heap[b]? = some (.cells (evCells ⟨1, 5, t.frm, 0, sv, ⟨#[]⟩⟩).toArray 62 (0, 0))) := ⟨EBA.out⟩
      have TBD : Aside0 (wA.drew.heap[b3]? = some (.cells (tokCells t) 39 (0, 0))) := ⟨TBA.out⟩
      have CS : Aside0 (wA.drew.cell? ⟨g, 3, none⟩ = some lvv ∧ wA.drew.cell? ⟨b3, 2, none⟩ = some (.int .i64 (t.frm : Int)) ∧ wA.drew.cell? ⟨b, 4, none⟩ = some (.bool sv.named) ∧ wA.drew.cell? ⟨b, 5, none⟩ = some (.string sv.name) ∧ wA.drew.cell? ⟨b, 6, none⟩ = some (.int .i64 (sv.idx : Int))) :=
        ⟨(blk_cell hgA 3).trans rfl, (blk_cell TBA.out 2).trans rfl, (blk_cell EBA.out 4).trans rfl, (blk_cell EBA.out 5).trans rfl, (blk_cell EBA.out 6).trans rfl⟩
      obtain ⟨i0, hi, hz0, hz1, hz2⟩ := info_parts linfo
      have LEN : Aside0 (s.lv.length ≤ 90000) := ⟨by have := H.out.len; have := HN.out; omega⟩
      have HWG : Aside0 (w0.heap.size ≤ wA.drew.heap.size) := ⟨Nat.le_trans hgeA (Nat.le_of_lt (blk_lt hgA))⟩
      have KA : Aside0 (KeepN g W wA.drew) := ⟨KA.out.trans (KeepN.of_below (Below.refl wA.heap.size wA).drew)⟩
      have BA : Aside0 (Below w0.heap.size W wA.drew) := ⟨BA.out.drew⟩
      clear hgA hoA IA RA
      refine start_ (n := 15) (S := fun w' => w'.cell? ⟨g, 3, none⟩ = some lvv ∧ w'.cell? ⟨b3, 2, none⟩ = some (.int .i64 (t.frm : Int)) ∧ w'.cell? ⟨b, 4, none⟩ = some (.bool sv.named) ∧ w'.cell? ⟨b, 5, none⟩ = some (.string sv.name) ∧ w'.cell? ⟨b, 6, none⟩ = some (.int .i64 (sv.idx : Int))) (ds := [11, 14]) #[false, false, false, false, false, false, false, false, false, false, false, false, false, false, false] (by kernel_rfl) rfl rfl ⟨CS.out.1, CS.out.2.1, CS.out.2.2.1, CS.out.2.2.2.1, CS.out.2.2.2.2⟩ (fun hHeld => ?_)
      generalize hwd_ : wA.drew = wF at CS RD GA OA EBD TBD HWG KA BA hHeld ⊢
      clear hwd_
      refine pure_ (i := 0) (N := some 42) (v := ?_) (a' := ?_) #[true, false, false, false, false, false, false, false, false, false, false, false, false, false, false] rfl rfl (by kernel_rfl) (fun _ _ _ h => h) (Or.inl ⟨by rfl, ?_⟩) ?_ ?_
      rotate_left
      · intro w'
        go_simp
        with_reducible rfl
      rotate_left
      · simp only [Act.put, List.setIfInBounds_toArray, List.set_cons_zero, List.set_cons_succ, i64_w, i32_w]
        rfl
      refine pure_ (i := 1) (N := some 43) (v := ?_) (a' := ?_) #[true, true, false, false, false, false, false, false, false, false, false, false, false, false, false] rfl rfl (by kernel_rfl) (fun _ _ _ h => h) (Or.inl ⟨by rfl, ?_⟩) ?_ ?_
      rotate_left
      · intro w'
        go_simp
        with_reducible rfl
      rotate_left
      · simp only [Act.put, List.setIfInBounds_toArray, List.set_cons_zero, List.set_cons_succ, i64_w, i32_w]
        rfl
      refine pure_ (i := 2) (N := some 44) (v := ?_) (a' := ?_) #[true, true, true, false, false, false, false, false, false, false, false, false, false, false, false] rfl rfl (by kernel_rfl) (fun _ _ _ h => h) (Or.inl ⟨by rfl, ?_⟩) ?_ ?_
      rotate_left
      · intro w'
        go_simp
        with_reducible rfl
      rotate_left
      · simp only [Act.put, List.setIfInBounds_toArray, List.set_cons_zero, List.set_cons_succ, i64_w, i32_w]
        rfl
      refine pure_ (i := 3) (N := some 45) (v := ?_) (a' := ?_) #[true, true, true, true, false, false, false, false, false, false, false, false, false, false, false] rfl rfl (by kernel_rfl) (fun _ _ _ h => h) (Or.inl ⟨by rfl, ?_⟩) ?_ ?_
      rotate_left
      · intro w'
        go_simp
        with_reducible rfl
      rotate_left
      · simp only [Act.put, List.setIfInBounds_toArray, List.set_cons_zero, List.set_cons_succ, i64_w, i32_w]
        rfl
      refine pure_ (i := 5) (N := some 47) (v := ?_) (a' := ?_) #[true, true, true, true, false, true, false, false, false, false, false, false, false, false, false] rfl rfl (by kernel_rfl) (fun _ _ _ h => h) (Or.inl ⟨by rfl, ?_⟩) ?_ ?_
      rotate_left
      · intro w'
        go_simp
        with_reducible rfl
      rotate_left
      · simp only [Act.put, List.setIfInBounds_toArray, List.set_cons_zero, List.set_cons_succ, i64_w, i32_w]
        rfl
      refine pure_ (i := 7) (N := some 49) (v := ?_) (a' := ?_) #[true, true, true, true, false, true, false, true, false, false, false, false, false, false, false] rfl rfl (by kernel_rfl) (fun _ _ _ h => h) (Or.inl ⟨by rfl, ?_⟩) ?_ ?_
      rotate_left
      · intro w'
        go_simp
        with_reducible rfl
      rotate_left
      · simp only [Act.put, List.setIfInBounds_toArray, List.set_cons_zero, List.set_cons_succ, i64_w, i32_w]
        rfl
      refine take_ (i := 4) (N := some 46) (v := ?_) (a' := ?_) #[true, true, true, true, true, true, false, true, false, false, false, false, false, false, false] rfl rfl (by kernel_rfl) (fun _ _ _ h => h) (Or.inl ⟨by rfl, ?_⟩) hHeld ?_ ?_
      rotate_left
      · rintro w' ⟨s0, s1, s2, s3, s4⟩
        go_simp
        with_reducible rfl
      rotate_left
      · simp only [Act.put, List.setIfInBounds_toArray, List.set_cons_zero, List.set_cons_succ, i64_w, i32_w]
        rfl
      refine take_ (i := 6) (N := some 48) (v := ?_) (a' := ?_) #[true, true, true, true, true, true, true, true, false, false, false, false, false, false, false] rfl rfl (by kernel_rfl) (fun _ _ _ h => h) (Or.inl ⟨by rfl, ?_⟩) hHeld ?_ ?_
      rotate_left
      · rintro w' ⟨s0, s1, s2, s3, s4⟩
        go_simp
        with_reducible rfl
      rotate_left
      · simp only [Act.put, List.setIfInBounds_toArray, List.set_cons_zero, List.set_cons_succ, i64_w, i32_w]
        rfl
      refine take_ (i := 8) (N := some 50) (v := ?_) (a' := ?_) #[true, true, true, true, true, true, true, true, true, false, false, false, false, false, false] rfl rfl (by kernel_rfl) (fun _ _ _ h => h) (Or.inl ⟨by rfl, ?_⟩) hHeld ?_ ?_
      rotate_left
      · rintro w' ⟨s0, s1, s2, s3, s4⟩
        go_simp
        with_reducible rfl
      rotate_left
      · simp only [Act.put, List.setIfInBounds_toArray, List.set_cons_zero, List.set_cons_succ, i64_w, i32_w]
        rfl
      refine pure_ (i := 9) (N := some 51) (v := ?_) (a' := ?_) #[true, true, true, true, true, true, true, true, true, true, false, false, false, false, false] rfl rfl (by kernel_rfl) (fun _ _ _ h => h) (Or.inl ⟨by rfl, ?_⟩) ?_ ?_
      rotate_left
      · intro w'
        go_simp
        with_reducible rfl
      rotate_left
      · simp only [Act.put, List.setIfInBounds_toArray, List.set_cons_zero, List.set_cons_succ, i64_w, i32_w]
        rfl
      refine one_ (i := 10) (N := some 52) #[true, true, true, true, true, true, true, true, true, true, true, false, false, false, false] rfl rfl (by kernel_rfl) (by decide) (fun K hK => ?_)
      refine value_ (w1 := ?_) (v := ?_) (by rfl) rfl ?_ ?_
      rotate_left 2
      · go_simp
        constructor
        · rfl
        · rfl
      refine hK.out _ _ ⟨pw_cell_below (below_alloc (Below.refl _ _) _) CS.out.1, pw_cell_below (below_alloc (Below.refl _ _) _) CS.out.2.1, pw_cell_below (below_alloc (Below.refl _ _) _) CS.out.2.2.1, pw_cell_below (below_alloc (Below.refl _ _) _) CS.out.2.2.2.1, pw_cell_below (below_alloc (Below.refl _ _) _) CS.out.2.2.2.2⟩ (fun hHeld => ?_)
      clear hK K
      refine norm_ (a' := ?_) ?_ ?_
      rotate_left
      · show Act.put _ (some 52) _ = _
        simp only [Act.put, List.setIfInBounds_toArray, List.set_cons_zero, List.set_cons_succ, i64_w, i32_w]
        rfl
      refine last_ (i := 11) (N := some 53) #[true, true, true, true, true, true, true, true, true, true, true, true, false, false, false] rfl rfl (by kernel_rfl) (by decide) (fun K hK => ?_)
      refine append_at_step (by rfl) rfl (.tmp 46) (.tmp 52) 111 rfl w0.heap.size 161 i0 _ 6 64 Tryd.underlying111 hi hz0 hz1 hz2 rfl (by decide) lvv s.lv.length (s.lv.flatMap lvCells) rfl (RD.out.alloc _) ⟨wF.heap.size, 0, none⟩ 1 1 (lvCells ⟨t.frm, sv, 0, ⟨#[]⟩⟩) rfl rfl (litN _ _ _) (lv_one _) (by have := LEN.out; unfold maxLen; omega) (by have := LEN.out; omega) (by have := HWG.out; simp; omega) ?_
      intro v' wB hown hgrow
      have GB := Aside0.mk (grown_blk RD.out hgrow GA.out (by decide))
      have OB := Aside0.mk (grown_row RD.out hgrow OA.out (by decide))
      have EBB := Aside0.mk (grown_blk RD.out hgrow EBD.out (by decide))
      have TBB := Aside0.mk (grown_blk RD.out hgrow TBD.out (by decide))
      have KB := Aside0.mk (KA.out.trans (KeepN.grown RD.out hgrow))
      have BB := Aside0.mk (BA.out.trans (below_grown RD.out hgrow HWG.out))
      have hown2 : wB.ownsRow w0.heap.size 161 6 v' (s.lv ++ [(⟨t.frm, sv, 0, ⟨#[]⟩⟩ : Lv)]).length ((s.lv ++ [(⟨t.frm, sv, 0, ⟨#[]⟩⟩ : Lv)]).flatMap lvCells) := by rw [List.length_append, List.flatMap_append]; exact hown
      have RB := Aside0.mk hown2
      obtain ⟨A', cc', rfl⟩ := Go.Proofs.YtlhpflicchchlaaDoorW.PrintWords.own_slice hown2
      obtain ⟨nn, hnn⟩ : ∃ nn, nn = (s.lv ++ [(⟨t.frm, sv, 0, ⟨#[]⟩⟩ : Lv)]).length := ⟨_, rfl⟩
      rw [← hnn]
      rw [← hnn] at RB
      have HNN := Aside0.mk hnn
      clear hown hown2 hgrow hnn
      have c3 := (blk_cell GB.out 3).trans rfl
      have z3 := blk_frozen GB.out 3
      refine hK.out _ _ ?_
      clear hK K
      refine norm_ (a' := ?_) ?_ ?_
      rotate_left
      · show Act.put _ (some 53) _ = _
        simp only [Act.put, List.setIfInBounds_toArray, List.set_cons_zero, List.set_cons_succ, i64_w, i32_w]
        rfl
      refine pure_ (i := 12) (N := some 54) (v := ?_) (a' := ?_) #[true, true, true, true, true, true, true, true, true, true, true, true, true, false, false] rfl rfl (by kernel_rfl) (fun _ _ _ h => h) (Or.inl ⟨by rfl, ?_⟩) ?_ ?_
      rotate_left
      · intro w'
        go_simp
        with_reducible rfl
      rotate_left
      · simp only [Act.put, List.setIfInBounds_toArray, List.set_cons_zero, List.set_cons_succ, i64_w, i32_w]
        rfl
      refine pure_ (i := 13) (N := some 55) (v := ?_) (a' := ?_) #[true, true, true, true, true, true, true, true, true, true, true, true, true, true, false] rfl rfl (by kernel_rfl) (fun _ _ _ h => h) (Or.inl ⟨by rfl, ?_⟩) ?_ ?_
      rotate_left
      · intro w'
        go_simp
        with_reducible rfl
      rotate_left
      · simp only [Act.put, List.setIfInBounds_toArray, List.set_cons_zero, List.set_cons_succ, i64_w, i32_w]
        rfl
      refine last_ (i := 14) (N := none) #[true, true, true, true, true, true, true, true, true, true, true, true, true, true, true] rfl rfl (by kernel_rfl) (by decide) (fun K hK => ?_)
      refine skip_ (w1 := ?_) (by rfl) rfl ?_ ?_
      rotate_left
      · go_simp
        rfl
      refine hK.out _ _ ?_
      clear hK K
      refine done_ (by kernel_rfl) ?_
      generalize hwC : World.setCell wB _ _ = wC
      have NF : Aside0 (Nx w0 wC g { s with may := 2, stk := s.stk ++ [true], lv := s.lv ++ [⟨t.frm, sv, 0, ⟨#[]⟩⟩] } (.slice A' nn cc')) := ⟨by
        subst hwC
        refine ⟨⟨wvA, by simpa using blk_set GB.out 3 (.slice A' nn cc'), ?_, hgeA⟩, ?_, ?_⟩
        · have := own_setCell OB.out (p := ⟨g, 3, none⟩) (own_ne OB.out GB.out (by decide)) (.slice A' nn cc')
          simpa using this
        · rw [← HNN.out]
          exact own_setCell RB.out (own_ne RB.out GB.out (by decide)) _
        · have := H.out.len
          simp [this]⟩
      have EBC : Aside0 (wC.heap[b]? = some (.cells (evCells ⟨1, 5, t.frm, 0, sv, ⟨#[]⟩⟩).toArray 62 (0, 0))) := ⟨by subst hwC; exact blk_far EBB.out (p := ⟨g, 3, none⟩) NBG.out _⟩
      have BC : Aside0 (Below w0.heap.size W wC) := ⟨by subst hwC; exact BB.out.setCell (p := ⟨g, 3, none⟩) hgeA _⟩
      have KC : Aside0 (KeepN g W wC) := ⟨by subst hwC; exact KB.out.trans (KeepN.set_ _ _ _)⟩
      clear hwC c3 z3
      obtain ⟨v0, v1, v2, v3, v4, v5, v6, v7⟩ := ev_cells EBC.out
      go_wp2_with (fail)
      go_ret2
      rw [E.out, if_pos H4.out, if_pos H4.out, show decide (t.kind = 4) = true from k2]
      exact ⟨_, rfl, _, NF.out.below (below_alloc (Below.refl _ _) _), BC.out.trans ((below_alloc (Below.refl _ _) _).mono (Nat.le_trans NF.out.ge (Nat.le_of_lt NF.out.lt))), KC.out.trans (KeepN.of_below (below_alloc (Below.refl _ _) _)), rowE wC _ ⟨1, 5, t.frm, 0, sv, ⟨#[]⟩⟩ KC.out.1 _ _ rfl rfl, fun h => by simp at h⟩
    · have H4 := Aside0.mk h4
      clear h4
      have k1 : (t.kind == 4) = false := by simp [H4.out]
      have k2 : decide (t.kind = 4) = false := by simp [H4.out]
      go_upto_region 7 with (fail)
      generalize hw9 : World.setCell _ ⟨g, 4, none⟩ _ = w9
      have N9 : Aside0 (Nx w0 w9 g { s with may := 1 } lvv) := ⟨by subst hw9; exact N8.out.set4 1⟩
      have EB9 : Aside0 (w9.heap[b]? = some (.cells (evCells ⟨1, 4, t.frm, 0, sv, ⟨#[]⟩⟩).toArray 62 (0, 0))) := ⟨by subst hw9; exact blk_far EB8.out (p := ⟨g, 4, none⟩) NBG.out _⟩
      have TB9 : Aside0 (w9.heap[b3]? = some (.cells (tokCells t) 39 (0, 0))) := ⟨by subst hw9; exact blk_far TB8.out (p := ⟨g, 4, none⟩) NB3.out _⟩
      have B9 : Aside0 (Below w0.heap.size W w9) := ⟨by subst hw9; exact BW8.out.setCell (p := ⟨g, 4, none⟩) H.out.ge _⟩
      have K9 : Aside0 (KeepN g W w9) := ⟨by subst hw9; exact K8.out.trans (KeepN.set_ _ _ _)⟩
      clear hw9 N8 EB8 TB8 BW8 K8 c4 z4 v1 zb1 d0
      have d0 : w9.cell? ⟨b3, 0, none⟩ = some (.int .i64 t.kind) := (blk_cell TB9.out 0).trans rfl
      have HP := Aside0.mk (push_calls _ g s.stk false w0 w9.drew (N9.out.below (Below.refl _ _).drew).bits (HB0.out.trans B9.out.drew) (by have := HN.out; omega))
      refine ListedB.wp_region_listed (G := []) (by kernel_rfl) (by kernel_rfl) ?_
      go_wp2_with (fail)
      go_at_call 113
      refine HP.out.mono ?_
      rintro e wA ⟨rfl, hI, hbl, hkt⟩
      have ND9 := Nx.below N9.out (Below.refl w9.heap.size w9).drew
      obtain ⟨wvn, hgn⟩ := ND9.blk
      have IA := Aside0.mk hI
      have RA := Aside0.mk (own_bits (cs := []) ND9.row hkt (by decide) hgn (by decide))
      have EBA := Aside0.mk (blk_bits (show w9.drew.heap[b]? = some (.cells (evCells ⟨1, 4, t.frm, 0, sv, ⟨#[]⟩⟩).toArray 62 (0, 0)) from EB9.out) hkt NBG.out (by decide))
      have TBA := Aside0.mk (blk_bits (show w9.drew.heap[b3]? = some (.cells (tokCells t) 39 (0, 0)) from TB9.out) hkt NB3.out (by decide))
      have KA := Aside0.mk (K9.out.trans (KeepN.trans (KeepN.of_below (Below.refl w9.heap.size w9).drew) (KeepN.of_bits hkt)))
      have BA := Aside0.mk (below_mid HB0.out hbl KA.out.1)
      have LA := Aside0.mk N9.out.len
      clear hI hbl hkt hgn d0 HP ND9
      go_wp2_with (fail)
      refine ListedB.fin_intro (by kernel_rfl) ?_
      go_upto_region 8 with (fail)
      obtain ⟨wvA, hgA, hoA, hgeA⟩ := IA.out
      have RD : Aside0 (wA.drew.ownsRow w0.heap.size 161 6 lvv s.lv.length (s.lv.flatMap lvCells)) := ⟨RA.out⟩
      have GA : Aside0 (wA.drew.heap[g]? = some (.cells #[.int .i64 (s.most : Int), wvA, .int .i64 ((s.stk ++ [false]).length : Int), lvv, .int .i64 1, .int .i64 s.begun, .bool s.began] 113 (0, 0))) := ⟨hgA⟩
      have OA : Aside0 (wA.drew.ownsRow w0.heap.size 169 1 wvA (mw (s.stk.length + 1)) (nums .u64 (pk (mw (s.stk.length + 1)) (s.stk ++ [false])))) := ⟨hoA⟩
      have EBD : Aside0 (wA.drew.heap[b]? = some (.cells (evCells ⟨1, 4, t.frm, 0, sv, ⟨#[]⟩⟩).toArray 62 (0, 0))) := ⟨EBA.out⟩
      have TBD : Aside0 (wA.drew.heap[b3]? = some (.cells (tokCells t) 39 (0, 0))) := ⟨TBA.out⟩
      have CS : Aside0 (wA.drew.cell? ⟨g, 3, none⟩ = some lvv ∧ wA.drew.cell? ⟨b3, 2, none⟩ = some (.int .i64 (t.frm : Int)) ∧ wA.drew.cell? ⟨b, 4, none⟩ = some (.bool sv.named) ∧ wA.drew.cell? ⟨b, 5, none⟩ = some (.string sv.name) ∧ wA.drew.cell? ⟨b, 6, none⟩ = some (.int .i64 (sv.idx : Int))) :=
        ⟨(blk_cell hgA 3).trans rfl, (blk_cell TBA.out 2).trans rfl, (blk_cell EBA.out 4).trans rfl, (blk_cell EBA.out 5).trans rfl, (blk_cell EBA.out 6).trans rfl⟩
      obtain ⟨i0, hi, hz0, hz1, hz2⟩ := info_parts linfo
      have LEN : Aside0 (s.lv.length ≤ 90000) := ⟨by have := H.out.len; have := HN.out; omega⟩
      have HWG : Aside0 (w0.heap.size ≤ wA.drew.heap.size) := ⟨Nat.le_trans hgeA (Nat.le_of_lt (blk_lt hgA))⟩
      have KA : Aside0 (KeepN g W wA.drew) := ⟨KA.out.trans (KeepN.of_below (Below.refl wA.heap.size wA).drew)⟩
      have BA : Aside0 (Below w0.heap.size W wA.drew) := ⟨BA.out.drew⟩
      clear hgA hoA IA RA
      refine start_ (n := 15) (S := fun w' => w'.cell? ⟨g, 3, none⟩ = some lvv ∧ w'.cell? ⟨b3, 2, none⟩ = some (.int .i64 (t.frm : Int)) ∧ w'.cell? ⟨b, 4, none⟩ = some (.bool sv.named) ∧ w'.cell? ⟨b, 5, none⟩ = some (.string sv.name) ∧ w'.cell? ⟨b, 6, none⟩ = some (.int .i64 (sv.idx : Int))) (ds := [11, 14]) #[false, false, false, false, false, false, false, false, false, false, false, false, false, false, false] (by kernel_rfl) rfl rfl ⟨CS.out.1, CS.out.2.1, CS.out.2.2.1, CS.out.2.2.2.1, CS.out.2.2.2.2⟩ (fun hHeld => ?_)
      generalize hwd_ : wA.drew = wF at CS RD GA OA EBD TBD HWG KA BA hHeld ⊢
      clear hwd_
      refine pure_ (i := 0) (N := some 42) (v := ?_) (a' := ?_) #[true, false, false, false, false, false, false, false, false, false, false, false, false, false, false] rfl rfl (by kernel_rfl) (fun _ _ _ h => h) (Or.inl ⟨by rfl, ?_⟩) ?_ ?_
      rotate_left
      · intro w'
        go_simp
        with_reducible rfl
      rotate_left
      · simp only [Act.put, List.setIfInBounds_toArray, List.set_cons_zero, List.set_cons_succ, i64_w, i32_w]
        rfl
      refine pure_ (i := 1) (N := some 43) (v := ?_) (a' := ?_) #[true, true, false, false, false, false, false, false, false, false, false, false, false, false, false] rfl rfl (by kernel_rfl) (fun _ _ _ h => h) (Or.inl ⟨by rfl, ?_⟩) ?_ ?_
      rotate_left
      · intro w'
        go_simp
        with_reducible rfl
      rotate_left
      · simp only [Act.put, List.setIfInBounds_toArray, List.set_cons_zero, List.set_cons_succ, i64_w, i32_w]
        rfl
      refine pure_ (i := 2) (N := some 44) (v := ?_) (a' := ?_) #[true, true, true, false, false, false, false, false, false, false, false, false, false, false, false] rfl rfl (by kernel_rfl) (fun _ _ _ h => h) (Or.inl ⟨by rfl, ?_⟩) ?_ ?_
      rotate_left
      · intro w'
        go_simp
        with_reducible rfl
      rotate_left
      · simp only [Act.put, List.setIfInBounds_toArray, List.set_cons_zero, List.set_cons_succ, i64_w, i32_w]
        rfl
      refine pure_ (i := 3) (N := some 45) (v := ?_) (a' := ?_) #[true, true, true, true, false, false, false, false, false, false, false, false, false, false, false] rfl rfl (by kernel_rfl) (fun _ _ _ h => h) (Or.inl ⟨by rfl, ?_⟩) ?_ ?_
      rotate_left
      · intro w'
        go_simp
        with_reducible rfl
      rotate_left
      · simp only [Act.put, List.setIfInBounds_toArray, List.set_cons_zero, List.set_cons_succ, i64_w, i32_w]
        rfl
      refine pure_ (i := 5) (N := some 47) (v := ?_) (a' := ?_) #[true, true, true, true, false, true, false, false, false, false, false, false, false, false, false] rfl rfl (by kernel_rfl) (fun _ _ _ h => h) (Or.inl ⟨by rfl, ?_⟩) ?_ ?_
      rotate_left
      · intro w'
        go_simp
        with_reducible rfl
      rotate_left
      · simp only [Act.put, List.setIfInBounds_toArray, List.set_cons_zero, List.set_cons_succ, i64_w, i32_w]
        rfl
      refine pure_ (i := 7) (N := some 49) (v := ?_) (a' := ?_) #[true, true, true, true, false, true, false, true, false, false, false, false, false, false, false] rfl rfl (by kernel_rfl) (fun _ _ _ h => h) (Or.inl ⟨by rfl, ?_⟩) ?_ ?_
      rotate_left
      · intro w'
        go_simp
        with_reducible rfl
      rotate_left
      · simp only [Act.put, List.setIfInBounds_toArray, List.set_cons_zero, List.set_cons_succ, i64_w, i32_w]
        rfl
      refine take_ (i := 4) (N := some 46) (v := ?_) (a' := ?_) #[true, true, true, true, true, true, false, true, false, false, false, false, false, false, false] rfl rfl (by kernel_rfl) (fun _ _ _ h => h) (Or.inl ⟨by rfl, ?_⟩) hHeld ?_ ?_
      rotate_left
      · rintro w' ⟨s0, s1, s2, s3, s4⟩
        go_simp
        with_reducible rfl
      rotate_left
      · simp only [Act.put, List.setIfInBounds_toArray, List.set_cons_zero, List.set_cons_succ, i64_w, i32_w]
        rfl
      refine take_ (i := 6) (N := some 48) (v := ?_) (a' := ?_) #[true, true, true, true, true, true, true, true, false, false, false, false, false, false, false] rfl rfl (by kernel_rfl) (fun _ _ _ h => h) (Or.inl ⟨by rfl, ?_⟩) hHeld ?_ ?_
      rotate_left
      · rintro w' ⟨s0, s1, s2, s3, s4⟩
        go_simp
        with_reducible rfl
      rotate_left
      · simp only [Act.put, List.setIfInBounds_toArray, List.set_cons_zero, List.set_cons_succ, i64_w, i32_w]
        rfl
      refine take_ (i := 8) (N := some 50) (v := ?_) (a' := ?_) #[true, true, true, true, true, true, true, true, true, false, false, false, false, false, false] rfl rfl (by kernel_rfl) (fun _ _ _ h => h) (Or.inl ⟨by rfl, ?_⟩) hHeld ?_ ?_
      rotate_left
      · rintro w' ⟨s0, s1, s2, s3, s4⟩
        go_simp
        with_reducible rfl
      rotate_left
      · simp only [Act.put, List.setIfInBounds_toArray, List.set_cons_zero, List.set_cons_succ, i64_w, i32_w]
        rfl
      refine pure_ (i := 9) (N := some 51) (v := ?_) (a' := ?_) #[true, true, true, true, true, true, true, true, true, true, false, false, false, false, false] rfl rfl (by kernel_rfl) (fun _ _ _ h => h) (Or.inl ⟨by rfl, ?_⟩) ?_ ?_
      rotate_left
      · intro w'
        go_simp
        with_reducible rfl
      rotate_left
      · simp only [Act.put, List.setIfInBounds_toArray, List.set_cons_zero, List.set_cons_succ, i64_w, i32_w]
        rfl
      refine one_ (i := 10) (N := some 52) #[true, true, true, true, true, true, true, true, true, true, true, false, false, false, false] rfl rfl (by kernel_rfl) (by decide) (fun K hK => ?_)
      refine value_ (w1 := ?_) (v := ?_) (by rfl) rfl ?_ ?_
      rotate_left 2
      · go_simp
        constructor
        · rfl
        · rfl
      refine hK.out _ _ ⟨pw_cell_below (below_alloc (Below.refl _ _) _) CS.out.1, pw_cell_below (below_alloc (Below.refl _ _) _) CS.out.2.1, pw_cell_below (below_alloc (Below.refl _ _) _) CS.out.2.2.1, pw_cell_below (below_alloc (Below.refl _ _) _) CS.out.2.2.2.1, pw_cell_below (below_alloc (Below.refl _ _) _) CS.out.2.2.2.2⟩ (fun hHeld => ?_)
      clear hK K
      refine norm_ (a' := ?_) ?_ ?_
      rotate_left
      · show Act.put _ (some 52) _ = _
        simp only [Act.put, List.setIfInBounds_toArray, List.set_cons_zero, List.set_cons_succ, i64_w, i32_w]
        rfl
      refine last_ (i := 11) (N := some 53) #[true, true, true, true, true, true, true, true, true, true, true, true, false, false, false] rfl rfl (by kernel_rfl) (by decide) (fun K hK => ?_)
      refine append_at_step (by rfl) rfl (.tmp 46) (.tmp 52) 111 rfl w0.heap.size 161 i0 _ 6 64 Tryd.underlying111 hi hz0 hz1 hz2 rfl (by decide) lvv s.lv.length (s.lv.flatMap lvCells) rfl (RD.out.alloc _) ⟨wF.heap.size, 0, none⟩ 1 1 (lvCells ⟨t.frm, sv, 0, ⟨#[]⟩⟩) rfl rfl (litN _ _ _) (lv_one _) (by have := LEN.out; unfold maxLen; omega) (by have := LEN.out; omega) (by have := HWG.out; simp; omega) ?_
      intro v' wB hown hgrow
      have GB := Aside0.mk (grown_blk RD.out hgrow GA.out (by decide))
      have OB := Aside0.mk (grown_row RD.out hgrow OA.out (by decide))
      have EBB := Aside0.mk (grown_blk RD.out hgrow EBD.out (by decide))
      have TBB := Aside0.mk (grown_blk RD.out hgrow TBD.out (by decide))
      have KB := Aside0.mk (KA.out.trans (KeepN.grown RD.out hgrow))
      have BB := Aside0.mk (BA.out.trans (below_grown RD.out hgrow HWG.out))
      have hown2 : wB.ownsRow w0.heap.size 161 6 v' (s.lv ++ [(⟨t.frm, sv, 0, ⟨#[]⟩⟩ : Lv)]).length ((s.lv ++ [(⟨t.frm, sv, 0, ⟨#[]⟩⟩ : Lv)]).flatMap lvCells) := by rw [List.length_append, List.flatMap_append]; exact hown
      have RB := Aside0.mk hown2
      obtain ⟨A', cc', rfl⟩ := Go.Proofs.YtlhpflicchchlaaDoorW.PrintWords.own_slice hown2
      obtain ⟨nn, hnn⟩ : ∃ nn, nn = (s.lv ++ [(⟨t.frm, sv, 0, ⟨#[]⟩⟩ : Lv)]).length := ⟨_, rfl⟩
      rw [← hnn]
      rw [← hnn] at RB
      have HNN := Aside0.mk hnn
      clear hown hown2 hgrow hnn
      have c3 := (blk_cell GB.out 3).trans rfl
      have z3 := blk_frozen GB.out 3
      refine hK.out _ _ ?_
      clear hK K
      refine norm_ (a' := ?_) ?_ ?_
      rotate_left
      · show Act.put _ (some 53) _ = _
        simp only [Act.put, List.setIfInBounds_toArray, List.set_cons_zero, List.set_cons_succ, i64_w, i32_w]
        rfl
      refine pure_ (i := 12) (N := some 54) (v := ?_) (a' := ?_) #[true, true, true, true, true, true, true, true, true, true, true, true, true, false, false] rfl rfl (by kernel_rfl) (fun _ _ _ h => h) (Or.inl ⟨by rfl, ?_⟩) ?_ ?_
      rotate_left
      · intro w'
        go_simp
        with_reducible rfl
      rotate_left
      · simp only [Act.put, List.setIfInBounds_toArray, List.set_cons_zero, List.set_cons_succ, i64_w, i32_w]
        rfl
      refine pure_ (i := 13) (N := some 55) (v := ?_) (a' := ?_) #[true, true, true, true, true, true, true, true, true, true, true, true, true, true, false] rfl rfl (by kernel_rfl) (fun _ _ _ h => h) (Or.inl ⟨by rfl, ?_⟩) ?_ ?_
      rotate_left
      · intro w'
        go_simp
        with_reducible rfl
      rotate_left
      · simp only [Act.put, List.setIfInBounds_toArray, List.set_cons_zero, List.set_cons_succ, i64_w, i32_w]
        rfl
      refine last_ (i := 14) (N := none) #[true, true, true, true, true, true, true, true, true, true, true, true, true, true, true] rfl rfl (by kernel_rfl) (by decide) (fun K hK => ?_)
      refine skip_ (w1 := ?_) (by rfl) rfl ?_ ?_
      rotate_left
      · go_simp
        rfl
      refine hK.out _ _ ?_
      clear hK K
      refine done_ (by kernel_rfl) ?_
      generalize hwC : World.setCell wB _ _ = wC
      have NF : Aside0 (Nx w0 wC g { s with may := 1, stk := s.stk ++ [false], lv := s.lv ++ [⟨t.frm, sv, 0, ⟨#[]⟩⟩] } (.slice A' nn cc')) := ⟨by
        subst hwC
        refine ⟨⟨wvA, by simpa using blk_set GB.out 3 (.slice A' nn cc'), ?_, hgeA⟩, ?_, ?_⟩
        · have := own_setCell OB.out (p := ⟨g, 3, none⟩) (own_ne OB.out GB.out (by decide)) (.slice A' nn cc')
          simpa using this
        · rw [← HNN.out]
          exact own_setCell RB.out (own_ne RB.out GB.out (by decide)) _
        · have := H.out.len
          simp [this]⟩
      have EBC : Aside0 (wC.heap[b]? = some (.cells (evCells ⟨1, 4, t.frm, 0, sv, ⟨#[]⟩⟩).toArray 62 (0, 0))) := ⟨by subst hwC; exact blk_far EBB.out (p := ⟨g, 3, none⟩) NBG.out _⟩
      have BC : Aside0 (Below w0.heap.size W wC) := ⟨by subst hwC; exact BB.out.setCell (p := ⟨g, 3, none⟩) hgeA _⟩
      have KC : Aside0 (KeepN g W wC) := ⟨by subst hwC; exact KB.out.trans (KeepN.set_ _ _ _)⟩
      clear hwC c3 z3
      obtain ⟨v0, v1, v2, v3, v4, v5, v6, v7⟩ := ev_cells EBC.out
      go_wp2_with (fail)
      go_ret2
      rw [E.out, if_neg H4.out, if_neg H4.out, show decide (t.kind = 4) = false from k2]
      exact ⟨_, rfl, _, NF.out.below (below_alloc (Below.refl _ _) _), BC.out.trans ((below_alloc (Below.refl _ _) _).mono (Nat.le_trans NF.out.ge (Nat.le_of_lt NF.out.lt))), KC.out.trans (KeepN.of_below (below_alloc (Below.refl _ _) _)), rowE wC _ ⟨1, 4, t.frm, 0, sv, ⟨#[]⟩⟩ KC.out.1 _ _ rfl rfl, fun h => by simp at h⟩
end Go.Proofs.YtlhpflicchchlaaDoor.Nx
