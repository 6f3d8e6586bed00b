/- quote.Walk's methods, walked: among, slash, Text. Conditions: none. -/
import Derived.Test.YtlhpflicchchlaaDoorLxQW
namespace Go.Proofs.YtlhpflicchchlaaDoor.LxQ
open Go.RowKit Go.Proofs.YtlhpflicchchlaaDoorW.PrintWords Go.Proofs.YtlhpflicchchlaaDoorW.PrintLast Go.Proofs.YtlhpflicchchlaaDoorW.PrintMore
attribute [local go_sem] max2_int min2_int max_two min_two max_three min_three max_four min_four
set_option linter.unusedVariables false
set_option linter.unusedSimpArgs false
structure QS where
  a : Int
  l : Int
  lo : Int
  hi : Int
  sg : Int
  text : List UInt8
  le : Int
  un : Int
  fi : Int
/-- A quote.Walk at block b. -/
def IsQ (W : World) (b : Nat) (p : LP) (q : QS) : Prop := ∃ tx, IsB W b p q.a q.l q.lo q.hi q.sg tx q.le q.un q.fi ∧ W.ownsRow (max p.B (b + 1)) 5 1 tx q.text.length (Lib.byteCells q.text)
theorem own_keep {W W' : World} {b : Nat} {p : LP} {tx : Value} {t : List UInt8} (h : W.ownsRow (max p.B (b + 1)) 5 1 tx t.length (Lib.byteCells t)) (hk : KeepB b W W') : W'.ownsRow (max p.B (b + 1)) 5 1 tx t.length (Lib.byteCells t) := by
  refine ⟨h.1, ?_⟩
  rcases h.2 with hn | ⟨g, cap, cur, hv, hbg, hg, rest⟩
  · exact .inl hn
  · exact .inr ⟨g, cap, cur, hv, hbg, (hk.block g (Array.getElem?_eq_some_iff.1 hg).1 (by omega)).trans hg, rest⟩
theorem own_set {W : World} {b : Nat} {p : LP} {tx : Value} {t : List UInt8} (h : W.ownsRow (max p.B (b + 1)) 5 1 tx t.length (Lib.byteCells t)) (i : Nat) (v : Value) : (W.setCell ⟨b, i, none⟩ v).ownsRow (max p.B (b + 1)) 5 1 tx t.length (Lib.byteCells t) := own_keep h ((KeepB.refl b W).set i v)
theorem IsB.grownOwn {W W' : World} {b : Nat} {p : LP} {a l lo hi sg : Int} {tx : Value} {le un fi : Int} {t : List UInt8} {o : Obj} (h : IsB W b p a l lo hi sg tx le un fi) (ho : W.ownsRow (max p.B (b + 1)) 5 1 tx t.length (Lib.byteCells t)) (hg : (W.alloc o).grownBy W' tx.ownBlock) : IsB W' b p a l lo hi sg tx le un fi := by
  have hlt := IsB.lt h
  refine ⟨(hg.block b (by simp; omega) (fun e => ?_)).trans ((Lib.alloc_old W o b hlt).trans h.1), Nat.le_trans h.2 (Nat.le_trans (by simp) hg.size)⟩
  have := (ho.lt b e.symm).1
  omega
theorem kl_own {W W' : World} {b : Nat} {p : LP} {tx : Value} {t : List UInt8} {o : Obj} (hb : b < W.heap.size) (ho : W.ownsRow (max p.B (b + 1)) 5 1 tx t.length (Lib.byteCells t)) (hg : (W.alloc o).grownBy W' tx.ownBlock) : KL b p.B W W' :=
  ⟨((Below.refl b W).alloc (Nat.le_of_lt hb) o).grown hg (by simp; omega) (fun k hk => by have := (ho.lt k hk).1; omega), fun k h1 h2 h3 => (hg.block k (by simp; omega) (fun e => by have := (ho.lt k e.symm).1; omega)).trans (Lib.alloc_old W o k h2)⟩
theorem runeCells_eq (r : Int) : Lib.runeCells r = Lib.byteCells (Lib.encodeRune r) := (Lib.byteCells_encodeRune r).symm
set_option maxHeartbeats 8000000 in
set_option maxRecDepth 100000 in
theorem put_calls (B : Nat) (v : Value) (t : List UInt8) (r : Int) (h0 : -2147483648 ≤ r) (h1 : r ≤ 2147483647) (W : World) (ho : W.ownsRow B 5 1 v t.length (Lib.byteCells t)) (hlen : t.length + 4 ≤ 140737488355328) (hB : B ≤ W.heap.size) :
    Calls Tryd.prog 123 #[v, .int .i32 r] W fun e w' => ∃ v', e = .returned v' ∧ w'.ownsRow B 5 1 v' (t ++ Lib.encodeRune r).length (Lib.byteCells (t ++ Lib.encodeRune r)) ∧ ∃ o, (W.alloc o).grownBy w' v.ownBlock := by
  obtain ⟨ao, cap, rfl⟩ : ∃ ao cap, v = .slice ao t.length cap := by
    rcases ho.2 with ⟨hv, h0⟩ | ⟨g, cap, cur, hv, _⟩
    · exact ⟨none, 0, by rw [hv, h0]⟩
    · exact ⟨_, _, hv⟩
  have HO := Aside0.mk ho
  have HP := Aside0.mk (Tryd.utf8_AppendRune_plain B _ t.length (Lib.byteCells t) r h0 h1 W ho hlen hB)
  clear ho
  go_enter Tryd.func123, Tryd.ntmps123
  go_wp2_with (fail)
  go_at_call 95
  refine HP.out.mono ?_
  rintro e w2 ⟨v', rfl, hown', o, hgrow⟩
  have HO2 := Aside0.mk hown'
  have HG := Aside0.mk hgrow
  clear hown' hgrow
  go_wp2_with (fail)
  go_ret
  refine ⟨_, rfl, ?_, o, HG.out⟩
  have := HO2.out
  rw [runeCells_eq] at this
  rw [List.length_append, Lib.byteCells_append]
  rw [Lib.byteCells_length] at this
  exact this
def amongT (q : QS) (u : Bool × Int × Int × Int × Int) : QS × Int :=
  if u.1 = false then (q, 2)
  else if u.2.1 > 0 then ({ q with l := u.2.1, lo := u.2.2.1, hi := u.2.2.2.1, sg := u.2.2.2.2 }, 0)
  else ({ q with l := u.2.1, lo := u.2.2.1, hi := u.2.2.2.1, sg := u.2.2.2.2, text := q.text ++ Lib.encodeRune u.2.2.2.2 }, 0)
def amongS (q : QS) (c : Int) : QS × Int :=
  if ¬ q.l > 0 ∧ c = 34 then ({ q with a := 5 }, 1)
  else if ¬ q.l > 0 ∧ c = 92 then ({ q with a := 1 }, 0)
  else if ¬ q.l > 0 ∧ c < 32 then (q, 7)
  else amongT q (ustep q.l q.lo q.hi q.sg c)
theorem ustep_false {l lo hi sg c : Int} (h : (ustep l lo hi sg c).1 = false) : ustep l lo hi sg c = (false, l, lo, hi, sg) := by
  unfold ustep at h ⊢
  split
  · rename_i h1
    rw [if_pos h1] at h
    split
    · rename_i h2; rw [if_pos h2] at h; simp at h
    · rfl
  · rename_i h1
    rw [if_neg h1] at h
    split
    · rfl
    · rename_i h2; rw [if_neg h2] at h; simp at h
theorem uf_range (c : Int) (h0 : 0 ≤ c) (h1 : c < 256) : 0 ≤ (uf c).1 ∧ (uf c).1 ≤ 3 ∧ 0 ≤ (uf c).2.2.2.1 ∧ (uf c).2.2.2.1 < 256 := by
  unfold uf
  repeat' split
  all_goals simp only
  all_goals omega
/-- What holds of a state that steps. -/
structure Good (q : QS) : Prop where
  l0 : 0 ≤ q.l
  l3 : q.l ≤ 3
  s0 : 0 ≤ q.sg
  s1 : q.l > 0 → q.sg < 33554432
  len : q.text.length ≤ 1099511627776
theorem own_slice {W : World} {B : Nat} {v : Value} {t : List UInt8} (h : W.ownsRow B 5 1 v t.length (Lib.byteCells t)) : ∃ ao cap, v = .slice ao t.length cap := by
  rcases h.2 with ⟨hv, h0⟩ | ⟨g, cap, cur, hv, _⟩
  · exact ⟨none, 0, by rw [hv, h0]⟩
  · exact ⟨_, _, hv⟩
theorem ustep_sg {l lo hi sg c : Int} (k0 : 0 ≤ c) (k1 : c < 256) (hs0 : 0 ≤ sg) (hs1 : sg < 33554432) : -2147483648 ≤ (ustep l lo hi sg c).2.2.2.2 ∧ (ustep l lo hi sg c).2.2.2.2 ≤ 2147483647 := by
  have := uf_range c k0 k1
  unfold ustep
  repeat' split
  all_goals simp only
  all_goals omega
set_option maxHeartbeats 8000000 in
set_option maxRecDepth 100000 in
theorem among_calls {W : World} {b : Nat} {p : LP} {q : QS} (h : IsQ W b p q) (hg : Good q) (c : Int) (k0 : 0 ≤ c) (k1 : c < 256) (hs1 : q.sg < 33554432) :
    Calls Tryd.prog 156 #[.pointer (some ⟨b, 8, none⟩), .int .u8 c] W fun e w' => e = .returned (.int .i64 (amongS q c).2) ∧ IsQ w' b p (amongS q c).1 ∧ KL b p.B W w' := by
  obtain ⟨tx, hb, ho⟩ := h
  have HB := Aside0.mk hb
  have HO := Aside0.mk ho
  have HLT := Aside0.mk (IsB.lt hb)
  have hw0 := within_calls hb
  have hs0 := step_calls hb c k0 k1 hg.l0 hg.l3 hg.s0 hs1
  have hsg := ustep_sg (l := q.l) (lo := q.lo) (hi := q.hi) k0 k1 hg.s0 hs1
  obtain ⟨⟨u1, l1, lo1, hi1, sg1⟩, hu⟩ : ∃ u, ustep q.l q.lo q.hi q.sg c = u := ⟨_, rfl⟩
  rw [hu] at hs0 hsg
  simp only at hs0 hsg
  have HU := Aside0.mk hu
  have HS := Aside0.mk hs0
  have HSG := Aside0.mk hsg
  have HG := Aside0.mk hg
  have f0 := hb.fz 8
  have c0 := hb.c0
  clear hb ho hg hs0 hsg k0 k1 hs1
  by_cases hl : q.l > 0
  · have e1 : amongS q c = amongT q (u1, l1, lo1, hi1, sg1) := by
      unfold amongS; rw [if_neg (fun h => h.1 hl), if_neg (fun h => h.1 hl), if_neg (fun h => h.1 hl), hu]
    rw [e1]
    have hw : decide (q.l > 0) = true := by simp; omega
    rw [hw] at hw0
    have HW := Aside0.mk hw0
    clear hw hw0 hl hu e1
    go_enter Tryd.func156, Tryd.ntmps156
    go_wp2_with (fail)
    go_at_call 90
    refine HW.out.mono ?_
    rintro e w2 ⟨rfl, rfl⟩
    go_wp2_with (fail)
    go_at_call 89
    refine HS.out.mono ?_
    rintro e w3 ⟨rfl, hb, hk⟩
    have HB3 := Aside0.mk hb
    have HK3 := Aside0.mk (hk.kl (B := p.B))
    have HO3 := Aside0.mk (own_keep HO.out hk)
    have HW3 := Aside0.mk (within_calls hb)
    clear hb hk HS HW HB HO
    cases u1 with
    | false =>
      have hu := ustep_false (by rw [HU.out])
      rw [HU.out] at hu
      simp only [Prod.mk.injEq, true_and] at hu
      obtain ⟨rfl, rfl, rfl, rfl⟩ := hu
      go_wp2_with (fail)
      go_ret
      exact ⟨rfl, ⟨tx, HB3.out, HO3.out⟩, HK3.out⟩
    | true =>
      by_cases hl1 : l1 > 0
      · have e2 : amongT q (true, l1, lo1, hi1, sg1) = ({ q with l := l1, lo := lo1, hi := hi1, sg := sg1 }, 0) := by unfold amongT; rw [if_neg (by simp), if_pos hl1]
        have E2 := Aside0.mk e2
        clear e2
        have hw3 : decide (l1 > 0) = true := by simp; omega
        rw [hw3] at HW3
        clear hl1 hw3
        go_wp2_with (fail)
        go_at_call 90
        refine HW3.out.mono ?_
        rintro e w4 ⟨rfl, rfl⟩
        go_wp2_with (fail)
        go_ret
        rw [E2.out]
        exact ⟨rfl, ⟨tx, HB3.out, HO3.out⟩, HK3.out⟩
      · have e2 : amongT q (true, l1, lo1, hi1, sg1) = ({ q with l := l1, lo := lo1, hi := hi1, sg := sg1, text := q.text ++ Lib.encodeRune sg1 }, 0) := by unfold amongT; rw [if_neg (by simp), if_neg hl1]
        have E2 := Aside0.mk e2
        clear e2
        have hw3 : decide (l1 > 0) = false := by simp; omega
        rw [hw3] at HW3
        have HNL := Aside0.mk hl1
        clear hl1 hw3
        go_wp2_with (fail)
        go_at_call 90
        refine HW3.out.mono ?_
        rintro e w4 ⟨rfl, rfl⟩
        go_upto_region 13 with (fail)
        have HB3 : Aside0 (IsB w4.drew b p _ _ _ _ _ _ _ _ _) := ⟨HB3.out⟩
        have HO3 : Aside0 (w4.drew.ownsRow (max p.B (b + 1)) 5 1 tx q.text.length (Lib.byteCells q.text)) := ⟨HO3.out⟩
        have HK3 : Aside0 (KL b p.B w2 w4.drew) := ⟨HK3.out.drew⟩
        refine start_ (n := 13) (S := fun w' => w'.cell? ⟨b, 13, none⟩ = some tx) (ds := [9, 12]) #[false, false, false, false, false, false, false, false, false, false, false, false, false] (by kernel_rfl) rfl rfl ((IsB.c5 HB3.out)) (fun hHeld => ?_)
        generalize hwd_ : w4.drew = wD at HB3 HO3 HK3 hHeld ⊢
        clear hwd_
        refine pure_ (i := 0) (N := some 36) (v := ?_) (a' := ?_) #[true, false, false, false, false, false, false, false, false, false, false, false, false] rfl rfl (by kernel_rfl) (fun _ _ _ h => h) (Or.inl ⟨by rfl, ?_⟩) ?_ ?_
        rotate_left
        · intro w'
          go_simp
          with_reducible rfl
        rotate_left
        · simp only [Act.put, List.setIfInBounds_toArray, List.set_cons_zero, List.set_cons_succ, i64_w, i32_w]
          rfl
        refine pure_ (i := 1) (N := some 37) (v := ?_) (a' := ?_) #[true, true, false, false, false, false, false, false, false, false, false, false, false] rfl rfl (by kernel_rfl) (fun _ _ _ h => h) (Or.inl ⟨by rfl, ?_⟩) ?_ ?_
        rotate_left
        · intro w'
          go_simp
          with_reducible rfl
        rotate_left
        · simp only [Act.put, List.setIfInBounds_toArray, List.set_cons_zero, List.set_cons_succ, i64_w, i32_w]
          rfl
        refine pure_ (i := 2) (N := some 38) (v := ?_) (a' := ?_) #[true, true, true, false, false, false, false, false, false, false, false, false, false] rfl rfl (by kernel_rfl) (fun _ _ _ h => h) (Or.inl ⟨by rfl, ?_⟩) ?_ ?_
        rotate_left
        · intro w'
          go_simp
          with_reducible rfl
        rotate_left
        · simp only [Act.put, List.setIfInBounds_toArray, List.set_cons_zero, List.set_cons_succ, i64_w, i32_w]
          rfl
        refine pure_ (i := 3) (N := some 39) (v := ?_) (a' := ?_) #[true, true, true, true, false, false, false, false, false, false, false, false, false] rfl rfl (by kernel_rfl) (fun _ _ _ h => h) (Or.inl ⟨by rfl, ?_⟩) ?_ ?_
        rotate_left
        · intro w'
          go_simp
          with_reducible rfl
        rotate_left
        · simp only [Act.put, List.setIfInBounds_toArray, List.set_cons_zero, List.set_cons_succ, i64_w, i32_w]
          rfl
        refine pure_ (i := 5) (N := some 41) (v := ?_) (a' := ?_) #[true, true, true, true, false, true, false, false, false, false, false, false, false] rfl rfl (by kernel_rfl) (fun _ _ _ h => h) (Or.inl ⟨by rfl, ?_⟩) ?_ ?_
        rotate_left
        · intro w'
          go_simp
          with_reducible rfl
        rotate_left
        · simp only [Act.put, List.setIfInBounds_toArray, List.set_cons_zero, List.set_cons_succ, i64_w, i32_w]
          rfl
        refine pure_ (i := 6) (N := some 42) (v := ?_) (a' := ?_) #[true, true, true, true, false, true, true, false, false, false, false, false, false] rfl rfl (by kernel_rfl) (fun _ _ _ h => h) (Or.inl ⟨by rfl, ?_⟩) ?_ ?_
        rotate_left
        · intro w'
          go_simp
          with_reducible rfl
        rotate_left
        · simp only [Act.put, List.setIfInBounds_toArray, List.set_cons_zero, List.set_cons_succ, i64_w, i32_w]
          rfl
        refine pure_ (i := 7) (N := some 43) (v := ?_) (a' := ?_) #[true, true, true, true, false, true, true, true, false, false, false, false, false] rfl rfl (by kernel_rfl) (fun _ _ _ h => h) (Or.inl ⟨by rfl, ?_⟩) ?_ ?_
        rotate_left
        · intro w'
          go_simp
          with_reducible rfl
        rotate_left
        · simp only [Act.put, List.setIfInBounds_toArray, List.set_cons_zero, List.set_cons_succ, i64_w, i32_w]
          rfl
        refine take_ (i := 4) (N := some 40) (v := ?_) (a' := ?_) #[true, true, true, true, true, true, true, true, false, false, false, false, false] rfl rfl (by kernel_rfl) (fun _ _ _ h => h) (Or.inl ⟨by rfl, ?_⟩) hHeld ?_ ?_
        rotate_left
        · intro w' s0
          go_simp
          with_reducible rfl
        rotate_left
        · simp only [Act.put, List.setIfInBounds_toArray, List.set_cons_zero, List.set_cons_succ, i64_w, i32_w]
          rfl
        refine one_ (i := 8) (N := some 44) #[true, true, true, true, true, true, true, true, true, false, false, false, false] rfl rfl (by kernel_rfl) (by decide) (fun K hK => ?_)
        refine goes_ Tryd.func175 (by kernel_rfl) rfl #[.pointer (some ⟨b, 9, none⟩)] (by rfl) rfl rfl (by simp only [List.map_toArray, List.map_cons, List.map_nil]; rfl) ?_
        with_reducible refine (sign_calls HB3.out (by have := HNL.out; omega)).mono ?_
        rintro e w5 ⟨rfl, rfl⟩
        refine ⟨_, rfl, ?_⟩
        refine hK.out _ _ (HB3.out.c5) (fun hHeld => ?_)
        clear hK K
        refine norm_ (a' := ?_) ?_ ?_
        rotate_left
        · show Act.put _ (some 44) _ = _
          simp only [Act.put, List.setIfInBounds_toArray, List.set_cons_zero, List.set_cons_succ, i64_w, i32_w]
          rfl
        refine last_ (i := 9) (N := some 45) #[true, true, true, true, true, true, true, true, true, true, false, false, false] rfl rfl (by kernel_rfl) (by decide) (fun K hK => ?_)
        refine goes_ Tryd.func123 (by kernel_rfl) rfl #[tx, .int .i32 (sg1)] (by rfl) rfl rfl (by simp only [List.map_toArray, List.map_cons, List.map_nil]; rfl) ?_
        with_reducible refine (put_calls (max p.B (b + 1)) tx q.text (sg1) HSG.out.1 HSG.out.2 _ HO3.out (by have := HG.out.len; omega) (IsB.top HB3.out)).mono ?_
        rintro e w5 ⟨v', rfl, hown', o, hgr⟩
        refine ⟨_, rfl, ?_⟩
        have H5 := Aside0.mk (HB3.out.grownOwn HO3.out hgr)
        have HO5 := Aside0.mk hown'
        have HB5 := Aside0.mk (HK3.out.trans (kl_own (IsB.lt HB3.out) HO3.out hgr))
        have hz5 := H5.out.fz 13
        have hc5 := H5.out.c5
        obtain ⟨ao, cap, rfl⟩ : ∃ ao cap, v' = .slice ao (q.text ++ Lib.encodeRune (sg1)).length cap := own_slice hown'
        obtain ⟨nn, hnn⟩ : ∃ nn, nn = (q.text ++ Lib.encodeRune (sg1)).length := ⟨_, rfl⟩
        rw [← hnn]
        rw [← hnn] at HO5
        have HNN := Aside0.mk hnn
        clear hown' hgr hnn
        refine hK.out _ _ ?_
        clear hK K
        refine norm_ (a' := ?_) ?_ ?_
        rotate_left
        · show Act.put _ (some 45) _ = _
          simp only [Act.put, List.setIfInBounds_toArray, List.set_cons_zero, List.set_cons_succ, i64_w, i32_w]
          rfl
        refine pure_ (i := 10) (N := some 46) (v := ?_) (a' := ?_) #[true, true, true, true, true, true, true, true, true, true, true, false, false] rfl rfl (by kernel_rfl) (fun _ _ _ h => h) (Or.inl ⟨by rfl, ?_⟩) ?_ ?_
        rotate_left
        · intro w'
          go_simp
          with_reducible rfl
        rotate_left
        · simp only [Act.put, List.setIfInBounds_toArray, List.set_cons_zero, List.set_cons_succ, i64_w, i32_w]
          rfl
        refine pure_ (i := 11) (N := some 47) (v := ?_) (a' := ?_) #[true, true, true, true, true, true, true, true, true, true, true, true, false] rfl rfl (by kernel_rfl) (fun _ _ _ h => h) (Or.inl ⟨by rfl, ?_⟩) ?_ ?_
        rotate_left
        · intro w'
          go_simp
          with_reducible rfl
        rotate_left
        · simp only [Act.put, List.setIfInBounds_toArray, List.set_cons_zero, List.set_cons_succ, i64_w, i32_w]
          rfl
        refine last_ (i := 12) (N := none) #[true, true, true, true, true, true, true, true, true, true, true, true, true] rfl rfl (by kernel_rfl) (by decide) (fun K hK => ?_)
        refine skip_ (w1 := ?_) (by rfl) rfl ?_ ?_
        rotate_left
        · go_simp
          rfl
        refine hK.out _ _ ?_
        clear hK K
        refine done_ (by kernel_rfl) ?_
        go_wp2_with (fail)
        go_ret
        rw [HNN.out] at HO5 ⊢
        rw [E2.out]
        exact ⟨rfl, ⟨_, H5.out.s5 _, own_set HO5.out 13 _⟩, HB5.out.trans ((KeepB.refl b _).set 13 _).kl⟩
  · have hw : decide (q.l > 0) = false := by simp; omega
    rw [hw] at hw0
    have HW := Aside0.mk hw0
    clear hw hw0
    by_cases c1 : c = 34
    · subst c1
      have e1 : amongS q 34 = ({ q with a := 5 }, 1) := by unfold amongS; rw [if_pos ⟨hl, rfl⟩]
      rw [e1]
      clear hl e1 hu
      go_enter Tryd.func156, Tryd.ntmps156
      go_wp2_with (fail)
      go_at_call 90
      refine HW.out.mono ?_
      rintro e w2 ⟨rfl, rfl⟩
      go_wp2_with (fail)
      go_ret
      exact ⟨rfl, ⟨tx, HB.out.s0 5, own_set HO.out 8 _⟩, ((KeepB.refl b _).set 8 _).kl⟩
    by_cases c2 : c = 92
    · subst c2
      have e1 : amongS q 92 = ({ q with a := 1 }, 0) := by unfold amongS; rw [if_neg (by simp), if_pos ⟨hl, rfl⟩]
      rw [e1]
      clear hl e1 hu c1
      go_enter Tryd.func156, Tryd.ntmps156
      go_wp2_with (fail)
      go_at_call 90
      refine HW.out.mono ?_
      rintro e w2 ⟨rfl, rfl⟩
      go_wp2_with (fail)
      go_ret
      exact ⟨rfl, ⟨tx, HB.out.s0 1, own_set HO.out 8 _⟩, ((KeepB.refl b _).set 8 _).kl⟩
    have g1 : (c == 34) = false := by simp; exact c1
    have g2 : (c == 92) = false := by simp; exact c2
    have g3 : decide (c = 34) = false := by simp; exact c1
    have g4 : decide (c = 92) = false := by simp; exact c2
    by_cases c3 : c < 32
    · have e1 : amongS q c = (q, 7) := by unfold amongS; rw [if_neg (fun h => c1 h.2), if_neg (fun h => c2 h.2), if_pos ⟨hl, c3⟩]
      rw [e1]
      have g5 : decide (c < 32) = true := by simp; exact c3
      clear hl e1 hu c1 c2 c3
      go_enter Tryd.func156, Tryd.ntmps156
      go_wp2_with (fail)
      go_at_call 90
      refine HW.out.mono ?_
      rintro e w2 ⟨rfl, rfl⟩
      go_wp2_with (fail)
      go_ret
      exact ⟨rfl, ⟨tx, HB.out, HO.out⟩, KL.refl _ _ _⟩
    · have e1 : amongS q c = amongT q (u1, l1, lo1, hi1, sg1) := by
        unfold amongS; rw [if_neg (fun h => c1 h.2), if_neg (fun h => c2 h.2), if_neg (fun h => c3 h.2), hu]
      rw [e1]
      have g5 : decide (c < 32) = false := by simp; omega
      clear hl e1 hu c1 c2 c3
      go_enter Tryd.func156, Tryd.ntmps156
      go_wp2_with (fail)
      go_at_call 90
      refine HW.out.mono ?_
      rintro e w2 ⟨rfl, rfl⟩
      go_wp2_with (fail)
      go_at_call 89
      refine HS.out.mono ?_
      rintro e w3 ⟨rfl, hb, hk⟩
      have HB3 := Aside0.mk hb
      have HK3 := Aside0.mk (hk.kl (B := p.B))
      have HO3 := Aside0.mk (own_keep HO.out hk)
      have HW3 := Aside0.mk (within_calls hb)
      clear hb hk HS HW HB HO
      cases u1 with
      | false =>
        have hu := ustep_false (by rw [HU.out])
        rw [HU.out] at hu
        simp only [Prod.mk.injEq, true_and] at hu
        obtain ⟨rfl, rfl, rfl, rfl⟩ := hu
        go_wp2_with (fail)
        go_ret
        exact ⟨rfl, ⟨tx, HB3.out, HO3.out⟩, HK3.out⟩
      | true =>
        by_cases hl1 : l1 > 0
        · have e2 : amongT q (true, l1, lo1, hi1, sg1) = ({ q with l := l1, lo := lo1, hi := hi1, sg := sg1 }, 0) := by unfold amongT; rw [if_neg (by simp), if_pos hl1]
          have E2 := Aside0.mk e2
          clear e2
          have hw3 : decide (l1 > 0) = true := by simp; omega
          rw [hw3] at HW3
          clear hl1 hw3
          go_wp2_with (fail)
          go_at_call 90
          refine HW3.out.mono ?_
          rintro e w4 ⟨rfl, rfl⟩
          go_wp2_with (fail)
          go_ret
          rw [E2.out]
          exact ⟨rfl, ⟨tx, HB3.out, HO3.out⟩, HK3.out⟩
        · have e2 : amongT q (true, l1, lo1, hi1, sg1) = ({ q with l := l1, lo := lo1, hi := hi1, sg := sg1, text := q.text ++ Lib.encodeRune sg1 }, 0) := by unfold amongT; rw [if_neg (by simp), if_neg hl1]
          have E2 := Aside0.mk e2
          clear e2
          have hw3 : decide (l1 > 0) = false := by simp; omega
          rw [hw3] at HW3
          have HNL := Aside0.mk hl1
          clear hl1 hw3
          go_wp2_with (fail)
          go_at_call 90
          refine HW3.out.mono ?_
          rintro e w4 ⟨rfl, rfl⟩
          go_upto_region 13 with (fail)
          have HB3 : Aside0 (IsB w4.drew b p _ _ _ _ _ _ _ _ _) := ⟨HB3.out⟩
          have HO3 : Aside0 (w4.drew.ownsRow (max p.B (b + 1)) 5 1 tx q.text.length (Lib.byteCells q.text)) := ⟨HO3.out⟩
          have HK3 : Aside0 (KL b p.B w2 w4.drew) := ⟨HK3.out.drew⟩
          refine start_ (n := 13) (S := fun w' => w'.cell? ⟨b, 13, none⟩ = some tx) (ds := [9, 12]) #[false, false, false, false, false, false, false, false, false, false, false, false, false] (by kernel_rfl) rfl rfl ((IsB.c5 HB3.out)) (fun hHeld => ?_)
          generalize hwd_ : w4.drew = wD at HB3 HO3 HK3 hHeld ⊢
          clear hwd_
          refine pure_ (i := 0) (N := some 36) (v := ?_) (a' := ?_) #[true, false, false, false, false, false, false, false, false, false, false, false, false] rfl rfl (by kernel_rfl) (fun _ _ _ h => h) (Or.inl ⟨by rfl, ?_⟩) ?_ ?_
          rotate_left
          · intro w'
            go_simp
            with_reducible rfl
          rotate_left
          · simp only [Act.put, List.setIfInBounds_toArray, List.set_cons_zero, List.set_cons_succ, i64_w, i32_w]
            rfl
          refine pure_ (i := 1) (N := some 37) (v := ?_) (a' := ?_) #[true, true, false, false, false, false, false, false, false, false, false, false, false] rfl rfl (by kernel_rfl) (fun _ _ _ h => h) (Or.inl ⟨by rfl, ?_⟩) ?_ ?_
          rotate_left
          · intro w'
            go_simp
            with_reducible rfl
          rotate_left
          · simp only [Act.put, List.setIfInBounds_toArray, List.set_cons_zero, List.set_cons_succ, i64_w, i32_w]
            rfl
          refine pure_ (i := 2) (N := some 38) (v := ?_) (a' := ?_) #[true, true, true, false, false, false, false, false, false, false, false, false, false] rfl rfl (by kernel_rfl) (fun _ _ _ h => h) (Or.inl ⟨by rfl, ?_⟩) ?_ ?_
          rotate_left
          · intro w'
            go_simp
            with_reducible rfl
          rotate_left
          · simp only [Act.put, List.setIfInBounds_toArray, List.set_cons_zero, List.set_cons_succ, i64_w, i32_w]
            rfl
          refine pure_ (i := 3) (N := some 39) (v := ?_) (a' := ?_) #[true, true, true, true, false, false, false, false, false, false, false, false, false] rfl rfl (by kernel_rfl) (fun _ _ _ h => h) (Or.inl ⟨by rfl, ?_⟩) ?_ ?_
          rotate_left
          · intro w'
            go_simp
            with_reducible rfl
          rotate_left
          · simp only [Act.put, List.setIfInBounds_toArray, List.set_cons_zero, List.set_cons_succ, i64_w, i32_w]
            rfl
          refine pure_ (i := 5) (N := some 41) (v := ?_) (a' := ?_) #[true, true, true, true, false, true, false, false, false, false, false, false, false] rfl rfl (by kernel_rfl) (fun _ _ _ h => h) (Or.inl ⟨by rfl, ?_⟩) ?_ ?_
          rotate_left
          · intro w'
            go_simp
            with_reducible rfl
          rotate_left
          · simp only [Act.put, List.setIfInBounds_toArray, List.set_cons_zero, List.set_cons_succ, i64_w, i32_w]
            rfl
          refine pure_ (i := 6) (N := some 42) (v := ?_) (a' := ?_) #[true, true, true, true, false, true, true, false, false, false, false, false, false] rfl rfl (by kernel_rfl) (fun _ _ _ h => h) (Or.inl ⟨by rfl, ?_⟩) ?_ ?_
          rotate_left
          · intro w'
            go_simp
            with_reducible rfl
          rotate_left
          · simp only [Act.put, List.setIfInBounds_toArray, List.set_cons_zero, List.set_cons_succ, i64_w, i32_w]
            rfl
          refine pure_ (i := 7) (N := some 43) (v := ?_) (a' := ?_) #[true, true, true, true, false, true, true, true, false, false, false, false, false] rfl rfl (by kernel_rfl) (fun _ _ _ h => h) (Or.inl ⟨by rfl, ?_⟩) ?_ ?_
          rotate_left
          · intro w'
            go_simp
            with_reducible rfl
          rotate_left
          · simp only [Act.put, List.setIfInBounds_toArray, List.set_cons_zero, List.set_cons_succ, i64_w, i32_w]
            rfl
          refine take_ (i := 4) (N := some 40) (v := ?_) (a' := ?_) #[true, true, true, true, true, true, true, true, false, false, false, false, false] rfl rfl (by kernel_rfl) (fun _ _ _ h => h) (Or.inl ⟨by rfl, ?_⟩) hHeld ?_ ?_
          rotate_left
          · intro w' s0
            go_simp
            with_reducible rfl
          rotate_left
          · simp only [Act.put, List.setIfInBounds_toArray, List.set_cons_zero, List.set_cons_succ, i64_w, i32_w]
            rfl
          refine one_ (i := 8) (N := some 44) #[true, true, true, true, true, true, true, true, true, false, false, false, false] rfl rfl (by kernel_rfl) (by decide) (fun K hK => ?_)
          refine goes_ Tryd.func175 (by kernel_rfl) rfl #[.pointer (some ⟨b, 9, none⟩)] (by rfl) rfl rfl (by simp only [List.map_toArray, List.map_cons, List.map_nil]; rfl) ?_
          with_reducible refine (sign_calls HB3.out (by have := HNL.out; omega)).mono ?_
          rintro e w5 ⟨rfl, rfl⟩
          refine ⟨_, rfl, ?_⟩
          refine hK.out _ _ (HB3.out.c5) (fun hHeld => ?_)
          clear hK K
          refine norm_ (a' := ?_) ?_ ?_
          rotate_left
          · show Act.put _ (some 44) _ = _
            simp only [Act.put, List.setIfInBounds_toArray, List.set_cons_zero, List.set_cons_succ, i64_w, i32_w]
            rfl
          refine last_ (i := 9) (N := some 45) #[true, true, true, true, true, true, true, true, true, true, false, false, false] rfl rfl (by kernel_rfl) (by decide) (fun K hK => ?_)
          refine goes_ Tryd.func123 (by kernel_rfl) rfl #[tx, .int .i32 (sg1)] (by rfl) rfl rfl (by simp only [List.map_toArray, List.map_cons, List.map_nil]; rfl) ?_
          with_reducible refine (put_calls (max p.B (b + 1)) tx q.text (sg1) HSG.out.1 HSG.out.2 _ HO3.out (by have := HG.out.len; omega) (IsB.top HB3.out)).mono ?_
          rintro e w5 ⟨v', rfl, hown', o, hgr⟩
          refine ⟨_, rfl, ?_⟩
          have H5 := Aside0.mk (HB3.out.grownOwn HO3.out hgr)
          have HO5 := Aside0.mk hown'
          have HB5 := Aside0.mk (HK3.out.trans (kl_own (IsB.lt HB3.out) HO3.out hgr))
          have hz5 := H5.out.fz 13
          have hc5 := H5.out.c5
          obtain ⟨ao, cap, rfl⟩ : ∃ ao cap, v' = .slice ao (q.text ++ Lib.encodeRune (sg1)).length cap := own_slice hown'
          obtain ⟨nn, hnn⟩ : ∃ nn, nn = (q.text ++ Lib.encodeRune (sg1)).length := ⟨_, rfl⟩
          rw [← hnn]
          rw [← hnn] at HO5
          have HNN := Aside0.mk hnn
          clear hown' hgr hnn
          refine hK.out _ _ ?_
          clear hK K
          refine norm_ (a' := ?_) ?_ ?_
          rotate_left
          · show Act.put _ (some 45) _ = _
            simp only [Act.put, List.setIfInBounds_toArray, List.set_cons_zero, List.set_cons_succ, i64_w, i32_w]
            rfl
          refine pure_ (i := 10) (N := some 46) (v := ?_) (a' := ?_) #[true, true, true, true, true, true, true, true, true, true, true, false, false] rfl rfl (by kernel_rfl) (fun _ _ _ h => h) (Or.inl ⟨by rfl, ?_⟩) ?_ ?_
          rotate_left
          · intro w'
            go_simp
            with_reducible rfl
          rotate_left
          · simp only [Act.put, List.setIfInBounds_toArray, List.set_cons_zero, List.set_cons_succ, i64_w, i32_w]
            rfl
          refine pure_ (i := 11) (N := some 47) (v := ?_) (a' := ?_) #[true, true, true, true, true, true, true, true, true, true, true, true, false] rfl rfl (by kernel_rfl) (fun _ _ _ h => h) (Or.inl ⟨by rfl, ?_⟩) ?_ ?_
          rotate_left
          · intro w'
            go_simp
            with_reducible rfl
          rotate_left
          · simp only [Act.put, List.setIfInBounds_toArray, List.set_cons_zero, List.set_cons_succ, i64_w, i32_w]
            rfl
          refine last_ (i := 12) (N := none) #[true, true, true, true, true, true, true, true, true, true, true, true, true] rfl rfl (by kernel_rfl) (by decide) (fun K hK => ?_)
          refine skip_ (w1 := ?_) (by rfl) rfl ?_ ?_
          rotate_left
          · go_simp
            rfl
          refine hK.out _ _ ?_
          clear hK K
          refine done_ (by kernel_rfl) ?_
          go_wp2_with (fail)
          go_ret
          rw [HNN.out] at HO5 ⊢
          rw [E2.out]
          exact ⟨rfl, ⟨_, H5.out.s5 _, own_set HO5.out 13 _⟩, HB5.out.trans ((KeepB.refl b _).set 13 _).kl⟩
end Go.Proofs.YtlhpflicchchlaaDoor.LxQ
