/- lex.Lexer.look, walked. Conditions: at most 10^6 bytes. -/
import Derived.Test.YtlhpflicchchlaaDoorLxBg
namespace Go.Proofs.YtlhpflicchchlaaDoor.LxA
open Go.RowKit Go.Proofs.YtlhpflicchchlaaDoorW.PrintWords Go.Proofs.YtlhpflicchchlaaDoorW.PrintLast Go.Proofs.YtlhpflicchchlaaDoorW.PrintMore
attribute [local go_sem] max2_int min2_int max_two min_two max_three min_three max_four min_four
open Go.Proofs.YtlhpflicchchlaaDoor.LexPure Go.Proofs.YtlhpflicchchlaaDoor.LxQ Go.Proofs.YtlhpflicchchlaaDoor.LxN
set_option linter.unusedVariables false
set_option linter.unusedSimpArgs false
theorem end_lx {W : World} {b : Nat} {p : LP} {a l lo hi sg : Int} {tx : Value} {le un fi : Int} (h : IsB W b p a l lo hi sg tx le un fi) (s : St SS) (e1 : p.within = s.within) (e2 : p.frm = (s.frm : Int)) (te : Int) (x : ByteArray) :
    Calls Tryd.prog 100 #[.pointer (some ⟨b, 0, none⟩), .int .i64 te, .string x] W fun e w' => e = .returned (.agg #[.int .i64 s.within, .bool false, .int .i64 (s.frm : Int), .int .i64 te, .string x]) ∧ IsB w' b { p with within := 0 } a l lo hi sg tx le un fi ∧ KeepB b W w' := by
  refine (end_calls h te x).mono ?_
  rintro e w' ⟨h1, h2, h3⟩
  exact ⟨by rw [h1, e1, e2], h2, h3⟩
theorem own_kl {W W' : World} {b B B' n sz : Nat} {e : TypeId} {v : Value} {xs : List Value} (h : W.ownsRow B' e sz v n xs) (hb : b < B') (hv : ∀ k, v.ownBlock = some k → k < B) (hk : KL b B W W') : W'.ownsRow B' e sz v n xs :=
  own_more h fun k e => hk.up k (hv k e) (own_lt h k e).2 (by have := (own_lt h k e).1; omega)
/-- A byte within a string: the state. -/
theorem Lx.str_step {W w' : World} {b : Nat} {s : St SS} {p : LP} {tx : Value} {n : Nat} {q' : QS} (h : Lx W b s p tx n) (h8 : s.within = 8) (hq : IsQ w' b p q') (hg : GQ q' (n + 1)) (hk : KL b p.B W w') :
    ∃ tx', Lx w' b { s with sub := { s.sub with q := q' } } p tx' (n + 1) := by
  obtain ⟨tx', hb, ho⟩ := hq
  have hs := (h.str h8).2
  exact ⟨tx', hb, h.at_, h.frm, h.within, h.ended, h.num, h.which, h.wat, own_kl h.text (Nat.lt_succ_self b) hs hk, h.num0, h.num8, h.wa, h.wi, h.kinds, hg, Nat.le_succ_of_le h.len, fun _ => ⟨ho, hs⟩⟩
theorem Post.tokF {W W1 : World} {b : Nat} {s s' : St SS} {p p' : LP} {tx : Value} {n : Nat} (t : Tk) (h : Lx W1 b s' p' tx n) (hb : Below b W W1) (hf : ∀ k, Free W b s p k → W1.heap[k]? = W.heap[k]? ∧ Free W1 b s' p' k) (h8 : s'.within = 8 → tx = .slice none 0 0) (v : Value) (o : Obj) (ho : o = .cells (tkCells t).toArray 39) (hv : v = .slice (some ⟨W1.heap.size, 0, none⟩) 1 1) :
    Post W b s p s' n [t] v (W1.alloc o) := by
  have hl := h.blk.lt
  have hk2 : KeepB b W1 (W1.alloc o) := (KeepB.refl b W1).of_below (Nat.le_of_lt hl) (below_alloc (Below.refl _ _) _)
  refine ⟨p', tx, h.keep (Lib.alloc_old W1 o b hl) hk2 (Nat.le_refl _), hb.trans hk2.below, fun k hfk => ⟨(Lib.alloc_old W1 o k (hf k hfk).2.1).trans (hf k hfk).1, ?_⟩, row1 W1 _ t hb.size v o ho hv, fun _ => h8, fun h => by simp at h⟩
  exact ⟨Nat.lt_of_lt_of_le (hf k hfk).2.1 hk2.size, (hf k hfk).2.2⟩
theorem free_str {W w' : World} {b : Nat} {s : St SS} {p : LP} {q' : QS} (h8 : s.within = 8) (hk : KL b p.B W w') (k : Nat) (hf : Free W b s p k) : w'.heap[k]? = W.heap[k]? ∧ Free w' b { s with sub := { s.sub with q := q' } } p k :=
  ⟨hk.up k (hf.2.2.2 h8) hf.1 hf.2.1, Nat.lt_of_lt_of_le hf.1 hk.below.size, hf.2⟩
set_option maxHeartbeats 16000000 in
set_option maxRecDepth 100000 in
theorem look_str {W : World} {b : Nat} {s : St SS} {p : LP} {tx : Value} {n : Nat} (h : Lx W b s p tx n) (h8 : s.within = 8) (hn : n ≤ 1000000) (hn2 : s.at_ ≤ 1000000) (c : Int) (k0 : 0 ≤ c) (k1 : c < 256) :
    Calls Tryd.prog 98 #[.pointer (some ⟨b, 0, none⟩), .int .u8 c] W fun e w' => ∃ v, e = .returned (.tuple #[v, .int .i64 (lookV sub s c).2.2]) ∧ Post W b s p (lookV sub s c).1 (n + 1) (lookV sub s c).2.1 v w' := by
  have H := Aside0.mk h
  have H8 := Aside0.mk h8
  have HQ : Aside0 (IsQ W b p s.sub.q) := ⟨tx, h.blk, (h.str h8).1⟩
  have HG := Aside0.mk (qstep_good h.good c k0 k1)
  have HC := Aside0.mk (qstep_calls HQ.out h.good (by omega) c k0 k1)
  have c2 := h.blk.p2
  rw [h.within, h8] at c2
  have ha : wrap64 ((s.at_ : Int) + 1) = (s.at_ : Int) + 1 := by unfold wrap64; omega
  obtain ⟨r, hr⟩ : ∃ r, (qstep s.sub.q c).2 = r := ⟨_, rfl⟩
  by_cases r1 : r = 1
  · have E := Aside0.mk (show lookV sub s c = ({ s with sub := { s.sub with q := (qstep s.sub.q c).1 }, within := 0 }, [⟨s.within, false, s.frm, s.at_ + 1, ⟨(qstep s.sub.q c).1.text.toArray⟩⟩], 0) by
      unfold lookV
      rw [if_neg (by omega), show sub.go s.sub s.within c = strS s.sub c by rw [h8]; rfl]
      unfold strS
      rw [if_neg (by omega), if_pos (by omega)])
    rw [hr, r1] at HC
    clear h h8 hr r1 hn hn2 k0 k1
    go_enter Tryd.func98, Tryd.ntmps98
    go_wp2_with (fail)
    go_at_call 134
    refine HC.out.mono ?_
    rintro e w3 ⟨rfl, hq3, hk3⟩
    obtain ⟨tx3, h3⟩ := H.out.str_step H8.out hq3 HG.out hk3
    have L2 : Aside0 (Lx w3.drew b _ p tx3 (n + 1)) := ⟨h3.drew⟩
    have HQD : Aside0 (IsQ w3.drew b p (qstep s.sub.q c).1) := ⟨hq3⟩
    have KLD : Aside0 (KL b p.B W w3.drew) := ⟨hk3.drew⟩
    have CA : Aside0 (w3.drew.cell? ⟨b, 0, none⟩ = some (.int .i64 (s.at_ : Int))) := ⟨h3.blk.p0.trans (by rw [show p.at_ = (s.at_ : Int) from H.out.at_])⟩
    clear hq3 hk3 h3 c2
    go_upto_region 5 with (fail)
    refine start_ (n := 14) (S := fun w' => w'.cell? ⟨b, 0, none⟩ = some (.int .i64 (s.at_ : Int))) (ds := [11]) #[false, false, false, false, false, false, false, false, false, false, false, false, false, false] (by kernel_rfl) rfl rfl (CA.out) (fun hHeld => ?_)
    generalize hwd_ : w3.drew = wD at CA L2 HQD KLD hHeld ⊢
    clear hwd_
    refine pure_ (i := 0) (N := some 20) (v := ?_) (a' := ?_) #[true, false, false, false, false, false, false, false, false, false, false, false, false, false] rfl rfl (by kernel_rfl) (fun _ _ _ h => h) (Or.inl ⟨by rfl, ?_⟩) ?_ ?_
    rotate_left
    · intro w'
      go_simp
      with_reducible rfl
    rotate_left
    · simp only [Act.put, List.setIfInBounds_toArray, List.set_cons_zero, List.set_cons_succ, i64_w, i32_w]
      rfl
    refine pure_ (i := 1) (N := some 21) (v := ?_) (a' := ?_) #[true, true, false, false, false, false, false, false, false, false, false, false, false, false] rfl rfl (by kernel_rfl) (fun _ _ _ h => h) (Or.inl ⟨by rfl, ?_⟩) ?_ ?_
    rotate_left
    · intro w'
      go_simp
      with_reducible rfl
    rotate_left
    · simp only [Act.put, List.setIfInBounds_toArray, List.set_cons_zero, List.set_cons_succ, i64_w, i32_w]
      rfl
    refine pure_ (i := 2) (N := some 22) (v := ?_) (a' := ?_) #[true, true, true, false, false, false, false, false, false, false, false, false, false, false] rfl rfl (by kernel_rfl) (fun _ _ _ h => h) (Or.inl ⟨by rfl, ?_⟩) ?_ ?_
    rotate_left
    · intro w'
      go_simp
      with_reducible rfl
    rotate_left
    · simp only [Act.put, List.setIfInBounds_toArray, List.set_cons_zero, List.set_cons_succ, i64_w, i32_w]
      rfl
    refine pure_ (i := 3) (N := some 23) (v := ?_) (a' := ?_) #[true, true, true, true, false, false, false, false, false, false, false, false, false, false] rfl rfl (by kernel_rfl) (fun _ _ _ h => h) (Or.inl ⟨by rfl, ?_⟩) ?_ ?_
    rotate_left
    · intro w'
      go_simp
      with_reducible rfl
    rotate_left
    · simp only [Act.put, List.setIfInBounds_toArray, List.set_cons_zero, List.set_cons_succ, i64_w, i32_w]
      rfl
    refine pure_ (i := 6) (N := some 26) (v := ?_) (a' := ?_) #[true, true, true, true, false, false, true, false, false, false, false, false, false, false] rfl rfl (by kernel_rfl) (fun _ _ _ h => h) (Or.inl ⟨by rfl, ?_⟩) ?_ ?_
    rotate_left
    · intro w'
      go_simp
      with_reducible rfl
    rotate_left
    · simp only [Act.put, List.setIfInBounds_toArray, List.set_cons_zero, List.set_cons_succ, i64_w, i32_w]
      rfl
    refine pure_ (i := 7) (N := some 27) (v := ?_) (a' := ?_) #[true, true, true, true, false, false, true, true, false, false, false, false, false, false] rfl rfl (by kernel_rfl) (fun _ _ _ h => h) (Or.inl ⟨by rfl, ?_⟩) ?_ ?_
    rotate_left
    · intro w'
      go_simp
      with_reducible rfl
    rotate_left
    · simp only [Act.put, List.setIfInBounds_toArray, List.set_cons_zero, List.set_cons_succ, i64_w, i32_w]
      rfl
    refine pure_ (i := 8) (N := some 28) (v := ?_) (a' := ?_) #[true, true, true, true, false, false, true, true, true, false, false, false, false, false] rfl rfl (by kernel_rfl) (fun _ _ _ h => h) (Or.inl ⟨by rfl, ?_⟩) ?_ ?_
    rotate_left
    · intro w'
      go_simp
      with_reducible rfl
    rotate_left
    · simp only [Act.put, List.setIfInBounds_toArray, List.set_cons_zero, List.set_cons_succ, i64_w, i32_w]
      rfl
    refine take_ (i := 4) (N := some 24) (v := ?_) (a' := ?_) #[true, true, true, true, true, false, true, true, true, false, false, false, false, false] rfl rfl (by kernel_rfl) (fun _ _ _ h => h) (Or.inl ⟨by rfl, ?_⟩) hHeld ?_ ?_
    rotate_left
    · intro w' s0
      go_simp
      with_reducible rfl
    rotate_left
    · simp only [Act.put, List.setIfInBounds_toArray, List.set_cons_zero, List.set_cons_succ, i64_w, i32_w]
      rfl
    refine pure_ (i := 5) (N := some 25) (v := ?_) (a' := ?_) #[true, true, true, true, true, true, true, true, true, false, false, false, false, false] rfl rfl (by kernel_rfl) (fun _ _ _ h => h) (Or.inl ⟨by rfl, ?_⟩) ?_ ?_
    rotate_left
    · intro w'
      go_simp
      with_reducible rfl
    rotate_left
    · simp only [Act.put, List.setIfInBounds_toArray, List.set_cons_zero, List.set_cons_succ, i64_w, i32_w]
      rfl
    refine one_ (i := 9) (N := some 29) #[true, true, true, true, true, true, true, true, true, true, false, false, false, false] rfl rfl (by kernel_rfl) (by decide) (fun K hK => ?_)
    refine goes_ Tryd.func135 (by kernel_rfl) rfl #[.pointer (some ⟨b, 8, none⟩)] (by rfl) rfl rfl (by simp only [List.map_toArray, List.map_cons, List.map_nil]; rfl) ?_
    with_reducible refine (text_calls HQD.out).mono ?_
    rintro e w5 ⟨rfl, rfl⟩
    refine ⟨_, rfl, ?_⟩
    refine hK.out _ _ (CA.out) (fun hHeld => ?_)
    clear hK K
    refine norm_ (a' := ?_) ?_ ?_
    rotate_left
    · show Act.put _ (some 29) _ = _
      simp only [Act.put, List.setIfInBounds_toArray, List.set_cons_zero, List.set_cons_succ, i64_w, i32_w]
      rfl
    refine one_ (i := 10) (N := some 30) #[true, true, true, true, true, true, true, true, true, true, true, false, false, false] rfl rfl (by kernel_rfl) (by decide) (fun K hK => ?_)
    refine goes_ Tryd.func100 (by kernel_rfl) rfl #[.pointer (some ⟨b, 0, none⟩), .int .i64 (wrap64 ((s.at_ : Int) + 1)), .string ⟨(qstep s.sub.q c).1.text.toArray⟩] (by rfl) rfl rfl (by simp only [List.map_toArray, List.map_cons, List.map_nil]; rfl) ?_
    with_reducible refine (end_lx L2.out.blk s L2.out.within L2.out.frm (wrap64 ((s.at_ : Int) + 1)) ⟨(qstep s.sub.q c).1.text.toArray⟩).mono ?_
    rintro e w6 ⟨rfl, hb6, hk6⟩
    refine ⟨_, rfl, ?_⟩
    have B6 := Aside0.mk hb6
    have K6 := Aside0.mk hk6
    have CA6 : Aside0 (w6.cell? ⟨b, 0, none⟩ = some (.int .i64 (s.at_ : Int))) := ⟨hb6.p0.trans (by rw [show ({ p with within := 0 } : LP).at_ = (s.at_ : Int) from L2.out.at_])⟩
    clear hb6 hk6
    refine hK.out _ _ (CA6.out) (fun hHeld => ?_)
    clear hK K
    refine norm_ (a' := ?_) ?_ ?_
    rotate_left
    · show Act.put _ (some 30) _ = _
      simp only [Act.put, List.setIfInBounds_toArray, List.set_cons_zero, List.set_cons_succ, i64_w, i32_w]
      rfl
    refine last_ (i := 11) (N := some 31) #[true, true, true, true, true, true, true, true, true, true, true, true, false, false] rfl rfl (by kernel_rfl) (by decide) (fun K hK => ?_)
    refine value_ (w1 := ?_) (v := ?_) (by rfl) rfl ?_ ?_
    rotate_left 2
    · go_simp
      constructor
      · rfl
      · rfl
    refine hK.out _ _ ?_
    clear hK K
    refine norm_ (a' := ?_) ?_ ?_
    rotate_left
    · show Act.put _ (some 31) _ = _
      simp only [Act.put, List.setIfInBounds_toArray, List.set_cons_zero, List.set_cons_succ, i64_w, i32_w]
      rfl
    refine pure_ (i := 12) (N := some 4) (v := ?_) (a' := ?_) #[true, true, true, true, true, true, true, true, true, true, true, true, true, false] rfl rfl (by kernel_rfl) (fun _ _ _ h => h) (Or.inl ⟨by rfl, ?_⟩) ?_ ?_
    rotate_left
    · intro w'
      go_simp
      with_reducible rfl
    rotate_left
    · simp only [Act.put, List.setIfInBounds_toArray, List.set_cons_zero, List.set_cons_succ, i64_w, i32_w]
      rfl
    refine pure_ (i := 13) (N := some 5) (v := ?_) (a' := ?_) #[true, true, true, true, true, true, true, true, true, true, true, true, true, true] rfl rfl (by kernel_rfl) (fun _ _ _ h => h) (Or.inl ⟨by rfl, ?_⟩) ?_ ?_
    rotate_left
    · intro w'
      go_simp
      with_reducible rfl
    rotate_left
    · simp only [Act.put, List.setIfInBounds_toArray, List.set_cons_zero, List.set_cons_succ, i64_w, i32_w]
      rfl
    refine done_ (by kernel_rfl) ?_
    go_wp2_with (fail)
    go_ret2
    rw [E.out]
    have L6 : Lx w6 b { s with sub := { s.sub with q := (qstep s.sub.q c).1 }, within := 0 } { p with within := 0 } tx3 (n + 1) :=
      ⟨B6.out, L2.out.at_, L2.out.frm, rfl, L2.out.ended, L2.out.num, L2.out.which, L2.out.wat, own_keepB L2.out.text (Nat.lt_succ_self b) K6.out, L2.out.num0, L2.out.num8, L2.out.wa, L2.out.wi, .inl rfl, L2.out.good, L2.out.len, fun h8 => absurd h8 (by simp)⟩
    refine ⟨_, rfl, Post.tokF (s := s) (p := p) ⟨s.within, false, s.frm, s.at_ + 1, ⟨(qstep s.sub.q c).1.text.toArray⟩⟩ L6 (KLD.out.below.trans K6.out.below) (fun k hf => ?_) (fun h8 => absurd h8 (by simp)) _ _ rfl rfl⟩
    have h1 := KLD.out.up k (hf.2.2.2 H8.out) hf.1 hf.2.1
    have h2 : k < w5.heap.size := Nat.lt_of_lt_of_le hf.1 KLD.out.below.size
    exact ⟨(K6.out.block k h2 hf.2.1).trans h1, Nat.lt_of_lt_of_le h2 K6.out.size, hf.2.1, hf.2.2.1, fun h8 => absurd h8 (by simp)⟩
  · have E := Aside0.mk (show lookV sub s c = ({ s with sub := { s.sub with q := (qstep s.sub.q c).1 } }, [], r) by
      unfold lookV
      rw [if_neg (by omega), show sub.go s.sub s.within c = strS s.sub c by rw [h8]; rfl]
      unfold strS
      by_cases r0 : r = 0
      · rw [if_pos (by omega), r0]
      · rw [if_neg (by omega), if_neg (by omega), hr])
    rw [hr] at HC
    have g1 : (r == 1) = false := by simp [r1]
    have g2 : decide (r = 1) = false := by simp [r1]
    clear h h8 hr r1 hn hn2 k0 k1
    go_enter Tryd.func98, Tryd.ntmps98
    go_wp2_with (fail)
    go_at_call 134
    refine HC.out.mono ?_
    rintro e w3 ⟨rfl, hq3, hk3⟩
    have HQ3 := Aside0.mk hq3
    have HK3 := Aside0.mk hk3
    clear hq3 hk3
    go_wp2_with (fail)
    go_ret2
    rw [E.out]
    obtain ⟨tx3, h3⟩ := H.out.str_step H8.out HQ3.out HG.out HK3.out
    exact ⟨_, rfl, p, tx3, h3, HK3.out.below, fun k hf => free_str H8.out HK3.out k hf, World.ownsRow_nil _ _ _ _, fun h => absurd rfl h, fun _ => rfl⟩
set_option maxHeartbeats 16000000 in
set_option maxRecDepth 100000 in
theorem look_lit {W : World} {b : Nat} {s : St SS} {p : LP} {tx : Value} {n : Nat} (h : Lx W b s p tx n) (hw : s.within = 10) (hT : Tab W) (hb0 : 0 < b) (hn2 : s.at_ ≤ 1000000) (c : Int) (k0 : 0 ≤ c) (k1 : c < 256) :
    Calls Tryd.prog 98 #[.pointer (some ⟨b, 0, none⟩), .int .u8 c] W fun e w' => ∃ v, e = .returned (.tuple #[v, .int .i64 (lookV sub s c).2.2]) ∧ Post W b s p (lookV sub s c).1 (n + 1) (lookV sub s c).2.1 v w' := by
  have H := Aside0.mk h
  have HW := Aside0.mk hw
  have hok := stepF_ok s.sub.wa s.sub.wi c h.wa h.wi
  have HC := Aside0.mk (lit_at h.blk hT s.sub.wa s.sub.wi c h.which h.wat h.wa h.wi)
  have HT := Aside0.mk hT
  have HB0 := Aside0.mk hb0
  have c2 := h.blk.p2
  rw [h.within, hw] at c2
  have ha : wrap64 ((s.at_ : Int) + 1) = (s.at_ : Int) + 1 := by unfold wrap64; omega
  obtain ⟨⟨r, x, i⟩, hr⟩ : ∃ r, stepF s.sub.wa s.sub.wi c = r := ⟨_, rfl⟩
  rw [hr] at hok
  dsimp only at hok
  have HOK := Aside0.mk (And.intro hok.1 hok.2.1)
  rcases hok.2.2 with rfl | rfl | rfl
  · have E := Aside0.mk (show lookV sub s c = ({ s with sub := { s.sub with wa := x, wi := i } }, [], 0) by
      unfold lookV
      rw [if_neg (by omega), show sub.go s.sub s.within c = ({ s.sub with wa := x, wi := i }, .on) by
        rw [hw]
        show litS s.sub c = _
        unfold litS
        rw [hr]
        dsimp only
        rw [if_neg (by decide), if_neg (by decide)]])
    clear hok ha
    rw [hr] at HC
    clear h hw hT hb0 hr hn2
    go_enter Tryd.func98, Tryd.ntmps98
    go_wp2_with (fail)
    go_at_call 136
    refine HC.out.mono ?_
    rintro e w3 ⟨rfl, hb3, hk3⟩
    have h3 : Lx w3 b { s with sub := { s.sub with wa := x, wi := i } } { p with which := (x : Int), wat := (i : Int) } tx (n + 1) :=
      ⟨hb3, H.out.at_, H.out.frm, H.out.within, H.out.ended, H.out.num, rfl, rfl, own_keepB H.out.text (Nat.lt_succ_self b) hk3, H.out.num0, H.out.num8, HOK.out.1, HOK.out.2, H.out.kinds, GQ.mono H.out.good (Nat.le_succ n), Nat.le_succ_of_le H.out.len, fun h8 => absurd (HW.out.symm.trans h8) (by decide)⟩
    have K3 := Aside0.mk hk3
    have L3 := Aside0.mk h3
    clear hb3 hk3 h3
    go_wp2_with (fail)
    go_ret2
    rw [E.out]
    exact ⟨_, rfl, _, tx, L3.out, K3.out.below, fun k hf => ⟨K3.out.block k hf.1 hf.2.1, Nat.lt_of_lt_of_le hf.1 K3.out.size, hf.2⟩, World.ownsRow_nil _ _ _ _, fun h => absurd rfl h, fun _ => rfl⟩
  · have E := Aside0.mk (show lookV sub s c = ({ s with sub := { s.sub with wa := x, wi := i }, within := 0 }, [⟨s.within, false, s.frm, s.at_ + 1, (word x).extract 0 i⟩], 0) by
      unfold lookV
      rw [if_neg (by omega), show sub.go s.sub s.within c = ({ s.sub with wa := x, wi := i }, .done ((word x).extract 0 i)) by
        rw [hw]
        show litS s.sub c = _
        unfold litS
        rw [hr]
        dsimp only
        rw [if_neg (by decide), if_pos rfl]])
    clear hok
    rw [hr] at HC
    clear h hw hT hb0 hr hn2
    go_enter Tryd.func98, Tryd.ntmps98
    go_wp2_with (fail)
    go_at_call 136
    refine HC.out.mono ?_
    rintro e w3 ⟨rfl, hb3, hk3⟩
    have h3 : Lx w3 b { s with sub := { s.sub with wa := x, wi := i } } { p with which := (x : Int), wat := (i : Int) } tx (n + 1) :=
      ⟨hb3, H.out.at_, H.out.frm, H.out.within, H.out.ended, H.out.num, rfl, rfl, own_keepB H.out.text (Nat.lt_succ_self b) hk3, H.out.num0, H.out.num8, HOK.out.1, HOK.out.2, H.out.kinds, GQ.mono H.out.good (Nat.le_succ n), Nat.le_succ_of_le H.out.len, fun h8 => absurd (HW.out.symm.trans h8) (by decide)⟩
    have L2 : Aside0 (Lx w3.drew b _ _ tx (n + 1)) := ⟨h3.drew⟩
    have KD : Aside0 (KeepB b W w3.drew) := ⟨KeepB.drew hk3⟩
    have TD : Aside0 (Tab w3.drew) := ⟨Tab.keep HT.out KD.out.below HB0.out⟩
    have CA : Aside0 (w3.drew.cell? ⟨b, 0, none⟩ = some (.int .i64 (s.at_ : Int))) := ⟨h3.blk.p0.trans (by rw [show _ = (s.at_ : Int) from H.out.at_])⟩
    clear hb3 hk3 h3 c2
    go_upto_region 12 with (fail)
    refine start_ (n := 13) (S := fun w' => w'.cell? ⟨b, 0, none⟩ = some (.int .i64 (s.at_ : Int))) (ds := [11]) #[false, false, false, false, false, false, false, false, false, false, false, false, false] (by kernel_rfl) rfl rfl (CA.out) (fun hHeld => ?_)
    generalize hwd_ : w3.drew = wD at CA L2 TD KD hHeld ⊢
    clear hwd_
    refine pure_ (i := 0) (N := some 44) (v := ?_) (a' := ?_) #[true, false, false, false, false, false, false, false, false, false, false, false, false] rfl rfl (by kernel_rfl) (fun _ _ _ h => h) (Or.inl ⟨by rfl, ?_⟩) ?_ ?_
    rotate_left
    · intro w'
      go_simp
      with_reducible rfl
    rotate_left
    · simp only [Act.put, List.setIfInBounds_toArray, List.set_cons_zero, List.set_cons_succ, i64_w, i32_w]
      rfl
    refine pure_ (i := 1) (N := some 45) (v := ?_) (a' := ?_) #[true, true, false, false, false, false, false, false, false, false, false, false, false] rfl rfl (by kernel_rfl) (fun _ _ _ h => h) (Or.inl ⟨by rfl, ?_⟩) ?_ ?_
    rotate_left
    · intro w'
      go_simp
      with_reducible rfl
    rotate_left
    · simp only [Act.put, List.setIfInBounds_toArray, List.set_cons_zero, List.set_cons_succ, i64_w, i32_w]
      rfl
    refine pure_ (i := 2) (N := some 46) (v := ?_) (a' := ?_) #[true, true, true, false, false, false, false, false, false, false, false, false, false] rfl rfl (by kernel_rfl) (fun _ _ _ h => h) (Or.inl ⟨by rfl, ?_⟩) ?_ ?_
    rotate_left
    · intro w'
      go_simp
      with_reducible rfl
    rotate_left
    · simp only [Act.put, List.setIfInBounds_toArray, List.set_cons_zero, List.set_cons_succ, i64_w, i32_w]
      rfl
    refine pure_ (i := 3) (N := some 47) (v := ?_) (a' := ?_) #[true, true, true, true, false, false, false, false, false, false, false, false, false] rfl rfl (by kernel_rfl) (fun _ _ _ h => h) (Or.inl ⟨by rfl, ?_⟩) ?_ ?_
    rotate_left
    · intro w'
      go_simp
      with_reducible rfl
    rotate_left
    · simp only [Act.put, List.setIfInBounds_toArray, List.set_cons_zero, List.set_cons_succ, i64_w, i32_w]
      rfl
    refine pure_ (i := 6) (N := some 50) (v := ?_) (a' := ?_) #[true, true, true, true, false, false, true, false, false, false, false, false, false] rfl rfl (by kernel_rfl) (fun _ _ _ h => h) (Or.inl ⟨by rfl, ?_⟩) ?_ ?_
    rotate_left
    · intro w'
      go_simp
      with_reducible rfl
    rotate_left
    · simp only [Act.put, List.setIfInBounds_toArray, List.set_cons_zero, List.set_cons_succ, i64_w, i32_w]
      rfl
    refine pure_ (i := 7) (N := some 51) (v := ?_) (a' := ?_) #[true, true, true, true, false, false, true, true, false, false, false, false, false] rfl rfl (by kernel_rfl) (fun _ _ _ h => h) (Or.inl ⟨by rfl, ?_⟩) ?_ ?_
    rotate_left
    · intro w'
      go_simp
      with_reducible rfl
    rotate_left
    · simp only [Act.put, List.setIfInBounds_toArray, List.set_cons_zero, List.set_cons_succ, i64_w, i32_w]
      rfl
    refine pure_ (i := 8) (N := some 52) (v := ?_) (a' := ?_) #[true, true, true, true, false, false, true, true, true, false, false, false, false] rfl rfl (by kernel_rfl) (fun _ _ _ h => h) (Or.inl ⟨by rfl, ?_⟩) ?_ ?_
    rotate_left
    · intro w'
      go_simp
      with_reducible rfl
    rotate_left
    · simp only [Act.put, List.setIfInBounds_toArray, List.set_cons_zero, List.set_cons_succ, i64_w, i32_w]
      rfl
    refine take_ (i := 4) (N := some 48) (v := ?_) (a' := ?_) #[true, true, true, true, true, false, true, true, true, false, false, false, false] rfl rfl (by kernel_rfl) (fun _ _ _ h => h) (Or.inl ⟨by rfl, ?_⟩) hHeld ?_ ?_
    rotate_left
    · intro w' s0
      go_simp
      with_reducible rfl
    rotate_left
    · simp only [Act.put, List.setIfInBounds_toArray, List.set_cons_zero, List.set_cons_succ, i64_w, i32_w]
      rfl
    refine pure_ (i := 5) (N := some 49) (v := ?_) (a' := ?_) #[true, true, true, true, true, true, true, true, true, false, false, false, false] rfl rfl (by kernel_rfl) (fun _ _ _ h => h) (Or.inl ⟨by rfl, ?_⟩) ?_ ?_
    rotate_left
    · intro w'
      go_simp
      with_reducible rfl
    rotate_left
    · simp only [Act.put, List.setIfInBounds_toArray, List.set_cons_zero, List.set_cons_succ, i64_w, i32_w]
      rfl
    refine one_ (i := 9) (N := some 53) #[true, true, true, true, true, true, true, true, true, true, false, false, false] rfl rfl (by kernel_rfl) (by decide) (fun K hK => ?_)
    refine goes_ Tryd.func137 (by kernel_rfl) rfl #[.pointer (some ⟨b, 6, none⟩)] (by rfl) rfl rfl (by simp only [List.map_toArray, List.map_cons, List.map_nil]; rfl) ?_
    with_reducible refine (word_calls b x i _ TD.out (L2.out.blk.p6.trans (by rw [show _ = (x : Int) from L2.out.which])) (L2.out.blk.p7.trans (by rw [show _ = (i : Int) from L2.out.wat])) HOK.out.1 HOK.out.2).mono ?_
    rintro e w5 ⟨rfl, nd, rfl⟩
    refine ⟨_, rfl, ?_⟩
    have L2 := Aside0.mk (L2.out.drewN nd)
    have KD := Aside0.mk (KeepB.drewN KD.out nd)
    refine hK.out _ _ (CA.out) (fun hHeld => ?_)
    clear hK K
    refine norm_ (a' := ?_) ?_ ?_
    rotate_left
    · show Act.put _ (some 53) _ = _
      simp only [Act.put, List.setIfInBounds_toArray, List.set_cons_zero, List.set_cons_succ, i64_w, i32_w]
      rfl
    refine one_ (i := 10) (N := some 54) #[true, true, true, true, true, true, true, true, true, true, true, false, false] rfl rfl (by kernel_rfl) (by decide) (fun K hK => ?_)
    refine goes_ Tryd.func100 (by kernel_rfl) rfl #[.pointer (some ⟨b, 0, none⟩), .int .i64 (wrap64 ((s.at_ : Int) + 1)), .string ((word x).extract 0 i)] (by rfl) rfl rfl (by simp only [List.map_toArray, List.map_cons, List.map_nil]; rfl) ?_
    with_reducible refine (end_lx L2.out.blk s L2.out.within L2.out.frm (wrap64 ((s.at_ : Int) + 1)) ((word x).extract 0 i)).mono ?_
    rintro e w6 ⟨rfl, hb6, hk6⟩
    refine ⟨_, rfl, ?_⟩
    have B6 := Aside0.mk hb6
    have K6 := Aside0.mk (KD.out.trans hk6)
    have KX := Aside0.mk hk6
    have CA6 : Aside0 (w6.cell? ⟨b, 0, none⟩ = some (.int .i64 (s.at_ : Int))) := ⟨hb6.p0.trans (by rw [show _ = (s.at_ : Int) from L2.out.at_])⟩
    clear hb6 hk6
    refine hK.out _ _ (CA6.out) (fun hHeld => ?_)
    clear hK K
    refine norm_ (a' := ?_) ?_ ?_
    rotate_left
    · show Act.put _ (some 54) _ = _
      simp only [Act.put, List.setIfInBounds_toArray, List.set_cons_zero, List.set_cons_succ, i64_w, i32_w]
      rfl
    refine last_ (i := 11) (N := some 55) #[true, true, true, true, true, true, true, true, true, true, true, true, false] rfl rfl (by kernel_rfl) (by decide) (fun K hK => ?_)
    refine value_ (w1 := ?_) (v := ?_) (by rfl) rfl ?_ ?_
    rotate_left 2
    · go_simp
      constructor
      · rfl
      · rfl
    refine hK.out _ _ ?_
    clear hK K
    refine norm_ (a' := ?_) ?_ ?_
    rotate_left
    · show Act.put _ (some 55) _ = _
      simp only [Act.put, List.setIfInBounds_toArray, List.set_cons_zero, List.set_cons_succ, i64_w, i32_w]
      rfl
    refine pure_ (i := 12) (N := some 4) (v := ?_) (a' := ?_) #[true, true, true, true, true, true, true, true, true, true, true, true, true] rfl rfl (by kernel_rfl) (fun _ _ _ h => h) (Or.inl ⟨by rfl, ?_⟩) ?_ ?_
    rotate_left
    · intro w'
      go_simp
      with_reducible rfl
    rotate_left
    · simp only [Act.put, List.setIfInBounds_toArray, List.set_cons_zero, List.set_cons_succ, i64_w, i32_w]
      rfl
    refine done_ (by kernel_rfl) ?_
    go_wp2_with (fail)
    go_ret2
    rw [E.out]
    have L6 : Lx w6 b { s with sub := { s.sub with wa := x, wi := i }, within := 0 } { p with which := (x : Int), wat := (i : Int), within := 0 } tx (n + 1) :=
      ⟨B6.out, L2.out.at_, L2.out.frm, rfl, L2.out.ended, L2.out.num, rfl, rfl, own_keepB L2.out.text (Nat.lt_succ_self b) KX.out, L2.out.num0, L2.out.num8, L2.out.wa, L2.out.wi, .inl rfl, L2.out.good, L2.out.len, fun h8 => absurd h8 (by simp)⟩
    exact ⟨_, rfl, Post.tokF (s := s) (p := p) ⟨s.within, false, s.frm, s.at_ + 1, (word x).extract 0 i⟩ L6 K6.out.below (fun k hf => ⟨K6.out.block k hf.1 hf.2.1, Nat.lt_of_lt_of_le hf.1 K6.out.size, hf.2.1, hf.2.2.1, fun h8 => absurd h8 (by simp)⟩) (fun h8 => absurd h8 (by simp)) _ _ rfl rfl⟩
  · have E := Aside0.mk (show lookV sub s c = ({ s with sub := { s.sub with wa := x, wi := i } }, [], 6) by
      unfold lookV
      rw [if_neg (by omega), show sub.go s.sub s.within c = ({ s.sub with wa := x, wi := i }, .bad 6) by
        rw [hw]
        show litS s.sub c = _
        unfold litS
        rw [hr]
        dsimp only
        rw [if_pos rfl]])
    clear hok ha
    rw [hr] at HC
    clear h hw hT hb0 hr hn2
    go_enter Tryd.func98, Tryd.ntmps98
    go_wp2_with (fail)
    go_at_call 136
    refine HC.out.mono ?_
    rintro e w3 ⟨rfl, hb3, hk3⟩
    have h3 : Lx w3 b { s with sub := { s.sub with wa := x, wi := i } } { p with which := (x : Int), wat := (i : Int) } tx (n + 1) :=
      ⟨hb3, H.out.at_, H.out.frm, H.out.within, H.out.ended, H.out.num, rfl, rfl, own_keepB H.out.text (Nat.lt_succ_self b) hk3, H.out.num0, H.out.num8, HOK.out.1, HOK.out.2, H.out.kinds, GQ.mono H.out.good (Nat.le_succ n), Nat.le_succ_of_le H.out.len, fun h8 => absurd (HW.out.symm.trans h8) (by decide)⟩
    have K3 := Aside0.mk hk3
    have L3 := Aside0.mk h3
    clear hb3 hk3 h3
    go_wp2_with (fail)
    go_ret2
    rw [E.out]
    exact ⟨_, rfl, _, tx, L3.out, K3.out.below, fun k hf => ⟨K3.out.block k hf.1 hf.2.1, Nat.lt_of_lt_of_le hf.1 K3.out.size, hf.2⟩, World.ownsRow_nil _ _ _ _, fun h => absurd rfl h, fun _ => rfl⟩
theorem begin_mark_tok (s : St SS) (c : Int) (h0 : s.within = 0) (h8 : (beginV sub s c).1.within = 8) : (beginV sub s c).2.1 ≠ [] := by
  unfold beginV at h8 ⊢
  split
  · rename_i h1; rw [if_pos h1] at h8; simp only at h8; omega
  · rename_i h1
    rw [if_neg h1] at h8
    split
    · rename_i h2; rw [if_pos h2] at h8; simp only at h8; omega
    · split <;> simp
theorem begin_len (s : St SS) (c : Int) : (beginV sub s c).2.1.length ≤ 1 := by
  unfold beginV
  repeat' split
  all_goals simp
/-- A row of tokens grows behind a state that stands. -/
theorem Post.app {W w2 w3 : World} {b : Nat} {s s' : St SS} {p : LP} {n : Nat} {l m : List Tk} {vo v' : Value} (hbW : b < W.heap.size) (hP : ∃ p' tx', Lx w2 b s' p' tx' n ∧ Below b W w2 ∧ (∀ k, Free W b s p k → w2.heap[k]? = W.heap[k]? ∧ Free w2 b s' p' k) ∧ (s'.within = 8 → tx' = .slice none 0 0) ∧ (∀ k, vo.ownBlock = some k → W.heap.size ≤ k ∧ k ≠ b ∧ p'.text.ownBlock ≠ some k))
    (hrow : w3.ownsRow W.heap.size 39 5 v' (l ++ m).length ((l ++ m).flatMap tkCells)) (hg : w2.grownBy w3 vo.ownBlock) (hnil : l ++ m = [] → v' = .slice none 0 0) : Post W b s p s' n (l ++ m) v' w3 := by
  obtain ⟨p', tx', h1, h2, h3, h4, h5⟩ := hP
  have hl := h1.blk.lt
  have hbb : w3.heap[b]? = w2.heap[b]? := hg.block b hl (fun e => (h5 b e.symm).2.1 rfl)
  have hbel : Below b w2 w3 := (Below.refl b w2).grown hg (Nat.le_of_lt hl) (fun k hk => by have := (h5 k hk).1; omega)
  refine ⟨p', tx', ?_, h2.trans hbel, fun k hk => ?_, hrow, fun _ => h4, hnil⟩
  · refine ⟨h1.blk.keep hbb hg.size, h1.at_, h1.frm, h1.within, h1.ended, h1.num, h1.which, h1.wat, own_more h1.text (fun k hk => hg.block k (own_lt h1.text k hk).2 (fun e => (h5 k e.symm).2.2 hk)), h1.num0, h1.num8, h1.wa, h1.wi, h1.kinds, h1.good, h1.len, fun h8 => ?_⟩
    have ht := h4 h8
    subst ht
    exact ⟨own_more (h1.str h8).1 (fun k hk => by simp [Value.ownBlock] at hk), (h1.str h8).2⟩
  · have hf := h3 k hk
    refine ⟨(hg.block k hf.2.1 (fun e => ?_)).trans hf.1, Nat.lt_of_lt_of_le hf.2.1 hg.size, hf.2.2⟩
    have := (h5 k e.symm).1
    have := hk.1
    omega
set_option maxHeartbeats 16000000 in
set_option maxRecDepth 100000 in
theorem look_out {W : World} {b : Nat} {s : St SS} {p : LP} {tx : Value} {n : Nat} (h : Lx W b s p tx n) (hw : s.within = 0) (hT : Tab W) (hb0 : 0 < b) (hn : n ≤ 1000000) (hn2 : s.at_ ≤ 1000000) (c : Int) (k0 : 0 ≤ c) (k1 : c < 256) :
    Calls Tryd.prog 98 #[.pointer (some ⟨b, 0, none⟩), .int .u8 c] W fun e w' => ∃ v, e = .returned (.tuple #[v, .int .i64 (lookV sub s c).2.2]) ∧ Post W b s p (lookV sub s c).1 (n + 1) (lookV sub s c).2.1 v w' := by
  have H := Aside0.mk h
  have HC := Aside0.mk (begin_calls h hw hT hb0 hn hn2 c k0 k1)
  have HM := Aside0.mk (begin_mark_tok s c hw)
  have HL := Aside0.mk (begin_len s c)
  have c2 := h.blk.p2
  rw [h.within, hw] at c2
  rw [show lookV sub s c = beginV sub s c by unfold lookV; rw [if_pos hw]]
  generalize beginV sub s c = z at *
  obtain ⟨s', toks, r⟩ := z
  dsimp only at HC HM HL ⊢
  clear h hw hT hb0 hn hn2 k0 k1
  go_enter Tryd.func98, Tryd.ntmps98
  go_wp2_with (fail)
  go_at_call 139
  refine HC.out.mono ?_
  rintro e w3 ⟨v, rfl, hP⟩
  obtain ⟨p', tx', h1, h2, h3, h4, h5, h6⟩ := hP
  have H1 := Aside0.mk h1
  have H2 := Aside0.mk h2
  have H3 := Aside0.mk h3
  have H4 := Aside0.mk h4
  have H5 := Aside0.mk h5
  have H6 := Aside0.mk h6
  clear h1 h2 h3 h4 h5 h6 c2
  go_wp2_with (at_builtin; refine wpList_tok_append rfl _ _ rfl W.heap.size W.heap.size (.slice none 0 0) v [] toks rfl rfl (World.ownsRow_nil _ _ _ _) H4.out H6.out (by have := HL.out; simp; omega) H2.out.size ?_)
  intro v' w4 hrow hg hat hnil
  have HP := Aside0.mk (Post.app (s := s) (p := p) (l := []) (m := toks) (vo := .slice none 0 0) (v' := v') H.out.blk.lt ⟨p', tx', H1.out, H2.out, H3.out, fun h8 => H5.out (HM.out h8) h8, fun k hk => by simp [Value.ownBlock] at hk⟩ hrow hg (fun h => hnil h))
  clear hrow hg hat hnil
  go_wp2_with (fail)
  go_ret2
  exact ⟨_, rfl, HP.out⟩
set_option maxHeartbeats 16000000 in
set_option maxRecDepth 100000 in
theorem look_num {W : World} {b : Nat} {s : St SS} {p : LP} {tx : Value} {n : Nat} (h : Lx W b s p tx n) (hw : s.within = 9) (hT : Tab W) (hb0 : 0 < b) (hn : n ≤ 1000000) (hn2 : s.at_ ≤ 1000000) (c : Int) (k0 : 0 ≤ c) (k1 : c < 256) :
    Calls Tryd.prog 98 #[.pointer (some ⟨b, 0, none⟩), .int .u8 c] W fun e w' => ∃ v, e = .returned (.tuple #[v, .int .i64 (lookV sub s c).2.2]) ∧ Post W b s p (lookV sub s c).1 (n + 1) (lookV sub s c).2.1 v w' := by
  have H := Aside0.mk h
  have HW := Aside0.mk hw
  have HT := Aside0.mk hT
  have HB0 := Aside0.mk hb0
  have HN := Aside0.mk hn
  have HN2 := Aside0.mk hn2
  have HCC := Aside0.mk (And.intro k0 k1)
  have HC := Aside0.mk (num_at h.blk c (by rw [h.num]; exact h.num0) (by rw [h.num]; exact h.num8))
  rw [h.num] at HC
  have c2 := h.blk.p2
  rw [h.within, hw] at c2
  have hrg := numV_range s.sub.num c h.num0 h.num8
  have htwo := numV_two s.sub.num c
  have hstay := numV_stay s.sub.num c
  have hgo : sub.go s.sub s.within c = numS s.sub c := by rw [hw]; rfl
  unfold numS at hgo
  obtain ⟨⟨a', r⟩, hr⟩ : ∃ r, numV s.sub.num c = r := ⟨_, rfl⟩
  rw [hr] at HC hrg htwo hstay hgo
  dsimp only at HC hrg htwo hstay hgo
  rcases htwo with rfl | rfl | rfl
  · have E := Aside0.mk (show lookV sub s c = ({ s with sub := { s.sub with num := a', text := s.sub.text ++ [c.toNat.toUInt8] } }, [], 0) by
      unfold lookV
      rw [if_neg (by omega), hgo, if_neg (by decide), if_pos rfl])
    have HR := Aside0.mk hrg
    obtain ⟨i0, hi, hz0, hz1, hz2⟩ := info_parts Tryd.lxinfo5
    clear h hw hT hb0 hr hn hn2 hgo hrg hstay k0 k1
    go_enter Tryd.func98, Tryd.ntmps98
    go_wp2_with (fail)
    go_at_call 138
    refine HC.out.mono ?_
    rintro e w2 ⟨rfl, hb2, hk2⟩
    have HB2 := Aside0.mk hb2
    have K2 := Aside0.mk hk2
    clear hb2 hk2 c2
    have HO2 := Aside0.mk (own_keepB H.out.text (Nat.lt_succ_self b) K2.out)
    obtain ⟨ao, cap, hpt⟩ := LxQ.own_slice HO2.out
    have HP := Aside0.mk hpt
    have c4 := HB2.out.p4
    have f4 := HB2.out.fz 4
    dsimp only at c4
    rw [hpt] at c4
    clear hpt
    have HO3 : Aside0 (w2.ownsRow (b + 1) 5 1 (.slice ao s.sub.text.length cap) s.sub.text.length (Lib.byteCells s.sub.text)) := ⟨by have := HO2.out; rw [HP.out] at this; exact this⟩
    go_wp2_with (at_builtin; refine wpList_append_own_at _ rfl _ _ 32 rfl (b + 1) 5 i0 (.int .u8 0) 1 1 Tryd.underlying32 hi hz0 hz1 hz2 rfl (by decide) _ _ _ rfl (HO3.out.alloc _) ⟨w2.heap.size, 0, none⟩ 1 1 [.int .u8 c] rfl rfl (lit_cells _ _) ?c2 ?c3 ?c4 ?c5 ?_)
    case c2 => intro u hu; simp at hu; subst hu; rfl
    case c3 => have := H.out.len; have := HN.out; unfold maxLen; omega
    case c4 => have := H.out.len; have := HN.out; omega
    case c5 => have := HB2.out.lt; simp; omega
    intro v' w3 hown' hgrow _ hat
    have HV : Aside0 (∀ k, p.text.ownBlock = some k → b < k) := ⟨fun k hk => (own_lt H.out.text k hk).1⟩
    have hvb : (Value.slice ao s.sub.text.length cap).ownBlock = p.text.ownBlock := by rw [HP.out]
    have hvk : ∀ k, (Value.slice ao s.sub.text.length cap).ownBlock = some k → b < k := by rw [hvb]; exact HV.out
    have KT := Aside0.mk ((KeepB.t K2.out).trans (hvb ▸ KeepT.grown HB2.out.lt hvk hgrow))
    have HB3 := Aside0.mk (HB2.out.keep (grown_b HB2.out.lt hvk hgrow) (Nat.le_trans (by simp) hgrow.size))
    have HAT : Aside0 (v'.ownBlock = p.text.ownBlock ∨ v'.ownBlock = some (w2.heap.size + 1)) := ⟨by rw [← hvb]; simpa using hat⟩
    have HO4 : Aside0 (w3.ownsRow (b + 1) 5 1 v' (s.sub.text ++ [c.toNat.toUInt8]).length (Lib.byteCells (s.sub.text ++ [c.toNat.toUInt8]))) := Aside0.mk (own_cells (new := [c.toNat.toUInt8]) hown' (by simp only [Lib.byteCells, List.map_cons, List.map_nil, toByte c HCC.out.1 HCC.out.2]) rfl)
    obtain ⟨ao', cap', rfl⟩ : ∃ ao' cap', v' = .slice ao' (s.sub.text ++ [c.toNat.toUInt8]).length cap' := LxQ.own_slice HO4.out
    obtain ⟨nn, hnn⟩ : ∃ nn, nn = (s.sub.text ++ [c.toNat.toUInt8]).length := ⟨_, rfl⟩
    rw [← hnn] at HO4 HAT ⊢
    have HNN := Aside0.mk hnn
    clear hown' hgrow hat hvb hvk c4 f4 HO3 hnn
    have c4 := HB3.out.p4
    have f4 := HB3.out.fz 4
    go_wp2_with (fail)
    go_ret2
    have B4 := HB3.out.w4 (.slice ao' nn cap')
    have KB4 := (KeepB.refl b w3).set 4 (.slice ao' nn cap')
    have KT4 := KT.out.trans (KeepB.t KB4)
    have HO5 := own_keepB HO4.out (Nat.lt_succ_self b) KB4
    rw [HNN.out] at HO5
    rw [E.out]
    refine ⟨_, rfl, { p with num := a', text := .slice ao' nn cap' }, tx, ⟨B4, H.out.at_, H.out.frm, H.out.within, H.out.ended, rfl, H.out.which, H.out.wat, HNN.out ▸ HO5, HR.out.1, HR.out.2, H.out.wa, H.out.wi, H.out.kinds, GQ.mono H.out.good (Nat.le_succ n), by have := H.out.len; simp; omega, fun h8 => absurd (HW.out.symm.trans h8) (by decide)⟩, KT4.below, fun k hf => ⟨KT4.block k hf.1 hf.2.1 hf.2.2.1, Nat.lt_of_lt_of_le hf.1 KT4.size, hf.2.1, fun e => ?_, fun h8 => absurd (HW.out.symm.trans h8) (by decide)⟩, World.ownsRow_nil _ _ _ _, fun h => absurd rfl h, fun _ => rfl⟩
    rcases HAT.out with h1 | h1
    · exact hf.2.2.1 (h1.symm.trans e)
    · have h2 : w2.heap.size + 1 = k := Option.some.inj (h1.symm.trans e)
      have h3 := K2.out.size
      have h4 := hf.1
      omega
  · have E := Aside0.mk (show lookV sub s c = ((beginV sub { s with within := 0 } c).1, ⟨s.within, false, s.frm, s.at_, ⟨s.sub.text.toArray⟩⟩ :: (beginV sub { s with within := 0 } c).2.1, (beginV sub { s with within := 0 } c).2.2) by
      unfold lookV
      rw [if_neg (by omega), hgo, if_neg (by decide), if_neg (by decide)])
    have hs := hstay (by decide)
    subst hs
    clear h hw hT hb0 hr hn hn2 hgo hrg hstay k0 k1
    go_enter Tryd.func98, Tryd.ntmps98
    go_wp2_with (fail)
    go_at_call 138
    refine HC.out.mono ?_
    rintro e w2 ⟨rfl, hb2, hk2⟩
    have K2 := Aside0.mk hk2
    have L2 : Aside0 (Lx w2 b s p tx n) := ⟨⟨hb2.same (by rw [← H.out.num]), H.out.at_, H.out.frm, H.out.within, H.out.ended, H.out.num, H.out.which, H.out.wat, own_keepB H.out.text (Nat.lt_succ_self b) hk2, H.out.num0, H.out.num8, H.out.wa, H.out.wi, H.out.kinds, H.out.good, H.out.len, fun h8 => absurd (HW.out.symm.trans h8) (by decide)⟩⟩
    clear hb2 hk2 c2
    have c0 := L2.out.blk.p0
    have c4 := L2.out.blk.p4
    rw [L2.out.at_] at c0
    have hcv := own_text' (Lx.drew L2.out).text
    go_upto_region 21 with (fail)
    refine ListedB.wp_region_listed (G := []) (by kernel_rfl) (by kernel_rfl) ?_
    go_wp2_with (fail)
    go_at_call 100
    refine (end_lx (Lx.drew L2.out).blk s L2.out.within L2.out.frm (s.at_ : Int) ⟨s.sub.text.toArray⟩).mono ?_
    rintro e w5 ⟨rfl, hb5, hk5⟩
    have K5 := Aside0.mk ((KeepB.drew K2.out).trans hk5)
    have L5 : Aside0 (Lx w5 b { s with within := 0 } { p with within := 0 } tx n) := ⟨⟨hb5, L2.out.at_, L2.out.frm, rfl, L2.out.ended, L2.out.num, L2.out.which, L2.out.wat, own_keepB (Lx.drew L2.out).text (Nat.lt_succ_self b) hk5, L2.out.num0, L2.out.num8, L2.out.wa, L2.out.wi, .inl rfl, L2.out.good, L2.out.len, fun h8 => absurd h8 (by simp)⟩⟩
    clear hb5 hk5 c0 c4 hcv
    go_wp2_with (fail)
    obtain ⟨ao, cap, hpt⟩ := LxQ.own_slice L2.out.text
    rw [hpt]
    clear hpt
    refine ListedB.fin_intro (by kernel_rfl) ?_
    go_wp2_with (fail)
    have R7 := Aside0.mk (row1 w5 W.heap.size ⟨s.within, false, s.frm, s.at_, ⟨s.sub.text.toArray⟩⟩ K5.out.size _ _ rfl rfl)
    generalize hw7 : World.alloc w5 _ = w7
    have hw7' : w5.alloc (.cells (tkCells ⟨s.within, false, s.frm, s.at_, ⟨s.sub.text.toArray⟩⟩).toArray 39) = w7 := hw7
    rw [hw7'] at R7
    have K7 : Aside0 (KeepB b w5 w7) := ⟨by rw [← hw7]; exact (KeepB.refl b w5).of_below (Nat.le_of_lt L5.out.blk.lt) (below_alloc (Below.refl _ _) _)⟩
    have L7 : Aside0 (Lx w7 b { s with within := 0 } { p with within := 0 } tx n) := ⟨L5.out.keep (by rw [← hw7]; exact Lib.alloc_old w5 _ b L5.out.blk.lt) K7.out (Nat.le_refl n)⟩
    have S7 : Aside0 (w5.heap.size < w7.heap.size) := ⟨by rw [← hw7]; simp⟩
    clear hw7 hw7'
    have HG : Aside0 (W.heap.size ≤ w5.heap.size) := ⟨K5.out.size⟩
    have F7 : Aside0 (Free w7 b { s with within := 0 } { p with within := 0 } w5.heap.size) := ⟨S7.out, fun e => by have := L5.out.blk.lt; omega, fun e => by have := (own_lt L5.out.text _ e).2; omega, fun h8 => absurd h8 (by simp)⟩
    have HBG := Aside0.mk (begin_calls L7.out rfl (Tab.keep HT.out (K5.out.trans K7.out).below HB0.out) HB0.out HN.out HN2.out c HCC.out.1 HCC.out.2)
    have HM := Aside0.mk (begin_mark_tok { s with within := 0 } c rfl)
    have HL := Aside0.mk (begin_len { s with within := 0 } c)
    generalize beginV sub { s with within := 0 } c = z at *
    obtain ⟨s', toks, r⟩ := z
    dsimp only at HBG HM HL E
    generalize w5.heap.size = g at *
    go_at_call 139
    refine HBG.out.mono ?_
    rintro e w8 ⟨v, rfl, hP⟩
    obtain ⟨p', tx', h1, h2, h3, h4, h5, h6⟩ := hP
    have H1 := Aside0.mk h1
    have H2 := Aside0.mk h2
    have H3 := Aside0.mk h3
    have H4 := Aside0.mk h4
    have H5 := Aside0.mk h5
    have H6 := Aside0.mk h6
    clear h1 h2 h3 h4 h5 h6
    have R8 : Aside0 (w8.ownsRow W.heap.size 39 5 (.slice (some ⟨g, 0, none⟩) 1 1) [(⟨s.within, false, s.frm, s.at_, ⟨s.sub.text.toArray⟩⟩ : Tk)].length ([(⟨s.within, false, s.frm, s.at_, ⟨s.sub.text.toArray⟩⟩ : Tk)].flatMap tkCells)) := ⟨own_more R7.out (fun k hk => by obtain rfl : g = k := Option.some.inj hk; exact (H3.out g F7.out).1)⟩
    go_wp2_with (at_builtin; refine wpList_tok_append rfl _ _ rfl W.heap.size w7.heap.size (.slice (some ⟨g, 0, none⟩) 1 1) v [⟨s.within, false, s.frm, s.at_, ⟨s.sub.text.toArray⟩⟩] toks rfl rfl R8.out H4.out H6.out (by have := HL.out; simp; omega) (Nat.le_trans (Nat.le_trans K5.out.size K7.out.size) H2.out.size) ?_)
    intro v' w9 hrow hg hat hnil
    have HP := Aside0.mk (Post.app (s := s) (p := p) (l := [(⟨s.within, false, s.frm, s.at_, ⟨s.sub.text.toArray⟩⟩ : Tk)]) (m := toks) (vo := .slice (some ⟨g, 0, none⟩) 1 1) (v' := v') H.out.blk.lt ⟨p', tx', H1.out, (K5.out.trans K7.out).below.trans H2.out, fun k hf => by
        have h7 : Free w7 b { s with within := 0 } { p with within := 0 } k := ⟨Nat.lt_of_lt_of_le hf.1 (Nat.le_trans K5.out.size K7.out.size), hf.2.1, hf.2.2.1, fun h8 => absurd h8 (by simp)⟩
        exact ⟨(H3.out k h7).1.trans ((K5.out.trans K7.out).block k hf.1 hf.2.1), (H3.out k h7).2⟩, fun h8 => H5.out (HM.out h8) h8, fun k hk => by
        obtain rfl : g = k := Option.some.inj hk
        exact ⟨HG.out, (H3.out g F7.out).2.2.1, (H3.out g F7.out).2.2.2.1⟩⟩ hrow hg (fun h => by simp at h))
    clear hrow hg hat hnil
    go_wp2_with (fail)
    go_ret2
    rw [E.out]
    exact ⟨_, rfl, HP.out⟩
  · have E := Aside0.mk (show lookV sub s c = (s, [], 5) by
      unfold lookV
      rw [if_neg (by omega), hgo, if_pos rfl])
    have hs := hstay (by decide)
    subst hs
    clear h hw hT hb0 hr hn hn2 hgo hrg hstay k0 k1
    go_enter Tryd.func98, Tryd.ntmps98
    go_wp2_with (fail)
    go_at_call 138
    refine HC.out.mono ?_
    rintro e w2 ⟨rfl, hb2, hk2⟩
    have K2 := Aside0.mk hk2
    have L2 : Aside0 (Lx w2 b s p tx (n + 1)) := ⟨⟨hb2.same (by rw [← H.out.num]), H.out.at_, H.out.frm, H.out.within, H.out.ended, H.out.num, H.out.which, H.out.wat, own_keepB H.out.text (Nat.lt_succ_self b) hk2, H.out.num0, H.out.num8, H.out.wa, H.out.wi, H.out.kinds, GQ.mono H.out.good (Nat.le_succ n), Nat.le_succ_of_le H.out.len, fun h8 => absurd (HW.out.symm.trans h8) (by decide)⟩⟩
    clear hb2 hk2 c2
    go_wp2_with (fail)
    go_ret2
    rw [E.out]
    exact ⟨_, rfl, p, tx, L2.out, K2.out.below, fun k hf => ⟨K2.out.block k hf.1 hf.2.1, Nat.lt_of_lt_of_le hf.1 K2.out.size, hf.2⟩, World.ownsRow_nil _ _ _ _, fun h => absurd rfl h, fun _ => rfl⟩
/-- What a byte does. -/
theorem look_calls {W : World} {b : Nat} {s : St SS} {p : LP} {tx : Value} {n : Nat} (h : Lx W b s p tx n) (hT : Tab W) (hb0 : 0 < b) (hn : n ≤ 1000000) (hn2 : s.at_ ≤ 1000000) (c : Int) (k0 : 0 ≤ c) (k1 : c < 256) :
    Calls Tryd.prog 98 #[.pointer (some ⟨b, 0, none⟩), .int .u8 c] W fun e w' => ∃ v, e = .returned (.tuple #[v, .int .i64 (lookV sub s c).2.2]) ∧ Post W b s p (lookV sub s c).1 (n + 1) (lookV sub s c).2.1 v w' := by
  rcases h.kinds with h0 | h0 | h0 | h0
  · exact look_out h h0 hT hb0 hn hn2 c k0 k1
  · exact look_str h h0 hn hn2 c k0 k1
  · exact look_num h h0 hT hb0 hn hn2 c k0 k1
  · exact look_lit h h0 hT hb0 hn2 c k0 k1
end Go.Proofs.YtlhpflicchchlaaDoor.LxA
