/- lex.New, lex.Lexer.At, Step and Close, walked. Conditions: at most 10^6 bytes. -/
import Derived.Test.YtlhpflicchchlaaDoorLxLk
namespace Go.Proofs.YtlhpflicchchlaaDoor.LxA
open Go.RowKit Go.Proofs.YtlhpflicchchlaaDoorW.PrintWords Go.Proofs.YtlhpflicchchlaaDoorW.PrintLast Go.Proofs.YtlhpflicchchlaaDoorW.PrintMore
attribute [local go_sem] max2_int min2_int max_two min_two max_three min_three max_four min_four
open Go.Proofs.YtlhpflicchchlaaDoor.LexPure Go.Proofs.YtlhpflicchchlaaDoor.LxQ Go.Proofs.YtlhpflicchchlaaDoor.LxN
set_option linter.unusedVariables false
set_option linter.unusedSimpArgs false
theorem beginV_at (s : St SS) (c : Int) : (beginV sub s c).1.at_ = s.at_ := by
  unfold beginV
  repeat' split
  all_goals rfl
theorem lookV_at (s : St SS) (c : Int) : (lookV sub s c).1.at_ = s.at_ := by
  unfold lookV
  split
  · exact beginV_at s c
  · split
    · rfl
    · rfl
    · exact beginV_at _ c
    · rfl
theorem lookV_len (s : St SS) (c : Int) : (lookV sub s c).2.1.length ≤ 2 := by
  unfold lookV
  split
  · have := begin_len s c; omega
  · split
    · simp
    · simp
    · rename_i z t _
      have := begin_len { s with sub := z, within := 0 } c
      simp only [List.length_cons]
      omega
    · simp
/-- What is left where it says a fault, or is closed. -/
def PostE (W : World) (b : Nat) (s : St SS) (p : LP) (toks : List Tk) (v : Value) (w' : World) : Prop :=
  w'.cell? ⟨b, 0, none⟩ = some (.int .i64 (s.at_ : Int)) ∧ Below b W w' ∧ (∀ k, Free W b s p k → w'.heap[k]? = W.heap[k]?) ∧ w'.ownsRow W.heap.size 39 5 v toks.length (toks.flatMap tkCells) ∧ (toks = [] → v = .slice none 0 0)
theorem at_calls {W : World} {b : Nat} {a : Int} (h : W.cell? ⟨b, 0, none⟩ = some (.int .i64 a)) : Calls Tryd.prog 57 #[.pointer (some ⟨b, 0, none⟩)] W fun e w' => e = .returned (.int .i64 a) ∧ w' = W := by
  go_enter Tryd.func57, Tryd.ntmps57
  go_wp2
  go_ret
  exact ⟨rfl, rfl⟩
theorem Post.on {W w1 : World} {b : Nat} {s s' : St SS} {p : LP} {n : Nat} {toks : List Tk} {v : Value} (hbW : b < W.heap.size) (h : Post W b s p s' n toks v w1) : Post W b s p { s' with at_ := s'.at_ + 1 } n toks v (w1.setCell ⟨b, 0, none⟩ (.int .i64 ((s'.at_ : Int) + 1))) := by
  obtain ⟨p', tx', h1, h2, h3, h4, h5, h6⟩ := h
  have hk : KeepB b w1 (w1.setCell ⟨b, 0, none⟩ (.int .i64 ((s'.at_ : Int) + 1))) := (KeepB.refl b w1).set 0 _
  refine ⟨{ p' with at_ := (s'.at_ : Int) + 1 }, tx', ⟨h1.blk.w0 _, rfl, h1.frm, h1.within, h1.ended, h1.num, h1.which, h1.wat, own_keepB h1.text (Nat.lt_succ_self b) hk, h1.num0, h1.num8, h1.wa, h1.wi, h1.kinds, h1.good, h1.len, fun h8 => ⟨own_keepB (h1.str h8).1 (by omega) hk, (h1.str h8).2⟩⟩, h2.trans hk.below, fun k hf => ?_, own_keepB h4 hbW hk, h5, h6⟩
  have := h3 k hf
  exact ⟨(hk.block k this.2.1 hf.2.1).trans this.1, Nat.lt_of_lt_of_le this.2.1 hk.size, this.2.2⟩
theorem Post.off {W w1 : World} {b : Nat} {s s' : St SS} {p : LP} {n : Nat} {toks : List Tk} {v : Value} (hbW : b < W.heap.size) (hs : s'.at_ = s.at_) (h : Post W b s p s' n toks v w1) : PostE W b s p toks v (w1.setCell ⟨b, 3, none⟩ (.bool true)) := by
  obtain ⟨p', tx', h1, h2, h3, h4, h5, h6⟩ := h
  have hk : KeepB b w1 (w1.setCell ⟨b, 3, none⟩ (.bool true)) := (KeepB.refl b w1).set 3 _
  refine ⟨(h1.blk.w3 true).p0.trans (by rw [← hs]; rw [show _ = (s'.at_ : Int) from h1.at_]), h2.trans hk.below, fun k hf => ?_, own_keepB h4 hbW hk, h6⟩
  have := h3 k hf
  exact (hk.block k this.2.1 hf.2.1).trans this.1
set_option maxHeartbeats 8000000 in
set_option maxRecDepth 100000 in
theorem step_calls {W : World} {b : Nat} {s : St SS} {p : LP} {tx : Value} {n : Nat} (h : Lx W b s p tx n) (hT : Tab W) (hb0 : 0 < b) (hn : n ≤ 1000000) (hn2 : s.at_ ≤ 1000000) (c : Int) (k0 : 0 ≤ c) (k1 : c < 256) :
    Calls Tryd.prog 56 #[.pointer (some ⟨b, 0, none⟩), .int .u8 c] W fun e w' => ∃ v, e = .returned (.tuple #[v, .int .i64 (lookV sub s c).2.2]) ∧ ((lookV sub s c).2.2 = 0 → Post W b s p { (lookV sub s c).1 with at_ := s.at_ + 1 } (n + 1) (lookV sub s c).2.1 v w') ∧ ((lookV sub s c).2.2 ≠ 0 → PostE W b s p (lookV sub s c).2.1 v w') := by
  have H := Aside0.mk h
  have HC := Aside0.mk (look_calls h hT hb0 hn hn2 c k0 k1)
  have HA := Aside0.mk (lookV_at s c)
  have c3 := h.blk.p3
  rw [h.ended] at c3
  have ha : wrap64 ((s.at_ : Int) + 1) = (s.at_ : Int) + 1 := by unfold wrap64; omega
  generalize lookV sub s c = z at *
  obtain ⟨s', toks, r⟩ := z
  dsimp only at HC HA ⊢
  clear h hT hb0 hn hn2 k0 k1
  go_enter Tryd.func56, Tryd.ntmps56
  go_wp2_with (fail)
  go_at_call 98
  refine HC.out.mono ?_
  rintro e w3 ⟨v, rfl, hP⟩
  have HP := Aside0.mk hP
  obtain ⟨p', tx', h1, h2⟩ := hP
  have c0 := h1.blk.p0
  have f0 := h1.blk.fz 0
  have c3' := h1.blk.p3
  have f3 := h1.blk.fz 3
  rw [h1.at_, HA.out] at c0
  clear h1 h2 c3
  by_cases hr : r = 0
  · subst hr
    go_wp2_with (fail)
    go_ret2
    refine ⟨_, rfl, ?_⟩
    have := HP.out.on H.out.blk.lt
    rw [HA.out] at this
    exact this
  · have g1 : (r != 0) = true := by simp [hr]
    have g2 : decide (r = 0) = false := by simp [hr]
    have g3 : (r == 0) = false := by simp [hr]
    have HR := Aside0.mk hr
    clear hr
    go_wp2_with (fail)
    go_ret2
    exact ⟨_, rfl, fun h0 => absurd h0 HR.out, fun _ => HP.out.off H.out.blk.lt HA.out⟩
def p0 : LP := ⟨0, 0, 0, false, .slice none 0 0, 0, 0, 0, 0⟩
set_option maxHeartbeats 4000000 in
theorem new_calls (W : World) : Calls Tryd.prog 55 #[] W fun e w' => e = .returned (.pointer (some ⟨W.heap.size, 0, none⟩)) ∧ Lx w' W.heap.size s0 p0 (.slice none 0 0) 0 ∧ Below W.heap.size W w' ∧ W.heap.size < w'.heap.size := by
  go_enter Tryd.func55, Tryd.ntmps55
  go_wp2
  go_ret
  generalize hg : World.alloc W _ = w1
  have hb : IsB w1 W.heap.size p0 0 0 0 0 0 (.slice none 0 0) 0 0 0 := ⟨by subst hg; exact blk_new _ _, Nat.zero_le _⟩
  have hB : Below W.heap.size W w1 := by subst hg; exact below_alloc (Below.refl _ _) _
  have hL : Lx w1 W.heap.size s0 p0 (.slice none 0 0) 0 := Lx.mk hb rfl rfl rfl rfl rfl rfl rfl (World.ownsRow_nil _ _ _ _) (by decide) (by decide) (by decide) (by decide) (.inl rfl) good0 (by decide) (fun h => absurd h (by decide))
  exact ⟨rfl, hL, hB, by subst hg; simp⟩
def closeV (s : St SS) : List Tk × Int :=
  if s.within = 0 then ([], 1) else if s.within = 9 then (if wholeV s.sub.num = true then ([⟨9, false, s.frm, s.at_, ⟨s.sub.text.toArray⟩⟩], 1) else ([], 10)) else ([], 10)
theorem closeV_eq (s : St SS) : allV sub [] s = ((closeV s).1, (closeV s).2, s.at_) := by
  unfold allV closeV
  split
  · rfl
  split
  · by_cases hw : wholeV s.sub.num = true
    · rw [if_pos hw, show sub.close s.sub = some ⟨s.sub.text.toArray⟩ from if_pos hw]
    · rw [if_neg hw, show sub.close s.sub = none from if_neg hw]
  · rfl
theorem closeV_len (s : St SS) : (closeV s).1.length ≤ 1 := by
  unfold closeV
  repeat' split
  all_goals simp
theorem PostE.of {W w1 : World} {b : Nat} {s : St SS} {p : LP} {v : Value} (hc : w1.cell? ⟨b, 0, none⟩ = some (.int .i64 (s.at_ : Int))) (hk : KeepB b W w1) (hv : v = .slice none 0 0) : PostE W b s p [] v w1 := by
  subst hv
  exact ⟨hc, hk.below, fun k hf => hk.block k hf.1 hf.2.1, World.ownsRow_nil _ _ _ _, fun _ => rfl⟩
set_option maxHeartbeats 16000000 in
set_option maxRecDepth 100000 in
theorem close_calls {W : World} {b : Nat} {s : St SS} {p : LP} {tx : Value} {n : Nat} (h : Lx W b s p tx n) :
    Calls Tryd.prog 58 #[.pointer (some ⟨b, 0, none⟩)] W fun e w' => ∃ v, e = .returned (.tuple #[v, .int .i64 (closeV s).2]) ∧ PostE W b s p (closeV s).1 v w' := by
  have H := Aside0.mk h
  have c3 := h.blk.p3
  rw [h.ended] at c3
  have f3 := h.blk.fz 3
  have c2 := h.blk.p2
  rw [h.within] at c2
  have HB := Aside0.mk (h.blk.w3 true)
  have HK := Aside0.mk ((KeepB.refl b W).set 3 (.bool true))
  have hkinds := h.kinds
  have h0 := h.num0
  have h8 := h.num8
  by_cases hw : s.within = 0
  · have E := Aside0.mk (show closeV s = ([], 1) by unfold closeV; rw [if_pos hw])
    rw [hw] at c2
    clear h hw hkinds h0 h8
    go_enter Tryd.func58, Tryd.ntmps58
    go_wp2_with (fail)
    go_ret2
    rw [E.out]
    exact ⟨_, rfl, PostE.of (HB.out.p0.trans (by rw [show _ = (s.at_ : Int) from H.out.at_])) HK.out rfl⟩
  by_cases hw9 : s.within = 9
  · rw [hw9] at c2
    have HWC := Aside0.mk (whole_calls b p.num (W.setCell ⟨b, 3, none⟩ (.bool true)) HB.out.p5 (by rw [H.out.num]; exact h0) (by rw [H.out.num]; exact h8))
    rw [H.out.num] at HWC
    by_cases hwh : wholeV s.sub.num = true
    · have E := Aside0.mk (show closeV s = ([⟨9, false, s.frm, s.at_, ⟨s.sub.text.toArray⟩⟩], 1) by unfold closeV; rw [if_neg hw, if_pos hw9, if_pos hwh])
      have HW9 := Aside0.mk hw9
      rw [hwh] at HWC
      clear h hw hw9 hwh hkinds h0 h8
      go_enter Tryd.func58, Tryd.ntmps58
      go_wp2_with (fail)
      generalize hW1 : World.setCell W _ _ = W1 at *
      have HO1 : Aside0 (W1.ownsRow (b + 1) 5 1 p.text s.sub.text.length (Lib.byteCells s.sub.text)) := ⟨own_keepB H.out.text (Nat.lt_succ_self b) HK.out⟩
      go_at_call 99
      refine HWC.out.mono ?_
      rintro e w3 ⟨rfl, rfl⟩
      have c0 := HB.out.p0
      have c4 := HB.out.p4
      dsimp only at c0 c4
      rw [H.out.at_] at c0
      have hcv := own_text' (World.ownsRow.drew HO1.out)
      clear c2 c3 f3 hW1
      go_upto_region 7 with (fail)
      refine ListedB.wp_region_listed (G := []) (by kernel_rfl) (by kernel_rfl) ?_
      go_wp2_with (fail)
      go_at_call 100
      refine (end_lx (W := w3.drew) (p := { p with ended := true }) HB.out s H.out.within H.out.frm (s.at_ : Int) ⟨s.sub.text.toArray⟩).mono ?_
      rintro e w5 ⟨rfl, hb5, hk5⟩
      have K5 := Aside0.mk ((KeepB.drew HK.out).trans hk5)
      have C5 : Aside0 (w5.cell? ⟨b, 0, none⟩ = some (.int .i64 (s.at_ : Int))) := ⟨hb5.p0.trans (by rw [show _ = (s.at_ : Int) from H.out.at_])⟩
      have L5 := Aside0.mk (IsB.lt hb5)
      clear hb5 hk5 c0 c4 hcv
      go_wp2_with (fail)
      obtain ⟨ao, cap, hpt⟩ := LxQ.own_slice H.out.text
      rw [hpt]
      clear hpt
      refine ListedB.fin_intro (by kernel_rfl) ?_
      go_wp2_with (fail)
      go_ret2
      rw [E.out]
      have R7 := row1 w5 W.heap.size ⟨s.within, false, s.frm, s.at_, ⟨s.sub.text.toArray⟩⟩ K5.out.size _ _ rfl rfl
      rw [HW9.out] at R7 ⊢
      refine ⟨_, rfl, ((below_alloc (Below.refl w5.heap.size w5) _).cell (p := ⟨b, 0, none⟩) L5.out).trans C5.out, K5.out.below.trans (below_alloc (Below.refl _ _) _ |>.mono (Nat.le_of_lt L5.out)), fun k hf => ?_, R7, fun h => by simp at h⟩
      exact (Lib.alloc_old w5 _ k (Nat.lt_of_lt_of_le hf.1 K5.out.size)).trans (K5.out.block k hf.1 hf.2.1)
    · have E := Aside0.mk (show closeV s = ([], 10) by unfold closeV; rw [if_neg hw, if_pos hw9, if_neg hwh])
      rw [show wholeV s.sub.num = false by simpa using hwh] at HWC
      clear h hw hw9 hwh hkinds h0 h8
      go_enter Tryd.func58, Tryd.ntmps58
      go_wp2_with (fail)
      go_at_call 99
      refine HWC.out.mono ?_
      rintro e w3 ⟨rfl, rfl⟩
      go_wp2_with (fail)
      go_ret2
      rw [E.out]
      exact ⟨_, rfl, PostE.of (HB.out.p0.trans (by rw [show _ = (s.at_ : Int) from H.out.at_])) HK.out rfl⟩
  · have E := Aside0.mk (show closeV s = ([], 10) by unfold closeV; rw [if_neg hw, if_neg hw9])
    have a1 : (s.within == 0) = false := by simp [hw]
    have a2 : (s.within == 9) = false := by simp [hw9]
    have a3 : decide (s.within = 0) = false := by simp [hw]
    have a4 : decide (s.within = 9) = false := by simp [hw9]
    clear h hw hw9 hkinds h0 h8
    go_enter Tryd.func58, Tryd.ntmps58
    go_wp2_with (fail)
    go_ret2
    rw [E.out]
    exact ⟨_, rfl, PostE.of (HB.out.p0.trans (by rw [show _ = (s.at_ : Int) from H.out.at_])) HK.out rfl⟩
end Go.Proofs.YtlhpflicchchlaaDoor.LxA
