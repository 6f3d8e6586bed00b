/- lex.Lexer.begin, walked. Conditions: none. -/
import Derived.Test.YtlhpflicchchlaaDoorLxBg0
import Derived.Test.YtlhpflicchchlaaDoorLxPr
import Derived.Test.YtlhpflicchchlaaDoorListedB
namespace Go.Proofs.YtlhpflicchchlaaDoor.LxA
open Go.RowKit Go.Proofs.YtlhpflicchchlaaDoorW.PrintWords Go.Proofs.YtlhpflicchchlaaDoorW.PrintLast Go.Proofs.YtlhpflicchchlaaDoorW.PrintMore
open Go.Proofs.YtlhpflicchchlaaDoor.LexPure Go.Proofs.YtlhpflicchchlaaDoor.LxQ Go.Proofs.YtlhpflicchchlaaDoor.LxN
attribute [local go_sem] max2_int min2_int max_two min_two max_three min_three max_four min_four
set_option linter.unusedVariables false
set_option linter.unusedSimpArgs false
theorem kindOf_range (c : Int) : 0 ≤ kindOf c ∧ kindOf c ≤ 10 := by
  unfold kindOf
  repeat' split
  all_goals omega
set_option maxHeartbeats 8000000 in
set_option maxRecDepth 100000 in
theorem begin_none {W : World} {b : Nat} {s : St SS} {p : LP} {tx : Value} {n : Nat} (h : Lx W b s p tx n) (c : Int) (k0 : 0 ≤ c) (k1 : c < 256) (hK : kindOf c = 0) :
    Calls Tryd.prog 139 #[.pointer (some ⟨b, 0, none⟩), .int .u8 c] W fun e w' => ∃ v, e = .returned (.tuple #[v, .int .i64 (beginV sub s c).2.2]) ∧ Post W b s p (beginV sub s c).1 (n + 1) (beginV sub s c).2.1 v w' := by
  have H := Aside0.mk h
  have HK := Aside0.mk (LxPr.kind_calls c k0 k1)
  have HLT := Aside0.mk (IsB.lt h.blk)
  rw [show beginV sub s c = (s, [], 8) by unfold beginV; rw [if_pos hK]]
  rw [hK] at HK
  clear h hK k0 k1
  go_enter Tryd.func139, Tryd.ntmps139
  go_wp2_with (fail)
  go_at_call 162
  refine (HK.out _).mono ?_
  rintro e w2 ⟨rfl, hb⟩
  have K2 := Aside0.mk ((KeepB.refl b W).of_below (Nat.le_of_lt HLT.out) hb)
  have B2 := Aside0.mk (hb.block b HLT.out)
  clear hb
  go_wp2_with (fail)
  go_ret2
  exact ⟨_, rfl, Post.same H.out B2.out K2.out (Nat.le_succ n)⟩
set_option maxHeartbeats 8000000 in
set_option maxRecDepth 100000 in
theorem begin_blank {W : World} {b : Nat} {s : St SS} {p : LP} {tx : Value} {n : Nat} (h : Lx W b s p tx n) (c : Int) (k0 : 0 ≤ c) (k1 : c < 256) (hK : kindOf c = 1) :
    Calls Tryd.prog 139 #[.pointer (some ⟨b, 0, none⟩), .int .u8 c] W fun e w' => ∃ v, e = .returned (.tuple #[v, .int .i64 (beginV sub s c).2.2]) ∧ Post W b s p (beginV sub s c).1 (n + 1) (beginV sub s c).2.1 v w' := by
  have H := Aside0.mk h
  have HK := Aside0.mk (LxPr.kind_calls c k0 k1)
  have HLT := Aside0.mk (IsB.lt h.blk)
  rw [show beginV sub s c = (s, [], 0) by unfold beginV; rw [if_neg (by omega), if_pos hK]]
  rw [hK] at HK
  clear h hK k0 k1
  go_enter Tryd.func139, Tryd.ntmps139
  go_wp2_with (fail)
  go_at_call 162
  refine (HK.out _).mono ?_
  rintro e w2 ⟨rfl, hb⟩
  have K2 := Aside0.mk ((KeepB.refl b W).of_below (Nat.le_of_lt HLT.out) hb)
  have B2 := Aside0.mk (hb.block b HLT.out)
  clear hb
  go_wp2_with (fail)
  go_ret2
  exact ⟨_, rfl, Post.same H.out B2.out K2.out (Nat.le_succ n)⟩
set_option maxHeartbeats 8000000 in
set_option maxRecDepth 100000 in
theorem begin_one {W : World} {b : Nat} {s : St SS} {p : LP} {tx : Value} {n : Nat} (h : Lx W b s p tx n) (hw : s.within = 0) (hn : s.at_ ≤ 1000000) (c : Int) (k0 : 0 ≤ c) (k1 : c < 256) (K : Int) (hK : kindOf c = K) (K0 : 2 ≤ K) (K1 : K ≤ 7) :
    Calls Tryd.prog 139 #[.pointer (some ⟨b, 0, none⟩), .int .u8 c] W fun e w' => ∃ v, e = .returned (.tuple #[v, .int .i64 (beginV sub s c).2.2]) ∧ Post W b s p (beginV sub s c).1 (n + 1) (beginV sub s c).2.1 v w' := by
  have H := Aside0.mk h
  have HW := Aside0.mk hw
  have HK := Aside0.mk (LxPr.kind_calls c k0 k1)
  have HLT := Aside0.mk (IsB.lt h.blk)
  have E := Aside0.mk (show beginV sub s c = (s, [⟨K, false, s.at_, s.at_ + 1, ⟨#[]⟩⟩], 0) by unfold beginV; rw [if_neg (by omega), if_neg (by omega), if_neg (by omega), hK])
  rw [hK] at HK
  have a0 : (K == 0) = false := by simp; omega
  have a1 : (K == 1) = false := by simp; omega
  have a2 : (K == 8) = false := by simp; omega
  have a3 : (K == 9) = false := by simp; omega
  have a4 : (K == 10) = false := by simp; omega
  have e0 : decide (K = 0) = false := by simp; omega
  have e1 : decide (K = 1) = false := by simp; omega
  have e2 : decide (K = 8) = false := by simp; omega
  have e3 : decide (K = 9) = false := by simp; omega
  have e4 : decide (K = 10) = false := by simp; omega
  have r1 : wrap64 ((s.at_ : Int) + 1) = (s.at_ : Int) + 1 := by unfold wrap64; omega
  clear h hK k0 k1 K0 K1 hw hn
  go_enter Tryd.func139, Tryd.ntmps139
  go_wp2_with (fail)
  go_at_call 162
  refine (HK.out _).mono ?_
  rintro e w2 ⟨rfl, hb⟩
  have K2 := Aside0.mk ((KeepB.refl b W).of_below (Nat.le_of_lt HLT.out) hb)
  have B2 := Aside0.mk (hb.block b HLT.out)
  clear hb
  have HB2 := Aside0.mk (H.out.blk.keep B2.out K2.out.size)
  have c0 := HB2.out.p0
  rw [H.out.at_] at c0
  go_upto_region 3 with (fail)
  refine ListedB.wp_region_listed (G := []) (by kernel_rfl) (by kernel_rfl) ?_
  go_wp2_with (fail)
  refine ListedB.fin_intro (by kernel_rfl) ?_
  go_wp2_with (fail)
  go_ret2
  rw [E.out]
  exact ⟨_, rfl, (Post.tok ⟨K, false, s.at_, s.at_ + 1, ⟨#[]⟩⟩ (H.out.keep B2.out K2.out (Nat.le_succ n)) (KeepB.t K2.out) (fun k hf => ⟨Nat.lt_of_lt_of_le hf.1 K2.out.size, hf.2⟩) (fun h8 => absurd (HW.out.symm.trans h8) (by decide)) _ _ rfl rfl).drew⟩
set_option maxHeartbeats 8000000 in
set_option maxRecDepth 100000 in
theorem begin_mark {W : World} {b : Nat} {s : St SS} {p : LP} {tx : Value} {n : Nat} (h : Lx W b s p tx n) (hw : s.within = 0) (hn : s.at_ ≤ 1000000) (c : Int) (k0 : 0 ≤ c) (k1 : c < 256) (hK : kindOf c = 8) :
    Calls Tryd.prog 139 #[.pointer (some ⟨b, 0, none⟩), .int .u8 c] W fun e w' => ∃ v, e = .returned (.tuple #[v, .int .i64 (beginV sub s c).2.2]) ∧ Post W b s p (beginV sub s c).1 (n + 1) (beginV sub s c).2.1 v w' := by
  have H := Aside0.mk h
  have HK := Aside0.mk (LxPr.kind_calls c k0 k1)
  have HLT := Aside0.mk (IsB.lt h.blk)
  have E := Aside0.mk (show beginV sub s c = ({ s with within := 8, frm := s.at_, sub := { s.sub with q := q0 } }, [⟨8, true, s.at_, s.at_, ⟨#[]⟩⟩], 0) by unfold beginV; rw [if_neg (by omega), if_neg (by omega), if_pos (by omega), hK]; rfl)
  rw [hK] at HK
  clear h hK k0 k1 hw hn
  go_enter Tryd.func139, Tryd.ntmps139
  go_wp2_with (fail)
  go_at_call 162
  refine (HK.out _).mono ?_
  rintro e w2 ⟨rfl, hb⟩
  have K2 := Aside0.mk ((KeepB.refl b W).of_below (Nat.le_of_lt HLT.out) hb)
  have B2 := Aside0.mk (hb.block b HLT.out)
  clear hb
  have HB2 := Aside0.mk (H.out.blk.keep B2.out K2.out.size)
  have c0 := HB2.out.p0
  have c1 := HB2.out.p1
  have c2 := HB2.out.p2
  have d0 := HB2.out.c0
  have d1 := HB2.out.c1
  have d2 := HB2.out.c2
  have d3 := HB2.out.c3
  have d4 := HB2.out.c4
  have d5 := HB2.out.c5
  have d6 := HB2.out.c6
  have d7 := HB2.out.c7
  have d8 := HB2.out.c8
  have f1 := HB2.out.fz 1
  have f2 := HB2.out.fz 2
  have z0 := HB2.out.fz 8
  have z1 := HB2.out.fz 9
  have z2 := HB2.out.fz 10
  have z3 := HB2.out.fz 11
  have z4 := HB2.out.fz 12
  have z5 := HB2.out.fz 13
  have z6 := HB2.out.fz 14
  have z7 := HB2.out.fz 15
  have z8 := HB2.out.fz 16
  rw [H.out.at_] at c0
  go_upto_region 17 with (fail)
  generalize hw3 : World.setCell _ ⟨b, 1, none⟩ _ = w3
  have B3 := Aside0.mk (hw3 ▸ (((((((((((HB2.out.s0 0).s1 0).s2 0).s3 0).s4 0).s5 (.slice none 0 0)).s6 0).s7 0).s8 0).w2 8).w1 (s.at_ : Int)))
  have K3 := Aside0.mk (hw3 ▸ (((((((((((K2.out.set 8 (.int .i64 0)).set 9 (.int .i64 0)).set 10 (.int .u8 0)).set 11 (.int .u8 0)).set 12 (.int .i32 0)).set 13 (.slice none 0 0)).set 14 (.int .i64 0)).set 15 (.int .i64 0)).set 16 (.int .i64 0)).set 2 (.int .i64 8)).set 1 (.int .i64 (s.at_ : Int))))
  clear hw3 c0 c1 c2 d0 d1 d2 d3 d4 d5 d6 d7 d8 f1 f2 z0 z1 z2 z3 z4 z5 z6 z7 z8
  have c0 := B3.out.p0
  dsimp only at c0
  rw [H.out.at_] at c0
  refine ListedB.wp_region_listed (G := []) (by kernel_rfl) (by kernel_rfl) ?_
  go_wp2_with (fail)
  refine ListedB.fin_intro (by kernel_rfl) ?_
  go_wp2_with (fail)
  go_ret2
  rw [E.out]
  have L3 : Lx w3 b { s with within := 8, frm := s.at_, sub := { s.sub with q := q0 } } { p with within := 8, frm := (s.at_ : Int), B := W.heap.size } (.slice none 0 0) (n + 1) :=
    ⟨⟨B3.out.1, K3.out.size⟩, H.out.at_, rfl, rfl, H.out.ended, H.out.num, H.out.which, H.out.wat, own_keepB H.out.text (Nat.lt_succ_self b) K3.out, H.out.num0, H.out.num8, H.out.wa, H.out.wi, .inr (.inl rfl), GQ.mono good0 (Nat.zero_le _), Nat.le_succ_of_le H.out.len,
      fun _ => ⟨World.ownsRow_nil _ _ _ _, fun k hk => (own_lt H.out.text k hk).2⟩⟩
  exact ⟨_, rfl, (Post.tok (s := s) (p := p) ⟨8, true, s.at_, s.at_, ⟨#[]⟩⟩ L3 (KeepB.t K3.out) (fun k hf => ⟨Nat.lt_of_lt_of_le hf.1 K3.out.size, hf.2.1, hf.2.2.1, fun _ => hf.1⟩) (fun _ => rfl) _ _ rfl rfl).drew⟩
theorem numV_stay (a c : Int) (h : (numV a c).2 ≠ 0) : (numV a c).1 = a := by
  unfold numV at h ⊢
  split
  · rename_i h1; rw [if_pos h1] at h; exact absurd rfl h
  · split <;> rfl
theorem numV_two (a c : Int) : (numV a c).2 = 0 ∨ (numV a c).2 = 1 ∨ (numV a c).2 = 2 := by
  unfold numV
  repeat' split
  all_goals simp
/-- numeral.Walk.Step at a Lexer's block. -/
theorem num_at {W : World} {b : Nat} {p : LP} {a l lo hi sg : Int} {tx : Value} {le un fi : Int} (h : IsB W b p a l lo hi sg tx le un fi) (c : Int) (r0 : 0 ≤ p.num) (r1 : p.num ≤ 8) :
    Calls Tryd.prog 138 #[.pointer (some ⟨b, 5, none⟩), .int .u8 c] W fun e w' => e = .returned (.int .i64 (numV p.num c).2) ∧ IsB w' b { p with num := (numV p.num c).1 } a l lo hi sg tx le un fi ∧ KeepB b W w' := by
  refine (num_calls b p.num c W h.p5 (h.fz 5) r0 r1).mono ?_
  rintro e w' ⟨rfl, rfl⟩
  refine ⟨rfl, ?_⟩
  split
  · exact ⟨h.w5 _, (KeepB.refl b W).set 5 _⟩
  · rename_i hne
    exact ⟨h.same (by rw [numV_stay _ _ hne]), KeepB.refl b W⟩
set_option maxHeartbeats 8000000 in
set_option maxRecDepth 100000 in
theorem begin_num {W : World} {b : Nat} {s : St SS} {p : LP} {tx : Value} {n : Nat} (h : Lx W b s p tx n) (hw : s.within = 0) (hn : n ≤ 1000000) (c : Int) (k0 : 0 ≤ c) (k1 : c < 256) (hK : kindOf c = 9) :
    Calls Tryd.prog 139 #[.pointer (some ⟨b, 0, none⟩), .int .u8 c] W fun e w' => ∃ v, e = .returned (.tuple #[v, .int .i64 (beginV sub s c).2.2]) ∧ Post W b s p (beginV sub s c).1 (n + 1) (beginV sub s c).2.1 v w' := by
  have H := Aside0.mk h
  have HK := Aside0.mk (LxPr.kind_calls c k0 k1)
  have HLT := Aside0.mk (IsB.lt h.blk)
  have E := Aside0.mk (show beginV sub s c = ({ s with within := 9, frm := s.at_, sub := { s.sub with num := (numV 0 c).1, text := [c.toNat.toUInt8] } }, [⟨9, true, s.at_, s.at_, ⟨#[]⟩⟩], 0) by unfold beginV; rw [if_neg (by omega), if_neg (by omega), if_pos (by omega), hK]; rfl)
  have HC := Aside0.mk (And.intro k0 k1)
  obtain ⟨i0, hi, hz0, hz1, hz2⟩ := info_parts Tryd.lxinfo5
  rw [hK] at HK
  clear h hK k0 k1 hw hn
  go_enter Tryd.func139, Tryd.ntmps139
  go_wp2_with (fail)
  go_at_call 162
  refine (HK.out _).mono ?_
  rintro e w2 ⟨rfl, hb⟩
  have K2 := Aside0.mk ((KeepB.refl b W).of_below (Nat.le_of_lt HLT.out) hb)
  have B2 := Aside0.mk (hb.block b HLT.out)
  clear hb
  have HB2 := Aside0.mk (H.out.blk.keep B2.out K2.out.size)
  have HO2 := Aside0.mk (own_keepB H.out.text (Nat.lt_succ_self b) K2.out)
  obtain ⟨ao, cap, hpt⟩ := LxQ.own_slice HO2.out
  have HP := Aside0.mk hpt
  have c4 := HB2.out.p4
  have c5 := HB2.out.p5
  have f4 := HB2.out.fz 4
  have f5 := HB2.out.fz 5
  rw [hpt] at c4
  clear hpt
  have HO3 : Aside0 (w2.ownsRow (b + 1) 5 1 (.slice ao 0 cap) 0 []) := ⟨own_cut0 (by have := HO2.out; rw [HP.out] at this; exact this)⟩
  go_wp2_with (at_builtin; refine wpList_append_own_at _ rfl _ _ 32 rfl (b + 1) 5 i0 (.int .u8 0) 1 1 Tryd.underlying32 hi hz0 hz1 hz2 rfl (by decide) _ _ _ rfl (HO3.out.alloc _) ⟨w2.heap.size, 0, none⟩ 1 1 [.int .u8 c] rfl rfl (lit_cells _ _) ?c2 ?c3 ?c4 ?c5 ?_)
  case c2 => intro u hu; simp at hu; subst hu; rfl
  case c3 => unfold maxLen; omega
  case c4 => omega
  case c5 => have := HB2.out.lt; simp; omega
  intro v' w3 hown' hgrow _ hat
  have HV : Aside0 (∀ k, p.text.ownBlock = some k → b < k) := ⟨fun k hk => (own_lt H.out.text k hk).1⟩
  have hvb : (Value.slice ao 0 cap).ownBlock = p.text.ownBlock := by rw [HP.out]; cases ao <;> rfl
  have hvk : ∀ k, (Value.slice ao 0 cap).ownBlock = some k → b < k := by rw [hvb]; exact HV.out
  have KT := Aside0.mk ((KeepB.t K2.out).trans (hvb ▸ KeepT.grown HB2.out.lt hvk hgrow))
  have HB3 := Aside0.mk (HB2.out.keep (grown_b HB2.out.lt hvk hgrow) (Nat.le_trans (by simp) hgrow.size))
  have HAT : Aside0 (v'.ownBlock = p.text.ownBlock ∨ v'.ownBlock = some (w2.heap.size + 1)) := ⟨by rw [← hvb]; simpa using hat⟩
  have HO4 : Aside0 (w3.ownsRow (b + 1) 5 1 v' 1 (Lib.byteCells [c.toNat.toUInt8])) := Aside0.mk (own_cells (acc := []) (new := [c.toNat.toUInt8]) hown' (by simp only [Lib.byteCells, List.map_cons, List.map_nil, toByte c HC.out.1 HC.out.2]) rfl)
  obtain ⟨ao', cap', rfl⟩ : ∃ ao' cap', v' = .slice ao' 1 cap' := LxQ.own_slice (t := [c.toNat.toUInt8]) HO4.out
  clear hown' hgrow hat hvb hvk c4 c5 f4 f5 HO3
  have c4 := HB3.out.p4
  have c5 := HB3.out.p5
  have f4 := HB3.out.fz 4
  have f5 := HB3.out.fz 5
  go_wp2_with (fail)
  generalize hw4 : World.setCell _ ⟨b, 4, none⟩ _ = w4
  have B4 := Aside0.mk (hw4 ▸ (HB3.out.w5 0).w4 (.slice ao' 1 cap'))
  have KB4 := Aside0.mk (hw4 ▸ (((KeepB.refl b w3).set 5 (.int .i64 0)).set 4 (.slice ao' 1 cap')))
  have HN := Aside0.mk (num_at B4.out c (Int.le_refl 0) (show (0 : Int) ≤ 8 by decide))
  clear hw4 c4 c5 f4 f5
  go_at_call 138
  refine HN.out.mono ?_
  rintro e w5 ⟨rfl, hb5, hk5⟩
  have HB5 := Aside0.mk hb5
  have KB5 := Aside0.mk (KB4.out.trans hk5)
  clear hb5 hk5 HN
  have c0 := HB5.out.p0
  dsimp only at c0
  rw [H.out.at_] at c0
  have c1 := HB5.out.p1
  have c2 := HB5.out.p2
  have f1 := HB5.out.fz 1
  have f2 := HB5.out.fz 2
  go_upto_region 17 with (fail)
  generalize hw6 : World.setCell _ ⟨b, 1, none⟩ _ = w6
  have B6 := Aside0.mk (hw6 ▸ (HB5.out.w2 9).w1 (s.at_ : Int))
  have KB6 := Aside0.mk (hw6 ▸ (((KeepB.refl b w5).set 2 (.int .i64 9)).set 1 (.int .i64 (s.at_ : Int))))
  clear hw6 c0 c1 c2 f1 f2
  have c0 := B6.out.p0
  dsimp only at c0
  rw [H.out.at_] at c0
  refine ListedB.wp_region_listed (G := []) (by kernel_rfl) (by kernel_rfl) ?_
  go_wp2_with (fail)
  refine ListedB.fin_intro (by kernel_rfl) ?_
  go_wp2_with (fail)
  go_ret2
  rw [E.out]
  have HO6 := Aside0.mk (own_keepB HO4.out (Nat.lt_succ_self b) (KB5.out.trans KB6.out))
  have KT6 := Aside0.mk (KT.out.trans (KeepB.t (KB5.out.trans KB6.out)))
  have hnr := numV_range 0 c (Int.le_refl 0) (by decide)
  have L3 : Lx w6 b { s with within := 9, frm := s.at_, sub := { s.sub with num := (numV 0 c).1, text := [c.toNat.toUInt8] } } { p with within := 9, frm := (s.at_ : Int), num := (numV 0 c).1, text := .slice ao' 1 cap' } tx (n + 1) :=
    ⟨B6.out, H.out.at_, rfl, rfl, H.out.ended, rfl, H.out.which, H.out.wat, HO6.out, hnr.1, hnr.2, H.out.wa, H.out.wi, .inr (.inr (.inl rfl)), GQ.mono H.out.good (Nat.le_succ n), by simp,
      fun h8 => absurd h8 (by simp)⟩
  refine ⟨_, rfl, (Post.tok (s := s) (p := p) ⟨9, true, s.at_, s.at_, ⟨#[]⟩⟩ L3 KT6.out (fun k hf => ⟨Nat.lt_of_lt_of_le hf.1 KT6.out.size, hf.2.1, fun e => ?_, fun h8 => absurd h8 (by simp)⟩) (fun h8 => absurd h8 (by simp)) _ _ rfl rfl).drew⟩
  rcases HAT.out with h1 | h1
  · exact hf.2.2.1 (h1.symm.trans e)
  · have h2 : w2.heap.size + 1 = k := Option.some.inj (h1.symm.trans e)
    have h3 := K2.out.size
    have h4 := hf.1
    omega
/-- literal.Walk.Step at a Lexer's block. -/
theorem lit_at {W : World} {b : Nat} {p : LP} {a l lo hi sg : Int} {tx : Value} {le un fi : Int} (h : IsB W b p a l lo hi sg tx le un fi) (hT : Tab W) (x i : Nat) (c : Int) (e0 : p.which = (x : Int)) (e1 : p.wat = (i : Int)) (ha : x < 3) (hwi : i ≤ (word x).size) :
    Calls Tryd.prog 136 #[.pointer (some ⟨b, 6, none⟩), .int .u8 c] W fun e w' => e = .returned (.int .i64 (stepF x i c).1) ∧ IsB w' b { p with which := ((stepF x i c).2.1 : Int), wat := ((stepF x i c).2.2 : Int) } a l lo hi sg tx le un fi ∧ KeepB b W w' := by
  refine (lit_calls b x i c W hT (by rw [h.p6, e0]) (by rw [h.p7, e1]) (h.fz 6) (h.fz 7) ha hwi).mono ?_
  rintro e w' ⟨rfl, rfl⟩
  refine ⟨rfl, ?_⟩
  unfold litW
  split
  · rename_i h2
    refine ⟨h.same ?_, KeepB.refl b W⟩
    have : (stepF x i c).2.1 = x ∧ (stepF x i c).2.2 = i := by
      unfold stepF at h2 ⊢
      by_cases hi0 : i = 0
      · rw [if_pos hi0] at h2 ⊢
        repeat' split at h2
        all_goals first | (simp at h2; done) | skip
        rename_i g1 g2 g3
        rw [if_neg g1, if_neg g2, if_neg g3]
        exact ⟨rfl, hi0.symm⟩
      · rw [if_neg hi0] at h2 ⊢
        by_cases h3 : i = (word x).size
        · rw [if_pos h3]; exact ⟨rfl, rfl⟩
        · rw [if_neg h3] at h2 ⊢
          by_cases h4 : bt (word x) i ≠ c
          · rw [if_pos h4]; exact ⟨rfl, rfl⟩
          · rw [if_neg h4] at h2
            split at h2 <;> simp at h2
    rw [this.1, this.2, ← e0, ← e1]
  · rename_i h2
    split
    · rename_i h3
      have : (stepF x i c).2.2 = 1 := by
        unfold stepF at h2 ⊢
        rw [if_pos h3] at h2 ⊢
        repeat' split at h2
        all_goals first | (simp at h2; done) | skip
        · rename_i g1; rw [if_pos g1]
        · rename_i g1 g2; rw [if_neg g1, if_pos g2]
        · rename_i g1 g2 g3; rw [if_neg g1, if_neg g2, if_pos g3]
      rw [this]
      exact ⟨(h.w6 _).w7 1, ((KeepB.refl b W).set 6 _).set 7 _⟩
    · rename_i h3
      have : (stepF x i c).2.2 = i + 1 ∧ (stepF x i c).2.1 = x := by
        unfold stepF at h2 ⊢
        rw [if_neg h3] at h2 ⊢
        by_cases h4 : i = (word x).size
        · rw [if_pos h4] at h2; simp at h2
        · rw [if_neg h4] at h2 ⊢
          by_cases h5 : bt (word x) i ≠ c
          · rw [if_pos h5] at h2; simp at h2
          · rw [if_neg h5]
            split <;> exact ⟨rfl, rfl⟩
      rw [this.1, this.2, ← e0]
      exact ⟨(h.w7 ((i : Int) + 1)).same rfl, (KeepB.refl b W).set 7 _⟩
set_option maxHeartbeats 8000000 in
set_option maxRecDepth 100000 in
theorem begin_lit {W : World} {b : Nat} {s : St SS} {p : LP} {tx : Value} {n : Nat} (h : Lx W b s p tx n) (hw : s.within = 0) (hT : Tab W) (hb0 : 0 < b) (c : Int) (k0 : 0 ≤ c) (k1 : c < 256) (hK : kindOf c = 10) :
    Calls Tryd.prog 139 #[.pointer (some ⟨b, 0, none⟩), .int .u8 c] W fun e w' => ∃ v, e = .returned (.tuple #[v, .int .i64 (beginV sub s c).2.2]) ∧ Post W b s p (beginV sub s c).1 (n + 1) (beginV sub s c).2.1 v w' := by
  have H := Aside0.mk h
  have HT := Aside0.mk hT
  have HB0 := Aside0.mk hb0
  have HK := Aside0.mk (LxPr.kind_calls c k0 k1)
  have HLT := Aside0.mk (IsB.lt h.blk)
  have E := Aside0.mk (show beginV sub s c = ({ s with within := 10, frm := s.at_, sub := { s.sub with wa := (stepF 0 0 c).2.1, wi := (stepF 0 0 c).2.2 } }, [⟨10, true, s.at_, s.at_, ⟨#[]⟩⟩], 0) by unfold beginV; rw [if_neg (by omega), if_neg (by omega), if_pos (by omega), hK]; rfl)
  rw [hK] at HK
  clear h hK k0 k1 hw hT hb0
  go_enter Tryd.func139, Tryd.ntmps139
  go_wp2_with (fail)
  go_at_call 162
  refine (HK.out _).mono ?_
  rintro e w2 ⟨rfl, hb⟩
  have K2 := Aside0.mk ((KeepB.refl b W).of_below (Nat.le_of_lt HLT.out) hb)
  have B2 := Aside0.mk (hb.block b HLT.out)
  clear hb
  have HB2 := Aside0.mk (H.out.blk.keep B2.out K2.out.size)
  have c6 := HB2.out.p6
  have c7 := HB2.out.p7
  have f6 := HB2.out.fz 6
  have f7 := HB2.out.fz 7
  go_wp2_with (fail)
  generalize hw4 : World.setCell _ ⟨b, 7, none⟩ _ = w4
  have B4 := Aside0.mk (hw4 ▸ (HB2.out.w6 0).w7 0)
  have KB4 := Aside0.mk (hw4 ▸ ((K2.out.set 6 (.int .i64 0)).set 7 (.int .i64 0)))
  have HN := Aside0.mk (lit_at B4.out (Tab.keep HT.out KB4.out.below HB0.out) 0 0 c rfl rfl (by decide) (Nat.zero_le _))
  clear hw4 c6 c7 f6 f7
  go_at_call 136
  refine HN.out.mono ?_
  rintro e w5 ⟨rfl, hb5, hk5⟩
  have HB5 := Aside0.mk hb5
  have KB5 := Aside0.mk (KB4.out.trans hk5)
  clear hb5 hk5 HN
  have c0 := HB5.out.p0
  dsimp only at c0
  rw [H.out.at_] at c0
  have c1 := HB5.out.p1
  have c2 := HB5.out.p2
  have f1 := HB5.out.fz 1
  have f2 := HB5.out.fz 2
  go_upto_region 17 with (fail)
  generalize hw6 : World.setCell _ ⟨b, 1, none⟩ _ = w6
  have B6 := Aside0.mk (hw6 ▸ (HB5.out.w2 10).w1 (s.at_ : Int))
  have KB6 := Aside0.mk (hw6 ▸ (((KeepB.refl b w5).set 2 (.int .i64 10)).set 1 (.int .i64 (s.at_ : Int))))
  clear hw6 c0 c1 c2 f1 f2
  have c0 := B6.out.p0
  dsimp only at c0
  rw [H.out.at_] at c0
  refine ListedB.wp_region_listed (G := []) (by kernel_rfl) (by kernel_rfl) ?_
  go_wp2_with (fail)
  refine ListedB.fin_intro (by kernel_rfl) ?_
  go_wp2_with (fail)
  go_ret2
  rw [E.out]
  have K6 := Aside0.mk (KB5.out.trans KB6.out)
  have hok := stepF_ok 0 0 c (by decide) (Nat.zero_le _)
  have L3 : Lx w6 b { s with within := 10, frm := s.at_, sub := { s.sub with wa := (stepF 0 0 c).2.1, wi := (stepF 0 0 c).2.2 } } { p with within := 10, frm := (s.at_ : Int), which := ((stepF 0 0 c).2.1 : Int), wat := ((stepF 0 0 c).2.2 : Int) } tx (n + 1) :=
    ⟨B6.out, H.out.at_, rfl, rfl, H.out.ended, H.out.num, rfl, rfl, own_keepB H.out.text (Nat.lt_succ_self b) K6.out, H.out.num0, H.out.num8, hok.1, hok.2.1, .inr (.inr (.inr rfl)), GQ.mono H.out.good (Nat.le_succ n), Nat.le_succ_of_le H.out.len,
      fun h8 => absurd h8 (by simp)⟩
  exact ⟨_, rfl, (Post.tok (s := s) (p := p) ⟨10, true, s.at_, s.at_, ⟨#[]⟩⟩ L3 (KeepB.t K6.out) (fun k hf => ⟨Nat.lt_of_lt_of_le hf.1 K6.out.size, hf.2.1, hf.2.2.1, fun h8 => absurd h8 (by simp)⟩) (fun h8 => absurd h8 (by simp)) _ _ rfl rfl).drew⟩
/-- One byte outside of tokens. -/
theorem begin_calls {W : World} {b : Nat} {s : St SS} {p : LP} {tx : Value} {n : Nat} (h : Lx W b s p tx n) (hw : s.within = 0) (hT : Tab W) (hb0 : 0 < b) (hn : n ≤ 1000000) (hn2 : s.at_ ≤ 1000000) (c : Int) (k0 : 0 ≤ c) (k1 : c < 256) :
    Calls Tryd.prog 139 #[.pointer (some ⟨b, 0, none⟩), .int .u8 c] W fun e w' => ∃ v, e = .returned (.tuple #[v, .int .i64 (beginV sub s c).2.2]) ∧ Post W b s p (beginV sub s c).1 (n + 1) (beginV sub s c).2.1 v w' := by
  have hr := kindOf_range c
  by_cases a0 : kindOf c = 0
  · exact begin_none h c k0 k1 a0
  by_cases a1 : kindOf c = 1
  · exact begin_blank h c k0 k1 a1
  by_cases a2 : kindOf c = 8
  · exact begin_mark h hw hn2 c k0 k1 a2
  by_cases a3 : kindOf c = 9
  · exact begin_num h hw hn c k0 k1 a3
  by_cases a4 : kindOf c = 10
  · exact begin_lit h hw hT hb0 c k0 k1 a4
  exact begin_one h hw hn2 c k0 k1 _ rfl (by omega) (by omega)
end Go.Proofs.YtlhpflicchchlaaDoor.LxA
