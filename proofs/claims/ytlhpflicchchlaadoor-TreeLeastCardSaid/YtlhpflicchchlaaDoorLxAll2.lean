/- lex.All, walked. Conditions: at most 2000 bytes. -/
import Derived.Test.YtlhpflicchchlaaDoorLxAll
namespace Go.Proofs.YtlhpflicchchlaaDoor.LxA
open Go.RowKit Go.Proofs.YtlhpflicchchlaaDoorW.PrintWords Go.Proofs.YtlhpflicchchlaaDoorW.PrintLast Go.Proofs.YtlhpflicchchlaaDoorW.PrintMore
attribute [local go_sem] max2_int min2_int max_two min_two max_three min_three max_four min_four
open Go.Proofs.YtlhpflicchchlaaDoor.LexPure Go.Proofs.YtlhpflicchchlaaDoor.LxQ Go.Proofs.YtlhpflicchchlaaDoor.LxN
set_option linter.unusedVariables false
set_option linter.unusedSimpArgs false
theorem ver_cells {W : World} {g : Nat} {k a : Int} (h : W.heap[g]? = some (.cells #[.int .i64 k, .int .i64 a] 35 (0, 0))) : W.cell? ⟨g, 0, none⟩ = some (.int .i64 k) ∧ W.cell? ⟨g, 1, none⟩ = some (.int .i64 a) := ⟨(blk_cell h 0).trans rfl, (blk_cell h 1).trans rfl⟩
theorem ver_put {W : World} {g : Nat} {k a : Int} (h : W.heap[g]? = some (.cells #[.int .i64 k, .int .i64 a] 35 (0, 0))) (k' a' : Int) : ((W.setCell ⟨g, 0, none⟩ (.int .i64 k')).setCell ⟨g, 1, none⟩ (.int .i64 a')).heap[g]? = some (.cells #[.int .i64 k', .int .i64 a'] 35 (0, 0)) := by
  have h1 := blk_set h 0 (.int .i64 k')
  have h2 := blk_set h1 1 (.int .i64 a')
  simpa using h2
/-- What is given back. -/
theorem fin_all {W w4 : World} {g bl : Nat} {v : Value} {T : List Tk} {k0 a0 : Int} (hv : w4.heap[g]? = some (.cells #[.int .i64 k0, .int .i64 a0] 35 (0, 0))) (hg : W.heap.size ≤ g) (hgb : g < bl) (hb : Below W.heap.size W w4) (hrow : w4.ownsRow (bl + 1) 39 5 v T.length (T.flatMap tkCells)) (k a : Int) :
    Below W.heap.size W ((w4.setCell ⟨g, 0, none⟩ (.int .i64 k)).setCell ⟨g, 1, none⟩ (.int .i64 a)) ∧ ((w4.setCell ⟨g, 0, none⟩ (.int .i64 k)).setCell ⟨g, 1, none⟩ (.int .i64 a)).ownsRow W.heap.size 39 5 v T.length (T.flatMap tkCells) := by
  refine ⟨(hb.setCell (p := ⟨g, 0, none⟩) hg _).setCell (p := ⟨g, 1, none⟩) hg _, own_base (own_more hrow fun j hj => ?_) (fun j hj => ?_)⟩
  · have := (own_lt hrow j hj).1
    rw [Below.heap_setCell _ _ _ _ (fun e => by simp at e; omega), Below.heap_setCell _ _ _ _ (fun e => by simp at e; omega)]
  · have := (own_lt (own_more hrow fun j hj => by
      have := (own_lt hrow j hj).1
      rw [Below.heap_setCell _ _ _ _ (fun e => by simp at e; omega), Below.heap_setCell _ _ _ _ (fun e => by simp at e; omega)] : ((w4.setCell ⟨g, 0, none⟩ (.int .i64 k)).setCell ⟨g, 1, none⟩ (.int .i64 a)).ownsRow (bl + 1) 39 5 v T.length (T.flatMap tkCells)) j hj).1
    omega
set_option maxHeartbeats 32000000 in
set_option maxRecDepth 100000 in
theorem all_calls (A : Option Addr) (n cp : Nat) (zs : List Int) (W : World) (hr : ReadsOf (Value.int .u8) 0 W A n zs) (hz : ∀ z ∈ zs, 0 ≤ z ∧ z < 256) (hn : n ≤ 2000) (hT : Tab W) :
    Calls Tryd.prog 20 #[.slice A n cp] W fun e w' => ∃ v, e = .returned (.tuple #[v, .agg #[.int .i64 (allV sub zs s0).2.1, .int .i64 ((allV sub zs s0).2.2 : Int)]]) ∧ Below W.heap.size W w' ∧ w'.ownsRow W.heap.size 39 5 v (allV sub zs s0).1.length ((allV sub zs s0).1.flatMap tkCells) := by
  have HR := Aside0.mk hr
  have HZ := Aside0.mk hz
  have HN := Aside0.mk hn
  have HT := Aside0.mk hT
  have HLZ := Aside0.mk hr.1
  clear hr hz hn hT
  go_enter Tryd.func20, Tryd.ntmps20
  go_wp2_with (fail)
  refine scope_from 0 (fun a' w' => ∃ (g bl i : Nat) (st : St SS) (p : LP) (tx vo : Value) (toks : List Tk) (u1 u7 u8 u9 u10 u11 u12 u13 u14 u15 u16 u17 u18 u19 u20 u21 u22 u23 u24 u25 u26 u27 u28 u29 u30 u31 u32 u33 u34 u35 u36 u37 u38 u39 u40 u41 u42 u43 u44 u45 u46 u47 u48 : Value),
    a' = { tmps := #[.slice A n cp, u1, .slice none 0 0, .pointer (some ⟨g, 0, none⟩), .pointer (some ⟨bl, 0, none⟩), vo, .int .i64 (i : Int), u7, u8, u9, u10, u11, u12, u13, u14, u15, u16, u17, u18, u19, u20, u21, u22, u23, u24, u25, u26, u27, u28, u29, u30, u31, u32, u33, u34, u35, u36, u37, u38, u39, u40, u41, u42, u43, u44, u45, u46, u47, u48], defers := [] } ∧ Aside0 (Run W w' g bl zs i st p tx vo toks)) (fun a' _ => n - (intOf (a'.tmps.getD 6 undef)).toNat) rfl ?_ ?_
  · rintro a' w ⟨g, bl, i, st, p, tx, vo, toks, u1, u7, u8, u9, u10, u11, u12, u13, u14, u15, u16, u17, u18, u19, u20, u21, u22, u23, u24, u25, u26, u27, u28, u29, u30, u31, u32, u33, u34, u35, u36, u37, u38, u39, u40, u41, u42, u43, u44, u45, u46, u47, u48, rfl, RUN⟩
    by_cases hi : i < n
    · obtain ⟨x, hx⟩ : ∃ x : Int, x = (i : Int) := ⟨_, rfl⟩
      have p1 : 0 ≤ x := by omega
      have q1 : x < (n : Int) := by omega
      obtain ⟨ad, rfl, hcell⟩ := (HR.out.below RUN.out.bel).at_ x p1 q1
      obtain ⟨z, hzz⟩ : ∃ z, z = rdOf 0 zs x := ⟨_, rfl⟩
      rw [← hzz] at hcell
      have hl : i < zs.length := by rw [HLZ.out]; exact hi
      have hzi : zs[i]? = some z := by rw [hzz, hx]; unfold rdOf; rw [Int.toNat_natCast, List.getD_eq_getElem?_getD, List.getElem?_eq_getElem hl]; rfl
      have hz1 : 0 ≤ z ∧ z < 256 := HZ.out z (List.mem_of_getElem? hzi)
      have HZI := Aside0.mk hzi
      have hat := RUN.out.at_
      have HS := Aside0.mk (step_calls RUN.out.lx (Tab.below HT.out (RUN.out.bel) HT.out.1) (by have := RUN.out.gb; omega) (by have := HN.out; omega) (by have := HN.out; omega) z hz1.1 hz1.2)
      have q2 : decide (x < (n : Int)) = true := decide_eq_true q1
      have w1 : wrap64 (x + 1) = x + 1 := by have := HN.out; unfold wrap64; omega
      have HX := Aside0.mk hx
      have HI := Aside0.mk hi
      rw [← hx]
      clear hzz hzi hz1 hat hl hx hi
      replace p1 := eq_true p1
      replace q1 := eq_true q1
      go_wp2_with (fail)
      go_at_call 56
      refine HS.out.mono ?_
      rintro e w3 ⟨v, rfl, hP0, hP1⟩
      have HP0 := Aside0.mk hP0
      have HP1 := Aside0.mk hP1
      clear hP0 hP1 HS hcell p1 q1 q2
      by_cases hr : (lookV sub st z).2.2 = 0
      · have HR0 := Aside0.mk hr
        have POST := Aside0.mk (HP0.out hr)
        obtain ⟨p', tx', h1, h2, h3, h4, h5, h6⟩ := POST.out
        have ROW3 : Aside0 (w3.ownsRow (bl + 1) 39 5 vo toks.length (toks.flatMap tkCells)) := ⟨own_more RUN.out.row (fun k hk => (h3 k (RUN.out.rowF k hk)).1)⟩
        have LEN : Aside0 (toks.length + (lookV sub st z).2.1.length ≤ 1000000) := ⟨by have := lookV_len st z; have := RUN.out.len; have := HN.out; have := HI.out; omega⟩
        have LTB : Aside0 (bl + 1 ≤ w3.heap.size) := ⟨h1.blk.lt⟩
        have H4 := Aside0.mk h4
        have H6 := Aside0.mk h6
        rw [hr]
        clear h1 h2 h3 h4 h5 h6 hr HP0 HP1
        go_wp2_with (at_builtin; refine wpList_tok_append rfl _ _ rfl (bl + 1) w.heap.size vo v toks (lookV sub st z).2.1 rfl rfl ROW3.out H4.out H6.out LEN.out LTB.out ?_)
        intro v' w4 hrow hg hat hnil
        rw [← List.length_append, ← List.flatMap_append] at hrow
        obtain ⟨p2, tx2, hnx⟩ := Run.next RUN.out HZI.out HR0.out POST.out hrow hg hat hnil
        have NX := Aside0.mk hnx
        clear hrow hg hat hnil hnx
        go_wp2_with (fail)
        go_step3
        have hxi : x + 1 = ((i + 1 : Nat) : Int) := by have := HX.out; omega
        rw [hxi]
        refine ⟨rfl, ⟨g, bl, i + 1, _, p2, tx2, v', _, _, _, _, _, _, _, _, _, _, _, _, _, _, _, _, _, _, _, _, _, _, _, _, _, _, _, _, _, _, _, _, _, _, _, _, _, _, _, _, _, _, _, _, rfl, NX⟩, ?_⟩
        show n - (((i + 1 : Nat) : Int)).toNat < n - x.toNat
        have := HX.out
        have := HI.out
        omega
      · have HR0 := Aside0.mk hr
        have POST := Aside0.mk (HP1.out hr)
        obtain ⟨h1, h2, h3, h4, h5⟩ := POST.out
        have ROW3 : Aside0 (w3.ownsRow (bl + 1) 39 5 vo toks.length (toks.flatMap tkCells)) := ⟨own_more RUN.out.row (fun k hk => h3 k (RUN.out.rowF k hk))⟩
        have LEN : Aside0 (toks.length + (lookV sub st z).2.1.length ≤ 1000000) := ⟨by have := lookV_len st z; have := RUN.out.len; have := HN.out; have := HI.out; omega⟩
        have LTB : Aside0 (bl + 1 ≤ w3.heap.size) := ⟨Nat.le_trans RUN.out.lx.blk.lt h2.size⟩
        have H4 := Aside0.mk h4
        have H5 := Aside0.mk h5
        have EA : (allV sub zs s0).1 = toks ++ (lookV sub st z).2.1 ∧ (allV sub zs s0).2.1 = (lookV sub st z).2.2 ∧ (((allV sub zs s0).2.2 : Nat) : Int) = (st.at_ : Int) := by
          have e1 := RUN.out.got
          have e2 := RUN.out.ver2
          rw [drop_at HZI.out, allV_off hr] at e1 e2
          exact ⟨e1.symm, by rw [← e2], by rw [← e2]⟩
        have EA := Aside0.mk EA
        obtain ⟨r, hrr⟩ : ∃ r, (lookV sub st z).2.2 = r := ⟨_, rfl⟩
        rw [hrr] at EA hr ⊢
        have g1 : (r != 0) = true := by simp [hr]
        have g2 : decide (r = 0) = false := by simp [hr]
        have g3 : (r == 0) = false := by simp [hr]
        clear h1 h2 h3 h4 h5 hr HP0 HP1 hrr w1
        go_wp2_with (at_builtin; refine wpList_tok_append rfl _ _ rfl (bl + 1) w.heap.size vo v toks (lookV sub st z).2.1 rfl rfl ROW3.out H4.out H5.out LEN.out LTB.out ?_)
        intro v' w4 hrow hg hat hnil
        rw [← List.length_append, ← List.flatMap_append] at hrow
        have hblk : vo.ownBlock ≠ some bl := fun e => (RUN.out.rowF bl e).2.1 rfl
        have hgk : vo.ownBlock ≠ some g := fun e => by have := (own_lt RUN.out.row g e).1; have := RUN.out.gb; omega
        have VER : Aside0 (w4.heap[g]? = some (.cells #[.int .i64 0, .int .i64 0] 35 (0, 0))) := ⟨(hg.block g (by have := LTB.out; have := RUN.out.gb; omega) (fun e => hgk e.symm)).trans ((POST.out.2.2.1 g RUN.out.verF).trans RUN.out.ver)⟩
        have BEL : Aside0 (Below W.heap.size W w4) := ⟨(RUN.out.bel.trans (POST.out.2.1.mono (by have := RUN.out.g0; have := RUN.out.gb; omega))).grown hg (Nat.le_trans RUN.out.bel.size POST.out.2.1.size) (fun k hk => by have := (own_lt RUN.out.row k hk).1; have := RUN.out.g0; have := RUN.out.gb; omega)⟩
        have C4 : Aside0 (w4.cell? ⟨bl, 0, none⟩ = some (.int .i64 (st.at_ : Int))) := ⟨(World.cell?_of_block (a := ⟨bl, 0, none⟩) (hg.block bl (by have := LTB.out; show bl < _; omega) (fun e => hblk e.symm))).trans POST.out.1⟩
        have ROW4 := Aside0.mk hrow
        clear hrow hg hat hnil hblk hgk
        go_wp2_with (fail)
        go_at_call 57
        refine (at_calls C4.out).mono ?_
        rintro e w5 ⟨rfl, rfl⟩
        obtain ⟨x0, x1⟩ := ver_cells VER.out
        have z0 := blk_frozen VER.out 0
        have z1 := blk_frozen VER.out 1
        go_wp2_with (fail)
        simp only [Exit.jump]
        refine bodyPost_ret (results_tc rfl _ _ g 35 #[.int .i64 r, .int .i64 (st.at_ : Int)] (0, 0) _ rfl (ver_put VER.out r (st.at_ : Int)) Tryd.underlying35 rfl (by kernel_rfl)) rfl ?_
        have hf := fin_all VER.out RUN.out.g0 RUN.out.gb BEL.out ROW4.out r (st.at_ : Int)
        rw [EA.out.1, EA.out.2.1, EA.out.2.2]
        exact ⟨_, rfl, hf⟩
    · have hin : i = zs.length := by have := RUN.out.le; have := HLZ.out; omega
      have q2 : decide ((i : Int) < (n : Int)) = false := by simp; omega
      have q2n : decide (i < n) = false := by simp; omega
      have EA : Aside0 ((allV sub zs s0).1 = toks ++ (closeV st).1 ∧ (allV sub zs s0).2.1 = (closeV st).2 ∧ (((allV sub zs s0).2.2 : Nat) : Int) = (st.at_ : Int)) := ⟨by
        have e1 := RUN.out.got
        have e2 := RUN.out.ver2
        rw [List.drop_eq_nil_of_le (by omega), closeV_eq] at e1 e2
        exact ⟨e1.symm, by rw [← e2], by rw [← e2]⟩⟩
      have HS := Aside0.mk (close_calls RUN.out.lx)
      have HCL := Aside0.mk (closeV_len st)
      have LENI : Aside0 (i ≤ 2000) := ⟨by have := RUN.out.le; have := HLZ.out; have := HN.out; omega⟩
      obtain ⟨⟨more, r⟩, hcl⟩ : ∃ y, closeV st = y := ⟨_, rfl⟩
      rw [hcl] at EA HS HCL
      dsimp only at EA HS HCL
      clear hin hi hcl
      go_wp2_with (fail)
      go_at_call 58
      refine HS.out.mono ?_
      rintro e w3 ⟨v, rfl, hP⟩
      have POST := Aside0.mk hP
      obtain ⟨h1, h2, h3, h4, h5⟩ := POST.out
      have ROW3 : Aside0 (w3.ownsRow (bl + 1) 39 5 vo toks.length (toks.flatMap tkCells)) := ⟨own_more RUN.out.row (fun k hk => h3 k (RUN.out.rowF k hk))⟩
      have LEN : Aside0 (toks.length + more.length ≤ 1000000) := ⟨by have := HCL.out; have := RUN.out.len; have := LENI.out; omega⟩
      have LTB : Aside0 (bl + 1 ≤ w3.heap.size) := ⟨Nat.le_trans RUN.out.lx.blk.lt h2.size⟩
      have H4 := Aside0.mk h4
      have H5 := Aside0.mk h5
      clear h1 h2 h3 h4 h5 hP q2 q2n
      go_wp2_with (at_builtin; refine wpList_tok_append rfl _ _ rfl (bl + 1) w.heap.size vo v toks more rfl rfl ROW3.out H4.out H5.out LEN.out LTB.out ?_)
      intro v' w4 hrow hg hat hnil
      rw [← List.length_append, ← List.flatMap_append] at hrow
      have hblk : vo.ownBlock ≠ some bl := fun e => (RUN.out.rowF bl e).2.1 rfl
      have hgk : vo.ownBlock ≠ some g := fun e => by have := (own_lt RUN.out.row g e).1; have := RUN.out.gb; omega
      have VER : Aside0 (w4.heap[g]? = some (.cells #[.int .i64 0, .int .i64 0] 35 (0, 0))) := ⟨(hg.block g (by have := LTB.out; have := RUN.out.gb; omega) (fun e => hgk e.symm)).trans ((POST.out.2.2.1 g RUN.out.verF).trans RUN.out.ver)⟩
      have BEL : Aside0 (Below W.heap.size W w4) := ⟨(RUN.out.bel.trans (POST.out.2.1.mono (by have := RUN.out.g0; have := RUN.out.gb; omega))).grown hg (Nat.le_trans RUN.out.bel.size POST.out.2.1.size) (fun k hk => by have := (own_lt RUN.out.row k hk).1; have := RUN.out.g0; have := RUN.out.gb; omega)⟩
      have C4 : Aside0 (w4.cell? ⟨bl, 0, none⟩ = some (.int .i64 (st.at_ : Int))) := ⟨(World.cell?_of_block (a := ⟨bl, 0, none⟩) (hg.block bl (by have := LTB.out; show bl < _; omega) (fun e => hblk e.symm))).trans POST.out.1⟩
      have ROW4 := Aside0.mk hrow
      clear hrow hg hat hnil hblk hgk
      go_wp2_with (fail)
      go_at_call 57
      refine (at_calls C4.out).mono ?_
      rintro e w5 ⟨rfl, rfl⟩
      obtain ⟨x0, x1⟩ := ver_cells VER.out
      have z0 := blk_frozen VER.out 0
      have z1 := blk_frozen VER.out 1
      go_wp2_with (fail)
      simp only [Exit.jump]
      refine bodyPost_ret (results_tc rfl _ _ g 35 #[.int .i64 r, .int .i64 (st.at_ : Int)] (0, 0) _ rfl (ver_put VER.out r (st.at_ : Int)) Tryd.underlying35 rfl (by kernel_rfl)) rfl ?_
      have hf := fin_all VER.out RUN.out.g0 RUN.out.gb BEL.out ROW4.out r (st.at_ : Int)
      rw [EA.out.1, EA.out.2.1, EA.out.2.2]
      exact ⟨_, rfl, hf⟩
  · intro hfirst
    go_wp2_with (fail)
    go_at_call 55
    refine (new_calls _).mono ?_
    rintro e w2 ⟨rfl, hL, hB, hlt⟩
    have G1 : Aside0 (w2.heap[W.heap.size]? = some (.cells #[.int .i64 0, .int .i64 0] 35 (0, 0))) := ⟨(hB.block _ (by simp)).trans (heap_alloc_new W _)⟩
    have B1 : Aside0 (Below W.heap.size W w2) := ⟨(below_alloc (Below.refl _ _) _).trans (hB.mono (by simp))⟩
    have L1 := Aside0.mk hL
    have LT := Aside0.mk hlt
    have GB : Aside0 (W.heap.size < (World.alloc W (Obj.cells #[Value.int IntKind.i64 0, Value.int IntKind.i64 0] 35)).heap.size) := ⟨by simp⟩
    clear hL hB hlt
    generalize (World.alloc W (Obj.cells #[Value.int IntKind.i64 0, Value.int IntKind.i64 0] 35)).heap.size = bl at *
    go_wp2_with (fail)
    rename_i hK
    refine wp_label (hK _ _ (hfirst _ _ ?_))
    refine ⟨W.heap.size, bl, 0, s0, p0, _, _, [], _, _, _, _, _, _, _, _, _, _, _, _, _, _, _, _, _, _, _, _, _, _, _, _, _, _, _, _, _, _, _, _, _, _, _, _, _, _, _, _, _, _, _, rfl, ⟨⟨rfl, Nat.zero_le _, L1.out, GB.out, Nat.le_refl _, G1.out, ⟨Nat.lt_trans GB.out LT.out, Nat.ne_of_lt GB.out, by simp [p0, Value.ownBlock], fun h8 => absurd h8 (by decide)⟩, World.ownsRow_nil _ _ _ _, fun k hk => by simp [Value.ownBlock] at hk, Nat.le_refl _, B1.out, rfl, rfl⟩⟩⟩
end Go.Proofs.YtlhpflicchchlaaDoor.LxA
