/- tree.Parse, walked. Conditions: none. -/
import Derived.Test.YtlhpflicchchlaaDoorTrTh
namespace Go.Proofs.YtlhpflicchchlaaDoor.Tr
open Go.RowKit Go.Proofs.YtlhpflicchchlaaDoorW.PrintWords Go.Proofs.YtlhpflicchchlaaDoorW.PrintLast Go.Proofs.YtlhpflicchchlaaDoorW.PrintMore
attribute [local go_sem] max2_int min2_int max_two min_two max_three min_three max_four min_four
open Go.Proofs.YtlhpflicchchlaaDoor.LexPure
open Go.Proofs.YtlhpflicchchlaaDoor.Nx (Ev Stp evCells stpVal KT KeepN row_type)
set_option linter.unusedVariables false
set_option linter.unusedSimpArgs false
theorem results_cc {P : Program} {fn : Func} {p q : Tmp} {ty ty' : TypeId} (h : fn.results = #[.cell p ty, .cell q ty']) (tmps : Array Value) (w : World) (g g' : Nat) (t t' : TypeId) (cs cs' : Array Value) (fr fr' : Nat × Nat) (d d' : TypeDesc)
    (hp : tmps.getD p undef = .pointer (some ⟨g, 0, none⟩)) (hg : w.heap[g]? = some (.cells cs t fr)) (hq : tmps.getD q undef = .pointer (some ⟨g', 0, none⟩)) (hg' : w.heap[g']? = some (.cells cs' t' fr'))
    (hu : P.underlying ty = some d) (hd : (match d with | .struct _ | .array _ _ => true | _ => false) = true) (hi : (P.info? ty).map (·.size) = some cs.size)
    (hu' : P.underlying ty' = some d') (hd' : (match d' with | .struct _ | .array _ _ => true | _ => false) = true) (hi' : (P.info? ty').map (·.size) = some cs'.size) :
    (results fn tmps).run P w = .ok (.tuple #[.agg cs, .agg cs']) w := by
  have hp' : tmps[p]?.getD undef = .pointer (some ⟨g, 0, none⟩) := by simpa using hp
  have hq' : tmps[q]?.getD undef = .pointer (some ⟨g', 0, none⟩) := by simpa using hq
  simp [results, h, hp', hq', asAddr, run_loadVar_row w g t ty cs fr d hg hu hd hi, run_loadVar_row w g' t' ty' cs' fr' d' hg' hu' hd' hi']
theorem bx_new {w : World} : BxE w.heap.size (w.alloc (.cells #[.slice none 0 0, .slice none 0 0, .int .i64 0, .int .i64 0, .int .i64 0, .string ⟨#[]⟩, .slice none 0 0, .slice none 0 0, .bool false] 120)) w.heap.size ⟨[], none⟩ :=
  ⟨.slice none 0 0, .slice none 0 0, [], ⟨0, 0, 0, ⟨#[]⟩, .slice none 0 0, 0, .slice none 0 0, 0⟩, false, ⟨blk_new w _, Nat.le_refl _, World.ownsRow_nil _ _ _ _, ⟨[], World.ownsRow_nil _ _ _ _⟩, (fun v hv => by cases hv), by simp, by simp, ⟨_, _, rfl⟩, ⟨_, _, _, rfl⟩⟩, rfl, fun k hk => by cases hk⟩
set_option maxHeartbeats 16000000 in
set_option maxRecDepth 100000 in
/-- A whole text. -/
theorem parse_calls {W : World} (A : Option Addr) (n cp d : Nat) (zs : List Int) (hr : ReadsOf (Value.int .u8) 0 W A n zs) (hz : ∀ z ∈ zs, 0 ≤ z ∧ z < 256) (hn : n ≤ 2000) (hd : d ≤ 256) (hT : LxN.Tab W) :
    Calls Tryd.prog 40 #[.slice A n cp, .int .i64 (d : Int)] W fun e w' => (∃ c0 c1 c2 c3 c4 c5, e = .returned (.tuple #[.agg #[c0, c1, c2, c3, c4, c5], .agg #[.int .i64 (thr zs LxA.s0 (Nx.ns0 d)).1, .int .i64 ((thr zs LxA.s0 (Nx.ns0 d)).2 : Int)]]) ∧
      (∃ i0 i1 i2 x a q c, c0 = .int .i64 i0 ∧ c1 = .int .i64 i1 ∧ c2 = .int .i64 i2 ∧ c3 = .string x ∧ c4 = .slice a q c ∧ (∃ a' q' c', c5 = .slice a' q' c') ∧ ((thr zs LxA.s0 (Nx.ns0 d)).1 = 1 → ∀ k, (bldr zs LxA.s0 (Nx.ns0 d) ⟨[], none⟩).root = some k → q = k))) ∧ Below W.heap.size W w' := by
  have HR := Aside0.mk hr
  have HZ := Aside0.mk hz
  have HN := Aside0.mk hn
  have HD := Aside0.mk hd
  have HT := Aside0.mk hT
  clear hr hz hn hd hT
  go_enter Tryd.func40, Tryd.ntmps40
  go_upto_region 1 with (fail)
  generalize hw1 : World.alloc W _ = w1
  have s1 : w1.heap.size = W.heap.size + 1 := by subst hw1; simp
  rw [← s1]
  generalize hw2 : World.alloc w1 _ = w2
  have B1 : Below W.heap.size W w1 := by subst hw1; exact below_alloc (Below.refl _ _) _
  have B2 : Below w1.heap.size w1 w2 := by subst hw2; exact below_alloc (Below.refl _ _) _
  have T1 : w1.heap[W.heap.size]? = some (.cells #[.int .i64 0, .int .i64 0, .int .i64 0, .string ⟨#[]⟩, .slice none 0 0, .slice none 0 0] 68 (0, 0)) := by subst hw1; exact blk_new W _
  have T2 : Aside0 (w2.heap[W.heap.size]? = some (.cells #[.int .i64 0, .int .i64 0, .int .i64 0, .string ⟨#[]⟩, .slice none 0 0, .slice none 0 0] 68 (0, 0))) := ⟨(KT.of_below (p := []) B2).blk T1 (by simp)⟩
  have V2 : Aside0 (w2.heap[w1.heap.size]? = some (.cells #[.int .i64 0, .int .i64 0] 35 (0, 0))) := ⟨by subst hw2; exact blk_new w1 _⟩
  have BW2 : Aside0 (Below W.heap.size W w2) := ⟨B1.trans (B2.mono B1.size)⟩
  have s2 : w2.heap.size = w1.heap.size + 1 := by subst hw2; simp
  have HLT : Aside0 (W.heap.size < w1.heap.size ∧ w1.heap.size < w2.heap.size) := ⟨by omega⟩
  clear hw1 hw2 s1 s2 B1 B2 T1
  generalize w1.heap.size = vb at *
  obtain ⟨tb, htb⟩ : ∃ tb, tb = W.heap.size := ⟨_, rfl⟩
  rw [← htb] at T2 HLT ⊢
  have HTB := Aside0.mk htb
  clear htb
  go_upto_region 2 with (fail)
  generalize hw3 : World.alloc w2 _ = w3
  have BX3 : Aside0 (BxE w2.heap.size w3 w2.heap.size ⟨[], none⟩) := ⟨by subst hw3; exact bx_new⟩
  have B3 : Aside0 (Below w2.heap.size w2 w3) := ⟨by subst hw3; exact below_alloc (Below.refl _ _) _⟩
  have HC := Aside0.mk (thr_calls A n cp zs (HR.out.below BW2.out) HZ.out HN.out HD.out (LxN.Tab.below HT.out BW2.out HT.out.1) B3.out BX3.out)
  clear hw3 B3 BX3
  obtain ⟨k, hkk⟩ : ∃ k, k = (thr zs LxA.s0 (Nx.ns0 d)).1 := ⟨_, rfl⟩
  obtain ⟨at_, hat⟩ : ∃ a, a = (thr zs LxA.s0 (Nx.ns0 d)).2 := ⟨_, rfl⟩
  obtain ⟨S, hS⟩ : ∃ S, S = bldr zs LxA.s0 (Nx.ns0 d) ⟨[], none⟩ := ⟨_, rfl⟩
  rw [← hkk, ← hat, ← hS] at HC
  have HE := Aside0.mk (And.intro hkk (And.intro hat hS))
  clear hkk hat hS
  generalize hgb : w2.heap.size = gb at HC ⊢
  have HGB := Aside0.mk hgb
  clear hgb
  go_upto_region 3 with (go_at_call 80; refine HC.out.mono ?_; rintro e w4 ⟨rfl, h41, h42⟩; have B4 := Aside0.mk h41; have X4 := Aside0.mk h42; clear h41 h42)
  generalize hw5 : World.alloc w4 _ = w5
  have C5 : Aside0 (w5.heap[w4.heap.size]? = some (.cells #[.int .i64 k, .int .i64 (at_ : Int)] 35 (0, 0))) := ⟨by subst hw5; exact blk_new w4 _⟩
  have K5 : Aside0 (Below w4.heap.size w4 w5) := ⟨by subst hw5; exact below_alloc (Below.refl _ _) _⟩
  clear hw5
  obtain ⟨b7, hb7⟩ : ∃ b7, b7 = w4.heap.size := ⟨_, rfl⟩
  rw [← hb7] at C5 ⊢
  have H7 := Aside0.mk hb7
  clear hb7
  have HLB : Aside0 (tb < vb ∧ vb < gb ∧ gb ≤ b7) := ⟨by have := HLT.out; have := HGB.out; have := H7.out; have := B4.out.size; omega⟩
  have T5 : Aside0 (w5.heap[tb]? = some (.cells #[.int .i64 0, .int .i64 0, .int .i64 0, .string ⟨#[]⟩, .slice none 0 0, .slice none 0 0] 68 (0, 0))) := ⟨(K5.out.block tb (by have := HLB.out; have := H7.out; omega)).trans ((B4.out.block tb (by have := HLB.out; have := HGB.out; omega)).trans T2.out)⟩
  have V5 : Aside0 (w5.heap[vb]? = some (.cells #[.int .i64 0, .int .i64 0] 35 (0, 0))) := ⟨(K5.out.block vb (by have := HLB.out; have := H7.out; omega)).trans ((B4.out.block vb (by have := HLB.out; have := HGB.out; omega)).trans V2.out)⟩
  have X5 : Aside0 (BxE gb w5 gb S) := ⟨bxe_keep (HGB.out ▸ X4.out) (KT.of_below (p := []) K5.out) (by simp) (by simp) (by simp) (by simp)⟩
  have B5 : Aside0 (Below W.heap.size W w5) := ⟨BW2.out.trans ((B4.out.mono (by have := BW2.out.size; have := HGB.out; omega)).trans (K5.out.mono (Nat.le_trans BW2.out.size B4.out.size)))⟩
  clear T2 V2 X4 K5 B4 HC BW2
  have e0 : w5.cell? ⟨b7, 0, none⟩ = some (.int .i64 k) := (blk_cell C5.out 0).trans rfl
  by_cases hk : k = 1
  · have k1 : (k != 1) = false := by simp [hk]
    have k2 : decide (k = 1) = true := by simp [hk]
    have HK := Aside0.mk hk
    have k3 : (k == 1) = true := by simp [hk]
    clear hk
    obtain ⟨ov, sv, l, rt, dn, HBX, _, hroot⟩ := X5.out
    obtain ⟨rk, rf, rtl, rx, ri, rn, rm, rq⟩ := rt
    obtain ⟨ra, rc, hri⟩ := HBX.rts
    obtain ⟨ra', rn', rc', hrm⟩ := HBX.rtn
    dsimp only at hri hrm hroot
    subst hri hrm
    have GB := Aside0.mk HBX.blk
    have HRT := Aside0.mk hroot
    clear HBX hroot X5
    go_upto_region 5 with (fail)
    have C6 : Aside0 (w5.drew.heap[b7]? = some (.cells #[.int .i64 k, .int .i64 (at_ : Int)] 35 (0, 0))) := ⟨C5.out⟩
    have T6 : Aside0 (w5.drew.heap[tb]? = some (.cells #[.int .i64 0, .int .i64 0, .int .i64 0, .string ⟨#[]⟩, .slice none 0 0, .slice none 0 0] 68 (0, 0))) := ⟨T5.out⟩
    have V6 : Aside0 (w5.drew.heap[vb]? = some (.cells #[.int .i64 0, .int .i64 0] 35 (0, 0))) := ⟨V5.out⟩
    have G6 : Aside0 (w5.drew.heap[gb]? = some (.cells #[ov, sv, .int .i64 rk, .int .i64 rf, .int .i64 rtl, .string rx, .slice ra rn rc, .slice ra' rn' rc', .bool dn] 120 (0, 0))) := ⟨GB.out⟩
    have B6 : Aside0 (Below W.heap.size W w5.drew) := ⟨B5.out.drew⟩
    have CS : Aside0 (w5.drew.cell? ⟨gb, 2, none⟩ = some (.int .i64 rk) ∧ w5.drew.cell? ⟨gb, 3, none⟩ = some (.int .i64 rf) ∧ w5.drew.cell? ⟨gb, 4, none⟩ = some (.int .i64 rtl) ∧ w5.drew.cell? ⟨gb, 5, none⟩ = some (.string rx) ∧ w5.drew.cell? ⟨gb, 6, none⟩ = some (.slice ra rn rc) ∧ w5.drew.cell? ⟨gb, 7, none⟩ = some (.slice ra' rn' rc') ∧ w5.drew.cell? ⟨b7, 0, none⟩ = some (.int .i64 k) ∧ w5.drew.cell? ⟨b7, 1, none⟩ = some (.int .i64 (at_ : Int))) := ⟨(blk_cell G6.out 2).trans rfl, (blk_cell G6.out 3).trans rfl, (blk_cell G6.out 4).trans rfl, (blk_cell G6.out 5).trans rfl, (blk_cell G6.out 6).trans rfl, (blk_cell G6.out 7).trans rfl, (blk_cell C6.out 0).trans rfl, (blk_cell C6.out 1).trans rfl⟩
    clear C5 T5 V5 GB B5 e0
    refine start_ (n := 5) (S := fun w' => w'.cell? ⟨gb, 2, none⟩ = some (.int .i64 rk) ∧ w'.cell? ⟨gb, 3, none⟩ = some (.int .i64 rf) ∧ w'.cell? ⟨gb, 4, none⟩ = some (.int .i64 rtl) ∧ w'.cell? ⟨gb, 5, none⟩ = some (.string rx) ∧ w'.cell? ⟨gb, 6, none⟩ = some (.slice ra rn rc) ∧ w'.cell? ⟨gb, 7, none⟩ = some (.slice ra' rn' rc') ∧ w'.cell? ⟨b7, 0, none⟩ = some (.int .i64 k) ∧ w'.cell? ⟨b7, 1, none⟩ = some (.int .i64 (at_ : Int))) (ds := []) #[false, false, false, false, false] (by kernel_rfl) rfl rfl ⟨CS.out.1, CS.out.2.1, CS.out.2.2.1, CS.out.2.2.2.1, CS.out.2.2.2.2.1, CS.out.2.2.2.2.2.1, CS.out.2.2.2.2.2.2.1, CS.out.2.2.2.2.2.2.2⟩ (fun hHeld => ?_)
    generalize hwd_ : w5.drew = wD at CS C6 T6 V6 G6 B6 hHeld ⊢
    clear hwd_
    refine pure_ (i := 0) (N := some 16) (v := ?_) (a' := ?_) #[true, false, false, false, false] rfl rfl (by kernel_rfl) (fun _ _ _ h => h) (Or.inl ⟨by rfl, ?_⟩) ?_ ?_
    rotate_left
    · intro w'
      go_simp
      with_reducible rfl
    rotate_left
    · simp only [Act.put, List.setIfInBounds_toArray, List.set_cons_zero, List.set_cons_succ, i64_w, i32_w]
      rfl
    refine take_ (i := 1) (N := some 17) (v := ?_) (a' := ?_) #[true, true, false, false, false] rfl rfl (by kernel_rfl) (fun _ _ _ h => h) (Or.inl ⟨by rfl, ?_⟩) hHeld ?_ ?_
    rotate_left
    · rintro w' ⟨s0, s1, s2, s3, s4, s5, s6, s7⟩
      go_simp
      with_reducible rfl
    rotate_left
    · simp only [Act.put, List.setIfInBounds_toArray, List.set_cons_zero, List.set_cons_succ, i64_w, i32_w]
      rfl
    refine take_ (i := 2) (N := some 18) (v := ?_) (a' := ?_) #[true, true, true, false, false] rfl rfl (by kernel_rfl) (fun _ _ _ h => h) (Or.inl ⟨by rfl, ?_⟩) hHeld ?_ ?_
    rotate_left
    · rintro w' ⟨s0, s1, s2, s3, s4, s5, s6, s7⟩
      go_simp
      with_reducible rfl
    rotate_left
    · simp only [Act.put, List.setIfInBounds_toArray, List.set_cons_zero, List.set_cons_succ, i64_w, i32_w]
      rfl
    refine one_ (i := 3) (N := none) #[true, true, true, true, false] rfl rfl (by kernel_rfl) (by decide) (fun K hK => ?_)
    have u0 := (blk_cell T6.out 0).trans rfl
    have u1 := (blk_cell T6.out 1).trans rfl
    have u2 := (blk_cell T6.out 2).trans rfl
    have u3 := (blk_cell T6.out 3).trans rfl
    have u4 := (blk_cell T6.out 4).trans rfl
    have u5 := (blk_cell T6.out 5).trans rfl
    have y0 := blk_frozen T6.out 0
    have y1 := blk_frozen T6.out 1
    have y2 := blk_frozen T6.out 2
    have y3 := blk_frozen T6.out 3
    have y4 := blk_frozen T6.out 4
    have y5 := blk_frozen T6.out 5
    refine skip_ (w1 := ?_) (by rfl) rfl ?_ ?_
    rotate_left
    · go_simp
      rfl
    generalize hg_ : World.setCell _ ⟨tb, 5, none⟩ _ = wE
    have TE : Aside0 (wE.heap[tb]? = some (.cells #[.int .i64 rk, .int .i64 rf, .int .i64 rtl, .string rx, .slice ra rn rc, .slice ra' rn' rc'] 68 (0, 0))) := ⟨by subst hg_; exact ov_put T6.out _ _ _ _ _ _⟩
    have XE := Aside0.mk (show Six tb wD wE by subst hg_; exact (((((((Six.refl tb wD).set 0 _).set 1 _).set 2 _).set 3 _).set 4 _).set 5 _))
    have VE := Aside0.mk ((XE.out.block vb (by have := HLB.out; omega)).trans V6.out)
    clear hg_ u0 u1 u2 u3 u4 u5 y0 y1 y2 y3 y4 y5
    refine hK.out _ _ ⟨(pw_cell_six XE.out (by have := HLB.out; omega) CS.out.1), (pw_cell_six XE.out (by have := HLB.out; omega) CS.out.2.1), (pw_cell_six XE.out (by have := HLB.out; omega) CS.out.2.2.1), (pw_cell_six XE.out (by have := HLB.out; omega) CS.out.2.2.2.1), (pw_cell_six XE.out (by have := HLB.out; omega) CS.out.2.2.2.2.1), (pw_cell_six XE.out (by have := HLB.out; omega) CS.out.2.2.2.2.2.1), (pw_cell_six XE.out (by have := HLB.out; omega) CS.out.2.2.2.2.2.2.1), (pw_cell_six XE.out (by have := HLB.out; omega) CS.out.2.2.2.2.2.2.2)⟩ (fun hHeld => ?_)
    clear hK K
    refine one_ (i := 4) (N := none) #[true, true, true, true, true] rfl rfl (by kernel_rfl) (by decide) (fun K hK => ?_)
    have u0 := (blk_cell VE.out 0).trans rfl
    have u1 := (blk_cell VE.out 1).trans rfl
    have y0 := blk_frozen VE.out 0
    have y1 := blk_frozen VE.out 1
    refine skip_ (w1 := ?_) (by rfl) rfl ?_ ?_
    rotate_left
    · go_simp
      rfl
    generalize hg_ : World.setCell _ ⟨vb, 1, none⟩ _ = wF
    have XF := Aside0.mk (show Six vb wE wF by subst hg_; exact ((Six.refl vb wE).set 0 _).set 1 _)
    have VV := Aside0.mk (show wF.heap[vb]? = some (.cells #[.int .i64 k, .int .i64 (at_ : Int)] 35 (0, 0)) by subst hg_; exact LxA.ver_put VE.out _ _)
    have TT := Aside0.mk ((XF.out.block tb (by have := HLB.out; omega)).trans TE.out)
    have BB : Aside0 (Below W.heap.size W wF) := ⟨(B6.out.trans (XE.out.bel _ (by have := HTB.out; omega))).trans (XF.out.bel _ (by have := HTB.out; have := HLB.out; omega))⟩
    clear hg_ u0 u1 y0 y1
    refine hK.out _ _ ⟨(pw_cell_six XF.out (by have := HLB.out; omega) (pw_cell_six XE.out (by have := HLB.out; omega) CS.out.1)), (pw_cell_six XF.out (by have := HLB.out; omega) (pw_cell_six XE.out (by have := HLB.out; omega) CS.out.2.1)), (pw_cell_six XF.out (by have := HLB.out; omega) (pw_cell_six XE.out (by have := HLB.out; omega) CS.out.2.2.1)), (pw_cell_six XF.out (by have := HLB.out; omega) (pw_cell_six XE.out (by have := HLB.out; omega) CS.out.2.2.2.1)), (pw_cell_six XF.out (by have := HLB.out; omega) (pw_cell_six XE.out (by have := HLB.out; omega) CS.out.2.2.2.2.1)), (pw_cell_six XF.out (by have := HLB.out; omega) (pw_cell_six XE.out (by have := HLB.out; omega) CS.out.2.2.2.2.2.1)), (pw_cell_six XF.out (by have := HLB.out; omega) (pw_cell_six XE.out (by have := HLB.out; omega) CS.out.2.2.2.2.2.2.1)), (pw_cell_six XF.out (by have := HLB.out; omega) (pw_cell_six XE.out (by have := HLB.out; omega) CS.out.2.2.2.2.2.2.2))⟩ (fun hHeld => ?_)
    clear hK K
    refine done_ (by kernel_rfl) ?_
    go_wp2_with (fail)
    refine bodyPost_ret (results_cc rfl _ _ tb vb 68 35 #[.int .i64 rk, .int .i64 rf, .int .i64 rtl, .string rx, .slice ra rn rc, .slice ra' rn' rc'] #[.int .i64 k, .int .i64 (at_ : Int)] (0, 0) (0, 0) _ _ rfl TT.out rfl VV.out Tryd.underlying68 rfl (by kernel_rfl) Tryd.underlying35 rfl (by kernel_rfl)) rfl ?_
    rw [← HE.out.1, ← HE.out.2.1, ← HE.out.2.2]
    exact ⟨⟨_, _, _, _, _, _, rfl, _, _, _, _, _, _, _, rfl, rfl, rfl, rfl, rfl, ⟨_, _, _, rfl⟩, fun _ q hq => (HRT.out q hq)⟩, BB.out⟩
  · have k1 : (k != 1) = true := by simp [hk]
    have HK := Aside0.mk hk
    have k2 : decide (k = 1) = false := by simp [hk]
    have k3 : (k == 1) = false := by simp [hk]
    clear hk
    go_upto_region 4 with (fail)
    have C6 : Aside0 (w5.drew.heap[b7]? = some (.cells #[.int .i64 k, .int .i64 (at_ : Int)] 35 (0, 0))) := ⟨C5.out⟩
    have T6 : Aside0 (w5.drew.heap[tb]? = some (.cells #[.int .i64 0, .int .i64 0, .int .i64 0, .string ⟨#[]⟩, .slice none 0 0, .slice none 0 0] 68 (0, 0))) := ⟨T5.out⟩
    have V6 : Aside0 (w5.drew.heap[vb]? = some (.cells #[.int .i64 0, .int .i64 0] 35 (0, 0))) := ⟨V5.out⟩
    have B6 : Aside0 (Below W.heap.size W w5.drew) := ⟨B5.out.drew⟩
    have CS : Aside0 (w5.drew.cell? ⟨b7, 0, none⟩ = some (.int .i64 k) ∧ w5.drew.cell? ⟨b7, 1, none⟩ = some (.int .i64 (at_ : Int))) := ⟨(blk_cell C6.out 0).trans rfl, (blk_cell C6.out 1).trans rfl⟩
    clear C5 T5 V5 B5 e0
    refine start_ (n := 4) (S := fun w' => w'.cell? ⟨b7, 0, none⟩ = some (.int .i64 k) ∧ w'.cell? ⟨b7, 1, none⟩ = some (.int .i64 (at_ : Int))) (ds := []) #[false, false, false, false] (by kernel_rfl) rfl rfl ⟨CS.out.1, CS.out.2⟩ (fun hHeld => ?_)
    generalize hwd_ : w5.drew = wD at CS C6 T6 V6 B6 hHeld ⊢
    clear hwd_
    refine pure_ (i := 0) (N := some 14) (v := ?_) (a' := ?_) #[true, false, false, false] rfl rfl (by kernel_rfl) (fun _ _ _ h => h) (Or.inl ⟨by rfl, ?_⟩) ?_ ?_
    rotate_left
    · intro w'
      go_simp
      with_reducible rfl
    rotate_left
    · simp only [Act.put, List.setIfInBounds_toArray, List.set_cons_zero, List.set_cons_succ, i64_w, i32_w]
      rfl
    refine take_ (i := 1) (N := some 15) (v := ?_) (a' := ?_) #[true, true, false, false] rfl rfl (by kernel_rfl) (fun _ _ _ h => h) (Or.inl ⟨by rfl, ?_⟩) hHeld ?_ ?_
    rotate_left
    · rintro w' ⟨s0, s1⟩
      go_simp
      with_reducible rfl
    rotate_left
    · simp only [Act.put, List.setIfInBounds_toArray, List.set_cons_zero, List.set_cons_succ, i64_w, i32_w]
      rfl
    refine one_ (i := 2) (N := none) #[true, true, true, false] rfl rfl (by kernel_rfl) (by decide) (fun K hK => ?_)
    have u0 := (blk_cell T6.out 0).trans rfl
    have u1 := (blk_cell T6.out 1).trans rfl
    have u2 := (blk_cell T6.out 2).trans rfl
    have u3 := (blk_cell T6.out 3).trans rfl
    have u4 := (blk_cell T6.out 4).trans rfl
    have u5 := (blk_cell T6.out 5).trans rfl
    have y0 := blk_frozen T6.out 0
    have y1 := blk_frozen T6.out 1
    have y2 := blk_frozen T6.out 2
    have y3 := blk_frozen T6.out 3
    have y4 := blk_frozen T6.out 4
    have y5 := blk_frozen T6.out 5
    refine skip_ (w1 := ?_) (by rfl) rfl ?_ ?_
    rotate_left
    · go_simp
      rfl
    generalize hg_ : World.setCell _ ⟨tb, 5, none⟩ _ = wE
    have TE : Aside0 (wE.heap[tb]? = some (.cells #[.int .i64 0, .int .i64 0, .int .i64 0, .string ⟨#[]⟩, .slice none 0 0, .slice none 0 0] 68 (0, 0))) := ⟨by subst hg_; exact ov_put T6.out _ _ _ _ _ _⟩
    have XE := Aside0.mk (show Six tb wD wE by subst hg_; exact (((((((Six.refl tb wD).set 0 _).set 1 _).set 2 _).set 3 _).set 4 _).set 5 _))
    have VE := Aside0.mk ((XE.out.block vb (by have := HLB.out; omega)).trans V6.out)
    clear hg_ u0 u1 u2 u3 u4 u5 y0 y1 y2 y3 y4 y5
    refine hK.out _ _ ⟨(pw_cell_six XE.out (by have := HLB.out; omega) CS.out.1), (pw_cell_six XE.out (by have := HLB.out; omega) CS.out.2)⟩ (fun hHeld => ?_)
    clear hK K
    refine one_ (i := 3) (N := none) #[true, true, true, true] rfl rfl (by kernel_rfl) (by decide) (fun K hK => ?_)
    have u0 := (blk_cell VE.out 0).trans rfl
    have u1 := (blk_cell VE.out 1).trans rfl
    have y0 := blk_frozen VE.out 0
    have y1 := blk_frozen VE.out 1
    refine skip_ (w1 := ?_) (by rfl) rfl ?_ ?_
    rotate_left
    · go_simp
      rfl
    generalize hg_ : World.setCell _ ⟨vb, 1, none⟩ _ = wF
    have XF := Aside0.mk (show Six vb wE wF by subst hg_; exact ((Six.refl vb wE).set 0 _).set 1 _)
    have VV := Aside0.mk (show wF.heap[vb]? = some (.cells #[.int .i64 k, .int .i64 (at_ : Int)] 35 (0, 0)) by subst hg_; exact LxA.ver_put VE.out _ _)
    have TT := Aside0.mk ((XF.out.block tb (by have := HLB.out; omega)).trans TE.out)
    have BB : Aside0 (Below W.heap.size W wF) := ⟨(B6.out.trans (XE.out.bel _ (by have := HTB.out; omega))).trans (XF.out.bel _ (by have := HTB.out; have := HLB.out; omega))⟩
    clear hg_ u0 u1 y0 y1
    refine hK.out _ _ ⟨(pw_cell_six XF.out (by have := HLB.out; omega) (pw_cell_six XE.out (by have := HLB.out; omega) CS.out.1)), (pw_cell_six XF.out (by have := HLB.out; omega) (pw_cell_six XE.out (by have := HLB.out; omega) CS.out.2))⟩ (fun hHeld => ?_)
    clear hK K
    refine done_ (by kernel_rfl) ?_
    go_wp2_with (fail)
    refine bodyPost_ret (results_cc rfl _ _ tb vb 68 35 #[.int .i64 0, .int .i64 0, .int .i64 0, .string ⟨#[]⟩, .slice none 0 0, .slice none 0 0] #[.int .i64 k, .int .i64 (at_ : Int)] (0, 0) (0, 0) _ _ rfl TT.out rfl VV.out Tryd.underlying68 rfl (by kernel_rfl) Tryd.underlying35 rfl (by kernel_rfl)) rfl ?_
    rw [← HE.out.1, ← HE.out.2.1, ← HE.out.2.2]
    exact ⟨⟨_, _, _, _, _, _, rfl, _, _, _, _, _, _, _, rfl, rfl, rfl, rfl, rfl, ⟨_, _, _, rfl⟩, fun h => absurd h HK.out⟩, BB.out⟩
end Go.Proofs.YtlhpflicchchlaaDoor.Tr
