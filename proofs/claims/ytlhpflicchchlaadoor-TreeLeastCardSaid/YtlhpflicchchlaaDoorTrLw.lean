/- rifflelaw10.TreeLeast, walked: it returns true. Conditions: none. -/
import Derived.Test.YtlhpflicchchlaaDoorTrAl
namespace Go.Proofs.YtlhpflicchchlaaDoor.Tr
open Go.RowKit Go.Proofs.YtlhpflicchchlaaDoorW.PrintWords Go.Proofs.YtlhpflicchchlaaDoorW.PrintLast Go.Proofs.YtlhpflicchchlaaDoorW.PrintMore
attribute [local go_sem] max2_int min2_int max_two min_two max_three min_three max_four min_four
open Go.Proofs.YtlhpflicchchlaaDoor.LexPure
open Go.Proofs.YtlhpflicchchlaaDoor.Nx (KT below_grownN)
set_option linter.unusedVariables false
set_option linter.unusedSimpArgs false
theorem binfo : (Tryd.prog.info? 5).map (fun i => (i.zero, i.size, i.bytes)) = some (some (.int .u8 0), 1, 1) := by kernel_rfl
def bCells (l : List Int) : List Value := l.map (Value.int .u8)
theorem b_one (l : List Int) : ∀ u ∈ bCells l, u.oneCell' = true := by
  intro u hu
  obtain ⟨t, _, rfl⟩ := List.mem_map.1 hu
  rfl
theorem reads_own {w : World} {B g cap : Nat} {l : List Int} (h : w.ownsRow B 5 1 (.slice (some ⟨g, 0, none⟩) l.length cap) l.length (bCells l)) (hl : l.length ≤ 100000) : ReadsOf (Value.int .u8) 0 w (some ⟨g, 0, none⟩) l.length l := by
  refine ⟨rfl, by omega, fun _ => ⟨_, rfl, fun j hj => ?_⟩⟩
  rw [show (⟨g, 0, none⟩ : Addr).add j = ⟨g, j, none⟩ by cases j <;> simp [Addr.add]]
  exact LxA.own_cell h j _ (by simp [bCells, List.getElem?_eq_getElem hj, List.getD_eq_getElem?_getD])
theorem reads_take {w : World} {A : Option Addr} {n : Nat} {zs : List Int} (h : ReadsOf (Value.int .u8) 0 w A n zs) (k : Nat) (hk : k ≤ n) : ReadsOf (Value.int .u8) 0 w A k (zs.take k) := by
  obtain ⟨h1, h2, h3⟩ := h
  refine ⟨by simp; omega, by omega, fun hk0 => ?_⟩
  obtain ⟨ad, e, hc⟩ := h3 (by omega)
  refine ⟨ad, e, fun j hj => ?_⟩
  rw [hc j (by omega), List.getD_eq_getElem?_getD, List.getD_eq_getElem?_getD, List.getElem?_take_of_lt hj]
theorem reads_cells {w : World} {A : Option Addr} {n : Nat} {zs : List Int} (h : ReadsOf (Value.int .u8) 0 w A n zs) {ad : Addr} (ha : A = some ad) : ∀ (j : Nat) u, (bCells zs)[j]? = some u → w.cell? (ad.add j) = some u := by
  intro j u hj
  obtain ⟨h1, h2, h3⟩ := h
  have hlt : j < zs.length := by
    have := (List.getElem?_eq_some_iff.1 hj).1
    simpa [bCells] using this
  obtain ⟨ad', e, hc⟩ := h3 (by omega)
  obtain rfl : ad' = ad := by rw [ha] at e; exact (Option.some.inj e).symm
  rw [hc j (by omega)]
  simp only [bCells, List.getElem?_map, List.getElem?_eq_getElem hlt, Option.map_some, Option.some.injEq] at hj
  rw [← hj, List.getD_eq_getElem?_getD, List.getElem?_eq_getElem hlt]
  rfl
theorem own_empty (w : World) : (w.alloc (.cells #[] 5)).ownsRow w.heap.size 5 1 (.slice (some ⟨w.heap.size, 0, none⟩) 0 0) 0 (bCells []) :=
  ⟨rfl, .inr ⟨w.heap.size, 0, #[], rfl, Nat.le_refl _, blk_new w _, Nat.le_refl _, by unfold maxLen; omega, rfl, rfl⟩⟩
set_option maxHeartbeats 32000000 in
set_option maxRecDepth 100000 in
theorem least_walk (A : Option Addr) (n cp : Nat) (zs : List Int) (A' : Option Addr) (n' cp' : Nat) (ms : List Int) (W : World) (hr : ReadsOf (Value.int .u8) 0 W A n zs) (hz : ∀ z ∈ zs, 0 ≤ z ∧ z < 256) (hcp : n ≤ cp)
    (hr' : ReadsOf (Value.int .u8) 0 W A' n' ms) (hz' : ∀ z ∈ ms, 0 ≤ z ∧ z < 256) (hcp' : A' = none → n' = 0 ∧ cp' = 0) (hT : LxN.Tab W) :
    Calls Tryd.prog 8 #[.slice A n cp, .slice A' n' cp'] W fun e w' => e = .returned (.bool true) ∧ Below W.heap.size W w' := by
  have HR := Aside0.mk hr
  have HZ := Aside0.mk hz
  have HCP := Aside0.mk hcp
  have HR' := Aside0.mk hr'
  have HZ' := Aside0.mk hz'
  have HCP' := Aside0.mk hcp'
  have HT := Aside0.mk hT
  have HAL := Aside0.mk (treeAlive_calls W hT)
  have HLS := Aside0.mk (thr_least zs LxA.s0 (Nx.ns0 50) (j0 50))
  have HLZ := Aside0.mk hr.1
  have HLM := Aside0.mk hr'.1
  clear hr hz hcp hr' hz' hcp' hT
  go_enter Tryd.func8, Tryd.ntmps8
  go_wp2_with (fail)
  go_at_call 39
  refine HAL.out.mono ?_
  rintro e w1 ⟨rfl, hb⟩
  have B1 := Aside0.mk hb
  clear hb HAL
  by_cases hn : n ≤ 500
  · have q1 : decide ((500 : Int) < (n : Int)) = false := by simp; omega
    by_cases hn' : n' ≤ 100
    · have q2 : decide ((100 : Int) < (n' : Int)) = false := by simp; omega
      have HN := Aside0.mk (And.intro hn hn')
      have HP := Aside0.mk (parse_calls A n cp 50 zs (HR.out.below B1.out) HZ.out (by omega) (by omega) (LxN.Tab.below HT.out B1.out HT.out.1))
      clear hn hn'
      obtain ⟨k, hk⟩ : ∃ k, k = (thr zs LxA.s0 (Nx.ns0 50)).1 := ⟨_, rfl⟩
      obtain ⟨at_, hat⟩ : ∃ a, a = (thr zs LxA.s0 (Nx.ns0 50)).2 := ⟨_, rfl⟩
      rw [← hk, ← hat] at HP
      have HKA := Aside0.mk (And.intro hk hat)
      clear hk hat
      go_upto_region 6 with (go_at_call 40; refine HP.out.mono ?_; rintro e w2 ⟨⟨c0, c1, c2, c3, c4, c5, rfl, i0, i1, i2, x, a, q, c, rfl, rfl, rfl, rfl, rfl, ⟨a', q', c', rfl⟩, hq⟩, hb⟩; have B2 := Aside0.mk hb; clear hq hb)
      generalize hwa : World.alloc w2 _ = w3
      generalize hwb : World.alloc w3 _ = w4
      have KA : Below w2.heap.size w2 w3 := by subst hwa; exact below_alloc (Below.refl _ _) _
      have KB : Below w3.heap.size w3 w4 := by subst hwb; exact below_alloc (Below.refl _ _) _
      have V4 : Aside0 (w4.heap[w3.heap.size]? = some (.cells #[.int .i64 k, .int .i64 (at_ : Int)] 35 (0, 0))) := ⟨by subst hwb; exact blk_new w3 _⟩
      rw [show w3.heap.size = w2.heap.size + 1 by subst hwa; simp] at V4
      have B14 : Below w1.heap.size w1 w4 := (B2.out.trans (KA.mono B2.out.size)).trans (KB.mono (Nat.le_trans B2.out.size KA.size))
      have B4 : Aside0 (Below W.heap.size W w4) := ⟨B1.out.trans (B14.mono B1.out.size)⟩
      clear hwa hwb KA KB B14 B2 HP B1
      have v0 := (blk_cell V4.out 0).trans rfl
      have v1 := (blk_cell V4.out 1).trans rfl
      by_cases hE : EndK k
      · have hat : at_ = n := by
          rcases HLS.out with ⟨_, h⟩ | ⟨i, _, _, h, _⟩
          · rw [← HKA.out.2, HLZ.out] at h
            simpa [LxA.s0] using h
          · rw [← HKA.out.1] at h; exact absurd hE h
        subst hat
        clear HKA HLS
        rcases hE with rfl | rfl | rfl
        · go_wp2_with (fail)
          go_ret
          exact ⟨rfl, B4.out⟩
        · go_wp2_with (fail)
          go_ret
          exact ⟨rfl, B4.out⟩
        · go_wp2_with (fail)
          go_ret
          exact ⟨rfl, B4.out⟩
      · have e1 : decide (k = 1) = false := by simp; exact fun h => hE (.inl h)
        have e2 : (k == 1) = false := by simp; exact fun h => hE (.inl h)
        have e3 : decide (k = 10) = false := by simp; exact fun h => hE (.inr (.inl h))
        have e4 : (k == 10) = false := by simp; exact fun h => hE (.inr (.inl h))
        have e5 : decide (k = 11) = false := by simp; exact fun h => hE (.inr (.inr h))
        have e6 : (k == 11) = false := by simp; exact fun h => hE (.inr (.inr h))
        obtain ⟨i, hi, hati, hmore, hpre⟩ : ∃ i, i < n ∧ at_ = i ∧ (∀ more, thr (zs.take (i + 1) ++ more) LxA.s0 (Nx.ns0 50) = thr zs LxA.s0 (Nx.ns0 50)) ∧ EndK (thr (zs.take i) LxA.s0 (Nx.ns0 50)).1 := by
          rcases HLS.out with ⟨h, _⟩ | ⟨i, h0, h1, _, h3, h4⟩
          · rw [← HKA.out.1] at h; exact absurd h hE
          · exact ⟨i, by rw [← HLZ.out]; exact h0, by rw [← HKA.out.2] at h1; simpa [LxA.s0] using h1, h3, h4⟩
        subst hati
        obtain ⟨p, hp⟩ : ∃ p, p = at_ + 1 := ⟨_, rfl⟩
        have f1 : decide ((at_ : Int) < 0) = false := by simp
        have f2 : decide ((n : Int) ≤ (at_ : Int)) = false := by simp; omega
        have f2b : decide (n ≤ at_) = false := by simp; omega
        have f2c : decide ((at_ : Int) < (n : Int)) = true := by simp; omega
        have f2d : decide (at_ < n) = true := by simp; omega
        have f3 : wrap64 ((at_ : Int) + 1) = (p : Int) := by have := HN.out.1; unfold wrap64; omega
        have f4 : (0 : Int) ≤ (p : Int) := by omega
        have f5 : p ≤ cp := by have := HCP.out; omega
        have f6 : (p : Int) ≤ (cp : Int) := by omega
        have f7 : p ≤ n := by omega
        have f8 : (p : Int) ≤ (n : Int) := by omega
        have g4 : (0 : Int) ≤ (at_ : Int) := by omega
        have g5 : at_ ≤ cp := by have := HCP.out; omega
        have g6 : (at_ : Int) ≤ (cp : Int) := by omega
        have g7 : at_ ≤ n := by omega
        have g8 : (at_ : Int) ≤ (n : Int) := by omega
        have HPP := Aside0.mk (And.intro hi (And.intro hp (And.intro hmore hpre)))
        obtain ⟨ad, hAd, _⟩ := HR.out.2.2 (by omega)
        subst hAd
        clear hE hi hp hmore hpre HLS
        go_upto_region 10 with (fail)
        obtain ⟨i1, ti, tz0, tz1, tz2⟩ := info_parts binfo
        have O5 := Aside0.mk (own_empty w4)
        have K5 : Aside0 (Below w4.heap.size w4 (w4.alloc (.cells #[] 5))) := ⟨below_alloc (Below.refl _ _) _⟩
        have RP5 := Aside0.mk (reads_take ((HR.out.below B4.out).below K5.out) p f7)
        have LP : Aside0 ((zs.take p).length = p) := ⟨RP5.out.1⟩
        have V5 := Aside0.mk ((KT.of_below (p := []) K5.out).blk V4.out (by simp))
        have v51 := (blk_cell V5.out 1).trans rfl
        go_wp2_with (at_builtin; refine wpList_append_own_at _ rfl _ _ 32 rfl w4.heap.size 5 i1 _ 1 1 Tryd.underlying32 ti tz0 tz1 tz2 rfl (by decide) (.slice (some ⟨w4.heap.size, 0, none⟩) 0 0) 0 (bCells []) rfl O5.out ad p cp (bCells (zs.take p)) rfl (by simp [bCells]; have := LP.out; simp at this; omega) (reads_cells RP5.out rfl) (b_one _) (by have := HN.out.1; unfold maxLen; omega) (by have := HN.out.1; omega) (by simp) ?_)
        intro va w6 k1 k2 k3 k4
        have k1 : w6.ownsRow w4.heap.size 5 1 va p (bCells (zs.take p)) := by simpa [bCells] using k1
        obtain ⟨aa, ca, rfl⟩ := own_sl k1
        obtain ⟨ga, rfl⟩ : ∃ ga, aa = some ⟨ga, 0, none⟩ := by
          obtain ⟨gv, cpv, hv⟩ := own_some (n := at_) (by have := HPP.out.2.1; rw [this] at k1; exact k1)
          injection hv with h1
          exact ⟨gv, h1⟩
        have O6 := Aside0.mk k1
        have B6 : Aside0 (Below w4.heap.size w4 w6) := ⟨K5.out.grown k2 (by simp) (fun k hk => (own_blk O5.out k hk).1)⟩
        have V6 := Aside0.mk ((KT.of_grown O5.out k2).blk V5.out (by decide))
        clear k1 k2 k3 k4 O5 RP5 K5 V5 v51
        have RM6 := Aside0.mk (HR'.out.below (B4.out.trans (B6.out.mono B4.out.size)))
        obtain ⟨m, hm⟩ : ∃ m, m = p + n' := ⟨_, rfl⟩
        have HM := Aside0.mk hm
        have key : ∀ (vb : Value) (w7 : World), w7.ownsRow w4.heap.size 5 1 vb m (bCells (zs.take p ++ ms)) → w6.grownBy w7 (Value.slice (some ⟨ga, 0, none⟩) p ca).ownBlock → ∃ gb cb, vb = .slice (some ⟨gb, 0, none⟩) m cb ∧ ReadsOf (Value.int .u8) 0 w7 (some ⟨gb, 0, none⟩) m (zs.take p ++ ms) ∧ Below w4.heap.size w4 w7 := by
          intro vb w7 h1 h2
          have hmp : m = at_ + n' + 1 := by rw [hm, HPP.out.2.1]; omega
          obtain ⟨gb, cb, rfl⟩ := own_some (n := at_ + n') (by rw [hmp] at h1; exact h1)
          rw [← hmp]
          rw [← hmp] at h1
          have hlen : (zs.take p ++ ms).length = m := by rw [List.length_append, LP.out, HLM.out, hm]
          refine ⟨gb, cb, rfl, ?_, B6.out.trans ?_⟩
          · have := reads_own (l := zs.take p ++ ms) (by rw [hlen]; exact h1) (by have := HN.out; have := HPP.out; omega)
            rw [hlen] at this
            exact this
          · exact (Below.refl _ _).grown h2 B6.out.size (fun k hk => (own_blk O6.out k hk).1)
        have KEY := Aside0.mk key
        clear key hm
        obtain ⟨zs2, hzs2⟩ : ∃ l, l = zs.take p ++ ms := ⟨_, rfl⟩
        have HP2 : Aside0 (∀ (gb cb : Nat) (w7 : World), ReadsOf (Value.int .u8) 0 w7 (some ⟨gb, 0, none⟩) m (zs.take p ++ ms) → Below w4.heap.size w4 w7 → Calls Tryd.prog 40 #[.slice (some ⟨gb, 0, none⟩) m cb, .int .i64 50] w7 fun e w' => (∃ v, e = .returned (.tuple #[v, .agg #[.int .i64 k, .int .i64 (at_ : Int)]]) ∧ ∃ i0 i1 i2 x a q c a' q' c', v = .agg #[.int .i64 i0, .int .i64 i1, .int .i64 i2, .string x, .slice a q c, .slice a' q' c']) ∧ Below w7.heap.size w7 w') := ⟨fun gb cb w7 h1 h2 => by
          have hm1 : m ≤ 2000 := by have := HM.out; have := HN.out; have := HPP.out.1; have := HPP.out.2.1; omega
          refine (parse_calls _ m cb 50 _ h1 (fun z hz => ?_) hm1 (by omega) (LxN.Tab.below HT.out (B4.out.trans (h2.mono B4.out.size)) HT.out.1)).mono fun e w' h => ?_
          · rcases List.mem_append.1 hz with hz | hz
            · exact HZ.out z (List.mem_of_mem_take hz)
            · exact HZ'.out z hz
          · obtain ⟨⟨c0, c1, c2, c3, c4, c5, he, i0, i1, i2, x, a, q, c, rfl, rfl, rfl, rfl, rfl, ⟨a', q', c', rfl⟩, _⟩, hb⟩ := h
            have hmore := HPP.out.2.2.1 ms
            rw [← HPP.out.2.1] at hmore
            rw [hmore, ← HKA.out.1, ← HKA.out.2] at he
            exact ⟨⟨_, he, i0, i1, i2, x, a, q, c, a', q', c', rfl⟩, hb⟩⟩
        clear hzs2 zs2
        have hA : A' = none ∨ ∃ ad', A' = some ad' := by cases A' with
          | none => exact .inl rfl
          | some a => exact .inr ⟨a, rfl⟩
        rcases hA with rfl | ⟨ad', rfl⟩
        · obtain ⟨rfl, rfl⟩ := HCP'.out rfl
          go_wp2_with (at_builtin; refine wpList_append_own_none rfl _ _ 32 rfl w4.heap.size 5 i1 1 Tryd.underlying32 ti (.slice (some ⟨ga, 0, none⟩) p ca) p (bCells (zs.take p)) rfl O6.out rfl ?_)
          have hms : ms = [] := List.eq_nil_of_length_eq_zero HLM.out
          obtain rfl : m = p := by rw [HM.out, Nat.add_zero]
          obtain ⟨vb, hvb⟩ : ∃ vb, vb = Value.slice (some ⟨ga, 0, none⟩) m ca := ⟨_, rfl⟩
          obtain ⟨w7, hw7⟩ : ∃ w7, w7 = w6 := ⟨_, rfl⟩
          have hown : w7.ownsRow w4.heap.size 5 1 vb m (bCells (zs.take m ++ ms)) := by rw [hms, List.append_nil, hvb, hw7]; exact O6.out
          have hgrow : w6.grownBy w7 (Value.slice (some ⟨ga, 0, none⟩) m ca).ownBlock := by rw [hw7]; exact World.grownBy.refl w6 _
          rw [← hvb, ← hw7]
          clear hw7 hms hvb
          obtain ⟨gb, cb, rfl, hRD, hB7⟩ := KEY.out _ _ hown hgrow
          have HP3 := Aside0.mk (HP2.out gb cb w7 hRD hB7)
          have B7 := Aside0.mk hB7
          have V7 : Aside0 (w7.heap[w2.heap.size + 1]? = some (.cells #[.int .i64 k, .int .i64 (at_ : Int)] 35 (0, 0))) := ⟨(hB7.block _ (blk_lt V4.out)).trans V4.out⟩
          clear hRD hB7 hown hgrow
          go_upto_region 11 with (go_at_call 40; refine HP3.out.mono ?_; rintro e w8 ⟨⟨v, rfl, j0, j1, j2, xx, aj, qj, cj, aj', qj', cj', rfl⟩, hb⟩; have B8 := Aside0.mk hb; clear hb)
          generalize hwa : World.alloc w8 _ = w9
          generalize hwb : World.alloc w9 _ = w10
          have KA : Below w8.heap.size w8 w9 := by subst hwa; exact below_alloc (Below.refl _ _) _
          have KB : Below w9.heap.size w9 w10 := by subst hwb; exact below_alloc (Below.refl _ _) _
          have Y10 : Aside0 (w10.heap[w9.heap.size]? = some (.cells #[.int .i64 k, .int .i64 (at_ : Int)] 35 (0, 0))) := ⟨by subst hwb; exact blk_new w9 _⟩
          rw [show w9.heap.size = w8.heap.size + 1 by subst hwa; simp] at Y10
          have V10 := Aside0.mk ((KT.of_below (p := []) KB).blk ((KT.of_below (p := []) KA).blk ((KT.of_below (p := []) B8.out).blk V7.out (by simp)) (by simp)) (by simp))
          have B10 : Aside0 (Below W.heap.size W w10) := ⟨(B4.out.trans (B7.out.mono B4.out.size)).trans (((B8.out.mono (Nat.le_trans B4.out.size B7.out.size)).trans (KA.mono (Nat.le_trans B4.out.size (Nat.le_trans B7.out.size B8.out.size)))).trans (KB.mono (Nat.le_trans B4.out.size (Nat.le_trans B7.out.size (Nat.le_trans B8.out.size KA.size)))))⟩
          clear hwa hwb KA KB B8 V7 B7 HP3
          have HP4 := Aside0.mk (parse_calls (some ad) at_ cp 50 (zs.take at_) (reads_take (HR.out.below B10.out) at_ g7) (fun z hz => HZ.out z (List.mem_of_mem_take hz)) (by have := HN.out.1; omega) (by omega) (LxN.Tab.below HT.out B10.out HT.out.1))
          have HPRE := Aside0.mk HPP.out.2.2.2
          generalize thr (zs.take at_) LxA.s0 (Nx.ns0 50) = ZZ at HP4 HPRE
          obtain ⟨kz, az⟩ := ZZ
          dsimp only at HP4 HPRE
          have v101 := (blk_cell V10.out 1).trans rfl
          go_upto_region 12 with (go_at_call 40; refine HP4.out.mono ?_; rintro e w11 ⟨⟨e0, e1, e2, e3, e4, e5, rfl, l0, l1, l2, xl, al, ql, cl, rfl, rfl, rfl, rfl, rfl, ⟨al', ql', cl', rfl⟩, _⟩, hb⟩; have B11 := Aside0.mk hb; clear hb)
          generalize hwa : World.alloc w11 _ = w12
          generalize hwb : World.alloc w12 _ = w13
          have KA : Below w11.heap.size w11 w12 := by subst hwa; exact below_alloc (Below.refl _ _) _
          have KB : Below w12.heap.size w12 w13 := by subst hwb; exact below_alloc (Below.refl _ _) _
          have Z13 : Aside0 (w13.heap[w12.heap.size]? = some (.cells #[.int .i64 kz, .int .i64 (az : Int)] 35 (0, 0))) := ⟨by subst hwb; exact blk_new w12 _⟩
          rw [show w12.heap.size = w11.heap.size + 1 by subst hwa; simp] at Z13
          have V13 := Aside0.mk ((KT.of_below (p := []) KB).blk ((KT.of_below (p := []) KA).blk ((KT.of_below (p := []) B11.out).blk V10.out (by simp)) (by simp)) (by simp))
          have Y13 := Aside0.mk ((KT.of_below (p := []) KB).blk ((KT.of_below (p := []) KA).blk ((KT.of_below (p := []) B11.out).blk Y10.out (by simp)) (by simp)) (by simp))
          have B13 : Aside0 (Below W.heap.size W w13) := ⟨((B10.out.trans (B11.out.mono B10.out.size)).trans (KA.mono (Nat.le_trans B10.out.size B11.out.size))).trans (KB.mono (Nat.le_trans B10.out.size (Nat.le_trans B11.out.size KA.size)))⟩
          clear hwa hwb KA KB B11 V10 Y10 HP4 v101 B10
          have y0 := (blk_cell Y13.out 0).trans rfl
          have y1 := (blk_cell Y13.out 1).trans rfl
          have t0 := (blk_cell V13.out 0).trans rfl
          have t1 := (blk_cell V13.out 1).trans rfl
          have z0 := (blk_cell Z13.out 0).trans rfl
          rcases HPRE.out with rfl | rfl | rfl
          · go_wp2_with (fail)
            go_ret
            exact ⟨rfl, B13.out⟩
          · go_wp2_with (fail)
            go_ret
            exact ⟨rfl, B13.out⟩
          · go_wp2_with (fail)
            go_ret
            exact ⟨rfl, B13.out⟩
        · go_wp2_with (at_builtin; refine wpList_append_own_at _ rfl _ _ 32 rfl w4.heap.size 5 i1 _ 1 1 Tryd.underlying32 ti tz0 tz1 tz2 rfl (by decide) (.slice (some ⟨ga, 0, none⟩) p ca) p (bCells (zs.take p)) rfl O6.out ad' n' cp' (bCells ms) rfl (by simp [bCells, HLM.out]) (reads_cells RM6.out rfl) (b_one _) (by have := HN.out; have := HPP.out.1; have := HPP.out.2.1; unfold maxLen; omega) (by have := HN.out; have := HPP.out.1; have := HPP.out.2.1; omega) B6.out.size ?_)
          intro vb w7 hown hgrow _ _
          rw [show bCells (zs.take p) ++ bCells ms = bCells (zs.take p ++ ms) by simp [bCells], ← HM.out] at hown
          obtain ⟨gb, cb, rfl, hRD, hB7⟩ := KEY.out _ _ hown hgrow
          have HP3 := Aside0.mk (HP2.out gb cb w7 hRD hB7)
          have B7 := Aside0.mk hB7
          have V7 : Aside0 (w7.heap[w2.heap.size + 1]? = some (.cells #[.int .i64 k, .int .i64 (at_ : Int)] 35 (0, 0))) := ⟨(hB7.block _ (blk_lt V4.out)).trans V4.out⟩
          clear hRD hB7 hown hgrow
          go_upto_region 11 with (go_at_call 40; refine HP3.out.mono ?_; rintro e w8 ⟨⟨v, rfl, j0, j1, j2, xx, aj, qj, cj, aj', qj', cj', rfl⟩, hb⟩; have B8 := Aside0.mk hb; clear hb)
          generalize hwa : World.alloc w8 _ = w9
          generalize hwb : World.alloc w9 _ = w10
          have KA : Below w8.heap.size w8 w9 := by subst hwa; exact below_alloc (Below.refl _ _) _
          have KB : Below w9.heap.size w9 w10 := by subst hwb; exact below_alloc (Below.refl _ _) _
          have Y10 : Aside0 (w10.heap[w9.heap.size]? = some (.cells #[.int .i64 k, .int .i64 (at_ : Int)] 35 (0, 0))) := ⟨by subst hwb; exact blk_new w9 _⟩
          rw [show w9.heap.size = w8.heap.size + 1 by subst hwa; simp] at Y10
          have V10 := Aside0.mk ((KT.of_below (p := []) KB).blk ((KT.of_below (p := []) KA).blk ((KT.of_below (p := []) B8.out).blk V7.out (by simp)) (by simp)) (by simp))
          have B10 : Aside0 (Below W.heap.size W w10) := ⟨(B4.out.trans (B7.out.mono B4.out.size)).trans (((B8.out.mono (Nat.le_trans B4.out.size B7.out.size)).trans (KA.mono (Nat.le_trans B4.out.size (Nat.le_trans B7.out.size B8.out.size)))).trans (KB.mono (Nat.le_trans B4.out.size (Nat.le_trans B7.out.size (Nat.le_trans B8.out.size KA.size)))))⟩
          clear hwa hwb KA KB B8 V7 B7 HP3
          have HP4 := Aside0.mk (parse_calls (some ad) at_ cp 50 (zs.take at_) (reads_take (HR.out.below B10.out) at_ g7) (fun z hz => HZ.out z (List.mem_of_mem_take hz)) (by have := HN.out.1; omega) (by omega) (LxN.Tab.below HT.out B10.out HT.out.1))
          have HPRE := Aside0.mk HPP.out.2.2.2
          generalize thr (zs.take at_) LxA.s0 (Nx.ns0 50) = ZZ at HP4 HPRE
          obtain ⟨kz, az⟩ := ZZ
          dsimp only at HP4 HPRE
          have v101 := (blk_cell V10.out 1).trans rfl
          go_upto_region 12 with (go_at_call 40; refine HP4.out.mono ?_; rintro e w11 ⟨⟨e0, e1, e2, e3, e4, e5, rfl, l0, l1, l2, xl, al, ql, cl, rfl, rfl, rfl, rfl, rfl, ⟨al', ql', cl', rfl⟩, _⟩, hb⟩; have B11 := Aside0.mk hb; clear hb)
          generalize hwa : World.alloc w11 _ = w12
          generalize hwb : World.alloc w12 _ = w13
          have KA : Below w11.heap.size w11 w12 := by subst hwa; exact below_alloc (Below.refl _ _) _
          have KB : Below w12.heap.size w12 w13 := by subst hwb; exact below_alloc (Below.refl _ _) _
          have Z13 : Aside0 (w13.heap[w12.heap.size]? = some (.cells #[.int .i64 kz, .int .i64 (az : Int)] 35 (0, 0))) := ⟨by subst hwb; exact blk_new w12 _⟩
          rw [show w12.heap.size = w11.heap.size + 1 by subst hwa; simp] at Z13
          have V13 := Aside0.mk ((KT.of_below (p := []) KB).blk ((KT.of_below (p := []) KA).blk ((KT.of_below (p := []) B11.out).blk V10.out (by simp)) (by simp)) (by simp))
          have Y13 := Aside0.mk ((KT.of_below (p := []) KB).blk ((KT.of_below (p := []) KA).blk ((KT.of_below (p := []) B11.out).blk Y10.out (by simp)) (by simp)) (by simp))
          have B13 : Aside0 (Below W.heap.size W w13) := ⟨((B10.out.trans (B11.out.mono B10.out.size)).trans (KA.mono (Nat.le_trans B10.out.size B11.out.size))).trans (KB.mono (Nat.le_trans B10.out.size (Nat.le_trans B11.out.size KA.size)))⟩
          clear hwa hwb KA KB B11 V10 Y10 HP4 v101 B10
          have y0 := (blk_cell Y13.out 0).trans rfl
          have y1 := (blk_cell Y13.out 1).trans rfl
          have t0 := (blk_cell V13.out 0).trans rfl
          have t1 := (blk_cell V13.out 1).trans rfl
          have z0 := (blk_cell Z13.out 0).trans rfl
          rcases HPRE.out with rfl | rfl | rfl
          · go_wp2_with (fail)
            go_ret
            exact ⟨rfl, B13.out⟩
          · go_wp2_with (fail)
            go_ret
            exact ⟨rfl, B13.out⟩
          · go_wp2_with (fail)
            go_ret
            exact ⟨rfl, B13.out⟩
    · have q2 : decide ((100 : Int) < (n' : Int)) = true := by simp; omega
      clear hn hn'
      go_wp2_with (fail)
      go_ret
      exact ⟨rfl, B1.out⟩
  · have q1 : decide ((500 : Int) < (n : Int)) = true := by simp; omega
    clear hn
    go_wp2_with (fail)
    go_ret
    exact ⟨rfl, B1.out⟩
end Go.Proofs.YtlhpflicchchlaaDoor.Tr
