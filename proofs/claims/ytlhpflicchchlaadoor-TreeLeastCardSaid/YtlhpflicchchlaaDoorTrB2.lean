/- tree.Builder.Take at an event that closes, walked. Conditions: none. -/
import Derived.Test.YtlhpflicchchlaaDoorTrB1
namespace Go.Proofs.YtlhpflicchchlaaDoor.Tr
open Go.RowKit Go.Proofs.YtlhpflicchchlaaDoorW.PrintWords Go.Proofs.YtlhpflicchchlaaDoorW.PrintLast Go.Proofs.YtlhpflicchchlaaDoorW.PrintMore
attribute [local go_sem] max2_int min2_int max_two min_two max_three min_three max_four min_four
open Go.Proofs.YtlhpflicchchlaaDoor.LexPure
open Go.Proofs.YtlhpflicchchlaaDoor.Nx (Ev Stp evCells stpVal KT row_type below_grownN ev_cells)
set_option linter.unusedVariables false
set_option linter.unusedSimpArgs false
theorem flat_ov : ∀ (T : List OV) (j i : Nat) (t : OV), T[j]? = some t → i < 6 → (T.flatMap ovCells)[j * 6 + i]? = (ovCells t)[i]?
  | [], j, i, t, h, _ => by simp at h
  | x :: r, 0, i, t, h, hi => by
    obtain rfl : x = t := by simpa using h
    rw [List.flatMap_cons, List.getElem?_append_left (by simp [ovCells]; omega)]
    simp
  | x :: r, j + 1, i, t, h, hi => by
    rw [List.flatMap_cons, List.getElem?_append_right (by simp [ovCells]; omega), show (j + 1) * 6 + i - (ovCells x).length = j * 6 + i by simp [ovCells]; omega]
    exact flat_ov r j i t (by simpa using h) hi
theorem put_fin {B : Nat} {W wJ : World} {g go_ gs n k co cs : Nat} {l2 : List OV} {p v p' : OV} {rt : OV} {dn : Bool} (H : Bx B W g (.slice (some ⟨go_, 0, none⟩) n co) (.slice (some ⟨gs, 0, none⟩) n cs) (l2 ++ [p] ++ [v]) rt dn) (hk : k = l2.length + 1)
    (hb : wJ.heap[g]? = some (.cells (bcs (.slice (some ⟨gs, 0, none⟩) k cs) rt dn (.slice (some ⟨go_, 0, none⟩) k co)) 120 (0, 0))) (hr : wJ.ownsRow B 68 6 (.slice (some ⟨go_, 0, none⟩) k co) k (l2.flatMap ovCells ++ ovCells p'))
    (hs : ∃ ss, wJ.ownsRow B 26 3 (.slice (some ⟨gs, 0, none⟩) k cs) k ss) (hp : ItOk B wJ p') (h1 : p'.itv.ownBlock = p.itv.ownBlock ∨ ∀ j, p'.itv.ownBlock = some j → W.heap.size ≤ j) (h2 : p'.nmv.ownBlock = p.nmv.ownBlock ∨ ∀ j, p'.nmv.ownBlock = some j → W.heap.size ≤ j)
    (hK : ∀ j, j < W.heap.size → j ≠ g → j ≠ go_ → p.itv.ownBlock ≠ some j → p.nmv.ownBlock ≠ some j → wJ.heap[j]? = W.heap[j]?) : Bx B wJ g (.slice (some ⟨go_, 0, none⟩) k co) (.slice (some ⟨gs, 0, none⟩) k cs) (l2 ++ [p']) rt dn := by
  have hd := List.pairwise_cons.1 H.dis
  have hd2 := hd.2
  have hdn := H.disN
  rw [List.map_append, List.map_append, List.append_assoc] at hd2 hdn
  obtain ⟨e1, _, e3⟩ := List.pairwise_append.1 hd2
  obtain ⟨f1, _, f3⟩ := List.pairwise_append.1 hdn
  obtain ⟨⟨xp, hp1⟩, ⟨yp, hp2⟩, _⟩ := H.its p (by simp)
  have hgo : ∀ u ∈ l2 ++ [p] ++ [v], u.itv.ownBlock ≠ some go_ := fun u hu h => hd.1 _ (List.mem_map_of_mem hu) go_ rfl h
  obtain ⟨cgo, hcgo⟩ := row_type H.row go_ rfl
  have hup : ∀ u ∈ l2, Ap u.itv p.itv := fun u hu => e3 _ (List.mem_map_of_mem hu) _ (by simp)
  have hun : ∀ u ∈ l2, Ap u.nmv p.nmv := fun u hu => f3 _ (List.mem_map_of_mem hu) _ (by simp)
  refine ⟨hb, H.ge, ?_, ?_, ?_, ?_, ?_, H.rts, H.rtn⟩
  · rw [List.length_append, List.flatMap_append]
    simpa [← hk] using hr
  · rw [List.length_append]
    simpa [← hk] using hs
  · intro u hu
    rcases List.mem_append.1 hu with hu | hu
    · obtain ⟨⟨xs, g1⟩, ⟨ys, g2⟩, g3⟩ := H.its u (by simp [hu])
      refine ⟨⟨xs, LxA.own_more g1 (fun j hj => hK j (own_blk g1 j hj).2 (fun e => ?_) (fun e => ?_) (fun e => ?_) (fun e => ?_))⟩, ⟨ys, LxA.own_more g2 (fun j hj => hK j (own_blk g2 j hj).2 (fun e => ?_) (fun e => ?_) (fun e => ?_) (fun e => ?_))⟩, g3⟩
      · subst e; exact ne_row g1 H.blk (by decide) hj
      · subst e; exact hgo u (by simp [hu]) hj
      · exact hup u hu j hj e
      · exact ap_type g1 hp2 (by decide) j hj e
      · subst e; exact ne_row g2 H.blk (by decide) hj
      · subst e; exact ne_row g2 hcgo (by decide) hj
      · exact ap_type g2 hp1 (by decide) j hj e
      · exact hun u hu j hj e
    · obtain rfl : u = p' := by simpa using hu
      exact hp
  · rw [List.map_append]
    have hap : ∀ u ∈ l2, Ap u.itv p'.itv := fun u hu j hj hj2 => by
      rcases h1 with h | h
      · exact hup u hu j hj (by rw [← h]; exact hj2)
      · obtain ⟨xs, g1⟩ := (H.its u (by simp [hu])).it
        have := (own_blk g1 j hj).2
        have := h j hj2
        omega
    refine List.pairwise_cons.2 ⟨fun a ha => ?_, List.pairwise_append.2 ⟨e1, by simp, fun a ha c hc => ?_⟩⟩
    · intro j hj hj2
      simp only [Value.ownBlock, Option.some.injEq] at hj
      subst hj
      rcases List.mem_append.1 ha with ha | ha
      · obtain ⟨u, hu, rfl⟩ := List.mem_map.1 ha
        exact hgo u (by simp [hu]) hj2
      · obtain rfl : a = p'.itv := by simpa using ha
        rcases h1 with h | h
        · exact hgo p (by simp) (by rw [← h]; exact hj2)
        · have := h _ hj2
          have := blk_lt hcgo
          omega
    · obtain rfl : c = p'.itv := by simpa using hc
      obtain ⟨u, hu, rfl⟩ := List.mem_map.1 ha
      exact hap u hu
  · rw [List.map_append]
    refine List.pairwise_append.2 ⟨f1, by simp, fun a ha c hc => ?_⟩
    obtain rfl : c = p'.nmv := by simpa using hc
    obtain ⟨u, hu, rfl⟩ := List.mem_map.1 ha
    intro j hj hj2
    rcases h2 with h | h
    · exact hun u hu j hj (by rw [← h]; exact hj2)
    · obtain ⟨ys, g2⟩ := (H.its u (by simp [hu])).nm
      have := (own_blk g2 j hj).2
      have := h j hj2
      omega
theorem it_keep {B : Nat} {W W' : World} {g : Nat} {u : OV} {c : Array Value} {f : Nat × Nat} (h : ItOk B W u) (hg : W.heap[g]? = some (.cells c 120 f)) (hk : ∀ j, j < W.heap.size → j ≠ g → W'.heap[j]? = W.heap[j]?) : ItOk B W' u := by
  obtain ⟨⟨xs, g1⟩, ⟨ys, g2⟩, g3⟩ := h
  refine ⟨⟨xs, LxA.own_more g1 (fun j hj => hk j (own_blk g1 j hj).2 (fun e => ?_))⟩, ⟨ys, LxA.own_more g2 (fun j hj => hk j (own_blk g2 j hj).2 (fun e => ?_))⟩, g3⟩
  · subst e; exact ne_row g1 hg (by decide) hj
  · subst e; exact ne_row g2 hg (by decide) hj
theorem pcell {l2 : List OV} {p : OV} {m i : Nat} (hm : m = l2.length) (hi : i < 6) : (l2.flatMap ovCells ++ ovCells p)[m * 6 + i]? = (ovCells p)[i]? := by
  rw [List.getElem?_append_right (by rw [ov_len]; omega), ov_len, hm]
  congr 1
  omega
/-- A value that has ended. -/
def fv (v : OV) (e : Ev) : OV := ⟨e.value, v.frm, e.til, e.text, v.itv, v.nit, v.nmv, v.nnm⟩
set_option maxHeartbeats 16000000 in
set_option maxRecDepth 100000 in
/-- Nothing is open: nothing closes. -/
theorem btake_nil {B : Nat} {W : World} {g : Nat} {ov sv : Value} {rt : OV} {dn : Bool} (h : Bx B W g ov sv [] rt dn) (hB : B ≤ W.heap.size) (e : Ev) (hk : e.kind = 2) :
    Calls Tryd.prog 116 #[.pointer (some ⟨g, 0, none⟩), .agg (evCells e).toArray] W fun x w' => x = .returned (.tuple #[]) ∧ Bx B w' g ov sv [] rt dn ∧ Below B W w' ∧ KT [120, 68, 26, 9] W w' := by
  have H := Aside0.mk h
  have HB := Aside0.mk hB
  have HK := Aside0.mk hk
  obtain ⟨ao, co, rfl⟩ := own_sl h.row
  have hgl := blk_lt h.blk
  clear h hB hk
  go_enter Tryd.func116, Tryd.ntmps116
  go_upto_region 1 with (fail)
  generalize hw1 : World.alloc W _ = w1
  have KW : Aside0 (Below W.heap.size W w1) := ⟨by subst hw1; exact below_alloc (Below.refl _ _) _⟩
  have BD : Aside0 (w1.heap[W.heap.size]? = some (.cells (evCells e).toArray 62 (0, 0))) := ⟨by subst hw1; exact blk_new W _⟩
  have k0 : w1.cell? ⟨W.heap.size, 0, none⟩ = some (.int .i64 2) := by rw [← HK.out]; exact (ev_cells BD.out).1
  have H1 : Aside0 (Bx B w1 g (.slice ao ([] : List OV).length co) sv [] rt dn) := ⟨⟨(KT.of_below (p := []) KW.out).blk H.out.blk (by simp), H.out.ge, (KT.of_below (p := []) KW.out).row H.out.row (by simp), (H.out.stp.imp fun ss h => (KT.of_below (p := []) KW.out).row h (by simp)), (fun v hv => absurd hv (by simp)), H.out.dis, H.out.disN, H.out.rts, H.out.rtn⟩⟩
  have c0 : w1.cell? ⟨g, 0, none⟩ = some (.slice ao 0 co) := (blk_cell H1.out.blk 0).trans rfl
  clear hw1 hgl
  go_wp2_with (fail)
  refine bodyPost_ret (results_none (by rfl) _ _ _) rfl ?_
  exact ⟨rfl, H1.out, KW.out.mono HB.out, KT.of_below KW.out⟩
set_option maxHeartbeats 16000000 in
set_option maxRecDepth 100000 in
/-- The root closes. -/
theorem btake_root {B : Nat} {W : World} {g : Nat} {ov sv : Value} {l1 : List OV} {v : OV} {rt : OV} {dn : Bool} (h : Bx B W g ov sv (l1 ++ [v]) rt dn) (hB : B ≤ W.heap.size) (hn : l1.length ≤ 1000000) (hit : ∀ u ∈ l1 ++ [v], u.nit ≤ 1000000) (e : Ev) (hk : e.kind = 2) (h0 : l1 = []) :
    Calls Tryd.prog 116 #[.pointer (some ⟨g, 0, none⟩), .agg (evCells e).toArray] W fun x w' => x = .returned (.tuple #[]) ∧ (∃ ov' sv', Bx B w' g ov' sv' [] (fv v e) true) ∧ Below B W w' ∧ KT [120, 68, 26, 9] W w' := by
  obtain ⟨vk, vf, vt, vx, vi, vn, vm, vq⟩ := v
  obtain ⟨⟨xi, hxi⟩, ⟨yi, hyi⟩, hvq⟩ := h.its ⟨vk, vf, vt, vx, vi, vn, vm, vq⟩ (by simp)
  obtain ⟨ai, ci, rfl⟩ : ∃ a c, vi = .slice a vn c := own_sl hxi
  obtain ⟨am, cm, rfl⟩ : ∃ a c, vm = .slice a vq c := own_sl hyi
  have H := Aside0.mk h
  have HB := Aside0.mk hB
  have HK := Aside0.mk hk
  have HIT := Aside0.mk hit
  clear hxi hyi hvq xi yi
  obtain ⟨k, hkk⟩ : ∃ k, k = l1.length := ⟨_, rfl⟩
  obtain ⟨n, hnn⟩ : ∃ n, n = k + 1 := ⟨_, rfl⟩
  have hnl : n = (l1 ++ [(⟨vk, vf, vt, vx, .slice ai vn ci, vn, .slice am vq cm, vq⟩ : OV)]).length := by rw [hnn, hkk]; simp
  have hkb : k ≤ 1000000 := by rw [hkk]; exact hn
  have HK6 := Aside0.mk hkb
  have hrow := h.row
  obtain ⟨ss, hss⟩ := h.stp
  have hblk := h.blk
  rw [← hnl] at hrow hss
  obtain ⟨go_, co, rfl⟩ := own_some (by rw [hnn] at hrow; exact hrow)
  obtain ⟨gs, cs, rfl⟩ := own_some (by rw [hnn] at hss; exact hss)
  rw [← hnn] at hrow hss hblk
  have hcap1 := Nx.own_cap hrow
  have hcap2 := Nx.own_cap hss
  have n1 : wrap64 ((n : Int) - 1) = (k : Int) := by unfold wrap64; omega
  have n2 : (0 : Int) ≤ (k : Int) := by omega
  have n3 : (k : Int) < (n : Int) := by omega
  have n4 : (k < n) = True := eq_true (by omega)
  have n5 : (n : Int) - 1 = (k : Int) := by omega
  have n6 : IntKind.i64.wrap (k : Int) = (k : Int) := IntWalk.i64_in _ (by omega)
  have n7 : k ≤ n := by omega
  have n8 : k ≤ co := by omega
  have n9 : (k : Int) ≤ (co : Int) := by omega
  have n10 : (k : Int) ≤ (n : Int) := by omega
  have n11 : k ≤ cs := by omega
  have n12 : (k : Int) ≤ (cs : Int) := by omega
  have n13 : decide ((k : Int) < 0) = false := by simp
  have RW := Aside0.mk hrow
  have SW := Aside0.mk hss
  have GW := Aside0.mk hblk
  have HKK := Aside0.mk (And.intro hkk (And.intro hnn hnl))
  have hgl := blk_lt h.blk
  clear h hB hk hn hit hkk hnn hnl hkb hrow hss hblk hcap1 hcap2
  go_enter Tryd.func116, Tryd.ntmps116
  go_upto_region 1 with (fail)
  generalize hw1 : World.alloc W _ = w1
  have KW : Aside0 (Below W.heap.size W w1) := ⟨by subst hw1; exact below_alloc (Below.refl _ _) _⟩
  have SZ1 : Aside0 (w1.heap.size = W.heap.size + 1) := ⟨by subst hw1; simp⟩
  have BD : Aside0 (w1.heap[W.heap.size]? = some (.cells (evCells e).toArray 62 (0, 0))) := ⟨by subst hw1; exact blk_new W _⟩
  have k0 : w1.cell? ⟨W.heap.size, 0, none⟩ = some (.int .i64 2) := by rw [← HK.out]; exact (ev_cells BD.out).1
  have G1 : Aside0 (w1.heap[g]? = some (.cells (bcs (.slice (some ⟨gs, 0, none⟩) n cs) rt dn (.slice (some ⟨go_, 0, none⟩) n co)) 120 (0, 0))) := ⟨(KT.of_below (p := []) KW.out).blk GW.out (by simp)⟩
  have R1 : Aside0 (w1.ownsRow B 68 6 (.slice (some ⟨go_, 0, none⟩) n co) n ((l1 ++ [(⟨vk, vf, vt, vx, .slice ai vn ci, vn, .slice am vq cm, vq⟩ : OV)]).flatMap ovCells)) := ⟨(KT.of_below (p := []) KW.out).row RW.out (by simp)⟩
  have c0 : w1.cell? ⟨g, 0, none⟩ = some (.slice (some ⟨go_, 0, none⟩) n co) := (blk_cell G1.out 0).trans rfl
  obtain ⟨b, hb⟩ : ∃ b, b = W.heap.size := ⟨_, rfl⟩
  rw [← hb] at BD k0 ⊢
  have HBB := Aside0.mk hb
  have HVK : Aside0 ((l1 ++ [(⟨vk, vf, vt, vx, .slice ai vn ci, vn, .slice am vq cm, vq⟩ : OV)])[k]? = some (⟨vk, vf, vt, vx, .slice ai vn ci, vn, .slice am vq cm, vq⟩ : OV)) := ⟨by rw [HKK.out.1]; simp⟩
  clear hw1 hb
  have v0 : w1.cell? ⟨go_, k * 6, none⟩ = some (.int .i64 vk) := LxA.own_cell R1.out (k * 6 + 0) _ (by rw [flat_ov _ k 0 (⟨vk, vf, vt, vx, .slice ai vn ci, vn, .slice am vq cm, vq⟩ : OV) HVK.out (by omega)]; rfl)
  have v1 : w1.cell? ⟨go_, k * 6 + 1, none⟩ = some (.int .i64 vf) := LxA.own_cell R1.out (k * 6 + 1) _ (by rw [flat_ov _ k 1 (⟨vk, vf, vt, vx, .slice ai vn ci, vn, .slice am vq cm, vq⟩ : OV) HVK.out (by omega)]; rfl)
  have v2 : w1.cell? ⟨go_, k * 6 + 2, none⟩ = some (.int .i64 vt) := LxA.own_cell R1.out (k * 6 + 2) _ (by rw [flat_ov _ k 2 (⟨vk, vf, vt, vx, .slice ai vn ci, vn, .slice am vq cm, vq⟩ : OV) HVK.out (by omega)]; rfl)
  have v3 : w1.cell? ⟨go_, k * 6 + 3, none⟩ = some (.string vx) := LxA.own_cell R1.out (k * 6 + 3) _ (by rw [flat_ov _ k 3 (⟨vk, vf, vt, vx, .slice ai vn ci, vn, .slice am vq cm, vq⟩ : OV) HVK.out (by omega)]; rfl)
  have v4 : w1.cell? ⟨go_, k * 6 + 4, none⟩ = some (.slice ai vn ci) := LxA.own_cell R1.out (k * 6 + 4) _ (by rw [flat_ov _ k 4 (⟨vk, vf, vt, vx, .slice ai vn ci, vn, .slice am vq cm, vq⟩ : OV) HVK.out (by omega)]; rfl)
  have v5 : w1.cell? ⟨go_, k * 6 + 5, none⟩ = some (.slice am vq cm) := LxA.own_cell R1.out (k * 6 + 5) _ (by rw [flat_ov _ k 5 (⟨vk, vf, vt, vx, .slice ai vn ci, vn, .slice am vq cm, vq⟩ : OV) HVK.out (by omega)]; rfl)
  go_upto_region 7 with (fail)
  generalize hw2 : World.alloc w1 _ = w2
  have BV : Aside0 (w2.heap[w1.heap.size]? = some (.cells #[.int .i64 vk, .int .i64 vf, .int .i64 vt, .string vx, .slice ai vn ci, .slice am vq cm] 68 (0, 0))) := ⟨by subst hw2; exact blk_new w1 _⟩
  have KV : Aside0 (Below w1.heap.size w1 w2) := ⟨by subst hw2; exact below_alloc (Below.refl _ _) _⟩
  have SZ2 : Aside0 (w2.heap.size = w1.heap.size + 1) := ⟨by subst hw2; simp⟩
  clear hw2 v0 v1 v2 v3 v4 v5 c0 k0
  have G2 : Aside0 (w2.heap[g]? = some (.cells (bcs (.slice (some ⟨gs, 0, none⟩) n cs) rt dn (.slice (some ⟨go_, 0, none⟩) n co)) 120 (0, 0))) := ⟨(KT.of_below (p := []) KV.out).blk G1.out (by simp)⟩
  have E2 : Aside0 (w2.heap[b]? = some (.cells (evCells e).toArray 62 (0, 0))) := ⟨(KT.of_below (p := []) KV.out).blk BD.out (by simp)⟩
  have KW2 : Aside0 (Below W.heap.size W w2) := ⟨KW.out.trans (KV.out.mono (by have := SZ1.out; omega))⟩
  have LBV : Aside0 (b < w1.heap.size ∧ W.heap.size ≤ b ∧ g < b ∧ go_ < b ∧ gs < b) := ⟨by have := SZ1.out; have := HBB.out; have := blk_lt GW.out; have := (own_blk RW.out go_ rfl).2; have := (own_blk SW.out gs rfl).2; omega⟩
  obtain ⟨bv, hbv⟩ : ∃ bv, bv = w1.heap.size := ⟨_, rfl⟩
  rw [← hbv] at BV LBV SZ2 ⊢
  clear hbv KV G1 BD R1 SZ1 KW HVK
  have c0 : w2.cell? ⟨g, 0, none⟩ = some (.slice (some ⟨go_, 0, none⟩) n co) := (blk_cell G2.out 0).trans rfl
  have c1 : w2.cell? ⟨g, 1, none⟩ = some (.slice (some ⟨gs, 0, none⟩) n cs) := (blk_cell G2.out 1).trans rfl
  have y0 := blk_frozen G2.out 0
  have y1 := blk_frozen G2.out 1
  refine ListedB.wp_region_listed (G := []) (by kernel_rfl) (by kernel_rfl) ?_
  go_wp2_with (fail)
  refine ListedB.fin_intro (by kernel_rfl) ?_
  go_upto_region 8 with (fail)
  generalize hw3 : World.setCell _ ⟨g, 1, none⟩ _ = w3
  have X3 : Aside0 (Six g w2 w3) := ⟨by subst hw3; exact ((Six.refl g w2).set 0 _).set 1 _⟩
  have G3 : Aside0 (w3.heap[g]? = some (.cells (bcs (.slice (some ⟨gs, 0, none⟩) k cs) rt dn (.slice (some ⟨go_, 0, none⟩) k co)) 120 (0, 0))) := ⟨by subst hw3; simpa [bcs] using blk_set (blk_set G2.out 0 (.slice (some ⟨go_, 0, none⟩) k co)) 1 (.slice (some ⟨gs, 0, none⟩) k cs)⟩
  have GD : Aside0 (w3.drew.drew.heap[g]? = some (.cells (bcs (.slice (some ⟨gs, 0, none⟩) k cs) rt dn (.slice (some ⟨go_, 0, none⟩) k co)) 120 (0, 0))) := ⟨G3.out⟩
  have ED : Aside0 (w3.drew.drew.heap[b]? = some (.cells (evCells e).toArray 62 (0, 0))) := ⟨(X3.out.block b (by have := LBV.out; omega)).trans E2.out⟩
  have VD : Aside0 (w3.drew.drew.heap[bv]? = some (.cells #[.int .i64 vk, .int .i64 vf, .int .i64 vt, .string vx, .slice ai vn ci, .slice am vq cm] 68 (0, 0))) := ⟨(X3.out.block bv (by have := LBV.out; omega)).trans BV.out⟩
  have LD : Aside0 (Below B W w3.drew.drew) := ⟨((KW2.out.mono HB.out).trans (X3.out.bel B H.out.ge)).drew.drew⟩
  have KD : Aside0 (∀ k, k < W.heap.size → k ≠ g → w3.drew.drew.heap[k]? = W.heap[k]?) := ⟨fun k hk h1 => (X3.out.block k h1).trans (KW2.out.block k hk)⟩
  have TD : Aside0 (KT [120] W w3.drew.drew) := ⟨((KT.of_below KW2.out).trans (X3.out.kt G2.out)).trans (KT.of_below (Below.refl _ _).drew.drew)⟩
  have QD : Aside0 (bv < w3.drew.drew.heap.size) := ⟨by have := X3.out.size; have := SZ2.out; show bv < w3.heap.size; omega⟩
  have CS : Aside0 (w3.drew.drew.cell? ⟨b, 1, none⟩ = some (.int .i64 e.value) ∧ w3.drew.drew.cell? ⟨b, 3, none⟩ = some (.int .i64 (e.til : Int)) ∧ w3.drew.drew.cell? ⟨b, 7, none⟩ = some (.string e.text)) := ⟨(ev_cells ED.out).2.1, (ev_cells ED.out).2.2.2.1, (ev_cells ED.out).2.2.2.2.2.2.2⟩
  clear hw3 X3 G3 G2 E2 BV c0 c1 y0 y1 KW2 SZ2
  refine start_ (n := 12) (S := fun w' => w'.cell? ⟨b, 1, none⟩ = some (.int .i64 e.value) ∧ w'.cell? ⟨b, 3, none⟩ = some (.int .i64 (e.til : Int)) ∧ w'.cell? ⟨b, 7, none⟩ = some (.string e.text)) (ds := []) #[false, false, false, false, false, false, false, false, false, false, false, false] (by kernel_rfl) rfl rfl ⟨CS.out.1, CS.out.2.1, CS.out.2.2⟩ (fun hHeld => ?_)
  generalize hwd_ : w3.drew.drew = wD at CS GD ED VD LD KD TD QD hHeld ⊢
  clear hwd_
  refine pure_ (i := 0) (N := some 68) (v := ?_) (a' := ?_) #[true, false, false, false, false, false, false, false, false, false, false, false] rfl rfl (by kernel_rfl) (fun _ _ _ h => h) (Or.inl ⟨by rfl, ?_⟩) ?_ ?_
  rotate_left
  · intro w'
    go_simp
    with_reducible rfl
  rotate_left
  · simp only [Act.put, List.setIfInBounds_toArray, List.set_cons_zero, List.set_cons_succ, i64_w, i32_w]
    rfl
  refine pure_ (i := 2) (N := some 70) (v := ?_) (a' := ?_) #[true, false, true, false, false, false, false, false, false, false, false, false] rfl rfl (by kernel_rfl) (fun _ _ _ h => h) (Or.inl ⟨by rfl, ?_⟩) ?_ ?_
  rotate_left
  · intro w'
    go_simp
    with_reducible rfl
  rotate_left
  · simp only [Act.put, List.setIfInBounds_toArray, List.set_cons_zero, List.set_cons_succ, i64_w, i32_w]
    rfl
  refine pure_ (i := 4) (N := some 72) (v := ?_) (a' := ?_) #[true, false, true, false, true, false, false, false, false, false, false, false] rfl rfl (by kernel_rfl) (fun _ _ _ h => h) (Or.inl ⟨by rfl, ?_⟩) ?_ ?_
  rotate_left
  · intro w'
    go_simp
    with_reducible rfl
  rotate_left
  · simp only [Act.put, List.setIfInBounds_toArray, List.set_cons_zero, List.set_cons_succ, i64_w, i32_w]
    rfl
  refine take_ (i := 1) (N := some 69) (v := ?_) (a' := ?_) #[true, true, true, false, true, false, false, false, false, false, false, false] rfl rfl (by kernel_rfl) (fun _ _ _ h => h) (Or.inl ⟨by rfl, ?_⟩) hHeld ?_ ?_
  rotate_left
  · rintro w' ⟨s0, s1, s2⟩
    go_simp
    with_reducible rfl
  rotate_left
  · simp only [Act.put, List.setIfInBounds_toArray, List.set_cons_zero, List.set_cons_succ, i64_w, i32_w]
    rfl
  refine pure_ (i := 6) (N := some 74) (v := ?_) (a' := ?_) #[true, true, true, false, true, false, true, false, false, false, false, false] rfl rfl (by kernel_rfl) (fun _ _ _ h => h) (Or.inl ⟨by rfl, ?_⟩) ?_ ?_
  rotate_left
  · intro w'
    go_simp
    with_reducible rfl
  rotate_left
  · simp only [Act.put, List.setIfInBounds_toArray, List.set_cons_zero, List.set_cons_succ, i64_w, i32_w]
    rfl
  refine take_ (i := 3) (N := some 71) (v := ?_) (a' := ?_) #[true, true, true, true, true, false, true, false, false, false, false, false] rfl rfl (by kernel_rfl) (fun _ _ _ h => h) (Or.inl ⟨by rfl, ?_⟩) hHeld ?_ ?_
  rotate_left
  · rintro w' ⟨s0, s1, s2⟩
    go_simp
    with_reducible rfl
  rotate_left
  · simp only [Act.put, List.setIfInBounds_toArray, List.set_cons_zero, List.set_cons_succ, i64_w, i32_w]
    rfl
  refine take_ (i := 5) (N := some 73) (v := ?_) (a' := ?_) #[true, true, true, true, true, true, true, false, false, false, false, false] rfl rfl (by kernel_rfl) (fun _ _ _ h => h) (Or.inl ⟨by rfl, ?_⟩) hHeld ?_ ?_
  rotate_left
  · rintro w' ⟨s0, s1, s2⟩
    go_simp
    with_reducible rfl
  rotate_left
  · simp only [Act.put, List.setIfInBounds_toArray, List.set_cons_zero, List.set_cons_succ, i64_w, i32_w]
    rfl
  refine one_ (i := 7) (N := none) #[true, true, true, true, true, true, true, true, false, false, false, false] rfl rfl (by kernel_rfl) (by decide) (fun K hK => ?_)
  have x_ := (blk_cell VD.out 0).trans rfl
  have y_ := blk_frozen VD.out 0
  refine skip_ (w1 := ?_) (by rfl) rfl ?_ ?_
  rotate_left
  · go_simp
    rfl
  generalize hg_ : World.setCell wD ⟨bv, 0, none⟩ _ = wE
  have VE : Aside0 (wE.heap[bv]? = some (.cells #[.int .i64 e.value, .int .i64 vf, .int .i64 vt, .string vx, .slice ai vn ci, .slice am vq cm] 68 (0, 0))) := ⟨by subst hg_; simpa using blk_set VD.out 0 (.int .i64 e.value)⟩
  have XVE : Aside0 (Six bv wD wE) := ⟨by subst hg_; exact (Six.refl bv wD).set 0 _⟩
  clear hg_ x_ y_
  refine hK.out _ _ ⟨(pw_cell_six XVE.out (by have := LBV.out; omega) CS.out.1), (pw_cell_six XVE.out (by have := LBV.out; omega) CS.out.2.1), (pw_cell_six XVE.out (by have := LBV.out; omega) CS.out.2.2)⟩ (fun hHeld => ?_)
  clear hK K
  refine pure_ (i := 8) (N := some 75) (v := ?_) (a' := ?_) #[true, true, true, true, true, true, true, true, true, false, false, false] rfl rfl (by kernel_rfl) (fun _ _ _ h => h) (Or.inl ⟨by rfl, ?_⟩) ?_ ?_
  rotate_left
  · intro w'
    go_simp
    with_reducible rfl
  rotate_left
  · simp only [Act.put, List.setIfInBounds_toArray, List.set_cons_zero, List.set_cons_succ, i64_w, i32_w]
    rfl
  refine one_ (i := 9) (N := none) #[true, true, true, true, true, true, true, true, true, true, false, false] rfl rfl (by kernel_rfl) (by decide) (fun K hK => ?_)
  have x_ := (blk_cell VE.out 2).trans rfl
  have y_ := blk_frozen VE.out 2
  refine skip_ (w1 := ?_) (by rfl) rfl ?_ ?_
  rotate_left
  · go_simp
    rfl
  generalize hg_ : World.setCell wE ⟨bv, 2, none⟩ _ = wF
  have VF : Aside0 (wF.heap[bv]? = some (.cells #[.int .i64 e.value, .int .i64 vf, .int .i64 (e.til : Int), .string vx, .slice ai vn ci, .slice am vq cm] 68 (0, 0))) := ⟨by subst hg_; simpa using blk_set VE.out 2 (.int .i64 (e.til : Int))⟩
  have XVF : Aside0 (Six bv wD wF) := ⟨by subst hg_; exact XVE.out.set 2 _⟩
  clear hg_ x_ y_
  refine hK.out _ _ ⟨(pw_cell_six XVF.out (by have := LBV.out; omega) CS.out.1), (pw_cell_six XVF.out (by have := LBV.out; omega) CS.out.2.1), (pw_cell_six XVF.out (by have := LBV.out; omega) CS.out.2.2)⟩ (fun hHeld => ?_)
  clear hK K
  refine pure_ (i := 10) (N := some 76) (v := ?_) (a' := ?_) #[true, true, true, true, true, true, true, true, true, true, true, false] rfl rfl (by kernel_rfl) (fun _ _ _ h => h) (Or.inl ⟨by rfl, ?_⟩) ?_ ?_
  rotate_left
  · intro w'
    go_simp
    with_reducible rfl
  rotate_left
  · simp only [Act.put, List.setIfInBounds_toArray, List.set_cons_zero, List.set_cons_succ, i64_w, i32_w]
    rfl
  refine one_ (i := 11) (N := none) #[true, true, true, true, true, true, true, true, true, true, true, true] rfl rfl (by kernel_rfl) (by decide) (fun K hK => ?_)
  have x_ := (blk_cell VF.out 3).trans rfl
  have y_ := blk_frozen VF.out 3
  refine skip_ (w1 := ?_) (by rfl) rfl ?_ ?_
  rotate_left
  · go_simp
    rfl
  generalize hg_ : World.setCell wF ⟨bv, 3, none⟩ _ = wG
  have VG : Aside0 (wG.heap[bv]? = some (.cells #[.int .i64 e.value, .int .i64 vf, .int .i64 (e.til : Int), .string e.text, .slice ai vn ci, .slice am vq cm] 68 (0, 0))) := ⟨by subst hg_; simpa using blk_set VF.out 3 (.string e.text)⟩
  have XVG : Aside0 (Six bv wD wG) := ⟨by subst hg_; exact XVF.out.set 3 _⟩
  clear hg_ x_ y_
  refine hK.out _ _ ⟨(pw_cell_six XVG.out (by have := LBV.out; omega) CS.out.1), (pw_cell_six XVG.out (by have := LBV.out; omega) CS.out.2.1), (pw_cell_six XVG.out (by have := LBV.out; omega) CS.out.2.2)⟩ (fun hHeld => ?_)
  clear hK K
  refine done_ (by kernel_rfl) ?_
  have hk0 : k = 0 := by rw [HKK.out.1, h0]; rfl
  have q1 : decide ((k : Int) = 0) = true := by simp [hk0]
  have q2 : ((k : Int) == 0) = true := by simp [hk0]
  have GG : Aside0 (wG.heap[g]? = some (.cells (bcs (.slice (some ⟨gs, 0, none⟩) k cs) rt dn (.slice (some ⟨go_, 0, none⟩) k co)) 120 (0, 0))) := ⟨(XVG.out.block g (by have := LBV.out; omega)).trans GD.out⟩
  have VD0 := VD
  clear VD VE VF XVE XVF hHeld
  have v0 := (blk_cell VG.out 0).trans rfl
  have v1 := (blk_cell VG.out 1).trans rfl
  have v2 := (blk_cell VG.out 2).trans rfl
  have v3 := (blk_cell VG.out 3).trans rfl
  have v4 := (blk_cell VG.out 4).trans rfl
  have v5 := (blk_cell VG.out 5).trans rfl
  have r2 : wG.cell? ⟨g, 2, none⟩ = some (.int .i64 rt.kind) := (blk_cell GG.out 2).trans rfl
  have y2 := blk_frozen GG.out 2
  have r3 : wG.cell? ⟨g, 3, none⟩ = some (.int .i64 rt.frm) := (blk_cell GG.out 3).trans rfl
  have y3 := blk_frozen GG.out 3
  have r4 : wG.cell? ⟨g, 4, none⟩ = some (.int .i64 rt.til) := (blk_cell GG.out 4).trans rfl
  have y4 := blk_frozen GG.out 4
  have r5 : wG.cell? ⟨g, 5, none⟩ = some (.string rt.text) := (blk_cell GG.out 5).trans rfl
  have y5 := blk_frozen GG.out 5
  have r6 : wG.cell? ⟨g, 6, none⟩ = some rt.itv := (blk_cell GG.out 6).trans rfl
  have y6 := blk_frozen GG.out 6
  have r7 : wG.cell? ⟨g, 7, none⟩ = some rt.nmv := (blk_cell GG.out 7).trans rfl
  have y7 := blk_frozen GG.out 7
  have r8 : wG.cell? ⟨g, 8, none⟩ = some (.bool dn) := (blk_cell GG.out 8).trans rfl
  have y8 := blk_frozen GG.out 8
  go_wp2_with (fail)
  refine bodyPost_ret (results_none (by rfl) _ _ _) rfl ?_
  generalize hwH : World.setCell _ ⟨g, 8, none⟩ _ = wH
  have XH : Six g wG wH := by subst hwH; exact (((((((Six.refl g wG).set 2 _).set 3 _).set 4 _).set 5 _).set 6 _).set 7 _).set 8 _
  have GH : wH.heap[g]? = some (.cells (bcs (.slice (some ⟨gs, 0, none⟩) k cs) ⟨e.value, vf, e.til, e.text, .slice ai vn ci, vn, .slice am vq cm, vq⟩ true (.slice (some ⟨go_, 0, none⟩) k co)) 120 (0, 0)) := by
    subst hwH
    simpa [bcs] using blk_set (blk_set (blk_set (blk_set (blk_set (blk_set (blk_set GG.out 2 (.int .i64 e.value)) 3 (.int .i64 vf)) 4 (.int .i64 (e.til : Int))) 5 (.string e.text)) 6 (.slice ai vn ci)) 7 (.slice am vq cm)) 8 (.bool true)
  have TT : KT [120, 68] W wH := ((TD.out.mono (by simp)).trans ((XVG.out.kt VD0.out).mono (by simp))).trans ((XH.kt GG.out).mono (by simp))
  have KK : ∀ j, j < W.heap.size → j ≠ g → wH.heap[j]? = W.heap[j]? := fun j hj h1 => (XH.block j h1).trans ((XVG.out.block j (by have := LBV.out; omega)).trans (KD.out j hj h1))
  subst hk0
  refine ⟨rfl, ⟨.slice (some ⟨go_, 0, none⟩) 0 co, .slice (some ⟨gs, 0, none⟩) 0 cs, GH, H.out.ge, ?_, ⟨[], ?_⟩, fun u hu => by simp at hu, by simp, by simp, ⟨_, _, rfl⟩, ⟨_, _, _, rfl⟩⟩, (LD.out.trans (XVG.out.bel B (by have := LBV.out; have := HB.out; omega))).trans (XH.bel B H.out.ge), TT.mono (by simp)⟩
  · have h1 := Nx.own_short (LxA.own_more RW.out (fun j hj => KK j (own_blk RW.out j hj).2 (fun e => by subst e; exact ne_row RW.out GW.out (by decide) hj))) (Nat.zero_le n)
    simpa using h1
  · have h1 := Nx.own_short (TT.row SW.out (by decide)) (Nat.zero_le n)
    simpa using h1
set_option maxHeartbeats 16000000 in
set_option maxRecDepth 100000 in
/-- The value in another closes. -/
theorem btake_put {B : Nat} {W : World} {g : Nat} {ov sv : Value} {l1 : List OV} {v : OV} {rt : OV} {dn : Bool} (h : Bx B W g ov sv (l1 ++ [v]) rt dn) (hB : B ≤ W.heap.size) (hn : l1.length ≤ 1000000) (hit : ∀ u ∈ l1 ++ [v], u.nit ≤ 1000000) (e : Ev) (hk : e.kind = 2) (l2 : List OV) (p : OV) (h0 : l1 = l2 ++ [p]) :
    Calls Tryd.prog 116 #[.pointer (some ⟨g, 0, none⟩), .agg (evCells e).toArray] W fun x w' => x = .returned (.tuple #[]) ∧ (∃ ov' sv' it nm m, Bx B w' g ov' sv' (l2 ++ [⟨p.kind, p.frm, p.til, p.text, it, p.nit + 1, nm, m⟩]) rt dn) ∧ Below B W w' ∧ KT [120, 68, 26, 9] W w' := by
  obtain ⟨vk, vf, vt, vx, vi, vn, vm, vq⟩ := v
  obtain ⟨⟨xi, hxi⟩, ⟨yi, hyi⟩, hvq⟩ := h.its ⟨vk, vf, vt, vx, vi, vn, vm, vq⟩ (by simp)
  obtain ⟨ai, ci, rfl⟩ : ∃ a c, vi = .slice a vn c := own_sl hxi
  obtain ⟨am, cm, rfl⟩ : ∃ a c, vm = .slice a vq c := own_sl hyi
  have H := Aside0.mk h
  have HB := Aside0.mk hB
  have HK := Aside0.mk hk
  have HIT := Aside0.mk hit
  clear hxi hyi hvq xi yi
  obtain ⟨k, hkk⟩ : ∃ k, k = l1.length := ⟨_, rfl⟩
  obtain ⟨n, hnn⟩ : ∃ n, n = k + 1 := ⟨_, rfl⟩
  have hnl : n = (l1 ++ [(⟨vk, vf, vt, vx, .slice ai vn ci, vn, .slice am vq cm, vq⟩ : OV)]).length := by rw [hnn, hkk]; simp
  have hkb : k ≤ 1000000 := by rw [hkk]; exact hn
  have HK6 := Aside0.mk hkb
  have hrow := h.row
  obtain ⟨ss, hss⟩ := h.stp
  have hblk := h.blk
  rw [← hnl] at hrow hss
  obtain ⟨go_, co, rfl⟩ := own_some (by rw [hnn] at hrow; exact hrow)
  obtain ⟨gs, cs, rfl⟩ := own_some (by rw [hnn] at hss; exact hss)
  rw [← hnn] at hrow hss hblk
  have hcap1 := Nx.own_cap hrow
  have hcap2 := Nx.own_cap hss
  have n1 : wrap64 ((n : Int) - 1) = (k : Int) := by unfold wrap64; omega
  have n2 : (0 : Int) ≤ (k : Int) := by omega
  have n3 : (k : Int) < (n : Int) := by omega
  have n4 : (k < n) = True := eq_true (by omega)
  have n5 : (n : Int) - 1 = (k : Int) := by omega
  have n6 : IntKind.i64.wrap (k : Int) = (k : Int) := IntWalk.i64_in _ (by omega)
  have n7 : k ≤ n := by omega
  have n8 : k ≤ co := by omega
  have n9 : (k : Int) ≤ (co : Int) := by omega
  have n10 : (k : Int) ≤ (n : Int) := by omega
  have n11 : k ≤ cs := by omega
  have n12 : (k : Int) ≤ (cs : Int) := by omega
  have n13 : decide ((k : Int) < 0) = false := by simp
  have RW := Aside0.mk hrow
  have SW := Aside0.mk hss
  have GW := Aside0.mk hblk
  have HKK := Aside0.mk (And.intro hkk (And.intro hnn hnl))
  have hgl := blk_lt h.blk
  clear h hB hk hn hit hkk hnn hnl hkb hrow hss hblk hcap1 hcap2
  go_enter Tryd.func116, Tryd.ntmps116
  go_upto_region 1 with (fail)
  generalize hw1 : World.alloc W _ = w1
  have KW : Aside0 (Below W.heap.size W w1) := ⟨by subst hw1; exact below_alloc (Below.refl _ _) _⟩
  have SZ1 : Aside0 (w1.heap.size = W.heap.size + 1) := ⟨by subst hw1; simp⟩
  have BD : Aside0 (w1.heap[W.heap.size]? = some (.cells (evCells e).toArray 62 (0, 0))) := ⟨by subst hw1; exact blk_new W _⟩
  have k0 : w1.cell? ⟨W.heap.size, 0, none⟩ = some (.int .i64 2) := by rw [← HK.out]; exact (ev_cells BD.out).1
  have G1 : Aside0 (w1.heap[g]? = some (.cells (bcs (.slice (some ⟨gs, 0, none⟩) n cs) rt dn (.slice (some ⟨go_, 0, none⟩) n co)) 120 (0, 0))) := ⟨(KT.of_below (p := []) KW.out).blk GW.out (by simp)⟩
  have R1 : Aside0 (w1.ownsRow B 68 6 (.slice (some ⟨go_, 0, none⟩) n co) n ((l1 ++ [(⟨vk, vf, vt, vx, .slice ai vn ci, vn, .slice am vq cm, vq⟩ : OV)]).flatMap ovCells)) := ⟨(KT.of_below (p := []) KW.out).row RW.out (by simp)⟩
  have c0 : w1.cell? ⟨g, 0, none⟩ = some (.slice (some ⟨go_, 0, none⟩) n co) := (blk_cell G1.out 0).trans rfl
  obtain ⟨b, hb⟩ : ∃ b, b = W.heap.size := ⟨_, rfl⟩
  rw [← hb] at BD k0 ⊢
  have HBB := Aside0.mk hb
  have HVK : Aside0 ((l1 ++ [(⟨vk, vf, vt, vx, .slice ai vn ci, vn, .slice am vq cm, vq⟩ : OV)])[k]? = some (⟨vk, vf, vt, vx, .slice ai vn ci, vn, .slice am vq cm, vq⟩ : OV)) := ⟨by rw [HKK.out.1]; simp⟩
  clear hw1 hb
  have v0 : w1.cell? ⟨go_, k * 6, none⟩ = some (.int .i64 vk) := LxA.own_cell R1.out (k * 6 + 0) _ (by rw [flat_ov _ k 0 (⟨vk, vf, vt, vx, .slice ai vn ci, vn, .slice am vq cm, vq⟩ : OV) HVK.out (by omega)]; rfl)
  have v1 : w1.cell? ⟨go_, k * 6 + 1, none⟩ = some (.int .i64 vf) := LxA.own_cell R1.out (k * 6 + 1) _ (by rw [flat_ov _ k 1 (⟨vk, vf, vt, vx, .slice ai vn ci, vn, .slice am vq cm, vq⟩ : OV) HVK.out (by omega)]; rfl)
  have v2 : w1.cell? ⟨go_, k * 6 + 2, none⟩ = some (.int .i64 vt) := LxA.own_cell R1.out (k * 6 + 2) _ (by rw [flat_ov _ k 2 (⟨vk, vf, vt, vx, .slice ai vn ci, vn, .slice am vq cm, vq⟩ : OV) HVK.out (by omega)]; rfl)
  have v3 : w1.cell? ⟨go_, k * 6 + 3, none⟩ = some (.string vx) := LxA.own_cell R1.out (k * 6 + 3) _ (by rw [flat_ov _ k 3 (⟨vk, vf, vt, vx, .slice ai vn ci, vn, .slice am vq cm, vq⟩ : OV) HVK.out (by omega)]; rfl)
  have v4 : w1.cell? ⟨go_, k * 6 + 4, none⟩ = some (.slice ai vn ci) := LxA.own_cell R1.out (k * 6 + 4) _ (by rw [flat_ov _ k 4 (⟨vk, vf, vt, vx, .slice ai vn ci, vn, .slice am vq cm, vq⟩ : OV) HVK.out (by omega)]; rfl)
  have v5 : w1.cell? ⟨go_, k * 6 + 5, none⟩ = some (.slice am vq cm) := LxA.own_cell R1.out (k * 6 + 5) _ (by rw [flat_ov _ k 5 (⟨vk, vf, vt, vx, .slice ai vn ci, vn, .slice am vq cm, vq⟩ : OV) HVK.out (by omega)]; rfl)
  go_upto_region 7 with (fail)
  generalize hw2 : World.alloc w1 _ = w2
  have BV : Aside0 (w2.heap[w1.heap.size]? = some (.cells #[.int .i64 vk, .int .i64 vf, .int .i64 vt, .string vx, .slice ai vn ci, .slice am vq cm] 68 (0, 0))) := ⟨by subst hw2; exact blk_new w1 _⟩
  have KV : Aside0 (Below w1.heap.size w1 w2) := ⟨by subst hw2; exact below_alloc (Below.refl _ _) _⟩
  have SZ2 : Aside0 (w2.heap.size = w1.heap.size + 1) := ⟨by subst hw2; simp⟩
  clear hw2 v0 v1 v2 v3 v4 v5 c0 k0
  have G2 : Aside0 (w2.heap[g]? = some (.cells (bcs (.slice (some ⟨gs, 0, none⟩) n cs) rt dn (.slice (some ⟨go_, 0, none⟩) n co)) 120 (0, 0))) := ⟨(KT.of_below (p := []) KV.out).blk G1.out (by simp)⟩
  have E2 : Aside0 (w2.heap[b]? = some (.cells (evCells e).toArray 62 (0, 0))) := ⟨(KT.of_below (p := []) KV.out).blk BD.out (by simp)⟩
  have KW2 : Aside0 (Below W.heap.size W w2) := ⟨KW.out.trans (KV.out.mono (by have := SZ1.out; omega))⟩
  have LBV : Aside0 (b < w1.heap.size ∧ W.heap.size ≤ b ∧ g < b ∧ go_ < b ∧ gs < b) := ⟨by have := SZ1.out; have := HBB.out; have := blk_lt GW.out; have := (own_blk RW.out go_ rfl).2; have := (own_blk SW.out gs rfl).2; omega⟩
  obtain ⟨bv, hbv⟩ : ∃ bv, bv = w1.heap.size := ⟨_, rfl⟩
  rw [← hbv] at BV LBV SZ2 ⊢
  clear hbv KV G1 BD R1 SZ1 KW HVK
  have c0 : w2.cell? ⟨g, 0, none⟩ = some (.slice (some ⟨go_, 0, none⟩) n co) := (blk_cell G2.out 0).trans rfl
  have c1 : w2.cell? ⟨g, 1, none⟩ = some (.slice (some ⟨gs, 0, none⟩) n cs) := (blk_cell G2.out 1).trans rfl
  have y0 := blk_frozen G2.out 0
  have y1 := blk_frozen G2.out 1
  refine ListedB.wp_region_listed (G := []) (by kernel_rfl) (by kernel_rfl) ?_
  go_wp2_with (fail)
  refine ListedB.fin_intro (by kernel_rfl) ?_
  go_upto_region 8 with (fail)
  generalize hw3 : World.setCell _ ⟨g, 1, none⟩ _ = w3
  have X3 : Aside0 (Six g w2 w3) := ⟨by subst hw3; exact ((Six.refl g w2).set 0 _).set 1 _⟩
  have G3 : Aside0 (w3.heap[g]? = some (.cells (bcs (.slice (some ⟨gs, 0, none⟩) k cs) rt dn (.slice (some ⟨go_, 0, none⟩) k co)) 120 (0, 0))) := ⟨by subst hw3; simpa [bcs] using blk_set (blk_set G2.out 0 (.slice (some ⟨go_, 0, none⟩) k co)) 1 (.slice (some ⟨gs, 0, none⟩) k cs)⟩
  have GD : Aside0 (w3.drew.drew.heap[g]? = some (.cells (bcs (.slice (some ⟨gs, 0, none⟩) k cs) rt dn (.slice (some ⟨go_, 0, none⟩) k co)) 120 (0, 0))) := ⟨G3.out⟩
  have ED : Aside0 (w3.drew.drew.heap[b]? = some (.cells (evCells e).toArray 62 (0, 0))) := ⟨(X3.out.block b (by have := LBV.out; omega)).trans E2.out⟩
  have VD : Aside0 (w3.drew.drew.heap[bv]? = some (.cells #[.int .i64 vk, .int .i64 vf, .int .i64 vt, .string vx, .slice ai vn ci, .slice am vq cm] 68 (0, 0))) := ⟨(X3.out.block bv (by have := LBV.out; omega)).trans BV.out⟩
  have LD : Aside0 (Below B W w3.drew.drew) := ⟨((KW2.out.mono HB.out).trans (X3.out.bel B H.out.ge)).drew.drew⟩
  have KD : Aside0 (∀ k, k < W.heap.size → k ≠ g → w3.drew.drew.heap[k]? = W.heap[k]?) := ⟨fun k hk h1 => (X3.out.block k h1).trans (KW2.out.block k hk)⟩
  have TD : Aside0 (KT [120] W w3.drew.drew) := ⟨((KT.of_below KW2.out).trans (X3.out.kt G2.out)).trans (KT.of_below (Below.refl _ _).drew.drew)⟩
  have QD : Aside0 (bv < w3.drew.drew.heap.size) := ⟨by have := X3.out.size; have := SZ2.out; show bv < w3.heap.size; omega⟩
  have CS : Aside0 (w3.drew.drew.cell? ⟨b, 1, none⟩ = some (.int .i64 e.value) ∧ w3.drew.drew.cell? ⟨b, 3, none⟩ = some (.int .i64 (e.til : Int)) ∧ w3.drew.drew.cell? ⟨b, 7, none⟩ = some (.string e.text)) := ⟨(ev_cells ED.out).2.1, (ev_cells ED.out).2.2.2.1, (ev_cells ED.out).2.2.2.2.2.2.2⟩
  clear hw3 X3 G3 G2 E2 BV c0 c1 y0 y1 KW2 SZ2
  refine start_ (n := 12) (S := fun w' => w'.cell? ⟨b, 1, none⟩ = some (.int .i64 e.value) ∧ w'.cell? ⟨b, 3, none⟩ = some (.int .i64 (e.til : Int)) ∧ w'.cell? ⟨b, 7, none⟩ = some (.string e.text)) (ds := []) #[false, false, false, false, false, false, false, false, false, false, false, false] (by kernel_rfl) rfl rfl ⟨CS.out.1, CS.out.2.1, CS.out.2.2⟩ (fun hHeld => ?_)
  generalize hwd_ : w3.drew.drew = wD at CS GD ED VD LD KD TD QD hHeld ⊢
  clear hwd_
  refine pure_ (i := 0) (N := some 68) (v := ?_) (a' := ?_) #[true, false, false, false, false, false, false, false, false, false, false, false] rfl rfl (by kernel_rfl) (fun _ _ _ h => h) (Or.inl ⟨by rfl, ?_⟩) ?_ ?_
  rotate_left
  · intro w'
    go_simp
    with_reducible rfl
  rotate_left
  · simp only [Act.put, List.setIfInBounds_toArray, List.set_cons_zero, List.set_cons_succ, i64_w, i32_w]
    rfl
  refine pure_ (i := 2) (N := some 70) (v := ?_) (a' := ?_) #[true, false, true, false, false, false, false, false, false, false, false, false] rfl rfl (by kernel_rfl) (fun _ _ _ h => h) (Or.inl ⟨by rfl, ?_⟩) ?_ ?_
  rotate_left
  · intro w'
    go_simp
    with_reducible rfl
  rotate_left
  · simp only [Act.put, List.setIfInBounds_toArray, List.set_cons_zero, List.set_cons_succ, i64_w, i32_w]
    rfl
  refine pure_ (i := 4) (N := some 72) (v := ?_) (a' := ?_) #[true, false, true, false, true, false, false, false, false, false, false, false] rfl rfl (by kernel_rfl) (fun _ _ _ h => h) (Or.inl ⟨by rfl, ?_⟩) ?_ ?_
  rotate_left
  · intro w'
    go_simp
    with_reducible rfl
  rotate_left
  · simp only [Act.put, List.setIfInBounds_toArray, List.set_cons_zero, List.set_cons_succ, i64_w, i32_w]
    rfl
  refine take_ (i := 1) (N := some 69) (v := ?_) (a' := ?_) #[true, true, true, false, true, false, false, false, false, false, false, false] rfl rfl (by kernel_rfl) (fun _ _ _ h => h) (Or.inl ⟨by rfl, ?_⟩) hHeld ?_ ?_
  rotate_left
  · rintro w' ⟨s0, s1, s2⟩
    go_simp
    with_reducible rfl
  rotate_left
  · simp only [Act.put, List.setIfInBounds_toArray, List.set_cons_zero, List.set_cons_succ, i64_w, i32_w]
    rfl
  refine pure_ (i := 6) (N := some 74) (v := ?_) (a' := ?_) #[true, true, true, false, true, false, true, false, false, false, false, false] rfl rfl (by kernel_rfl) (fun _ _ _ h => h) (Or.inl ⟨by rfl, ?_⟩) ?_ ?_
  rotate_left
  · intro w'
    go_simp
    with_reducible rfl
  rotate_left
  · simp only [Act.put, List.setIfInBounds_toArray, List.set_cons_zero, List.set_cons_succ, i64_w, i32_w]
    rfl
  refine take_ (i := 3) (N := some 71) (v := ?_) (a' := ?_) #[true, true, true, true, true, false, true, false, false, false, false, false] rfl rfl (by kernel_rfl) (fun _ _ _ h => h) (Or.inl ⟨by rfl, ?_⟩) hHeld ?_ ?_
  rotate_left
  · rintro w' ⟨s0, s1, s2⟩
    go_simp
    with_reducible rfl
  rotate_left
  · simp only [Act.put, List.setIfInBounds_toArray, List.set_cons_zero, List.set_cons_succ, i64_w, i32_w]
    rfl
  refine take_ (i := 5) (N := some 73) (v := ?_) (a' := ?_) #[true, true, true, true, true, true, true, false, false, false, false, false] rfl rfl (by kernel_rfl) (fun _ _ _ h => h) (Or.inl ⟨by rfl, ?_⟩) hHeld ?_ ?_
  rotate_left
  · rintro w' ⟨s0, s1, s2⟩
    go_simp
    with_reducible rfl
  rotate_left
  · simp only [Act.put, List.setIfInBounds_toArray, List.set_cons_zero, List.set_cons_succ, i64_w, i32_w]
    rfl
  refine one_ (i := 7) (N := none) #[true, true, true, true, true, true, true, true, false, false, false, false] rfl rfl (by kernel_rfl) (by decide) (fun K hK => ?_)
  have x_ := (blk_cell VD.out 0).trans rfl
  have y_ := blk_frozen VD.out 0
  refine skip_ (w1 := ?_) (by rfl) rfl ?_ ?_
  rotate_left
  · go_simp
    rfl
  generalize hg_ : World.setCell wD ⟨bv, 0, none⟩ _ = wE
  have VE : Aside0 (wE.heap[bv]? = some (.cells #[.int .i64 e.value, .int .i64 vf, .int .i64 vt, .string vx, .slice ai vn ci, .slice am vq cm] 68 (0, 0))) := ⟨by subst hg_; simpa using blk_set VD.out 0 (.int .i64 e.value)⟩
  have XVE : Aside0 (Six bv wD wE) := ⟨by subst hg_; exact (Six.refl bv wD).set 0 _⟩
  clear hg_ x_ y_
  refine hK.out _ _ ⟨(pw_cell_six XVE.out (by have := LBV.out; omega) CS.out.1), (pw_cell_six XVE.out (by have := LBV.out; omega) CS.out.2.1), (pw_cell_six XVE.out (by have := LBV.out; omega) CS.out.2.2)⟩ (fun hHeld => ?_)
  clear hK K
  refine pure_ (i := 8) (N := some 75) (v := ?_) (a' := ?_) #[true, true, true, true, true, true, true, true, true, false, false, false] rfl rfl (by kernel_rfl) (fun _ _ _ h => h) (Or.inl ⟨by rfl, ?_⟩) ?_ ?_
  rotate_left
  · intro w'
    go_simp
    with_reducible rfl
  rotate_left
  · simp only [Act.put, List.setIfInBounds_toArray, List.set_cons_zero, List.set_cons_succ, i64_w, i32_w]
    rfl
  refine one_ (i := 9) (N := none) #[true, true, true, true, true, true, true, true, true, true, false, false] rfl rfl (by kernel_rfl) (by decide) (fun K hK => ?_)
  have x_ := (blk_cell VE.out 2).trans rfl
  have y_ := blk_frozen VE.out 2
  refine skip_ (w1 := ?_) (by rfl) rfl ?_ ?_
  rotate_left
  · go_simp
    rfl
  generalize hg_ : World.setCell wE ⟨bv, 2, none⟩ _ = wF
  have VF : Aside0 (wF.heap[bv]? = some (.cells #[.int .i64 e.value, .int .i64 vf, .int .i64 (e.til : Int), .string vx, .slice ai vn ci, .slice am vq cm] 68 (0, 0))) := ⟨by subst hg_; simpa using blk_set VE.out 2 (.int .i64 (e.til : Int))⟩
  have XVF : Aside0 (Six bv wD wF) := ⟨by subst hg_; exact XVE.out.set 2 _⟩
  clear hg_ x_ y_
  refine hK.out _ _ ⟨(pw_cell_six XVF.out (by have := LBV.out; omega) CS.out.1), (pw_cell_six XVF.out (by have := LBV.out; omega) CS.out.2.1), (pw_cell_six XVF.out (by have := LBV.out; omega) CS.out.2.2)⟩ (fun hHeld => ?_)
  clear hK K
  refine pure_ (i := 10) (N := some 76) (v := ?_) (a' := ?_) #[true, true, true, true, true, true, true, true, true, true, true, false] rfl rfl (by kernel_rfl) (fun _ _ _ h => h) (Or.inl ⟨by rfl, ?_⟩) ?_ ?_
  rotate_left
  · intro w'
    go_simp
    with_reducible rfl
  rotate_left
  · simp only [Act.put, List.setIfInBounds_toArray, List.set_cons_zero, List.set_cons_succ, i64_w, i32_w]
    rfl
  refine one_ (i := 11) (N := none) #[true, true, true, true, true, true, true, true, true, true, true, true] rfl rfl (by kernel_rfl) (by decide) (fun K hK => ?_)
  have x_ := (blk_cell VF.out 3).trans rfl
  have y_ := blk_frozen VF.out 3
  refine skip_ (w1 := ?_) (by rfl) rfl ?_ ?_
  rotate_left
  · go_simp
    rfl
  generalize hg_ : World.setCell wF ⟨bv, 3, none⟩ _ = wG
  have VG : Aside0 (wG.heap[bv]? = some (.cells #[.int .i64 e.value, .int .i64 vf, .int .i64 (e.til : Int), .string e.text, .slice ai vn ci, .slice am vq cm] 68 (0, 0))) := ⟨by subst hg_; simpa using blk_set VF.out 3 (.string e.text)⟩
  have XVG : Aside0 (Six bv wD wG) := ⟨by subst hg_; exact XVF.out.set 3 _⟩
  clear hg_ x_ y_
  refine hK.out _ _ ⟨(pw_cell_six XVG.out (by have := LBV.out; omega) CS.out.1), (pw_cell_six XVG.out (by have := LBV.out; omega) CS.out.2.1), (pw_cell_six XVG.out (by have := LBV.out; omega) CS.out.2.2)⟩ (fun hHeld => ?_)
  clear hK K
  refine done_ (by kernel_rfl) ?_
  obtain ⟨pk, pf, pt, px, pi, pn, pq, pm⟩ := p
  obtain ⟨⟨xp, hxp⟩, ⟨yp, hyp⟩, hpm⟩ := H.out.its ⟨pk, pf, pt, px, pi, pn, pq, pm⟩ (by rw [h0]; simp)
  obtain ⟨ap, cp, rfl⟩ : ∃ a c, pi = .slice a pn c := own_sl hxp
  obtain ⟨aq, cq, rfl⟩ : ∃ a c, pq = .slice a pm c := own_sl hyp
  obtain ⟨m, hm⟩ : ∃ m, m = l2.length := ⟨_, rfl⟩
  have hkm : k = m + 1 := by rw [HKK.out.1, h0, hm]; simp
  have hm6 : k ≤ 1000000 := by have := HK6.out; omega
  have q1 : decide ((k : Int) = 0) = false := by simp; omega
  have q2 : ((k : Int) == 0) = false := by simp; omega
  have j1 : wrap64 ((k : Int) - 1) = (m : Int) := by unfold wrap64; omega
  have j2 : (0 : Int) ≤ (m : Int) := by omega
  have j3 : (m : Int) < (k : Int) := by omega
  have j4 : (m < k) = True := eq_true (by omega)
  have j5 : (k : Int) - 1 = (m : Int) := by omega
  have j6 : IntKind.i64.wrap (m : Int) = (m : Int) := IntWalk.i64_in _ (by omega)
  have HM := Aside0.mk (And.intro hm hkm)
  have HNP : Aside0 (pn ≤ 1000000) := ⟨HIT.out ⟨pk, pf, pt, px, .slice ap pn cp, pn, .slice aq pm cq, pm⟩ (by rw [h0]; simp)⟩
  have IP : Aside0 (ItOk B W (⟨pk, pf, pt, px, .slice ap pn cp, pn, .slice aq pm cq, pm⟩ : OV)) := ⟨⟨⟨xp, hxp⟩, ⟨yp, hyp⟩, hpm⟩⟩
  have IV : Aside0 (ItOk B W (fv (⟨vk, vf, vt, vx, .slice ai vn ci, vn, .slice am vq cm, vq⟩ : OV) e)) := ⟨by obtain ⟨a, c, d⟩ := H.out.its (⟨vk, vf, vt, vx, .slice ai vn ci, vn, .slice am vq cm, vq⟩ : OV) (by simp); exact ⟨a, c, d⟩⟩
  have GG : Aside0 (wG.drew.heap[g]? = some (.cells (bcs (.slice (some ⟨gs, 0, none⟩) k cs) rt dn (.slice (some ⟨go_, 0, none⟩) k co)) 120 (0, 0))) := ⟨(XVG.out.block g (by have := LBV.out; omega)).trans GD.out⟩
  have EG : Aside0 (wG.drew.heap[b]? = some (.cells (evCells e).toArray 62 (0, 0))) := ⟨(XVG.out.block b (by have := LBV.out; omega)).trans ED.out⟩
  have VH : Aside0 (wG.drew.heap[bv]? = some (.cells #[.int .i64 e.value, .int .i64 vf, .int .i64 (e.til : Int), .string e.text, .slice ai vn ci, .slice am vq cm] 68 (0, 0))) := ⟨VG.out⟩
  have KG : Aside0 (∀ j, j < W.heap.size → j ≠ g → wG.drew.heap[j]? = W.heap[j]?) := ⟨fun j hj h1 => (XVG.out.block j (by have := LBV.out; omega)).trans (KD.out j hj h1)⟩
  have TG : Aside0 (KT [120, 68] W wG.drew) := ⟨((TD.out.mono (by simp)).trans ((XVG.out.kt VD.out).mono (by simp))).trans (KT.of_below (Below.refl _ _).drew)⟩
  have LG : Aside0 (Below B W wG.drew) := ⟨(LD.out.trans (XVG.out.bel B (by have := LBV.out; have := HB.out; omega))).drew⟩
  have QG : Aside0 (bv < wG.drew.heap.size ∧ W.heap.size ≤ wG.drew.heap.size) := ⟨by have := XVG.out.size; have := QD.out; have := LBV.out; show bv < wG.heap.size ∧ W.heap.size ≤ wG.heap.size; omega⟩
  clear VD VE VF XVE XVF hHeld hxp hyp hpm hm hkm hm6 KD TD LD QD GD ED CS
  have RG : Aside0 (wG.drew.ownsRow B 68 6 (.slice (some ⟨go_, 0, none⟩) k co) k (l2.flatMap ovCells ++ ovCells (⟨pk, pf, pt, px, .slice ap pn cp, pn, .slice aq pm cq, pm⟩ : OV))) := ⟨by
    have h1 := Nx.own_short (LxA.own_more RW.out (fun j hj => KG.out j (own_blk RW.out j hj).2 (fun e => by subst e; exact ne_row RW.out GW.out (by decide) hj))) (show k ≤ n by have := HKK.out.2.1; omega)
    have e1 : ((l1 ++ [(⟨vk, vf, vt, vx, .slice ai vn ci, vn, .slice am vq cm, vq⟩ : OV)]).flatMap ovCells).take (k * 6) = l2.flatMap ovCells ++ ovCells (⟨pk, pf, pt, px, .slice ap pn cp, pn, .slice aq pm cq, pm⟩ : OV) := by
      rw [List.flatMap_append, h0, List.flatMap_append]
      have : (List.flatMap ovCells l2 ++ List.flatMap ovCells [(⟨pk, pf, pt, px, .slice ap pn cp, pn, .slice aq pm cq, pm⟩ : OV)]).length = k * 6 := by
        rw [List.length_append, ov_len, HM.out.2, HM.out.1]
        simp [ovCells]
        omega
      rw [List.take_left' this]
      simp
    rw [e1] at h1
    exact h1⟩
  have CS : Aside0 (wG.drew.cell? ⟨g, 0, none⟩ = some (.slice (some ⟨go_, 0, none⟩) k co) ∧ wG.drew.cell? ⟨go_, m * 6, none⟩ = some (.int .i64 pk) ∧ wG.drew.cell? ⟨go_, m * 6 + 1, none⟩ = some (.int .i64 pf) ∧ wG.drew.cell? ⟨go_, m * 6 + 2, none⟩ = some (.int .i64 pt) ∧ wG.drew.cell? ⟨go_, m * 6 + 3, none⟩ = some (.string px) ∧ wG.drew.cell? ⟨go_, m * 6 + 4, none⟩ = some (.slice ap pn cp) ∧ wG.drew.cell? ⟨go_, m * 6 + 5, none⟩ = some (.slice aq pm cq) ∧ wG.drew.cell? ⟨bv, 0, none⟩ = some (.int .i64 e.value) ∧ wG.drew.cell? ⟨bv, 1, none⟩ = some (.int .i64 vf) ∧ wG.drew.cell? ⟨bv, 2, none⟩ = some (.int .i64 (e.til : Int)) ∧ wG.drew.cell? ⟨bv, 3, none⟩ = some (.string e.text) ∧ wG.drew.cell? ⟨bv, 4, none⟩ = some (.slice ai vn ci) ∧ wG.drew.cell? ⟨bv, 5, none⟩ = some (.slice am vq cm) ∧ wG.drew.cell? ⟨b, 4, none⟩ = some (.bool e.step.named) ∧ wG.drew.cell? ⟨b, 5, none⟩ = some (.string e.step.name) ∧ wG.drew.cell? ⟨b, 6, none⟩ = some (.int .i64 (e.step.idx : Int))) := ⟨(blk_cell GG.out 0).trans rfl, LxA.own_cell RG.out (m * 6 + 0) _ (by rw [pcell HM.out.1 (by decide)]; rfl), LxA.own_cell RG.out (m * 6 + 1) _ (by rw [pcell HM.out.1 (by decide)]; rfl), LxA.own_cell RG.out (m * 6 + 2) _ (by rw [pcell HM.out.1 (by decide)]; rfl), LxA.own_cell RG.out (m * 6 + 3) _ (by rw [pcell HM.out.1 (by decide)]; rfl), LxA.own_cell RG.out (m * 6 + 4) _ (by rw [pcell HM.out.1 (by decide)]; rfl), LxA.own_cell RG.out (m * 6 + 5) _ (by rw [pcell HM.out.1 (by decide)]; rfl), (blk_cell VH.out 0).trans rfl, (blk_cell VH.out 1).trans rfl, (blk_cell VH.out 2).trans rfl, (blk_cell VH.out 3).trans rfl, (blk_cell VH.out 4).trans rfl, (blk_cell VH.out 5).trans rfl, (ev_cells EG.out).2.2.2.2.1, (ev_cells EG.out).2.2.2.2.2.1, (ev_cells EG.out).2.2.2.2.2.2.1⟩
  have HP := put_calls (B := B) (W := wG.drew) (⟨pk, pf, pt, px, .slice ap pn cp, pn, .slice aq pm cq, pm⟩ : OV) (fv (⟨vk, vf, vt, vx, .slice ai vn ci, vn, .slice am vq cm, vq⟩ : OV) e) e.step (it_keep IP.out GW.out KG.out) (it_keep IV.out GW.out KG.out) HNP.out (Nat.le_trans HB.out QG.out.2)
  simp only [ovCells, stpVal, fv] at HP
  have HP := Aside0.mk HP
  have NPB : Aside0 (∀ j, W.heap.size ≤ j → (Value.slice ap pn cp).ownBlock ≠ some j ∧ (Value.slice aq pm cq).ownBlock ≠ some j) := ⟨fun j hj => by
    obtain ⟨⟨xp, hxp⟩, ⟨yp, hyp⟩, _⟩ := IP.out
    exact ⟨fun e => by have := (own_blk hxp j e).2; omega, fun e => by have := (own_blk hyp j e).2; omega⟩⟩
  have NGO : Aside0 ((Value.slice ap pn cp).ownBlock ≠ some go_ ∧ (Value.slice aq pm cq).ownBlock ≠ some go_) := ⟨by
    obtain ⟨⟨xp, hxp⟩, ⟨yp, hyp⟩, _⟩ := IP.out
    obtain ⟨cgo, hcgo⟩ := row_type RW.out go_ rfl
    refine ⟨fun e => ?_, ne_row hyp hcgo (by decide)⟩
    have hd := (List.pairwise_cons.1 H.out.dis).1 (Value.slice ap pn cp) (by rw [h0]; simp)
    exact hd go_ rfl e⟩
  go_upto_region 11 with (fail)
  refine start_ (n := 20) (S := fun w' => w'.cell? ⟨g, 0, none⟩ = some (.slice (some ⟨go_, 0, none⟩) k co) ∧ w'.cell? ⟨go_, m * 6, none⟩ = some (.int .i64 pk) ∧ w'.cell? ⟨go_, m * 6 + 1, none⟩ = some (.int .i64 pf) ∧ w'.cell? ⟨go_, m * 6 + 2, none⟩ = some (.int .i64 pt) ∧ w'.cell? ⟨go_, m * 6 + 3, none⟩ = some (.string px) ∧ w'.cell? ⟨go_, m * 6 + 4, none⟩ = some (.slice ap pn cp) ∧ w'.cell? ⟨go_, m * 6 + 5, none⟩ = some (.slice aq pm cq) ∧ w'.cell? ⟨bv, 0, none⟩ = some (.int .i64 e.value) ∧ w'.cell? ⟨bv, 1, none⟩ = some (.int .i64 vf) ∧ w'.cell? ⟨bv, 2, none⟩ = some (.int .i64 (e.til : Int)) ∧ w'.cell? ⟨bv, 3, none⟩ = some (.string e.text) ∧ w'.cell? ⟨bv, 4, none⟩ = some (.slice ai vn ci) ∧ w'.cell? ⟨bv, 5, none⟩ = some (.slice am vq cm) ∧ w'.cell? ⟨b, 4, none⟩ = some (.bool e.step.named) ∧ w'.cell? ⟨b, 5, none⟩ = some (.string e.step.name) ∧ w'.cell? ⟨b, 6, none⟩ = some (.int .i64 (e.step.idx : Int))) (ds := [19]) #[false, false, false, false, false, false, false, false, false, false, false, false, false, false, false, false, false, false, false, false] (by kernel_rfl) rfl rfl ⟨CS.out.1, CS.out.2.1, CS.out.2.2.1, CS.out.2.2.2.1, CS.out.2.2.2.2.1, CS.out.2.2.2.2.2.1, CS.out.2.2.2.2.2.2.1, CS.out.2.2.2.2.2.2.2.1, CS.out.2.2.2.2.2.2.2.2.1, CS.out.2.2.2.2.2.2.2.2.2.1, CS.out.2.2.2.2.2.2.2.2.2.2.1, CS.out.2.2.2.2.2.2.2.2.2.2.2.1, CS.out.2.2.2.2.2.2.2.2.2.2.2.2.1, CS.out.2.2.2.2.2.2.2.2.2.2.2.2.2.1, CS.out.2.2.2.2.2.2.2.2.2.2.2.2.2.2.1, CS.out.2.2.2.2.2.2.2.2.2.2.2.2.2.2.2⟩ (fun hHeld => ?_)
  generalize hwd_ : wG.drew = wH at CS GG EG VH KG TG LG QG RG HP hHeld ⊢
  clear hwd_
  refine pure_ (i := 0) (N := some 86) (v := ?_) (a' := ?_) #[true, false, false, false, false, false, false, false, false, false, false, false, false, false, false, false, false, false, false, false] rfl rfl (by kernel_rfl) (fun _ _ _ h => h) (Or.inl ⟨by rfl, ?_⟩) ?_ ?_
  rotate_left
  · intro w'
    go_simp
    with_reducible rfl
  rotate_left
  · simp only [Act.put, List.setIfInBounds_toArray, List.set_cons_zero, List.set_cons_succ, i64_w, i32_w]
    rfl
  refine pure_ (i := 1) (N := some 87) (v := ?_) (a' := ?_) #[true, true, false, false, false, false, false, false, false, false, false, false, false, false, false, false, false, false, false, false] rfl rfl (by kernel_rfl) (fun _ _ _ h => h) (Or.inl ⟨by rfl, ?_⟩) ?_ ?_
  rotate_left
  · intro w'
    go_simp
    with_reducible rfl
  rotate_left
  · simp only [Act.put, List.setIfInBounds_toArray, List.set_cons_zero, List.set_cons_succ, i64_w, i32_w]
    rfl
  refine pure_ (i := 2) (N := some 88) (v := ?_) (a' := ?_) #[true, true, true, false, false, false, false, false, false, false, false, false, false, false, false, false, false, false, false, false] rfl rfl (by kernel_rfl) (fun _ _ _ h => h) (Or.inl ⟨by rfl, ?_⟩) ?_ ?_
  rotate_left
  · intro w'
    go_simp
    with_reducible rfl
  rotate_left
  · simp only [Act.put, List.setIfInBounds_toArray, List.set_cons_zero, List.set_cons_succ, i64_w, i32_w]
    rfl
  refine pure_ (i := 4) (N := some 90) (v := ?_) (a' := ?_) #[true, true, true, false, true, false, false, false, false, false, false, false, false, false, false, false, false, false, false, false] rfl rfl (by kernel_rfl) (fun _ _ _ h => h) (Or.inl ⟨by rfl, ?_⟩) ?_ ?_
  rotate_left
  · intro w'
    go_simp
    with_reducible rfl
  rotate_left
  · simp only [Act.put, List.setIfInBounds_toArray, List.set_cons_zero, List.set_cons_succ, i64_w, i32_w]
    rfl
  refine pure_ (i := 5) (N := some 91) (v := ?_) (a' := ?_) #[true, true, true, false, true, true, false, false, false, false, false, false, false, false, false, false, false, false, false, false] rfl rfl (by kernel_rfl) (fun _ _ _ h => h) (Or.inl ⟨by rfl, ?_⟩) ?_ ?_
  rotate_left
  · intro w'
    go_simp
    with_reducible rfl
  rotate_left
  · simp only [Act.put, List.setIfInBounds_toArray, List.set_cons_zero, List.set_cons_succ, i64_w, i32_w]
    rfl
  refine pure_ (i := 6) (N := some 92) (v := ?_) (a' := ?_) #[true, true, true, false, true, true, true, false, false, false, false, false, false, false, false, false, false, false, false, false] rfl rfl (by kernel_rfl) (fun _ _ _ h => h) (Or.inl ⟨by rfl, ?_⟩) ?_ ?_
  rotate_left
  · intro w'
    go_simp
    with_reducible rfl
  rotate_left
  · simp only [Act.put, List.setIfInBounds_toArray, List.set_cons_zero, List.set_cons_succ, i64_w, i32_w]
    rfl
  refine pure_ (i := 7) (N := some 93) (v := ?_) (a' := ?_) #[true, true, true, false, true, true, true, true, false, false, false, false, false, false, false, false, false, false, false, false] rfl rfl (by kernel_rfl) (fun _ _ _ h => h) (Or.inl ⟨by rfl, ?_⟩) ?_ ?_
  rotate_left
  · intro w'
    go_simp
    with_reducible rfl
  rotate_left
  · simp only [Act.put, List.setIfInBounds_toArray, List.set_cons_zero, List.set_cons_succ, i64_w, i32_w]
    rfl
  refine pure_ (i := 8) (N := some 94) (v := ?_) (a' := ?_) #[true, true, true, false, true, true, true, true, true, false, false, false, false, false, false, false, false, false, false, false] rfl rfl (by kernel_rfl) (fun _ _ _ h => h) (Or.inl ⟨by rfl, ?_⟩) ?_ ?_
  rotate_left
  · intro w'
    go_simp
    with_reducible rfl
  rotate_left
  · simp only [Act.put, List.setIfInBounds_toArray, List.set_cons_zero, List.set_cons_succ, i64_w, i32_w]
    rfl
  refine pure_ (i := 10) (N := some 96) (v := ?_) (a' := ?_) #[true, true, true, false, true, true, true, true, true, false, true, false, false, false, false, false, false, false, false, false] rfl rfl (by kernel_rfl) (fun _ _ _ h => h) (Or.inl ⟨by rfl, ?_⟩) ?_ ?_
  rotate_left
  · intro w'
    go_simp
    with_reducible rfl
  rotate_left
  · simp only [Act.put, List.setIfInBounds_toArray, List.set_cons_zero, List.set_cons_succ, i64_w, i32_w]
    rfl
  refine pure_ (i := 11) (N := some 97) (v := ?_) (a' := ?_) #[true, true, true, false, true, true, true, true, true, false, true, true, false, false, false, false, false, false, false, false] rfl rfl (by kernel_rfl) (fun _ _ _ h => h) (Or.inl ⟨by rfl, ?_⟩) ?_ ?_
  rotate_left
  · intro w'
    go_simp
    with_reducible rfl
  rotate_left
  · simp only [Act.put, List.setIfInBounds_toArray, List.set_cons_zero, List.set_cons_succ, i64_w, i32_w]
    rfl
  refine pure_ (i := 15) (N := some 101) (v := ?_) (a' := ?_) #[true, true, true, false, true, true, true, true, true, false, true, true, false, false, false, true, false, false, false, false] rfl rfl (by kernel_rfl) (fun _ _ _ h => h) (Or.inl ⟨by rfl, ?_⟩) ?_ ?_
  rotate_left
  · intro w'
    go_simp
    with_reducible rfl
  rotate_left
  · simp only [Act.put, List.setIfInBounds_toArray, List.set_cons_zero, List.set_cons_succ, i64_w, i32_w]
    rfl
  refine take_ (i := 3) (N := some 89) (v := ?_) (a' := ?_) #[true, true, true, true, true, true, true, true, true, false, true, true, false, false, false, true, false, false, false, false] rfl rfl (by kernel_rfl) (fun _ _ _ h => h) (Or.inl ⟨by rfl, ?_⟩) hHeld ?_ ?_
  rotate_left
  · rintro w' ⟨s0, s1, s2, s3, s4, s5, s6, s7, s8, s9, s10, s11, s12, s13, s14, s15⟩
    go_simp
    with_reducible rfl
  rotate_left
  · simp only [Act.put, List.setIfInBounds_toArray, List.set_cons_zero, List.set_cons_succ, i64_w, i32_w]
    rfl
  refine take_ (i := 9) (N := some 95) (v := ?_) (a' := ?_) #[true, true, true, true, true, true, true, true, true, true, true, true, false, false, false, true, false, false, false, false] rfl rfl (by kernel_rfl) (fun _ _ _ h => h) (Or.inl ⟨by rfl, ?_⟩) hHeld ?_ ?_
  rotate_left
  · rintro w' ⟨s0, s1, s2, s3, s4, s5, s6, s7, s8, s9, s10, s11, s12, s13, s14, s15⟩
    go_simp
    with_reducible rfl
  rotate_left
  · simp only [Act.put, List.setIfInBounds_toArray, List.set_cons_zero, List.set_cons_succ, i64_w, i32_w]
    rfl
  refine pure_ (i := 12) (N := some 98) (v := ?_) (a' := ?_) #[true, true, true, true, true, true, true, true, true, true, true, true, true, false, false, true, false, false, false, false] rfl rfl (by kernel_rfl) (fun _ _ _ h => h) (Or.inl ⟨by rfl, ?_⟩) ?_ ?_
  rotate_left
  · intro w'
    go_simp
    with_reducible rfl
  rotate_left
  · simp only [Act.put, List.setIfInBounds_toArray, List.set_cons_zero, List.set_cons_succ, i64_w, i32_w]
    rfl
  refine take_ (i := 13) (N := some 99) (v := ?_) (a' := ?_) #[true, true, true, true, true, true, true, true, true, true, true, true, true, true, false, true, false, false, false, false] rfl rfl (by kernel_rfl) (fun _ _ _ h => h) (Or.inl ⟨by rfl, ?_⟩) hHeld ?_ ?_
  rotate_left
  · rintro w' ⟨s0, s1, s2, s3, s4, s5, s6, s7, s8, s9, s10, s11, s12, s13, s14, s15⟩
    go_simp
    with_reducible rfl
  rotate_left
  · simp only [Act.put, List.setIfInBounds_toArray, List.set_cons_zero, List.set_cons_succ, i64_w, i32_w]
    rfl
  refine take_ (i := 14) (N := some 100) (v := ?_) (a' := ?_) #[true, true, true, true, true, true, true, true, true, true, true, true, true, true, true, true, false, false, false, false] rfl rfl (by kernel_rfl) (fun _ _ _ h => h) (Or.inl ⟨by rfl, ?_⟩) hHeld ?_ ?_
  rotate_left
  · rintro w' ⟨s0, s1, s2, s3, s4, s5, s6, s7, s8, s9, s10, s11, s12, s13, s14, s15⟩
    go_simp
    with_reducible rfl
  rotate_left
  · simp only [Act.put, List.setIfInBounds_toArray, List.set_cons_zero, List.set_cons_succ, i64_w, i32_w]
    rfl
  refine take_ (i := 16) (N := some 102) (v := ?_) (a' := ?_) #[true, true, true, true, true, true, true, true, true, true, true, true, true, true, true, true, true, false, false, false] rfl rfl (by kernel_rfl) (fun _ _ _ h => h) (Or.inl ⟨by rfl, ?_⟩) hHeld ?_ ?_
  rotate_left
  · rintro w' ⟨s0, s1, s2, s3, s4, s5, s6, s7, s8, s9, s10, s11, s12, s13, s14, s15⟩
    go_simp
    with_reducible rfl
  rotate_left
  · simp only [Act.put, List.setIfInBounds_toArray, List.set_cons_zero, List.set_cons_succ, i64_w, i32_w]
    rfl
  refine one_ (i := 17) (N := some 103) #[true, true, true, true, true, true, true, true, true, true, true, true, true, true, true, true, true, true, false, false] rfl rfl (by kernel_rfl) (by decide) (fun K hK => ?_)
  refine goes_ Tryd.func144 (by kernel_rfl) rfl #[.agg #[.int .i64 pk, .int .i64 pf, .int .i64 pt, .string px, .slice ap pn cp, .slice aq pm cq], .agg #[.int .i64 e.value, .int .i64 vf, .int .i64 (e.til : Int), .string e.text, .slice ai vn ci, .slice am vq cm], .agg #[.bool e.step.named, .string e.step.name, .int .i64 (e.step.idx : Int)]] (by rfl) rfl rfl (by simp only [List.map_toArray, List.map_cons, List.map_nil]; rfl) ?_
  with_reducible refine (HP.out).mono ?_
  rintro e wI ⟨it, nm, mm, rfl, hi, hkf, hbel, hkt, hb1, hb2⟩
  refine ⟨_, rfl, ?_⟩
  obtain ⟨xit, hxit⟩ := hi.it
  obtain ⟨ynm, hynm⟩ := hi.nm
  obtain ⟨ai2, ci2, rfl⟩ : ∃ a c, it = .slice a (pn + 1) c := own_sl hxit
  obtain ⟨an2, cn2, rfl⟩ : ∃ a c, nm = .slice a mm c := own_sl hynm
  have GI := Aside0.mk (hkt.blk GG.out (by decide))
  have EI := Aside0.mk (hkt.blk EG.out (by decide))
  have VI := Aside0.mk ((hkf.block bv QG.out.1 (NPB.out bv (by have := LBV.out; omega)).1 (NPB.out bv (by have := LBV.out; omega)).2).trans VH.out)
  have RI := Aside0.mk (LxA.own_more RG.out (fun j hj => hkf.block j (own_blk RG.out j hj).2 (fun e => NGO.out.1 (by rw [e]; exact hj.symm)) (fun e => NGO.out.2 (by rw [e]; exact hj.symm))))
  have KI : Aside0 (∀ j, j < W.heap.size → j ≠ g → (Value.slice ap pn cp).ownBlock ≠ some j → (Value.slice aq pm cq).ownBlock ≠ some j → wI.heap[j]? = W.heap[j]?) := ⟨fun j hj h1 h2 h3 => (hkf.block j (Nat.lt_of_lt_of_le hj QG.out.2) h2 h3).trans (KG.out j hj h1)⟩
  have HI := Aside0.mk hi
  have LI := Aside0.mk hbel
  have TI := Aside0.mk hkt
  have B1 := Aside0.mk hb1
  have B2 := Aside0.mk hb2
  have CI : Aside0 (wI.cell? ⟨g, 0, none⟩ = some (.slice (some ⟨go_, 0, none⟩) k co) ∧ wI.cell? ⟨go_, m * 6, none⟩ = some (.int .i64 pk) ∧ wI.cell? ⟨go_, m * 6 + 1, none⟩ = some (.int .i64 pf) ∧ wI.cell? ⟨go_, m * 6 + 2, none⟩ = some (.int .i64 pt) ∧ wI.cell? ⟨go_, m * 6 + 3, none⟩ = some (.string px) ∧ wI.cell? ⟨go_, m * 6 + 4, none⟩ = some (.slice ap pn cp) ∧ wI.cell? ⟨go_, m * 6 + 5, none⟩ = some (.slice aq pm cq) ∧ wI.cell? ⟨bv, 0, none⟩ = some (.int .i64 e.value) ∧ wI.cell? ⟨bv, 1, none⟩ = some (.int .i64 vf) ∧ wI.cell? ⟨bv, 2, none⟩ = some (.int .i64 (e.til : Int)) ∧ wI.cell? ⟨bv, 3, none⟩ = some (.string e.text) ∧ wI.cell? ⟨bv, 4, none⟩ = some (.slice ai vn ci) ∧ wI.cell? ⟨bv, 5, none⟩ = some (.slice am vq cm) ∧ wI.cell? ⟨b, 4, none⟩ = some (.bool e.step.named) ∧ wI.cell? ⟨b, 5, none⟩ = some (.string e.step.name) ∧ wI.cell? ⟨b, 6, none⟩ = some (.int .i64 (e.step.idx : Int))) := ⟨(blk_cell GI.out 0).trans rfl, LxA.own_cell RI.out (m * 6 + 0) _ (by rw [pcell HM.out.1 (by decide)]; rfl), LxA.own_cell RI.out (m * 6 + 1) _ (by rw [pcell HM.out.1 (by decide)]; rfl), LxA.own_cell RI.out (m * 6 + 2) _ (by rw [pcell HM.out.1 (by decide)]; rfl), LxA.own_cell RI.out (m * 6 + 3) _ (by rw [pcell HM.out.1 (by decide)]; rfl), LxA.own_cell RI.out (m * 6 + 4) _ (by rw [pcell HM.out.1 (by decide)]; rfl), LxA.own_cell RI.out (m * 6 + 5) _ (by rw [pcell HM.out.1 (by decide)]; rfl), (blk_cell VI.out 0).trans rfl, (blk_cell VI.out 1).trans rfl, (blk_cell VI.out 2).trans rfl, (blk_cell VI.out 3).trans rfl, (blk_cell VI.out 4).trans rfl, (blk_cell VI.out 5).trans rfl, (ev_cells EI.out).2.2.2.2.1, (ev_cells EI.out).2.2.2.2.2.1, (ev_cells EI.out).2.2.2.2.2.2.1⟩
  clear hxit hynm hi hkf hbel hkt hb1 hb2
  refine hK.out _ _ ⟨CI.out.1, CI.out.2.1, CI.out.2.2.1, CI.out.2.2.2.1, CI.out.2.2.2.2.1, CI.out.2.2.2.2.2.1, CI.out.2.2.2.2.2.2.1, CI.out.2.2.2.2.2.2.2.1, CI.out.2.2.2.2.2.2.2.2.1, CI.out.2.2.2.2.2.2.2.2.2.1, CI.out.2.2.2.2.2.2.2.2.2.2.1, CI.out.2.2.2.2.2.2.2.2.2.2.2.1, CI.out.2.2.2.2.2.2.2.2.2.2.2.2.1, CI.out.2.2.2.2.2.2.2.2.2.2.2.2.2.1, CI.out.2.2.2.2.2.2.2.2.2.2.2.2.2.2.1, CI.out.2.2.2.2.2.2.2.2.2.2.2.2.2.2.2⟩ (fun hHeld => ?_)
  clear hK K
  refine norm_ (a' := ?_) ?_ ?_
  rotate_left
  · show Act.put _ (some 103) _ = _
    simp only [Act.put, List.setIfInBounds_toArray, List.set_cons_zero, List.set_cons_succ, i64_w, i32_w]
    rfl
  refine pure_ (i := 18) (N := some 104) (v := ?_) (a' := ?_) #[true, true, true, true, true, true, true, true, true, true, true, true, true, true, true, true, true, true, true, false] rfl rfl (by kernel_rfl) (fun _ _ _ h => h) (Or.inl ⟨by rfl, ?_⟩) ?_ ?_
  rotate_left
  · intro w'
    go_simp
    with_reducible rfl
  rotate_left
  · simp only [Act.put, List.setIfInBounds_toArray, List.set_cons_zero, List.set_cons_succ, i64_w, i32_w]
    rfl
  refine last_ (i := 19) (N := none) #[true, true, true, true, true, true, true, true, true, true, true, true, true, true, true, true, true, true, true, true] rfl rfl (by kernel_rfl) (by decide) (fun K hK => ?_)
  have u0 := CI.out.2.1
  have u1 := CI.out.2.2.1
  have u2 := CI.out.2.2.2.1
  have u3 := CI.out.2.2.2.2.1
  have u4 := CI.out.2.2.2.2.2.1
  have u5 := CI.out.2.2.2.2.2.2.1
  have y0 := Nx.own_frozen RI.out (m * 6)
  have y1 := Nx.own_frozen RI.out (m * 6 + 1)
  have y2 := Nx.own_frozen RI.out (m * 6 + 2)
  have y3 := Nx.own_frozen RI.out (m * 6 + 3)
  have y4 := Nx.own_frozen RI.out (m * 6 + 4)
  have y5 := Nx.own_frozen RI.out (m * 6 + 5)
  refine skip_ (w1 := ?_) (by rfl) rfl ?_ ?_
  rotate_left
  · go_simp
    rfl
  refine hK.out _ _ ?_
  clear hK K
  refine done_ (by kernel_rfl) ?_
  go_wp2_with (fail)
  go_end0
  generalize hwJ : World.setCell _ ⟨go_, m * 6 + 5, none⟩ _ = wJ
  have XJ : Six go_ wI wJ := by subst hwJ; exact (((((((Six.refl go_ wI).set (m * 6) _).set (m * 6 + 1) _).set (m * 6 + 2) _).set (m * 6 + 3) _).set (m * 6 + 4) _).set (m * 6 + 5) _)
  obtain ⟨hm, hkm⟩ := HM.out
  have hRI := RI.out
  rw [hkm] at hRI
  have RJ : wJ.ownsRow B 68 6 (.slice (some ⟨go_, 0, none⟩) (m + 1) co) (m + 1) (l2.flatMap ovCells ++ ovCells (⟨pk, pf, pt, px, .slice ai2 (pn + 1) ci2, pn + 1, .slice an2 mm cn2, mm⟩ : OV)) := by
    subst hwJ
    exact elem_put (by rw [ov_len, hm]) rfl hRI _ _ _ _ _ _
  rw [← hkm] at RJ
  obtain ⟨cgo, hcgo⟩ := row_type RI.out go_ rfl
  have TJ : KT [120, 68, 9] W wJ := ((TG.out.mono (by simp)).trans (TI.out.mono (by simp))).trans ((XJ.kt hcgo).mono (by simp))
  have HH : Bx B W g (.slice (some ⟨go_, 0, none⟩) n co) (.slice (some ⟨gs, 0, none⟩) n cs) (l2 ++ [(⟨pk, pf, pt, px, .slice ap pn cp, pn, .slice aq pm cq, pm⟩ : OV)] ++ [(⟨vk, vf, vt, vx, .slice ai vn ci, vn, .slice am vq cm, vq⟩ : OV)]) rt dn := by rw [← h0, HKK.out.2.1]; exact H.out
  have LGO := (own_blk RW.out go_ rfl)
  refine ⟨rfl, ⟨_, _, .slice ai2 (pn + 1) ci2, .slice an2 mm cn2, mm, put_fin HH (by rw [hkm, hm]) ((XJ.block g (ne_new RW.out GW.out (by decide) (.inl rfl) (Nat.le_refl _))).trans GI.out) RJ ?_ ?_ (B1.out.imp id (fun h j hj => Nat.le_trans QG.out.2 (h j hj))) (B2.out.imp id (fun h j hj => Nat.le_trans QG.out.2 (h j hj))) (fun j hj h1 h2 h3 h4 => (XJ.block j h2).trans (KI.out j hj h1 h3 h4))⟩, (LG.out.trans LI.out).trans (XJ.bel B LGO.1), TJ.mono (by simp)⟩
  · have h1 := Nx.own_short (TJ.row SW.out (by decide)) (show k ≤ n by have := HKK.out.2.1; omega)
    exact ⟨_, h1⟩
  · obtain ⟨⟨xs, g1⟩, ⟨ys, g2⟩, g3⟩ := HI.out
    refine ⟨⟨xs, XJ.row g1 (fun e => ?_)⟩, ⟨ys, XJ.row g2 (ne_row g2 hcgo (by decide))⟩, g3⟩
    rcases B1.out with h | h
    · exact NGO.out.1 (by rw [← h]; exact e)
    · have := h go_ e
      have := QG.out.2
      have := LGO.2
      omega
end Go.Proofs.YtlhpflicchchlaaDoor.Tr
