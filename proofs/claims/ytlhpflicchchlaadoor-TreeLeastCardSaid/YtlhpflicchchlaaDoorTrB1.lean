/- tree.Builder.Take at an event that opens, walked. Conditions: none. -/
import Derived.Test.YtlhpflicchchlaaDoorTrB0
import Derived.Test.YtlhpflicchchlaaDoorNxLq
namespace Go.Proofs.YtlhpflicchchlaaDoor.Tr
open Go.RowKit Go.Proofs.YtlhpflicchchlaaDoorW.PrintWords Go.Proofs.YtlhpflicchchlaaDoorW.PrintLast Go.Proofs.YtlhpflicchchlaaDoorW.PrintMore
attribute [local go_sem] max2_int min2_int max_two min_two max_three min_three max_four min_four
open Go.Proofs.YtlhpflicchchlaaDoor.LexPure
open Go.Proofs.YtlhpflicchchlaaDoor.Nx (Ev Stp evCells stpVal KT row_type below_grownN ev_cells)
set_option linter.unusedVariables false
set_option linter.unusedSimpArgs false
/-- A Builder at block g: what is open, their steps, the root. -/
structure Bx (B : Nat) (W : World) (g : Nat) (ov sv : Value) (l : List OV) (rt : OV) (dn : Bool) : Prop where
  blk : W.heap[g]? = some (.cells #[ov, sv, .int .i64 rt.kind, .int .i64 rt.frm, .int .i64 rt.til, .string rt.text, rt.itv, rt.nmv, .bool dn] 120 (0, 0))
  ge : B ≤ g
  row : W.ownsRow B 68 6 ov l.length (l.flatMap ovCells)
  stp : ∃ ss, W.ownsRow B 26 3 sv l.length ss
  its : ∀ v ∈ l, ItOk B W v
  dis : (ov :: l.map (·.itv)).Pairwise Ap
  disN : (l.map (·.nmv)).Pairwise Ap
  rts : ∃ a c, rt.itv = .slice a rt.nit c
  rtn : ∃ a n c, rt.nmv = .slice a n c
def bcs (sv : Value) (rt : OV) (dn : Bool) (ov : Value) : Array Value := #[ov, sv, .int .i64 rt.kind, .int .i64 rt.frm, .int .i64 rt.til, .string rt.text, rt.itv, rt.nmv, .bool dn]
def z6 : List Value := [.int .i64 0, .int .i64 0, .int .i64 0, .string ⟨#[]⟩, .slice none 0 0, .slice none 0 0]
theorem z6_one : ∀ u ∈ z6, u.oneCell' = true := by
  intro u hu
  simp only [z6, List.mem_cons, List.not_mem_nil, or_false] at hu
  rcases hu with rfl | rfl | rfl | rfl | rfl | rfl <;> rfl
def nv (e : Ev) : OV := ⟨e.value, e.frm, 0, ⟨#[]⟩, .slice none 0 0, 0, .slice none 0 0, 0⟩
theorem own_some {W : World} {B n sz : Nat} {e : TypeId} {v : Value} {xs : List Value} (h : W.ownsRow B e sz v (n + 1) xs) : ∃ gv cp, v = .slice (some ⟨gv, 0, none⟩) (n + 1) cp := by
  rcases h.2 with ⟨hv, hn⟩ | ⟨g, cap, cur, hv, _⟩
  · simp at hn
  · exact ⟨_, _, hv⟩
/-- A Builder's block and its row of open values, written. -/
structure PO (g gv : Nat) (w w' : World) (cs : Array Value) (B n cp : Nat) (ys : List Value) : Prop where
  blk : w'.heap[g]? = some (.cells cs 120 (0, 0))
  row : w'.ownsRow B 68 6 (.slice (some ⟨gv, 0, none⟩) n cp) n ys
  oth : ∀ k, k ≠ g → k ≠ gv → w'.heap[k]? = w.heap[k]?
  size : w'.heap.size = w.heap.size
  bel : ∀ C, C ≤ g → C ≤ gv → Below C w w'
theorem cell_same {w w' : World} {b j : Nat} {u : Value} (h : w'.heap[b]? = w.heap[b]?) (hc : w.cell? ⟨b, j, none⟩ = some u) : w'.cell? ⟨b, j, none⟩ = some u := by
  unfold World.cell? at hc ⊢
  rw [show w'.heap[(⟨b, j, none⟩ : Addr).block]? = w.heap[(⟨b, j, none⟩ : Addr).block]? from h]
  exact hc
theorem PO.cell {g gv : Nat} {w w' : World} {cs : Array Value} {B n cp : Nat} {ys : List Value} (h : PO g gv w w' cs B n cp ys) {b j : Nat} {u : Value} (h1 : b ≠ g) (h2 : b ≠ gv) (hc : w.cell? ⟨b, j, none⟩ = some u) : w'.cell? ⟨b, j, none⟩ = some u := cell_same (h.oth b h1 h2) hc
theorem pw_cell_six {b' : Nat} {w w' : World} (h : Six b' w w') {b j : Nat} {u : Value} (h1 : b ≠ b') (hc : w.cell? ⟨b, j, none⟩ = some u) : w'.cell? ⟨b, j, none⟩ = some u := cell_same (h.block b h1) hc
theorem ne_row {W : World} {B n sz k : Nat} {e t : TypeId} {v : Value} {xs : List Value} {c : Array Value} {f : Nat × Nat} (h : W.ownsRow B e sz v n xs) (hk : W.heap[k]? = some (.cells c t f)) (ht : t ≠ e) : v.ownBlock ≠ some k := by
  intro he
  obtain ⟨c2, h2⟩ := row_type h k he
  rw [hk] at h2
  simp at h2
  exact ht h2.2.1
theorem ne_new {W : World} {B n sz k gv N : Nat} {e t : TypeId} {v : Value} {xs : List Value} {c : Array Value} {f : Nat × Nat} (h : W.ownsRow B e sz v n xs) (hk : W.heap[k]? = some (.cells c t f)) (ht : t ≠ e) (hv : some gv = v.ownBlock ∨ gv = N) (hN : W.heap.size ≤ N) : k ≠ gv := by
  rintro rfl
  rcases hv with hv | hv
  · exact ne_row h hk ht hv.symm
  · have := blk_lt hk; omega
theorem PO.kt {g gv : Nat} {w w' : World} {cs : Array Value} {B n cp : Nat} {ys : List Value} (h : PO g gv w w' cs B n cp ys) {c c' : Array Value} {f f' : Nat × Nat} (hg : w.heap[g]? = some (.cells c 120 f)) (hv : w.heap[gv]? = some (.cells c' 68 f')) : KT [120, 68] w w' :=
  ⟨by rw [h.size]; exact Nat.le_refl _, fun k _ ht => h.oth k (fun e => by subst e; exact ht _ _ _ hg (by simp)) (fun e => by subst e; exact ht _ _ _ hv (by simp))⟩
theorem open_fin {B : Nat} {W w' : World} {g n co gv cp : Nat} {ao : Option Addr} {sv sv' : Value} {l : List OV} {rt : OV} {dn : Bool} {e : Ev} (H : Bx B W g (.slice ao n co) sv l rt dn) (hn : n = l.length)
    (hb : w'.heap[g]? = some (.cells (bcs sv' rt dn (.slice (some ⟨gv, 0, none⟩) (n + 1) cp)) 120 (0, 0))) (hr : w'.ownsRow B 68 6 (.slice (some ⟨gv, 0, none⟩) (n + 1) cp) (n + 1) (l.flatMap ovCells ++ ovCells (nv e)))
    (hs : ∃ ss, w'.ownsRow B 26 3 sv' (n + 1) ss) (hgv : some gv = (Value.slice ao n co).ownBlock ∨ W.heap.size ≤ gv)
    (hk : ∀ k, k < W.heap.size → (Value.slice ao n co).ownBlock ≠ some k → k ≠ g → sv.ownBlock ≠ some k → w'.heap[k]? = W.heap[k]?) (hT : KT [120, 68, 26] W w') :
    Bx B w' g (.slice (some ⟨gv, 0, none⟩) (n + 1) cp) sv' (l ++ [nv e]) rt dn := by
  have hd := List.pairwise_cons.1 H.dis
  obtain ⟨ss, hss⟩ := H.stp
  refine ⟨hb, H.ge, ?_, ?_, ?_, ?_, ?_, H.rts, H.rtn⟩
  · rw [List.length_append, List.flatMap_append, ← hn]
    simpa using hr
  · rw [List.length_append, ← hn]
    exact hs
  · intro v hv
    rcases List.mem_append.1 hv with hv | hv
    · obtain ⟨⟨xs, h1⟩, ⟨ys, h2⟩, h3⟩ := H.its v hv
      refine ⟨⟨xs, LxA.own_more h1 (fun k hk1 => hk k (own_blk h1 k hk1).2 (fun h => ?_) (fun h => ?_) (fun h => ?_))⟩, ⟨ys, hT.row h2 (by decide)⟩, h3⟩
      · exact hd.1 _ (List.mem_map_of_mem hv) k h hk1
      · subst h; exact ne_row h1 H.blk (by decide) hk1
      · exact ap_type h1 hss (by decide) k hk1 h
    · obtain rfl : v = nv e := by simpa using hv
      exact ⟨⟨[], World.ownsRow_nil _ _ _ _⟩, ⟨[], World.ownsRow_nil _ _ _ _⟩, Nat.le_refl _⟩
  · rw [List.map_append]
    refine List.pairwise_cons.2 ⟨fun u hu => ?_, List.pairwise_append.2 ⟨hd.2, by simp, fun a _ c hc k _ => by simp [nv] at hc; subst hc; simp [Value.ownBlock]⟩⟩
    intro k hk1 hk2
    simp only [Value.ownBlock, Option.some.injEq] at hk1
    subst hk1
    rcases List.mem_append.1 hu with hu | hu
    · obtain ⟨v, hv, rfl⟩ := List.mem_map.1 hu
      rcases hgv with h | h
      · exact hd.1 _ hu gv h.symm hk2
      · obtain ⟨xs, h1⟩ := (H.its v hv).it
        have := (own_blk h1 gv hk2).2
        omega
    · simp [nv] at hu
      subst hu
      simp [Value.ownBlock] at hk2
  · rw [List.map_append]
    refine List.pairwise_append.2 ⟨H.disN, by simp, fun a _ c hc k _ => by simp [nv] at hc; subst hc; simp [Value.ownBlock]⟩
theorem append_at_step5 {P : Program} {ops : Array Oper} {o : Oper} {a : Act} {Q : Exit → Act → World → Prop} {Kc : Act → World → Prop} {w : World} (hw : Region.wanted o (yielded ops a.tmps) = true) {N : Option Tmp} (hN : o.dst = N) (s x : Operand) (t : TypeId)
    (ho : o.op = .call { callee := .builtin .append, args := #[s, x], argTypes := #[t, t] })
    (base : Nat) (e : TypeId) (i : TypeInfo) (z : Value) (size bytes : Nat) (ht : P.underlying t = some (.slice e)) (hi : P.info? e = some i) (hz : i.zero = some z)
    (hsize : i.size = size) (hby : i.bytes = bytes) (hzs : z.cells.size = size) (hsz : 0 < size)
    (v : Value) (n : Nat) (xs : List Value) (hs : a.eval s = v) (hown : w.ownsRow base e size v n xs)
    (ad : Addr) (m c : Nat) (news : List Value) (hx : a.eval x = .slice (some ad) m c) (hl : news.length = m * size) (hnews : ∀ j u, news[j]? = some u → w.cell? (ad.add j) = some u) (h1 : ∀ u ∈ news, u.oneCell' = true)
    (h63 : n + m ≤ maxLen) (hbytes : (n + m) * bytes ≤ 140737488355328) (hbase : base ≤ w.heap.size)
    (h : ∀ v' w', w'.ownsRow base e size v' (n + m) (xs ++ news) → w.grownBy w' v.ownBlock → (v'.ownBlock = v.ownBlock ∨ v'.ownBlock = some w.heap.size) → Kc (a.put N v') w') : if Region.wanted o (yielded ops a.tmps) = true then Oper.wp P o a w Kc Q else Kc (a.put N undef) w := by
  rw [if_pos hw]
  subst hN
  obtain ⟨v', w', hr, h2, h3, _, h5⟩ := run_append_own_at (P := P) w base t o.type e i z size bytes ht hi hz hsize hby hzs hsz v n xs hown ad m c news hl hnews h1 h63 hbytes hbase
  unfold Oper.wp execOp
  simp only [ho, resolve, invoke, builtin, Sem.run_bind, Sem.run_pure, Result.andThen_ok, List.map_toArray, List.map_cons, List.map_nil, hs, hx, hr]
  exact h v' w' h2 h3 h5
theorem ov_len (l : List OV) : (l.flatMap ovCells).length = l.length * 6 := by
  induction l with
  | nil => rfl
  | cons x r ih => rw [List.flatMap_cons, List.length_append, ih]; simp [ovCells]; omega
/-- The last element of a row of six cells, written anew. -/
theorem elem_put {w : World} {B gv cap n : Nat} {xs z : List Value} (hl : xs.length = n * 6) (hz : z.length = 6) (h : w.ownsRow B 68 6 (.slice (some ⟨gv, 0, none⟩) (n + 1) cap) (n + 1) (xs ++ z)) (v0 v1 v2 v3 v4 v5 : Value) :
    ((((((w.setCell ⟨gv, n * 6, none⟩ v0).setCell ⟨gv, n * 6 + 1, none⟩ v1).setCell ⟨gv, n * 6 + 2, none⟩ v2).setCell ⟨gv, n * 6 + 3, none⟩ v3).setCell ⟨gv, n * 6 + 4, none⟩ v4).setCell ⟨gv, n * 6 + 5, none⟩ v5).ownsRow B 68 6 (.slice (some ⟨gv, 0, none⟩) (n + 1) cap) (n + 1) (xs ++ [v0, v1, v2, v3, v4, v5]) := by
  have h0 := Nx.own_put h (n * 6) (by simp; omega) v0
  have h1 := Nx.own_put h0 (n * 6 + 1) (by simp; omega) v1
  have h2 := Nx.own_put h1 (n * 6 + 2) (by simp; omega) v2
  have h3 := Nx.own_put h2 (n * 6 + 3) (by simp; omega) v3
  have h4 := Nx.own_put h3 (n * 6 + 4) (by simp; omega) v4
  have h5 := Nx.own_put h4 (n * 6 + 5) (by simp; omega) v5
  obtain ⟨z0, z1, z2, z3, z4, z5, rfl⟩ : ∃ z0 z1 z2 z3 z4 z5, z = [z0, z1, z2, z3, z4, z5] := by
    match z, hz with
    | [z0, z1, z2, z3, z4, z5], _ => exact ⟨z0, z1, z2, z3, z4, z5, rfl⟩
  have e : ((((((xs ++ [z0, z1, z2, z3, z4, z5]).set (n * 6) v0).set (n * 6 + 1) v1).set (n * 6 + 2) v2).set (n * 6 + 3) v3).set (n * 6 + 4) v4).set (n * 6 + 5) v5 = xs ++ [v0, v1, v2, v3, v4, v5] := by
    rw [← hl]
    simp [List.set_append]
  rw [e] at h5
  exact h5
set_option maxHeartbeats 16000000 in
set_option maxRecDepth 100000 in
/-- Something opens. -/
theorem btake_open {B : Nat} {W : World} {g : Nat} {ov sv : Value} {l : List OV} {rt : OV} {dn : Bool} (h : Bx B W g ov sv l rt dn) (hB : B ≤ W.heap.size) (hn : l.length ≤ 1000000) (e : Ev) (hk : e.kind = 1) :
    Calls Tryd.prog 116 #[.pointer (some ⟨g, 0, none⟩), .agg (evCells e).toArray] W fun x w' => x = .returned (.tuple #[]) ∧ (∃ ov' sv', Bx B w' g ov' sv' (l ++ [nv e]) rt dn) ∧ Below B W w' ∧ KT [120, 68, 26, 9] W w' := by
  have H := Aside0.mk h
  have HB := Aside0.mk hB
  obtain ⟨n, hnn⟩ : ∃ n, n = l.length := ⟨_, rfl⟩
  have HN : Aside0 (n ≤ 1000000) := ⟨by rw [hnn]; exact hn⟩
  obtain ⟨xs, hxs⟩ : ∃ xs, xs = l.flatMap ovCells := ⟨_, rfl⟩
  have HXL : Aside0 (xs.length = n * 6) := ⟨by rw [hxs, hnn]; exact ov_len l⟩
  obtain ⟨ao, co, rfl⟩ := own_sl h.row
  obtain ⟨ss, hss⟩ := h.stp
  rw [← hnn] at hss
  have SW := Aside0.mk hss
  have HNX := Aside0.mk (And.intro hnn hxs)
  have HK := Aside0.mk hk
  have hgl := blk_lt h.blk
  clear h hB hn hnn hxs hss hk
  go_enter Tryd.func116, Tryd.ntmps116
  go_upto_region 1 with (fail)
  generalize hw1 : World.alloc W _ = w1
  have KW : Aside0 (Below W.heap.size W w1) := ⟨by subst hw1; exact below_alloc (Below.refl _ _) _⟩
  have BD : Aside0 (w1.drew.heap[W.heap.size]? = some (.cells (evCells e).toArray 62 (0, 0))) := ⟨by subst hw1; exact blk_new W _⟩
  have RD : Aside0 (w1.drew.ownsRow B 68 6 (Value.slice ao n co) n xs) := ⟨by rw [HNX.out.1, HNX.out.2]; exact (KT.of_below (p := []) KW.out).row H.out.row (by simp)⟩
  have GD : Aside0 (w1.drew.heap[g]? = some (.cells (bcs sv rt dn (Value.slice ao n co)) 120 (0, 0))) := ⟨by rw [HNX.out.1]; exact (KT.of_below (p := []) KW.out).blk H.out.blk (by simp)⟩
  have HBG : Aside0 (W.heap.size ≠ g) := ⟨fun e => by omega⟩
  have HBD : Aside0 (B ≤ w1.drew.heap.size) := ⟨Nat.le_trans HB.out KW.out.size⟩
  have CS : Aside0 (w1.drew.cell? ⟨W.heap.size, 1, none⟩ = some (.int .i64 e.value) ∧ w1.drew.cell? ⟨W.heap.size, 2, none⟩ = some (.int .i64 (e.frm : Int))) := ⟨(ev_cells BD.out).2.1, (ev_cells BD.out).2.2.1⟩
  have k0 : w1.cell? ⟨W.heap.size, 0, none⟩ = some (.int .i64 1) := by rw [← HK.out]; exact (ev_cells BD.out).1
  have KD : Aside0 (Below W.heap.size W w1.drew) := ⟨KW.out.drew⟩
  clear hw1 KW
  obtain ⟨b, hb⟩ : ∃ b, b = W.heap.size := ⟨_, rfl⟩
  rw [← hb] at BD HBG CS k0 ⊢
  have HBB := Aside0.mk hb
  clear hb hgl
  go_upto_region 2 with (fail)
  clear k0
  have c0 : w1.drew.cell? ⟨g, 0, none⟩ = some (Value.slice ao n co) := (blk_cell GD.out 0).trans rfl
  obtain ⟨i1, hi, hz0, hz1, hz2⟩ := info_parts vinfo
  have n4 : (n : Int) < (n : Int) + 1 := by omega
  refine start_ (n := 17) (S := fun w' => w'.cell? ⟨b, 1, none⟩ = some (.int .i64 e.value) ∧ w'.cell? ⟨b, 2, none⟩ = some (.int .i64 (e.frm : Int))) (ds := []) #[false, false, false, false, false, false, false, false, false, false, false, false, false, false, false, false, false] (by kernel_rfl) rfl rfl ⟨CS.out.1, CS.out.2⟩ (fun hHeld => ?_)
  generalize hwd_ : w1.drew = wD at CS RD GD BD HBD KD c0 hHeld ⊢
  clear hwd_
  refine pure_ (i := 0) (N := some 9) (v := ?_) (a' := ?_) #[true, false, false, false, false, false, false, false, false, false, false, false, false, false, false, false, false] rfl rfl (by kernel_rfl) (fun _ _ _ h => h) (Or.inl ⟨by rfl, ?_⟩) ?_ ?_
  rotate_left
  · intro w'
    go_simp
    with_reducible rfl
  rotate_left
  · simp only [Act.put, List.setIfInBounds_toArray, List.set_cons_zero, List.set_cons_succ, i64_w, i32_w]
    rfl
  refine pure_ (i := 1) (N := some 10) (v := ?_) (a' := ?_) #[true, true, false, false, false, false, false, false, false, false, false, false, false, false, false, false, false] rfl rfl (by kernel_rfl) (fun _ _ _ h => h) (Or.inl ⟨by rfl, ?_⟩) ?_ ?_
  rotate_left
  · intro w'
    go_simp
    with_reducible rfl
  rotate_left
  · simp only [Act.put, List.setIfInBounds_toArray, List.set_cons_zero, List.set_cons_succ, i64_w, i32_w]
    rfl
  refine pure_ (i := 2) (N := some 11) (v := ?_) (a' := ?_) #[true, true, true, false, false, false, false, false, false, false, false, false, false, false, false, false, false] rfl rfl (by kernel_rfl) (fun _ _ _ h => h) (Or.inl ⟨by rfl, ?_⟩) ?_ ?_
  rotate_left
  · intro w'
    go_simp
    with_reducible rfl
  rotate_left
  · simp only [Act.put, List.setIfInBounds_toArray, List.set_cons_zero, List.set_cons_succ, i64_w, i32_w]
    rfl
  refine pure_ (i := 4) (N := some 13) (v := ?_) (a' := ?_) #[true, true, true, false, true, false, false, false, false, false, false, false, false, false, false, false, false] rfl rfl (by kernel_rfl) (fun _ _ _ h => h) (Or.inl ⟨by rfl, ?_⟩) ?_ ?_
  rotate_left
  · intro w'
    go_simp
    with_reducible rfl
  rotate_left
  · simp only [Act.put, List.setIfInBounds_toArray, List.set_cons_zero, List.set_cons_succ, i64_w, i32_w]
    rfl
  refine pure_ (i := 6) (N := some 15) (v := ?_) (a' := ?_) #[true, true, true, false, true, false, true, false, false, false, false, false, false, false, false, false, false] rfl rfl (by kernel_rfl) (fun _ _ _ h => h) (Or.inl ⟨by rfl, ?_⟩) ?_ ?_
  rotate_left
  · intro w'
    go_simp
    with_reducible rfl
  rotate_left
  · simp only [Act.put, List.setIfInBounds_toArray, List.set_cons_zero, List.set_cons_succ, i64_w, i32_w]
    rfl
  refine take_ (i := 5) (N := some 14) (v := ?_) (a' := ?_) #[true, true, true, false, true, true, true, false, false, false, false, false, false, false, false, false, false] rfl rfl (by kernel_rfl) (fun _ _ _ h => h) (Or.inl ⟨by rfl, ?_⟩) hHeld ?_ ?_
  rotate_left
  · rintro w' ⟨s0, s1⟩
    go_simp
    with_reducible rfl
  rotate_left
  · simp only [Act.put, List.setIfInBounds_toArray, List.set_cons_zero, List.set_cons_succ, i64_w, i32_w]
    rfl
  refine take_ (i := 7) (N := some 16) (v := ?_) (a' := ?_) #[true, true, true, false, true, true, true, true, false, false, false, false, false, false, false, false, false] rfl rfl (by kernel_rfl) (fun _ _ _ h => h) (Or.inl ⟨by rfl, ?_⟩) hHeld ?_ ?_
  rotate_left
  · rintro w' ⟨s0, s1⟩
    go_simp
    with_reducible rfl
  rotate_left
  · simp only [Act.put, List.setIfInBounds_toArray, List.set_cons_zero, List.set_cons_succ, i64_w, i32_w]
    rfl
  refine pure_ (i := 8) (N := some 17) (v := ?_) (a' := ?_) #[true, true, true, false, true, true, true, true, true, false, false, false, false, false, false, false, false] rfl rfl (by kernel_rfl) (fun _ _ _ h => h) (Or.inl ⟨by rfl, ?_⟩) ?_ ?_
  rotate_left
  · intro w'
    go_simp
    with_reducible rfl
  rotate_left
  · simp only [Act.put, List.setIfInBounds_toArray, List.set_cons_zero, List.set_cons_succ, i64_w, i32_w]
    rfl
  refine join_ (σ := Unit) 6 #[true, true, true, true, true, true, true, true, true, true, true, false, false, false, false, false, false] (fun _ => [(12, (Value.slice ao n co)), (18, .int .i64 (n : Int)), (19, .slice (some ⟨wD.heap.size, 0, none⟩) 1 1)]) (fun _ w' => w'.ownsRow B 68 6 (Value.slice ao n co) n xs ∧ (∀ (j : Nat) u, z6[j]? = some u → w'.cell? ((⟨wD.heap.size, 0, none⟩ : Addr).add j) = some u) ∧ Below wD.heap.size wD w' ∧ w'.heap.size = wD.heap.size + 1) ?_ ?_
  rotate_left
  · intro hCont
    refine two_ (i := 3) (j := 10) (Ni := some 12) (Nj := some 19) #[true, true, true, true, true, true, true, true, true, false, false, false, false, false, false, false, false] #[true, true, true, false, true, true, true, true, true, false, true, false, false, false, false, false, false] rfl rfl rfl rfl (by kernel_rfl) (by decide) (by decide) (fun K hK => ?_) (fun K hK => ?_)
    · skip
      refine value_ (w1 := ?_) (v := ?_) (by rfl) rfl ?_ ?_
      rotate_left 2
      · go_simp
        constructor
        · rfl
        · rfl
      refine hK.out _ _ ⟨CS.out.1, CS.out.2⟩ (fun hHeld => ?_)
      clear hK K
      refine norm_ (a' := ?_) ?_ ?_
      rotate_left
      · show Act.put _ (some 12) _ = _
        simp only [Act.put, List.setIfInBounds_toArray, List.set_cons_zero, List.set_cons_succ, i64_w, i32_w]
        rfl
      refine pure_ (i := 9) (N := some 18) (v := ?_) (a' := ?_) #[true, true, true, true, true, true, true, true, true, true, false, false, false, false, false, false, false] rfl rfl (by kernel_rfl) (fun _ _ _ h => h) (Or.inl ⟨by rfl, ?_⟩) ?_ ?_
      rotate_left
      · intro w'
        go_simp
        with_reducible rfl
      rotate_left
      · simp only [Act.put, List.setIfInBounds_toArray, List.set_cons_zero, List.set_cons_succ, i64_w, i32_w]
        rfl
      refine one_ (i := 10) (N := some 19) #[true, true, true, true, true, true, true, true, true, true, true, false, false, false, false, false, false] rfl rfl (by kernel_rfl) (by decide) (fun K hK => ?_)
      refine value_ (w1 := ?_) (v := ?_) (by rfl) rfl ?_ ?_
      rotate_left 2
      · go_simp
        constructor
        · rfl
        · rfl
      generalize hg_ : World.alloc wD _ = wA
      have RA : Aside0 (wA.ownsRow B 68 6 (Value.slice ao n co) n xs) := ⟨by subst hg_; exact RD.out.alloc _⟩
      have LA : Aside0 (∀ (j : Nat) u, z6[j]? = some u → wA.cell? ((⟨wD.heap.size, 0, none⟩ : Addr).add j) = some u) := ⟨by subst hg_; exact Nx.litN wD 68 z6⟩
      have KA : Aside0 (Below wD.heap.size wD wA ∧ wA.heap.size = wD.heap.size + 1) := ⟨by subst hg_; exact ⟨below_alloc (Below.refl _ _) _, by simp⟩⟩
      have CA : Aside0 (wA.cell? ⟨b, 1, none⟩ = some (.int .i64 e.value) ∧ wA.cell? ⟨b, 2, none⟩ = some (.int .i64 (e.frm : Int))) := ⟨pw_cell_below KA.out.1 CS.out.1, pw_cell_below KA.out.1 CS.out.2⟩
      have c0A : wA.cell? ⟨g, 0, none⟩ = some (Value.slice ao n co) := pw_cell_below KA.out.1 c0
      refine hK.out _ _ ⟨CA.out.1, CA.out.2⟩ (fun hHeld => ?_)
      clear hK K
      refine norm_ (a' := ?_) ?_ ?_
      rotate_left
      · show Act.put _ (some 19) _ = _
        simp only [Act.put, List.setIfInBounds_toArray, List.set_cons_zero, List.set_cons_succ, i64_w, i32_w]
        rfl
      exact norm_ (by simp only [putAll, Act.put, List.setIfInBounds_toArray, List.set_cons_zero, List.set_cons_succ]) (hCont () _ ⟨RA.out, LA.out, KA.out.1, KA.out.2⟩)
    · skip
      refine value_ (w1 := ?_) (v := ?_) (by rfl) rfl ?_ ?_
      rotate_left 2
      · go_simp
        constructor
        · rfl
        · rfl
      generalize hg_ : World.alloc wD _ = wA
      have RA : Aside0 (wA.ownsRow B 68 6 (Value.slice ao n co) n xs) := ⟨by subst hg_; exact RD.out.alloc _⟩
      have LA : Aside0 (∀ (j : Nat) u, z6[j]? = some u → wA.cell? ((⟨wD.heap.size, 0, none⟩ : Addr).add j) = some u) := ⟨by subst hg_; exact Nx.litN wD 68 z6⟩
      have KA : Aside0 (Below wD.heap.size wD wA ∧ wA.heap.size = wD.heap.size + 1) := ⟨by subst hg_; exact ⟨below_alloc (Below.refl _ _) _, by simp⟩⟩
      have CA : Aside0 (wA.cell? ⟨b, 1, none⟩ = some (.int .i64 e.value) ∧ wA.cell? ⟨b, 2, none⟩ = some (.int .i64 (e.frm : Int))) := ⟨pw_cell_below KA.out.1 CS.out.1, pw_cell_below KA.out.1 CS.out.2⟩
      have c0A : wA.cell? ⟨g, 0, none⟩ = some (Value.slice ao n co) := pw_cell_below KA.out.1 c0
      refine hK.out _ _ ⟨CA.out.1, CA.out.2⟩ (fun hHeld => ?_)
      clear hK K
      refine norm_ (a' := ?_) ?_ ?_
      rotate_left
      · show Act.put _ (some 19) _ = _
        simp only [Act.put, List.setIfInBounds_toArray, List.set_cons_zero, List.set_cons_succ, i64_w, i32_w]
        rfl
      refine one_ (i := 3) (N := some 12) #[true, true, true, true, true, true, true, true, true, false, true, false, false, false, false, false, false] rfl rfl (by kernel_rfl) (by decide) (fun K hK => ?_)
      refine value_ (w1 := ?_) (v := ?_) (by rfl) rfl ?_ ?_
      rotate_left 2
      · go_simp
        constructor
        · rfl
        · rfl
      refine hK.out _ _ ⟨CA.out.1, CA.out.2⟩ (fun hHeld => ?_)
      clear hK K
      refine norm_ (a' := ?_) ?_ ?_
      rotate_left
      · show Act.put _ (some 12) _ = _
        simp only [Act.put, List.setIfInBounds_toArray, List.set_cons_zero, List.set_cons_succ, i64_w, i32_w]
        rfl
      refine pure_ (i := 9) (N := some 18) (v := ?_) (a' := ?_) #[true, true, true, true, true, true, true, true, true, true, true, false, false, false, false, false, false] rfl rfl (by kernel_rfl) (fun _ _ _ h => h) (Or.inl ⟨by rfl, ?_⟩) ?_ ?_
      rotate_left
      · intro w'
        go_simp
        with_reducible rfl
      rotate_left
      · simp only [Act.put, List.setIfInBounds_toArray, List.set_cons_zero, List.set_cons_succ, i64_w, i32_w]
        rfl
      exact norm_ (by simp only [putAll, Act.put, List.setIfInBounds_toArray, List.set_cons_zero, List.set_cons_succ]) (hCont () _ ⟨RA.out, LA.out, KA.out.1, KA.out.2⟩)
  rintro _ wA ⟨hRA, hLA, hKA, hSA⟩
  have RA := Aside0.mk hRA
  have LA := Aside0.mk hLA
  have KA := Aside0.mk hKA
  have SA := Aside0.mk hSA
  clear hRA hLA hKA hSA
  have hHeld := And.intro (pw_cell_below KA.out CS.out.1) (pw_cell_below KA.out CS.out.2)
  have CA := Aside0.mk hHeld
  refine norm_ (a' := ?_) ?_ ?_
  rotate_left
  · simp only [putAll, Act.put, List.setIfInBounds_toArray, List.set_cons_zero, List.set_cons_succ]
    rfl
  refine one_ (i := 11) (N := some 20) #[true, true, true, true, true, true, true, true, true, true, true, true, false, false, false, false, false] rfl rfl (by kernel_rfl) (by decide) (fun K hK => ?_)
  refine append_at_step5 (by rfl) rfl (.tmp 12) (.tmp 19) 65 rfl B 68 i1 _ 6 88 Tryd.underlying65 hi hz0 hz1 hz2 rfl (by decide) (Value.slice ao n co) n xs rfl RA.out ⟨wD.heap.size, 0, none⟩ 1 1 z6 rfl rfl LA.out (z6_one) (by have := HN.out; unfold maxLen; omega) (by have := HN.out; omega) (by have := SA.out; have := HBD.out; omega) ?_
  intro v' wB hown hgrow hblk
  obtain ⟨gv, cp, rfl⟩ : ∃ gv cp, v' = .slice (some ⟨gv, 0, none⟩) (n + 1) cp := own_some hown
  have RB := Aside0.mk hown
  have GVB : Aside0 (some gv = (Value.slice ao n co).ownBlock ∨ gv = wA.heap.size) := ⟨hblk.imp id (fun h => by injection h)⟩
  have HGV : Aside0 (g ≠ gv) := ⟨ne_new RD.out GD.out (by decide) GVB.out (by have := SA.out; omega)⟩
  have HBV : Aside0 (b ≠ gv) := ⟨ne_new RD.out BD.out (by decide) GVB.out (by have := SA.out; omega)⟩
  have OB : Aside0 (∀ k, k < wD.heap.size → (Value.slice ao n co).ownBlock ≠ some k → wB.heap[k]? = wD.heap[k]?) := ⟨fun k hk ho => (hgrow.block k (by have := SA.out; omega) (fun e => ho e.symm)).trans (KA.out.block k hk)⟩
  have GB : Aside0 (wB.heap[g]? = some (.cells (bcs sv rt dn (Value.slice ao n co)) 120 (0, 0))) := ⟨(OB.out g (blk_lt GD.out) (ne_row RD.out GD.out (by decide))).trans GD.out⟩
  have BB : Aside0 (wB.heap[b]? = some (.cells (evCells e).toArray 62 (0, 0))) := ⟨(OB.out b (blk_lt BD.out) (ne_row RD.out BD.out (by decide))).trans BD.out⟩
  have CB : Aside0 (wB.cell? ⟨b, 1, none⟩ = some (.int .i64 e.value) ∧ wB.cell? ⟨b, 2, none⟩ = some (.int .i64 (e.frm : Int))) := ⟨(ev_cells BB.out).2.1, (ev_cells BB.out).2.2.1⟩
  have LB : Aside0 (Below B wD wB) := ⟨((KA.out.mono HBD.out)).grown hgrow (by have := SA.out; have := HBD.out; omega) (fun k hk => (own_blk RA.out k hk).1)⟩
  have SB : Aside0 (wA.heap.size ≤ wB.heap.size) := ⟨hgrow.size⟩
  have TB : Aside0 (KT [68] wD wB) := ⟨(KT.of_below KA.out).trans (KT.of_grown RA.out hgrow)⟩
  clear hown hgrow hblk
  refine hK.out _ _ ⟨CB.out.1, CB.out.2⟩ (fun hHeld => ?_)
  clear hK K
  refine norm_ (a' := ?_) ?_ ?_
  rotate_left
  · show Act.put _ (some 20) _ = _
    simp only [Act.put, List.setIfInBounds_toArray, List.set_cons_zero, List.set_cons_succ, i64_w, i32_w]
    rfl
  refine pure_ (i := 12) (N := some 21) (v := ?_) (a' := ?_) #[true, true, true, true, true, true, true, true, true, true, true, true, true, false, false, false, false] rfl rfl (by kernel_rfl) (fun _ _ _ h => h) (Or.inl ⟨by rfl, ?_⟩) ?_ ?_
  rotate_left
  · intro w'
    go_simp
    with_reducible rfl
  rotate_left
  · simp only [Act.put, List.setIfInBounds_toArray, List.set_cons_zero, List.set_cons_succ, i64_w, i32_w]
    rfl
  refine pure_ (i := 14) (N := some 22) (v := ?_) (a' := ?_) #[true, true, true, true, true, true, true, true, true, true, true, true, true, false, true, false, false] rfl rfl (by kernel_rfl) (fun _ _ _ h => h) (Or.inl ⟨by rfl, ?_⟩) ?_ ?_
  rotate_left
  · intro w'
    go_simp
    with_reducible rfl
  rotate_left
  · simp only [Act.put, List.setIfInBounds_toArray, List.set_cons_zero, List.set_cons_succ, i64_w, i32_w]
    rfl
  refine pure_ (i := 15) (N := some 23) (v := ?_) (a' := ?_) #[true, true, true, true, true, true, true, true, true, true, true, true, true, false, true, true, false] rfl rfl (by kernel_rfl) (fun _ _ _ h => h) (Or.inl ⟨by rfl, ?_⟩) ?_ ?_
  rotate_left
  · intro w'
    go_simp
    with_reducible rfl
  rotate_left
  · simp only [Act.put, List.setIfInBounds_toArray, List.set_cons_zero, List.set_cons_succ, i64_w, i32_w]
    rfl
  refine join_ (σ := Unit) 0 #[true, true, true, true, true, true, true, true, true, true, true, true, true, true, true, true, true] (fun _ => []) (fun _ w' => PO g gv wB w' (bcs sv rt dn (.slice (some ⟨gv, 0, none⟩) (n + 1) cp)) B (n + 1) cp (xs ++ ovCells (nv e))) ?_ ?_
  rotate_left
  · intro hCont
    refine two_ (i := 13) (j := 16) (Ni := none) (Nj := none) #[true, true, true, true, true, true, true, true, true, true, true, true, true, true, true, true, false] #[true, true, true, true, true, true, true, true, true, true, true, true, true, false, true, true, true] rfl rfl rfl rfl (by kernel_rfl) (by decide) (by decide) (fun K hK => ?_) (fun K hK => ?_)
    · skip
      have u0 : wB.cell? ⟨gv, n * 6, none⟩ = some (.int .i64 0) := LxA.own_cell RB.out (n * 6) _ (by rw [← HXL.out]; simp [z6])
      have u1 : wB.cell? ⟨gv, n * 6 + 1, none⟩ = some (.int .i64 0) := LxA.own_cell RB.out (n * 6 + 1) _ (by rw [← HXL.out]; simp [z6])
      have u2 : wB.cell? ⟨gv, n * 6 + 2, none⟩ = some (.int .i64 0) := LxA.own_cell RB.out (n * 6 + 2) _ (by rw [← HXL.out]; simp [z6])
      have u3 : wB.cell? ⟨gv, n * 6 + 3, none⟩ = some (.string ⟨#[]⟩) := LxA.own_cell RB.out (n * 6 + 3) _ (by rw [← HXL.out]; simp [z6])
      have u4 : wB.cell? ⟨gv, n * 6 + 4, none⟩ = some (.slice none 0 0) := LxA.own_cell RB.out (n * 6 + 4) _ (by rw [← HXL.out]; simp [z6])
      have u5 : wB.cell? ⟨gv, n * 6 + 5, none⟩ = some (.slice none 0 0) := LxA.own_cell RB.out (n * 6 + 5) _ (by rw [← HXL.out]; simp [z6])
      have y0 := Nx.own_frozen RB.out (n * 6)
      have y1 := Nx.own_frozen RB.out (n * 6 + 1)
      have y2 := Nx.own_frozen RB.out (n * 6 + 2)
      have y3 := Nx.own_frozen RB.out (n * 6 + 3)
      have y4 := Nx.own_frozen RB.out (n * 6 + 4)
      have y5 := Nx.own_frozen RB.out (n * 6 + 5)
      refine skip_ (w1 := ?_) (by rfl) rfl ?_ ?_
      rotate_left
      · go_simp
        rfl
      generalize hg_ : World.setCell _ ⟨gv, n * 6 + 5, none⟩ _ = w13
      have X13 := Aside0.mk (show Six gv wB w13 by subst hg_; exact (((((((Six.refl gv wB).set (n * 6) _).set (n * 6 + 1) _).set (n * 6 + 2) _).set (n * 6 + 3) _).set (n * 6 + 4) _).set (n * 6 + 5) _))
      have R13 : Aside0 (w13.ownsRow B 68 6 (.slice (some ⟨gv, 0, none⟩) (n + 1) cp) (n + 1) (xs ++ ovCells (nv e))) := ⟨by subst hg_; exact elem_put HXL.out rfl RB.out _ _ _ _ _ _⟩
      clear hg_
      have G13 : Aside0 (w13.heap[g]? = some (.cells (bcs sv rt dn (Value.slice ao n co)) 120 (0, 0))) := ⟨(X13.out.block g HGV.out).trans GB.out⟩
      have c0x : w13.cell? ⟨g, 0, none⟩ = some (Value.slice ao n co) := (blk_cell G13.out 0).trans rfl
      have z0x := blk_frozen G13.out 0
      refine hK.out _ _ ⟨(pw_cell_six X13.out HBV.out CB.out.1), (pw_cell_six X13.out HBV.out CB.out.2)⟩ (fun hHeld => ?_)
      clear hK K
      refine one_ (i := 16) (N := none) #[true, true, true, true, true, true, true, true, true, true, true, true, true, true, true, true, true] rfl rfl (by kernel_rfl) (by decide) (fun K hK => ?_)
      refine skip_ (w1 := ?_) (by rfl) rfl ?_ ?_
      rotate_left
      · go_simp
        rfl
      generalize hg_ : World.setCell w13 ⟨g, 0, none⟩ _ = wC
      have PC : Aside0 (PO g gv wB wC (bcs sv rt dn (.slice (some ⟨gv, 0, none⟩) (n + 1) cp)) B (n + 1) cp (xs ++ ovCells (nv e))) := ⟨by
        subst hg_
        refine ⟨by simpa [bcs] using blk_set G13.out 0 (.slice (some ⟨gv, 0, none⟩) (n + 1) cp), ((Six.refl g w13).set 0 _).row R13.out (fun e => by simp [Value.ownBlock] at e; exact HGV.out e.symm), fun k h1 h2 => (((Six.refl g w13).set 0 _).block k h1).trans (X13.out.block k h2), by rw [((Six.refl g w13).set 0 _).size, X13.out.size], fun C hC1 hC2 => (X13.out.bel C hC2).trans (((Six.refl g w13).set 0 _).bel C hC1)⟩⟩
      clear hg_
      refine hK.out _ _ ⟨(PC.out.cell HBG.out HBV.out CB.out.1), (PC.out.cell HBG.out HBV.out CB.out.2)⟩ (fun hHeld => ?_)
      clear hK K
      exact norm_ (by simp only [putAll, Act.put, List.setIfInBounds_toArray, List.set_cons_zero, List.set_cons_succ]) (hCont () _ PC.out)
    · skip
      have c0x : wB.cell? ⟨g, 0, none⟩ = some (Value.slice ao n co) := (blk_cell GB.out 0).trans rfl
      have z0x := blk_frozen GB.out 0
      refine skip_ (w1 := ?_) (by rfl) rfl ?_ ?_
      rotate_left
      · go_simp
        rfl
      generalize hg_ : World.setCell _ ⟨g, 0, none⟩ _ = w16
      have X16 := Aside0.mk (show Six g wB w16 by subst hg_; exact (Six.refl g wB).set 0 _)
      have G16 : Aside0 (w16.heap[g]? = some (.cells (bcs sv rt dn (.slice (some ⟨gv, 0, none⟩) (n + 1) cp)) 120 (0, 0))) := ⟨by subst hg_; simpa [bcs] using blk_set GB.out 0 (.slice (some ⟨gv, 0, none⟩) (n + 1) cp)⟩
      have R16 : Aside0 (w16.ownsRow B 68 6 (.slice (some ⟨gv, 0, none⟩) (n + 1) cp) (n + 1) (xs ++ z6)) := ⟨X16.out.row RB.out (fun e => by simp [Value.ownBlock] at e; exact HGV.out e.symm)⟩
      clear hg_
      have u0 : w16.cell? ⟨gv, n * 6, none⟩ = some (.int .i64 0) := LxA.own_cell R16.out (n * 6) _ (by rw [← HXL.out]; simp [z6])
      have u1 : w16.cell? ⟨gv, n * 6 + 1, none⟩ = some (.int .i64 0) := LxA.own_cell R16.out (n * 6 + 1) _ (by rw [← HXL.out]; simp [z6])
      have u2 : w16.cell? ⟨gv, n * 6 + 2, none⟩ = some (.int .i64 0) := LxA.own_cell R16.out (n * 6 + 2) _ (by rw [← HXL.out]; simp [z6])
      have u3 : w16.cell? ⟨gv, n * 6 + 3, none⟩ = some (.string ⟨#[]⟩) := LxA.own_cell R16.out (n * 6 + 3) _ (by rw [← HXL.out]; simp [z6])
      have u4 : w16.cell? ⟨gv, n * 6 + 4, none⟩ = some (.slice none 0 0) := LxA.own_cell R16.out (n * 6 + 4) _ (by rw [← HXL.out]; simp [z6])
      have u5 : w16.cell? ⟨gv, n * 6 + 5, none⟩ = some (.slice none 0 0) := LxA.own_cell R16.out (n * 6 + 5) _ (by rw [← HXL.out]; simp [z6])
      have y0 := Nx.own_frozen R16.out (n * 6)
      have y1 := Nx.own_frozen R16.out (n * 6 + 1)
      have y2 := Nx.own_frozen R16.out (n * 6 + 2)
      have y3 := Nx.own_frozen R16.out (n * 6 + 3)
      have y4 := Nx.own_frozen R16.out (n * 6 + 4)
      have y5 := Nx.own_frozen R16.out (n * 6 + 5)
      refine hK.out _ _ ⟨(pw_cell_six X16.out HBG.out CB.out.1), (pw_cell_six X16.out HBG.out CB.out.2)⟩ (fun hHeld => ?_)
      clear hK K
      refine one_ (i := 13) (N := none) #[true, true, true, true, true, true, true, true, true, true, true, true, true, true, true, true, true] rfl rfl (by kernel_rfl) (by decide) (fun K hK => ?_)
      refine skip_ (w1 := ?_) (by rfl) rfl ?_ ?_
      rotate_left
      · go_simp
        rfl
      generalize hg_ : World.setCell _ ⟨gv, n * 6 + 5, none⟩ _ = wC
      have PC : Aside0 (PO g gv wB wC (bcs sv rt dn (.slice (some ⟨gv, 0, none⟩) (n + 1) cp)) B (n + 1) cp (xs ++ ovCells (nv e))) := ⟨by
        have XX := (show Six gv w16 wC by subst hg_; exact (((((((Six.refl gv w16).set (n * 6) _).set (n * 6 + 1) _).set (n * 6 + 2) _).set (n * 6 + 3) _).set (n * 6 + 4) _).set (n * 6 + 5) _))
        refine ⟨(XX.block g HGV.out).trans G16.out, by subst hg_; exact elem_put HXL.out rfl R16.out _ _ _ _ _ _, fun k h1 h2 => (XX.block k h2).trans (X16.out.block k h1), by rw [XX.size, X16.out.size], fun C hC1 hC2 => (X16.out.bel C hC1).trans (XX.bel C hC2)⟩⟩
      clear hg_
      refine hK.out _ _ ⟨(PC.out.cell HBG.out HBV.out CB.out.1), (PC.out.cell HBG.out HBV.out CB.out.2)⟩ (fun hHeld => ?_)
      clear hK K
      exact norm_ (by simp only [putAll, Act.put, List.setIfInBounds_toArray, List.set_cons_zero, List.set_cons_succ]) (hCont () _ PC.out)
  rintro _ wC hPC
  have PC := Aside0.mk hPC
  clear hPC
  have hHeld := And.intro (PC.out.cell HBG.out HBV.out CB.out.1) (PC.out.cell HBG.out HBV.out CB.out.2)
  refine norm_ (a' := ?_) ?_ ?_
  rotate_left
  · simp only [putAll, Act.put, List.setIfInBounds_toArray, List.set_cons_zero, List.set_cons_succ]
    rfl
  refine done_ (by kernel_rfl) ?_
  obtain ⟨gcv, hgcv⟩ := row_type RB.out gv rfl
  have TC : Aside0 (KT [120, 68] wD wC) := ⟨(TB.out.mono (by simp)).trans (PC.out.kt GB.out hgcv)⟩
  have LC : Aside0 (Below B W wC) := ⟨((KD.out.mono HB.out).trans LB.out).trans (PC.out.bel B (H.out.ge) (own_blk RB.out gv rfl).1)⟩
  have QC : Aside0 (wD.heap.size ≤ wC.heap.size) := ⟨by rw [PC.out.size]; have := SA.out; have := SB.out; omega⟩
  have KC : Aside0 (∀ k, k < W.heap.size → (Value.slice ao n co).ownBlock ≠ some k → k ≠ g → wC.heap[k]? = W.heap[k]?) := ⟨fun k hk h1 h2 => (PC.out.oth k h2 (fun e => by
    rcases GVB.out with h | h
    · exact h1 (by rw [← h, e])
    · have := SA.out; have := KD.out.size; omega)).trans ((OB.out k (Nat.lt_of_lt_of_le hk KD.out.size) h1).trans (KD.out.block k hk))⟩
  have GVW : Aside0 (some gv = (Value.slice ao n co).ownBlock ∨ W.heap.size ≤ gv) := ⟨GVB.out.imp id (fun h => by have := SA.out; have := KD.out.size; omega)⟩
  have BDC : Aside0 (wC.heap[b]? = some (.cells (evCells e).toArray 62 (0, 0))) := ⟨TC.out.blk BD.out (by decide)⟩
  have SC : Aside0 (wC.ownsRow B 26 3 sv n ss) := ⟨TC.out.row ((KT.of_below (p := []) KD.out).row SW.out (by simp)) (by decide)⟩
  have PF : Aside0 (PO g gv wB wC.drew (bcs sv rt dn (.slice (some ⟨gv, 0, none⟩) (n + 1) cp)) B (n + 1) cp (xs ++ ovCells (nv e))) := ⟨⟨PC.out.blk, PC.out.row, PC.out.oth, PC.out.size, fun C h1 h2 => (PC.out.bel C h1 h2).drew⟩⟩
  clear c0 CS RD GD BD HBD hHeld hgcv n4 CA SA KA LA RA GVB HGV HBV OB GB BB CB LB SB TB RB PC
  go_upto_region 3 with (fail)
  obtain ⟨i2, ti, tz0, tz1, tz2⟩ := info_parts sinfo
  have SD : Aside0 (wC.drew.ownsRow B 26 3 sv n ss) := ⟨SC.out⟩
  have HBF : Aside0 (B ≤ wC.drew.heap.size) := ⟨Nat.le_trans HB.out LC.out.size⟩
  have KF_ : Aside0 (∀ k, k < W.heap.size → (Value.slice ao n co).ownBlock ≠ some k → k ≠ g → wC.drew.heap[k]? = W.heap[k]?) := ⟨KC.out⟩
  have TF : Aside0 (KT [120, 68] wD wC.drew) := ⟨TC.out⟩
  have LF : Aside0 (Below B W wC.drew) := ⟨LC.out.drew⟩
  have QF : Aside0 (wD.heap.size ≤ wC.drew.heap.size) := ⟨QC.out⟩
  have DS : Aside0 (wC.drew.cell? ⟨g, 1, none⟩ = some sv ∧ wC.drew.cell? ⟨b, 4, none⟩ = some (.bool e.step.named) ∧ wC.drew.cell? ⟨b, 5, none⟩ = some (.string e.step.name) ∧ wC.drew.cell? ⟨b, 6, none⟩ = some (.int .i64 (e.step.idx : Int))) := ⟨(blk_cell PF.out.blk 1).trans rfl, (ev_cells BDC.out).2.2.2.2.1, (ev_cells BDC.out).2.2.2.2.2.1, (ev_cells BDC.out).2.2.2.2.2.2.1⟩
  clear SC KC TC LC QC BDC
  refine start_ (n := 12) (S := fun w' => w'.cell? ⟨g, 1, none⟩ = some sv ∧ w'.cell? ⟨b, 4, none⟩ = some (.bool e.step.named) ∧ w'.cell? ⟨b, 5, none⟩ = some (.string e.step.name) ∧ w'.cell? ⟨b, 6, none⟩ = some (.int .i64 (e.step.idx : Int))) (ds := [8, 11]) #[false, false, false, false, false, false, false, false, false, false, false, false] (by kernel_rfl) rfl rfl ⟨DS.out.1, DS.out.2.1, DS.out.2.2.1, DS.out.2.2.2⟩ (fun hHeld => ?_)
  generalize hwd_ : wC.drew = wF at DS SD PF HBF KF_ TF LF QF hHeld ⊢
  clear hwd_
  refine pure_ (i := 0) (N := some 24) (v := ?_) (a' := ?_) #[true, false, false, false, false, false, false, false, false, false, false, false] rfl rfl (by kernel_rfl) (fun _ _ _ h => h) (Or.inl ⟨by rfl, ?_⟩) ?_ ?_
  rotate_left
  · intro w'
    go_simp
    with_reducible rfl
  rotate_left
  · simp only [Act.put, List.setIfInBounds_toArray, List.set_cons_zero, List.set_cons_succ, i64_w, i32_w]
    rfl
  refine pure_ (i := 1) (N := some 25) (v := ?_) (a' := ?_) #[true, true, false, false, false, false, false, false, false, false, false, false] rfl rfl (by kernel_rfl) (fun _ _ _ h => h) (Or.inl ⟨by rfl, ?_⟩) ?_ ?_
  rotate_left
  · intro w'
    go_simp
    with_reducible rfl
  rotate_left
  · simp only [Act.put, List.setIfInBounds_toArray, List.set_cons_zero, List.set_cons_succ, i64_w, i32_w]
    rfl
  refine pure_ (i := 2) (N := some 26) (v := ?_) (a' := ?_) #[true, true, true, false, false, false, false, false, false, false, false, false] rfl rfl (by kernel_rfl) (fun _ _ _ h => h) (Or.inl ⟨by rfl, ?_⟩) ?_ ?_
  rotate_left
  · intro w'
    go_simp
    with_reducible rfl
  rotate_left
  · simp only [Act.put, List.setIfInBounds_toArray, List.set_cons_zero, List.set_cons_succ, i64_w, i32_w]
    rfl
  refine pure_ (i := 3) (N := some 27) (v := ?_) (a' := ?_) #[true, true, true, true, false, false, false, false, false, false, false, false] rfl rfl (by kernel_rfl) (fun _ _ _ h => h) (Or.inl ⟨by rfl, ?_⟩) ?_ ?_
  rotate_left
  · intro w'
    go_simp
    with_reducible rfl
  rotate_left
  · simp only [Act.put, List.setIfInBounds_toArray, List.set_cons_zero, List.set_cons_succ, i64_w, i32_w]
    rfl
  refine pure_ (i := 5) (N := some 29) (v := ?_) (a' := ?_) #[true, true, true, true, false, true, false, false, false, false, false, false] rfl rfl (by kernel_rfl) (fun _ _ _ h => h) (Or.inl ⟨by rfl, ?_⟩) ?_ ?_
  rotate_left
  · intro w'
    go_simp
    with_reducible rfl
  rotate_left
  · simp only [Act.put, List.setIfInBounds_toArray, List.set_cons_zero, List.set_cons_succ, i64_w, i32_w]
    rfl
  refine take_ (i := 4) (N := some 28) (v := ?_) (a' := ?_) #[true, true, true, true, true, true, false, false, false, false, false, false] rfl rfl (by kernel_rfl) (fun _ _ _ h => h) (Or.inl ⟨by rfl, ?_⟩) hHeld ?_ ?_
  rotate_left
  · rintro w' ⟨s0, s1, s2, s3⟩
    go_simp
    with_reducible rfl
  rotate_left
  · simp only [Act.put, List.setIfInBounds_toArray, List.set_cons_zero, List.set_cons_succ, i64_w, i32_w]
    rfl
  refine take_ (i := 6) (N := some 30) (v := ?_) (a' := ?_) #[true, true, true, true, true, true, true, false, false, false, false, false] rfl rfl (by kernel_rfl) (fun _ _ _ h => h) (Or.inl ⟨by rfl, ?_⟩) hHeld ?_ ?_
  rotate_left
  · rintro w' ⟨s0, s1, s2, s3⟩
    go_simp
    with_reducible rfl
  rotate_left
  · simp only [Act.put, List.setIfInBounds_toArray, List.set_cons_zero, List.set_cons_succ, i64_w, i32_w]
    rfl
  refine one_ (i := 7) (N := some 31) #[true, true, true, true, true, true, true, true, false, false, false, false] rfl rfl (by kernel_rfl) (by decide) (fun K hK => ?_)
  refine value_ (w1 := ?_) (v := ?_) (by rfl) rfl ?_ ?_
  rotate_left 2
  · go_simp
    constructor
    · rfl
    · rfl
  refine hK.out _ _ ⟨pw_cell_below (below_alloc (Below.refl _ _) _) DS.out.1, pw_cell_below (below_alloc (Below.refl _ _) _) DS.out.2.1, pw_cell_below (below_alloc (Below.refl _ _) _) DS.out.2.2.1, pw_cell_below (below_alloc (Below.refl _ _) _) DS.out.2.2.2⟩ (fun hHeld => ?_)
  clear hK K
  refine norm_ (a' := ?_) ?_ ?_
  rotate_left
  · show Act.put _ (some 31) _ = _
    simp only [Act.put, List.setIfInBounds_toArray, List.set_cons_zero, List.set_cons_succ, i64_w, i32_w]
    rfl
  refine last_ (i := 8) (N := some 32) #[true, true, true, true, true, true, true, true, true, false, false, false] rfl rfl (by kernel_rfl) (by decide) (fun K hK => ?_)
  refine append_at_step5 (by rfl) rfl (.tmp 28) (.tmp 31) 22 rfl B 26 i2 _ 3 32 Tryd.underlying22 ti tz0 tz1 tz2 rfl (by decide) sv n ss rfl (SD.out.alloc _) ⟨wF.heap.size, 0, none⟩ 1 1 [.bool e.step.named, .string e.step.name, .int .i64 (e.step.idx : Int)] rfl rfl (Nx.litN wF 26 _) (fun u hu => by simp at hu; rcases hu with rfl | rfl | rfl <;> rfl) (by have := HN.out; unfold maxLen; omega) (by have := HN.out; omega) (by have := HBF.out; simp; omega) ?_
  intro v2 wG hown hgrow hblk
  obtain ⟨gs, cs, rfl⟩ : ∃ gv cp, v2 = .slice (some ⟨gv, 0, none⟩) (n + 1) cp := own_some hown
  have SG := Aside0.mk hown
  have OG : Aside0 (∀ k, k < wF.heap.size → sv.ownBlock ≠ some k → wG.heap[k]? = wF.heap[k]?) := ⟨fun k hk ho => (hgrow.block k (by simp; omega) (fun e => ho e.symm)).trans (Lib.alloc_old wF _ k hk)⟩
  have GG : Aside0 (wG.heap[g]? = some (.cells (bcs sv rt dn (.slice (some ⟨gv, 0, none⟩) (n + 1) cp)) 120 (0, 0))) := ⟨(OG.out g (blk_lt PF.out.blk) (ne_row SD.out PF.out.blk (by decide))).trans PF.out.blk⟩
  have LG : Aside0 (Below B wF wG) := ⟨((below_alloc (Below.refl _ _) _).mono HBF.out).grown hgrow (by have := HBF.out; simp; omega) (fun k hk => (own_blk SD.out k hk).1)⟩
  have TG : Aside0 (KT [26] wF wG) := ⟨(KT.of_below (below_alloc (Below.refl _ _) _)).trans (KT.of_grown (SD.out.alloc _) hgrow)⟩
  have QG : Aside0 (wF.heap.size ≤ wG.heap.size) := ⟨Nat.le_trans (by simp) hgrow.size⟩
  clear hown hgrow hblk
  have c1 := (blk_cell GG.out 1).trans rfl
  have z1 := blk_frozen GG.out 1
  refine hK.out _ _ ?_
  clear hK K
  refine norm_ (a' := ?_) ?_ ?_
  rotate_left
  · show Act.put _ (some 32) _ = _
    simp only [Act.put, List.setIfInBounds_toArray, List.set_cons_zero, List.set_cons_succ, i64_w, i32_w]
    rfl
  refine pure_ (i := 9) (N := some 33) (v := ?_) (a' := ?_) #[true, true, true, true, true, true, true, true, true, true, false, false] rfl rfl (by kernel_rfl) (fun _ _ _ h => h) (Or.inl ⟨by rfl, ?_⟩) ?_ ?_
  rotate_left
  · intro w'
    go_simp
    with_reducible rfl
  rotate_left
  · simp only [Act.put, List.setIfInBounds_toArray, List.set_cons_zero, List.set_cons_succ, i64_w, i32_w]
    rfl
  refine pure_ (i := 10) (N := some 34) (v := ?_) (a' := ?_) #[true, true, true, true, true, true, true, true, true, true, true, false] rfl rfl (by kernel_rfl) (fun _ _ _ h => h) (Or.inl ⟨by rfl, ?_⟩) ?_ ?_
  rotate_left
  · intro w'
    go_simp
    with_reducible rfl
  rotate_left
  · simp only [Act.put, List.setIfInBounds_toArray, List.set_cons_zero, List.set_cons_succ, i64_w, i32_w]
    rfl
  refine last_ (i := 11) (N := none) #[true, true, true, true, true, true, true, true, true, true, true, true] rfl rfl (by kernel_rfl) (by decide) (fun K hK => ?_)
  refine skip_ (w1 := ?_) (by rfl) rfl ?_ ?_
  rotate_left
  · go_simp
    rfl
  refine hK.out _ _ ?_
  clear hK K
  refine done_ (by kernel_rfl) ?_
  go_wp2_with (fail)
  refine bodyPost_ret (results_none (by rfl) _ _ _) rfl ?_
  generalize hwH : World.setCell wG _ _ = wH
  have XH := (show Six g wG wH by subst hwH; exact (Six.refl g wG).set 1 _)
  have HX : Bx B W g (.slice ao n co) sv l rt dn := by rw [HNX.out.1]; exact H.out
  have TH : KT [120, 68, 26] W wH := (((KT.of_below KD.out).trans (TF.out.mono (by simp))).trans (TG.out.mono (by simp))).trans ((XH.kt GG.out).mono (by simp))
  obtain ⟨gcv, hgcv⟩ := row_type PF.out.row gv rfl
  have RG : wG.ownsRow B 68 6 (.slice (some ⟨gv, 0, none⟩) (n + 1) cp) (n + 1) (xs ++ ovCells (nv e)) := TG.out.row PF.out.row (by decide)
  refine ⟨rfl, ⟨_, _, open_fin HX HNX.out.1 (by subst hwH; simpa [bcs] using blk_set GG.out 1 (.slice (some ⟨gs, 0, none⟩) (n + 1) cs)) (by rw [← HNX.out.2]; exact XH.row RG (ne_row RG GG.out (by decide))) ⟨_, XH.row SG.out (ne_row SG.out GG.out (by decide))⟩ GVW.out (fun k hk h1 h2 h3 => (XH.block k h2).trans ((OG.out k (by have := QF.out; have := KD.out.size; omega) h3).trans (KF_.out k hk h1 h2))) TH⟩, (LF.out.trans LG.out).trans (XH.bel B H.out.ge), TH.mono (by simp)⟩
end Go.Proofs.YtlhpflicchchlaaDoor.Tr
