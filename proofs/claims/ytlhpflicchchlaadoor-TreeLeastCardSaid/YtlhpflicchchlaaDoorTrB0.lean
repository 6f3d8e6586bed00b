/- A tree's Builder in memory, and tree.put, walked. Conditions: none. -/
import Derived.Test.YtlhpflicchchlaaDoorNxAl
import Derived.Test.YtlhpflicchchlaaDoorTrPure
import Derived.Test.YtlhpflicchchlaaDoorListedB
namespace Go.Proofs.YtlhpflicchchlaaDoor.Tr
open Go.RowKit Go.Proofs.YtlhpflicchchlaaDoorW.PrintWords Go.Proofs.YtlhpflicchchlaaDoorW.PrintLast Go.Proofs.YtlhpflicchchlaaDoorW.PrintMore
attribute [local go_sem] max2_int min2_int max_two min_two max_three min_three max_four min_four
open Go.Proofs.YtlhpflicchchlaaDoor.LexPure
open Go.Proofs.YtlhpflicchchlaaDoor.Nx (Ev Stp evCells stpVal KT row_type below_grownN ev_cells)
set_option linter.unusedVariables false
set_option linter.unusedSimpArgs false
/-- A value in the making: where its items and names lie, and how many they are. -/
structure OV where
  kind : Int
  frm : Int
  til : Int
  text : ByteArray
  itv : Value
  nit : Nat
  nmv : Value
  nnm : Nat
def ovCells (v : OV) : List Value := [.int .i64 v.kind, .int .i64 v.frm, .int .i64 v.til, .string v.text, v.itv, v.nmv]
/-- The rows of a value's items and names are the call's own. -/
structure ItOk (B : Nat) (W : World) (v : OV) : Prop where
  it : ∃ xs, W.ownsRow B 68 6 v.itv v.nit xs
  nm : ∃ ys, W.ownsRow B 9 1 v.nmv v.nnm ys
  le : v.nnm ≤ v.nit
/-- Two slices that lie in no block together. -/
def Ap (a b : Value) : Prop := ∀ k, a.ownBlock = some k → b.ownBlock ≠ some k
theorem Ap.symm {a b : Value} (h : Ap a b) : Ap b a := fun k h1 h2 => h k h2 h1
theorem vinfo : (Tryd.prog.info? 68).map (fun i => (i.zero, i.size, i.bytes)) = some (some (.agg #[.int .i64 0, .int .i64 0, .int .i64 0, .string ⟨#[]⟩, .slice none 0 0, .slice none 0 0]), 6, 88) := by kernel_rfl
theorem sinfo : (Tryd.prog.info? 26).map (fun i => (i.zero, i.size, i.bytes)) = some (some (.agg #[.bool false, .string ⟨#[]⟩, .int .i64 0]), 3, 32) := by kernel_rfl
theorem tinfo : (Tryd.prog.info? 9).map (fun i => (i.zero, i.size, i.bytes)) = some (some (.string ⟨#[]⟩), 1, 16) := by kernel_rfl
theorem own_sl {W : World} {B n sz : Nat} {e : TypeId} {v : Value} {xs : List Value} (h : W.ownsRow B e sz v n xs) : ∃ a c, v = .slice a n c := by
  rcases h.2 with ⟨hv, hn⟩ | ⟨g, cap, cur, hv, _⟩
  · exact ⟨none, 0, by rw [hv, hn]⟩
  · exact ⟨_, _, hv⟩
theorem own_blk {W : World} {B n sz : Nat} {e : TypeId} {v : Value} {xs : List Value} (h : W.ownsRow B e sz v n xs) (k : Nat) (hk : v.ownBlock = some k) : B ≤ k ∧ k < W.heap.size := by
  rcases h.2 with ⟨hv, hn⟩ | ⟨g, cap, cur, hv, hb, hg, _⟩
  · rw [hv] at hk; simp [Value.ownBlock] at hk
  · rw [hv] at hk
    obtain rfl : g = k := Option.some.inj hk
    exact ⟨hb, blk_lt hg⟩
theorem ov_one (B : Nat) (W : World) (v : OV) (h : ItOk B W v) : ∀ u ∈ ovCells v, u.oneCell' = true := by
  intro u hu
  obtain ⟨xs, h1⟩ := h.it
  obtain ⟨ys, h2⟩ := h.nm
  obtain ⟨a, c, e1⟩ := own_sl h1
  obtain ⟨a', c', e2⟩ := own_sl h2
  simp only [ovCells, List.mem_cons, List.not_mem_nil, or_false] at hu
  rcases hu with rfl | rfl | rfl | rfl | rfl | rfl
  · rfl
  · rfl
  · rfl
  · rfl
  · rw [e1]; rfl
  · rw [e2]; rfl
/-- All blocks but those of two slices are as they were. -/
structure KF (a b : Value) (W W' : World) : Prop where
  size : W.heap.size ≤ W'.heap.size
  block : ∀ k, k < W.heap.size → a.ownBlock ≠ some k → b.ownBlock ≠ some k → W'.heap[k]? = W.heap[k]?
theorem own_kf {a b : Value} {W W' : World} {B n sz : Nat} {e : TypeId} {v : Value} {xs : List Value} (h : W.ownsRow B e sz v n xs) (hk : KF a b W W') (h1 : Ap v a) (h2 : Ap v b) : W'.ownsRow B e sz v n xs :=
  LxA.own_more h (fun k hv => hk.block k (own_blk h k hv).2 (h1 k hv) (h2 k hv))
theorem ap_type {W : World} {B B' n m sz sz' : Nat} {e e' : TypeId} {v u : Value} {xs ys : List Value} (h : W.ownsRow B e sz v n xs) (h' : W.ownsRow B' e' sz' u m ys) (he : e ≠ e') : Ap v u := by
  intro k h1 h2
  obtain ⟨c, e1⟩ := row_type h k h1
  obtain ⟨c', e2⟩ := row_type h' k h2
  rw [e1] at e2
  simp at e2
  exact he e2.2
theorem ov_put {W : World} {g : Nat} {a0 a1 a2 a3 a4 a5 : Value} (h : W.heap[g]? = some (.cells #[a0, a1, a2, a3, a4, a5] 68 (0, 0))) (v0 v1 v2 v3 v4 v5 : Value) :
    ((((((W.setCell ⟨g, 0, none⟩ v0).setCell ⟨g, 1, none⟩ v1).setCell ⟨g, 2, none⟩ v2).setCell ⟨g, 3, none⟩ v3).setCell ⟨g, 4, none⟩ v4).setCell ⟨g, 5, none⟩ v5).heap[g]? = some (.cells #[v0, v1, v2, v3, v4, v5] 68 (0, 0)) := by
  have h0 := blk_set h 0 v0
  have h1 := blk_set h0 1 v1
  have h2 := blk_set h1 2 v2
  have h3 := blk_set h2 3 v3
  have h4 := blk_set h3 4 v4
  have h5 := blk_set h4 5 v5
  simpa using h5
/-- Cells of one block are written, nothing else. -/
structure Six (b : Nat) (w w' : World) : Prop where
  size : w'.heap.size = w.heap.size
  block : ∀ k, k ≠ b → w'.heap[k]? = w.heap[k]?
  bel : ∀ B, B ≤ b → Below B w w'
theorem Six.refl (b : Nat) (w : World) : Six b w w := ⟨rfl, fun _ _ => rfl, fun B _ => Below.refl B w⟩
theorem Six.set {b : Nat} {w w' : World} (h : Six b w w') (o : Nat) (v : Value) : Six b w (w'.setCell ⟨b, o, none⟩ v) :=
  ⟨by simpa [World.setCell] using h.size, fun k hk => (Below.heap_setCell w' ⟨b, o, none⟩ v k hk).trans (h.block k hk), fun B hB => (h.bel B hB).setCell (p := ⟨b, o, none⟩) hB v⟩
theorem Six.kt {b : Nat} {w w' : World} (h : Six b w w') {c : Array Value} {t : TypeId} {f : Nat × Nat} (hk : w.heap[b]? = some (.cells c t f)) : KT [t] w w' :=
  ⟨by rw [h.size]; exact Nat.le_refl _, fun k _ ht => h.block k (fun e => by subst e; exact ht _ _ _ hk (by simp))⟩
theorem Six.row {b : Nat} {w w' : World} (h : Six b w w') {B n sz : Nat} {e : TypeId} {v : Value} {xs : List Value} (hr : w.ownsRow B e sz v n xs) (hb : v.ownBlock ≠ some b) : w'.ownsRow B e sz v n xs :=
  LxA.own_more hr (fun k hk => h.block k (fun e => hb (by rw [hk, e])))
theorem Six.kf {b : Nat} {a a' : Value} {w w1 w' : World} (h : Six b w1 w') (hk : KF a a' w w1) (hb : w.heap.size ≤ b) : KF a a' w w' :=
  ⟨by rw [h.size]; exact hk.size, fun k hlt h1 h2 => (h.block k (by omega)).trans (hk.block k hlt h1 h2)⟩
set_option maxHeartbeats 16000000 in
set_option maxRecDepth 100000 in
/-- A value in another one. -/
theorem put_calls {B : Nat} {W : World} (p v : OV) (st : Stp) (hp : ItOk B W p) (hv : ItOk B W v) (hn : p.nit ≤ 1000000) (hB : B ≤ W.heap.size) :
    Calls Tryd.prog 144 #[.agg (ovCells p).toArray, .agg (ovCells v).toArray, stpVal st] W fun e w' => ∃ it nm m, e = .returned (.agg (ovCells ⟨p.kind, p.frm, p.til, p.text, it, p.nit + 1, nm, m⟩).toArray) ∧ ItOk B w' ⟨p.kind, p.frm, p.til, p.text, it, p.nit + 1, nm, m⟩ ∧
      KF p.itv p.nmv W w' ∧ Below B W w' ∧ KT [68, 9] W w' ∧ (it.ownBlock = p.itv.ownBlock ∨ ∀ k, it.ownBlock = some k → W.heap.size ≤ k) ∧ (nm.ownBlock = p.nmv.ownBlock ∨ ∀ k, nm.ownBlock = some k → W.heap.size ≤ k) := by
  obtain ⟨pk, pf, pt, px, pit, pn, pnm, pm⟩ := p
  obtain ⟨⟨xs, h1⟩, ⟨ys, h2⟩, hle⟩ := hp
  dsimp only at h1 h2 hle hn
  have V1 := Aside0.mk (ov_one B W v hv)
  have H1 := Aside0.mk h1
  have H2 := Aside0.mk h2
  have HN := Aside0.mk (And.intro hn hle)
  have HB := Aside0.mk hB
  obtain ⟨vk, vf, vt, vx, vit, vn, vnm, vm⟩ := v
  clear h1 h2 hn hle hB hv
  unfold stpVal
  go_enter Tryd.func144, Tryd.ntmps144
  go_upto_region 1 with (fail)
  generalize hw1 : World.alloc W _ = w1
  generalize hw2 : World.alloc w1 _ = w2
  generalize hw3 : World.alloc w2 _ = w3
  generalize hw4 : World.alloc w3 _ = w4
  obtain ⟨b0, hb0⟩ : ∃ b0, b0 = W.heap.size := ⟨_, rfl⟩
  have s1 : w1.heap.size = b0 + 1 := by subst hw1; simp [hb0]
  have s2 : w2.heap.size = b0 + 1 + 1 := by subst hw2; simp [s1]
  have s3 : w3.heap.size = b0 + 1 + 1 + 1 := by subst hw3; simp [s2]
  have s4 : w4.heap.size = b0 + 1 + 1 + 1 + 1 := by subst hw4; simp [s3]
  have P1 : w1.heap[b0]? = some (.cells #[.int .i64 pk, .int .i64 pf, .int .i64 pt, .string px, pit, pnm] 68 (0, 0)) := by subst hw1; rw [hb0]; exact blk_new W _
  have P2 : w2.heap[b0]? = some (.cells #[.int .i64 pk, .int .i64 pf, .int .i64 pt, .string px, pit, pnm] 68 (0, 0)) := by subst hw2; exact (Lib.alloc_old _ _ _ (by omega)).trans P1
  have P3 : w3.heap[b0]? = some (.cells #[.int .i64 pk, .int .i64 pf, .int .i64 pt, .string px, pit, pnm] 68 (0, 0)) := by subst hw3; exact (Lib.alloc_old _ _ _ (by omega)).trans P2
  have P4 : Aside0 (w4.heap[b0]? = some (.cells #[.int .i64 pk, .int .i64 pf, .int .i64 pt, .string px, pit, pnm] 68 (0, 0))) := ⟨by subst hw4; exact (Lib.alloc_old _ _ _ (by omega)).trans P3⟩
  have Q2 : w2.heap[b0 + 1]? = some (.cells #[.int .i64 vk, .int .i64 vf, .int .i64 vt, .string vx, vit, vnm] 68 (0, 0)) := by subst hw2; rw [← s1]; exact blk_new w1 _
  have Q3 : w3.heap[b0 + 1]? = some (.cells #[.int .i64 vk, .int .i64 vf, .int .i64 vt, .string vx, vit, vnm] 68 (0, 0)) := by subst hw3; exact (Lib.alloc_old _ _ _ (by omega)).trans Q2
  have Q4 : Aside0 (w4.heap[b0 + 1]? = some (.cells #[.int .i64 vk, .int .i64 vf, .int .i64 vt, .string vx, vit, vnm] 68 (0, 0))) := ⟨by subst hw4; exact (Lib.alloc_old _ _ _ (by omega)).trans Q3⟩
  have S3 : w3.heap[b0 + 1 + 1]? = some (.cells #[.bool st.named, .string st.name, .int .i64 (st.idx : Int)] 26 (0, 0)) := by subst hw3; rw [← s2]; exact blk_new w2 _
  have S4 : Aside0 (w4.heap[b0 + 1 + 1]? = some (.cells #[.bool st.named, .string st.name, .int .i64 (st.idx : Int)] 26 (0, 0))) := ⟨by subst hw4; exact (Lib.alloc_old _ _ _ (by omega)).trans S3⟩
  have R4 : Aside0 (w4.heap[b0 + 1 + 1 + 1]? = some (.cells #[.int .i64 0, .int .i64 0, .int .i64 0, .string ⟨#[]⟩, .slice none 0 0, .slice none 0 0] 68 (0, 0))) := ⟨by subst hw4; rw [← s3]; exact blk_new w3 _⟩
  have B4 : Aside0 (Below b0 W w4) := ⟨by
    subst hw4 hw3 hw2 hw1
    rw [hb0]
    exact (((below_alloc (Below.refl _ _) _).trans ((below_alloc (Below.refl _ _) _).mono (by simp))).trans ((below_alloc (Below.refl _ _) _).mono (by simp; omega))).trans ((below_alloc (Below.refl _ _) _).mono (by simp; omega))⟩
  have S0 := Aside0.mk (And.intro hb0 s4)
  clear P1 P2 P3 Q2 Q3 S3 hw1 hw2 hw3 hw4
  simp only [← hb0, s1, s2, s3]
  clear s1 s2 s3 s4 hb0
  have BW4 : Aside0 (Below W.heap.size W w4) := ⟨by rw [← S0.out.1]; exact B4.out⟩
  have H14 : Aside0 (w4.ownsRow B 68 6 pit pn xs) := ⟨(KT.of_below (p := []) BW4.out).row H1.out (by simp)⟩
  have H24 : Aside0 (w4.ownsRow B 9 1 pnm pm ys) := ⟨(KT.of_below (p := []) BW4.out).row H2.out (by simp)⟩
  have c4 : w4.cell? ⟨b0, 4, none⟩ = some pit := (blk_cell P4.out 4).trans rfl
  have d0 : w4.cell? ⟨b0 + 1, 0, none⟩ = some (.int .i64 vk) := (blk_cell Q4.out 0).trans rfl
  have d1 : w4.cell? ⟨b0 + 1, 1, none⟩ = some (.int .i64 vf) := (blk_cell Q4.out 1).trans rfl
  have d2 : w4.cell? ⟨b0 + 1, 2, none⟩ = some (.int .i64 vt) := (blk_cell Q4.out 2).trans rfl
  have d3 : w4.cell? ⟨b0 + 1, 3, none⟩ = some (.string vx) := (blk_cell Q4.out 3).trans rfl
  have d4 : w4.cell? ⟨b0 + 1, 4, none⟩ = some vit := (blk_cell Q4.out 4).trans rfl
  have d5 : w4.cell? ⟨b0 + 1, 5, none⟩ = some vnm := (blk_cell Q4.out 5).trans rfl
  obtain ⟨i1, hi, hz0, hz1, hz2⟩ := info_parts vinfo
  have KA5 : Aside0 (Below w4.heap.size w4 (w4.alloc (.cells #[.int .i64 vk, .int .i64 vf, .int .i64 vt, .string vx, vit, vnm] 68))) := ⟨below_alloc (Below.refl _ _) _⟩
  have H15 : Aside0 ((w4.alloc (.cells #[.int .i64 vk, .int .i64 vf, .int .i64 vt, .string vx, vit, vnm] 68)).ownsRow B 68 6 pit pn xs) := ⟨(KT.of_below (p := []) KA5.out).row H14.out (by simp)⟩
  go_wp2_with (at_builtin; refine wpList_append_own_at _ rfl _ _ 65 rfl B 68 i1 _ 6 88 Tryd.underlying65 hi hz0 hz1 hz2 rfl (by decide) pit pn xs rfl H15.out ⟨w4.heap.size, 0, none⟩ 1 1 [.int .i64 vk, .int .i64 vf, .int .i64 vt, .string vx, vit, vnm] rfl rfl (Nx.litN _ _ _) V1.out (by have := HN.out.1; unfold maxLen; omega) (by have := HN.out.1; omega) (by have := HB.out; have := S0.out; simp; omega) ?_)
  intro it' w6 k1 k2 k3 k4
  generalize hw5 : World.alloc w4 _ = w5 at KA5 H15 k1 k2 k4
  have s5 : w5.heap.size = b0 + 1 + 1 + 1 + 1 + 1 := by subst hw5; simp [S0.out.2]
  obtain ⟨bb, hbb⟩ : ∃ bb, pit.ownBlock = bb := ⟨_, rfl⟩
  have NB : ∀ k, b0 ≤ k → pit.ownBlock ≠ some k := fun k hk e => by have := (own_blk H1.out k e).2; have := S0.out.1; omega
  have O6 := Aside0.mk k1
  have I6 : Aside0 (it'.ownBlock = pit.ownBlock ∨ ∀ k, it'.ownBlock = some k → b0 + 1 + 1 + 1 + 1 ≤ k) := ⟨k4.imp id fun h k hk => by rw [hk] at h; injection h with h; have := S0.out; omega⟩
  have P6 : Aside0 (w6.heap[b0]? = some (.cells #[.int .i64 pk, .int .i64 pf, .int .i64 pt, .string px, pit, pnm] 68 (0, 0))) := ⟨(k2.block b0 (by omega) (fun e => NB b0 (by omega) e.symm)).trans ((KA5.out.block b0 (by have := S0.out.2; omega)).trans P4.out)⟩
  have S6 : Aside0 (w6.heap[b0 + 1 + 1]? = some (.cells #[.bool st.named, .string st.name, .int .i64 (st.idx : Int)] 26 (0, 0))) := ⟨(k2.block _ (by omega) (fun e => NB _ (by omega) e.symm)).trans ((KA5.out.block _ (by have := S0.out.2; omega)).trans S4.out)⟩
  have R6 : Aside0 (w6.heap[b0 + 1 + 1 + 1]? = some (.cells #[.int .i64 0, .int .i64 0, .int .i64 0, .string ⟨#[]⟩, .slice none 0 0, .slice none 0 0] 68 (0, 0))) := ⟨(k2.block _ (by omega) (fun e => NB _ (by omega) e.symm)).trans ((KA5.out.block _ (by have := S0.out.2; omega)).trans R4.out)⟩
  have B46 : Below B w4 w6 := ((KA5.out.mono (by have := HB.out; have := S0.out; omega)).grown k2 (by have := HB.out; have := S0.out; omega) (fun k hk => (own_blk H15.out k hk).1))
  have F6 : Aside0 (KF pit pnm W w6) := ⟨⟨by have := S0.out; have := k2.size; omega, fun k hk h1 h2 => (k2.block k (by have := S0.out; omega) (fun e => h1 e.symm)).trans ((KA5.out.block k (by have := S0.out; omega)).trans (B4.out.block k (by have := S0.out; omega)))⟩⟩
  have T6 : Aside0 (KT [68, 9] W w6) := ⟨((KT.of_below (p := [68, 9]) BW4.out).trans (KT.of_below KA5.out)).trans ((KT.of_grown H15.out k2).mono (by simp))⟩
  have B6 : Aside0 (Below B W w6) := ⟨(BW4.out.mono HB.out).trans B46⟩
  have G6 : Aside0 (b0 + 1 + 1 + 1 + 1 ≤ w6.heap.size) := ⟨by have := k2.size; omega⟩
  have N6 : Aside0 (w6.ownsRow B 9 1 pnm pm ys) := ⟨(KT.of_grown H15.out k2).row ((KT.of_below (p := []) KA5.out).row H24.out (by simp)) (by simp)⟩
  clear k1 k2 k3 k4 hw5 s5 hbb NB B46 KA5 H15 P4 Q4 S4 R4 B4 BW4 H14 H24 c4 d0 d1 d2 d3 d4 d5
  have c4 : w6.cell? ⟨b0, 4, none⟩ = some pit := (blk_cell P6.out 4).trans rfl
  have z4 := blk_frozen P6.out 4
  obtain ⟨A', cc', rfl⟩ := own_sl O6.out
  obtain ⟨A2, c2, rfl⟩ := own_sl N6.out
  obtain ⟨nn, hnn⟩ : ∃ nn, nn = pn + 1 := ⟨_, rfl⟩
  rw [← hnn] at O6 I6 ⊢
  have HNN := Aside0.mk hnn
  clear hnn
  cases hnm : st.named with
  | false =>
    rw [hnm] at S6
    have e0 : w6.cell? ⟨b0 + 1 + 1, 0, none⟩ = some (.bool false) := (blk_cell S6.out 0).trans rfl
    clear hnm
    go_upto_region 4 with (fail)
    generalize hw7 : World.setCell w6 _ _ = w7
    have P7 : Aside0 (w7.heap[b0]? = some (.cells #[.int .i64 pk, .int .i64 pf, .int .i64 pt, .string px, .slice A' nn cc', .slice A2 pm c2] 68 (0, 0))) := ⟨by subst hw7; simpa using blk_set P6.out 4 (.slice A' nn cc')⟩
    have S7 := Aside0.mk (show Six b0 w6 w7 by subst hw7; exact (Six.refl b0 w6).set 4 _)
    have R7 : Aside0 (w7.heap[b0 + 1 + 1 + 1]? = some (.cells #[.int .i64 0, .int .i64 0, .int .i64 0, .string ⟨#[]⟩, .slice none 0 0, .slice none 0 0] 68 (0, 0))) := ⟨(S7.out.block _ (by omega)).trans R6.out⟩
    have F7 : Aside0 (KF pit (.slice A2 pm c2) W w7) := ⟨S7.out.kf F6.out (by have := S0.out.1; omega)⟩
    have T7 : Aside0 (KT [68, 9] W w7) := ⟨T6.out.trans ((S7.out.kt P6.out).mono (by simp))⟩
    have B7 : Aside0 (Below B W w7) := ⟨B6.out.trans (S7.out.bel B (by have := HB.out; have := S0.out.1; omega))⟩
    have IT7 : Aside0 (w7.ownsRow B 68 6 (.slice A' nn cc') nn (xs ++ [.int .i64 vk, .int .i64 vf, .int .i64 vt, .string vx, vit, vnm])) := ⟨S7.out.row O6.out (fun e => by
      rcases I6.out with h | h
      · have := (own_blk H1.out _ (by rw [← h]; exact e)).2; have := S0.out.1; omega
      · have := h _ e; omega)⟩
    have NM7 : Aside0 (w7.ownsRow B 9 1 (.slice A2 pm c2) pm ys) := ⟨S7.out.row N6.out (fun e => by have := (own_blk H2.out _ e).2; have := S0.out.1; omega)⟩
    clear hw7 c4 z4 e0 P6 R6 F6 T6 B6 S6 S7 N6 O6
    have c0 : w7.cell? ⟨b0, 0, none⟩ = some (.int .i64 pk) := (blk_cell P7.out 0).trans rfl
    have c1 : w7.cell? ⟨b0, 1, none⟩ = some (.int .i64 pf) := (blk_cell P7.out 1).trans rfl
    have c2_ : w7.cell? ⟨b0, 2, none⟩ = some (.int .i64 pt) := (blk_cell P7.out 2).trans rfl
    have c3 : w7.cell? ⟨b0, 3, none⟩ = some (.string px) := (blk_cell P7.out 3).trans rfl
    have c4 : w7.cell? ⟨b0, 4, none⟩ = some (.slice A' nn cc') := (blk_cell P7.out 4).trans rfl
    have c5 : w7.cell? ⟨b0, 5, none⟩ = some (.slice A2 pm c2) := (blk_cell P7.out 5).trans rfl
    have r0 := (blk_cell R7.out 0).trans rfl
    have y0 := blk_frozen R7.out 0
    have r1 := (blk_cell R7.out 1).trans rfl
    have y1 := blk_frozen R7.out 1
    have r2 := (blk_cell R7.out 2).trans rfl
    have y2 := blk_frozen R7.out 2
    have r3 := (blk_cell R7.out 3).trans rfl
    have y3 := blk_frozen R7.out 3
    have r4 := (blk_cell R7.out 4).trans rfl
    have y4 := blk_frozen R7.out 4
    have r5 := (blk_cell R7.out 5).trans rfl
    have y5 := blk_frozen R7.out 5
    go_upto_region 4 with (fail)
    go_wp2_with (fail)
    refine bodyPost_ret (results_cell_row rfl _ _ (b0 + 1 + 1 + 1) 68 #[.int .i64 pk, .int .i64 pf, .int .i64 pt, .string px, .slice A' nn cc', .slice A2 pm c2] (0, 0) _ rfl (ov_put R7.out _ _ _ _ _ _) Tryd.underlying68 rfl (by kernel_rfl)) rfl ?_
    have J6 : Aside0 ((Value.slice A2 pm c2).ownBlock = (Value.slice A2 pm c2).ownBlock ∨ ∀ k, (Value.slice A2 pm c2).ownBlock = some k → b0 + 1 + 1 + 1 + 1 ≤ k) := ⟨.inl rfl⟩
    have S8 := (((((((Six.refl (b0 + 1 + 1 + 1) w7).set 0 (.int .i64 pk)).set 1 (.int .i64 pf)).set 2 (.int .i64 pt)).set 3 (.string px)).set 4 (Value.slice A' nn cc')).set 5 (Value.slice A2 pm c2))
    have NIT : (Value.slice A' nn cc').ownBlock ≠ some (b0 + 1 + 1 + 1) := fun e => by
      rcases I6.out with h | h
      · have := (own_blk H1.out _ (by rw [← h]; exact e)).2; have := S0.out.1; omega
      · have := h _ e; omega
    have NNM : (Value.slice A2 pm c2).ownBlock ≠ some (b0 + 1 + 1 + 1) := fun e => by
      rcases J6.out with h | h
      · have := (own_blk H2.out _ (by rw [← h]; exact e)).2; have := S0.out.1; omega
      · have := h _ e; omega
    refine ⟨.slice A' nn cc', .slice A2 pm c2, pm, rfl, ⟨⟨_, by rw [← HNN.out]; exact S8.row IT7.out NIT⟩, ⟨_, S8.row NM7.out NNM⟩, by have := HN.out.2; simp only; omega⟩, S8.kf F7.out (by have := S0.out.1; omega), B7.out.trans (S8.bel B (by have := HB.out; have := S0.out.1; omega)), T7.out.trans ((S8.kt R7.out).mono (by simp)), I6.out.imp id (fun h k hk => by have := h k hk; have := S0.out.1; omega), J6.out.imp id (fun h k hk => by have := h k hk; have := S0.out.1; omega)⟩
  | true =>
    rw [hnm] at S6
    have e0 : w6.cell? ⟨b0 + 1 + 1, 0, none⟩ = some (.bool true) := (blk_cell S6.out 0).trans rfl
    clear hnm
    go_upto_region 3 with (fail)
    generalize hw7 : World.setCell w6 _ _ = w7
    have P7 : Aside0 (w7.heap[b0]? = some (.cells #[.int .i64 pk, .int .i64 pf, .int .i64 pt, .string px, .slice A' nn cc', .slice A2 pm c2] 68 (0, 0))) := ⟨by subst hw7; simpa using blk_set P6.out 4 (.slice A' nn cc')⟩
    have S7 := Aside0.mk (show Six b0 w6 w7 by subst hw7; exact (Six.refl b0 w6).set 4 _)
    have R7 : Aside0 (w7.heap[b0 + 1 + 1 + 1]? = some (.cells #[.int .i64 0, .int .i64 0, .int .i64 0, .string ⟨#[]⟩, .slice none 0 0, .slice none 0 0] 68 (0, 0))) := ⟨(S7.out.block _ (by omega)).trans R6.out⟩
    have F7 : Aside0 (KF pit (.slice A2 pm c2) W w7) := ⟨S7.out.kf F6.out (by have := S0.out.1; omega)⟩
    have T7 : Aside0 (KT [68, 9] W w7) := ⟨T6.out.trans ((S7.out.kt P6.out).mono (by simp))⟩
    have B7 : Aside0 (Below B W w7) := ⟨B6.out.trans (S7.out.bel B (by have := HB.out; have := S0.out.1; omega))⟩
    have IT7 : Aside0 (w7.ownsRow B 68 6 (.slice A' nn cc') nn (xs ++ [.int .i64 vk, .int .i64 vf, .int .i64 vt, .string vx, vit, vnm])) := ⟨S7.out.row O6.out (fun e => by
      rcases I6.out with h | h
      · have := (own_blk H1.out _ (by rw [← h]; exact e)).2; have := S0.out.1; omega
      · have := h _ e; omega)⟩
    have NM7 : Aside0 (w7.ownsRow B 9 1 (.slice A2 pm c2) pm ys) := ⟨S7.out.row N6.out (fun e => by have := (own_blk H2.out _ e).2; have := S0.out.1; omega)⟩
    have SS7 : Aside0 (w7.heap[b0 + 1 + 1]? = some (.cells #[.bool true, .string st.name, .int .i64 (st.idx : Int)] 26 (0, 0))) := ⟨(S7.out.block _ (by omega)).trans S6.out⟩
    have G7 : Aside0 (b0 + 1 + 1 + 1 + 1 ≤ w7.heap.size) := ⟨by rw [S7.out.size]; exact G6.out⟩
    clear hw7 c4 z4 e0 P6 R6 F6 T6 B6 S6 S7 N6 O6
    have c5 : w7.cell? ⟨b0, 5, none⟩ = some (.slice A2 pm c2) := (blk_cell P7.out 5).trans rfl
    have e1 : w7.cell? ⟨b0 + 1 + 1, 1, none⟩ = some (.string st.name) := (blk_cell SS7.out 1).trans rfl
    obtain ⟨i9, ti, tz0, tz1, tz2⟩ := info_parts tinfo
    have KA8 : Aside0 (Below w7.heap.size w7 (w7.alloc (.cells #[.string st.name] 9))) := ⟨below_alloc (Below.refl _ _) _⟩
    have NM8 : Aside0 ((w7.alloc (.cells #[.string st.name] 9)).ownsRow B 9 1 (.slice A2 pm c2) pm ys) := ⟨(KT.of_below (p := []) KA8.out).row NM7.out (by simp)⟩
    go_wp2_with (at_builtin; refine wpList_append_own_at _ rfl _ _ 66 rfl B 9 i9 _ 1 16 Tryd.underlying66 ti tz0 tz1 tz2 rfl (by decide) (.slice A2 pm c2) pm ys rfl NM8.out ⟨w7.heap.size, 0, none⟩ 1 1 [.string st.name] rfl rfl (Nx.litN _ _ _) (fun u hu => by simp at hu; subst hu; rfl) (by have := HN.out; unfold maxLen; omega) (by have := HN.out; omega) (by have := HB.out; have := S0.out; have := G7.out; simp; omega) ?_)
    intro nm' w9 k1 k2 k3 k4
    generalize hw8 : World.alloc w7 _ = w8 at KA8 NM8 k1 k2 k4
    have s8 : w8.heap.size = w7.heap.size + 1 := by subst hw8; simp
    obtain ⟨A3, cq, rfl⟩ := own_sl k1
    have NB : ∀ k, b0 ≤ k → (Value.slice A2 pm c2).ownBlock ≠ some k := fun k hk e => by have := (own_blk H2.out k e).2; have := S0.out.1; omega
    have J6 : Aside0 ((Value.slice A3 (pm + 1) cq).ownBlock = (Value.slice A2 pm c2).ownBlock ∨ ∀ k, (Value.slice A3 (pm + 1) cq).ownBlock = some k → b0 + 1 + 1 + 1 + 1 ≤ k) := ⟨k4.imp id fun h k hk => by rw [hk] at h; injection h with h; have := G7.out; omega⟩
    have P9 : Aside0 (w9.heap[b0]? = some (.cells #[.int .i64 pk, .int .i64 pf, .int .i64 pt, .string px, .slice A' nn cc', .slice A2 pm c2] 68 (0, 0))) := ⟨(k2.block b0 (by have := G7.out; omega) (fun e => NB b0 (by omega) e.symm)).trans ((KA8.out.block b0 (by have := G7.out; omega)).trans P7.out)⟩
    have R9 : Aside0 (w9.heap[b0 + 1 + 1 + 1]? = some (.cells #[.int .i64 0, .int .i64 0, .int .i64 0, .string ⟨#[]⟩, .slice none 0 0, .slice none 0 0] 68 (0, 0))) := ⟨(k2.block _ (by have := G7.out; omega) (fun e => NB _ (by omega) e.symm)).trans ((KA8.out.block _ (by have := G7.out; omega)).trans R7.out)⟩
    have F9 : Aside0 (KF pit (.slice A2 pm c2) W w9) := ⟨⟨by have := F7.out.size; have := k2.size; omega, fun k hk h1 h2 => (k2.block k (by have := F7.out.size; omega) (fun e => h2 e.symm)).trans ((KA8.out.block k (by have := F7.out.size; omega)).trans (F7.out.block k hk h1 h2))⟩⟩
    have T9 : Aside0 (KT [68, 9] W w9) := ⟨(T7.out.trans (KT.of_below KA8.out)).trans ((KT.of_grown NM8.out k2).mono (by simp))⟩
    have B9 : Aside0 (Below B W w9) := ⟨B7.out.trans ((KA8.out.mono (by have := HB.out; have := S0.out; have := G7.out; omega)).grown k2 (by have := HB.out; have := S0.out; have := G7.out; omega) (fun k hk => (own_blk NM8.out k hk).1))⟩
    have IT9 : Aside0 (w9.ownsRow B 68 6 (.slice A' nn cc') nn (xs ++ [.int .i64 vk, .int .i64 vf, .int .i64 vt, .string vx, vit, vnm])) := ⟨(KT.of_grown NM8.out k2).row ((KT.of_below (p := []) KA8.out).row IT7.out (by simp)) (by simp)⟩
    have NM9 := Aside0.mk k1
    clear k1 k2 k3 k4 hw8 s8 KA8 NM8 NB P7 R7 F7 T7 B7 IT7 NM7 SS7 G7 c5 e1
    have c5 : w9.cell? ⟨b0, 5, none⟩ = some (.slice A2 pm c2) := (blk_cell P9.out 5).trans rfl
    have z5 := blk_frozen P9.out 5
    go_upto_region 4 with (fail)
    generalize hw7 : World.setCell w9 _ _ = w7
    have S7 := Aside0.mk (show Six b0 w9 w7 by subst hw7; exact (Six.refl b0 w9).set 5 _)
    have P7 : Aside0 (w7.heap[b0]? = some (.cells #[.int .i64 pk, .int .i64 pf, .int .i64 pt, .string px, .slice A' nn cc', .slice A3 (pm + 1) cq] 68 (0, 0))) := ⟨by subst hw7; simpa using blk_set P9.out 5 (.slice A3 (pm + 1) cq)⟩
    have R7 : Aside0 (w7.heap[b0 + 1 + 1 + 1]? = some (.cells #[.int .i64 0, .int .i64 0, .int .i64 0, .string ⟨#[]⟩, .slice none 0 0, .slice none 0 0] 68 (0, 0))) := ⟨(S7.out.block _ (by omega)).trans R9.out⟩
    have F7 : Aside0 (KF pit (.slice A2 pm c2) W w7) := ⟨S7.out.kf F9.out (by have := S0.out.1; omega)⟩
    have T7 : Aside0 (KT [68, 9] W w7) := ⟨T9.out.trans ((S7.out.kt P9.out).mono (by simp))⟩
    have B7 : Aside0 (Below B W w7) := ⟨B9.out.trans (S7.out.bel B (by have := HB.out; have := S0.out.1; omega))⟩
    have IT7 : Aside0 (w7.ownsRow B 68 6 (.slice A' nn cc') nn (xs ++ [.int .i64 vk, .int .i64 vf, .int .i64 vt, .string vx, vit, vnm])) := ⟨S7.out.row IT9.out (fun e => by
      rcases I6.out with h | h
      · have := (own_blk H1.out _ (by rw [← h]; exact e)).2; have := S0.out.1; omega
      · have := h _ e; omega)⟩
    have NM7 : Aside0 (w7.ownsRow B 9 1 (.slice A3 (pm + 1) cq) (pm + 1) (ys ++ [.string st.name])) := ⟨S7.out.row NM9.out (fun e => by
      rcases J6.out with h | h
      · have := (own_blk H2.out _ (by rw [← h]; exact e)).2; have := S0.out.1; omega
      · have := h _ e; omega)⟩
    clear hw7 c5 z5 P9 R9 F9 T9 B9 IT9 NM9 S7
    have c0 : w7.cell? ⟨b0, 0, none⟩ = some (.int .i64 pk) := (blk_cell P7.out 0).trans rfl
    have c1 : w7.cell? ⟨b0, 1, none⟩ = some (.int .i64 pf) := (blk_cell P7.out 1).trans rfl
    have c2_ : w7.cell? ⟨b0, 2, none⟩ = some (.int .i64 pt) := (blk_cell P7.out 2).trans rfl
    have c3 : w7.cell? ⟨b0, 3, none⟩ = some (.string px) := (blk_cell P7.out 3).trans rfl
    have c4 : w7.cell? ⟨b0, 4, none⟩ = some (.slice A' nn cc') := (blk_cell P7.out 4).trans rfl
    have c5 : w7.cell? ⟨b0, 5, none⟩ = some (.slice A3 (pm + 1) cq) := (blk_cell P7.out 5).trans rfl
    have r0 := (blk_cell R7.out 0).trans rfl
    have y0 := blk_frozen R7.out 0
    have r1 := (blk_cell R7.out 1).trans rfl
    have y1 := blk_frozen R7.out 1
    have r2 := (blk_cell R7.out 2).trans rfl
    have y2 := blk_frozen R7.out 2
    have r3 := (blk_cell R7.out 3).trans rfl
    have y3 := blk_frozen R7.out 3
    have r4 := (blk_cell R7.out 4).trans rfl
    have y4 := blk_frozen R7.out 4
    have r5 := (blk_cell R7.out 5).trans rfl
    have y5 := blk_frozen R7.out 5
    go_upto_region 4 with (fail)
    go_wp2_with (fail)
    refine bodyPost_ret (results_cell_row rfl _ _ (b0 + 1 + 1 + 1) 68 #[.int .i64 pk, .int .i64 pf, .int .i64 pt, .string px, .slice A' nn cc', .slice A3 (pm + 1) cq] (0, 0) _ rfl (ov_put R7.out _ _ _ _ _ _) Tryd.underlying68 rfl (by kernel_rfl)) rfl ?_
    have S8 := (((((((Six.refl (b0 + 1 + 1 + 1) w7).set 0 (.int .i64 pk)).set 1 (.int .i64 pf)).set 2 (.int .i64 pt)).set 3 (.string px)).set 4 (Value.slice A' nn cc')).set 5 (Value.slice A3 (pm + 1) cq))
    have NIT : (Value.slice A' nn cc').ownBlock ≠ some (b0 + 1 + 1 + 1) := fun e => by
      rcases I6.out with h | h
      · have := (own_blk H1.out _ (by rw [← h]; exact e)).2; have := S0.out.1; omega
      · have := h _ e; omega
    have NNM : (Value.slice A3 (pm + 1) cq).ownBlock ≠ some (b0 + 1 + 1 + 1) := fun e => by
      rcases J6.out with h | h
      · have := (own_blk H2.out _ (by rw [← h]; exact e)).2; have := S0.out.1; omega
      · have := h _ e; omega
    refine ⟨.slice A' nn cc', .slice A3 (pm + 1) cq, (pm + 1), rfl, ⟨⟨_, by rw [← HNN.out]; exact S8.row IT7.out NIT⟩, ⟨_, S8.row NM7.out NNM⟩, by have := HN.out.2; simp only; omega⟩, S8.kf F7.out (by have := S0.out.1; omega), B7.out.trans (S8.bel B (by have := HB.out; have := S0.out.1; omega)), T7.out.trans ((S8.kt R7.out).mono (by simp)), I6.out.imp id (fun h k hk => by have := h k hk; have := S0.out.1; omega), J6.out.imp id (fun h k hk => by have := h k hk; have := S0.out.1; omega)⟩
end Go.Proofs.YtlhpflicchchlaaDoor.Tr
