/- nest.Nest.up, walked. Conditions: none. -/
import Derived.Test.YtlhpflicchchlaaDoorNx3
namespace Go.Proofs.YtlhpflicchchlaaDoor.Nx
open Go.RowKit Go.Proofs.YtlhpflicchchlaaDoorW.PrintWords Go.Proofs.YtlhpflicchchlaaDoorW.PrintLast Go.Proofs.YtlhpflicchchlaaDoorW.PrintMore
attribute [local go_sem] max2_int min2_int max_two min_two max_three min_three max_four min_four
open Go.Proofs.YtlhpflicchchlaaDoor.LexPure Go.Proofs.YtlhpflicchchlaaDoor.BitsW
set_option linter.unusedVariables false
set_option linter.unusedSimpArgs false
def upV (s : NS) (t : Tk) (kind : Int) : NS × List Ev × Int := match s.lv.getLast? with
  | some l => (endedV { s with stk := s.stk.dropLast, lv := s.lv.dropLast }, [⟨2, kind, l.frm, t.to, l.step, ⟨#[]⟩⟩], 0)
  | none => (s, [], 0)
theorem own_short {W : World} {B g n m cap sz : Nat} {e : TypeId} {xs : List Value} (h : W.ownsRow B e sz (.slice (some ⟨g, 0, none⟩) n cap) n xs) (hm : m ≤ n) : W.ownsRow B e sz (.slice (some ⟨g, 0, none⟩) m cap) m (xs.take (m * sz)) := by
  obtain ⟨h1, h2⟩ := h
  have hle : m * sz ≤ n * sz := Nat.mul_le_mul_right _ hm
  rcases h2 with ⟨h2, _⟩ | ⟨g2, cap2, cur, h2, h3, h4, h5, h6, h7, h8⟩
  · cases h2
  · injection h2 with a b c
    injection a with a
    obtain rfl := (Addr.mk.inj a).1
    subst c
    refine ⟨by rw [List.length_take, h1]; omega, .inr ⟨g, cap, cur, rfl, h3, h4, by omega, h6, h7, ?_⟩⟩
    rw [← h8, List.take_take]
    congr 1
    omega
set_option maxHeartbeats 16000000 in
set_option maxRecDepth 100000 in
theorem up_calls {w0 W : World} {g : Nat} {s : NS} {lvv : Value} (h : Nx w0 W g s lvv) (hB0 : Below w0.heap.size w0 W) (hn : s.stk.length ≤ 90000) (hm : ∀ l ∈ s.lv, l.many ≤ 1000000) (hne : s.stk ≠ []) (t : Tk) (kind : Int) :
    Calls Tryd.prog 78 #[.pointer (some ⟨g, 0, none⟩), .agg #[.int .i64 t.kind, .bool t.begun, .int .i64 (t.frm : Int), .int .i64 (t.to : Int), .string t.text], .int .i64 kind] W fun e w' => ∃ v, e = .returned (.tuple #[v, .int .i64 (upV s t kind).2.2]) ∧ PostN w0 W g (upV s t kind).1 (upV s t kind).2.1 v w' := by
  obtain ⟨bs, b, hs⟩ := snoc_of _ hne
  have hlne : s.lv ≠ [] := fun e => by have := h.len; rw [e, hs] at this; simp at this
  obtain ⟨pre, x, hl⟩ := snoc_of _ hlne
  have E := Aside0.mk (show upV s t kind = (endedV { s with stk := bs, lv := pre }, [⟨2, kind, x.frm, t.to, x.step, ⟨#[]⟩⟩], 0) by
    unfold upV
    rw [hs, hl]
    simp)
  obtain ⟨k, hk⟩ : ∃ k, pre.length = k := ⟨_, rfl⟩
  have hr := h.row
  rw [hl] at hr
  obtain ⟨gl, cap, rfl, hgl, cur, hcur, hcap⟩ := own_pos hr
  rw [show (pre ++ [x]).length = k + 1 by simp [hk]] at h hr hcap
  have H := Aside0.mk h
  have HS := Aside0.mk (And.intro hs (And.intro hl hk))
  have HB0 := Aside0.mk hB0
  have HMM : Aside0 (∀ l ∈ pre, l.many ≤ 1000000) := ⟨fun l hlm => hm l (by rw [hl]; simp [hlm])⟩
  have hkb : bs.length = k := by have := h.len; rw [hs, hl] at this; simp at this; omega
  have HKB := Aside0.mk hkb
  have hkn : k < 90001 := by rw [hs] at hn; simp at hn; omega
  have LA0 := Aside0.mk (lvAt_of h hl hk)
  have HKN := Aside0.mk hkn
  obtain ⟨n, hnn⟩ : ∃ n, n = k + 1 := ⟨_, rfl⟩
  rw [← hnn] at LA0 hcap
  have HNN := Aside0.mk hnn
  have HCAP := Aside0.mk hcap
  have n1 : wrap64 ((n : Int) - 1) = (k : Int) := by unfold wrap64; omega
  have n2 : (0 : Int) ≤ (k : Int) := by omega
  have n3 : (k : Int) < (n : Int) := by omega
  have n4 : (k < n) = True := eq_true (by omega)
  have n5 : (n : Int) - 1 = (k : Int) := by omega
  have n6 : IntKind.i64.wrap (k : Int) = (k : Int) := IntWalk.i64_in _ (by omega)
  have n7 : k ≤ n := by omega
  have n8 : k ≤ cap := by omega
  have n9 : (k : Int) ≤ (cap : Int) := by omega
  have n10 : (k : Int) ≤ (n : Int) := by omega
  have HGL : Aside0 (gl < W.heap.size ∧ gl ≠ g) := ⟨blk_lt hcur, fun e => by obtain ⟨wv, hb⟩ := h.blk; exact own_ne hr hb (by decide) (by rw [e]; rfl)⟩
  clear h hr hs hl hk hlne hne hn hm hB0 hkn hnn hcap hgl hcur hkb
  go_enter Tryd.func78, Tryd.ntmps78
  go_upto_region 1 with (fail)
  generalize hw1 : World.alloc W _ = w1
  have TB : Aside0 (w1.drew.heap[W.heap.size]? = some (.cells (tokCells t) 39 (0, 0))) := ⟨by subst hw1; exact blk_new W _⟩
  have BD : Aside0 (Below W.heap.size W w1.drew) := ⟨by subst hw1; exact (below_alloc (Below.refl _ _) _).drew⟩
  have ND : Aside0 (Nx w0 w1.drew g s (.slice (some ⟨gl, 0, none⟩) (k + 1) cap)) := ⟨H.out.below BD.out⟩
  have LA : Aside0 (LvAt w1.drew g gl k cap n x) := ⟨LA0.out.below BD.out⟩
  have L3 : Aside0 (W.heap.size ≠ g ∧ W.heap.size ≠ gl) := ⟨fun e => by have := H.out.lt; omega, fun e => by have := HGL.out.1; omega⟩
  clear hw1
  obtain ⟨b3, hb3⟩ : ∃ b3, b3 = W.heap.size := ⟨_, rfl⟩
  rw [← hb3] at TB L3 ⊢
  clear hb3
  refine start_ (n := 14) (S := fun w' => w'.cell? ⟨g, 3, none⟩ = some (.slice (some ⟨gl, 0, none⟩) n cap) ∧ w'.cell? ⟨gl, k * 6, none⟩ = some (.int .i64 (x.frm : Int)) ∧ w'.cell? ⟨gl, k * 6 + 1, none⟩ = some (.bool x.step.named) ∧ w'.cell? ⟨gl, k * 6 + 2, none⟩ = some (.string x.step.name) ∧ w'.cell? ⟨gl, k * 6 + 3, none⟩ = some (.int .i64 (x.step.idx : Int)) ∧ w'.cell? ⟨gl, k * 6 + 4, none⟩ = some (.int .i64 (x.many : Int)) ∧ w'.cell? ⟨gl, k * 6 + 5, none⟩ = some (.string x.nm)) (ds := [13]) #[false, false, false, false, false, false, false, false, false, false, false, false, false, false] (by kernel_rfl) rfl rfl ⟨LA.out.1, LA.out.2.1, LA.out.2.2.1, LA.out.2.2.2.1, LA.out.2.2.2.2.1, LA.out.2.2.2.2.2.1, LA.out.2.2.2.2.2.2⟩ (fun hHeld => ?_)
  generalize hwd_ : w1.drew = wD at LA ND TB BD hHeld ⊢
  clear hwd_
  refine pure_ (i := 0) (N := some 9) (v := ?_) (a' := ?_) #[true, false, false, false, false, false, false, false, false, false, false, false, false, false] rfl rfl (by kernel_rfl) (fun _ _ _ h => h) (Or.inl ⟨by rfl, ?_⟩) ?_ ?_
  rotate_left
  · intro w'
    go_simp
    with_reducible rfl
  rotate_left
  · simp only [Act.put, List.setIfInBounds_toArray, List.set_cons_zero, List.set_cons_succ, i64_w, i32_w]
    rfl
  refine pure_ (i := 1) (N := some 10) (v := ?_) (a' := ?_) #[true, true, false, false, false, false, false, false, false, false, false, false, false, false] rfl rfl (by kernel_rfl) (fun _ _ _ h => h) (Or.inl ⟨by rfl, ?_⟩) ?_ ?_
  rotate_left
  · intro w'
    go_simp
    with_reducible rfl
  rotate_left
  · simp only [Act.put, List.setIfInBounds_toArray, List.set_cons_zero, List.set_cons_succ, i64_w, i32_w]
    rfl
  refine pure_ (i := 2) (N := some 11) (v := ?_) (a' := ?_) #[true, true, true, false, false, false, false, false, false, false, false, false, false, false] rfl rfl (by kernel_rfl) (fun _ _ _ h => h) (Or.inl ⟨by rfl, ?_⟩) ?_ ?_
  rotate_left
  · intro w'
    go_simp
    with_reducible rfl
  rotate_left
  · simp only [Act.put, List.setIfInBounds_toArray, List.set_cons_zero, List.set_cons_succ, i64_w, i32_w]
    rfl
  refine pure_ (i := 4) (N := some 13) (v := ?_) (a' := ?_) #[true, true, true, false, true, false, false, false, false, false, false, false, false, false] rfl rfl (by kernel_rfl) (fun _ _ _ h => h) (Or.inl ⟨by rfl, ?_⟩) ?_ ?_
  rotate_left
  · intro w'
    go_simp
    with_reducible rfl
  rotate_left
  · simp only [Act.put, List.setIfInBounds_toArray, List.set_cons_zero, List.set_cons_succ, i64_w, i32_w]
    rfl
  refine pure_ (i := 5) (N := some 14) (v := ?_) (a' := ?_) #[true, true, true, false, true, true, false, false, false, false, false, false, false, false] rfl rfl (by kernel_rfl) (fun _ _ _ h => h) (Or.inl ⟨by rfl, ?_⟩) ?_ ?_
  rotate_left
  · intro w'
    go_simp
    with_reducible rfl
  rotate_left
  · simp only [Act.put, List.setIfInBounds_toArray, List.set_cons_zero, List.set_cons_succ, i64_w, i32_w]
    rfl
  refine pure_ (i := 6) (N := some 15) (v := ?_) (a' := ?_) #[true, true, true, false, true, true, true, false, false, false, false, false, false, false] rfl rfl (by kernel_rfl) (fun _ _ _ h => h) (Or.inl ⟨by rfl, ?_⟩) ?_ ?_
  rotate_left
  · intro w'
    go_simp
    with_reducible rfl
  rotate_left
  · simp only [Act.put, List.setIfInBounds_toArray, List.set_cons_zero, List.set_cons_succ, i64_w, i32_w]
    rfl
  refine take_ (i := 3) (N := some 12) (v := ?_) (a' := ?_) #[true, true, true, true, true, true, true, false, false, false, false, false, false, false] rfl rfl (by kernel_rfl) (fun _ _ _ h => h) (Or.inl ⟨by rfl, ?_⟩) hHeld ?_ ?_
  rotate_left
  · rintro w' ⟨s0, s1, s2, s3, s4, s5, s6⟩
    go_simp
    with_reducible rfl
  rotate_left
  · simp only [Act.put, List.setIfInBounds_toArray, List.set_cons_zero, List.set_cons_succ, i64_w, i32_w]
    rfl
  refine take_ (i := 7) (N := some 16) (v := ?_) (a' := ?_) #[true, true, true, true, true, true, true, true, false, false, false, false, false, false] rfl rfl (by kernel_rfl) (fun _ _ _ h => h) (Or.inl ⟨by rfl, ?_⟩) hHeld ?_ ?_
  rotate_left
  · rintro w' ⟨s0, s1, s2, s3, s4, s5, s6⟩
    go_simp
    with_reducible rfl
  rotate_left
  · simp only [Act.put, List.setIfInBounds_toArray, List.set_cons_zero, List.set_cons_succ, i64_w, i32_w]
    rfl
  refine pure_ (i := 8) (N := some 17) (v := ?_) (a' := ?_) #[true, true, true, true, true, true, true, true, true, false, false, false, false, false] rfl rfl (by kernel_rfl) (fun _ _ _ h => h) (Or.inl ⟨by rfl, ?_⟩) ?_ ?_
  rotate_left
  · intro w'
    go_simp
    with_reducible rfl
  rotate_left
  · simp only [Act.put, List.setIfInBounds_toArray, List.set_cons_zero, List.set_cons_succ, i64_w, i32_w]
    rfl
  refine pure_ (i := 9) (N := some 18) (v := ?_) (a' := ?_) #[true, true, true, true, true, true, true, true, true, true, false, false, false, false] rfl rfl (by kernel_rfl) (fun _ _ _ h => h) (Or.inl ⟨by rfl, ?_⟩) ?_ ?_
  rotate_left
  · intro w'
    go_simp
    with_reducible rfl
  rotate_left
  · simp only [Act.put, List.setIfInBounds_toArray, List.set_cons_zero, List.set_cons_succ, i64_w, i32_w]
    rfl
  refine pure_ (i := 10) (N := some 19) (v := ?_) (a' := ?_) #[true, true, true, true, true, true, true, true, true, true, true, false, false, false] rfl rfl (by kernel_rfl) (fun _ _ _ h => h) (Or.inl ⟨by rfl, ?_⟩) ?_ ?_
  rotate_left
  · intro w'
    go_simp
    with_reducible rfl
  rotate_left
  · simp only [Act.put, List.setIfInBounds_toArray, List.set_cons_zero, List.set_cons_succ, i64_w, i32_w]
    rfl
  refine take_ (i := 11) (N := some 20) (v := ?_) (a' := ?_) #[true, true, true, true, true, true, true, true, true, true, true, true, false, false] rfl rfl (by kernel_rfl) (fun _ _ _ h => h) (Or.inl ⟨by rfl, ?_⟩) hHeld ?_ ?_
  rotate_left
  · rintro w' ⟨s0, s1, s2, s3, s4, s5, s6⟩
    go_simp
    with_reducible rfl
  rotate_left
  · simp only [Act.put, List.setIfInBounds_toArray, List.set_cons_zero, List.set_cons_succ, i64_w, i32_w]
    rfl
  refine one_ (i := 12) (N := some 8) #[true, true, true, true, true, true, true, true, true, true, true, true, true, false] rfl rfl (by kernel_rfl) (by decide) (fun K hK => ?_)
  refine value_ (w1 := ?_) (v := ?_) (by rfl) rfl ?_ ?_
  rotate_left 2
  · go_simp
    constructor
    · rfl
    · rfl
  generalize hg7 : World.alloc wD _ = w5
  have LA5 : Aside0 (LvAt w5 g gl k cap n x) := ⟨by subst hg7; exact LA.out.below (below_alloc (Below.refl _ _) _)⟩
  have BK : Aside0 (w5.heap[wD.heap.size]? = some (.cells (lvCells lv0).toArray 161 (0, 0))) := ⟨by subst hg7; exact blk_new wD _⟩
  have BE5 : Aside0 (Below wD.heap.size wD w5) := ⟨by subst hg7; exact below_alloc (Below.refl _ _) _⟩
  clear hg7
  obtain ⟨x0, x1, x2, x3, x4, x5⟩ := lv_cells BK.out
  have z0 := blk_frozen BK.out 0
  have z1 := blk_frozen BK.out 1
  have z2 := blk_frozen BK.out 2
  have z3 := blk_frozen BK.out 3
  have z4 := blk_frozen BK.out 4
  have z5 := blk_frozen BK.out 5
  refine hK.out _ _ ⟨LA5.out.1, LA5.out.2.1, LA5.out.2.2.1, LA5.out.2.2.2.1, LA5.out.2.2.2.2.1, LA5.out.2.2.2.2.2.1, LA5.out.2.2.2.2.2.2⟩ (fun hHeld => ?_)
  clear hK K
  refine norm_ (a' := ?_) ?_ ?_
  rotate_left
  · show Act.put _ (some 8) _ = _
    simp only [Act.put, List.setIfInBounds_toArray, List.set_cons_zero, List.set_cons_succ, i64_w, i32_w]
    rfl
  refine last_ (i := 13) (N := none) #[true, true, true, true, true, true, true, true, true, true, true, true, true, true] rfl rfl (by kernel_rfl) (by decide) (fun K hK => ?_)
  refine skip_ (w1 := ?_) (by rfl) rfl ?_ ?_
  rotate_left
  · go_simp
    rfl
  refine hK.out _ _ ?_
  clear hK K
  refine done_ (by kernel_rfl) ?_
  generalize hw3 : World.setCell _ ⟨wD.heap.size, 5, none⟩ _ = w3
  have hw3 : lvPut w5 wD.heap.size x = w3 := hw3
  have BK3 := Aside0.mk (hw3 ▸ lv_put BK.out x)
  have BE : Aside0 (Below wD.heap.size wD w3) := ⟨hw3 ▸ BE5.out.trans (lv_below w5 _ _ (Nat.le_refl _) x)⟩
  have N8 := Aside0.mk (ND.out.below BE.out)
  have LA3 := Aside0.mk (LA.out.below BE.out)
  have TB8 := Aside0.mk (blk_below TB.out BE.out)
  have BW8 : Aside0 (Below W.heap.size W w3) := ⟨BD.out.trans (BE.out.mono BD.out.size)⟩
  have K8 := Aside0.mk (KeepN.of_below (g := g) BW8.out)
  have NBG : Aside0 (wD.heap.size ≠ g ∧ wD.heap.size ≠ b3 ∧ wD.heap.size ≠ gl) := ⟨fun e => by have := ND.out.lt; omega, fun e => by have := blk_lt TB.out; omega, fun e => by have := HGL.out.1; have := BD.out.size; omega⟩
  clear hw3 x0 x1 x2 x3 x4 x5 z0 z1 z2 z3 z4 z5 BE BE5 TB ND LA LA5 BK BD
  generalize wD.heap.size = g8 at *
  obtain ⟨c3, _⟩ := LA3.out
  obtain ⟨wv8, hb8⟩ := N8.out.blk
  have z3 := blk_frozen hb8 3
  clear hb8
  go_upto_region 2 with (fail)
  refine ListedB.wp_region_listed (G := []) (by kernel_rfl) (by kernel_rfl) ?_
  go_wp2_with (fail)
  refine ListedB.fin_intro (by kernel_rfl) ?_
  generalize hwS : World.setCell w3 ⟨g, 3, none⟩ _ = wS
  have hsl := HS.out.2.1
  obtain ⟨⟨wvB, hgB, hoB, hgeB⟩, hrB, _⟩ := N8.out
  have I9 : Aside0 (IsB w0 wS.drew g ⟨s.most, .slice (some ⟨gl, 0, none⟩) k cap, s.may, s.begun, s.began⟩ (mw (bs.length + 1)) (bs ++ [b])) := ⟨by
    rw [HS.out.1] at hgB hoB
    subst hwS
    refine ⟨wvB, blk_drew (by simpa using blk_set hgB 3 (.slice (some ⟨gl, 0, none⟩) k cap)), ?_, hgeB⟩
    have := own_setCell (p := ⟨g, 3, none⟩) hoB (own_ne hoB hgB (by decide)) (.slice (some ⟨gl, 0, none⟩) k cap)
    exact World.ownsRow.drew (by simpa using this)⟩
  have R9 : Aside0 (wS.drew.ownsRow w0.heap.size 161 6 (.slice (some ⟨gl, 0, none⟩) k cap) k (pre.flatMap lvCells)) := ⟨by
    rw [hsl] at hrB
    rw [show (pre ++ [x]).length = k + 1 by simp [HS.out.2.2]] at hrB
    have h1 := own_short hrB (m := k) (by omega)
    rw [List.flatMap_append, List.take_left' (by rw [flat_len, HS.out.2.2])] at h1
    subst hwS
    exact own_setCell (p := ⟨g, 3, none⟩) h1 (own_ne (v := .slice (some ⟨gl, 0, none⟩) k cap) h1 hgB (by decide)) _⟩
  have BK9 : Aside0 (wS.drew.heap[g8]? = some (.cells (lvCells x).toArray 161 (0, 0))) := ⟨by subst hwS; exact blk_far BK3.out (p := ⟨g, 3, none⟩) NBG.out.1 _⟩
  have TB9 : Aside0 (wS.drew.heap[b3]? = some (.cells (tokCells t) 39 (0, 0))) := ⟨by subst hwS; exact blk_far TB8.out (p := ⟨g, 3, none⟩) L3.out.1 _⟩
  have B9 : Aside0 (Below w0.heap.size W wS.drew) := ⟨by subst hwS; exact ((BW8.out.mono (Nat.le_trans H.out.ge (Nat.le_of_lt H.out.lt))).setCell (p := ⟨g, 3, none⟩) H.out.ge _).drew⟩
  have K9 : Aside0 (KeepN g W wS.drew) := ⟨by subst hwS; exact (K8.out.trans (KeepN.set_ _ _ _)).trans (KeepN.of_below (Below.refl _ _).drew)⟩
  clear hwS hsl hgB hoB hgeB hrB N8 LA3 TB8 BW8 K8 BK3 c3 z3 n1 n2 n3 n4 n5 n6 n7 n8 n9 n10
  generalize wS.drew = w9 at *
  have HP := Aside0.mk (pop_calls _ g bs b w0 w9 I9.out (HB0.out.trans B9.out) (by have := HKB.out; have := HKN.out; omega))
  go_wp2_with (fail)
  go_at_call 114
  refine HP.out.mono ?_
  rintro e wA ⟨rfl, hI, hbl, hkt⟩
  obtain ⟨wvn, hgn, _, _⟩ := I9.out
  have NA : Aside0 (Nx w0 wA g { s with stk := bs, lv := pre } (.slice (some ⟨gl, 0, none⟩) k cap)) := ⟨⟨hI, by have := own_bits (cs := []) R9.out hkt (by decide) hgn (by decide); rw [show pre.length = k from HS.out.2.2]; exact this, by rw [show pre.length = k from HS.out.2.2]; exact HKB.out.symm⟩⟩
  have BKA := Aside0.mk (blk_bits BK9.out hkt NBG.out.1 (by decide))
  have TBA := Aside0.mk (blk_bits TB9.out hkt L3.out.1 (by decide))
  have KA := Aside0.mk (K9.out.trans (KeepN.of_bits hkt))
  have BA := Aside0.mk (below_mid HB0.out hbl KA.out.1)
  have HEN := Aside0.mk (ended_calls NA.out (by have := HKB.out; have := HKN.out; simp only; omega) HMM.out)
  clear hI hbl hkt hgn HP R9 BK9 TB9 B9 K9 I9
  go_wp2_with (fail)
  go_at_call 111
  refine HEN.out.mono ?_
  rintro e wB ⟨rfl, h1, h2, h3, h4⟩
  have NB := Aside0.mk h1
  have BKB := Aside0.mk ((h4 g8 (blk_lt BKA.out) NBG.out.1 (fun e => NBG.out.2.2 (Option.some.inj e).symm)).trans BKA.out)
  have TBB := Aside0.mk ((h4 b3 (blk_lt TBA.out) L3.out.1 (fun e => L3.out.2 (Option.some.inj e).symm)).trans TBA.out)
  have KB := Aside0.mk (KA.out.trans h3)
  have BB := Aside0.mk (BA.out.trans h2)
  clear h1 h2 h3 h4 HEN KA BA BKA TBA NA
  obtain ⟨v0, v1, v2, v3, v4, v5⟩ := lv_cells BKB.out
  have d3 : wB.cell? ⟨b3, 3, none⟩ = some (.int .i64 (t.to : Int)) := (blk_cell TBB.out 3).trans rfl
  go_wp2_with (fail)
  go_ret2
  rw [E.out]
  exact ⟨_, rfl, _, NB.out.below (below_alloc (Below.refl _ _) _), BB.out.trans ((below_alloc (Below.refl _ _) _).mono (Nat.le_trans NB.out.ge (Nat.le_of_lt NB.out.lt))), KB.out.trans (KeepN.of_below (below_alloc (Below.refl _ _) _)), rowE wB _ ⟨2, kind, x.frm, t.to, x.step, ⟨#[]⟩⟩ KB.out.1 _ _ rfl rfl, fun h => by simp at h⟩
end Go.Proofs.YtlhpflicchchlaaDoor.Nx
