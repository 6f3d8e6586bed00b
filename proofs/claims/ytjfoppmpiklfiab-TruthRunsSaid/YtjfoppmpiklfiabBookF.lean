/- Contracts of the book of things: Set. Conditions: none. -/
import Derived.Test.YtjfoppmpiklfiabBookE
namespace Go.Proofs.Ytjfoppmpiklfiab.BookW
open Go.RowKit Go.Proofs.YtjfoppmpiklfiabW.PrintWords Go.Proofs.YtjfoppmpiklfiabW.PrintLast Go.Proofs.YtjfoppmpiklfiabW.PrintMore Go.Proofs.Ytjfoppmpiklfiab.PTruthRuns Go.Proofs.Ytjfoppmpiklfiab.Truth
set_option linter.unusedVariables false
set_option linter.unusedSimpArgs false
theorem SetSt.start {w0 W : World} {g : Nat} {P : Nat → Prop} {L : List T} (h : IsB w0 W g P L) (hB : Below w0.heap.size w0 W) (hf : ∀ k, W.heap.size ≤ k → P k) (x : Nat) (xi : Int) (hx : xi = x) :
    SetSt w0 (W.alloc (.cells #[.int .i64 xi] 3)) g P (.slice none 0 0) (.slice (some ⟨W.heap.size, 0, none⟩) 1 1) L [x] := by
  have ho := own_lit_of (enc := fun z : Int => Value.int .i64 z) W w0.heap.size 3 [xi] hB.size (by simp)
  have hb := h.bound
  refine ⟨(hb.below (below_alloc (Below.refl _ _) _)).mono (fun k hk => ⟨hk.1, fun he => ?_, by simp [Value.ownBlock]⟩), ?_, below_alloc hB _, fun k hk => by simp [Value.ownBlock] at hk⟩
  · have : k = W.heap.size := by simpa [Value.ownBlock] using he
    have := hk.2
    omega
  · rw [show nats [x] = [xi] by simp [nats, hx]]
    refine Kd.Q_of_R (Kd.R_of_own ho (fun k hk => ?_))
    have : W.heap.size = k := by simpa [Value.ownBlock] using hk
    subst this
    exact ⟨fun he => Nat.lt_irrefl g (by have := h.lt; omega), hf _ (Nat.le_refl _), by simp [Value.ownBlock]⟩
theorem start_false (L : List T) (x : Nat) (hx : x < L.length) : ((L.set x ⟨0, (gT L x).val, (gT L x).x, (gT L x).y, (gT L x).ups⟩).set x ((gT (L.set x ⟨0, (gT L x).val, (gT L x).x, (gT L x).y, (gT L x).ups⟩) x).setVal 2)) = Truth.start L x false := by
  rw [get_set_self _ hx, List.set_set]; rfl
theorem start_true (L : List T) (x : Nat) (hx : x < L.length) : (Truth.start L x false).set x ((gT (Truth.start L x false) x).setVal 1) = Truth.start L x true := by
  unfold Truth.start
  rw [get_set_self _ hx, List.set_set]; rfl
theorem inner_known {L : List T} {todo us : List Nat} {u : Nat} (h : (gT L u).val ≠ 0) : inner L todo (u :: us) = inner L todo us := by
  unfold inner; rw [if_pos h]; cases us <;> rfl
theorem inner_new {L : List T} {todo us : List Nat} {u q : Nat} (h : (gT L u).val = 0) (hq : q = worth (gT L u).made (gT L (gT L u).x).val (gT L (gT L u).y).val) (h1 : q ≠ 0) : inner L todo (u :: us) = inner (L.set u ((gT L u).setVal q)) (todo ++ [u]) us := by
  subst hq
  conv => lhs; unfold inner
  rw [if_neg (by omega), if_pos h1]
theorem inner_zero {L : List T} {todo us : List Nat} {u : Nat} (h : (gT L u).val = 0) (h1 : worth (gT L u).made (gT L (gT L u).x).val (gT L (gT L u).y).val = 0) : inner L todo (u :: us) = inner (L.set u ((gT L u).setVal 0)) todo us := by
  conv => lhs; unfold inner
  rw [if_neg (by omega), if_neg (by omega)]
theorem drop_nat (us : List Nat) (i : Nat) (h : i < us.length) : us.drop i = us.getD i 0 :: us.drop (i + 1) := by
  rw [List.getD_eq_getElem?_getD, List.getElem?_eq_getElem h]
  exact List.drop_eq_getElem_cons h
theorem rd_nats (us : List Nat) (i : Nat) (h : i < us.length) : rd (nats us) (i : Int) = ((us.getD i 0 : Nat) : Int) := by
  unfold rd nats
  rw [Int.toNat_natCast, List.getD_eq_getElem?_getD, List.getD_eq_getElem?_getD, List.getElem?_map, List.getElem?_eq_getElem h]
  rfl
theorem prop_nil {k : Nat} {L L' : List T} (h : prop k L [] = some L') : L = L' := by
  cases k with
  | zero => cases h
  | succ k => exact Option.some.inj h
theorem prop_cons {k : Nat} {L L' : List T} {t : Nat} {ts : List Nat} (h : prop k L (t :: ts) = some L') : ∃ q, k = q + 1 ∧ prop q (inner (clear L t) ts (gT L t).ups).1 (inner (clear L t) ts (gT L t).ups).2 = some L' := by
  cases k with
  | zero => cases h
  | succ k => exact ⟨k, rfl, h⟩
set_option maxHeartbeats 4000000 in
set_option maxRecDepth 100000 in
theorem set_no (g : Nat) (P : Nat → Prop) (L : List T) (x : Int) (yes : Bool) (w0 w : World) (hI : IsB w0 w g P L) (hc : canSet L x = false) : Calls Try.prog 37 #[.pointer (some ⟨g, 0, none⟩), .int .i64 x, .bool yes] w fun e w' => e = .returned (.bool false) ∧ w = w' := by
  by_cases h0 : x < 0
  · have q0 : decide (x < 0) = true := decide_eq_true h0
    clear h0 hc hI
    go_enter Try.func37, Try.ntmps37
    go_wp2
    go_ret
    exact ⟨rfl, rfl⟩
  · by_cases h1 : (L.length : Int) ≤ x
    · have q0 : decide (x < 0) = false := decide_eq_false h0
      have q1 : decide ((L.length : Int) ≤ x) = true := decide_eq_true h1
      obtain ⟨A, c, hg, hb, hS⟩ := hI.slice
      have c0 := (blk_cell hg 0).trans rfl
      clear hg hb hS h0 h1 hc hI
      go_enter Try.func37, Try.ntmps37
      go_wp2
      go_ret
      exact ⟨rfl, rfl⟩
    · obtain ⟨gr, c, hg, hgrid⟩ := hI.grid (by omega)
      obtain ⟨v, oki, he⟩ := hgrid x.toNat (by omega)
      have hm : (gT L x.toNat).made ≠ 1 := by
        intro e
        have : canSet L x = true := by unfold canSet; simp [e]; omega
        rw [this] at hc; cases hc
      have q0 : decide (x < 0) = false := decide_eq_false h0
      have q1 : decide ((L.length : Int) ≤ x) = false := decide_eq_false h1
      obtain ⟨m, hmm⟩ : ∃ m : Int, m = ((gT L x.toNat).made : Nat) := ⟨_, rfl⟩
      have q2 : (m != 1) = true := by simp; omega
      have p0 : 0 ≤ x := by omega
      have p1 : x < (L.length : Int) := by omega
      have cg := (blk_cell hg 0).trans rfl
      have cm := he.c0
      rw [← hmm] at cm
      clear hg hgrid he h0 h1 hc hI hm hmm
      replace p0 := eq_true p0
      replace p1 := eq_true p1
      go_enter Try.func37, Try.ntmps37
      go_wp2
      go_ret
      exact ⟨rfl, rfl⟩

set_option maxHeartbeats 16000000 in
set_option maxRecDepth 100000 in
theorem set_false (g : Nat) (P : Nat → Prop) (L : List T) (x : Int) (L' : List T) (k : Nat) (w0 w : World) (hI : IsB w0 w g P L) (hf : ∀ k, w.heap.size ≤ k → P k) (hB : Below w0.heap.size w0 w) (hl : L.length < 1000000) (hInv : Inv L)
    (hx0 : 0 ≤ x) (hx1 : x < L.length) (hm : (gT L x.toNat).made = 1) (hp : prop k (Truth.start L x.toNat false) [x.toNat] = some L') :
    Calls Try.prog 37 #[.pointer (some ⟨g, 0, none⟩), .int .i64 x, .bool false] w fun e w' => e = .returned (.bool true) ∧ IsB w0 w' g P L' ∧ Below w0.heap.size w0 w' ∧ KeepB g P w w' := by
  have hmid := start_mid hInv (x := x.toNat) (by omega) hm false
  have HMid := Aside0.mk hmid.1
  have HLs := Aside0.mk hmid.2.2.2.2
  have HP := Aside0.mk hp
  have HF := Aside0.mk hf
  have HL := Aside0.mk hl
  have HX := Aside0.mk (show x.toNat < L.length by omega)
  have HXi := Aside0.mk (show x = (x.toNat : Int) by omega)
  have HUnk := Aside0.mk (unk_le (Truth.start L x.toNat false))
  obtain ⟨gr, c, hg, hgrid⟩ := (hI.drew).grid (by omega)
  obtain ⟨v, oki, he⟩ := hgrid x.toNat (by omega)
  have cm : w.cell? ⟨gr, x.toNat * 5, none⟩ = some (.int .i64 1) := by
    have h := he.c0
    rw [hm] at h
    exact h
  have cg : w.cell? ⟨g, 0, none⟩ = some (.slice (some ⟨gr, 0, none⟩) L.length c) := (blk_cell (w := w.drew) hg 0).trans rfl
  have HE := Aside0.mk he
  have HB := Aside0.mk (below_drew hB)
  have HK := Aside0.mk (KeepB.of_below (g := g) (P := P) (below_drew (Below.refl w.heap.size w)))
  obtain ⟨N, hN⟩ : ∃ N, N = L.length := ⟨_, rfl⟩
  have HN := Aside0.mk hN
  have q0 : decide (x < 0) = false := decide_eq_false (by omega)
  have q1 : decide ((N : Int) ≤ x) = false := decide_eq_false (by omega)
  have p0 : 0 ≤ x := hx0
  have p1 : x < (N : Int) := by omega
  rw [← hN] at cg
  clear hmid hp hf hB hl hInv hx0 hx1 hm hg hgrid he hI hN
  replace p0 := eq_true p0
  replace p1 := eq_true p1
  go_enter Try.func37, Try.ntmps37
  go_upto_region 3 with (fail)
  have cd : w.drew.cell? ⟨g, 0, none⟩ = some (.slice (some ⟨gr, 0, none⟩) N c) := cg
  have c0d := HE.out.c0
  have z0d : w.drew.frozen? ⟨gr, x.toNat * 5, none⟩ = false := HE.out.fr 0
  have HCD := Aside0.mk cd
  have HG := Aside0.mk HE.out.hg
  clear cd cm cg
  refine start_ (n := 16) (S := fun w' => w'.cell? ⟨g, 0, none⟩ = some (.slice (some ⟨gr, 0, none⟩) N c)) (ds := [12, 15]) #[false, false, false, false, false, false, false, false, false, false, false, false, false, false, false, false] (by kernel_rfl) rfl rfl (HCD.out) (fun hHeld => ?_)
  generalize hwd_ : w.drew = wD at HE HB HK HCD HG c0d z0d hHeld ⊢
  clear hwd_
  refine pure_ (i := 0) (N := some 34) (v := ?_) (a' := ?_) #[true, false, false, false, false, false, false, false, false, false, false, false, false, false, false, false] rfl rfl (by kernel_rfl) (fun _ _ _ h => h) (Or.inl ⟨by rfl, ?_⟩) ?_ ?_
  rotate_left
  · intro w'
    go_simp
    with_reducible rfl
  rotate_left
  · simp only [Act.put, List.setIfInBounds_toArray, List.set_cons_zero, List.set_cons_succ, i64_w, i32_w]
    rfl
  refine pure_ (i := 1) (N := some 35) (v := ?_) (a' := ?_) #[true, true, false, false, false, false, false, false, false, false, false, false, false, false, false, false] rfl rfl (by kernel_rfl) (fun _ _ _ h => h) (Or.inl ⟨by rfl, ?_⟩) ?_ ?_
  rotate_left
  · intro w'
    go_simp
    with_reducible rfl
  rotate_left
  · simp only [Act.put, List.setIfInBounds_toArray, List.set_cons_zero, List.set_cons_succ, i64_w, i32_w]
    rfl
  refine pure_ (i := 2) (N := some 36) (v := ?_) (a' := ?_) #[true, true, true, false, false, false, false, false, false, false, false, false, false, false, false, false] rfl rfl (by kernel_rfl) (fun _ _ _ h => h) (Or.inl ⟨by rfl, ?_⟩) ?_ ?_
  rotate_left
  · intro w'
    go_simp
    with_reducible rfl
  rotate_left
  · simp only [Act.put, List.setIfInBounds_toArray, List.set_cons_zero, List.set_cons_succ, i64_w, i32_w]
    rfl
  refine pure_ (i := 4) (N := some 38) (v := ?_) (a' := ?_) #[true, true, true, false, true, false, false, false, false, false, false, false, false, false, false, false] rfl rfl (by kernel_rfl) (fun _ _ _ h => h) (Or.inl ⟨by rfl, ?_⟩) ?_ ?_
  rotate_left
  · intro w'
    go_simp
    with_reducible rfl
  rotate_left
  · simp only [Act.put, List.setIfInBounds_toArray, List.set_cons_zero, List.set_cons_succ, i64_w, i32_w]
    rfl
  refine pure_ (i := 5) (N := some 39) (v := ?_) (a' := ?_) #[true, true, true, false, true, true, false, false, false, false, false, false, false, false, false, false] rfl rfl (by kernel_rfl) (fun _ _ _ h => h) (Or.inl ⟨by rfl, ?_⟩) ?_ ?_
  rotate_left
  · intro w'
    go_simp
    with_reducible rfl
  rotate_left
  · simp only [Act.put, List.setIfInBounds_toArray, List.set_cons_zero, List.set_cons_succ, i64_w, i32_w]
    rfl
  refine pure_ (i := 6) (N := some 40) (v := ?_) (a' := ?_) #[true, true, true, false, true, true, true, false, false, false, false, false, false, false, false, false] rfl rfl (by kernel_rfl) (fun _ _ _ h => h) (Or.inl ⟨by rfl, ?_⟩) ?_ ?_
  rotate_left
  · intro w'
    go_simp
    with_reducible rfl
  rotate_left
  · simp only [Act.put, List.setIfInBounds_toArray, List.set_cons_zero, List.set_cons_succ, i64_w, i32_w]
    rfl
  refine pure_ (i := 7) (N := some 41) (v := ?_) (a' := ?_) #[true, true, true, false, true, true, true, true, false, false, false, false, false, false, false, false] rfl rfl (by kernel_rfl) (fun _ _ _ h => h) (Or.inl ⟨by rfl, ?_⟩) ?_ ?_
  rotate_left
  · intro w'
    go_simp
    with_reducible rfl
  rotate_left
  · simp only [Act.put, List.setIfInBounds_toArray, List.set_cons_zero, List.set_cons_succ, i64_w, i32_w]
    rfl
  refine pure_ (i := 9) (N := some 43) (v := ?_) (a' := ?_) #[true, true, true, false, true, true, true, true, false, true, false, false, false, false, false, false] rfl rfl (by kernel_rfl) (fun _ _ _ h => h) (Or.inl ⟨by rfl, ?_⟩) ?_ ?_
  rotate_left
  · intro w'
    go_simp
    with_reducible rfl
  rotate_left
  · simp only [Act.put, List.setIfInBounds_toArray, List.set_cons_zero, List.set_cons_succ, i64_w, i32_w]
    rfl
  refine take_ (i := 3) (N := some 37) (v := ?_) (a' := ?_) #[true, true, true, true, true, true, true, true, false, true, false, false, false, false, false, false] rfl rfl (by kernel_rfl) (fun _ _ _ h => h) (Or.inl ⟨by rfl, ?_⟩) hHeld ?_ ?_
  rotate_left
  · intro w' s0
    go_simp
    with_reducible rfl
  rotate_left
  · simp only [Act.put, List.setIfInBounds_toArray, List.set_cons_zero, List.set_cons_succ, i64_w, i32_w]
    rfl
  refine take_ (i := 8) (N := some 42) (v := ?_) (a' := ?_) #[true, true, true, true, true, true, true, true, true, true, false, false, false, false, false, false] rfl rfl (by kernel_rfl) (fun _ _ _ h => h) (Or.inl ⟨by rfl, ?_⟩) hHeld ?_ ?_
  rotate_left
  · intro w' s0
    go_simp
    with_reducible rfl
  rotate_left
  · simp only [Act.put, List.setIfInBounds_toArray, List.set_cons_zero, List.set_cons_succ, i64_w, i32_w]
    rfl
  refine pure_ (i := 10) (N := some 44) (v := ?_) (a' := ?_) #[true, true, true, true, true, true, true, true, true, true, true, false, false, false, false, false] rfl rfl (by kernel_rfl) (fun _ _ _ h => h) (Or.inl ⟨by rfl, ?_⟩) ?_ ?_
  rotate_left
  · intro w'
    go_simp
    with_reducible rfl
  rotate_left
  · simp only [Act.put, List.setIfInBounds_toArray, List.set_cons_zero, List.set_cons_succ, i64_w, i32_w]
    rfl
  refine pure_ (i := 11) (N := some 45) (v := ?_) (a' := ?_) #[true, true, true, true, true, true, true, true, true, true, true, true, false, false, false, false] rfl rfl (by kernel_rfl) (fun _ _ _ h => h) (Or.inl ⟨by rfl, ?_⟩) ?_ ?_
  rotate_left
  · intro w'
    go_simp
    with_reducible rfl
  rotate_left
  · simp only [Act.put, List.setIfInBounds_toArray, List.set_cons_zero, List.set_cons_succ, i64_w, i32_w]
    rfl
  refine last_ (i := 12) (N := none) #[true, true, true, true, true, true, true, true, true, true, true, true, true, false, false, false] rfl rfl (by kernel_rfl) (by decide) (fun K hK => ?_)
  refine skip_ (w1 := ?_) (by rfl) rfl ?_ ?_
  rotate_left
  · go_simp
    rfl
  have hA := Aside0.mk (HE.out.put0 0)
  have hG2 := Aside0.mk (blk_far HG.out (p := ⟨gr, x.toNat * 5, none⟩) (fun he => HE.out.ne he.symm) (.int .i64 ((0 : Nat) : Int)))
  rw [show (((0 : Nat) : Int)) = 0 from rfl] at hA hG2
  generalize hwS : World.setCell _ _ _ = wS at hA hG2 ⊢
  have B2 := Aside0.mk (below_row HB.out hA.out.2 HE.out.bg)
  have K2 := Aside0.mk (HK.out.trans (keep_row hA.out.2 HE.out.Pg))
  obtain ⟨v2, oki2, he2⟩ := hA.out.1.at_ hG2.out x.toNat (by rw [List.length_set]; exact HX.out)
  have HE2 := Aside0.mk he2
  have c1S := he2.c1
  have z1S := he2.fr 1
  clear hwS he2 c0d z0d hA hHeld HCD
  refine hK.out _ _ ?_
  clear hK K
  refine pure_ (i := 13) (N := some 46) (v := ?_) (a' := ?_) #[true, true, true, true, true, true, true, true, true, true, true, true, true, true, false, false] rfl rfl (by kernel_rfl) (fun _ _ _ h => h) (Or.inl ⟨by rfl, ?_⟩) ?_ ?_
  rotate_left
  · intro w'
    go_simp
    with_reducible rfl
  rotate_left
  · simp only [Act.put, List.setIfInBounds_toArray, List.set_cons_zero, List.set_cons_succ, i64_w, i32_w]
    rfl
  refine pure_ (i := 14) (N := some 47) (v := ?_) (a' := ?_) #[true, true, true, true, true, true, true, true, true, true, true, true, true, true, true, false] rfl rfl (by kernel_rfl) (fun _ _ _ h => h) (Or.inl ⟨by rfl, ?_⟩) ?_ ?_
  rotate_left
  · intro w'
    go_simp
    with_reducible rfl
  rotate_left
  · simp only [Act.put, List.setIfInBounds_toArray, List.set_cons_zero, List.set_cons_succ, i64_w, i32_w]
    rfl
  refine last_ (i := 15) (N := none) #[true, true, true, true, true, true, true, true, true, true, true, true, true, true, true, true] rfl rfl (by kernel_rfl) (by decide) (fun K hK => ?_)
  refine skip_ (w1 := ?_) (by rfl) rfl ?_ ?_
  rotate_left
  · go_simp
    rfl
  have hA := Aside0.mk (HE2.out.put1 2)
  have hG3 := Aside0.mk (blk_far hG2.out (p := ⟨gr, x.toNat * 5 + 1, none⟩) (fun he => HE2.out.ne he.symm) (.int .i64 ((2 : Nat) : Int)))
  rw [show (((2 : Nat) : Int)) = 2 from rfl] at hA hG3
  generalize hwT : World.setCell _ _ _ = wT at hA hG3 ⊢
  have B3 := Aside0.mk (below_row B2.out hA.out.2 HE2.out.bg)
  have K3 := Aside0.mk (K2.out.trans (keep_row hA.out.2 HE2.out.Pg))
  have HI3 := Aside0.mk hA.out.1
  rw [start_false L x.toNat HX.out] at HI3
  clear hwT c1S z1S hA B2 K2 hG2
  refine hK.out _ _ ?_
  clear hK K
  refine done_ (by kernel_rfl) ?_
  go_upto_region 6 with (fail)
  have HI4 := HI3
  have B4 := B3
  have K4 := K3
  generalize wT = wU at HI4 B4 K4 ⊢
  clear HI3 B3 K3 HE HE2
  have HS := Aside0.mk (SetSt.start HI4.out B4.out (fun k hk => HF.out k (Nat.le_trans K4.out.1 hk)) x.toNat x HXi.out)
  have HK5 := Aside0.mk (K4.out.trans (KeepB.of_below (g := g) (P := P) (below_alloc (Below.refl wU.heap.size wU) (.cells #[.int .i64 x] 3))))
  clear q0 q1 p0 p1
  go_wp2_with fail
  generalize hwA : World.alloc wU _ = wA at HS HK5 ⊢
  generalize hvA : Value.slice _ 1 1 = vA at HS ⊢
  clear hwA hvA
  go_loopg [7] k (fun kq v7 w' => ∃ (L2 : List T) (todo : List Nat), Aside0 (prop kq L2 todo = some L') ∧ Aside0 (Mid L2 todo []) ∧ Aside0 (L2.length = N) ∧ Aside0 (todo.length + unk L2 ≤ N + 1) ∧ Aside0 (SetSt w0 w' g P (.slice none 0 0) v7 L2 todo) ∧ Aside0 (KeepB g P w w'))
  case atStart => exact ⟨_, [x.toNat], HP, HMid, ⟨by rw [HLs.out, HN.out]⟩, ⟨by have h1 := HUnk.out; have h2 := HLs.out; rw [HN.out]; simp only [List.length_singleton]; omega⟩, HS, HK5⟩
  case round =>
    clear HS HK5 HI4 B4 K4 HMid HLs HUnk HP HXi
    obtain ⟨L2, todo, hp, hmid, hlen, hmany, hst, hk⟩ := hrel
    cases todo with
    | nil =>
      obtain ⟨A7, c7, e7, hle7⟩ := Kd.Q_slice hst.out.row
      rw [show (nats []).length = 0 from rfl] at e7
      subst e7
      have hL := Aside0.mk (prop_nil hp.out)
      clear hle7
      go_wp2_with fail
      go_ret
      exact ⟨rfl, by rw [← hL.out]; exact hst.out.book.mono (fun k hk => hk.1), hst.out.below, hk.out⟩
    | cons t ts =>
      obtain ⟨q, hq, hp2⟩ := prop_cons hp.out
      have HQ := Aside0.mk hq
      have HP2 := Aside0.mk hp2
      obtain ⟨ht, hvt⟩ := hmid.out.todo t (List.mem_cons_self)
      obtain ⟨gq, o, n, cc, v', e7, hn, hcq, hsl, hown, hrow⟩ := hst.out.drew.drew.head
      subst e7
      obtain ⟨gr, c, hg, hgrid⟩ := hst.out.drew.drew.book.grid (by omega)
      obtain ⟨v0, oki, he⟩ := hgrid t ht
      have HE := Aside0.mk he
      obtain ⟨zt, hzt⟩ : ∃ zt : Int, zt = (t : Int) := ⟨_, rfl⟩
      have htz : zt.toNat = t := by omega
      have hcm := clear_mid hmid.out
      have HCM := Aside0.mk hcm
      have HT := Aside0.mk (hst.out.drew.drew.take he hown hrow)
      have KD := Aside0.mk (hk.out.trans (KeepB.of_below (g := g) (P := P) (below_drew (below_drew (Below.refl wr.heap.size wr)))))
      have hcg : wr.drew.drew.cell? ⟨g, 0, none⟩ = some (.slice (some ⟨gr, 0, none⟩) N c) := by rw [← hlen.out]; exact (blk_cell hg 0).trans rfl
      have hc4 := he.c4
      have z4 := he.fr 4
      rw [← htz] at hc4 z4
      rw [← hzt] at hcq
      have C0 := Aside0.mk hcg
      have CQ := Aside0.mk hcq
      have C4 := Aside0.mk hc4
      have qn : decide ((n : Int) > 0) = true := by simp; omega
      have qn2 : decide (0 < n) = true := by simp; omega
      have p0 : 0 ≤ zt := by omega
      have p1 : zt < (N : Int) := by have := hlen.out; omega
      have pn : 0 < (n : Int) := by omega
      have pn2 : 0 < n := by omega
      have HZT := Aside0.mk htz
      have HTN := Aside0.mk ht
      clear hq hp2 hvt hgrid he hg hcm hown hrow hcg hcq hn htz hzt ht hk
      replace p0 := eq_true p0
      replace p1 := eq_true p1
      replace pn := eq_true pn
      replace pn2 := eq_true pn2
      go_upto_region 8 with (fail)
      clear qn qn2
      refine start_ (n := 11) (S := fun w' => w'.cell? ⟨g, 0, none⟩ = some (.slice (some ⟨gr, 0, none⟩) N c) ∧ w'.cell? ⟨gq, o, none⟩ = some (.int .i64 zt) ∧ w'.cell? ⟨gr, zt.toNat * 5 + 4, none⟩ = some v0) (ds := []) #[false, false, false, false, false, false, false, false, false, false, false] (by kernel_rfl) rfl rfl ⟨C0.out, CQ.out, C4.out⟩ (fun hHeld => ?_)
      refine pure_ (i := 0) (N := some 61) (v := ?_) (a' := ?_) #[true, false, false, false, false, false, false, false, false, false, false] rfl rfl (by kernel_rfl) (fun _ _ _ h => h) (Or.inl ⟨by rfl, ?_⟩) ?_ ?_
      rotate_left
      · intro w'
        go_simp
        with_reducible rfl
      rotate_left
      · simp only [Act.put, List.setIfInBounds_toArray, List.set_cons_zero, List.set_cons_succ, i64_w, i32_w]
        rfl
      refine pure_ (i := 1) (N := some 62) (v := ?_) (a' := ?_) #[true, true, false, false, false, false, false, false, false, false, false] rfl rfl (by kernel_rfl) (fun _ _ _ h => h) (Or.inl ⟨by rfl, ?_⟩) ?_ ?_
      rotate_left
      · intro w'
        go_simp
        with_reducible rfl
      rotate_left
      · simp only [Act.put, List.setIfInBounds_toArray, List.set_cons_zero, List.set_cons_succ, i64_w, i32_w]
        rfl
      refine pure_ (i := 2) (N := some 63) (v := ?_) (a' := ?_) #[true, true, true, false, false, false, false, false, false, false, false] rfl rfl (by kernel_rfl) (fun _ _ _ h => h) (Or.inl ⟨by rfl, ?_⟩) ?_ ?_
      rotate_left
      · intro w'
        go_simp
        with_reducible rfl
      rotate_left
      · simp only [Act.put, List.setIfInBounds_toArray, List.set_cons_zero, List.set_cons_succ, i64_w, i32_w]
        rfl
      refine pure_ (i := 4) (N := some 65) (v := ?_) (a' := ?_) #[true, true, true, false, true, false, false, false, false, false, false] rfl rfl (by kernel_rfl) (fun _ _ _ h => h) (Or.inl ⟨by rfl, ?_⟩) ?_ ?_
      rotate_left
      · intro w'
        go_simp
        with_reducible rfl
      rotate_left
      · simp only [Act.put, List.setIfInBounds_toArray, List.set_cons_zero, List.set_cons_succ, i64_w, i32_w]
        rfl
      refine pure_ (i := 5) (N := some 66) (v := ?_) (a' := ?_) #[true, true, true, false, true, true, false, false, false, false, false] rfl rfl (by kernel_rfl) (fun _ _ _ h => h) (Or.inl ⟨by rfl, ?_⟩) ?_ ?_
      rotate_left
      · intro w'
        go_simp
        with_reducible rfl
      rotate_left
      · simp only [Act.put, List.setIfInBounds_toArray, List.set_cons_zero, List.set_cons_succ, i64_w, i32_w]
        rfl
      refine take_ (i := 3) (N := some 64) (v := ?_) (a' := ?_) #[true, true, true, true, true, true, false, false, false, false, false] rfl rfl (by kernel_rfl) (fun _ _ _ h => h) (Or.inl ⟨by rfl, ?_⟩) hHeld ?_ ?_
      rotate_left
      · rintro w' ⟨s0, s1, s2⟩
        go_simp
        with_reducible rfl
      rotate_left
      · simp only [Act.put, List.setIfInBounds_toArray, List.set_cons_zero, List.set_cons_succ, i64_w, i32_w]
        rfl
      refine take_ (i := 6) (N := some 67) (v := ?_) (a' := ?_) #[true, true, true, true, true, true, true, false, false, false, false] rfl rfl (by kernel_rfl) (fun _ _ _ h => h) (Or.inl ⟨by rfl, ?_⟩) hHeld ?_ ?_
      rotate_left
      · rintro w' ⟨s0, s1, s2⟩
        go_simp
        with_reducible rfl
      rotate_left
      · simp only [Act.put, List.setIfInBounds_toArray, List.set_cons_zero, List.set_cons_succ, i64_w, i32_w]
        rfl
      refine pure_ (i := 7) (N := some 68) (v := ?_) (a' := ?_) #[true, true, true, true, true, true, true, true, false, false, false] rfl rfl (by kernel_rfl) (fun _ _ _ h => h) (Or.inl ⟨by rfl, ?_⟩) ?_ ?_
      rotate_left
      · intro w'
        go_simp
        with_reducible rfl
      rotate_left
      · simp only [Act.put, List.setIfInBounds_toArray, List.set_cons_zero, List.set_cons_succ, i64_w, i32_w]
        rfl
      refine pure_ (i := 8) (N := some 69) (v := ?_) (a' := ?_) #[true, true, true, true, true, true, true, true, true, false, false] rfl rfl (by kernel_rfl) (fun _ _ _ h => h) (Or.inl ⟨by rfl, ?_⟩) ?_ ?_
      rotate_left
      · intro w'
        go_simp
        with_reducible rfl
      rotate_left
      · simp only [Act.put, List.setIfInBounds_toArray, List.set_cons_zero, List.set_cons_succ, i64_w, i32_w]
        rfl
      refine take_ (i := 9) (N := some 70) (v := ?_) (a' := ?_) #[true, true, true, true, true, true, true, true, true, true, false] rfl rfl (by kernel_rfl) (fun _ _ _ h => h) (Or.inl ⟨by rfl, ?_⟩) hHeld ?_ ?_
      rotate_left
      · rintro w' ⟨s0, s1, s2⟩
        go_simp
        with_reducible rfl
      rotate_left
      · simp only [Act.put, List.setIfInBounds_toArray, List.set_cons_zero, List.set_cons_succ, i64_w, i32_w]
        rfl
      refine pure_ (i := 10) (N := some 8) (v := ?_) (a' := ?_) #[true, true, true, true, true, true, true, true, true, true, true] rfl rfl (by kernel_rfl) (fun _ _ _ h => h) (Or.inl ⟨by rfl, ?_⟩) ?_ ?_
      rotate_left
      · intro w'
        go_simp
        with_reducible rfl
      rotate_left
      · simp only [Act.put, List.setIfInBounds_toArray, List.set_cons_zero, List.set_cons_succ, i64_w, i32_w]
        rfl
      refine done_ (by kernel_rfl) ?_
      go_upto_region 9 with (fail)
      refine start_ (n := 13) (S := fun w' => w'.cell? ⟨g, 0, none⟩ = some (.slice (some ⟨gr, 0, none⟩) N c) ∧ w'.cell? ⟨gq, o, none⟩ = some (.int .i64 zt)) (ds := [11]) #[false, false, false, false, false, false, false, false, false, false, false, false, false] (by kernel_rfl) rfl rfl ⟨C0.out, CQ.out⟩ (fun hHeld => ?_)
      generalize hwd_ : wr.drew.drew = wD at HT KD C0 CQ hc4 z4 hHeld ⊢
      clear hwd_
      refine pure_ (i := 0) (N := some 71) (v := ?_) (a' := ?_) #[true, false, false, false, false, false, false, false, false, false, false, false, false] rfl rfl (by kernel_rfl) (fun _ _ _ h => h) (Or.inl ⟨by rfl, ?_⟩) ?_ ?_
      rotate_left
      · intro w'
        go_simp
        with_reducible rfl
      rotate_left
      · simp only [Act.put, List.setIfInBounds_toArray, List.set_cons_zero, List.set_cons_succ, i64_w, i32_w]
        rfl
      refine pure_ (i := 1) (N := some 72) (v := ?_) (a' := ?_) #[true, true, false, false, false, false, false, false, false, false, false, false, false] rfl rfl (by kernel_rfl) (fun _ _ _ h => h) (Or.inl ⟨by rfl, ?_⟩) ?_ ?_
      rotate_left
      · intro w'
        go_simp
        with_reducible rfl
      rotate_left
      · simp only [Act.put, List.setIfInBounds_toArray, List.set_cons_zero, List.set_cons_succ, i64_w, i32_w]
        rfl
      refine pure_ (i := 2) (N := some 73) (v := ?_) (a' := ?_) #[true, true, true, false, false, false, false, false, false, false, false, false, false] rfl rfl (by kernel_rfl) (fun _ _ _ h => h) (Or.inl ⟨by rfl, ?_⟩) ?_ ?_
      rotate_left
      · intro w'
        go_simp
        with_reducible rfl
      rotate_left
      · simp only [Act.put, List.setIfInBounds_toArray, List.set_cons_zero, List.set_cons_succ, i64_w, i32_w]
        rfl
      refine pure_ (i := 4) (N := some 75) (v := ?_) (a' := ?_) #[true, true, true, false, true, false, false, false, false, false, false, false, false] rfl rfl (by kernel_rfl) (fun _ _ _ h => h) (Or.inl ⟨by rfl, ?_⟩) ?_ ?_
      rotate_left
      · intro w'
        go_simp
        with_reducible rfl
      rotate_left
      · simp only [Act.put, List.setIfInBounds_toArray, List.set_cons_zero, List.set_cons_succ, i64_w, i32_w]
        rfl
      refine pure_ (i := 5) (N := some 76) (v := ?_) (a' := ?_) #[true, true, true, false, true, true, false, false, false, false, false, false, false] rfl rfl (by kernel_rfl) (fun _ _ _ h => h) (Or.inl ⟨by rfl, ?_⟩) ?_ ?_
      rotate_left
      · intro w'
        go_simp
        with_reducible rfl
      rotate_left
      · simp only [Act.put, List.setIfInBounds_toArray, List.set_cons_zero, List.set_cons_succ, i64_w, i32_w]
        rfl
      refine pure_ (i := 7) (N := some 78) (v := ?_) (a' := ?_) #[true, true, true, false, true, true, false, true, false, false, false, false, false] rfl rfl (by kernel_rfl) (fun _ _ _ h => h) (Or.inl ⟨by rfl, ?_⟩) ?_ ?_
      rotate_left
      · intro w'
        go_simp
        with_reducible rfl
      rotate_left
      · simp only [Act.put, List.setIfInBounds_toArray, List.set_cons_zero, List.set_cons_succ, i64_w, i32_w]
        rfl
      refine pure_ (i := 8) (N := some 79) (v := ?_) (a' := ?_) #[true, true, true, false, true, true, false, true, true, false, false, false, false] rfl rfl (by kernel_rfl) (fun _ _ _ h => h) (Or.inl ⟨by rfl, ?_⟩) ?_ ?_
      rotate_left
      · intro w'
        go_simp
        with_reducible rfl
      rotate_left
      · simp only [Act.put, List.setIfInBounds_toArray, List.set_cons_zero, List.set_cons_succ, i64_w, i32_w]
        rfl
      refine take_ (i := 3) (N := some 74) (v := ?_) (a' := ?_) #[true, true, true, true, true, true, false, true, true, false, false, false, false] rfl rfl (by kernel_rfl) (fun _ _ _ h => h) (Or.inl ⟨by rfl, ?_⟩) hHeld ?_ ?_
      rotate_left
      · rintro w' ⟨s0, s1⟩
        go_simp
        with_reducible rfl
      rotate_left
      · simp only [Act.put, List.setIfInBounds_toArray, List.set_cons_zero, List.set_cons_succ, i64_w, i32_w]
        rfl
      refine take_ (i := 6) (N := some 77) (v := ?_) (a' := ?_) #[true, true, true, true, true, true, true, true, true, false, false, false, false] rfl rfl (by kernel_rfl) (fun _ _ _ h => h) (Or.inl ⟨by rfl, ?_⟩) hHeld ?_ ?_
      rotate_left
      · rintro w' ⟨s0, s1⟩
        go_simp
        with_reducible rfl
      rotate_left
      · simp only [Act.put, List.setIfInBounds_toArray, List.set_cons_zero, List.set_cons_succ, i64_w, i32_w]
        rfl
      refine pure_ (i := 9) (N := some 80) (v := ?_) (a' := ?_) #[true, true, true, true, true, true, true, true, true, true, false, false, false] rfl rfl (by kernel_rfl) (fun _ _ _ h => h) (Or.inl ⟨by rfl, ?_⟩) ?_ ?_
      rotate_left
      · intro w'
        go_simp
        with_reducible rfl
      rotate_left
      · simp only [Act.put, List.setIfInBounds_toArray, List.set_cons_zero, List.set_cons_succ, i64_w, i32_w]
        rfl
      refine pure_ (i := 10) (N := some 81) (v := ?_) (a' := ?_) #[true, true, true, true, true, true, true, true, true, true, true, false, false] rfl rfl (by kernel_rfl) (fun _ _ _ h => h) (Or.inl ⟨by rfl, ?_⟩) ?_ ?_
      rotate_left
      · intro w'
        go_simp
        with_reducible rfl
      rotate_left
      · simp only [Act.put, List.setIfInBounds_toArray, List.set_cons_zero, List.set_cons_succ, i64_w, i32_w]
        rfl
      refine last_ (i := 11) (N := none) #[true, true, true, true, true, true, true, true, true, true, true, true, false] rfl rfl (by kernel_rfl) (by decide) (fun K hK => ?_)
      refine skip_ (w1 := ?_) (by rfl) rfl ?_ ?_
      rotate_left
      · go_simp
        rfl
      rw [← HZT.out] at HT
      generalize hwV : World.setCell _ _ _ = wV at HT ⊢
      clear hwV z4 hc4
      refine hK.out _ _ ?_
      clear hK K
      refine pure_ (i := 12) (N := some 7) (v := ?_) (a' := ?_) #[true, true, true, true, true, true, true, true, true, true, true, true, true] rfl rfl (by kernel_rfl) (fun _ _ _ h => h) (Or.inl ⟨by rfl, ?_⟩) ?_ ?_
      rotate_left
      · intro w'
        go_simp
        with_reducible rfl
      rotate_left
      · simp only [Act.put, List.setIfInBounds_toArray, List.set_cons_zero, List.set_cons_succ, i64_w, i32_w]
        rfl
      refine done_ (by kernel_rfl) ?_
      rw [HZT.out] at HT
      obtain ⟨hst2, hk2, A0, c0, e0, hF0⟩ := HT.out
      obtain ⟨us, hus⟩ : ∃ us, us = (gT L2 t).ups := ⟨_, rfl⟩
      rw [← hus] at e0 hF0 HP2 HCM
      obtain ⟨n2, hn2⟩ : ∃ n2, n2 = us.length := ⟨_, rfl⟩
      rw [← hn2] at e0 hF0
      subst e0
      have ST2 := Aside0.mk hst2
      have F2 := Aside0.mk hF0
      have HNU := Aside0.mk hn2
      have K2 := Aside0.mk (KD.out.trans hk2)
      have M2 := Aside0.mk HCM.out.1
      have L2l : Aside0 ((clear L2 t).length = N) := ⟨by rw [← hlen.out]; exact List.length_set⟩
      have MN2 : Aside0 (ts.length + unk (clear L2 t) ≤ N + 1) := ⟨by have h1 := hmany.out; simp only [List.length_cons] at h1; rw [HCM.out.2.2]; omega⟩
      have n2l : n2 < 4000000 := by have h1 := hmid.out.many t; rw [← hus] at h1; have := hlen.out; have := HL.out; have := HN.out; omega
      have HN2L := Aside0.mk n2l
      clear HT hst2 hk2 hF0 hus hn2 KD C0 CQ C4 HE HCM hsl p0 p1 pn pn2 n2l hst hmid
      go_wp2_with fail
      go_loopg [7, 84] n2 (fun kq2 v7 v84 w' => ∃ (i : Nat) (L3 : List T) (todo : List Nat), Aside0 (kq2 + i = n2) ∧ v84 = .int .i64 (i : Int) ∧ Aside0 (inner (clear L2 t) ts us = inner L3 todo (us.drop i)) ∧ Aside0 (Mid L3 todo (us.drop i)) ∧ Aside0 (L3.length = N) ∧ Aside0 (todo.length + unk L3 ≤ N + 1) ∧ Aside0 (SetSt w0 w' g P (.slice A0 n2 c0) v7 L3 todo) ∧ Aside0 (Kd.F (Kd.int .i64) w' (fun k => some k = (Value.slice A0 n2 c0).ownBlock) A0 n2 (nats us)) ∧ Aside0 (KeepB g P w w'))
      case atStart => exact ⟨0, _, _, ⟨by omega⟩, rfl, ⟨rfl⟩, M2, L2l, MN2, ST2, F2, K2⟩
      case round =>
        clear ST2 F2 K2 M2 L2l MN2
        obtain ⟨i, L3, todo, hi, rfl, hin, hmid, hlen3, hmany3, hst, hF, hk⟩ := hrel
        by_cases c5 : i < n2
        · obtain ⟨zi, hzi⟩ : ∃ zi : Int, zi = (i : Int) := ⟨_, rfl⟩
          have i0 : 0 ≤ zi := by omega
          have i1 : zi < (n2 : Int) := by omega
          have hiu : i < us.length := by have := HNU.out; omega
          obtain ⟨ad, rfl, hcu⟩ := F_cell hF.out zi i0 i1
          obtain ⟨u, hu⟩ : ∃ u, u = us.getD i 0 := ⟨_, rfl⟩
          have hdr : us.drop i = u :: us.drop (i + 1) := by rw [hu]; exact drop_nat us i hiu
          have hru : rd (nats us) zi = (u : Int) := by rw [hzi, hu]; exact rd_nats us i hiu
          obtain ⟨zu, hzu⟩ : ∃ zu : Int, zu = (u : Int) := ⟨_, rfl⟩
          have hzun : zu.toNat = u := by omega
          rw [hru, ← hzu] at hcu
          rw [hdr] at hin hmid
          obtain ⟨huN, hum⟩ := hmid.out.rem u (List.mem_cons_self)
          have hpar := hmid.out.parts u huN hum
          have hkin := hmid.out.kinds u huN
          obtain ⟨gr, c, hg, hgrid⟩ := hst.out.drew.book.grid (by omega)
          obtain ⟨v0, oki, he⟩ := hgrid u huN
          have hcg : wr.cell? ⟨g, 0, none⟩ = some (.slice (some ⟨gr, 0, none⟩) N c) := by rw [← hlen3.out]; exact (blk_cell (w := wr.drew) hg 0).trans rfl
          obtain ⟨val, hval⟩ : ∃ val : Int, val = ((gT L3 u).val : Nat) := ⟨_, rfl⟩
          have hc1 : wr.cell? ⟨gr, zu.toNat * 5 + 1, none⟩ = some (.int .i64 val) := by rw [hzun, hval]; exact he.c1
          have I1 := Aside0.mk (show zi + 1 = ((i + 1 : Nat) : Int) by omega)
          have HI1 := Aside0.mk (show 0 ≤ zi ∧ zi < 5000000 by have := HN2L.out; omega)
          have C5 := Aside0.mk c5
          have q5 : decide (zi < (n2 : Int)) = true := decide_eq_true i1
          have u0 : 0 ≤ zu := by omega
          have u1 : zu < (N : Int) := by have := hlen3.out; omega
          rw [← hzi]
          by_cases hv : (gT L3 u).val = 0
          · have hv0 : val = 0 := by omega
            subst hv0
            obtain ⟨vx, okx, hex⟩ := hgrid (gT L3 u).x (by omega)
            obtain ⟨vy, oky, hey⟩ := hgrid (gT L3 u).y (by omega)
            obtain ⟨zm, hzm⟩ : ∃ z : Int, z = ((gT L3 u).made : Nat) := ⟨_, rfl⟩
            obtain ⟨zx, hzx⟩ : ∃ z : Int, z = ((gT L3 u).x : Nat) := ⟨_, rfl⟩
            obtain ⟨zy, hzy⟩ : ∃ z : Int, z = ((gT L3 u).y : Nat) := ⟨_, rfl⟩
            obtain ⟨zvx, hzvx⟩ : ∃ z : Int, z = ((gT L3 (gT L3 u).x).val : Nat) := ⟨_, rfl⟩
            obtain ⟨zvy, hzvy⟩ : ∃ z : Int, z = ((gT L3 (gT L3 u).y).val : Nat) := ⟨_, rfl⟩
            obtain ⟨qv, hqv⟩ : ∃ q, q = worth (gT L3 u).made (gT L3 (gT L3 u).x).val (gT L3 (gT L3 u).y).val := ⟨_, rfl⟩
            have hW := worth_calls (gT L3 u).made (gT L3 (gT L3 u).x).val (gT L3 (gT L3 u).y).val (by omega) (hmid.out.le _) (hmid.out.le _) wr.drew
            rw [← hqv, ← hzm, ← hzvx, ← hzvy] at hW
            have HW := Aside0.mk hW
            have cm : wr.drew.cell? ⟨gr, zu.toNat * 5, none⟩ = some (.int .i64 zm) := by rw [hzun, hzm]; exact he.c0
            have cx : wr.drew.cell? ⟨gr, zu.toNat * 5 + 2, none⟩ = some (.int .i64 zx) := by rw [hzun, hzx]; exact he.c2
            have cy : wr.drew.cell? ⟨gr, zu.toNat * 5 + 3, none⟩ = some (.int .i64 zy) := by rw [hzun, hzy]; exact he.c3
            have cvx : wr.drew.cell? ⟨gr, zx.toNat * 5 + 1, none⟩ = some (.int .i64 zvx) := by rw [show zx.toNat = (gT L3 u).x by omega, hzvx]; exact hex.c1
            have cvy : wr.drew.cell? ⟨gr, zy.toNat * 5 + 1, none⟩ = some (.int .i64 zvy) := by rw [show zy.toNat = (gT L3 u).y by omega, hzvy]; exact hey.c1
            have hcgd : wr.drew.cell? ⟨g, 0, none⟩ = some (.slice (some ⟨gr, 0, none⟩) N c) := hcg
            have hc1d : wr.drew.cell? ⟨gr, zu.toNat * 5 + 1, none⟩ = some (.int .i64 0) := hc1
            have hz1d : wr.drew.frozen? ⟨gr, zu.toNat * 5 + 1, none⟩ = false := by rw [hzun]; exact he.fr 1
            have CG := Aside0.mk hcgd
            have CM := Aside0.mk cm
            have CX := Aside0.mk cx
            have CY := Aside0.mk cy
            have CVX := Aside0.mk cvx
            have CVY := Aside0.mk cvy
            have C1 := Aside0.mk hc1d
            have Z1 := Aside0.mk hz1d
            have HE := Aside0.mk he
            have HZU := Aside0.mk hzun
            have HZI := Aside0.mk hzu
            have HV := Aside0.mk hv
            have HQV := Aside0.mk hqv
            have HDR := Aside0.mk hdr
            have HUN := Aside0.mk huN
            have xb : 0 ≤ zx ∧ zx < (N : Int) := by have := hlen3.out; omega
            have yb : 0 ≤ zy ∧ zy < (N : Int) := by have := hlen3.out; omega
            obtain ⟨x0, x1⟩ := xb
            obtain ⟨y0, y1⟩ := yb
            have hp := hst.out.drew.put he (he.put1 qv).1 (he.put1 qv).2
            have HPut := Aside0.mk hp
            have hgx := blk_far hg (p := ⟨gr, u * 5 + 1, none⟩) (fun he2 => he.ne he2.symm) (.int .i64 (qv : Int))
            have HGX := Aside0.mk hgx
            have KD := Aside0.mk (hk.out.trans (KeepB.of_below (g := g) (P := P) (below_drew (Below.refl wr.heap.size wr))))
            have HF2 := Aside0.mk (Kd.F_grown (Kd.F_drew hF.out) (he.put1 qv).2 (fun k hk he2 => he.Pg.2.2 (by rw [← he2]; exact hk)))
            obtain ⟨zq, hzq⟩ : ∃ z : Int, z = (qv : Nat) := ⟨_, rfl⟩
            rw [← hzq] at HW HPut HGX HF2
            have HZQ := Aside0.mk hzq
            clear hp hgx hzq hW hgrid hex hey hzm hzx hzy hzvx hzvy hqv cm cx cy cvx cvy hcgd hc1d hz1d he hg hzun hzu hv hdr huN hum hpar hkin hzi hiu hu hru c5 hval
            replace i0 := eq_true i0
            replace i1 := eq_true i1
            replace u0 := eq_true u0
            replace u1 := eq_true u1
            replace x0 := eq_true x0
            replace x1 := eq_true x1
            replace y0 := eq_true y0
            replace y1 := eq_true y1
            go_upto_region 15 with (fail)
            clear hcg hc1 q5 i0 i1 hcu
            have hc1d := C1.out
            have hz1d := Z1.out
            refine start_ (n := 31) (S := fun w' => w'.cell? ⟨g, 0, none⟩ = some (.slice (some ⟨gr, 0, none⟩) N c) ∧ w'.cell? ⟨gr, zu.toNat * 5, none⟩ = some (.int .i64 zm) ∧ w'.cell? ⟨gr, zu.toNat * 5 + 2, none⟩ = some (.int .i64 zx) ∧ w'.cell? ⟨gr, zu.toNat * 5 + 3, none⟩ = some (.int .i64 zy) ∧ w'.cell? ⟨gr, zx.toNat * 5 + 1, none⟩ = some (.int .i64 zvx) ∧ w'.cell? ⟨gr, zy.toNat * 5 + 1, none⟩ = some (.int .i64 zvy)) (ds := [30]) #[false, false, false, false, false, false, false, false, false, false, false, false, false, false, false, false, false, false, false, false, false, false, false, false, false, false, false, false, false, false, false] (by kernel_rfl) rfl rfl ⟨CG.out, CM.out, CX.out, CY.out, CVX.out, CVY.out⟩ (fun hHeld => ?_)
            generalize hwd_ : wr.drew = wD at HPut HGX HF2 HW KD CG CM CX CY CVX CVY C1 Z1 hc1d hz1d HE hHeld ⊢
            clear hwd_
            refine pure_ (i := 0) (N := some 99) (v := ?_) (a' := ?_) #[true, false, false, false, false, false, false, false, false, false, false, false, false, false, false, false, false, false, false, false, false, false, false, false, false, false, false, false, false, false, false] rfl rfl (by kernel_rfl) (fun _ _ _ h => h) (Or.inl ⟨by rfl, ?_⟩) ?_ ?_
            rotate_left
            · intro w'
              go_simp
              with_reducible rfl
            rotate_left
            · simp only [Act.put, List.setIfInBounds_toArray, List.set_cons_zero, List.set_cons_succ, i64_w, i32_w]
              rfl
            refine pure_ (i := 1) (N := some 100) (v := ?_) (a' := ?_) #[true, true, false, false, false, false, false, false, false, false, false, false, false, false, false, false, false, false, false, false, false, false, false, false, false, false, false, false, false, false, false] rfl rfl (by kernel_rfl) (fun _ _ _ h => h) (Or.inl ⟨by rfl, ?_⟩) ?_ ?_
            rotate_left
            · intro w'
              go_simp
              with_reducible rfl
            rotate_left
            · simp only [Act.put, List.setIfInBounds_toArray, List.set_cons_zero, List.set_cons_succ, i64_w, i32_w]
              rfl
            refine pure_ (i := 2) (N := some 101) (v := ?_) (a' := ?_) #[true, true, true, false, false, false, false, false, false, false, false, false, false, false, false, false, false, false, false, false, false, false, false, false, false, false, false, false, false, false, false] rfl rfl (by kernel_rfl) (fun _ _ _ h => h) (Or.inl ⟨by rfl, ?_⟩) ?_ ?_
            rotate_left
            · intro w'
              go_simp
              with_reducible rfl
            rotate_left
            · simp only [Act.put, List.setIfInBounds_toArray, List.set_cons_zero, List.set_cons_succ, i64_w, i32_w]
              rfl
            refine pure_ (i := 3) (N := some 102) (v := ?_) (a' := ?_) #[true, true, true, true, false, false, false, false, false, false, false, false, false, false, false, false, false, false, false, false, false, false, false, false, false, false, false, false, false, false, false] rfl rfl (by kernel_rfl) (fun _ _ _ h => h) (Or.inl ⟨by rfl, ?_⟩) ?_ ?_
            rotate_left
            · intro w'
              go_simp
              with_reducible rfl
            rotate_left
            · simp only [Act.put, List.setIfInBounds_toArray, List.set_cons_zero, List.set_cons_succ, i64_w, i32_w]
              rfl
            refine pure_ (i := 5) (N := some 104) (v := ?_) (a' := ?_) #[true, true, true, true, false, true, false, false, false, false, false, false, false, false, false, false, false, false, false, false, false, false, false, false, false, false, false, false, false, false, false] rfl rfl (by kernel_rfl) (fun _ _ _ h => h) (Or.inl ⟨by rfl, ?_⟩) ?_ ?_
            rotate_left
            · intro w'
              go_simp
              with_reducible rfl
            rotate_left
            · simp only [Act.put, List.setIfInBounds_toArray, List.set_cons_zero, List.set_cons_succ, i64_w, i32_w]
              rfl
            refine pure_ (i := 6) (N := some 105) (v := ?_) (a' := ?_) #[true, true, true, true, false, true, true, false, false, false, false, false, false, false, false, false, false, false, false, false, false, false, false, false, false, false, false, false, false, false, false] rfl rfl (by kernel_rfl) (fun _ _ _ h => h) (Or.inl ⟨by rfl, ?_⟩) ?_ ?_
            rotate_left
            · intro w'
              go_simp
              with_reducible rfl
            rotate_left
            · simp only [Act.put, List.setIfInBounds_toArray, List.set_cons_zero, List.set_cons_succ, i64_w, i32_w]
              rfl
            refine pure_ (i := 7) (N := some 106) (v := ?_) (a' := ?_) #[true, true, true, true, false, true, true, true, false, false, false, false, false, false, false, false, false, false, false, false, false, false, false, false, false, false, false, false, false, false, false] rfl rfl (by kernel_rfl) (fun _ _ _ h => h) (Or.inl ⟨by rfl, ?_⟩) ?_ ?_
            rotate_left
            · intro w'
              go_simp
              with_reducible rfl
            rotate_left
            · simp only [Act.put, List.setIfInBounds_toArray, List.set_cons_zero, List.set_cons_succ, i64_w, i32_w]
              rfl
            refine pure_ (i := 9) (N := some 108) (v := ?_) (a' := ?_) #[true, true, true, true, false, true, true, true, false, true, false, false, false, false, false, false, false, false, false, false, false, false, false, false, false, false, false, false, false, false, false] rfl rfl (by kernel_rfl) (fun _ _ _ h => h) (Or.inl ⟨by rfl, ?_⟩) ?_ ?_
            rotate_left
            · intro w'
              go_simp
              with_reducible rfl
            rotate_left
            · simp only [Act.put, List.setIfInBounds_toArray, List.set_cons_zero, List.set_cons_succ, i64_w, i32_w]
              rfl
            refine pure_ (i := 10) (N := some 109) (v := ?_) (a' := ?_) #[true, true, true, true, false, true, true, true, false, true, true, false, false, false, false, false, false, false, false, false, false, false, false, false, false, false, false, false, false, false, false] rfl rfl (by kernel_rfl) (fun _ _ _ h => h) (Or.inl ⟨by rfl, ?_⟩) ?_ ?_
            rotate_left
            · intro w'
              go_simp
              with_reducible rfl
            rotate_left
            · simp only [Act.put, List.setIfInBounds_toArray, List.set_cons_zero, List.set_cons_succ, i64_w, i32_w]
              rfl
            refine pure_ (i := 11) (N := some 110) (v := ?_) (a' := ?_) #[true, true, true, true, false, true, true, true, false, true, true, true, false, false, false, false, false, false, false, false, false, false, false, false, false, false, false, false, false, false, false] rfl rfl (by kernel_rfl) (fun _ _ _ h => h) (Or.inl ⟨by rfl, ?_⟩) ?_ ?_
            rotate_left
            · intro w'
              go_simp
              with_reducible rfl
            rotate_left
            · simp only [Act.put, List.setIfInBounds_toArray, List.set_cons_zero, List.set_cons_succ, i64_w, i32_w]
              rfl
            refine pure_ (i := 16) (N := some 115) (v := ?_) (a' := ?_) #[true, true, true, true, false, true, true, true, false, true, true, true, false, false, false, false, true, false, false, false, false, false, false, false, false, false, false, false, false, false, false] rfl rfl (by kernel_rfl) (fun _ _ _ h => h) (Or.inl ⟨by rfl, ?_⟩) ?_ ?_
            rotate_left
            · intro w'
              go_simp
              with_reducible rfl
            rotate_left
            · simp only [Act.put, List.setIfInBounds_toArray, List.set_cons_zero, List.set_cons_succ, i64_w, i32_w]
              rfl
            refine pure_ (i := 17) (N := some 116) (v := ?_) (a' := ?_) #[true, true, true, true, false, true, true, true, false, true, true, true, false, false, false, false, true, true, false, false, false, false, false, false, false, false, false, false, false, false, false] rfl rfl (by kernel_rfl) (fun _ _ _ h => h) (Or.inl ⟨by rfl, ?_⟩) ?_ ?_
            rotate_left
            · intro w'
              go_simp
              with_reducible rfl
            rotate_left
            · simp only [Act.put, List.setIfInBounds_toArray, List.set_cons_zero, List.set_cons_succ, i64_w, i32_w]
              rfl
            refine pure_ (i := 18) (N := some 117) (v := ?_) (a' := ?_) #[true, true, true, true, false, true, true, true, false, true, true, true, false, false, false, false, true, true, true, false, false, false, false, false, false, false, false, false, false, false, false] rfl rfl (by kernel_rfl) (fun _ _ _ h => h) (Or.inl ⟨by rfl, ?_⟩) ?_ ?_
            rotate_left
            · intro w'
              go_simp
              with_reducible rfl
            rotate_left
            · simp only [Act.put, List.setIfInBounds_toArray, List.set_cons_zero, List.set_cons_succ, i64_w, i32_w]
              rfl
            refine pure_ (i := 20) (N := some 119) (v := ?_) (a' := ?_) #[true, true, true, true, false, true, true, true, false, true, true, true, false, false, false, false, true, true, true, false, true, false, false, false, false, false, false, false, false, false, false] rfl rfl (by kernel_rfl) (fun _ _ _ h => h) (Or.inl ⟨by rfl, ?_⟩) ?_ ?_
            rotate_left
            · intro w'
              go_simp
              with_reducible rfl
            rotate_left
            · simp only [Act.put, List.setIfInBounds_toArray, List.set_cons_zero, List.set_cons_succ, i64_w, i32_w]
              rfl
            refine pure_ (i := 21) (N := some 120) (v := ?_) (a' := ?_) #[true, true, true, true, false, true, true, true, false, true, true, true, false, false, false, false, true, true, true, false, true, true, false, false, false, false, false, false, false, false, false] rfl rfl (by kernel_rfl) (fun _ _ _ h => h) (Or.inl ⟨by rfl, ?_⟩) ?_ ?_
            rotate_left
            · intro w'
              go_simp
              with_reducible rfl
            rotate_left
            · simp only [Act.put, List.setIfInBounds_toArray, List.set_cons_zero, List.set_cons_succ, i64_w, i32_w]
              rfl
            refine pure_ (i := 22) (N := some 121) (v := ?_) (a' := ?_) #[true, true, true, true, false, true, true, true, false, true, true, true, false, false, false, false, true, true, true, false, true, true, true, false, false, false, false, false, false, false, false] rfl rfl (by kernel_rfl) (fun _ _ _ h => h) (Or.inl ⟨by rfl, ?_⟩) ?_ ?_
            rotate_left
            · intro w'
              go_simp
              with_reducible rfl
            rotate_left
            · simp only [Act.put, List.setIfInBounds_toArray, List.set_cons_zero, List.set_cons_succ, i64_w, i32_w]
              rfl
            refine take_ (i := 4) (N := some 103) (v := ?_) (a' := ?_) #[true, true, true, true, true, true, true, true, false, true, true, true, false, false, false, false, true, true, true, false, true, true, true, false, false, false, false, false, false, false, false] rfl rfl (by kernel_rfl) (fun _ _ _ h => h) (Or.inl ⟨by rfl, ?_⟩) hHeld ?_ ?_
            rotate_left
            · rintro w' ⟨s0, s1, s2, s3, s4, s5⟩
              go_simp
              with_reducible rfl
            rotate_left
            · simp only [Act.put, List.setIfInBounds_toArray, List.set_cons_zero, List.set_cons_succ, i64_w, i32_w]
              rfl
            refine take_ (i := 8) (N := some 107) (v := ?_) (a' := ?_) #[true, true, true, true, true, true, true, true, true, true, true, true, false, false, false, false, true, true, true, false, true, true, true, false, false, false, false, false, false, false, false] rfl rfl (by kernel_rfl) (fun _ _ _ h => h) (Or.inl ⟨by rfl, ?_⟩) hHeld ?_ ?_
            rotate_left
            · rintro w' ⟨s0, s1, s2, s3, s4, s5⟩
              go_simp
              with_reducible rfl
            rotate_left
            · simp only [Act.put, List.setIfInBounds_toArray, List.set_cons_zero, List.set_cons_succ, i64_w, i32_w]
              rfl
            refine take_ (i := 12) (N := some 111) (v := ?_) (a' := ?_) #[true, true, true, true, true, true, true, true, true, true, true, true, true, false, false, false, true, true, true, false, true, true, true, false, false, false, false, false, false, false, false] rfl rfl (by kernel_rfl) (fun _ _ _ h => h) (Or.inl ⟨by rfl, ?_⟩) hHeld ?_ ?_
            rotate_left
            · rintro w' ⟨s0, s1, s2, s3, s4, s5⟩
              go_simp
              with_reducible rfl
            rotate_left
            · simp only [Act.put, List.setIfInBounds_toArray, List.set_cons_zero, List.set_cons_succ, i64_w, i32_w]
              rfl
            refine pure_ (i := 13) (N := some 112) (v := ?_) (a' := ?_) #[true, true, true, true, true, true, true, true, true, true, true, true, true, true, false, false, true, true, true, false, true, true, true, false, false, false, false, false, false, false, false] rfl rfl (by kernel_rfl) (fun _ _ _ h => h) (Or.inl ⟨by rfl, ?_⟩) ?_ ?_
            rotate_left
            · intro w'
              go_simp
              with_reducible rfl
            rotate_left
            · simp only [Act.put, List.setIfInBounds_toArray, List.set_cons_zero, List.set_cons_succ, i64_w, i32_w]
              rfl
            refine pure_ (i := 14) (N := some 113) (v := ?_) (a' := ?_) #[true, true, true, true, true, true, true, true, true, true, true, true, true, true, true, false, true, true, true, false, true, true, true, false, false, false, false, false, false, false, false] rfl rfl (by kernel_rfl) (fun _ _ _ h => h) (Or.inl ⟨by rfl, ?_⟩) ?_ ?_
            rotate_left
            · intro w'
              go_simp
              with_reducible rfl
            rotate_left
            · simp only [Act.put, List.setIfInBounds_toArray, List.set_cons_zero, List.set_cons_succ, i64_w, i32_w]
              rfl
            refine take_ (i := 15) (N := some 114) (v := ?_) (a' := ?_) #[true, true, true, true, true, true, true, true, true, true, true, true, true, true, true, true, true, true, true, false, true, true, true, false, false, false, false, false, false, false, false] rfl rfl (by kernel_rfl) (fun _ _ _ h => h) (Or.inl ⟨by rfl, ?_⟩) hHeld ?_ ?_
            rotate_left
            · rintro w' ⟨s0, s1, s2, s3, s4, s5⟩
              go_simp
              with_reducible rfl
            rotate_left
            · simp only [Act.put, List.setIfInBounds_toArray, List.set_cons_zero, List.set_cons_succ, i64_w, i32_w]
              rfl
            refine take_ (i := 19) (N := some 118) (v := ?_) (a' := ?_) #[true, true, true, true, true, true, true, true, true, true, true, true, true, true, true, true, true, true, true, true, true, true, true, false, false, false, false, false, false, false, false] rfl rfl (by kernel_rfl) (fun _ _ _ h => h) (Or.inl ⟨by rfl, ?_⟩) hHeld ?_ ?_
            rotate_left
            · rintro w' ⟨s0, s1, s2, s3, s4, s5⟩
              go_simp
              with_reducible rfl
            rotate_left
            · simp only [Act.put, List.setIfInBounds_toArray, List.set_cons_zero, List.set_cons_succ, i64_w, i32_w]
              rfl
            refine take_ (i := 23) (N := some 122) (v := ?_) (a' := ?_) #[true, true, true, true, true, true, true, true, true, true, true, true, true, true, true, true, true, true, true, true, true, true, true, true, false, false, false, false, false, false, false] rfl rfl (by kernel_rfl) (fun _ _ _ h => h) (Or.inl ⟨by rfl, ?_⟩) hHeld ?_ ?_
            rotate_left
            · rintro w' ⟨s0, s1, s2, s3, s4, s5⟩
              go_simp
              with_reducible rfl
            rotate_left
            · simp only [Act.put, List.setIfInBounds_toArray, List.set_cons_zero, List.set_cons_succ, i64_w, i32_w]
              rfl
            refine pure_ (i := 24) (N := some 123) (v := ?_) (a' := ?_) #[true, true, true, true, true, true, true, true, true, true, true, true, true, true, true, true, true, true, true, true, true, true, true, true, true, false, false, false, false, false, false] rfl rfl (by kernel_rfl) (fun _ _ _ h => h) (Or.inl ⟨by rfl, ?_⟩) ?_ ?_
            rotate_left
            · intro w'
              go_simp
              with_reducible rfl
            rotate_left
            · simp only [Act.put, List.setIfInBounds_toArray, List.set_cons_zero, List.set_cons_succ, i64_w, i32_w]
              rfl
            refine pure_ (i := 25) (N := some 124) (v := ?_) (a' := ?_) #[true, true, true, true, true, true, true, true, true, true, true, true, true, true, true, true, true, true, true, true, true, true, true, true, true, true, false, false, false, false, false] rfl rfl (by kernel_rfl) (fun _ _ _ h => h) (Or.inl ⟨by rfl, ?_⟩) ?_ ?_
            rotate_left
            · intro w'
              go_simp
              with_reducible rfl
            rotate_left
            · simp only [Act.put, List.setIfInBounds_toArray, List.set_cons_zero, List.set_cons_succ, i64_w, i32_w]
              rfl
            refine take_ (i := 26) (N := some 125) (v := ?_) (a' := ?_) #[true, true, true, true, true, true, true, true, true, true, true, true, true, true, true, true, true, true, true, true, true, true, true, true, true, true, true, false, false, false, false] rfl rfl (by kernel_rfl) (fun _ _ _ h => h) (Or.inl ⟨by rfl, ?_⟩) hHeld ?_ ?_
            rotate_left
            · rintro w' ⟨s0, s1, s2, s3, s4, s5⟩
              go_simp
              with_reducible rfl
            rotate_left
            · simp only [Act.put, List.setIfInBounds_toArray, List.set_cons_zero, List.set_cons_succ, i64_w, i32_w]
              rfl
            refine one_ (i := 27) (N := some 126) #[true, true, true, true, true, true, true, true, true, true, true, true, true, true, true, true, true, true, true, true, true, true, true, true, true, true, true, true, false, false, false] rfl rfl (by kernel_rfl) (by decide) (fun K hK => ?_)
            refine goes_ Try.func56 (by kernel_rfl) rfl #[.int .i64 zm, .int .i64 zvx, .int .i64 zvy] (by rfl) rfl rfl (by simp only [List.map_toArray, List.map_cons, List.map_nil]; rfl) ?_
            with_reducible refine (HW.out).mono ?_
            rintro e w3 ⟨rfl, rfl⟩
            refine ⟨_, rfl, ?_⟩
            refine hK.out _ _ ⟨CG.out, CM.out, CX.out, CY.out, CVX.out, CVY.out⟩ (fun hHeld => ?_)
            clear hK K
            refine norm_ (a' := ?_) ?_ ?_
            rotate_left
            · show Act.put _ (some 126) _ = _
              simp only [Act.put, List.setIfInBounds_toArray, List.set_cons_zero, List.set_cons_succ, i64_w, i32_w]
              rfl
            refine pure_ (i := 28) (N := some 127) (v := ?_) (a' := ?_) #[true, true, true, true, true, true, true, true, true, true, true, true, true, true, true, true, true, true, true, true, true, true, true, true, true, true, true, true, true, false, false] rfl rfl (by kernel_rfl) (fun _ _ _ h => h) (Or.inl ⟨by rfl, ?_⟩) ?_ ?_
            rotate_left
            · intro w'
              go_simp
              with_reducible rfl
            rotate_left
            · simp only [Act.put, List.setIfInBounds_toArray, List.set_cons_zero, List.set_cons_succ, i64_w, i32_w]
              rfl
            refine pure_ (i := 29) (N := some 128) (v := ?_) (a' := ?_) #[true, true, true, true, true, true, true, true, true, true, true, true, true, true, true, true, true, true, true, true, true, true, true, true, true, true, true, true, true, true, false] rfl rfl (by kernel_rfl) (fun _ _ _ h => h) (Or.inl ⟨by rfl, ?_⟩) ?_ ?_
            rotate_left
            · intro w'
              go_simp
              with_reducible rfl
            rotate_left
            · simp only [Act.put, List.setIfInBounds_toArray, List.set_cons_zero, List.set_cons_succ, i64_w, i32_w]
              rfl
            refine last_ (i := 30) (N := none) #[true, true, true, true, true, true, true, true, true, true, true, true, true, true, true, true, true, true, true, true, true, true, true, true, true, true, true, true, true, true, true] rfl rfl (by kernel_rfl) (by decide) (fun K hK => ?_)
            refine skip_ (w1 := ?_) (by rfl) rfl ?_ ?_
            rotate_left
            · go_simp
              rfl
            rw [← HZU.out] at HPut HGX HF2
            generalize hwX : World.setCell _ _ _ = wX at HPut HGX HF2 ⊢
            clear hwX hc1d hz1d
            refine hK.out _ _ ?_
            clear hK K
            refine done_ (by kernel_rfl) ?_
            rw [HZU.out] at HPut
            have hl4 : (L3.set u ((gT L3 u).setVal qv)).length = L3.length := List.length_set
            obtain ⟨v4, oki4, he4⟩ := HPut.out.1.book.at_ HGX.out u (by rw [hl4]; exact HUN.out)
            have hc4 : wX.cell? ⟨gr, zu.toNat * 5 + 1, none⟩ = some (.int .i64 zq) := by
              have h := he4.c1
              rw [get_set_self _ HUN.out] at h
              rw [HZU.out, HZQ.out]
              exact h
            have K4 := Aside0.mk (KD.out.trans HPut.out.2)
            have ST4 := Aside0.mk HPut.out.1
            have L4 : Aside0 ((L3.set u ((gT L3 u).setVal qv)).length = N) := ⟨by rw [hl4]; exact hlen3.out⟩
            have hq2 : qv ≤ 2 := by rw [HQV.out]; exact worth_le _ _ _
            clear HPut HGX he4 hl4 hk hst hF x0 x1 y0 y1 u0 u1 HW CG CM CX CY CVX CVY C1 Z1 HE
            by_cases hq0 : qv = 0
            · have hz0 : zq = 0 := by have := HZQ.out; omega
              have hin2 : Aside0 (inner (clear L2 t) ts us = inner (L3.set u ((gT L3 u).setVal qv)) todo (us.drop (i + 1))) := ⟨by rw [hin.out, hq0]; exact inner_zero HV.out (by rw [← HQV.out]; exact hq0)⟩
              have hmid2 : Aside0 (Mid (L3.set u ((gT L3 u).setVal qv)) todo (us.drop (i + 1))) := ⟨by rw [hq0, set_zero HV.out]; exact mid_skip hmid.out (.inr (by rw [← HQV.out]; exact hq0))⟩
              have hmn : Aside0 (todo.length + unk (L3.set u ((gT L3 u).setVal qv)) ≤ N + 1) := ⟨by rw [hq0, set_zero HV.out]; exact hmany3.out⟩
              subst hz0
              clear hq0 hq2
              have i0 := HI1.out.1
              have i1 := HI1.out.2
              go_wp2_with fail
              go_roundg (n2 - (i + 1))
              case measure => have := hi.out; have := C5.out; omega
              case rel => exact ⟨i + 1, _, todo, ⟨by have := C5.out; omega⟩, by rw [I1.out], hin2, hmid2, L4, hmn, ST4, HF2, K4⟩
            · have hz0 : (zq != 0) = true := by have := HZQ.out; simp; omega
              have hin2 : Aside0 (inner (clear L2 t) ts us = inner (L3.set u ((gT L3 u).setVal qv)) (todo ++ [u]) (us.drop (i + 1))) := ⟨by rw [hin.out]; exact inner_new HV.out HQV.out hq0⟩
              have hmid2 : Aside0 (Mid (L3.set u ((gT L3 u).setVal qv)) (todo ++ [u]) (us.drop (i + 1))) := ⟨(mid_known hmid.out HV.out qv HQV.out hq0).1⟩
              have hmn : Aside0 ((todo ++ [u]).length + unk (L3.set u ((gT L3 u).setVal qv)) ≤ N + 1) := ⟨by
                have h1 := unk_set HUN.out ((gT L3 u).setVal qv) HV.out hq0
                have h2 := hmany3.out
                rw [List.length_append, List.length_singleton]
                omega⟩
              have hln : Aside0 (((nats todo).length + 1) * 8 ≤ 140737488355328) := ⟨by
                have h2 := hmany3.out
                have h3 := HL.out
                have h4 := HN.out
                simp [nats]
                omega⟩
              clear hq0 hq2
              have HFx : Aside0 (∀ k, wX.heap.size ≤ k → k ≠ g ∧ P k ∧ some k ≠ (Value.slice (some ad) n2 c0).ownBlock) := ⟨fun k hk => ⟨fun he => by have := ST4.out.book.lt; omega, HF.out k (Nat.le_trans K4.out.1 hk), fun he => by have := ST4.out.old k he.symm; omega⟩⟩
              go_wp2_with (first | (at_builtin; refine Kd.Q_append (Kd.int .i64) (w0 := w0) w0.heap.size rfl (.tmp 134) (.tmp 136) 42 3 (.int .i64 0) 8 rfl Try.underlying42 info3 rfl (by decide) (by decide) _ (nats todo) zu [.int .i64 zu] (fun k => k ≠ g ∧ P k ∧ some k ≠ (Value.slice (some ad) n2 c0).ownBlock) (fun _ => False) rfl rfl rfl (fun _ h => h.elim) HFx.out ST4.out.row ST4.out.below ST4.out.below.size hln.out ?_; intro v1 w1 hq hB hgr hat; have hpu := ST4.out.push (x := u) (by rw [← HZI.out]; exact hq) hB hgr hat; have ST5 := Aside0.mk hpu.1; have K5 := Aside0.mk (K4.out.trans hpu.2); have F5 := Aside0.mk (Kd.F_grown HF2.out hgr (fun k hk he2 => (Kd.Q_ok ST4.out.row k he2.symm).2.2 hk)); clear hq hB hgr hat hpu ST4 K4 HF2 hc4; have i0 := HI1.out.1; have i1 := HI1.out.2))
              go_roundg (n2 - (i + 1))
              case measure => have := hi.out; have := C5.out; omega
              case rel => exact ⟨i + 1, _, _, ⟨by have := C5.out; omega⟩, by rw [I1.out], hin2, hmid2, L4, hmn, ST5, F5, K5⟩
          · have hv0 : (val != 0) = true := by simp; omega
            have hin2 : Aside0 (inner (clear L2 t) ts us = inner L3 todo (us.drop (i + 1))) := ⟨by rw [hin.out]; exact inner_known hv⟩
            have hmid2 : Aside0 (Mid L3 todo (us.drop (i + 1))) := ⟨mid_skip hmid.out (.inl hv)⟩
            have HZUN := Aside0.mk hzun
            clear hgrid he hg hzun hzu hv hdr huN hum hpar hkin hzi hiu hu hru c5 hval
            replace i0 := eq_true i0
            replace i1 := eq_true i1
            replace u0 := eq_true u0
            replace u1 := eq_true u1
            have j0 := HI1.out.1
            have j1 := HI1.out.2
            go_wp2_with fail
            go_roundg (n2 - (i + 1))
            case measure => have := hi.out; have := C5.out; omega
            case rel => exact ⟨i + 1, L3, todo, ⟨by have := C5.out; omega⟩, by rw [I1.out], hin2, hmid2, hlen3, hmany3, hst, hF, hk⟩
        · have hin2 : i = us.length := by have := hi.out; have := HNU.out; omega
          have q5 : decide ((i : Int) < (n2 : Int)) = false := by simp; omega
          have hfin : inner (clear L2 t) ts us = (L3, todo) := by have := hin.out; rw [hin2, List.drop_length] at this; exact this
          have hmid3 : Aside0 (Mid L3 todo []) := ⟨by have := hmid.out; rw [hin2, List.drop_length] at this; exact this⟩
          have HP3 : Aside0 (prop q L3 todo = some L') := ⟨by have := HP2.out; rw [hfin] at this; exact this⟩
          obtain ⟨zi, hzi⟩ : ∃ zi : Int, zi = (i : Int) := ⟨_, rfl⟩
          rw [← hzi] at q5 ⊢
          clear hin2 hfin c5 hzi hin hi
          go_wp2_with fail
          go_roundg q
          case measure => have := HQ.out; omega
          case rel => exact ⟨L3, todo, HP3, hmid3, hlen3, hmany3, ⟨hst.out.forget⟩, hk⟩
set_option maxHeartbeats 16000000 in
set_option maxRecDepth 100000 in
theorem set_true (g : Nat) (P : Nat → Prop) (L : List T) (x : Int) (L' : List T) (k : Nat) (w0 w : World) (hI : IsB w0 w g P L) (hf : ∀ k, w.heap.size ≤ k → P k) (hB : Below w0.heap.size w0 w) (hl : L.length < 1000000) (hInv : Inv L)
    (hx0 : 0 ≤ x) (hx1 : x < L.length) (hm : (gT L x.toNat).made = 1) (hp : prop k (Truth.start L x.toNat true) [x.toNat] = some L') :
    Calls Try.prog 37 #[.pointer (some ⟨g, 0, none⟩), .int .i64 x, .bool true] w fun e w' => e = .returned (.bool true) ∧ IsB w0 w' g P L' ∧ Below w0.heap.size w0 w' ∧ KeepB g P w w' := by
  have hmid := start_mid hInv (x := x.toNat) (by omega) hm true
  have HMid := Aside0.mk hmid.1
  have HLs := Aside0.mk hmid.2.2.2.2
  have HP := Aside0.mk hp
  have HF := Aside0.mk hf
  have HL := Aside0.mk hl
  have HX := Aside0.mk (show x.toNat < L.length by omega)
  have HXi := Aside0.mk (show x = (x.toNat : Int) by omega)
  have HUnk := Aside0.mk (unk_le (Truth.start L x.toNat true))
  obtain ⟨gr, c, hg, hgrid⟩ := (hI.drew).grid (by omega)
  obtain ⟨v, oki, he⟩ := hgrid x.toNat (by omega)
  have cm : w.cell? ⟨gr, x.toNat * 5, none⟩ = some (.int .i64 1) := by
    have h := he.c0
    rw [hm] at h
    exact h
  have cg : w.cell? ⟨g, 0, none⟩ = some (.slice (some ⟨gr, 0, none⟩) L.length c) := (blk_cell (w := w.drew) hg 0).trans rfl
  have HE := Aside0.mk he
  have HB := Aside0.mk (below_drew hB)
  have HK := Aside0.mk (KeepB.of_below (g := g) (P := P) (below_drew (Below.refl w.heap.size w)))
  obtain ⟨N, hN⟩ : ∃ N, N = L.length := ⟨_, rfl⟩
  have HN := Aside0.mk hN
  have q0 : decide (x < 0) = false := decide_eq_false (by omega)
  have q1 : decide ((N : Int) ≤ x) = false := decide_eq_false (by omega)
  have p0 : 0 ≤ x := hx0
  have p1 : x < (N : Int) := by omega
  rw [← hN] at cg
  clear hmid hp hf hB hl hInv hx0 hx1 hm hg hgrid he hI hN
  replace p0 := eq_true p0
  replace p1 := eq_true p1
  go_enter Try.func37, Try.ntmps37
  go_upto_region 3 with (fail)
  have cd : w.drew.cell? ⟨g, 0, none⟩ = some (.slice (some ⟨gr, 0, none⟩) N c) := cg
  have c0d := HE.out.c0
  have z0d : w.drew.frozen? ⟨gr, x.toNat * 5, none⟩ = false := HE.out.fr 0
  have HCD := Aside0.mk cd
  have HG := Aside0.mk HE.out.hg
  clear cd cm cg
  refine start_ (n := 16) (S := fun w' => w'.cell? ⟨g, 0, none⟩ = some (.slice (some ⟨gr, 0, none⟩) N c)) (ds := [12, 15]) #[false, false, false, false, false, false, false, false, false, false, false, false, false, false, false, false] (by kernel_rfl) rfl rfl (HCD.out) (fun hHeld => ?_)
  generalize hwd_ : w.drew = wD at HE HB HK HCD HG c0d z0d hHeld ⊢
  clear hwd_
  refine pure_ (i := 0) (N := some 34) (v := ?_) (a' := ?_) #[true, false, false, false, false, false, false, false, false, false, false, false, false, false, false, false] rfl rfl (by kernel_rfl) (fun _ _ _ h => h) (Or.inl ⟨by rfl, ?_⟩) ?_ ?_
  rotate_left
  · intro w'
    go_simp
    with_reducible rfl
  rotate_left
  · simp only [Act.put, List.setIfInBounds_toArray, List.set_cons_zero, List.set_cons_succ, i64_w, i32_w]
    rfl
  refine pure_ (i := 1) (N := some 35) (v := ?_) (a' := ?_) #[true, true, false, false, false, false, false, false, false, false, false, false, false, false, false, false] rfl rfl (by kernel_rfl) (fun _ _ _ h => h) (Or.inl ⟨by rfl, ?_⟩) ?_ ?_
  rotate_left
  · intro w'
    go_simp
    with_reducible rfl
  rotate_left
  · simp only [Act.put, List.setIfInBounds_toArray, List.set_cons_zero, List.set_cons_succ, i64_w, i32_w]
    rfl
  refine pure_ (i := 2) (N := some 36) (v := ?_) (a' := ?_) #[true, true, true, false, false, false, false, false, false, false, false, false, false, false, false, false] rfl rfl (by kernel_rfl) (fun _ _ _ h => h) (Or.inl ⟨by rfl, ?_⟩) ?_ ?_
  rotate_left
  · intro w'
    go_simp
    with_reducible rfl
  rotate_left
  · simp only [Act.put, List.setIfInBounds_toArray, List.set_cons_zero, List.set_cons_succ, i64_w, i32_w]
    rfl
  refine pure_ (i := 4) (N := some 38) (v := ?_) (a' := ?_) #[true, true, true, false, true, false, false, false, false, false, false, false, false, false, false, false] rfl rfl (by kernel_rfl) (fun _ _ _ h => h) (Or.inl ⟨by rfl, ?_⟩) ?_ ?_
  rotate_left
  · intro w'
    go_simp
    with_reducible rfl
  rotate_left
  · simp only [Act.put, List.setIfInBounds_toArray, List.set_cons_zero, List.set_cons_succ, i64_w, i32_w]
    rfl
  refine pure_ (i := 5) (N := some 39) (v := ?_) (a' := ?_) #[true, true, true, false, true, true, false, false, false, false, false, false, false, false, false, false] rfl rfl (by kernel_rfl) (fun _ _ _ h => h) (Or.inl ⟨by rfl, ?_⟩) ?_ ?_
  rotate_left
  · intro w'
    go_simp
    with_reducible rfl
  rotate_left
  · simp only [Act.put, List.setIfInBounds_toArray, List.set_cons_zero, List.set_cons_succ, i64_w, i32_w]
    rfl
  refine pure_ (i := 6) (N := some 40) (v := ?_) (a' := ?_) #[true, true, true, false, true, true, true, false, false, false, false, false, false, false, false, false] rfl rfl (by kernel_rfl) (fun _ _ _ h => h) (Or.inl ⟨by rfl, ?_⟩) ?_ ?_
  rotate_left
  · intro w'
    go_simp
    with_reducible rfl
  rotate_left
  · simp only [Act.put, List.setIfInBounds_toArray, List.set_cons_zero, List.set_cons_succ, i64_w, i32_w]
    rfl
  refine pure_ (i := 7) (N := some 41) (v := ?_) (a' := ?_) #[true, true, true, false, true, true, true, true, false, false, false, false, false, false, false, false] rfl rfl (by kernel_rfl) (fun _ _ _ h => h) (Or.inl ⟨by rfl, ?_⟩) ?_ ?_
  rotate_left
  · intro w'
    go_simp
    with_reducible rfl
  rotate_left
  · simp only [Act.put, List.setIfInBounds_toArray, List.set_cons_zero, List.set_cons_succ, i64_w, i32_w]
    rfl
  refine pure_ (i := 9) (N := some 43) (v := ?_) (a' := ?_) #[true, true, true, false, true, true, true, true, false, true, false, false, false, false, false, false] rfl rfl (by kernel_rfl) (fun _ _ _ h => h) (Or.inl ⟨by rfl, ?_⟩) ?_ ?_
  rotate_left
  · intro w'
    go_simp
    with_reducible rfl
  rotate_left
  · simp only [Act.put, List.setIfInBounds_toArray, List.set_cons_zero, List.set_cons_succ, i64_w, i32_w]
    rfl
  refine take_ (i := 3) (N := some 37) (v := ?_) (a' := ?_) #[true, true, true, true, true, true, true, true, false, true, false, false, false, false, false, false] rfl rfl (by kernel_rfl) (fun _ _ _ h => h) (Or.inl ⟨by rfl, ?_⟩) hHeld ?_ ?_
  rotate_left
  · intro w' s0
    go_simp
    with_reducible rfl
  rotate_left
  · simp only [Act.put, List.setIfInBounds_toArray, List.set_cons_zero, List.set_cons_succ, i64_w, i32_w]
    rfl
  refine take_ (i := 8) (N := some 42) (v := ?_) (a' := ?_) #[true, true, true, true, true, true, true, true, true, true, false, false, false, false, false, false] rfl rfl (by kernel_rfl) (fun _ _ _ h => h) (Or.inl ⟨by rfl, ?_⟩) hHeld ?_ ?_
  rotate_left
  · intro w' s0
    go_simp
    with_reducible rfl
  rotate_left
  · simp only [Act.put, List.setIfInBounds_toArray, List.set_cons_zero, List.set_cons_succ, i64_w, i32_w]
    rfl
  refine pure_ (i := 10) (N := some 44) (v := ?_) (a' := ?_) #[true, true, true, true, true, true, true, true, true, true, true, false, false, false, false, false] rfl rfl (by kernel_rfl) (fun _ _ _ h => h) (Or.inl ⟨by rfl, ?_⟩) ?_ ?_
  rotate_left
  · intro w'
    go_simp
    with_reducible rfl
  rotate_left
  · simp only [Act.put, List.setIfInBounds_toArray, List.set_cons_zero, List.set_cons_succ, i64_w, i32_w]
    rfl
  refine pure_ (i := 11) (N := some 45) (v := ?_) (a' := ?_) #[true, true, true, true, true, true, true, true, true, true, true, true, false, false, false, false] rfl rfl (by kernel_rfl) (fun _ _ _ h => h) (Or.inl ⟨by rfl, ?_⟩) ?_ ?_
  rotate_left
  · intro w'
    go_simp
    with_reducible rfl
  rotate_left
  · simp only [Act.put, List.setIfInBounds_toArray, List.set_cons_zero, List.set_cons_succ, i64_w, i32_w]
    rfl
  refine last_ (i := 12) (N := none) #[true, true, true, true, true, true, true, true, true, true, true, true, true, false, false, false] rfl rfl (by kernel_rfl) (by decide) (fun K hK => ?_)
  refine skip_ (w1 := ?_) (by rfl) rfl ?_ ?_
  rotate_left
  · go_simp
    rfl
  have hA := Aside0.mk (HE.out.put0 0)
  have hG2 := Aside0.mk (blk_far HG.out (p := ⟨gr, x.toNat * 5, none⟩) (fun he => HE.out.ne he.symm) (.int .i64 ((0 : Nat) : Int)))
  rw [show (((0 : Nat) : Int)) = 0 from rfl] at hA hG2
  generalize hwS : World.setCell _ _ _ = wS at hA hG2 ⊢
  have B2 := Aside0.mk (below_row HB.out hA.out.2 HE.out.bg)
  have K2 := Aside0.mk (HK.out.trans (keep_row hA.out.2 HE.out.Pg))
  obtain ⟨v2, oki2, he2⟩ := hA.out.1.at_ hG2.out x.toNat (by rw [List.length_set]; exact HX.out)
  have HE2 := Aside0.mk he2
  have c1S := he2.c1
  have z1S := he2.fr 1
  clear hwS he2 c0d z0d hA hHeld HCD
  refine hK.out _ _ ?_
  clear hK K
  refine pure_ (i := 13) (N := some 46) (v := ?_) (a' := ?_) #[true, true, true, true, true, true, true, true, true, true, true, true, true, true, false, false] rfl rfl (by kernel_rfl) (fun _ _ _ h => h) (Or.inl ⟨by rfl, ?_⟩) ?_ ?_
  rotate_left
  · intro w'
    go_simp
    with_reducible rfl
  rotate_left
  · simp only [Act.put, List.setIfInBounds_toArray, List.set_cons_zero, List.set_cons_succ, i64_w, i32_w]
    rfl
  refine pure_ (i := 14) (N := some 47) (v := ?_) (a' := ?_) #[true, true, true, true, true, true, true, true, true, true, true, true, true, true, true, false] rfl rfl (by kernel_rfl) (fun _ _ _ h => h) (Or.inl ⟨by rfl, ?_⟩) ?_ ?_
  rotate_left
  · intro w'
    go_simp
    with_reducible rfl
  rotate_left
  · simp only [Act.put, List.setIfInBounds_toArray, List.set_cons_zero, List.set_cons_succ, i64_w, i32_w]
    rfl
  refine last_ (i := 15) (N := none) #[true, true, true, true, true, true, true, true, true, true, true, true, true, true, true, true] rfl rfl (by kernel_rfl) (by decide) (fun K hK => ?_)
  refine skip_ (w1 := ?_) (by rfl) rfl ?_ ?_
  rotate_left
  · go_simp
    rfl
  have hA := Aside0.mk (HE2.out.put1 2)
  have hG3 := Aside0.mk (blk_far hG2.out (p := ⟨gr, x.toNat * 5 + 1, none⟩) (fun he => HE2.out.ne he.symm) (.int .i64 ((2 : Nat) : Int)))
  rw [show (((2 : Nat) : Int)) = 2 from rfl] at hA hG3
  generalize hwT : World.setCell _ _ _ = wT at hA hG3 ⊢
  have B3 := Aside0.mk (below_row B2.out hA.out.2 HE2.out.bg)
  have K3 := Aside0.mk (K2.out.trans (keep_row hA.out.2 HE2.out.Pg))
  have HI3 := Aside0.mk hA.out.1
  rw [start_false L x.toNat HX.out] at HI3
  clear hwT c1S z1S hA B2 K2 hG2
  refine hK.out _ _ ?_
  clear hK K
  refine done_ (by kernel_rfl) ?_
  have hl3 : (Truth.start L x.toNat false).length = L.length := List.length_set
  obtain ⟨v3, oki3, he3⟩ := HI3.out.at_ hG3.out x.toNat (by rw [hl3]; exact HX.out)
  have HE3 := Aside0.mk he3
  have c1T := he3.c1
  have z1T := he3.fr 1
  have cgT : wT.cell? ⟨g, 0, none⟩ = some (.slice (some ⟨gr, 0, none⟩) L.length c) := (blk_cell hG3.out 0).trans rfl
  rw [← HN.out] at cgT
  clear he3 hl3
  go_upto_region 6 with (fail)
  have hA := Aside0.mk (HE3.out.put1 1)
  rw [show (((1 : Nat) : Int)) = 1 from rfl] at hA
  generalize hwU : World.setCell _ _ _ = wU at hA ⊢
  have B4 := Aside0.mk (below_row B3.out hA.out.2 HE3.out.bg)
  have K4 := Aside0.mk (K3.out.trans (keep_row hA.out.2 HE3.out.Pg))
  have HI4 := Aside0.mk hA.out.1
  rw [start_true L x.toNat HX.out] at HI4
  clear hwU hA c1T z1T cgT HE3 HI3 B3 K3 HE HE2
  have HS := Aside0.mk (SetSt.start HI4.out B4.out (fun k hk => HF.out k (Nat.le_trans K4.out.1 hk)) x.toNat x HXi.out)
  have HK5 := Aside0.mk (K4.out.trans (KeepB.of_below (g := g) (P := P) (below_alloc (Below.refl wU.heap.size wU) (.cells #[.int .i64 x] 3))))
  clear q0 q1 p0 p1
  go_wp2_with fail
  generalize hwA : World.alloc wU _ = wA at HS HK5 ⊢
  generalize hvA : Value.slice _ 1 1 = vA at HS ⊢
  clear hwA hvA
  go_loopg [7] k (fun kq v7 w' => ∃ (L2 : List T) (todo : List Nat), Aside0 (prop kq L2 todo = some L') ∧ Aside0 (Mid L2 todo []) ∧ Aside0 (L2.length = N) ∧ Aside0 (todo.length + unk L2 ≤ N + 1) ∧ Aside0 (SetSt w0 w' g P (.slice none 0 0) v7 L2 todo) ∧ Aside0 (KeepB g P w w'))
  case atStart => exact ⟨_, [x.toNat], HP, HMid, ⟨by rw [HLs.out, HN.out]⟩, ⟨by have h1 := HUnk.out; have h2 := HLs.out; rw [HN.out]; simp only [List.length_singleton]; omega⟩, HS, HK5⟩
  case round =>
    clear HS HK5 HI4 B4 K4 HMid HLs HUnk HP HXi
    obtain ⟨L2, todo, hp, hmid, hlen, hmany, hst, hk⟩ := hrel
    cases todo with
    | nil =>
      obtain ⟨A7, c7, e7, hle7⟩ := Kd.Q_slice hst.out.row
      rw [show (nats []).length = 0 from rfl] at e7
      subst e7
      have hL := Aside0.mk (prop_nil hp.out)
      clear hle7
      go_wp2_with fail
      go_ret
      exact ⟨rfl, by rw [← hL.out]; exact hst.out.book.mono (fun k hk => hk.1), hst.out.below, hk.out⟩
    | cons t ts =>
      obtain ⟨q, hq, hp2⟩ := prop_cons hp.out
      have HQ := Aside0.mk hq
      have HP2 := Aside0.mk hp2
      obtain ⟨ht, hvt⟩ := hmid.out.todo t (List.mem_cons_self)
      obtain ⟨gq, o, n, cc, v', e7, hn, hcq, hsl, hown, hrow⟩ := hst.out.drew.drew.head
      subst e7
      obtain ⟨gr, c, hg, hgrid⟩ := hst.out.drew.drew.book.grid (by omega)
      obtain ⟨v0, oki, he⟩ := hgrid t ht
      have HE := Aside0.mk he
      obtain ⟨zt, hzt⟩ : ∃ zt : Int, zt = (t : Int) := ⟨_, rfl⟩
      have htz : zt.toNat = t := by omega
      have hcm := clear_mid hmid.out
      have HCM := Aside0.mk hcm
      have HT := Aside0.mk (hst.out.drew.drew.take he hown hrow)
      have KD := Aside0.mk (hk.out.trans (KeepB.of_below (g := g) (P := P) (below_drew (below_drew (Below.refl wr.heap.size wr)))))
      have hcg : wr.drew.drew.cell? ⟨g, 0, none⟩ = some (.slice (some ⟨gr, 0, none⟩) N c) := by rw [← hlen.out]; exact (blk_cell hg 0).trans rfl
      have hc4 := he.c4
      have z4 := he.fr 4
      rw [← htz] at hc4 z4
      rw [← hzt] at hcq
      have C0 := Aside0.mk hcg
      have CQ := Aside0.mk hcq
      have C4 := Aside0.mk hc4
      have qn : decide ((n : Int) > 0) = true := by simp; omega
      have qn2 : decide (0 < n) = true := by simp; omega
      have p0 : 0 ≤ zt := by omega
      have p1 : zt < (N : Int) := by have := hlen.out; omega
      have pn : 0 < (n : Int) := by omega
      have pn2 : 0 < n := by omega
      have HZT := Aside0.mk htz
      have HTN := Aside0.mk ht
      clear hq hp2 hvt hgrid he hg hcm hown hrow hcg hcq hn htz hzt ht hk
      replace p0 := eq_true p0
      replace p1 := eq_true p1
      replace pn := eq_true pn
      replace pn2 := eq_true pn2
      go_upto_region 8 with (fail)
      clear qn qn2
      refine start_ (n := 11) (S := fun w' => w'.cell? ⟨g, 0, none⟩ = some (.slice (some ⟨gr, 0, none⟩) N c) ∧ w'.cell? ⟨gq, o, none⟩ = some (.int .i64 zt) ∧ w'.cell? ⟨gr, zt.toNat * 5 + 4, none⟩ = some v0) (ds := []) #[false, false, false, false, false, false, false, false, false, false, false] (by kernel_rfl) rfl rfl ⟨C0.out, CQ.out, C4.out⟩ (fun hHeld => ?_)
      refine pure_ (i := 0) (N := some 61) (v := ?_) (a' := ?_) #[true, false, false, false, false, false, false, false, false, false, false] rfl rfl (by kernel_rfl) (fun _ _ _ h => h) (Or.inl ⟨by rfl, ?_⟩) ?_ ?_
      rotate_left
      · intro w'
        go_simp
        with_reducible rfl
      rotate_left
      · simp only [Act.put, List.setIfInBounds_toArray, List.set_cons_zero, List.set_cons_succ, i64_w, i32_w]
        rfl
      refine pure_ (i := 1) (N := some 62) (v := ?_) (a' := ?_) #[true, true, false, false, false, false, false, false, false, false, false] rfl rfl (by kernel_rfl) (fun _ _ _ h => h) (Or.inl ⟨by rfl, ?_⟩) ?_ ?_
      rotate_left
      · intro w'
        go_simp
        with_reducible rfl
      rotate_left
      · simp only [Act.put, List.setIfInBounds_toArray, List.set_cons_zero, List.set_cons_succ, i64_w, i32_w]
        rfl
      refine pure_ (i := 2) (N := some 63) (v := ?_) (a' := ?_) #[true, true, true, false, false, false, false, false, false, false, false] rfl rfl (by kernel_rfl) (fun _ _ _ h => h) (Or.inl ⟨by rfl, ?_⟩) ?_ ?_
      rotate_left
      · intro w'
        go_simp
        with_reducible rfl
      rotate_left
      · simp only [Act.put, List.setIfInBounds_toArray, List.set_cons_zero, List.set_cons_succ, i64_w, i32_w]
        rfl
      refine pure_ (i := 4) (N := some 65) (v := ?_) (a' := ?_) #[true, true, true, false, true, false, false, false, false, false, false] rfl rfl (by kernel_rfl) (fun _ _ _ h => h) (Or.inl ⟨by rfl, ?_⟩) ?_ ?_
      rotate_left
      · intro w'
        go_simp
        with_reducible rfl
      rotate_left
      · simp only [Act.put, List.setIfInBounds_toArray, List.set_cons_zero, List.set_cons_succ, i64_w, i32_w]
        rfl
      refine pure_ (i := 5) (N := some 66) (v := ?_) (a' := ?_) #[true, true, true, false, true, true, false, false, false, false, false] rfl rfl (by kernel_rfl) (fun _ _ _ h => h) (Or.inl ⟨by rfl, ?_⟩) ?_ ?_
      rotate_left
      · intro w'
        go_simp
        with_reducible rfl
      rotate_left
      · simp only [Act.put, List.setIfInBounds_toArray, List.set_cons_zero, List.set_cons_succ, i64_w, i32_w]
        rfl
      refine take_ (i := 3) (N := some 64) (v := ?_) (a' := ?_) #[true, true, true, true, true, true, false, false, false, false, false] rfl rfl (by kernel_rfl) (fun _ _ _ h => h) (Or.inl ⟨by rfl, ?_⟩) hHeld ?_ ?_
      rotate_left
      · rintro w' ⟨s0, s1, s2⟩
        go_simp
        with_reducible rfl
      rotate_left
      · simp only [Act.put, List.setIfInBounds_toArray, List.set_cons_zero, List.set_cons_succ, i64_w, i32_w]
        rfl
      refine take_ (i := 6) (N := some 67) (v := ?_) (a' := ?_) #[true, true, true, true, true, true, true, false, false, false, false] rfl rfl (by kernel_rfl) (fun _ _ _ h => h) (Or.inl ⟨by rfl, ?_⟩) hHeld ?_ ?_
      rotate_left
      · rintro w' ⟨s0, s1, s2⟩
        go_simp
        with_reducible rfl
      rotate_left
      · simp only [Act.put, List.setIfInBounds_toArray, List.set_cons_zero, List.set_cons_succ, i64_w, i32_w]
        rfl
      refine pure_ (i := 7) (N := some 68) (v := ?_) (a' := ?_) #[true, true, true, true, true, true, true, true, false, false, false] rfl rfl (by kernel_rfl) (fun _ _ _ h => h) (Or.inl ⟨by rfl, ?_⟩) ?_ ?_
      rotate_left
      · intro w'
        go_simp
        with_reducible rfl
      rotate_left
      · simp only [Act.put, List.setIfInBounds_toArray, List.set_cons_zero, List.set_cons_succ, i64_w, i32_w]
        rfl
      refine pure_ (i := 8) (N := some 69) (v := ?_) (a' := ?_) #[true, true, true, true, true, true, true, true, true, false, false] rfl rfl (by kernel_rfl) (fun _ _ _ h => h) (Or.inl ⟨by rfl, ?_⟩) ?_ ?_
      rotate_left
      · intro w'
        go_simp
        with_reducible rfl
      rotate_left
      · simp only [Act.put, List.setIfInBounds_toArray, List.set_cons_zero, List.set_cons_succ, i64_w, i32_w]
        rfl
      refine take_ (i := 9) (N := some 70) (v := ?_) (a' := ?_) #[true, true, true, true, true, true, true, true, true, true, false] rfl rfl (by kernel_rfl) (fun _ _ _ h => h) (Or.inl ⟨by rfl, ?_⟩) hHeld ?_ ?_
      rotate_left
      · rintro w' ⟨s0, s1, s2⟩
        go_simp
        with_reducible rfl
      rotate_left
      · simp only [Act.put, List.setIfInBounds_toArray, List.set_cons_zero, List.set_cons_succ, i64_w, i32_w]
        rfl
      refine pure_ (i := 10) (N := some 8) (v := ?_) (a' := ?_) #[true, true, true, true, true, true, true, true, true, true, true] rfl rfl (by kernel_rfl) (fun _ _ _ h => h) (Or.inl ⟨by rfl, ?_⟩) ?_ ?_
      rotate_left
      · intro w'
        go_simp
        with_reducible rfl
      rotate_left
      · simp only [Act.put, List.setIfInBounds_toArray, List.set_cons_zero, List.set_cons_succ, i64_w, i32_w]
        rfl
      refine done_ (by kernel_rfl) ?_
      go_upto_region 9 with (fail)
      refine start_ (n := 13) (S := fun w' => w'.cell? ⟨g, 0, none⟩ = some (.slice (some ⟨gr, 0, none⟩) N c) ∧ w'.cell? ⟨gq, o, none⟩ = some (.int .i64 zt)) (ds := [11]) #[false, false, false, false, false, false, false, false, false, false, false, false, false] (by kernel_rfl) rfl rfl ⟨C0.out, CQ.out⟩ (fun hHeld => ?_)
      generalize hwd_ : wr.drew.drew = wD at HT KD C0 CQ hc4 z4 hHeld ⊢
      clear hwd_
      refine pure_ (i := 0) (N := some 71) (v := ?_) (a' := ?_) #[true, false, false, false, false, false, false, false, false, false, false, false, false] rfl rfl (by kernel_rfl) (fun _ _ _ h => h) (Or.inl ⟨by rfl, ?_⟩) ?_ ?_
      rotate_left
      · intro w'
        go_simp
        with_reducible rfl
      rotate_left
      · simp only [Act.put, List.setIfInBounds_toArray, List.set_cons_zero, List.set_cons_succ, i64_w, i32_w]
        rfl
      refine pure_ (i := 1) (N := some 72) (v := ?_) (a' := ?_) #[true, true, false, false, false, false, false, false, false, false, false, false, false] rfl rfl (by kernel_rfl) (fun _ _ _ h => h) (Or.inl ⟨by rfl, ?_⟩) ?_ ?_
      rotate_left
      · intro w'
        go_simp
        with_reducible rfl
      rotate_left
      · simp only [Act.put, List.setIfInBounds_toArray, List.set_cons_zero, List.set_cons_succ, i64_w, i32_w]
        rfl
      refine pure_ (i := 2) (N := some 73) (v := ?_) (a' := ?_) #[true, true, true, false, false, false, false, false, false, false, false, false, false] rfl rfl (by kernel_rfl) (fun _ _ _ h => h) (Or.inl ⟨by rfl, ?_⟩) ?_ ?_
      rotate_left
      · intro w'
        go_simp
        with_reducible rfl
      rotate_left
      · simp only [Act.put, List.setIfInBounds_toArray, List.set_cons_zero, List.set_cons_succ, i64_w, i32_w]
        rfl
      refine pure_ (i := 4) (N := some 75) (v := ?_) (a' := ?_) #[true, true, true, false, true, false, false, false, false, false, false, false, false] rfl rfl (by kernel_rfl) (fun _ _ _ h => h) (Or.inl ⟨by rfl, ?_⟩) ?_ ?_
      rotate_left
      · intro w'
        go_simp
        with_reducible rfl
      rotate_left
      · simp only [Act.put, List.setIfInBounds_toArray, List.set_cons_zero, List.set_cons_succ, i64_w, i32_w]
        rfl
      refine pure_ (i := 5) (N := some 76) (v := ?_) (a' := ?_) #[true, true, true, false, true, true, false, false, false, false, false, false, false] rfl rfl (by kernel_rfl) (fun _ _ _ h => h) (Or.inl ⟨by rfl, ?_⟩) ?_ ?_
      rotate_left
      · intro w'
        go_simp
        with_reducible rfl
      rotate_left
      · simp only [Act.put, List.setIfInBounds_toArray, List.set_cons_zero, List.set_cons_succ, i64_w, i32_w]
        rfl
      refine pure_ (i := 7) (N := some 78) (v := ?_) (a' := ?_) #[true, true, true, false, true, true, false, true, false, false, false, false, false] rfl rfl (by kernel_rfl) (fun _ _ _ h => h) (Or.inl ⟨by rfl, ?_⟩) ?_ ?_
      rotate_left
      · intro w'
        go_simp
        with_reducible rfl
      rotate_left
      · simp only [Act.put, List.setIfInBounds_toArray, List.set_cons_zero, List.set_cons_succ, i64_w, i32_w]
        rfl
      refine pure_ (i := 8) (N := some 79) (v := ?_) (a' := ?_) #[true, true, true, false, true, true, false, true, true, false, false, false, false] rfl rfl (by kernel_rfl) (fun _ _ _ h => h) (Or.inl ⟨by rfl, ?_⟩) ?_ ?_
      rotate_left
      · intro w'
        go_simp
        with_reducible rfl
      rotate_left
      · simp only [Act.put, List.setIfInBounds_toArray, List.set_cons_zero, List.set_cons_succ, i64_w, i32_w]
        rfl
      refine take_ (i := 3) (N := some 74) (v := ?_) (a' := ?_) #[true, true, true, true, true, true, false, true, true, false, false, false, false] rfl rfl (by kernel_rfl) (fun _ _ _ h => h) (Or.inl ⟨by rfl, ?_⟩) hHeld ?_ ?_
      rotate_left
      · rintro w' ⟨s0, s1⟩
        go_simp
        with_reducible rfl
      rotate_left
      · simp only [Act.put, List.setIfInBounds_toArray, List.set_cons_zero, List.set_cons_succ, i64_w, i32_w]
        rfl
      refine take_ (i := 6) (N := some 77) (v := ?_) (a' := ?_) #[true, true, true, true, true, true, true, true, true, false, false, false, false] rfl rfl (by kernel_rfl) (fun _ _ _ h => h) (Or.inl ⟨by rfl, ?_⟩) hHeld ?_ ?_
      rotate_left
      · rintro w' ⟨s0, s1⟩
        go_simp
        with_reducible rfl
      rotate_left
      · simp only [Act.put, List.setIfInBounds_toArray, List.set_cons_zero, List.set_cons_succ, i64_w, i32_w]
        rfl
      refine pure_ (i := 9) (N := some 80) (v := ?_) (a' := ?_) #[true, true, true, true, true, true, true, true, true, true, false, false, false] rfl rfl (by kernel_rfl) (fun _ _ _ h => h) (Or.inl ⟨by rfl, ?_⟩) ?_ ?_
      rotate_left
      · intro w'
        go_simp
        with_reducible rfl
      rotate_left
      · simp only [Act.put, List.setIfInBounds_toArray, List.set_cons_zero, List.set_cons_succ, i64_w, i32_w]
        rfl
      refine pure_ (i := 10) (N := some 81) (v := ?_) (a' := ?_) #[true, true, true, true, true, true, true, true, true, true, true, false, false] rfl rfl (by kernel_rfl) (fun _ _ _ h => h) (Or.inl ⟨by rfl, ?_⟩) ?_ ?_
      rotate_left
      · intro w'
        go_simp
        with_reducible rfl
      rotate_left
      · simp only [Act.put, List.setIfInBounds_toArray, List.set_cons_zero, List.set_cons_succ, i64_w, i32_w]
        rfl
      refine last_ (i := 11) (N := none) #[true, true, true, true, true, true, true, true, true, true, true, true, false] rfl rfl (by kernel_rfl) (by decide) (fun K hK => ?_)
      refine skip_ (w1 := ?_) (by rfl) rfl ?_ ?_
      rotate_left
      · go_simp
        rfl
      rw [← HZT.out] at HT
      generalize hwV : World.setCell _ _ _ = wV at HT ⊢
      clear hwV z4 hc4
      refine hK.out _ _ ?_
      clear hK K
      refine pure_ (i := 12) (N := some 7) (v := ?_) (a' := ?_) #[true, true, true, true, true, true, true, true, true, true, true, true, true] rfl rfl (by kernel_rfl) (fun _ _ _ h => h) (Or.inl ⟨by rfl, ?_⟩) ?_ ?_
      rotate_left
      · intro w'
        go_simp
        with_reducible rfl
      rotate_left
      · simp only [Act.put, List.setIfInBounds_toArray, List.set_cons_zero, List.set_cons_succ, i64_w, i32_w]
        rfl
      refine done_ (by kernel_rfl) ?_
      rw [HZT.out] at HT
      obtain ⟨hst2, hk2, A0, c0, e0, hF0⟩ := HT.out
      obtain ⟨us, hus⟩ : ∃ us, us = (gT L2 t).ups := ⟨_, rfl⟩
      rw [← hus] at e0 hF0 HP2 HCM
      obtain ⟨n2, hn2⟩ : ∃ n2, n2 = us.length := ⟨_, rfl⟩
      rw [← hn2] at e0 hF0
      subst e0
      have ST2 := Aside0.mk hst2
      have F2 := Aside0.mk hF0
      have HNU := Aside0.mk hn2
      have K2 := Aside0.mk (KD.out.trans hk2)
      have M2 := Aside0.mk HCM.out.1
      have L2l : Aside0 ((clear L2 t).length = N) := ⟨by rw [← hlen.out]; exact List.length_set⟩
      have MN2 : Aside0 (ts.length + unk (clear L2 t) ≤ N + 1) := ⟨by have h1 := hmany.out; simp only [List.length_cons] at h1; rw [HCM.out.2.2]; omega⟩
      have n2l : n2 < 4000000 := by have h1 := hmid.out.many t; rw [← hus] at h1; have := hlen.out; have := HL.out; have := HN.out; omega
      have HN2L := Aside0.mk n2l
      clear HT hst2 hk2 hF0 hus hn2 KD C0 CQ C4 HE HCM hsl p0 p1 pn pn2 n2l hst hmid
      go_wp2_with fail
      go_loopg [7, 84] n2 (fun kq2 v7 v84 w' => ∃ (i : Nat) (L3 : List T) (todo : List Nat), Aside0 (kq2 + i = n2) ∧ v84 = .int .i64 (i : Int) ∧ Aside0 (inner (clear L2 t) ts us = inner L3 todo (us.drop i)) ∧ Aside0 (Mid L3 todo (us.drop i)) ∧ Aside0 (L3.length = N) ∧ Aside0 (todo.length + unk L3 ≤ N + 1) ∧ Aside0 (SetSt w0 w' g P (.slice A0 n2 c0) v7 L3 todo) ∧ Aside0 (Kd.F (Kd.int .i64) w' (fun k => some k = (Value.slice A0 n2 c0).ownBlock) A0 n2 (nats us)) ∧ Aside0 (KeepB g P w w'))
      case atStart => exact ⟨0, _, _, ⟨by omega⟩, rfl, ⟨rfl⟩, M2, L2l, MN2, ST2, F2, K2⟩
      case round =>
        clear ST2 F2 K2 M2 L2l MN2
        obtain ⟨i, L3, todo, hi, rfl, hin, hmid, hlen3, hmany3, hst, hF, hk⟩ := hrel
        by_cases c5 : i < n2
        · obtain ⟨zi, hzi⟩ : ∃ zi : Int, zi = (i : Int) := ⟨_, rfl⟩
          have i0 : 0 ≤ zi := by omega
          have i1 : zi < (n2 : Int) := by omega
          have hiu : i < us.length := by have := HNU.out; omega
          obtain ⟨ad, rfl, hcu⟩ := F_cell hF.out zi i0 i1
          obtain ⟨u, hu⟩ : ∃ u, u = us.getD i 0 := ⟨_, rfl⟩
          have hdr : us.drop i = u :: us.drop (i + 1) := by rw [hu]; exact drop_nat us i hiu
          have hru : rd (nats us) zi = (u : Int) := by rw [hzi, hu]; exact rd_nats us i hiu
          obtain ⟨zu, hzu⟩ : ∃ zu : Int, zu = (u : Int) := ⟨_, rfl⟩
          have hzun : zu.toNat = u := by omega
          rw [hru, ← hzu] at hcu
          rw [hdr] at hin hmid
          obtain ⟨huN, hum⟩ := hmid.out.rem u (List.mem_cons_self)
          have hpar := hmid.out.parts u huN hum
          have hkin := hmid.out.kinds u huN
          obtain ⟨gr, c, hg, hgrid⟩ := hst.out.drew.book.grid (by omega)
          obtain ⟨v0, oki, he⟩ := hgrid u huN
          have hcg : wr.cell? ⟨g, 0, none⟩ = some (.slice (some ⟨gr, 0, none⟩) N c) := by rw [← hlen3.out]; exact (blk_cell (w := wr.drew) hg 0).trans rfl
          obtain ⟨val, hval⟩ : ∃ val : Int, val = ((gT L3 u).val : Nat) := ⟨_, rfl⟩
          have hc1 : wr.cell? ⟨gr, zu.toNat * 5 + 1, none⟩ = some (.int .i64 val) := by rw [hzun, hval]; exact he.c1
          have I1 := Aside0.mk (show zi + 1 = ((i + 1 : Nat) : Int) by omega)
          have HI1 := Aside0.mk (show 0 ≤ zi ∧ zi < 5000000 by have := HN2L.out; omega)
          have C5 := Aside0.mk c5
          have q5 : decide (zi < (n2 : Int)) = true := decide_eq_true i1
          have u0 : 0 ≤ zu := by omega
          have u1 : zu < (N : Int) := by have := hlen3.out; omega
          rw [← hzi]
          by_cases hv : (gT L3 u).val = 0
          · have hv0 : val = 0 := by omega
            subst hv0
            obtain ⟨vx, okx, hex⟩ := hgrid (gT L3 u).x (by omega)
            obtain ⟨vy, oky, hey⟩ := hgrid (gT L3 u).y (by omega)
            obtain ⟨zm, hzm⟩ : ∃ z : Int, z = ((gT L3 u).made : Nat) := ⟨_, rfl⟩
            obtain ⟨zx, hzx⟩ : ∃ z : Int, z = ((gT L3 u).x : Nat) := ⟨_, rfl⟩
            obtain ⟨zy, hzy⟩ : ∃ z : Int, z = ((gT L3 u).y : Nat) := ⟨_, rfl⟩
            obtain ⟨zvx, hzvx⟩ : ∃ z : Int, z = ((gT L3 (gT L3 u).x).val : Nat) := ⟨_, rfl⟩
            obtain ⟨zvy, hzvy⟩ : ∃ z : Int, z = ((gT L3 (gT L3 u).y).val : Nat) := ⟨_, rfl⟩
            obtain ⟨qv, hqv⟩ : ∃ q, q = worth (gT L3 u).made (gT L3 (gT L3 u).x).val (gT L3 (gT L3 u).y).val := ⟨_, rfl⟩
            have hW := worth_calls (gT L3 u).made (gT L3 (gT L3 u).x).val (gT L3 (gT L3 u).y).val (by omega) (hmid.out.le _) (hmid.out.le _) wr.drew
            rw [← hqv, ← hzm, ← hzvx, ← hzvy] at hW
            have HW := Aside0.mk hW
            have cm : wr.drew.cell? ⟨gr, zu.toNat * 5, none⟩ = some (.int .i64 zm) := by rw [hzun, hzm]; exact he.c0
            have cx : wr.drew.cell? ⟨gr, zu.toNat * 5 + 2, none⟩ = some (.int .i64 zx) := by rw [hzun, hzx]; exact he.c2
            have cy : wr.drew.cell? ⟨gr, zu.toNat * 5 + 3, none⟩ = some (.int .i64 zy) := by rw [hzun, hzy]; exact he.c3
            have cvx : wr.drew.cell? ⟨gr, zx.toNat * 5 + 1, none⟩ = some (.int .i64 zvx) := by rw [show zx.toNat = (gT L3 u).x by omega, hzvx]; exact hex.c1
            have cvy : wr.drew.cell? ⟨gr, zy.toNat * 5 + 1, none⟩ = some (.int .i64 zvy) := by rw [show zy.toNat = (gT L3 u).y by omega, hzvy]; exact hey.c1
            have hcgd : wr.drew.cell? ⟨g, 0, none⟩ = some (.slice (some ⟨gr, 0, none⟩) N c) := hcg
            have hc1d : wr.drew.cell? ⟨gr, zu.toNat * 5 + 1, none⟩ = some (.int .i64 0) := hc1
            have hz1d : wr.drew.frozen? ⟨gr, zu.toNat * 5 + 1, none⟩ = false := by rw [hzun]; exact he.fr 1
            have CG := Aside0.mk hcgd
            have CM := Aside0.mk cm
            have CX := Aside0.mk cx
            have CY := Aside0.mk cy
            have CVX := Aside0.mk cvx
            have CVY := Aside0.mk cvy
            have C1 := Aside0.mk hc1d
            have Z1 := Aside0.mk hz1d
            have HE := Aside0.mk he
            have HZU := Aside0.mk hzun
            have HZI := Aside0.mk hzu
            have HV := Aside0.mk hv
            have HQV := Aside0.mk hqv
            have HDR := Aside0.mk hdr
            have HUN := Aside0.mk huN
            have xb : 0 ≤ zx ∧ zx < (N : Int) := by have := hlen3.out; omega
            have yb : 0 ≤ zy ∧ zy < (N : Int) := by have := hlen3.out; omega
            obtain ⟨x0, x1⟩ := xb
            obtain ⟨y0, y1⟩ := yb
            have hp := hst.out.drew.put he (he.put1 qv).1 (he.put1 qv).2
            have HPut := Aside0.mk hp
            have hgx := blk_far hg (p := ⟨gr, u * 5 + 1, none⟩) (fun he2 => he.ne he2.symm) (.int .i64 (qv : Int))
            have HGX := Aside0.mk hgx
            have KD := Aside0.mk (hk.out.trans (KeepB.of_below (g := g) (P := P) (below_drew (Below.refl wr.heap.size wr))))
            have HF2 := Aside0.mk (Kd.F_grown (Kd.F_drew hF.out) (he.put1 qv).2 (fun k hk he2 => he.Pg.2.2 (by rw [← he2]; exact hk)))
            obtain ⟨zq, hzq⟩ : ∃ z : Int, z = (qv : Nat) := ⟨_, rfl⟩
            rw [← hzq] at HW HPut HGX HF2
            have HZQ := Aside0.mk hzq
            clear hp hgx hzq hW hgrid hex hey hzm hzx hzy hzvx hzvy hqv cm cx cy cvx cvy hcgd hc1d hz1d he hg hzun hzu hv hdr huN hum hpar hkin hzi hiu hu hru c5 hval
            replace i0 := eq_true i0
            replace i1 := eq_true i1
            replace u0 := eq_true u0
            replace u1 := eq_true u1
            replace x0 := eq_true x0
            replace x1 := eq_true x1
            replace y0 := eq_true y0
            replace y1 := eq_true y1
            go_upto_region 15 with (fail)
            clear hcg hc1 q5 i0 i1 hcu
            have hc1d := C1.out
            have hz1d := Z1.out
            refine start_ (n := 31) (S := fun w' => w'.cell? ⟨g, 0, none⟩ = some (.slice (some ⟨gr, 0, none⟩) N c) ∧ w'.cell? ⟨gr, zu.toNat * 5, none⟩ = some (.int .i64 zm) ∧ w'.cell? ⟨gr, zu.toNat * 5 + 2, none⟩ = some (.int .i64 zx) ∧ w'.cell? ⟨gr, zu.toNat * 5 + 3, none⟩ = some (.int .i64 zy) ∧ w'.cell? ⟨gr, zx.toNat * 5 + 1, none⟩ = some (.int .i64 zvx) ∧ w'.cell? ⟨gr, zy.toNat * 5 + 1, none⟩ = some (.int .i64 zvy)) (ds := [30]) #[false, false, false, false, false, false, false, false, false, false, false, false, false, false, false, false, false, false, false, false, false, false, false, false, false, false, false, false, false, false, false] (by kernel_rfl) rfl rfl ⟨CG.out, CM.out, CX.out, CY.out, CVX.out, CVY.out⟩ (fun hHeld => ?_)
            generalize hwd_ : wr.drew = wD at HPut HGX HF2 HW KD CG CM CX CY CVX CVY C1 Z1 hc1d hz1d HE hHeld ⊢
            clear hwd_
            refine pure_ (i := 0) (N := some 99) (v := ?_) (a' := ?_) #[true, false, false, false, false, false, false, false, false, false, false, false, false, false, false, false, false, false, false, false, false, false, false, false, false, false, false, false, false, false, false] rfl rfl (by kernel_rfl) (fun _ _ _ h => h) (Or.inl ⟨by rfl, ?_⟩) ?_ ?_
            rotate_left
            · intro w'
              go_simp
              with_reducible rfl
            rotate_left
            · simp only [Act.put, List.setIfInBounds_toArray, List.set_cons_zero, List.set_cons_succ, i64_w, i32_w]
              rfl
            refine pure_ (i := 1) (N := some 100) (v := ?_) (a' := ?_) #[true, true, false, false, false, false, false, false, false, false, false, false, false, false, false, false, false, false, false, false, false, false, false, false, false, false, false, false, false, false, false] rfl rfl (by kernel_rfl) (fun _ _ _ h => h) (Or.inl ⟨by rfl, ?_⟩) ?_ ?_
            rotate_left
            · intro w'
              go_simp
              with_reducible rfl
            rotate_left
            · simp only [Act.put, List.setIfInBounds_toArray, List.set_cons_zero, List.set_cons_succ, i64_w, i32_w]
              rfl
            refine pure_ (i := 2) (N := some 101) (v := ?_) (a' := ?_) #[true, true, true, false, false, false, false, false, false, false, false, false, false, false, false, false, false, false, false, false, false, false, false, false, false, false, false, false, false, false, false] rfl rfl (by kernel_rfl) (fun _ _ _ h => h) (Or.inl ⟨by rfl, ?_⟩) ?_ ?_
            rotate_left
            · intro w'
              go_simp
              with_reducible rfl
            rotate_left
            · simp only [Act.put, List.setIfInBounds_toArray, List.set_cons_zero, List.set_cons_succ, i64_w, i32_w]
              rfl
            refine pure_ (i := 3) (N := some 102) (v := ?_) (a' := ?_) #[true, true, true, true, false, false, false, false, false, false, false, false, false, false, false, false, false, false, false, false, false, false, false, false, false, false, false, false, false, false, false] rfl rfl (by kernel_rfl) (fun _ _ _ h => h) (Or.inl ⟨by rfl, ?_⟩) ?_ ?_
            rotate_left
            · intro w'
              go_simp
              with_reducible rfl
            rotate_left
            · simp only [Act.put, List.setIfInBounds_toArray, List.set_cons_zero, List.set_cons_succ, i64_w, i32_w]
              rfl
            refine pure_ (i := 5) (N := some 104) (v := ?_) (a' := ?_) #[true, true, true, true, false, true, false, false, false, false, false, false, false, false, false, false, false, false, false, false, false, false, false, false, false, false, false, false, false, false, false] rfl rfl (by kernel_rfl) (fun _ _ _ h => h) (Or.inl ⟨by rfl, ?_⟩) ?_ ?_
            rotate_left
            · intro w'
              go_simp
              with_reducible rfl
            rotate_left
            · simp only [Act.put, List.setIfInBounds_toArray, List.set_cons_zero, List.set_cons_succ, i64_w, i32_w]
              rfl
            refine pure_ (i := 6) (N := some 105) (v := ?_) (a' := ?_) #[true, true, true, true, false, true, true, false, false, false, false, false, false, false, false, false, false, false, false, false, false, false, false, false, false, false, false, false, false, false, false] rfl rfl (by kernel_rfl) (fun _ _ _ h => h) (Or.inl ⟨by rfl, ?_⟩) ?_ ?_
            rotate_left
            · intro w'
              go_simp
              with_reducible rfl
            rotate_left
            · simp only [Act.put, List.setIfInBounds_toArray, List.set_cons_zero, List.set_cons_succ, i64_w, i32_w]
              rfl
            refine pure_ (i := 7) (N := some 106) (v := ?_) (a' := ?_) #[true, true, true, true, false, true, true, true, false, false, false, false, false, false, false, false, false, false, false, false, false, false, false, false, false, false, false, false, false, false, false] rfl rfl (by kernel_rfl) (fun _ _ _ h => h) (Or.inl ⟨by rfl, ?_⟩) ?_ ?_
            rotate_left
            · intro w'
              go_simp
              with_reducible rfl
            rotate_left
            · simp only [Act.put, List.setIfInBounds_toArray, List.set_cons_zero, List.set_cons_succ, i64_w, i32_w]
              rfl
            refine pure_ (i := 9) (N := some 108) (v := ?_) (a' := ?_) #[true, true, true, true, false, true, true, true, false, true, false, false, false, false, false, false, false, false, false, false, false, false, false, false, false, false, false, false, false, false, false] rfl rfl (by kernel_rfl) (fun _ _ _ h => h) (Or.inl ⟨by rfl, ?_⟩) ?_ ?_
            rotate_left
            · intro w'
              go_simp
              with_reducible rfl
            rotate_left
            · simp only [Act.put, List.setIfInBounds_toArray, List.set_cons_zero, List.set_cons_succ, i64_w, i32_w]
              rfl
            refine pure_ (i := 10) (N := some 109) (v := ?_) (a' := ?_) #[true, true, true, true, false, true, true, true, false, true, true, false, false, false, false, false, false, false, false, false, false, false, false, false, false, false, false, false, false, false, false] rfl rfl (by kernel_rfl) (fun _ _ _ h => h) (Or.inl ⟨by rfl, ?_⟩) ?_ ?_
            rotate_left
            · intro w'
              go_simp
              with_reducible rfl
            rotate_left
            · simp only [Act.put, List.setIfInBounds_toArray, List.set_cons_zero, List.set_cons_succ, i64_w, i32_w]
              rfl
            refine pure_ (i := 11) (N := some 110) (v := ?_) (a' := ?_) #[true, true, true, true, false, true, true, true, false, true, true, true, false, false, false, false, false, false, false, false, false, false, false, false, false, false, false, false, false, false, false] rfl rfl (by kernel_rfl) (fun _ _ _ h => h) (Or.inl ⟨by rfl, ?_⟩) ?_ ?_
            rotate_left
            · intro w'
              go_simp
              with_reducible rfl
            rotate_left
            · simp only [Act.put, List.setIfInBounds_toArray, List.set_cons_zero, List.set_cons_succ, i64_w, i32_w]
              rfl
            refine pure_ (i := 16) (N := some 115) (v := ?_) (a' := ?_) #[true, true, true, true, false, true, true, true, false, true, true, true, false, false, false, false, true, false, false, false, false, false, false, false, false, false, false, false, false, false, false] rfl rfl (by kernel_rfl) (fun _ _ _ h => h) (Or.inl ⟨by rfl, ?_⟩) ?_ ?_
            rotate_left
            · intro w'
              go_simp
              with_reducible rfl
            rotate_left
            · simp only [Act.put, List.setIfInBounds_toArray, List.set_cons_zero, List.set_cons_succ, i64_w, i32_w]
              rfl
            refine pure_ (i := 17) (N := some 116) (v := ?_) (a' := ?_) #[true, true, true, true, false, true, true, true, false, true, true, true, false, false, false, false, true, true, false, false, false, false, false, false, false, false, false, false, false, false, false] rfl rfl (by kernel_rfl) (fun _ _ _ h => h) (Or.inl ⟨by rfl, ?_⟩) ?_ ?_
            rotate_left
            · intro w'
              go_simp
              with_reducible rfl
            rotate_left
            · simp only [Act.put, List.setIfInBounds_toArray, List.set_cons_zero, List.set_cons_succ, i64_w, i32_w]
              rfl
            refine pure_ (i := 18) (N := some 117) (v := ?_) (a' := ?_) #[true, true, true, true, false, true, true, true, false, true, true, true, false, false, false, false, true, true, true, false, false, false, false, false, false, false, false, false, false, false, false] rfl rfl (by kernel_rfl) (fun _ _ _ h => h) (Or.inl ⟨by rfl, ?_⟩) ?_ ?_
            rotate_left
            · intro w'
              go_simp
              with_reducible rfl
            rotate_left
            · simp only [Act.put, List.setIfInBounds_toArray, List.set_cons_zero, List.set_cons_succ, i64_w, i32_w]
              rfl
            refine pure_ (i := 20) (N := some 119) (v := ?_) (a' := ?_) #[true, true, true, true, false, true, true, true, false, true, true, true, false, false, false, false, true, true, true, false, true, false, false, false, false, false, false, false, false, false, false] rfl rfl (by kernel_rfl) (fun _ _ _ h => h) (Or.inl ⟨by rfl, ?_⟩) ?_ ?_
            rotate_left
            · intro w'
              go_simp
              with_reducible rfl
            rotate_left
            · simp only [Act.put, List.setIfInBounds_toArray, List.set_cons_zero, List.set_cons_succ, i64_w, i32_w]
              rfl
            refine pure_ (i := 21) (N := some 120) (v := ?_) (a' := ?_) #[true, true, true, true, false, true, true, true, false, true, true, true, false, false, false, false, true, true, true, false, true, true, false, false, false, false, false, false, false, false, false] rfl rfl (by kernel_rfl) (fun _ _ _ h => h) (Or.inl ⟨by rfl, ?_⟩) ?_ ?_
            rotate_left
            · intro w'
              go_simp
              with_reducible rfl
            rotate_left
            · simp only [Act.put, List.setIfInBounds_toArray, List.set_cons_zero, List.set_cons_succ, i64_w, i32_w]
              rfl
            refine pure_ (i := 22) (N := some 121) (v := ?_) (a' := ?_) #[true, true, true, true, false, true, true, true, false, true, true, true, false, false, false, false, true, true, true, false, true, true, true, false, false, false, false, false, false, false, false] rfl rfl (by kernel_rfl) (fun _ _ _ h => h) (Or.inl ⟨by rfl, ?_⟩) ?_ ?_
            rotate_left
            · intro w'
              go_simp
              with_reducible rfl
            rotate_left
            · simp only [Act.put, List.setIfInBounds_toArray, List.set_cons_zero, List.set_cons_succ, i64_w, i32_w]
              rfl
            refine take_ (i := 4) (N := some 103) (v := ?_) (a' := ?_) #[true, true, true, true, true, true, true, true, false, true, true, true, false, false, false, false, true, true, true, false, true, true, true, false, false, false, false, false, false, false, false] rfl rfl (by kernel_rfl) (fun _ _ _ h => h) (Or.inl ⟨by rfl, ?_⟩) hHeld ?_ ?_
            rotate_left
            · rintro w' ⟨s0, s1, s2, s3, s4, s5⟩
              go_simp
              with_reducible rfl
            rotate_left
            · simp only [Act.put, List.setIfInBounds_toArray, List.set_cons_zero, List.set_cons_succ, i64_w, i32_w]
              rfl
            refine take_ (i := 8) (N := some 107) (v := ?_) (a' := ?_) #[true, true, true, true, true, true, true, true, true, true, true, true, false, false, false, false, true, true, true, false, true, true, true, false, false, false, false, false, false, false, false] rfl rfl (by kernel_rfl) (fun _ _ _ h => h) (Or.inl ⟨by rfl, ?_⟩) hHeld ?_ ?_
            rotate_left
            · rintro w' ⟨s0, s1, s2, s3, s4, s5⟩
              go_simp
              with_reducible rfl
            rotate_left
            · simp only [Act.put, List.setIfInBounds_toArray, List.set_cons_zero, List.set_cons_succ, i64_w, i32_w]
              rfl
            refine take_ (i := 12) (N := some 111) (v := ?_) (a' := ?_) #[true, true, true, true, true, true, true, true, true, true, true, true, true, false, false, false, true, true, true, false, true, true, true, false, false, false, false, false, false, false, false] rfl rfl (by kernel_rfl) (fun _ _ _ h => h) (Or.inl ⟨by rfl, ?_⟩) hHeld ?_ ?_
            rotate_left
            · rintro w' ⟨s0, s1, s2, s3, s4, s5⟩
              go_simp
              with_reducible rfl
            rotate_left
            · simp only [Act.put, List.setIfInBounds_toArray, List.set_cons_zero, List.set_cons_succ, i64_w, i32_w]
              rfl
            refine pure_ (i := 13) (N := some 112) (v := ?_) (a' := ?_) #[true, true, true, true, true, true, true, true, true, true, true, true, true, true, false, false, true, true, true, false, true, true, true, false, false, false, false, false, false, false, false] rfl rfl (by kernel_rfl) (fun _ _ _ h => h) (Or.inl ⟨by rfl, ?_⟩) ?_ ?_
            rotate_left
            · intro w'
              go_simp
              with_reducible rfl
            rotate_left
            · simp only [Act.put, List.setIfInBounds_toArray, List.set_cons_zero, List.set_cons_succ, i64_w, i32_w]
              rfl
            refine pure_ (i := 14) (N := some 113) (v := ?_) (a' := ?_) #[true, true, true, true, true, true, true, true, true, true, true, true, true, true, true, false, true, true, true, false, true, true, true, false, false, false, false, false, false, false, false] rfl rfl (by kernel_rfl) (fun _ _ _ h => h) (Or.inl ⟨by rfl, ?_⟩) ?_ ?_
            rotate_left
            · intro w'
              go_simp
              with_reducible rfl
            rotate_left
            · simp only [Act.put, List.setIfInBounds_toArray, List.set_cons_zero, List.set_cons_succ, i64_w, i32_w]
              rfl
            refine take_ (i := 15) (N := some 114) (v := ?_) (a' := ?_) #[true, true, true, true, true, true, true, true, true, true, true, true, true, true, true, true, true, true, true, false, true, true, true, false, false, false, false, false, false, false, false] rfl rfl (by kernel_rfl) (fun _ _ _ h => h) (Or.inl ⟨by rfl, ?_⟩) hHeld ?_ ?_
            rotate_left
            · rintro w' ⟨s0, s1, s2, s3, s4, s5⟩
              go_simp
              with_reducible rfl
            rotate_left
            · simp only [Act.put, List.setIfInBounds_toArray, List.set_cons_zero, List.set_cons_succ, i64_w, i32_w]
              rfl
            refine take_ (i := 19) (N := some 118) (v := ?_) (a' := ?_) #[true, true, true, true, true, true, true, true, true, true, true, true, true, true, true, true, true, true, true, true, true, true, true, false, false, false, false, false, false, false, false] rfl rfl (by kernel_rfl) (fun _ _ _ h => h) (Or.inl ⟨by rfl, ?_⟩) hHeld ?_ ?_
            rotate_left
            · rintro w' ⟨s0, s1, s2, s3, s4, s5⟩
              go_simp
              with_reducible rfl
            rotate_left
            · simp only [Act.put, List.setIfInBounds_toArray, List.set_cons_zero, List.set_cons_succ, i64_w, i32_w]
              rfl
            refine take_ (i := 23) (N := some 122) (v := ?_) (a' := ?_) #[true, true, true, true, true, true, true, true, true, true, true, true, true, true, true, true, true, true, true, true, true, true, true, true, false, false, false, false, false, false, false] rfl rfl (by kernel_rfl) (fun _ _ _ h => h) (Or.inl ⟨by rfl, ?_⟩) hHeld ?_ ?_
            rotate_left
            · rintro w' ⟨s0, s1, s2, s3, s4, s5⟩
              go_simp
              with_reducible rfl
            rotate_left
            · simp only [Act.put, List.setIfInBounds_toArray, List.set_cons_zero, List.set_cons_succ, i64_w, i32_w]
              rfl
            refine pure_ (i := 24) (N := some 123) (v := ?_) (a' := ?_) #[true, true, true, true, true, true, true, true, true, true, true, true, true, true, true, true, true, true, true, true, true, true, true, true, true, false, false, false, false, false, false] rfl rfl (by kernel_rfl) (fun _ _ _ h => h) (Or.inl ⟨by rfl, ?_⟩) ?_ ?_
            rotate_left
            · intro w'
              go_simp
              with_reducible rfl
            rotate_left
            · simp only [Act.put, List.setIfInBounds_toArray, List.set_cons_zero, List.set_cons_succ, i64_w, i32_w]
              rfl
            refine pure_ (i := 25) (N := some 124) (v := ?_) (a' := ?_) #[true, true, true, true, true, true, true, true, true, true, true, true, true, true, true, true, true, true, true, true, true, true, true, true, true, true, false, false, false, false, false] rfl rfl (by kernel_rfl) (fun _ _ _ h => h) (Or.inl ⟨by rfl, ?_⟩) ?_ ?_
            rotate_left
            · intro w'
              go_simp
              with_reducible rfl
            rotate_left
            · simp only [Act.put, List.setIfInBounds_toArray, List.set_cons_zero, List.set_cons_succ, i64_w, i32_w]
              rfl
            refine take_ (i := 26) (N := some 125) (v := ?_) (a' := ?_) #[true, true, true, true, true, true, true, true, true, true, true, true, true, true, true, true, true, true, true, true, true, true, true, true, true, true, true, false, false, false, false] rfl rfl (by kernel_rfl) (fun _ _ _ h => h) (Or.inl ⟨by rfl, ?_⟩) hHeld ?_ ?_
            rotate_left
            · rintro w' ⟨s0, s1, s2, s3, s4, s5⟩
              go_simp
              with_reducible rfl
            rotate_left
            · simp only [Act.put, List.setIfInBounds_toArray, List.set_cons_zero, List.set_cons_succ, i64_w, i32_w]
              rfl
            refine one_ (i := 27) (N := some 126) #[true, true, true, true, true, true, true, true, true, true, true, true, true, true, true, true, true, true, true, true, true, true, true, true, true, true, true, true, false, false, false] rfl rfl (by kernel_rfl) (by decide) (fun K hK => ?_)
            refine goes_ Try.func56 (by kernel_rfl) rfl #[.int .i64 zm, .int .i64 zvx, .int .i64 zvy] (by rfl) rfl rfl (by simp only [List.map_toArray, List.map_cons, List.map_nil]; rfl) ?_
            with_reducible refine (HW.out).mono ?_
            rintro e w3 ⟨rfl, rfl⟩
            refine ⟨_, rfl, ?_⟩
            refine hK.out _ _ ⟨CG.out, CM.out, CX.out, CY.out, CVX.out, CVY.out⟩ (fun hHeld => ?_)
            clear hK K
            refine norm_ (a' := ?_) ?_ ?_
            rotate_left
            · show Act.put _ (some 126) _ = _
              simp only [Act.put, List.setIfInBounds_toArray, List.set_cons_zero, List.set_cons_succ, i64_w, i32_w]
              rfl
            refine pure_ (i := 28) (N := some 127) (v := ?_) (a' := ?_) #[true, true, true, true, true, true, true, true, true, true, true, true, true, true, true, true, true, true, true, true, true, true, true, true, true, true, true, true, true, false, false] rfl rfl (by kernel_rfl) (fun _ _ _ h => h) (Or.inl ⟨by rfl, ?_⟩) ?_ ?_
            rotate_left
            · intro w'
              go_simp
              with_reducible rfl
            rotate_left
            · simp only [Act.put, List.setIfInBounds_toArray, List.set_cons_zero, List.set_cons_succ, i64_w, i32_w]
              rfl
            refine pure_ (i := 29) (N := some 128) (v := ?_) (a' := ?_) #[true, true, true, true, true, true, true, true, true, true, true, true, true, true, true, true, true, true, true, true, true, true, true, true, true, true, true, true, true, true, false] rfl rfl (by kernel_rfl) (fun _ _ _ h => h) (Or.inl ⟨by rfl, ?_⟩) ?_ ?_
            rotate_left
            · intro w'
              go_simp
              with_reducible rfl
            rotate_left
            · simp only [Act.put, List.setIfInBounds_toArray, List.set_cons_zero, List.set_cons_succ, i64_w, i32_w]
              rfl
            refine last_ (i := 30) (N := none) #[true, true, true, true, true, true, true, true, true, true, true, true, true, true, true, true, true, true, true, true, true, true, true, true, true, true, true, true, true, true, true] rfl rfl (by kernel_rfl) (by decide) (fun K hK => ?_)
            refine skip_ (w1 := ?_) (by rfl) rfl ?_ ?_
            rotate_left
            · go_simp
              rfl
            rw [← HZU.out] at HPut HGX HF2
            generalize hwX : World.setCell _ _ _ = wX at HPut HGX HF2 ⊢
            clear hwX hc1d hz1d
            refine hK.out _ _ ?_
            clear hK K
            refine done_ (by kernel_rfl) ?_
            rw [HZU.out] at HPut
            have hl4 : (L3.set u ((gT L3 u).setVal qv)).length = L3.length := List.length_set
            obtain ⟨v4, oki4, he4⟩ := HPut.out.1.book.at_ HGX.out u (by rw [hl4]; exact HUN.out)
            have hc4 : wX.cell? ⟨gr, zu.toNat * 5 + 1, none⟩ = some (.int .i64 zq) := by
              have h := he4.c1
              rw [get_set_self _ HUN.out] at h
              rw [HZU.out, HZQ.out]
              exact h
            have K4 := Aside0.mk (KD.out.trans HPut.out.2)
            have ST4 := Aside0.mk HPut.out.1
            have L4 : Aside0 ((L3.set u ((gT L3 u).setVal qv)).length = N) := ⟨by rw [hl4]; exact hlen3.out⟩
            have hq2 : qv ≤ 2 := by rw [HQV.out]; exact worth_le _ _ _
            clear HPut HGX he4 hl4 hk hst hF x0 x1 y0 y1 u0 u1 HW CG CM CX CY CVX CVY C1 Z1 HE
            by_cases hq0 : qv = 0
            · have hz0 : zq = 0 := by have := HZQ.out; omega
              have hin2 : Aside0 (inner (clear L2 t) ts us = inner (L3.set u ((gT L3 u).setVal qv)) todo (us.drop (i + 1))) := ⟨by rw [hin.out, hq0]; exact inner_zero HV.out (by rw [← HQV.out]; exact hq0)⟩
              have hmid2 : Aside0 (Mid (L3.set u ((gT L3 u).setVal qv)) todo (us.drop (i + 1))) := ⟨by rw [hq0, set_zero HV.out]; exact mid_skip hmid.out (.inr (by rw [← HQV.out]; exact hq0))⟩
              have hmn : Aside0 (todo.length + unk (L3.set u ((gT L3 u).setVal qv)) ≤ N + 1) := ⟨by rw [hq0, set_zero HV.out]; exact hmany3.out⟩
              subst hz0
              clear hq0 hq2
              have i0 := HI1.out.1
              have i1 := HI1.out.2
              go_wp2_with fail
              go_roundg (n2 - (i + 1))
              case measure => have := hi.out; have := C5.out; omega
              case rel => exact ⟨i + 1, _, todo, ⟨by have := C5.out; omega⟩, by rw [I1.out], hin2, hmid2, L4, hmn, ST4, HF2, K4⟩
            · have hz0 : (zq != 0) = true := by have := HZQ.out; simp; omega
              have hin2 : Aside0 (inner (clear L2 t) ts us = inner (L3.set u ((gT L3 u).setVal qv)) (todo ++ [u]) (us.drop (i + 1))) := ⟨by rw [hin.out]; exact inner_new HV.out HQV.out hq0⟩
              have hmid2 : Aside0 (Mid (L3.set u ((gT L3 u).setVal qv)) (todo ++ [u]) (us.drop (i + 1))) := ⟨(mid_known hmid.out HV.out qv HQV.out hq0).1⟩
              have hmn : Aside0 ((todo ++ [u]).length + unk (L3.set u ((gT L3 u).setVal qv)) ≤ N + 1) := ⟨by
                have h1 := unk_set HUN.out ((gT L3 u).setVal qv) HV.out hq0
                have h2 := hmany3.out
                rw [List.length_append, List.length_singleton]
                omega⟩
              have hln : Aside0 (((nats todo).length + 1) * 8 ≤ 140737488355328) := ⟨by
                have h2 := hmany3.out
                have h3 := HL.out
                have h4 := HN.out
                simp [nats]
                omega⟩
              clear hq0 hq2
              have HFx : Aside0 (∀ k, wX.heap.size ≤ k → k ≠ g ∧ P k ∧ some k ≠ (Value.slice (some ad) n2 c0).ownBlock) := ⟨fun k hk => ⟨fun he => by have := ST4.out.book.lt; omega, HF.out k (Nat.le_trans K4.out.1 hk), fun he => by have := ST4.out.old k he.symm; omega⟩⟩
              go_wp2_with (first | (at_builtin; refine Kd.Q_append (Kd.int .i64) (w0 := w0) w0.heap.size rfl (.tmp 134) (.tmp 136) 42 3 (.int .i64 0) 8 rfl Try.underlying42 info3 rfl (by decide) (by decide) _ (nats todo) zu [.int .i64 zu] (fun k => k ≠ g ∧ P k ∧ some k ≠ (Value.slice (some ad) n2 c0).ownBlock) (fun _ => False) rfl rfl rfl (fun _ h => h.elim) HFx.out ST4.out.row ST4.out.below ST4.out.below.size hln.out ?_; intro v1 w1 hq hB hgr hat; have hpu := ST4.out.push (x := u) (by rw [← HZI.out]; exact hq) hB hgr hat; have ST5 := Aside0.mk hpu.1; have K5 := Aside0.mk (K4.out.trans hpu.2); have F5 := Aside0.mk (Kd.F_grown HF2.out hgr (fun k hk he2 => (Kd.Q_ok ST4.out.row k he2.symm).2.2 hk)); clear hq hB hgr hat hpu ST4 K4 HF2 hc4; have i0 := HI1.out.1; have i1 := HI1.out.2))
              go_roundg (n2 - (i + 1))
              case measure => have := hi.out; have := C5.out; omega
              case rel => exact ⟨i + 1, _, _, ⟨by have := C5.out; omega⟩, by rw [I1.out], hin2, hmid2, L4, hmn, ST5, F5, K5⟩
          · have hv0 : (val != 0) = true := by simp; omega
            have hin2 : Aside0 (inner (clear L2 t) ts us = inner L3 todo (us.drop (i + 1))) := ⟨by rw [hin.out]; exact inner_known hv⟩
            have hmid2 : Aside0 (Mid L3 todo (us.drop (i + 1))) := ⟨mid_skip hmid.out (.inl hv)⟩
            have HZUN := Aside0.mk hzun
            clear hgrid he hg hzun hzu hv hdr huN hum hpar hkin hzi hiu hu hru c5 hval
            replace i0 := eq_true i0
            replace i1 := eq_true i1
            replace u0 := eq_true u0
            replace u1 := eq_true u1
            have j0 := HI1.out.1
            have j1 := HI1.out.2
            go_wp2_with fail
            go_roundg (n2 - (i + 1))
            case measure => have := hi.out; have := C5.out; omega
            case rel => exact ⟨i + 1, L3, todo, ⟨by have := C5.out; omega⟩, by rw [I1.out], hin2, hmid2, hlen3, hmany3, hst, hF, hk⟩
        · have hin2 : i = us.length := by have := hi.out; have := HNU.out; omega
          have q5 : decide ((i : Int) < (n2 : Int)) = false := by simp; omega
          have hfin : inner (clear L2 t) ts us = (L3, todo) := by have := hin.out; rw [hin2, List.drop_length] at this; exact this
          have hmid3 : Aside0 (Mid L3 todo []) := ⟨by have := hmid.out; rw [hin2, List.drop_length] at this; exact this⟩
          have HP3 : Aside0 (prop q L3 todo = some L') := ⟨by have := HP2.out; rw [hfin] at this; exact this⟩
          obtain ⟨zi, hzi⟩ : ∃ zi : Int, zi = (i : Int) := ⟨_, rfl⟩
          rw [← hzi] at q5 ⊢
          clear hin2 hfin c5 hzi hin hi
          go_wp2_with fail
          go_roundg q
          case measure => have := HQ.out; omega
          case rel => exact ⟨L3, todo, HP3, hmid3, hlen3, hmany3, ⟨hst.out.forget⟩, hk⟩
end Go.Proofs.Ytjfoppmpiklfiab.BookW
