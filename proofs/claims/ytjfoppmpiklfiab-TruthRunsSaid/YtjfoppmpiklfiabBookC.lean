/- Contracts of the book of things: New, two, And, Or. Conditions: none. -/
import Derived.Test.YtjfoppmpiklfiabBookB
namespace Go.Proofs.Ytjfoppmpiklfiab.BookW
open Go.RowKit Go.Proofs.YtjfoppmpiklfiabW.PrintWords Go.Proofs.YtjfoppmpiklfiabW.PrintLast Go.Proofs.YtjfoppmpiklfiabW.PrintMore Go.Proofs.Ytjfoppmpiklfiab.PTruthRuns Go.Proofs.Ytjfoppmpiklfiab.Truth
set_option linter.unusedVariables false
set_option linter.unusedSimpArgs false
def newL : List T := [⟨0, 2, 0, 0, []⟩, ⟨0, 1, 0, 0, []⟩]
theorem new_lit (w0 W : World) (hb : w0.heap.size ≤ W.heap.size) (P : Nat → Prop) (hf : ∀ k, W.heap.size ≤ k → P k) :
    IsB w0 ((W.alloc (.cells #[.int .i64 0, .int .i64 2, .int .i64 0, .int .i64 0, .slice none 0 0, .int .i64 0, .int .i64 1, .int .i64 0, .int .i64 0, .slice none 0 0] 65)).alloc (.cells #[.slice (some ⟨W.heap.size, 0, none⟩) 2 2] 68)) (W.heap.size + 1) P newL := by
  obtain ⟨W1, hW1⟩ : ∃ W1, W1 = W.alloc (.cells #[.int .i64 0, .int .i64 2, .int .i64 0, .int .i64 0, .slice none 0 0, .int .i64 0, .int .i64 1, .int .i64 0, .int .i64 0, .slice none 0 0] 65) := ⟨_, rfl⟩
  have hs : W1.heap.size = W.heap.size + 1 := by rw [hW1]; simp
  have ho : W1.ownsRow w0.heap.size 65 5 (.slice (some ⟨W.heap.size, 0, none⟩) 2 2) 2 [.int .i64 0, .int .i64 2, .int .i64 0, .int .i64 0, .slice none 0 0, .int .i64 0, .int .i64 1, .int .i64 0, .int .i64 0, .slice none 0 0] := by
    rw [hW1]
    exact World.ownsRow_lit (base := w0.heap.size) (e := 65) (size := 5) W #[.int .i64 0, .int .i64 2, .int .i64 0, .int .i64 0, .slice none 0 0, .int .i64 0, .int .i64 1, .int .i64 0, .int .i64 0, .slice none 0 0] 2 hb (by decide) rfl
  have hS : Kd.S k65 65 W1 w0.heap.size (fun k => k ≠ W.heap.size + 1 ∧ P k) (.slice (some ⟨W.heap.size, 0, none⟩) 2 2) (newL.map enc) := by
    refine Kd.S_bare ⟨fun k hk => ?_, _, ho, rfl, fun j p hj => ?_⟩
    · have : W.heap.size = k := by simpa [Value.ownBlock] using hk
      subst this
      exact ⟨by omega, hf _ (Nat.le_refl _)⟩
    · match j, hj with
      | 0, hj => obtain rfl := Option.some.inj hj; exact made_M _ _ 0 2 0 0
      | 1, hj => obtain rfl := Option.some.inj hj; exact made_M _ _ 0 1 0 0
  rw [← hW1]
  refine ⟨_, ?_, by omega, Kd.S_alloc hS _⟩
  rw [← hs]
  exact heap_alloc_new W1 _
theorem new_calls (w0 w : World) (hB : Below w0.heap.size w0 w) (P : Nat → Prop) (hf : ∀ k, w.heap.size ≤ k → P k) :
    Calls Try.prog 30 #[] w fun e w' => e = .returned (.pointer (some ⟨w.heap.size + 1, 0, none⟩)) ∧ IsB w0 w' (w.heap.size + 1) P newL ∧ Below w.heap.size w w' ∧ w'.heap.size = w.heap.size + 2 := by
  have HI := Aside0.mk (new_lit w0 w hB.size P hf)
  clear hB hf
  go_enter Try.func30, Try.ntmps30
  go_wp2
  go_ret
  exact ⟨by simp, HI.out, below_alloc (below_alloc (Below.refl _ _) _) _, by simp⟩
/-- A thing with one more made of it. -/
theorem IsB.upped {w0 W w1 : World} {g gr c i n : Nat} {P oki : Nat → Prop} {L : List T} {v v1 : Value} (hi : i < L.length) (hg : W.heap[g]? = some (.cells #[.slice (some ⟨gr, 0, none⟩) L.length c] 68 (0, 0))) (hb : w0.heap.size ≤ g)
    (hf : ∀ k, W.heap.size ≤ k → P k) (hok : ∀ k, oki k → (k ≠ g ∧ P k) ∧ k ≠ gr) (hne : gr ≠ g) (hPg : P gr) (hbg : w0.heap.size ≤ gr)
    (hR0 : (Kd.int .i64).R 3 W w0.heap.size oki v (nats (gT L i).ups))
    (hH : Kd.H k65 65 W w0.heap.size (fun k => k ≠ g ∧ P k) (.slice (some ⟨gr, 0, none⟩) L.length c) (L.map enc) (i : Int) oki [.int .i64 (gT L i).made, .int .i64 (gT L i).val, .int .i64 (gT L i).x, .int .i64 (gT L i).y, v])
    (hR : (Kd.int .i64).R 3 w1 w0.heap.size (fun k => oki k ∨ (k ≠ g ∧ P k) ∧ W.heap.size ≤ k) v1 (nats (gT L i).ups ++ [(n : Int)])) (hB : Below w0.heap.size w0 w1) (hgr : W.grownBy w1 v.ownBlock) :
    IsB w0 (w1.setCell ⟨gr, i * 5 + 4, none⟩ v1) g P (addUp L i n) ∧ Below w0.heap.size w0 (w1.setCell ⟨gr, i * 5 + 4, none⟩ v1) ∧ KeepB g P W (w1.setCell ⟨gr, i * 5 + 4, none⟩ v1) := by
  have hvo : ∀ k, v.ownBlock = some k → oki k := fun k hk => hR0.1 k hk
  have hH1 := Kd.H_grown (Kd.H_widen hH) hgr (fun k hk => .inl (hvo k hk))
  have hs := Kd.S_seg0 hH1 (by omega) (by omega) (seg := [v1]) (j := 4) (show 4 + 1 ≤ 5 by decide) (x' := enc ((gT L i).setUps ((gT L i).ups ++ [n]))) (okp := fun k => oki k ∨ (k ≠ g ∧ P k) ∧ W.heap.size ≤ k)
    (k65_mkM w1 w0.heap.size _ (enc ((gT L i).setUps ((gT L i).ups ++ [n]))) (by
      have e : (enc ((gT L i).setUps ((gT L i).ups ++ [n]))).f4 = nats (gT L i).ups ++ [(n : Int)] := by simp [enc, T.setUps, nats]
      rw [e]; exact hR)) (fun _ h => h)
  obtain ⟨hS, hg2⟩ := hs
  rw [Int.toNat_natCast] at hS hg2
  rw [show (L.map enc).set i (enc ((gT L i).setUps ((gT L i).ups ++ [n]))) = (addUp L i n).map enc by unfold addUp; rw [List.map_set]] at hS
  have e1 : w1.setCells gr (i * (k65).sz + 4) [v1] = w1.setCell ⟨gr, i * 5 + 4, none⟩ v1 := setCells_one _ _ _ _
  rw [e1] at hS hg2
  have hk1 := blk_grown hg hgr (fun he => (hok g (hvo g he.symm)).1.1 rfl)
  refine ⟨⟨_, ?_, hb, hS⟩, below_set hB hbg, ⟨?_, fun k hk hkg hkP => ?_⟩⟩
  · exact blk_far hk1 (p := ⟨gr, i * 5 + 4, none⟩) (fun he => hne he.symm) v1
  · simp [World.setCell]
    exact hgr.size
  · rw [Below.heap_setCell w1 ⟨gr, i * 5 + 4, none⟩ v1 k (fun he => hkP (by have he' : k = gr := he; rw [he']; exact hPg))]
    refine hgr.block k hk (fun he => ?_)
    exact hkP (hok k (hvo k he.symm)).1.2
theorem IsB.drewK {w0 W : World} {g : Nat} {P : Nat → Prop} {L : List T} (h : IsB w0 W g P L) (hB : Below w0.heap.size w0 W) : IsB w0 W.drew g P L ∧ Below w0.heap.size w0 W.drew ∧ KeepB g P W W.drew := ⟨h.drew, below_drew hB, KeepB.of_below (below_drew (Below.refl _ _))⟩

theorem two_one {L : List T} {m : Nat} {x y : Int} (h : worth m (valT L x) (valT L y) ≠ 0) : two L m x y = (L, ownOf x (worth m (valT L x) (valT L y))) := by
  have h2 := worth_le m (valT L x) (valT L y)
  unfold two ownOf
  generalize worth m (valT L x) (valT L y) = q at h h2 ⊢
  have : q = 1 ∨ q = 2 := by omega
  rcases this with rfl | rfl <;> simp
theorem two_y {L : List T} {m : Nat} {x y : Int} (h : worth m (valT L x) (valT L y) = 0) (hv : valT L x ≠ 0) : two L m x y = (L, y) := by
  unfold two
  rw [h]
  simp [hv]
theorem two_x {L : List T} {m : Nat} {x y : Int} (h : worth m (valT L x) (valT L y) = 0) (hv : valT L x = 0) (hu : valT L y ≠ 0 ∨ x = y) : two L m x y = (L, x) := by
  unfold two
  rw [h, if_neg (by simp), if_neg (by simp), if_neg (by simp [hv]), if_pos hu]
theorem two_n {L : List T} {m : Nat} {x y : Int} (h : worth m (valT L x) (valT L y) = 0) (hv : valT L x = 0) (hu : valT L y = 0) (hxy : x ≠ y) : two L m x y = (addUp (addUp (L ++ [⟨m, 0, x.toNat, y.toNat, []⟩]) x.toNat L.length) y.toNat L.length, (L.length : Int)) := by
  unfold two
  rw [h, if_neg (by simp), if_neg (by simp), if_neg (by simp [hv]), if_neg (by simp [hu, hxy])]
theorem in_of_zero {L : List T} {x : Int} (h : valT L x = 0) : 0 ≤ x ∧ x < L.length := by
  unfold valT at h
  split at h
  · omega
  · omega
theorem addUp_len (L : List T) (p n : Nat) : (addUp L p n).length = L.length := List.length_set
set_option maxHeartbeats 16000000 in
set_option maxRecDepth 100000 in
theorem two_new (g : Nat) (P : Nat → Prop) (L : List T) (m : Nat) (x y : Int) (w0 w : World) (hI : IsB w0 w g P L) (hf : ∀ k, w.heap.size ≤ k → P k) (hB : Below w0.heap.size w0 w) (hl : L.length < 1000000) (hm : m = 2 ∨ m = 3)
    (hv : valT L x = 0) (hu : valT L y = 0) (hxy : x ≠ y) (hups : ∀ k, (gT L k).ups.length ≤ 4000000) :
    Calls Try.prog 55 #[.pointer (some ⟨g, 0, none⟩), .int .i64 (m : Int), .int .i64 x, .int .i64 y] w fun e w' => e = .returned (.int .i64 L.length) ∧ IsB w0 w' g P (addUp (addUp (L ++ [⟨m, 0, x.toNat, y.toNat, []⟩]) x.toNat L.length) y.toNat L.length) ∧ Below w0.heap.size w0 w' ∧ KeepB g P w w' := by
  have HV := Aside0.mk (value_calls g P L x w0 w hI)
  have HU := Aside0.mk (value_calls g P L y w0 w hI)
  rw [hv] at HV
  rw [hu] at HU
  have HW := Aside0.mk (worth_calls m 0 0 hm (by omega) (by omega) w)
  have hw0 : worth m 0 0 = 0 := by rcases hm with rfl | rfl <;> rfl
  rw [hw0] at HW
  obtain ⟨x0, x1⟩ := in_of_zero hv
  obtain ⟨y0, y1⟩ := in_of_zero hu
  have HX := Aside0.mk (And.intro x0 x1)
  have HY := Aside0.mk (And.intro y0 y1)
  have q0 : (x == y) = false := by simp [hxy]
  obtain ⟨A, c, hg, hb, hS⟩ := hI.slice
  have HG := Aside0.mk hg
  have HBG := Aside0.mk hb
  have HS := Aside0.mk hS
  have HF := Aside0.mk hf
  have HB0 := Aside0.mk hB
  have HL := Aside0.mk hl
  have HLT := Aside0.mk hI.lt
  have HUps := Aside0.mk hups
  have c0 := (blk_cell hg 0).trans rfl
  have z0 := blk_frozen hg 0
  obtain ⟨mi, hmi⟩ : ∃ mi : Int, mi = (m : Int) := ⟨_, rfl⟩
  have M_ : ∀ (W : World), k65.M W w0.heap.size (fun _ => False) (enc ⟨m, 0, x.toNat, y.toNat, []⟩) [.int .i64 mi, .int .i64 0, .int .i64 x, .int .i64 y, .slice none 0 0] := fun W => by
    have h := made_M W w0.heap.size m 0 x.toNat y.toNat
    rw [Int.toNat_of_nonneg x0, Int.toNat_of_nonneg y0, ← hmi] at h
    exact h
  have HM := Aside0.mk M_
  rw [← hmi] at HW ⊢
  clear hg hb hS hf hB hl hI hv hu hxy x0 x1 y0 y1 hw0 hm hmi M_ hups
  go_enter Try.func55, Try.ntmps55
  go_upto_region 10 with (first | (go_at_call_of 38 (Value.int .i64 x); refine HV.out.mono ?_; rintro e w1 ⟨rfl, rfl⟩) | (go_at_call_of 38 (Value.int .i64 y); refine HU.out.mono ?_; rintro e w1 ⟨rfl, rfl⟩) | (go_at_call 56; refine HW.out.mono ?_; rintro e w1 ⟨rfl, rfl⟩) | (at_builtin; refine Kd.S_append k65 (w0 := w0) w0.heap.size rfl (.tmp 47) (.tmp 52) 66 65 _ 56 rfl Try.underlying66 info65 rfl (by decide) (by decide) _ (L.map enc) (enc ⟨m, 0, x.toNat, y.toNat, []⟩) _ (fun k => k ≠ g ∧ P k) (fun _ => False) rfl rfl (HM.out _) (fun _ h => h.elim) (fun k hk => ⟨by have := HLT.out; omega, HF.out k hk⟩) (Kd.S_mono HS.out (fun k hk => ⟨hk, fun h => h⟩)) HB0.out HB0.out.size (by rw [List.length_map]; have := HL.out; omega) ?_; intro v1 w1 hS hB hgr hat; obtain ⟨A1, cc1, rfl⟩ := Kd.S_slice hS; have HA := Aside0.mk (IsB.appended HG.out HBG.out HS.out hS hB hgr); have hk := blk_grown HG.out hgr (Kd.S_ne HS.out HG.out (by decide)); have z0 := blk_frozen hk 0; have c0 := (blk_cell hk 0).trans rfl; clear hS hB hgr hat hk))
  rw [List.length_append, List.length_map, List.length_singleton] at HA
  clear c0 z0 HV HU HW HM HS HG
  obtain ⟨L1, hL1⟩ : ∃ L1, L1 = L ++ [(⟨m, 0, x.toNat, y.toNat, []⟩ : T)] := ⟨_, rfl⟩
  rw [← hL1] at HA
  have HL1 := Aside0.mk hL1
  have hL1l : L1.length = L.length + 1 := by rw [hL1]; simp
  have hL1u : ∀ k, (gT L1 k).ups.length ≤ 4000000 := fun k => by
    rw [hL1]
    by_cases hk : k < L.length
    · rw [get_app _ hk]; exact HUps.out k
    · by_cases hk2 : k = L.length
      · rw [hk2, get_last]; simp
      · unfold gT; rw [List.getD_eq_getElem?_getD, List.getElem?_eq_none (by simp; omega)]; simp [none_]
  have hL1n : ∀ L', L'.length = L1.length → (gT L' x.toNat).ups.length ≤ 4000001 → True := fun _ _ _ => trivial
  obtain ⟨N, hN⟩ : ∃ N, N = L.length + 1 := ⟨_, rfl⟩
  rw [← hN] at HA hL1l ⊢
  generalize hw : w1.setCell _ _ = w2 at HA ⊢
  have HI2 := Aside0.mk HA.out.1
  have HB2 := Aside0.mk HA.out.2.1
  have HK2 := Aside0.mk HA.out.2.2
  obtain ⟨A2, c2, hg2, -, -⟩ := HA.out.1.slice
  have c0 := (blk_cell hg2 0).trans rfl
  have HLL := Aside0.mk hL1l
  have HLU := Aside0.mk hL1u
  have HN := Aside0.mk hN
  rw [hL1l] at c0
  clear hw hg2 HA hL1l hL1u hL1n hL1 hN
  have n1 : N < 2000000 := by have := HL.out; have := HN.out; omega
  go_upto_region 11 with (fail)
  clear c0
  obtain ⟨n, hn⟩ : ∃ n : Int, n = (L.length : Int) := ⟨_, rfl⟩
  rw [show ((N : Int) - 1) = n by have := HN.out; omega]
  have HNN := Aside0.mk hn
  clear hn n1
  have hfx : ∀ k, w2.drew.heap.size ≤ k → P k := fun k hk => HF.out k (Nat.le_trans HK2.out.1 hk)
  obtain ⟨gr, c, v, oki, hg, hb, hR, d0, d1, d2, d3, d4, hfr, hok, hne, hPg, hbg, hH⟩ := (HI2.out.drew).elem x.toNat (by have := HX.out; rw [HLL.out]; have := HN.out; omega)
  obtain ⟨us, hus⟩ : ∃ us, us = (gT L1 x.toNat).ups := ⟨_, rfl⟩
  have HLen : Aside0 (((nats us).length + 1) * 8 ≤ 140737488355328) := ⟨by have := HLU.out x.toNat; rw [hus]; simp [nats]; omega⟩
  have HUS := Aside0.mk hus
  rw [← hus] at hR
  have HR := Aside0.mk hR
  have HB := Aside0.mk (below_drew HB2.out)
  have C0 := Aside0.mk ((blk_cell hg 0).trans rfl)
  have C4 := Aside0.mk d4
  have Z4 := Aside0.mk (hfr 4)
  have HE := Aside0.mk (And.intro hg (And.intro hb (And.intro hok (And.intro hne (And.intro hPg (And.intro hbg hH))))))
  have HFx := Aside0.mk hfx
  have HLTx := Aside0.mk (HI2.out.drew.lt)
  have HNo : Aside0 (some g ≠ v.ownBlock ∧ some gr ≠ v.ownBlock ∧ gr < w2.drew.heap.size) := ⟨fun he => (hok g (hR.1 g he.symm)).1.1 rfl, fun he => (hok gr (hR.1 gr he.symm)).2 rfl, World.block_lt_of_cell? _ _ d0⟩
  have px := HX.out
  have x0 : 0 ≤ x := px.1
  have x1 : x < (N : Int) := by have := HN.out; omega
  rw [show L1.length = N from HLL.out] at C0
  clear hg hb hR d0 d1 d2 d3 d4 hfr hok hne hPg hbg hH hus hfx px
  replace x0 := eq_true x0
  replace x1 := eq_true x1
  refine start_ (n := 19) (S := fun w' => w'.cell? ⟨g, 0, none⟩ = some (.slice (some ⟨gr, 0, none⟩) N c) ∧ w'.cell? ⟨gr, x.toNat * 5 + 4, none⟩ = some v) (ds := [18]) #[false, false, false, false, false, false, false, false, false, false, false, false, false, false, false, false, false, false, false] (by kernel_rfl) rfl rfl ⟨C0.out, C4.out⟩ (fun hHeld => ?_)
  refine pure_ (i := 0) (N := some 62) (v := ?_) (a' := ?_) #[true, false, false, false, false, false, false, false, false, false, false, false, false, false, false, false, false, false, false] rfl rfl (by kernel_rfl) (fun _ _ _ h => h) (Or.inl ⟨by rfl, ?_⟩) ?_ ?_
  rotate_left
  · intro w'
    go_simp
    with_reducible rfl
  rotate_left
  · simp only [Act.put, List.setIfInBounds_toArray, List.set_cons_zero, List.set_cons_succ, i64_w, i32_w]
    rfl
  refine pure_ (i := 1) (N := some 63) (v := ?_) (a' := ?_) #[true, true, false, false, false, false, false, false, false, false, false, false, false, false, false, false, false, false, false] rfl rfl (by kernel_rfl) (fun _ _ _ h => h) (Or.inl ⟨by rfl, ?_⟩) ?_ ?_
  rotate_left
  · intro w'
    go_simp
    with_reducible rfl
  rotate_left
  · simp only [Act.put, List.setIfInBounds_toArray, List.set_cons_zero, List.set_cons_succ, i64_w, i32_w]
    rfl
  refine pure_ (i := 2) (N := some 64) (v := ?_) (a' := ?_) #[true, true, true, false, false, false, false, false, false, false, false, false, false, false, false, false, false, false, false] rfl rfl (by kernel_rfl) (fun _ _ _ h => h) (Or.inl ⟨by rfl, ?_⟩) ?_ ?_
  rotate_left
  · intro w'
    go_simp
    with_reducible rfl
  rotate_left
  · simp only [Act.put, List.setIfInBounds_toArray, List.set_cons_zero, List.set_cons_succ, i64_w, i32_w]
    rfl
  refine pure_ (i := 4) (N := some 66) (v := ?_) (a' := ?_) #[true, true, true, false, true, false, false, false, false, false, false, false, false, false, false, false, false, false, false] rfl rfl (by kernel_rfl) (fun _ _ _ h => h) (Or.inl ⟨by rfl, ?_⟩) ?_ ?_
  rotate_left
  · intro w'
    go_simp
    with_reducible rfl
  rotate_left
  · simp only [Act.put, List.setIfInBounds_toArray, List.set_cons_zero, List.set_cons_succ, i64_w, i32_w]
    rfl
  refine pure_ (i := 5) (N := some 67) (v := ?_) (a' := ?_) #[true, true, true, false, true, true, false, false, false, false, false, false, false, false, false, false, false, false, false] rfl rfl (by kernel_rfl) (fun _ _ _ h => h) (Or.inl ⟨by rfl, ?_⟩) ?_ ?_
  rotate_left
  · intro w'
    go_simp
    with_reducible rfl
  rotate_left
  · simp only [Act.put, List.setIfInBounds_toArray, List.set_cons_zero, List.set_cons_succ, i64_w, i32_w]
    rfl
  refine pure_ (i := 6) (N := some 68) (v := ?_) (a' := ?_) #[true, true, true, false, true, true, true, false, false, false, false, false, false, false, false, false, false, false, false] rfl rfl (by kernel_rfl) (fun _ _ _ h => h) (Or.inl ⟨by rfl, ?_⟩) ?_ ?_
  rotate_left
  · intro w'
    go_simp
    with_reducible rfl
  rotate_left
  · simp only [Act.put, List.setIfInBounds_toArray, List.set_cons_zero, List.set_cons_succ, i64_w, i32_w]
    rfl
  refine pure_ (i := 7) (N := some 69) (v := ?_) (a' := ?_) #[true, true, true, false, true, true, true, true, false, false, false, false, false, false, false, false, false, false, false] rfl rfl (by kernel_rfl) (fun _ _ _ h => h) (Or.inl ⟨by rfl, ?_⟩) ?_ ?_
  rotate_left
  · intro w'
    go_simp
    with_reducible rfl
  rotate_left
  · simp only [Act.put, List.setIfInBounds_toArray, List.set_cons_zero, List.set_cons_succ, i64_w, i32_w]
    rfl
  refine pure_ (i := 9) (N := some 71) (v := ?_) (a' := ?_) #[true, true, true, false, true, true, true, true, false, true, false, false, false, false, false, false, false, false, false] rfl rfl (by kernel_rfl) (fun _ _ _ h => h) (Or.inl ⟨by rfl, ?_⟩) ?_ ?_
  rotate_left
  · intro w'
    go_simp
    with_reducible rfl
  rotate_left
  · simp only [Act.put, List.setIfInBounds_toArray, List.set_cons_zero, List.set_cons_succ, i64_w, i32_w]
    rfl
  refine pure_ (i := 13) (N := some 75) (v := ?_) (a' := ?_) #[true, true, true, false, true, true, true, true, false, true, false, false, false, true, false, false, false, false, false] rfl rfl (by kernel_rfl) (fun _ _ _ h => h) (Or.inl ⟨by rfl, ?_⟩) ?_ ?_
  rotate_left
  · intro w'
    go_simp
    with_reducible rfl
  rotate_left
  · simp only [Act.put, List.setIfInBounds_toArray, List.set_cons_zero, List.set_cons_succ, i64_w, i32_w]
    rfl
  refine take_ (i := 3) (N := some 65) (v := ?_) (a' := ?_) #[true, true, true, true, true, true, true, true, false, true, false, false, false, true, false, false, false, false, false] rfl rfl (by kernel_rfl) (fun _ _ _ h => h) (Or.inl ⟨by rfl, ?_⟩) hHeld ?_ ?_
  rotate_left
  · rintro w' ⟨s0, s1⟩
    go_simp
    with_reducible rfl
  rotate_left
  · simp only [Act.put, List.setIfInBounds_toArray, List.set_cons_zero, List.set_cons_succ, i64_w, i32_w]
    rfl
  refine take_ (i := 8) (N := some 70) (v := ?_) (a' := ?_) #[true, true, true, true, true, true, true, true, true, true, false, false, false, true, false, false, false, false, false] rfl rfl (by kernel_rfl) (fun _ _ _ h => h) (Or.inl ⟨by rfl, ?_⟩) hHeld ?_ ?_
  rotate_left
  · rintro w' ⟨s0, s1⟩
    go_simp
    with_reducible rfl
  rotate_left
  · simp only [Act.put, List.setIfInBounds_toArray, List.set_cons_zero, List.set_cons_succ, i64_w, i32_w]
    rfl
  refine pure_ (i := 10) (N := some 72) (v := ?_) (a' := ?_) #[true, true, true, true, true, true, true, true, true, true, true, false, false, true, false, false, false, false, false] rfl rfl (by kernel_rfl) (fun _ _ _ h => h) (Or.inl ⟨by rfl, ?_⟩) ?_ ?_
  rotate_left
  · intro w'
    go_simp
    with_reducible rfl
  rotate_left
  · simp only [Act.put, List.setIfInBounds_toArray, List.set_cons_zero, List.set_cons_succ, i64_w, i32_w]
    rfl
  refine pure_ (i := 11) (N := some 73) (v := ?_) (a' := ?_) #[true, true, true, true, true, true, true, true, true, true, true, true, false, true, false, false, false, false, false] rfl rfl (by kernel_rfl) (fun _ _ _ h => h) (Or.inl ⟨by rfl, ?_⟩) ?_ ?_
  rotate_left
  · intro w'
    go_simp
    with_reducible rfl
  rotate_left
  · simp only [Act.put, List.setIfInBounds_toArray, List.set_cons_zero, List.set_cons_succ, i64_w, i32_w]
    rfl
  refine take_ (i := 12) (N := some 74) (v := ?_) (a' := ?_) #[true, true, true, true, true, true, true, true, true, true, true, true, true, true, false, false, false, false, false] rfl rfl (by kernel_rfl) (fun _ _ _ h => h) (Or.inl ⟨by rfl, ?_⟩) hHeld ?_ ?_
  rotate_left
  · rintro w' ⟨s0, s1⟩
    go_simp
    with_reducible rfl
  rotate_left
  · simp only [Act.put, List.setIfInBounds_toArray, List.set_cons_zero, List.set_cons_succ, i64_w, i32_w]
    rfl
  refine one_ (i := 14) (N := some 76) #[true, true, true, true, true, true, true, true, true, true, true, true, true, true, true, false, false, false, false] rfl rfl (by kernel_rfl) (by decide) (fun K hK => ?_)
  refine value_ (w1 := ?_) (v := ?_) (by rfl) rfl ?_ ?_
  rotate_left 2
  · go_simp
    constructor
    · rfl
    · rfl
  refine hK.out _ _ ⟨(pw_cell_below (below_alloc (Below.refl _ _) _) C0.out), (pw_cell_below (below_alloc (Below.refl _ _) _) C4.out)⟩ (fun hHeld => ?_)
  clear hK K
  refine norm_ (a' := ?_) ?_ ?_
  rotate_left
  · show Act.put _ (some 76) _ = _
    simp only [Act.put, List.setIfInBounds_toArray, List.set_cons_zero, List.set_cons_succ, i64_w, i32_w]
    rfl
  refine one_ (i := 15) (N := some 77) #[true, true, true, true, true, true, true, true, true, true, true, true, true, true, true, true, false, false, false] rfl rfl (by kernel_rfl) (by decide) (fun K hK => ?_)
  refine Kd.R_append_step (Kd.int .i64) (w0 := w0) w0.heap.size (by rfl) (.tmp 74) (.tmp 76) 42 3 (.int .i64 0) 8 rfl Try.underlying42 info3 rfl (by decide) (by decide) v (nats us) n [.int .i64 n] (fun k => oki k ∨ (k ≠ g ∧ P k) ∧ w2.drew.heap.size ≤ k) (fun _ => False) rfl rfl rfl (fun _ h => h.elim) (fun k hk => .inr ⟨⟨by have := HLTx.out; omega, HFx.out k hk⟩, hk⟩) (Kd.R_mono HR.out (fun _ h => .inl h)) HB.out HB.out.size HLen.out ?_
  intro v1 w1 hR hB hgr hat
  have hcg := (World.cell?_of_block (a := ⟨g, 0, none⟩) (hgr.block g HLTx.out HNo.out.1)).trans C0.out
  have hc4 := (World.cell?_of_block (a := ⟨gr, x.toNat * 5 + 4, none⟩) (hgr.block gr HNo.out.2.2 HNo.out.2.1)).trans C4.out
  have hz4 : w1.frozen? ⟨gr, x.toNat * 5 + 4, none⟩ = false := (World.frozen?_of_block (a := ⟨gr, x.toNat * 5 + 4, none⟩) (hgr.block gr HNo.out.2.2 HNo.out.2.1)).trans Z4.out
  obtain ⟨A1, cc1, he1⟩ := Kd.R_slice hR
  obtain ⟨m1, hm1⟩ : ∃ m1, m1 = (nats us ++ [n]).length := ⟨_, rfl⟩
  rw [← hm1] at he1
  subst he1
  clear hm1
  have HRR := Aside0.mk hR
  have HBB := Aside0.mk hB
  have HGG := Aside0.mk hgr
  have hcg' := hcg
  have hc4' := hc4
  clear hR hB hgr hat
  refine hK.out _ _ ⟨hcg', hc4'⟩ (fun hHeld => ?_)
  clear hK K
  refine norm_ (a' := ?_) ?_ ?_
  rotate_left
  · show Act.put _ (some 77) _ = _
    simp only [Act.put, List.setIfInBounds_toArray, List.set_cons_zero, List.set_cons_succ, i64_w, i32_w]
    rfl
  refine pure_ (i := 16) (N := some 78) (v := ?_) (a' := ?_) #[true, true, true, true, true, true, true, true, true, true, true, true, true, true, true, true, true, false, false] rfl rfl (by kernel_rfl) (fun _ _ _ h => h) (Or.inl ⟨by rfl, ?_⟩) ?_ ?_
  rotate_left
  · intro w'
    go_simp
    with_reducible rfl
  rotate_left
  · simp only [Act.put, List.setIfInBounds_toArray, List.set_cons_zero, List.set_cons_succ, i64_w, i32_w]
    rfl
  refine pure_ (i := 17) (N := some 79) (v := ?_) (a' := ?_) #[true, true, true, true, true, true, true, true, true, true, true, true, true, true, true, true, true, true, false] rfl rfl (by kernel_rfl) (fun _ _ _ h => h) (Or.inl ⟨by rfl, ?_⟩) ?_ ?_
  rotate_left
  · intro w'
    go_simp
    with_reducible rfl
  rotate_left
  · simp only [Act.put, List.setIfInBounds_toArray, List.set_cons_zero, List.set_cons_succ, i64_w, i32_w]
    rfl
  refine last_ (i := 18) (N := none) #[true, true, true, true, true, true, true, true, true, true, true, true, true, true, true, true, true, true, true] rfl rfl (by kernel_rfl) (by decide) (fun K hK => ?_)
  refine skip_ (w1 := ?_) (by rfl) rfl ?_ ?_
  rotate_left
  · go_simp
    rfl
  refine hK.out _ _ ?_
  clear hK K
  refine done_ (by kernel_rfl) ?_
  have HIx := Aside0.mk (IsB.upped (n := L.length) (by have := HX.out; rw [HLL.out]; have := HN.out; omega) HE.out.1 HE.out.2.1 HFx.out HE.out.2.2.1 HE.out.2.2.2.1 HE.out.2.2.2.2.1 HE.out.2.2.2.2.2.1 (by rw [← HUS.out]; exact HR.out) HE.out.2.2.2.2.2.2 (by rw [← HUS.out, ← HNN.out]; exact HRR.out) HBB.out HGG.out)
  generalize hw3 : w1.setCell _ _ = w3 at HIx ⊢
  obtain ⟨L2, hL2⟩ : ∃ q, q = addUp L1 x.toNat L.length := ⟨_, rfl⟩
  rw [← hL2] at HIx
  have HL2 := Aside0.mk hL2
  have HI3 := Aside0.mk HIx.out.1
  have HB3 := Aside0.mk HIx.out.2.1
  have HK3 := Aside0.mk (HK2.out.trans (KeepB.trans (KeepB.of_below (below_drew (Below.refl _ _))) HIx.out.2.2))
  clear HIx hw3 hL2 HE HR HRR HBB HGG HUS C0 C4 Z4 HNo HFx HLTx HLen HB hcg hc4 hz4 hcg' hc4'
  clear x0 x1
  have HLL2 : Aside0 (L2.length = N) := ⟨by rw [HL2.out, addUp_len]; exact HLL.out⟩
  have HLU2 : Aside0 (∀ k, (gT L2 k).ups.length ≤ 4000001) := ⟨fun k => by
    rw [HL2.out]
    unfold addUp
    rw [get_set]
    split
    · simp only [T.setUps, List.length_append, List.length_singleton]
      have := HLU.out x.toNat
      omega
    · have := HLU.out k
      omega⟩
  go_upto_region 12 with (fail)

  have hfx : ∀ k, w3.drew.heap.size ≤ k → P k := fun k hk => HF.out k (Nat.le_trans HK3.out.1 hk)
  obtain ⟨gr, c, v, oki, hg, hb, hR, d0, d1, d2, d3, d4, hfr, hok, hne, hPg, hbg, hH⟩ := (HI3.out.drew).elem y.toNat (by have := HY.out; rw [HLL2.out]; have := HN.out; omega)
  obtain ⟨us, hus⟩ : ∃ us, us = (gT L2 y.toNat).ups := ⟨_, rfl⟩
  have HLen : Aside0 (((nats us).length + 1) * 8 ≤ 140737488355328) := ⟨by have := HLU2.out y.toNat; rw [hus]; simp [nats]; omega⟩
  have HUS := Aside0.mk hus
  rw [← hus] at hR
  have HR := Aside0.mk hR
  have HB := Aside0.mk (below_drew HB3.out)
  have C0 := Aside0.mk ((blk_cell hg 0).trans rfl)
  have C4 := Aside0.mk d4
  have Z4 := Aside0.mk (hfr 4)
  have HE := Aside0.mk (And.intro hg (And.intro hb (And.intro hok (And.intro hne (And.intro hPg (And.intro hbg hH))))))
  have HFx := Aside0.mk hfx
  have HLTx := Aside0.mk (HI3.out.drew.lt)
  have HNo : Aside0 (some g ≠ v.ownBlock ∧ some gr ≠ v.ownBlock ∧ gr < w3.drew.heap.size) := ⟨fun he => (hok g (hR.1 g he.symm)).1.1 rfl, fun he => (hok gr (hR.1 gr he.symm)).2 rfl, World.block_lt_of_cell? _ _ d0⟩
  have px := HY.out
  have x0 : 0 ≤ y := px.1
  have x1 : y < (N : Int) := by have := HN.out; omega
  rw [show L2.length = N from HLL2.out] at C0
  clear hg hb hR d0 d1 d2 d3 d4 hfr hok hne hPg hbg hH hus hfx px
  replace x0 := eq_true x0
  replace x1 := eq_true x1
  refine start_ (n := 19) (S := fun w' => w'.cell? ⟨g, 0, none⟩ = some (.slice (some ⟨gr, 0, none⟩) N c) ∧ w'.cell? ⟨gr, y.toNat * 5 + 4, none⟩ = some v) (ds := [18]) #[false, false, false, false, false, false, false, false, false, false, false, false, false, false, false, false, false, false, false] (by kernel_rfl) rfl rfl ⟨C0.out, C4.out⟩ (fun hHeld => ?_)
  refine pure_ (i := 0) (N := some 80) (v := ?_) (a' := ?_) #[true, false, false, false, false, false, false, false, false, false, false, false, false, false, false, false, false, false, false] rfl rfl (by kernel_rfl) (fun _ _ _ h => h) (Or.inl ⟨by rfl, ?_⟩) ?_ ?_
  rotate_left
  · intro w'
    go_simp
    with_reducible rfl
  rotate_left
  · simp only [Act.put, List.setIfInBounds_toArray, List.set_cons_zero, List.set_cons_succ, i64_w, i32_w]
    rfl
  refine pure_ (i := 1) (N := some 81) (v := ?_) (a' := ?_) #[true, true, false, false, false, false, false, false, false, false, false, false, false, false, false, false, false, false, false] rfl rfl (by kernel_rfl) (fun _ _ _ h => h) (Or.inl ⟨by rfl, ?_⟩) ?_ ?_
  rotate_left
  · intro w'
    go_simp
    with_reducible rfl
  rotate_left
  · simp only [Act.put, List.setIfInBounds_toArray, List.set_cons_zero, List.set_cons_succ, i64_w, i32_w]
    rfl
  refine pure_ (i := 2) (N := some 82) (v := ?_) (a' := ?_) #[true, true, true, false, false, false, false, false, false, false, false, false, false, false, false, false, false, false, false] rfl rfl (by kernel_rfl) (fun _ _ _ h => h) (Or.inl ⟨by rfl, ?_⟩) ?_ ?_
  rotate_left
  · intro w'
    go_simp
    with_reducible rfl
  rotate_left
  · simp only [Act.put, List.setIfInBounds_toArray, List.set_cons_zero, List.set_cons_succ, i64_w, i32_w]
    rfl
  refine pure_ (i := 4) (N := some 84) (v := ?_) (a' := ?_) #[true, true, true, false, true, false, false, false, false, false, false, false, false, false, false, false, false, false, false] rfl rfl (by kernel_rfl) (fun _ _ _ h => h) (Or.inl ⟨by rfl, ?_⟩) ?_ ?_
  rotate_left
  · intro w'
    go_simp
    with_reducible rfl
  rotate_left
  · simp only [Act.put, List.setIfInBounds_toArray, List.set_cons_zero, List.set_cons_succ, i64_w, i32_w]
    rfl
  refine pure_ (i := 5) (N := some 85) (v := ?_) (a' := ?_) #[true, true, true, false, true, true, false, false, false, false, false, false, false, false, false, false, false, false, false] rfl rfl (by kernel_rfl) (fun _ _ _ h => h) (Or.inl ⟨by rfl, ?_⟩) ?_ ?_
  rotate_left
  · intro w'
    go_simp
    with_reducible rfl
  rotate_left
  · simp only [Act.put, List.setIfInBounds_toArray, List.set_cons_zero, List.set_cons_succ, i64_w, i32_w]
    rfl
  refine pure_ (i := 6) (N := some 86) (v := ?_) (a' := ?_) #[true, true, true, false, true, true, true, false, false, false, false, false, false, false, false, false, false, false, false] rfl rfl (by kernel_rfl) (fun _ _ _ h => h) (Or.inl ⟨by rfl, ?_⟩) ?_ ?_
  rotate_left
  · intro w'
    go_simp
    with_reducible rfl
  rotate_left
  · simp only [Act.put, List.setIfInBounds_toArray, List.set_cons_zero, List.set_cons_succ, i64_w, i32_w]
    rfl
  refine pure_ (i := 7) (N := some 87) (v := ?_) (a' := ?_) #[true, true, true, false, true, true, true, true, false, false, false, false, false, false, false, false, false, false, false] rfl rfl (by kernel_rfl) (fun _ _ _ h => h) (Or.inl ⟨by rfl, ?_⟩) ?_ ?_
  rotate_left
  · intro w'
    go_simp
    with_reducible rfl
  rotate_left
  · simp only [Act.put, List.setIfInBounds_toArray, List.set_cons_zero, List.set_cons_succ, i64_w, i32_w]
    rfl
  refine pure_ (i := 9) (N := some 89) (v := ?_) (a' := ?_) #[true, true, true, false, true, true, true, true, false, true, false, false, false, false, false, false, false, false, false] rfl rfl (by kernel_rfl) (fun _ _ _ h => h) (Or.inl ⟨by rfl, ?_⟩) ?_ ?_
  rotate_left
  · intro w'
    go_simp
    with_reducible rfl
  rotate_left
  · simp only [Act.put, List.setIfInBounds_toArray, List.set_cons_zero, List.set_cons_succ, i64_w, i32_w]
    rfl
  refine pure_ (i := 13) (N := some 93) (v := ?_) (a' := ?_) #[true, true, true, false, true, true, true, true, false, true, false, false, false, true, false, false, false, false, false] rfl rfl (by kernel_rfl) (fun _ _ _ h => h) (Or.inl ⟨by rfl, ?_⟩) ?_ ?_
  rotate_left
  · intro w'
    go_simp
    with_reducible rfl
  rotate_left
  · simp only [Act.put, List.setIfInBounds_toArray, List.set_cons_zero, List.set_cons_succ, i64_w, i32_w]
    rfl
  refine take_ (i := 3) (N := some 83) (v := ?_) (a' := ?_) #[true, true, true, true, true, true, true, true, false, true, false, false, false, true, false, false, false, false, false] rfl rfl (by kernel_rfl) (fun _ _ _ h => h) (Or.inl ⟨by rfl, ?_⟩) hHeld ?_ ?_
  rotate_left
  · rintro w' ⟨s0, s1⟩
    go_simp
    with_reducible rfl
  rotate_left
  · simp only [Act.put, List.setIfInBounds_toArray, List.set_cons_zero, List.set_cons_succ, i64_w, i32_w]
    rfl
  refine take_ (i := 8) (N := some 88) (v := ?_) (a' := ?_) #[true, true, true, true, true, true, true, true, true, true, false, false, false, true, false, false, false, false, false] rfl rfl (by kernel_rfl) (fun _ _ _ h => h) (Or.inl ⟨by rfl, ?_⟩) hHeld ?_ ?_
  rotate_left
  · rintro w' ⟨s0, s1⟩
    go_simp
    with_reducible rfl
  rotate_left
  · simp only [Act.put, List.setIfInBounds_toArray, List.set_cons_zero, List.set_cons_succ, i64_w, i32_w]
    rfl
  refine pure_ (i := 10) (N := some 90) (v := ?_) (a' := ?_) #[true, true, true, true, true, true, true, true, true, true, true, false, false, true, false, false, false, false, false] rfl rfl (by kernel_rfl) (fun _ _ _ h => h) (Or.inl ⟨by rfl, ?_⟩) ?_ ?_
  rotate_left
  · intro w'
    go_simp
    with_reducible rfl
  rotate_left
  · simp only [Act.put, List.setIfInBounds_toArray, List.set_cons_zero, List.set_cons_succ, i64_w, i32_w]
    rfl
  refine pure_ (i := 11) (N := some 91) (v := ?_) (a' := ?_) #[true, true, true, true, true, true, true, true, true, true, true, true, false, true, false, false, false, false, false] rfl rfl (by kernel_rfl) (fun _ _ _ h => h) (Or.inl ⟨by rfl, ?_⟩) ?_ ?_
  rotate_left
  · intro w'
    go_simp
    with_reducible rfl
  rotate_left
  · simp only [Act.put, List.setIfInBounds_toArray, List.set_cons_zero, List.set_cons_succ, i64_w, i32_w]
    rfl
  refine take_ (i := 12) (N := some 92) (v := ?_) (a' := ?_) #[true, true, true, true, true, true, true, true, true, true, true, true, true, true, false, false, false, false, false] rfl rfl (by kernel_rfl) (fun _ _ _ h => h) (Or.inl ⟨by rfl, ?_⟩) hHeld ?_ ?_
  rotate_left
  · rintro w' ⟨s0, s1⟩
    go_simp
    with_reducible rfl
  rotate_left
  · simp only [Act.put, List.setIfInBounds_toArray, List.set_cons_zero, List.set_cons_succ, i64_w, i32_w]
    rfl
  refine one_ (i := 14) (N := some 94) #[true, true, true, true, true, true, true, true, true, true, true, true, true, true, true, false, false, false, false] rfl rfl (by kernel_rfl) (by decide) (fun K hK => ?_)
  refine value_ (w1 := ?_) (v := ?_) (by rfl) rfl ?_ ?_
  rotate_left 2
  · go_simp
    constructor
    · rfl
    · rfl
  refine hK.out _ _ ⟨(pw_cell_below (below_alloc (Below.refl _ _) _) C0.out), (pw_cell_below (below_alloc (Below.refl _ _) _) C4.out)⟩ (fun hHeld => ?_)
  clear hK K
  refine norm_ (a' := ?_) ?_ ?_
  rotate_left
  · show Act.put _ (some 94) _ = _
    simp only [Act.put, List.setIfInBounds_toArray, List.set_cons_zero, List.set_cons_succ, i64_w, i32_w]
    rfl
  refine one_ (i := 15) (N := some 95) #[true, true, true, true, true, true, true, true, true, true, true, true, true, true, true, true, false, false, false] rfl rfl (by kernel_rfl) (by decide) (fun K hK => ?_)
  refine Kd.R_append_step (Kd.int .i64) (w0 := w0) w0.heap.size (by rfl) (.tmp 92) (.tmp 94) 42 3 (.int .i64 0) 8 rfl Try.underlying42 info3 rfl (by decide) (by decide) v (nats us) n [.int .i64 n] (fun k => oki k ∨ (k ≠ g ∧ P k) ∧ w3.drew.heap.size ≤ k) (fun _ => False) rfl rfl rfl (fun _ h => h.elim) (fun k hk => .inr ⟨⟨by have := HLTx.out; omega, HFx.out k hk⟩, hk⟩) (Kd.R_mono HR.out (fun _ h => .inl h)) HB.out HB.out.size HLen.out ?_
  intro v1 w1 hR hB hgr hat
  have hcg := (World.cell?_of_block (a := ⟨g, 0, none⟩) (hgr.block g HLTx.out HNo.out.1)).trans C0.out
  have hc4 := (World.cell?_of_block (a := ⟨gr, y.toNat * 5 + 4, none⟩) (hgr.block gr HNo.out.2.2 HNo.out.2.1)).trans C4.out
  have hz4 : w1.frozen? ⟨gr, y.toNat * 5 + 4, none⟩ = false := (World.frozen?_of_block (a := ⟨gr, y.toNat * 5 + 4, none⟩) (hgr.block gr HNo.out.2.2 HNo.out.2.1)).trans Z4.out
  obtain ⟨A1, cc1, he1⟩ := Kd.R_slice hR
  obtain ⟨m1, hm1⟩ : ∃ m1, m1 = (nats us ++ [n]).length := ⟨_, rfl⟩
  rw [← hm1] at he1
  subst he1
  clear hm1
  have HRR := Aside0.mk hR
  have HBB := Aside0.mk hB
  have HGG := Aside0.mk hgr
  have hcg' := hcg
  have hc4' := hc4
  clear hR hB hgr hat
  refine hK.out _ _ ⟨hcg', hc4'⟩ (fun hHeld => ?_)
  clear hK K
  refine norm_ (a' := ?_) ?_ ?_
  rotate_left
  · show Act.put _ (some 95) _ = _
    simp only [Act.put, List.setIfInBounds_toArray, List.set_cons_zero, List.set_cons_succ, i64_w, i32_w]
    rfl
  refine pure_ (i := 16) (N := some 96) (v := ?_) (a' := ?_) #[true, true, true, true, true, true, true, true, true, true, true, true, true, true, true, true, true, false, false] rfl rfl (by kernel_rfl) (fun _ _ _ h => h) (Or.inl ⟨by rfl, ?_⟩) ?_ ?_
  rotate_left
  · intro w'
    go_simp
    with_reducible rfl
  rotate_left
  · simp only [Act.put, List.setIfInBounds_toArray, List.set_cons_zero, List.set_cons_succ, i64_w, i32_w]
    rfl
  refine pure_ (i := 17) (N := some 97) (v := ?_) (a' := ?_) #[true, true, true, true, true, true, true, true, true, true, true, true, true, true, true, true, true, true, false] rfl rfl (by kernel_rfl) (fun _ _ _ h => h) (Or.inl ⟨by rfl, ?_⟩) ?_ ?_
  rotate_left
  · intro w'
    go_simp
    with_reducible rfl
  rotate_left
  · simp only [Act.put, List.setIfInBounds_toArray, List.set_cons_zero, List.set_cons_succ, i64_w, i32_w]
    rfl
  refine last_ (i := 18) (N := none) #[true, true, true, true, true, true, true, true, true, true, true, true, true, true, true, true, true, true, true] rfl rfl (by kernel_rfl) (by decide) (fun K hK => ?_)
  refine skip_ (w1 := ?_) (by rfl) rfl ?_ ?_
  rotate_left
  · go_simp
    rfl
  refine hK.out _ _ ?_
  clear hK K
  refine done_ (by kernel_rfl) ?_
  have HIx := Aside0.mk (IsB.upped (n := L.length) (by have := HY.out; rw [HLL2.out]; have := HN.out; omega) HE.out.1 HE.out.2.1 HFx.out HE.out.2.2.1 HE.out.2.2.2.1 HE.out.2.2.2.2.1 HE.out.2.2.2.2.2.1 (by rw [← HUS.out]; exact HR.out) HE.out.2.2.2.2.2.2 (by rw [← HUS.out, ← HNN.out]; exact HRR.out) HBB.out HGG.out)
  generalize hw3 : w1.setCell _ _ = w4 at HIx ⊢
  obtain ⟨L3, hL3⟩ : ∃ q, q = addUp L2 y.toNat L.length := ⟨_, rfl⟩
  rw [← hL3] at HIx
  have HL3 := Aside0.mk hL3
  have HI4 := Aside0.mk HIx.out.1
  have HB4 := Aside0.mk HIx.out.2.1
  have HK4 := Aside0.mk (HK3.out.trans (KeepB.trans (KeepB.of_below (below_drew (Below.refl _ _))) HIx.out.2.2))
  clear HIx hw3 hL3 HE HR HRR HBB HGG HUS C0 C4 Z4 HNo HFx HLTx HLen HB hcg hc4 hz4 hcg' hc4'
  clear x0 x1

  go_wp2_with fail
  go_ret
  exact ⟨by rw [← HNN.out]; rfl, by rw [← HL1.out, ← HL2.out, ← HL3.out]; exact HI4.out, HB4.out, HK4.out⟩

end Go.Proofs.Ytjfoppmpiklfiab.BookW
