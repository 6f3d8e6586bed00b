/- The stack of bits: the law BitsRuns' walk. Conditions: none. -/
import Derived.Test.YtjfoppmpiklfiaaWalkBitsBack
namespace Go.Proofs.Ytjfoppmpiklfiaa.BitsW
open Go.RowKit Go.Proofs.YtjfoppmpiklfiaaW.PrintWords Go.Proofs.YtjfoppmpiklfiaaW.PrintLast Go.Proofs.YtjfoppmpiklfiaaW.PrintMore
set_option linter.unusedVariables false
set_option linter.unusedSimpArgs false
theorem KeepT.ownB {g B : Nat} {w w' : World} {v : Value} {l : List Bool} (hk : KeepT g w w') (h : OwnB B w v l) (hg : some g ≠ v.ownBlock) : OwnB B w' v l := by
  refine own_move h fun k hk' => hk.2 k (own_lt h k hk') (fun e => hg (by rw [hk', e])) (fun c f e => ?_)
  obtain ⟨cs, hc⟩ := own_typed h k hk'
  rw [hc] at e
  injection e with e
  injection e with _ e _
  cases e
theorem IsB.ne4 {w0 W : World} {g m B n : Nat} {l : List Bool} {v : Value} {xs : List Value} (h : IsB w0 W g m l) (ho : W.ownsRow B 4 1 v n xs) : some g ≠ v.ownBlock := by
  obtain ⟨u, h1, h2, h3⟩ := h
  exact own_ne ho h1 (by decide)
theorem IsB.grown4 {w0 W W1 : World} {g m B n : Nat} {l : List Bool} {v : Value} {xs : List Value} (h : IsB w0 W g m l) (ho : W.ownsRow B 4 1 v n xs) (hg : W.grownBy W1 v.ownBlock) : IsB w0 W1 g m l := by
  have hne := h.ne4 ho
  obtain ⟨u, h1, h2, h3⟩ := h
  exact ⟨u, blk_grown h1 hg hne, own_other h2 hg (own_type_ne h2 ho (by decide)), h3⟩
theorem words_loop (n : Nat) (hn : n < 100000) : ∀ (k i : Nat), i ≤ mw n → k + i = mw n + 1 → PBitsRuns.riffleref08_Words.l0 k (n : Int) (i : Int) = some (mw n : Int) := by
  intro k
  induction k with
  | zero => intro i h0 h; omega
  | succ k ih =>
    intro i h0 h
    simp only [PBitsRuns.riffleref08_Words.l0]
    have e : wrap64 ((i : Int) * 64) = (i : Int) * 64 := by unfold mw at h0; unfold wrap64; omega
    rw [e]
    by_cases hc : (i : Int) * 64 < (n : Int)
    · rw [if_pos hc]
      have : wrap64 ((i : Int) + 1) = ((i + 1 : Nat) : Int) := by unfold mw at h0; unfold wrap64; omega
      rw [this]
      exact ih (i + 1) (by unfold mw at *; omega) (by omega)
    · rw [if_neg hc]
      have : i = mw n := by unfold mw at *; omega
      rw [this]
theorem refWords_calls (n : Nat) (hn : n < 100000) (w : World) : Calls Try.prog 19 #[.int .i64 (n : Int)] w fun e w' => e = .returned (.int .i64 (mw n : Int)) ∧ Drawn0 w w' :=
  PBitsRuns.riffleref08_Words.calls (mw n + 1) _ _ w (words_loop n hn _ 0 (by omega) (by omega))
theorem lit1 (W : World) (b : Bool) : OwnB W.heap.size (W.alloc (.cells #[.bool b] 4)) (.slice (some ⟨W.heap.size, 0, none⟩) 1 1) [b] := own_lit_of W W.heap.size 4 [b] (Nat.le_refl _) (by simp)
theorem lit0 (W : World) (B : Nat) (hB : B ≤ W.heap.size) : OwnB B (W.alloc (.cells #[] 4)) (.slice (some ⟨W.heap.size, 0, none⟩) 0 0) [] := own_lit_of W B 4 [] hB (by simp)
theorem last_at {B : Nat} {W : World} {A : Option Addr} {n c : Nat} {l : List Bool} {b : Bool} (h : OwnB B W (.slice A n c) (l ++ [b])) (hn : n = l.length + 1) (y : Int) (hy : y = (n : Int) - 1) : ∃ ad, A = some ad ∧ W.cell? (ad.add y.toNat) = some (.bool b) := by
  subst hn
  have h' : W.ownsRow B 4 1 (.slice A (l.length + 1) c) (l ++ [b]).length (encs Value.bool (l ++ [b])) := h
  rw [show (l ++ [b]).length = l.length + 1 by simp] at h'
  have hr := own_reads_of' (d := false) h'
  obtain ⟨ad, e, hc⟩ := hr.at_ y (by omega) (by omega)
  refine ⟨ad, e, ?_⟩
  have : rdOf false (l ++ [b]) y = b := by
    have hy' : y.toNat = l.length := by omega
    unfold rdOf; rw [hy', List.getD_eq_getElem?_getD]; simp
  rw [this] at hc
  exact hc
theorem cut_last {B : Nat} {W : World} {A : Option Addr} {n c : Nat} {l : List Bool} {b : Bool} (h : OwnB B W (.slice A n c) (l ++ [b])) (hn : n = l.length + 1) : OwnB B W (.slice A l.length c) l ∧ l.length + 1 ≤ c := by
  subst hn
  have h' : W.ownsRow B 4 1 (.slice A (l.length + 1) c) (l ++ [b]).length (encs Value.bool (l ++ [b])) := h
  rw [show (l ++ [b]).length = l.length + 1 by simp] at h'
  refine ⟨?_, own_cap h'⟩
  have h2 := own_take h' (m := l.length) (by omega)
  unfold OwnB
  rw [show (encs Value.bool (l ++ [b])).take (l.length * 1) = encs Value.bool l by simp [encs]] at h2
  exact h2
set_option maxHeartbeats 4000000 in
set_option maxRecDepth 100000 in
theorem runs_walk (A : Option Addr) (n c : Nat) (zs : List Int) (w : World) (hr : ReadsOf (Value.int .u8) 0 w A n zs) (hz : ∀ z ∈ zs, 0 ≤ z ∧ z < 256) :
    Calls Try.prog 3 #[.slice A n c] w fun e w' => e = .returned (.bool true) ∧ Below w.heap.size w w' := by
  have HR := Aside0.mk hr
  have HLN := Aside0.mk hr.1
  have HZ := Aside0.mk hz
  clear hr hz
  by_cases h2 : n ≤ 500
  · have q0 : decide ((n : Int) > 500) = false := by simp; omega
    have H2 := Aside0.mk h2
    clear h2
    go_enter Try.func3, Try.ntmps3
    go_upto_region 3 with (first | (go_at_call 13; refine (alive_calls w).mono ?_; rintro e w0 ⟨rfl, B0⟩; have HB0 := Aside0.mk B0; clear B0))
    go_upto_region 6 with (fail)
    generalize hw1 : w0.alloc _ = w1
    have H1 : IsB w w1 w0.heap.size (mw ([] : List Bool).length) [] := by subst hw1; exact new_ w w0 HB0.out
    have B1 : Below w.heap.size w w1 := by subst hw1; exact below_alloc HB0.out _
    generalize hgg : w0.heap.size = g at H1 ⊢
    clear hgg hw1
    go_upto_region 6 with (fail)
    have H1h := Aside0.mk H1
    have B1h := Aside0.mk B1
    clear H1 B1 HB0 q0
    go_upto_region 7 with (fail)
    generalize hw2 : w1.alloc _ = w2
    have O2 : Aside0 (OwnB w.heap.size w2 (.slice (some ⟨w1.heap.size, 0, none⟩) 0 0) []) := ⟨by subst hw2; exact lit0 w1 _ B1h.out.size⟩
    have H2h : Aside0 (IsB w w2 g (mw ([] : List Bool).length) []) := ⟨by subst hw2; exact H1h.out.below (below_alloc (Below.refl _ _) _)⟩
    have B2h : Aside0 (Below w.heap.size w w2) := ⟨by subst hw2; exact below_alloc B1h.out _⟩
    clear hw2 H1h B1h
    generalize w1.heap.size = g1 at O2 ⊢
    go_wp2_with fail
    go_loopg [4, 19] n (fun kq v4 v19 w' => ∃ (i : Nat) (L : List Bool) (AL : Option Addr) (nL cL : Nat), Aside0 (kq + i = n) ∧ Aside0 (L.length ≤ i) ∧ Aside0 (nL = L.length) ∧ v19 = .int .i64 (i : Int) ∧ v4 = .slice AL nL cL ∧ Aside0 (IsB w w' g (mw L.length) L) ∧ Aside0 (OwnB w.heap.size w' (.slice AL nL cL) L) ∧ Aside0 (Below w.heap.size w w'))
    case atStart => exact ⟨0, [], _, 0, 0, ⟨by omega⟩, ⟨Nat.le_refl _⟩, ⟨rfl⟩, rfl, rfl, H2h, O2, B2h⟩
    case round =>
      clear H2h O2 B2h
      obtain ⟨i, L, AL, nL, cL, hi, hLi, hnL, rfl, rfl, HI, HO, HB⟩ := hrel
      by_cases c3 : i < n
      · obtain ⟨x, hx⟩ : ∃ x : Int, x = (i : Int) := ⟨_, rfl⟩
        have p1 : 0 ≤ x := by omega
        have q1 : x < (n : Int) := by omega
        obtain ⟨ad, rfl, hcell⟩ := (HR.out.below HB.out).at_ x p1 q1
        obtain ⟨z, hzz⟩ : ∃ z, z = rdOf 0 zs x := ⟨_, rfl⟩
        rw [← hzz] at hcell
        have hz1 : 0 ≤ z ∧ z < 256 := by
          have hl : i < zs.length := by rw [HLN.out]; exact c3
          have : z = zs[i] := by rw [hzz, hx]; unfold rdOf; rw [Int.toNat_natCast, List.getD_eq_getElem?_getD, List.getElem?_eq_getElem hl]; rfl
          rw [this]
          exact HZ.out _ (List.getElem_mem _)
        have hz2 : z % 3 = 0 ∨ z % 3 = 1 ∨ z % 3 = 2 := by omega
        obtain ⟨zm, hzm⟩ : ∃ zm, zm = z % 3 := ⟨_, rfl⟩
        rw [← hzm] at hz2
        have z0 := hz1.1
        have z1 := hz1.2
        have hLn : L.length < 500 := by have := hLi.out; have := H2.out; omega
        have HLn := Aside0.mk hLn
        have q2 : decide (x < (n : Int)) = true := decide_eq_true q1
        have X1 := Aside0.mk (show x + 1 = ((i + 1 : Nat) : Int) by omega)
        have X2 := Aside0.mk (show 0 ≤ x ∧ x < 1000 by have := H2.out; omega)
        have C3 := Aside0.mk c3
        rw [← hx]
        clear hzz hz1 hx c3 hLn
        replace p1 := eq_true p1
        replace q1 := eq_true q1
        go_upto_region 10 with (fail)
        clear hcell p1 q1 q2
        have hzm' := hzm.symm
        clear hzm
        rcases hz2 with rfl | rfl | rfl
        · have HP := Aside0.mk (push_calls g L false w wr HI.out HB.out (by have := HLn.out; omega))
          go_upto_region 12 with (first | (go_at_call 14; refine HP.out.mono ?_; rintro e w3 ⟨rfl, i3, b3, k3⟩; have B3 := Aside0.mk b3; have O3 := Aside0.mk (KeepT.ownB k3 HO.out (HI.out.ne4 HO.out)); have I3 := Aside0.mk i3; clear i3 b3 k3))
          clear HP HI HO HB
          obtain ⟨nM, hM⟩ : ∃ nM, nM = nL + 1 := ⟨_, rfl⟩
          have HM := Aside0.mk hM
          clear hM
          have HLL : Aside0 ((L ++ [false]).length = nM) := ⟨by have := HM.out; have := hnL.out; simp; omega⟩
          go_upto_region 18 with (first | (at_builtin; refine print_append_row_of (w0 := w) Value.bool false w.heap.size rfl (.tmp 30) (.tmp 31) 27 4 (.bool false) 1 rfl Try.underlying27 info4b rfl (by decide) (fun _ => rfl) _ [] L _ _ _ rfl rfl (lit0 w3 _ B3.out.size) (own_reads_of' (d := false) (by have h := O3.out.alloc (.cells #[] 4); unfold OwnB at h; rw [← hnL.out] at h; exact h)) (below_alloc B3.out _) (by have := B3.out.size; simp; omega) (by have := HLn.out; have := hnL.out; simp; omega) ?_; intro v4 w4 hown hbw hgrow hat; have I4 := Aside0.mk (((I3.out).below (below_alloc (Below.refl _ _) _)).grown4 (lit0 w3 _ B3.out.size) hgrow); have B4 := Aside0.mk hbw; rw [show (([] : List Bool) ++ L).length = nL from hnL.out.symm, show (([] : List Bool) ++ L) = L from rfl] at hown; obtain ⟨A4, c4, rfl⟩ := own_slice hown; rw [hnL.out] at hown; have O4 : Aside0 (OwnB w.heap.size w4 (.slice A4 nL c4) L) := ⟨by unfold OwnB; rw [← hnL.out] at hown ⊢; exact hown⟩; clear hown hbw hgrow hat I3 B3 O3) | (at_builtin; refine print_append_of (w0 := w) Value.bool w.heap.size rfl (.tmp 32) (.tmp 36) 27 4 (.bool false) 1 rfl Try.underlying27 info4b rfl (by decide) _ L false rfl rfl rfl O4.out B4.out B4.out.size (by have := HLn.out; omega) ?_; intro v5 w5 hown hbw hgrow hat; have I_ := Aside0.mk ((I4.out).grown4 O4.out hgrow); have B_ := Aside0.mk hbw; rw [HLL.out] at hown; obtain ⟨A5, c5, rfl⟩ := own_slice hown; have O_ : Aside0 (OwnB w.heap.size w5 (.slice A5 nM c5) (L ++ [false])) := ⟨by unfold OwnB; rw [HLL.out]; exact hown⟩; clear hown hbw hgrow hat I4 B4 O4))
          have HN_ := HLL
          have HLM_ : Aside0 (nM ≤ L.length + 1) := ⟨by have := HM.out; have := hnL.out; omega⟩
          replace I_ : Aside0 (IsB w w5 g (mw nM) (L ++ [false])) := ⟨by have h := I_.out; rw [show L.length + 1 = nM by have := HM.out; have := hnL.out; omega] at h; exact h⟩
          clear HM HLL
          have HTop := Aside0.mk (top_some g _ L false w w5 I_.out (by have := HN_.out; simp at this ⊢; unfold mw; omega) (by have h1 := HN_.out; have h2 := HLn.out; have h3 := HLM_.out; simp at h1 h2 h3 ⊢; omega))
          have HLen := Aside0.mk (len_calls g _ _ w w5 I_.out)
          have HWds := Aside0.mk (words_calls g _ _ w w5 I_.out)
          have HRef := Aside0.mk (refWords_calls nM (by have := HLM_.out; have := HLn.out; omega) w5)
          rw [HN_.out] at HLen
          obtain ⟨mv, hmv⟩ : ∃ mv, mv = mw nM := ⟨_, rfl⟩
          rw [← hmv] at HWds HRef
          clear hmv
          obtain ⟨y, hy⟩ : ∃ y : Int, y = (nM : Int) - 1 := ⟨_, rfl⟩
          obtain ⟨ad2, had2, hcell2⟩ := last_at O_.out (by have := HN_.out; simp at this; omega) y hy
          first | subst had2 | (obtain rfl := Option.some.inj had2; clear had2)
          have hy1 : (nM : Int) - 1 = y := hy.symm
          have y0 : 0 ≤ y := by have := HN_.out; simp at this; omega
          have y1 : y < 1000 := by have := HLM_.out; have := HLn.out; omega
          have y2 : y < (nM : Int) := by omega
          have y3 : decide ((nM : Int) > 0) = true := by simp; omega
          have y4 : (0 : Int) < (nM : Int) := by omega
          clear hy
          have hbb : (false != false) = false := by simp
          go_upto_region 19 with (first | (go_at_call 16; refine HTop.out.mono ?_; rintro e w9 ⟨rfl, rfl⟩))
          clear HTop
          go_upto_region 21 with (first | (go_at_call 17; refine HLen.out.mono ?_; rintro e w9 ⟨rfl, rfl⟩; clear HLen) | (go_at_call 18; refine HWds.out.mono ?_; rintro e w9 ⟨rfl, rfl⟩; clear HWds) | (go_at_call 19; refine HRef.out.mono ?_; rintro e w9 ⟨rfl, hd⟩; have I9 := Aside0.mk (I_.out.below hd.below); have O9 : Aside0 (OwnB w.heap.size w9 _ (L ++ [false])) := ⟨pw_own_below O_.out hd.below⟩; have B9 := Aside0.mk (below_step B_.out hd.below); have HAll := Aside0.mk (all_calls g _ _ w w9 I9.out (by have := HN_.out; unfold mw; omega) (by have := HN_.out; have := HLM_.out; have := HLn.out; omega)); rw [HN_.out] at HAll; clear HRef hd I_ O_ B_) | (go_at_call 21; refine HAll.out.mono ?_; rintro e w10 ⟨A10, c10, rfl, o10, b10⟩; have O10 := Aside0.mk o10; have B10 := Aside0.mk b10; clear HAll o10 b10) | (go_at_call 20; refine (same_calls O10.out (pw_own_below O9.out B10.out) HN_.out.symm (by have := HN_.out; have := HLM_.out; have := HLn.out; omega)).mono ?_; rintro e w11 ⟨rfl, hd⟩; have I11 := Aside0.mk ((I9.out.below B10.out).below hd.below); have O11 : Aside0 (OwnB w.heap.size w11 _ (L ++ [false])) := ⟨pw_own_below (pw_own_below O9.out B10.out) hd.below⟩; have B11 := Aside0.mk (below_step (below_step B9.out B10.out) hd.below); clear O10 B10 hd I9 O9 B9))
          clear hcell2 y0 y1 y2 y3 y4 hy1 hbb
          have x0 := X2.out.1
          have x1 := X2.out.2
          go_wp2_with fail
          go_roundg (n - (i + 1))
          case measure => have := hi.out; have := C3.out; omega
          case rel => exact ⟨i + 1, (L ++ [false]), _, nM, _, ⟨by have := C3.out; omega⟩, ⟨by have := HLM_.out; have := HN_.out; have := hLi.out; have := hnL.out; omega⟩, ⟨HN_.out.symm⟩, by rw [X1.out], rfl, ⟨by rw [HN_.out]; exact I11.out⟩, O11, B11⟩
        · have HP := Aside0.mk (push_calls g L true w wr HI.out HB.out (by have := HLn.out; omega))
          go_upto_region 12 with (first | (go_at_call 14; refine HP.out.mono ?_; rintro e w3 ⟨rfl, i3, b3, k3⟩; have B3 := Aside0.mk b3; have O3 := Aside0.mk (KeepT.ownB k3 HO.out (HI.out.ne4 HO.out)); have I3 := Aside0.mk i3; clear i3 b3 k3))
          clear HP HI HO HB
          obtain ⟨nM, hM⟩ : ∃ nM, nM = nL + 1 := ⟨_, rfl⟩
          have HM := Aside0.mk hM
          clear hM
          have HLL : Aside0 ((L ++ [true]).length = nM) := ⟨by have := HM.out; have := hnL.out; simp; omega⟩
          go_upto_region 18 with (first | (at_builtin; refine print_append_row_of (w0 := w) Value.bool false w.heap.size rfl (.tmp 30) (.tmp 31) 27 4 (.bool false) 1 rfl Try.underlying27 info4b rfl (by decide) (fun _ => rfl) _ [] L _ _ _ rfl rfl (lit0 w3 _ B3.out.size) (own_reads_of' (d := false) (by have h := O3.out.alloc (.cells #[] 4); unfold OwnB at h; rw [← hnL.out] at h; exact h)) (below_alloc B3.out _) (by have := B3.out.size; simp; omega) (by have := HLn.out; have := hnL.out; simp; omega) ?_; intro v4 w4 hown hbw hgrow hat; have I4 := Aside0.mk (((I3.out).below (below_alloc (Below.refl _ _) _)).grown4 (lit0 w3 _ B3.out.size) hgrow); have B4 := Aside0.mk hbw; rw [show (([] : List Bool) ++ L).length = nL from hnL.out.symm, show (([] : List Bool) ++ L) = L from rfl] at hown; obtain ⟨A4, c4, rfl⟩ := own_slice hown; rw [hnL.out] at hown; have O4 : Aside0 (OwnB w.heap.size w4 (.slice A4 nL c4) L) := ⟨by unfold OwnB; rw [← hnL.out] at hown ⊢; exact hown⟩; clear hown hbw hgrow hat I3 B3 O3) | (at_builtin; refine print_append_of (w0 := w) Value.bool w.heap.size rfl (.tmp 32) (.tmp 36) 27 4 (.bool false) 1 rfl Try.underlying27 info4b rfl (by decide) _ L true rfl rfl rfl O4.out B4.out B4.out.size (by have := HLn.out; omega) ?_; intro v5 w5 hown hbw hgrow hat; have I_ := Aside0.mk ((I4.out).grown4 O4.out hgrow); have B_ := Aside0.mk hbw; rw [HLL.out] at hown; obtain ⟨A5, c5, rfl⟩ := own_slice hown; have O_ : Aside0 (OwnB w.heap.size w5 (.slice A5 nM c5) (L ++ [true])) := ⟨by unfold OwnB; rw [HLL.out]; exact hown⟩; clear hown hbw hgrow hat I4 B4 O4))
          have HN_ := HLL
          have HLM_ : Aside0 (nM ≤ L.length + 1) := ⟨by have := HM.out; have := hnL.out; omega⟩
          replace I_ : Aside0 (IsB w w5 g (mw nM) (L ++ [true])) := ⟨by have h := I_.out; rw [show L.length + 1 = nM by have := HM.out; have := hnL.out; omega] at h; exact h⟩
          clear HM HLL
          have HTop := Aside0.mk (top_some g _ L true w w5 I_.out (by have := HN_.out; simp at this ⊢; unfold mw; omega) (by have h1 := HN_.out; have h2 := HLn.out; have h3 := HLM_.out; simp at h1 h2 h3 ⊢; omega))
          have HLen := Aside0.mk (len_calls g _ _ w w5 I_.out)
          have HWds := Aside0.mk (words_calls g _ _ w w5 I_.out)
          have HRef := Aside0.mk (refWords_calls nM (by have := HLM_.out; have := HLn.out; omega) w5)
          rw [HN_.out] at HLen
          obtain ⟨mv, hmv⟩ : ∃ mv, mv = mw nM := ⟨_, rfl⟩
          rw [← hmv] at HWds HRef
          clear hmv
          obtain ⟨y, hy⟩ : ∃ y : Int, y = (nM : Int) - 1 := ⟨_, rfl⟩
          obtain ⟨ad2, had2, hcell2⟩ := last_at O_.out (by have := HN_.out; simp at this; omega) y hy
          first | subst had2 | (obtain rfl := Option.some.inj had2; clear had2)
          have hy1 : (nM : Int) - 1 = y := hy.symm
          have y0 : 0 ≤ y := by have := HN_.out; simp at this; omega
          have y1 : y < 1000 := by have := HLM_.out; have := HLn.out; omega
          have y2 : y < (nM : Int) := by omega
          have y3 : decide ((nM : Int) > 0) = true := by simp; omega
          have y4 : (0 : Int) < (nM : Int) := by omega
          clear hy
          have hbb : (true != true) = false := by simp
          go_upto_region 19 with (first | (go_at_call 16; refine HTop.out.mono ?_; rintro e w9 ⟨rfl, rfl⟩))
          clear HTop
          go_upto_region 21 with (first | (go_at_call 17; refine HLen.out.mono ?_; rintro e w9 ⟨rfl, rfl⟩; clear HLen) | (go_at_call 18; refine HWds.out.mono ?_; rintro e w9 ⟨rfl, rfl⟩; clear HWds) | (go_at_call 19; refine HRef.out.mono ?_; rintro e w9 ⟨rfl, hd⟩; have I9 := Aside0.mk (I_.out.below hd.below); have O9 : Aside0 (OwnB w.heap.size w9 _ (L ++ [true])) := ⟨pw_own_below O_.out hd.below⟩; have B9 := Aside0.mk (below_step B_.out hd.below); have HAll := Aside0.mk (all_calls g _ _ w w9 I9.out (by have := HN_.out; unfold mw; omega) (by have := HN_.out; have := HLM_.out; have := HLn.out; omega)); rw [HN_.out] at HAll; clear HRef hd I_ O_ B_) | (go_at_call 21; refine HAll.out.mono ?_; rintro e w10 ⟨A10, c10, rfl, o10, b10⟩; have O10 := Aside0.mk o10; have B10 := Aside0.mk b10; clear HAll o10 b10) | (go_at_call 20; refine (same_calls O10.out (pw_own_below O9.out B10.out) HN_.out.symm (by have := HN_.out; have := HLM_.out; have := HLn.out; omega)).mono ?_; rintro e w11 ⟨rfl, hd⟩; have I11 := Aside0.mk ((I9.out.below B10.out).below hd.below); have O11 : Aside0 (OwnB w.heap.size w11 _ (L ++ [true])) := ⟨pw_own_below (pw_own_below O9.out B10.out) hd.below⟩; have B11 := Aside0.mk (below_step (below_step B9.out B10.out) hd.below); clear O10 B10 hd I9 O9 B9))
          clear hcell2 y0 y1 y2 y3 y4 hy1 hbb
          have x0 := X2.out.1
          have x1 := X2.out.2
          go_wp2_with fail
          go_roundg (n - (i + 1))
          case measure => have := hi.out; have := C3.out; omega
          case rel => exact ⟨i + 1, (L ++ [true]), _, nM, _, ⟨by have := C3.out; omega⟩, ⟨by have := HLM_.out; have := HN_.out; have := hLi.out; have := hnL.out; omega⟩, ⟨HN_.out.symm⟩, by rw [X1.out], rfl, ⟨by rw [HN_.out]; exact I11.out⟩, O11, B11⟩
        · rcases L.eq_nil_or_concat with rfl | ⟨l1, b, hl1⟩
          · have HPop := Aside0.mk (pop_none g w wr (by simpa [mw] using HI.out))
            obtain rfl : nL = 0 := by have := hnL.out; simpa using this
            go_upto_region 14 with (first | (go_at_call 15; refine HPop.out.mono ?_; rintro e w3 ⟨rfl, rfl⟩))
            clear HPop
            go_upto_region 18 with (fail)
            have I_ : Aside0 (IsB w wr g (mw 0) ([] : List Bool)) := HI
            have O_ := HO
            have B_ := HB
            have HN_ : Aside0 (([] : List Bool).length = 0) := ⟨rfl⟩
            have HLM_ : Aside0 (0 ≤ ([] : List Bool).length + 1) := ⟨by omega⟩
            clear HI HO HB
            have HTop := Aside0.mk (top_none g w wr (by simpa [mw] using I_.out))
            have HLen := Aside0.mk (len_calls g _ _ w wr I_.out)
            have HWds := Aside0.mk (words_calls g _ _ w wr I_.out)
            have HRef := Aside0.mk (refWords_calls 0 (by have := HLM_.out; have := HLn.out; omega) wr)
            rw [HN_.out] at HLen
            obtain ⟨mv, hmv⟩ : ∃ mv, mv = mw 0 := ⟨_, rfl⟩
            rw [← hmv] at HWds HRef
            clear hmv
            have hbb : (false != false) = false := by simp
            go_upto_region 19 with (first | (go_at_call 16; refine HTop.out.mono ?_; rintro e w9 ⟨rfl, rfl⟩))
            clear HTop
            go_upto_region 21 with (first | (go_at_call 17; refine HLen.out.mono ?_; rintro e w9 ⟨rfl, rfl⟩; clear HLen) | (go_at_call 18; refine HWds.out.mono ?_; rintro e w9 ⟨rfl, rfl⟩; clear HWds) | (go_at_call 19; refine HRef.out.mono ?_; rintro e w9 ⟨rfl, hd⟩; have I9 := Aside0.mk (I_.out.below hd.below); have O9 : Aside0 (OwnB w.heap.size w9 _ ([] : List Bool)) := ⟨pw_own_below O_.out hd.below⟩; have B9 := Aside0.mk (below_step B_.out hd.below); have HAll := Aside0.mk (all_calls g _ _ w w9 I9.out (by have := HN_.out; unfold mw; omega) (by have := HN_.out; have := HLM_.out; have := HLn.out; omega)); rw [HN_.out] at HAll; clear HRef hd I_ O_ B_) | (go_at_call 21; refine HAll.out.mono ?_; rintro e w10 ⟨A10, c10, rfl, o10, b10⟩; have O10 := Aside0.mk o10; have B10 := Aside0.mk b10; clear HAll o10 b10) | (go_at_call 20; refine (same_calls O10.out (pw_own_below O9.out B10.out) HN_.out.symm (by have := HN_.out; have := HLM_.out; have := HLn.out; omega)).mono ?_; rintro e w11 ⟨rfl, hd⟩; have I11 := Aside0.mk ((I9.out.below B10.out).below hd.below); have O11 : Aside0 (OwnB w.heap.size w11 _ ([] : List Bool)) := ⟨pw_own_below (pw_own_below O9.out B10.out) hd.below⟩; have B11 := Aside0.mk (below_step (below_step B9.out B10.out) hd.below); clear O10 B10 hd I9 O9 B9))
            clear hbb
            have x0 := X2.out.1
            have x1 := X2.out.2
            go_wp2_with fail
            go_roundg (n - (i + 1))
            case measure => have := hi.out; have := C3.out; omega
            case rel => exact ⟨i + 1, ([] : List Bool), _, 0, _, ⟨by have := C3.out; omega⟩, ⟨by have := HLM_.out; have := HN_.out; have := hLi.out; have := hnL.out; omega⟩, ⟨HN_.out.symm⟩, by rw [X1.out], rfl, ⟨by rw [HN_.out]; exact I11.out⟩, O11, B11⟩
          · rw [List.concat_eq_append] at hl1
            subst hl1
            obtain ⟨nM, hM⟩ : ∃ nM, nM = l1.length := ⟨_, rfl⟩
            have HM := Aside0.mk hM
            obtain ⟨y, hy⟩ : ∃ y : Int, y = (nL : Int) - 1 := ⟨_, rfl⟩
            have hnM : nL = l1.length + 1 := by have := hnL.out; simpa using this
            have hyM : y = (nM : Int) := by omega
            have HLm := Aside0.mk (show l1.length < 500 by have := HLn.out; simp at this; omega)
            have HPop := Aside0.mk (pop_calls g l1 b w wr (by have h := HI.out; rw [show (l1 ++ [b]).length = l1.length + 1 by simp] at h; exact h) HB.out (by have := HLm.out; omega))
            obtain ⟨ad3, rfl, hcell3⟩ := last_at HO.out hnM y hy
            have y0 : 0 ≤ y := by omega
            have y1 : y < 1000 := by have := HLm.out; omega
            have y2 : y < (nL : Int) := by omega
            have hy1 : (nL : Int) - 1 = y := hy.symm
            have Y := Aside0.mk (And.intro hcell3 (And.intro y0 (And.intro y1 (And.intro y2 hy1))))
            have HYM := Aside0.mk hyM
            have HNM := Aside0.mk hnM
            clear hM hy hyM hcell3 y0 y1 y2 hy1 hnM
            go_upto_region 14 with (first | (go_at_call 15; refine HPop.out.mono ?_; rintro e w3 ⟨rfl, i3, b3, k3⟩; have B3 := Aside0.mk b3; have O3 := Aside0.mk (KeepT.ownB k3 HO.out (HI.out.ne4 HO.out)); have I3 := Aside0.mk i3; clear i3 b3 k3))
            clear HPop HI HO HB
            obtain ⟨ad4, had, hcell3⟩ := last_at O3.out HNM.out y Y.out.2.2.2.2.symm
            obtain rfl : ad3 = ad4 := Option.some.inj had
            obtain ⟨-, y0, y1, y2, hy1⟩ := Y.out
            have y3 : decide ((nL : Int) > 0) = true := by simp; omega
            have y4 : (0 : Int) < (nL : Int) := by omega
            have hbb : (b != b) = false := by cases b <;> rfl
            clear had
            go_upto_region 16 with (fail)
            obtain ⟨hcut, hcap⟩ := cut_last O3.out HNM.out
            have hsl : ∀ W : World, (Instr.sliceAt 27 (.slice (some ad3) nL cL) none (some (.int .i64 y)) none).run Try.prog W = .ok (.slice (some ad3) nM cL) W := by
              intro W
              obtain ⟨i4, hi4⟩ : ∃ i, Try.prog.info? 4 = some i := by
                have h := info4b
                cases h8 : Try.prog.info? 4 with
                | none => rw [h8] at h; cases h
                | some i => exact ⟨i, rfl⟩
              have hM := HM.out
              have hNM := HNM.out
              have h1 : nM ≤ nL := by omega
              have h2 : nM ≤ cL := by omega
              have hx : ad3.add 0 = ad3 := by unfold Addr.add; simp
              rw [HYM.out]
              simp [Instr.sliceAt, Instr.slice, Instr.sliceBounds, Instr.sliceBound, asIntOf, run_underlying Try.underlying27, go_sem, sizeOf, typeInfo, hi4, h2, hx, pure, Sem.pure]
            have HSL := Aside0.mk hsl
            have O_ : Aside0 (OwnB w.heap.size w3 (.slice (some ad3) nM cL) l1) := ⟨by rw [HM.out]; exact hcut⟩
            have B_ := B3
            have I_ : Aside0 (IsB w w3 g (mw nM) l1) := ⟨by rw [HM.out]; exact I3.out⟩
            have HN_ : Aside0 (l1.length = nM) := ⟨HM.out.symm⟩
            clear hcut hcap hcell3 y2 y3 y4 hbb I3 B3 O3
            go_upto_region 18 with (fail)
            clear hsl HSL y0 y1 hy1 Y HYM
            have HLn : Aside0 (l1.length < 500) := HLm
            have HLi2 : Aside0 (l1.length + 1 ≤ i) := ⟨by have := hLi.out; simpa using this⟩
            clear HLm hLi HM HNM hnL
            have hnL : Aside0 (True) := ⟨trivial⟩
            have hLi : Aside0 (l1.length + 1 ≤ i) := HLi2
            have HLM_ : Aside0 (nM ≤ l1.length) := ⟨by have := HN_.out; omega⟩
            rcases l1.eq_nil_or_concat with hl2 | ⟨l2, b2, hl2⟩
            · subst hl2
              obtain rfl : nM = 0 := by have := HN_.out; simpa using this.symm
              have HTop := Aside0.mk (top_none g w w3 (by simpa [mw] using I_.out))
              have HLen := Aside0.mk (len_calls g _ _ w w3 I_.out)
              have HWds := Aside0.mk (words_calls g _ _ w w3 I_.out)
              have HRef := Aside0.mk (refWords_calls 0 (by have := HLM_.out; have := HLn.out; omega) w3)
              rw [HN_.out] at HLen
              obtain ⟨mv, hmv⟩ : ∃ mv, mv = mw 0 := ⟨_, rfl⟩
              rw [← hmv] at HWds HRef
              clear hmv
              have hbb : (false != false) = false := by simp
              go_upto_region 19 with (first | (go_at_call 16; refine HTop.out.mono ?_; rintro e w9 ⟨rfl, rfl⟩))
              clear HTop
              go_upto_region 21 with (first | (go_at_call 17; refine HLen.out.mono ?_; rintro e w9 ⟨rfl, rfl⟩; clear HLen) | (go_at_call 18; refine HWds.out.mono ?_; rintro e w9 ⟨rfl, rfl⟩; clear HWds) | (go_at_call 19; refine HRef.out.mono ?_; rintro e w9 ⟨rfl, hd⟩; have I9 := Aside0.mk (I_.out.below hd.below); have O9 : Aside0 (OwnB w.heap.size w9 _ ([] : List Bool)) := ⟨pw_own_below O_.out hd.below⟩; have B9 := Aside0.mk (below_step B_.out hd.below); have HAll := Aside0.mk (all_calls g _ _ w w9 I9.out (by have := HN_.out; unfold mw; omega) (by have := HN_.out; have := HLM_.out; have := HLn.out; omega)); rw [HN_.out] at HAll; clear HRef hd I_ O_ B_) | (go_at_call 21; refine HAll.out.mono ?_; rintro e w10 ⟨A10, c10, rfl, o10, b10⟩; have O10 := Aside0.mk o10; have B10 := Aside0.mk b10; clear HAll o10 b10) | (go_at_call 20; refine (same_calls O10.out (pw_own_below O9.out B10.out) HN_.out.symm (by have := HN_.out; have := HLM_.out; have := HLn.out; omega)).mono ?_; rintro e w11 ⟨rfl, hd⟩; have I11 := Aside0.mk ((I9.out.below B10.out).below hd.below); have O11 : Aside0 (OwnB w.heap.size w11 _ ([] : List Bool)) := ⟨pw_own_below (pw_own_below O9.out B10.out) hd.below⟩; have B11 := Aside0.mk (below_step (below_step B9.out B10.out) hd.below); clear O10 B10 hd I9 O9 B9))
              clear hbb
              have x0 := X2.out.1
              have x1 := X2.out.2
              go_wp2_with fail
              go_roundg (n - (i + 1))
              case measure => have := hi.out; have := C3.out; omega
              case rel => exact ⟨i + 1, ([] : List Bool), _, 0, _, ⟨by have := C3.out; omega⟩, ⟨by have := HLM_.out; have := HN_.out; have := hLi.out; have := hnL.out; omega⟩, ⟨HN_.out.symm⟩, by rw [X1.out], rfl, ⟨by rw [HN_.out]; exact I11.out⟩, O11, B11⟩
            · rw [List.concat_eq_append] at hl2
              subst hl2
              have HTop := Aside0.mk (top_some g _ l2 b2 w w3 I_.out (by have := HN_.out; simp at this ⊢; unfold mw; omega) (by have h1 := HN_.out; have h2 := HLn.out; have h3 := HLM_.out; simp at h1 h2 h3 ⊢; omega))
              have HLen := Aside0.mk (len_calls g _ _ w w3 I_.out)
              have HWds := Aside0.mk (words_calls g _ _ w w3 I_.out)
              have HRef := Aside0.mk (refWords_calls nM (by have := HLM_.out; have := HLn.out; omega) w3)
              rw [HN_.out] at HLen
              obtain ⟨mv, hmv⟩ : ∃ mv, mv = mw nM := ⟨_, rfl⟩
              rw [← hmv] at HWds HRef
              clear hmv
              obtain ⟨y, hy⟩ : ∃ y : Int, y = (nM : Int) - 1 := ⟨_, rfl⟩
              obtain ⟨ad2, had2, hcell2⟩ := last_at O_.out (by have := HN_.out; simp at this; omega) y hy
              first | subst had2 | (obtain rfl := Option.some.inj had2; clear had2)
              have hy1 : (nM : Int) - 1 = y := hy.symm
              have y0 : 0 ≤ y := by have := HN_.out; simp at this; omega
              have y1 : y < 1000 := by have := HLM_.out; have := HLn.out; omega
              have y2 : y < (nM : Int) := by omega
              have y3 : decide ((nM : Int) > 0) = true := by simp; omega
              have y4 : (0 : Int) < (nM : Int) := by omega
              clear hy
              have hbb : (b2 != b2) = false := by simp
              go_upto_region 19 with (first | (go_at_call 16; refine HTop.out.mono ?_; rintro e w9 ⟨rfl, rfl⟩))
              clear HTop
              go_upto_region 21 with (first | (go_at_call 17; refine HLen.out.mono ?_; rintro e w9 ⟨rfl, rfl⟩; clear HLen) | (go_at_call 18; refine HWds.out.mono ?_; rintro e w9 ⟨rfl, rfl⟩; clear HWds) | (go_at_call 19; refine HRef.out.mono ?_; rintro e w9 ⟨rfl, hd⟩; have I9 := Aside0.mk (I_.out.below hd.below); have O9 : Aside0 (OwnB w.heap.size w9 _ (l2 ++ [b2])) := ⟨pw_own_below O_.out hd.below⟩; have B9 := Aside0.mk (below_step B_.out hd.below); have HAll := Aside0.mk (all_calls g _ _ w w9 I9.out (by have := HN_.out; unfold mw; omega) (by have := HN_.out; have := HLM_.out; have := HLn.out; omega)); rw [HN_.out] at HAll; clear HRef hd I_ O_ B_) | (go_at_call 21; refine HAll.out.mono ?_; rintro e w10 ⟨A10, c10, rfl, o10, b10⟩; have O10 := Aside0.mk o10; have B10 := Aside0.mk b10; clear HAll o10 b10) | (go_at_call 20; refine (same_calls O10.out (pw_own_below O9.out B10.out) HN_.out.symm (by have := HN_.out; have := HLM_.out; have := HLn.out; omega)).mono ?_; rintro e w11 ⟨rfl, hd⟩; have I11 := Aside0.mk ((I9.out.below B10.out).below hd.below); have O11 : Aside0 (OwnB w.heap.size w11 _ (l2 ++ [b2])) := ⟨pw_own_below (pw_own_below O9.out B10.out) hd.below⟩; have B11 := Aside0.mk (below_step (below_step B9.out B10.out) hd.below); clear O10 B10 hd I9 O9 B9))
              clear hcell2 y0 y1 y2 y3 y4 hy1 hbb
              have x0 := X2.out.1
              have x1 := X2.out.2
              go_wp2_with fail
              go_roundg (n - (i + 1))
              case measure => have := hi.out; have := C3.out; omega
              case rel => exact ⟨i + 1, (l2 ++ [b2]), _, nM, _, ⟨by have := C3.out; omega⟩, ⟨by have := HLM_.out; have := HN_.out; have := hLi.out; have := hnL.out; omega⟩, ⟨HN_.out.symm⟩, by rw [X1.out], rfl, ⟨by rw [HN_.out]; exact I11.out⟩, O11, B11⟩
      · have q2 : decide ((i : Int) < (n : Int)) = false := by simp; omega
        go_wp2_with fail
        go_ret
        exact ⟨rfl, HB.out⟩
  · have q0 : decide ((n : Int) > 500) = true := by simp; omega
    clear h2
    go_enter Try.func3, Try.ntmps3
    go_upto_region 3 with (first | (go_at_call 13; refine (alive_calls w).mono ?_; rintro e w0 ⟨rfl, B0⟩; have HB0 := Aside0.mk B0; clear B0))
    go_wp2_with fail
    go_ret
    exact ⟨rfl, HB0.out⟩
end Go.Proofs.Ytjfoppmpiklfiaa.BitsW
