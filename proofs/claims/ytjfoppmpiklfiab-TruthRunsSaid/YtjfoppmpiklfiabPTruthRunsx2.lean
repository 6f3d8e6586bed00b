-- PRINTED BY print.sh 35421559b90ae4d0a3588c463048766b98c2df88dd9212a6774a882060cdf62d: not written by this session
import Derived.Test.YtjfoppmpiklfiabPTruthRunsx0
import Derived.Test.YtjfoppmpiklfiabPTruthRunsx1
namespace Go.Proofs.Ytjfoppmpiklfiab.PTruthRuns
open Go.RowKit Go.Proofs.YtjfoppmpiklfiabW.PrintWords Go.Proofs.YtjfoppmpiklfiabW.PrintLast Go.Proofs.YtjfoppmpiklfiabW.PrintMore
attribute [local go_sem] max2_int min2_int max_two min_two max_three min_three max_four min_four   -- for this text's walks alone
set_option linter.unusedVariables false
set_option linter.unusedSimpArgs false

/-! ### riffleref18_Values: function 41 -/
mutual
def riffleref18_Values.l0 : Nat → List Int → List (S51) → Int → Int → Option (List Int)
  | 0, _, _, _, _ => none
  | k + 1, x3, x10, x11, x12 => if x12 < x11 then (if 0 ≤ x12 then (if x12 < (x10.length : Int) then ((riffleref18_count.f k x3 ((rd_T51 x10 x12).f1) 1).bind fun t121 => ((riffleref18_count.f k x3 ((rd_T51 x10 x12).f1) 2).bind fun t122 => (if ((rd_T51 x10 x12).f0) = 0 then (riffleref18_Values.j1 k x3 0 t121 x10 x11 x12 true ((rd_T51 x10 x12).f0) ((rd_T51 x10 x12).f1) ((rd_T51 x10 x12).f2)) else (if ((rd_T51 x10 x12).f0) = 3 then (if t122 > 0 then (riffleref18_Values.j1 k x3 0 t121 x10 x11 x12 true ((rd_T51 x10 x12).f0) ((rd_T51 x10 x12).f1) ((rd_T51 x10 x12).f2)) else (if ((rd_T51 x10 x12).f0) = 4 then (riffleref18_Values.j1 k x3 0 t121 x10 x11 x12 (t122 == (((rd_T51 x10 x12).f1).length : Int)) ((rd_T51 x10 x12).f0) ((rd_T51 x10 x12).f1) ((rd_T51 x10 x12).f2)) else (riffleref18_Values.j1 k x3 0 t121 x10 x11 x12 false ((rd_T51 x10 x12).f0) ((rd_T51 x10 x12).f1) ((rd_T51 x10 x12).f2)))) else (if ((rd_T51 x10 x12).f0) = 4 then (riffleref18_Values.j1 k x3 0 t121 x10 x11 x12 (t122 == (((rd_T51 x10 x12).f1).length : Int)) ((rd_T51 x10 x12).f0) ((rd_T51 x10 x12).f1) ((rd_T51 x10 x12).f2)) else (riffleref18_Values.j1 k x3 0 t121 x10 x11 x12 false ((rd_T51 x10 x12).f0) ((rd_T51 x10 x12).f1) ((rd_T51 x10 x12).f2))))))) else (none)) else (none)) else (some x3)
def riffleref18_Values.j1 : Nat → List Int → Int → Int → List (S51) → Int → Int → Bool → Int → List Int → Int → Option (List Int)
  | 0, _, _, _, _, _, _, _, _, _, _ => none
  | k + 1, x3, x6, x7, x10, x11, x12, x47, x121000, x121001, x121002 => if x47 = true then (riffleref18_Values.j2 k x3 2 x7 x10 x11 x12 x121000 x121001 x121002) else (riffleref18_Values.j2 k x3 x6 x7 x10 x11 x12 x121000 x121001 x121002)
def riffleref18_Values.j2 : Nat → List Int → Int → Int → List (S51) → Int → Int → Int → List Int → Int → Option (List Int)
  | 0, _, _, _, _, _, _, _, _, _ => none
  | k + 1, x3, x6, x7, x10, x11, x12, x121000, x121001, x121002 => if x121000 = 1 then (riffleref18_Values.j3 k x3 x6 x10 x11 x12 true x121000 x121001 x121002) else (if x121000 = 3 then (if x7 = (x121001.length : Int) then (riffleref18_Values.j3 k x3 x6 x10 x11 x12 true x121000 x121001 x121002) else (if x121000 = 4 then (riffleref18_Values.j3 k x3 x6 x10 x11 x12 (decide (x7 > 0)) x121000 x121001 x121002) else (riffleref18_Values.j3 k x3 x6 x10 x11 x12 false x121000 x121001 x121002))) else (if x121000 = 4 then (riffleref18_Values.j3 k x3 x6 x10 x11 x12 (decide (x7 > 0)) x121000 x121001 x121002) else (riffleref18_Values.j3 k x3 x6 x10 x11 x12 false x121000 x121001 x121002)))
def riffleref18_Values.j3 : Nat → List Int → Int → List (S51) → Int → Int → Bool → Int → List Int → Int → Option (List Int)
  | 0, _, _, _, _, _, _, _, _, _ => none
  | k + 1, x3, x6, x10, x11, x12, x71, x121000, x121001, x121002 => if x71 = true then (if x121000 = 2 then (if x3.length < 17592186044416 then (riffleref18_Values.l0 k (x3 ++ [x121002]) x10 x11 (wrap64 (x12 + 1))) else (none)) else (if x3.length < 17592186044416 then (riffleref18_Values.l0 k (x3 ++ [1]) x10 x11 (wrap64 (x12 + 1))) else (none))) else (if x121000 = 2 then (if x3.length < 17592186044416 then (riffleref18_Values.l0 k (x3 ++ [x121002]) x10 x11 (wrap64 (x12 + 1))) else (none)) else (if x3.length < 17592186044416 then (riffleref18_Values.l0 k (x3 ++ [x6]) x10 x11 (wrap64 (x12 + 1))) else (none)))
end
def riffleref18_Values.f (k : Nat) (l0 : List (S51)) : Option (List Int) := riffleref18_Values.l0 k (([] : List Int)) l0 (l0.length : Int) 0
theorem riffleref18_Values.mono_l : ∀ k, (∀ y0 y1 y2 y3, LeO (riffleref18_Values.l0 k y0 y1 y2 y3) (riffleref18_Values.l0 (k + 1) y0 y1 y2 y3)) ∧ (∀ y0 y1 y2 y3 y4 y5 y6 y7 y8 y9, LeO (riffleref18_Values.j1 k y0 y1 y2 y3 y4 y5 y6 y7 y8 y9) (riffleref18_Values.j1 (k + 1) y0 y1 y2 y3 y4 y5 y6 y7 y8 y9)) ∧ (∀ y0 y1 y2 y3 y4 y5 y6 y7 y8, LeO (riffleref18_Values.j2 k y0 y1 y2 y3 y4 y5 y6 y7 y8) (riffleref18_Values.j2 (k + 1) y0 y1 y2 y3 y4 y5 y6 y7 y8)) ∧ (∀ y0 y1 y2 y3 y4 y5 y6 y7 y8, LeO (riffleref18_Values.j3 k y0 y1 y2 y3 y4 y5 y6 y7 y8) (riffleref18_Values.j3 (k + 1) y0 y1 y2 y3 y4 y5 y6 y7 y8))
  | 0 => ⟨fun _ _ _ _ r h => by simp [riffleref18_Values.l0] at h, fun _ _ _ _ _ _ _ _ _ _ r h => by simp [riffleref18_Values.j1] at h, fun _ _ _ _ _ _ _ _ _ r h => by simp [riffleref18_Values.j2] at h, fun _ _ _ _ _ _ _ _ _ r h => by simp [riffleref18_Values.j3] at h⟩
  | k + 1 => by
    obtain ⟨ih0, ih1, ih2, ih3⟩ := riffleref18_Values.mono_l k
    refine ⟨?_, ?_, ?_, ?_⟩
    · intro y0 y1 y2 y3
      unfold riffleref18_Values.l0
      repeat' first
      | (with_reducible exact ih0 _ _ _ _)
      | (with_reducible exact ih1 _ _ _ _ _ _ _ _ _ _)
      | (with_reducible exact ih2 _ _ _ _ _ _ _ _ _)
      | (with_reducible exact ih3 _ _ _ _ _ _ _ _ _)
      | (with_reducible exact riffleref18_count.mono _ _ _ _)
      | (with_reducible exact LeO.refl _)
      | (with_reducible exact LeO.none _)
      | (with_reducible refine LeO.ite ?_ ?_)
      | (with_reducible refine LeO.bind ?_ (fun _ => ?_))
      | exact ih0 _ _ _ _
      | exact ih1 _ _ _ _ _ _ _ _ _ _
      | exact ih2 _ _ _ _ _ _ _ _ _
      | exact ih3 _ _ _ _ _ _ _ _ _
      | exact riffleref18_count.mono _ _ _ _
      | exact LeO.none _
      | refine LeO.ite ?_ ?_
      | refine LeO.bind ?_ (fun _ => ?_)
    · intro y0 y1 y2 y3 y4 y5 y6 y7 y8 y9
      unfold riffleref18_Values.j1
      repeat' first
      | (with_reducible exact ih0 _ _ _ _)
      | (with_reducible exact ih1 _ _ _ _ _ _ _ _ _ _)
      | (with_reducible exact ih2 _ _ _ _ _ _ _ _ _)
      | (with_reducible exact ih3 _ _ _ _ _ _ _ _ _)
      | (with_reducible exact riffleref18_count.mono _ _ _ _)
      | (with_reducible exact LeO.refl _)
      | (with_reducible exact LeO.none _)
      | (with_reducible refine LeO.ite ?_ ?_)
      | (with_reducible refine LeO.bind ?_ (fun _ => ?_))
      | exact ih0 _ _ _ _
      | exact ih1 _ _ _ _ _ _ _ _ _ _
      | exact ih2 _ _ _ _ _ _ _ _ _
      | exact ih3 _ _ _ _ _ _ _ _ _
      | exact riffleref18_count.mono _ _ _ _
      | exact LeO.none _
      | refine LeO.ite ?_ ?_
      | refine LeO.bind ?_ (fun _ => ?_)
    · intro y0 y1 y2 y3 y4 y5 y6 y7 y8
      unfold riffleref18_Values.j2
      repeat' first
      | (with_reducible exact ih0 _ _ _ _)
      | (with_reducible exact ih1 _ _ _ _ _ _ _ _ _ _)
      | (with_reducible exact ih2 _ _ _ _ _ _ _ _ _)
      | (with_reducible exact ih3 _ _ _ _ _ _ _ _ _)
      | (with_reducible exact riffleref18_count.mono _ _ _ _)
      | (with_reducible exact LeO.refl _)
      | (with_reducible exact LeO.none _)
      | (with_reducible refine LeO.ite ?_ ?_)
      | (with_reducible refine LeO.bind ?_ (fun _ => ?_))
      | exact ih0 _ _ _ _
      | exact ih1 _ _ _ _ _ _ _ _ _ _
      | exact ih2 _ _ _ _ _ _ _ _ _
      | exact ih3 _ _ _ _ _ _ _ _ _
      | exact riffleref18_count.mono _ _ _ _
      | exact LeO.none _
      | refine LeO.ite ?_ ?_
      | refine LeO.bind ?_ (fun _ => ?_)
    · intro y0 y1 y2 y3 y4 y5 y6 y7 y8
      unfold riffleref18_Values.j3
      repeat' first
      | (with_reducible exact ih0 _ _ _ _)
      | (with_reducible exact ih1 _ _ _ _ _ _ _ _ _ _)
      | (with_reducible exact ih2 _ _ _ _ _ _ _ _ _)
      | (with_reducible exact ih3 _ _ _ _ _ _ _ _ _)
      | (with_reducible exact riffleref18_count.mono _ _ _ _)
      | (with_reducible exact LeO.refl _)
      | (with_reducible exact LeO.none _)
      | (with_reducible refine LeO.ite ?_ ?_)
      | (with_reducible refine LeO.bind ?_ (fun _ => ?_))
      | exact ih0 _ _ _ _
      | exact ih1 _ _ _ _ _ _ _ _ _ _
      | exact ih2 _ _ _ _ _ _ _ _ _
      | exact ih3 _ _ _ _ _ _ _ _ _
      | exact riffleref18_count.mono _ _ _ _
      | exact LeO.none _
      | refine LeO.ite ?_ ?_
      | refine LeO.bind ?_ (fun _ => ?_)
theorem riffleref18_Values.mono : ∀ a0 k, LeO (riffleref18_Values.f k a0) (riffleref18_Values.f (k + 1) a0) := by
  intro a0 k
  obtain ⟨ih0, ih1, ih2, ih3⟩ := riffleref18_Values.mono_l k
  unfold riffleref18_Values.f
  repeat' first
      | (with_reducible exact ih0 _ _ _ _)
      | (with_reducible exact ih1 _ _ _ _ _ _ _ _ _ _)
      | (with_reducible exact ih2 _ _ _ _ _ _ _ _ _)
      | (with_reducible exact ih3 _ _ _ _ _ _ _ _ _)
      | (with_reducible exact riffleref18_count.mono _ _ _ _)
      | (with_reducible exact LeO.refl _)
      | (with_reducible exact LeO.none _)
      | (with_reducible refine LeO.ite ?_ ?_)
      | (with_reducible refine LeO.bind ?_ (fun _ => ?_))
      | exact ih0 _ _ _ _
      | exact ih1 _ _ _ _ _ _ _ _ _ _
      | exact ih2 _ _ _ _ _ _ _ _ _
      | exact ih3 _ _ _ _ _ _ _ _ _
      | exact riffleref18_count.mono _ _ _ _
      | exact LeO.none _
      | refine LeO.ite ?_ ?_
      | refine LeO.bind ?_ (fun _ => ?_)
set_option maxHeartbeats 8000000 in
set_option maxRecDepth 100000 in
theorem riffleref18_Values.calls (k : Nat) (A0 : Option Addr) (c0 : Nat) (l0 : List (S51)) (r : List Int) (w : World) (hr0 : Kd.C k51 w A0 l0.length l0) (hc0 : l0.length ≤ c0) (h : riffleref18_Values.f k l0 = some r) :
    Calls Try.prog 41 #[.slice A0 l0.length c0] w fun e w' => ∃ v0_ : Value, e = .returned (v0_) ∧ Kd.R (Kd.int .i64) 3 w' w.heap.size (fun _ => True) v0_ r ∧ Below w.heap.size w w' := by
  have hu51 := Try.underlying51
  have HR0 := Aside0.mk hr0
  have HC0 := Aside0.mk hc0
  clear hr0 hc0
  have HB := Aside0.mk (Below.refl w.heap.size w)
  have H : (riffleref18_Values.l0 k (([] : List Int)) l0 (l0.length : Int) 0) = some r := h
  clear h
  obtain ⟨y116, hy116⟩ : ∃ y_ : List Int, y_ = (([] : List Int)) := ⟨_, rfl⟩
  replace H : (riffleref18_Values.l0 k y116 l0 (l0.length : Int) 0) = some r := by first | (rw [hy116]; with_reducible exact H) | (have H2_ := (Option.bind_some _ _).symm.trans H; rw [hy116]; with_reducible exact H2_) | (have H2_ := (Option.bind_some _ _).symm.trans H; with_reducible exact H2_) | with_reducible exact H | (rw [hy116]; exact H) | exact H
  have Ny116 := Aside0.mk hy116
  clear hy116
  have H' := Aside0.mk H
  clear H
  go_enter Try.func41, Try.ntmps41
  go_wp2_with (first | ((with_reducible refine gate_dst (N := 9) rfl ?_); (try (refine gate_guard (by rfl) ?_; dsimp only)); refine Kd.R_lit (Kd.int .i64) _ 3 ?hg (N := 9) ?hd (xs := ([] : List Int)) (inner := []) (ok := fun _ => True) (okp := fun _ => True) ?hr ?hp (fun _ hk => hk) trivial (Below.refl _ _) (Nat.le_refl _) (by simp) ?_; (case hd => rfl); (case hg => rfl); (case hr => first | (go_simp; done) | (go_simp; rfl)); (case hp => exact (Reps.none _ _)); intro v117 w2 ho3 hb hg_ hnew_; clear hg_ hnew_; (first | rw [← Ny116.out] at ho3 | (simp only [Int.reduceToNat] at ho3; rw [← Ny116.out] at ho3)); have n0_ := Aside0.mk (Kd.R_lower ho3 (below_size (by repeat (first | (with_reducible first | exact HB.out | apply below_alloc | apply pw_below_drewN | apply below_drew1) | exact HB.out)))); have n1_ := Aside0.mk (below_step (by repeat (first | (with_reducible first | exact HB.out | apply below_alloc | apply pw_below_drewN | apply below_drew1) | exact HB.out)) hb); clear HB; have HO118 := n0_; have HB := n1_; clear n0_ n1_; clear hb ho3))
  go_loopg [3, 12] k (fun kq v3 v12 w' => ∃ (x3_1 : List Int) (x12_1 : Int), v12 = .int .i64 x12_1 ∧ Aside0 (riffleref18_Values.l0 kq x3_1 l0 (l0.length : Int) x12_1 = some r) ∧ Aside0 (kq ≤ k) ∧ Aside0 (Kd.R (Kd.int .i64) 3 w' w.heap.size (fun _ => True) v3 x3_1) ∧ Aside0 (Below w.heap.size w w'))
  case atStart => exact ⟨(y116), (0), (by first | rfl | (simp; done) | (simp [*]; done)), H', ⟨Nat.le_refl _⟩, ⟨by (with_reducible repeat (first | apply Kd.R_alloc | apply Kd.R_drewN | apply Kd.R_drew)); exact HO118.out⟩, ⟨by repeat (first | (with_reducible first | exact HB.out | apply below_alloc | apply pw_below_drewN | apply below_drew1) | exact HB.out)⟩⟩
  case round =>
    clear H'
    try clear p2
    obtain ⟨x3_1, x12_1, rfl, HA, HK1, HO_3, HB⟩ := hrel
    cases gk with
    | zero => exact absurd HA.out (by simp [riffleref18_Values.l0])
    | succ k1 =>
      have H := HA.out
      clear HA
      simp only [riffleref18_Values.l0] at H
      by_cases c4 : x12_1 < (l0.length : Int)
      · rw [if_pos c4] at H
        have c4b0 : decide (x12_1 < (l0.length : Int)) = true := decide_eq_true c4
        clear c4
        by_cases c5 : 0 ≤ x12_1
        · rw [if_pos c5] at H
          have c5b0 : decide (0 ≤ x12_1) = true := decide_eq_true c5
          clear c5
          by_cases c6 : x12_1 < (l0.length : Int)
          · rw [if_pos c6] at H
            have c6b0 : decide (x12_1 < (l0.length : Int)) = true := decide_eq_true c6
            clear c6
            replace H := Option.bind_eq_some_iff.mp H
            obtain ⟨t121, A70, H⟩ := H
            replace H : ((riffleref18_count.f k1 x3_1 ((rd_T51 l0 x12_1).f1) 2).bind fun t122 => (if ((rd_T51 l0 x12_1).f0) = 0 then (riffleref18_Values.j1 k1 x3_1 0 t121 l0 (l0.length : Int) x12_1 true ((rd_T51 l0 x12_1).f0) ((rd_T51 l0 x12_1).f1) ((rd_T51 l0 x12_1).f2)) else (if ((rd_T51 l0 x12_1).f0) = 3 then (if t122 > 0 then (riffleref18_Values.j1 k1 x3_1 0 t121 l0 (l0.length : Int) x12_1 true ((rd_T51 l0 x12_1).f0) ((rd_T51 l0 x12_1).f1) ((rd_T51 l0 x12_1).f2)) else (if ((rd_T51 l0 x12_1).f0) = 4 then (riffleref18_Values.j1 k1 x3_1 0 t121 l0 (l0.length : Int) x12_1 (t122 == (((rd_T51 l0 x12_1).f1).length : Int)) ((rd_T51 l0 x12_1).f0) ((rd_T51 l0 x12_1).f1) ((rd_T51 l0 x12_1).f2)) else (riffleref18_Values.j1 k1 x3_1 0 t121 l0 (l0.length : Int) x12_1 false ((rd_T51 l0 x12_1).f0) ((rd_T51 l0 x12_1).f1) ((rd_T51 l0 x12_1).f2)))) else (if ((rd_T51 l0 x12_1).f0) = 4 then (riffleref18_Values.j1 k1 x3_1 0 t121 l0 (l0.length : Int) x12_1 (t122 == (((rd_T51 l0 x12_1).f1).length : Int)) ((rd_T51 l0 x12_1).f0) ((rd_T51 l0 x12_1).f1) ((rd_T51 l0 x12_1).f2)) else (riffleref18_Values.j1 k1 x3_1 0 t121 l0 (l0.length : Int) x12_1 false ((rd_T51 l0 x12_1).f0) ((rd_T51 l0 x12_1).f1) ((rd_T51 l0 x12_1).f2)))))) = some r := H
            have A7 := Aside0.mk A70
            clear A70
            replace H := Option.bind_eq_some_iff.mp H
            obtain ⟨t122, A80, H⟩ := H
            replace H : (if ((rd_T51 l0 x12_1).f0) = 0 then (riffleref18_Values.j1 k1 x3_1 0 t121 l0 (l0.length : Int) x12_1 true ((rd_T51 l0 x12_1).f0) ((rd_T51 l0 x12_1).f1) ((rd_T51 l0 x12_1).f2)) else (if ((rd_T51 l0 x12_1).f0) = 3 then (if t122 > 0 then (riffleref18_Values.j1 k1 x3_1 0 t121 l0 (l0.length : Int) x12_1 true ((rd_T51 l0 x12_1).f0) ((rd_T51 l0 x12_1).f1) ((rd_T51 l0 x12_1).f2)) else (if ((rd_T51 l0 x12_1).f0) = 4 then (riffleref18_Values.j1 k1 x3_1 0 t121 l0 (l0.length : Int) x12_1 (t122 == (((rd_T51 l0 x12_1).f1).length : Int)) ((rd_T51 l0 x12_1).f0) ((rd_T51 l0 x12_1).f1) ((rd_T51 l0 x12_1).f2)) else (riffleref18_Values.j1 k1 x3_1 0 t121 l0 (l0.length : Int) x12_1 false ((rd_T51 l0 x12_1).f0) ((rd_T51 l0 x12_1).f1) ((rd_T51 l0 x12_1).f2)))) else (if ((rd_T51 l0 x12_1).f0) = 4 then (riffleref18_Values.j1 k1 x3_1 0 t121 l0 (l0.length : Int) x12_1 (t122 == (((rd_T51 l0 x12_1).f1).length : Int)) ((rd_T51 l0 x12_1).f0) ((rd_T51 l0 x12_1).f1) ((rd_T51 l0 x12_1).f2)) else (riffleref18_Values.j1 k1 x3_1 0 t121 l0 (l0.length : Int) x12_1 false ((rd_T51 l0 x12_1).f0) ((rd_T51 l0 x12_1).f1) ((rd_T51 l0 x12_1).f2))))) = some r := H
            have A8 := Aside0.mk A80
            clear A80
            have HC9 := Aside0.mk H
            clear H
            have p119 : 0 ≤ (x12_1 : Int) := of_decide_eq_true (by first | (with_reducible assumption) | assumption)
            have q119 : x12_1 < (l0.length : Int) := of_decide_eq_true (by first | (with_reducible assumption) | assumption)
            obtain ⟨ad119, A119_1, c119_1, e119, hx119_0, hx119_1, hx119_2, hl119_1, hi119_1⟩ := at_T51 HR0.out x12_1 p119 q119
            cases e119
            replace hx119_0 := (HB.out.cell (World.block_lt_of_cell? w _ hx119_0)).trans hx119_0
            replace hx119_1 := (HB.out.cell (World.block_lt_of_cell? w _ hx119_1)).trans hx119_1
            replace hx119_2 := (HB.out.cell (World.block_lt_of_cell? w _ hx119_2)).trans hx119_2
            have HR119_1 := Aside0.mk hi119_1
            have HC119_1 := Aside0.mk hl119_1
            clear hi119_1 hl119_1
            replace p119 := eq_true p119
            replace q119 := eq_true q119
            go_upto_region 8 with (first | ((with_reducible refine gate_dst (N := 5) rfl ?_); (try (refine gate_guard (by rfl) ?_; dsimp only)); refine box_event ?hg (N := 5) ?hd (cs := #[.int .i64 0, .slice none 0 0, .int .i64 0]) (t := 51) ?hr ?_; (case hd => rfl); (case hg => rfl); (case hr => first | (go_simp; done) | (go_simp; rfl)); intro gb120 hg w10 hbox hb; have n0_ := Aside0.mk (Kd.R_below (by (with_reducible repeat (first | apply Kd.R_alloc | apply Kd.R_drewN | apply Kd.R_drew)); exact HO_3.out) hb); have n1_ := Aside0.mk (below_step (by repeat (first | (with_reducible first | exact HB.out | apply below_alloc | apply pw_below_drewN | apply below_drew1) | exact HB.out)) hb); have n2_ := Aside0.mk (hbox); have n3_ := Aside0.mk ((by rw [hg]; exact (below_size (by repeat (first | (with_reducible first | exact HB.out | apply below_alloc | apply pw_below_drewN | apply below_drew1) | exact HB.out))) : w.heap.size ≤ gb120)); have n4_ := Aside0.mk ((by rw [hg]; exact (below_size (by repeat (first | (with_reducible first | exact HB.out | apply below_alloc | apply pw_below_drewN | apply below_drew1) | exact HB.out))) : w.heap.size ≤ gb120)); clear HO_3; clear HB; have HO_3 := n0_; have HB := n1_; have BK120 := n2_; have GW120 := n3_; have GE120 := n4_; clear n0_ n1_ n2_ n3_ n4_; clear hb hbox hg; have hcz11_0 : w10.cell? ⟨gb120, 0, none⟩ = some (.int .i64 0) := (blk_cell BK120.out 0).trans rfl; have hcz11_1 : w10.cell? ⟨gb120, 1, none⟩ = some (.slice none 0 0) := (blk_cell BK120.out 1).trans rfl; have hcz11_2 : w10.cell? ⟨gb120, 2, none⟩ = some (.int .i64 0) := (blk_cell BK120.out 2).trans rfl; have hfz11_0 := blk_frozen BK120.out 0; have hfz11_1 := blk_frozen BK120.out 1; have hfz11_2 := blk_frozen BK120.out 2; obtain ⟨Ao12, co12, eo12⟩ := Kd.R_slice HO_3.out; subst eo12) | ((with_reducible refine gate_callee (f := 57) rfl ?_); refine goesL_ (some 19) rfl rfl Try.func57 (by kernel_rfl) rfl #[.slice Ao12 x3_1.length co12, .slice A119_1 ((rd_T51 l0 x12_1).f1).length c119_1, .int .i64 1] rfl (by (try simp only [List.map_toArray, List.map_cons, List.map_nil]); first | done | rfl | (simp only [List.length_drop, List.length_take]; rfl)) ?_; (with_reducible refine (riffleref18_count.calls k1 _ _ x3_1 _ _ ((rd_T51 l0 x12_1).f1) 1 t121 _ ?side1 ?side2 ?side3 ?side4 A7.out).mono ?_); (case side1 => refine (Kd.R_reads' (e := 3) (base := w.heap.size) (ok := fun k_ => True) (n := x3_1.length) (c := co12) ?_).2.2; exact (by (with_reducible repeat (first | apply Kd.R_alloc | apply Kd.R_drewN | apply Kd.R_drew)); exact (Kd.R_mono (Kd.R_far (p := ⟨gb120, 2, none⟩) (Kd.R_far (p := ⟨gb120, 1, none⟩) (Kd.R_far (p := ⟨gb120, 0, none⟩) (Kd.R_types HO_3.out BK120.out (by decide)) (fun _ hk => hk.2) (.int .i64 ((rd_T51 l0 x12_1).f0))) (fun _ hk => hk.2) (.slice A119_1 ((rd_T51 l0 x12_1).f1).length c119_1)) (fun _ hk => hk.2) (.int .i64 ((rd_T51 l0 x12_1).f2))) (fun _ h_ => h_.1)))); (case side2 => exact (Kd.R_reads' HO_3.out).2.1); (case side3 => exact Kd.C_below HR119_1.out (by repeat (first | (with_reducible first | exact HB.out | apply below_alloc | apply pw_below_drewN | apply below_drew1 | refine below_set ?_ GE120.out) | exact HB.out))); (case side4 => exact HC119_1.out); rintro e w' ⟨rfl, ⟨nd, rfl⟩⟩; refine ⟨_, rfl, ?_⟩) | ((with_reducible refine gate_callee (f := 57) rfl ?_); refine goesL_ (some 23) rfl rfl Try.func57 (by kernel_rfl) rfl #[.slice Ao12 x3_1.length co12, .slice A119_1 ((rd_T51 l0 x12_1).f1).length c119_1, .int .i64 2] rfl (by (try simp only [List.map_toArray, List.map_cons, List.map_nil]); first | done | rfl | (simp only [List.length_drop, List.length_take]; rfl)) ?_; (with_reducible refine (riffleref18_count.calls k1 _ _ x3_1 _ _ ((rd_T51 l0 x12_1).f1) 2 t122 _ ?side1 ?side2 ?side3 ?side4 A8.out).mono ?_); (case side1 => refine (Kd.R_reads' (e := 3) (base := w.heap.size) (ok := fun k_ => True) (n := x3_1.length) (c := co12) ?_).2.2; exact (by (with_reducible repeat (first | apply Kd.R_alloc | apply Kd.R_drewN | apply Kd.R_drew)); exact (Kd.R_mono (Kd.R_far (p := ⟨gb120, 2, none⟩) (Kd.R_far (p := ⟨gb120, 1, none⟩) (Kd.R_far (p := ⟨gb120, 0, none⟩) (Kd.R_types HO_3.out BK120.out (by decide)) (fun _ hk => hk.2) (.int .i64 ((rd_T51 l0 x12_1).f0))) (fun _ hk => hk.2) (.slice A119_1 ((rd_T51 l0 x12_1).f1).length c119_1)) (fun _ hk => hk.2) (.int .i64 ((rd_T51 l0 x12_1).f2))) (fun _ h_ => h_.1)))); (case side2 => exact (Kd.R_reads' HO_3.out).2.1); (case side3 => exact Kd.C_below HR119_1.out (by repeat (first | (with_reducible first | exact HB.out | apply below_alloc | apply pw_below_drewN | apply below_drew1 | refine below_set ?_ GE120.out) | exact HB.out))); (case side4 => exact HC119_1.out); rintro e w' ⟨rfl, ⟨nd, rfl⟩⟩; refine ⟨_, rfl, ?_⟩))
            (try simp only [Act.put, List.setIfInBounds_toArray, List.set_cons_zero, List.set_cons_succ])
            go_cut [47] (fun v47 wc => ∃ (kq : Nat) (x47_8 : Bool), v47 = .bool x47_8 ∧ Aside0 (riffleref18_Values.j1 kq x3_1 0 t121 l0 (l0.length : Int) x12_1 x47_8 ((rd_T51 l0 x12_1).f0) ((rd_T51 l0 x12_1).f1) ((rd_T51 l0 x12_1).f2) = some r) ∧ Aside0 (kq ≤ k1) ∧ Aside0 (Kd.R (Kd.int .i64) 3 wc w.heap.size (fun _ => True) (.slice Ao12 x3_1.length co12) x3_1) ∧ Aside0 (wc.heap[gb120]? = some (.cells #[.int .i64 ((rd_T51 l0 x12_1).f0), (.slice A119_1 ((rd_T51 l0 x12_1).f1).length c119_1), .int .i64 ((rd_T51 l0 x12_1).f2)] 51 (0, 0))) ∧ Aside0 (Below w.heap.size w wc))
            case first =>
              have H := HC9.out
              clear HC9
              by_cases c13 : ((rd_T51 l0 x12_1).f0) = 0
              · rw [if_pos c13] at H
                have c13b0 : (((rd_T51 l0 x12_1).f0) == 0) = true := beq_iff_eq.mpr c13
                have c13b1 : (((rd_T51 l0 x12_1).f0) != 0) = false := bne_eq_false_iff_eq.mpr c13
                clear c13
                (first | rw [c13b0] | (simp only [i64_w, i32_w]; rw [c13b0]) | skip)
                have H' := Aside0.mk H
                clear H
                have hcz14_0 : w10.cell? ⟨gb120, 0, none⟩ = some (.int .i64 0) := (blk_cell BK120.out 0).trans rfl
                have hcz14_1 : w10.cell? ⟨gb120, 1, none⟩ = some (.slice none 0 0) := (blk_cell BK120.out 1).trans rfl
                have hcz14_2 : w10.cell? ⟨gb120, 2, none⟩ = some (.int .i64 0) := (blk_cell BK120.out 2).trans rfl
                have hfz14_0 := blk_frozen BK120.out 0
                have hfz14_1 := blk_frozen BK120.out 1
                have hfz14_2 := blk_frozen BK120.out 2
                go_wp2
                go_meet
                case rel => exact ⟨_, (true), (by first | rfl | (simp; done) | (simp [*]; done)), H', ⟨by have := HK1.out; first | omega | exact Nat.le_refl _⟩, ⟨by (with_reducible repeat (first | apply Kd.R_alloc | apply Kd.R_drewN | apply Kd.R_drew)); exact Kd.R_mono (Kd.R_far (p := ⟨gb120, 2, none⟩) (Kd.R_far (p := ⟨gb120, 1, none⟩) (Kd.R_far (p := ⟨gb120, 0, none⟩) (Kd.R_types HO_3.out BK120.out (by decide)) (fun _ hk => hk.2) (.int .i64 ((rd_T51 l0 x12_1).f0))) (fun _ hk => hk.2) (.slice A119_1 ((rd_T51 l0 x12_1).f1).length c119_1)) (fun _ hk => hk.2) (.int .i64 ((rd_T51 l0 x12_1).f2))) (fun _ hk => trivial)⟩, ⟨by (with_reducible repeat (first | refine blk_drewN ?_ _ | refine blk_drew ?_ | refine blk_alloc ?_ _)); refine blk_put (cs := #[.int .i64 ((rd_T51 l0 x12_1).f0), .slice A119_1 ((rd_T51 l0 x12_1).f1).length c119_1, .int .i64 0]) ?_ 2 _ rfl; (with_reducible repeat (first | refine blk_drewN ?_ _ | refine blk_drew ?_ | refine blk_alloc ?_ _)); refine blk_put (cs := #[.int .i64 ((rd_T51 l0 x12_1).f0), .slice none 0 0, .int .i64 0]) ?_ 1 _ rfl; (with_reducible repeat (first | refine blk_drewN ?_ _ | refine blk_drew ?_ | refine blk_alloc ?_ _)); refine blk_put (cs := #[.int .i64 0, .slice none 0 0, .int .i64 0]) ?_ 0 _ rfl; (with_reducible repeat (first | refine blk_drewN ?_ _ | refine blk_drew ?_ | refine blk_alloc ?_ _)); exact BK120.out⟩, ⟨by repeat (first | (with_reducible first | exact HB.out | apply below_alloc | apply pw_below_drewN | apply below_drew1 | refine below_set ?_ GE120.out) | exact HB.out)⟩⟩
              · rw [if_neg c13] at H
                have c13b0 : (((rd_T51 l0 x12_1).f0) == 0) = false := beq_eq_false_iff_ne.mpr c13
                have c13b1 : (((rd_T51 l0 x12_1).f0) != 0) = true := bne_iff_ne.mpr c13
                (first | rw [c13b0] | (simp only [i64_w, i32_w]; rw [c13b0]) | skip)
                by_cases c15 : ((rd_T51 l0 x12_1).f0) = 3
                · rw [if_pos c15] at H
                  have c15b0 : (((rd_T51 l0 x12_1).f0) == 3) = true := beq_iff_eq.mpr c15
                  have c15b1 : (((rd_T51 l0 x12_1).f0) != 3) = false := bne_eq_false_iff_eq.mpr c15
                  clear c15
                  by_cases c16 : t122 > 0
                  · rw [if_pos c16] at H
                    have c16b0 : decide (0 < t122) = true := decide_eq_true c16
                    clear c16
                    have H' := Aside0.mk H
                    clear H
                    have hcz17_0 : w10.cell? ⟨gb120, 0, none⟩ = some (.int .i64 0) := (blk_cell BK120.out 0).trans rfl
                    have hcz17_1 : w10.cell? ⟨gb120, 1, none⟩ = some (.slice none 0 0) := (blk_cell BK120.out 1).trans rfl
                    have hcz17_2 : w10.cell? ⟨gb120, 2, none⟩ = some (.int .i64 0) := (blk_cell BK120.out 2).trans rfl
                    have hfz17_0 := blk_frozen BK120.out 0
                    have hfz17_1 := blk_frozen BK120.out 1
                    have hfz17_2 := blk_frozen BK120.out 2
                    go_wp2
                    go_meet
                    case rel => exact ⟨_, (true), (by first | rfl | (simp; done) | (simp [*]; done)), H', ⟨by have := HK1.out; first | omega | exact Nat.le_refl _⟩, ⟨by (with_reducible repeat (first | apply Kd.R_alloc | apply Kd.R_drewN | apply Kd.R_drew)); exact Kd.R_mono (Kd.R_far (p := ⟨gb120, 2, none⟩) (Kd.R_far (p := ⟨gb120, 1, none⟩) (Kd.R_far (p := ⟨gb120, 0, none⟩) (Kd.R_types HO_3.out BK120.out (by decide)) (fun _ hk => hk.2) (.int .i64 ((rd_T51 l0 x12_1).f0))) (fun _ hk => hk.2) (.slice A119_1 ((rd_T51 l0 x12_1).f1).length c119_1)) (fun _ hk => hk.2) (.int .i64 ((rd_T51 l0 x12_1).f2))) (fun _ hk => trivial)⟩, ⟨by (with_reducible repeat (first | refine blk_drewN ?_ _ | refine blk_drew ?_ | refine blk_alloc ?_ _)); refine blk_put (cs := #[.int .i64 ((rd_T51 l0 x12_1).f0), .slice A119_1 ((rd_T51 l0 x12_1).f1).length c119_1, .int .i64 0]) ?_ 2 _ rfl; (with_reducible repeat (first | refine blk_drewN ?_ _ | refine blk_drew ?_ | refine blk_alloc ?_ _)); refine blk_put (cs := #[.int .i64 ((rd_T51 l0 x12_1).f0), .slice none 0 0, .int .i64 0]) ?_ 1 _ rfl; (with_reducible repeat (first | refine blk_drewN ?_ _ | refine blk_drew ?_ | refine blk_alloc ?_ _)); refine blk_put (cs := #[.int .i64 0, .slice none 0 0, .int .i64 0]) ?_ 0 _ rfl; (with_reducible repeat (first | refine blk_drewN ?_ _ | refine blk_drew ?_ | refine blk_alloc ?_ _)); exact BK120.out⟩, ⟨by repeat (first | (with_reducible first | exact HB.out | apply below_alloc | apply pw_below_drewN | apply below_drew1 | refine below_set ?_ GE120.out) | exact HB.out)⟩⟩
                  · rw [if_neg c16] at H
                    have c16b0 : decide (0 < t122) = false := decide_eq_false c16
                    clear c16
                    by_cases c18 : ((rd_T51 l0 x12_1).f0) = 4
                    · rw [if_pos c18] at H
                      have c18b0 : (((rd_T51 l0 x12_1).f0) == 4) = true := beq_iff_eq.mpr c18
                      have c18b1 : (((rd_T51 l0 x12_1).f0) != 4) = false := bne_eq_false_iff_eq.mpr c18
                      clear c18
                      have H' := Aside0.mk H
                      clear H
                      have hcz19_0 : w10.cell? ⟨gb120, 0, none⟩ = some (.int .i64 0) := (blk_cell BK120.out 0).trans rfl
                      have hcz19_1 : w10.cell? ⟨gb120, 1, none⟩ = some (.slice none 0 0) := (blk_cell BK120.out 1).trans rfl
                      have hcz19_2 : w10.cell? ⟨gb120, 2, none⟩ = some (.int .i64 0) := (blk_cell BK120.out 2).trans rfl
                      have hfz19_0 := blk_frozen BK120.out 0
                      have hfz19_1 := blk_frozen BK120.out 1
                      have hfz19_2 := blk_frozen BK120.out 2
                      go_wp2
                      go_meet
                      case rel => exact ⟨_, ((t122 == (((rd_T51 l0 x12_1).f1).length : Int))), (by first | rfl | (simp; done) | (simp [*]; done)), H', ⟨by have := HK1.out; first | omega | exact Nat.le_refl _⟩, ⟨by (with_reducible repeat (first | apply Kd.R_alloc | apply Kd.R_drewN | apply Kd.R_drew)); exact Kd.R_mono (Kd.R_far (p := ⟨gb120, 2, none⟩) (Kd.R_far (p := ⟨gb120, 1, none⟩) (Kd.R_far (p := ⟨gb120, 0, none⟩) (Kd.R_types HO_3.out BK120.out (by decide)) (fun _ hk => hk.2) (.int .i64 ((rd_T51 l0 x12_1).f0))) (fun _ hk => hk.2) (.slice A119_1 ((rd_T51 l0 x12_1).f1).length c119_1)) (fun _ hk => hk.2) (.int .i64 ((rd_T51 l0 x12_1).f2))) (fun _ hk => trivial)⟩, ⟨by (with_reducible repeat (first | refine blk_drewN ?_ _ | refine blk_drew ?_ | refine blk_alloc ?_ _)); refine blk_put (cs := #[.int .i64 ((rd_T51 l0 x12_1).f0), .slice A119_1 ((rd_T51 l0 x12_1).f1).length c119_1, .int .i64 0]) ?_ 2 _ rfl; (with_reducible repeat (first | refine blk_drewN ?_ _ | refine blk_drew ?_ | refine blk_alloc ?_ _)); refine blk_put (cs := #[.int .i64 ((rd_T51 l0 x12_1).f0), .slice none 0 0, .int .i64 0]) ?_ 1 _ rfl; (with_reducible repeat (first | refine blk_drewN ?_ _ | refine blk_drew ?_ | refine blk_alloc ?_ _)); refine blk_put (cs := #[.int .i64 0, .slice none 0 0, .int .i64 0]) ?_ 0 _ rfl; (with_reducible repeat (first | refine blk_drewN ?_ _ | refine blk_drew ?_ | refine blk_alloc ?_ _)); exact BK120.out⟩, ⟨by repeat (first | (with_reducible first | exact HB.out | apply below_alloc | apply pw_below_drewN | apply below_drew1 | refine below_set ?_ GE120.out) | exact HB.out)⟩⟩
                    · rw [if_neg c18] at H
                      have c18b0 : (((rd_T51 l0 x12_1).f0) == 4) = false := beq_eq_false_iff_ne.mpr c18
                      have c18b1 : (((rd_T51 l0 x12_1).f0) != 4) = true := bne_iff_ne.mpr c18
                      have H' := Aside0.mk H
                      clear H
                      have hcz20_0 : w10.cell? ⟨gb120, 0, none⟩ = some (.int .i64 0) := (blk_cell BK120.out 0).trans rfl
                      have hcz20_1 : w10.cell? ⟨gb120, 1, none⟩ = some (.slice none 0 0) := (blk_cell BK120.out 1).trans rfl
                      have hcz20_2 : w10.cell? ⟨gb120, 2, none⟩ = some (.int .i64 0) := (blk_cell BK120.out 2).trans rfl
                      have hfz20_0 := blk_frozen BK120.out 0
                      have hfz20_1 := blk_frozen BK120.out 1
                      have hfz20_2 := blk_frozen BK120.out 2
                      go_wp2
                      go_meet
                      case rel => exact ⟨_, (false), (by first | rfl | (simp; done) | (simp [*]; done)), H', ⟨by have := HK1.out; first | omega | exact Nat.le_refl _⟩, ⟨by (with_reducible repeat (first | apply Kd.R_alloc | apply Kd.R_drewN | apply Kd.R_drew)); exact Kd.R_mono (Kd.R_far (p := ⟨gb120, 2, none⟩) (Kd.R_far (p := ⟨gb120, 1, none⟩) (Kd.R_far (p := ⟨gb120, 0, none⟩) (Kd.R_types HO_3.out BK120.out (by decide)) (fun _ hk => hk.2) (.int .i64 ((rd_T51 l0 x12_1).f0))) (fun _ hk => hk.2) (.slice A119_1 ((rd_T51 l0 x12_1).f1).length c119_1)) (fun _ hk => hk.2) (.int .i64 ((rd_T51 l0 x12_1).f2))) (fun _ hk => trivial)⟩, ⟨by (with_reducible repeat (first | refine blk_drewN ?_ _ | refine blk_drew ?_ | refine blk_alloc ?_ _)); refine blk_put (cs := #[.int .i64 ((rd_T51 l0 x12_1).f0), .slice A119_1 ((rd_T51 l0 x12_1).f1).length c119_1, .int .i64 0]) ?_ 2 _ rfl; (with_reducible repeat (first | refine blk_drewN ?_ _ | refine blk_drew ?_ | refine blk_alloc ?_ _)); refine blk_put (cs := #[.int .i64 ((rd_T51 l0 x12_1).f0), .slice none 0 0, .int .i64 0]) ?_ 1 _ rfl; (with_reducible repeat (first | refine blk_drewN ?_ _ | refine blk_drew ?_ | refine blk_alloc ?_ _)); refine blk_put (cs := #[.int .i64 0, .slice none 0 0, .int .i64 0]) ?_ 0 _ rfl; (with_reducible repeat (first | refine blk_drewN ?_ _ | refine blk_drew ?_ | refine blk_alloc ?_ _)); exact BK120.out⟩, ⟨by repeat (first | (with_reducible first | exact HB.out | apply below_alloc | apply pw_below_drewN | apply below_drew1 | refine below_set ?_ GE120.out) | exact HB.out)⟩⟩
                · rw [if_neg c15] at H
                  have c15b0 : (((rd_T51 l0 x12_1).f0) == 3) = false := beq_eq_false_iff_ne.mpr c15
                  have c15b1 : (((rd_T51 l0 x12_1).f0) != 3) = true := bne_iff_ne.mpr c15
                  by_cases c21 : ((rd_T51 l0 x12_1).f0) = 4
                  · rw [if_pos c21] at H
                    have c21b0 : (((rd_T51 l0 x12_1).f0) == 4) = true := beq_iff_eq.mpr c21
                    have c21b1 : (((rd_T51 l0 x12_1).f0) != 4) = false := bne_eq_false_iff_eq.mpr c21
                    clear c21
                    have H' := Aside0.mk H
                    clear H
                    have hcz22_0 : w10.cell? ⟨gb120, 0, none⟩ = some (.int .i64 0) := (blk_cell BK120.out 0).trans rfl
                    have hcz22_1 : w10.cell? ⟨gb120, 1, none⟩ = some (.slice none 0 0) := (blk_cell BK120.out 1).trans rfl
                    have hcz22_2 : w10.cell? ⟨gb120, 2, none⟩ = some (.int .i64 0) := (blk_cell BK120.out 2).trans rfl
                    have hfz22_0 := blk_frozen BK120.out 0
                    have hfz22_1 := blk_frozen BK120.out 1
                    have hfz22_2 := blk_frozen BK120.out 2
                    go_wp2
                    go_meet
                    case rel => exact ⟨_, ((t122 == (((rd_T51 l0 x12_1).f1).length : Int))), (by first | rfl | (simp; done) | (simp [*]; done)), H', ⟨by have := HK1.out; first | omega | exact Nat.le_refl _⟩, ⟨by (with_reducible repeat (first | apply Kd.R_alloc | apply Kd.R_drewN | apply Kd.R_drew)); exact Kd.R_mono (Kd.R_far (p := ⟨gb120, 2, none⟩) (Kd.R_far (p := ⟨gb120, 1, none⟩) (Kd.R_far (p := ⟨gb120, 0, none⟩) (Kd.R_types HO_3.out BK120.out (by decide)) (fun _ hk => hk.2) (.int .i64 ((rd_T51 l0 x12_1).f0))) (fun _ hk => hk.2) (.slice A119_1 ((rd_T51 l0 x12_1).f1).length c119_1)) (fun _ hk => hk.2) (.int .i64 ((rd_T51 l0 x12_1).f2))) (fun _ hk => trivial)⟩, ⟨by (with_reducible repeat (first | refine blk_drewN ?_ _ | refine blk_drew ?_ | refine blk_alloc ?_ _)); refine blk_put (cs := #[.int .i64 ((rd_T51 l0 x12_1).f0), .slice A119_1 ((rd_T51 l0 x12_1).f1).length c119_1, .int .i64 0]) ?_ 2 _ rfl; (with_reducible repeat (first | refine blk_drewN ?_ _ | refine blk_drew ?_ | refine blk_alloc ?_ _)); refine blk_put (cs := #[.int .i64 ((rd_T51 l0 x12_1).f0), .slice none 0 0, .int .i64 0]) ?_ 1 _ rfl; (with_reducible repeat (first | refine blk_drewN ?_ _ | refine blk_drew ?_ | refine blk_alloc ?_ _)); refine blk_put (cs := #[.int .i64 0, .slice none 0 0, .int .i64 0]) ?_ 0 _ rfl; (with_reducible repeat (first | refine blk_drewN ?_ _ | refine blk_drew ?_ | refine blk_alloc ?_ _)); exact BK120.out⟩, ⟨by repeat (first | (with_reducible first | exact HB.out | apply below_alloc | apply pw_below_drewN | apply below_drew1 | refine below_set ?_ GE120.out) | exact HB.out)⟩⟩
                  · rw [if_neg c21] at H
                    have c21b0 : (((rd_T51 l0 x12_1).f0) == 4) = false := beq_eq_false_iff_ne.mpr c21
                    have c21b1 : (((rd_T51 l0 x12_1).f0) != 4) = true := bne_iff_ne.mpr c21
                    have H' := Aside0.mk H
                    clear H
                    have hcz23_0 : w10.cell? ⟨gb120, 0, none⟩ = some (.int .i64 0) := (blk_cell BK120.out 0).trans rfl
                    have hcz23_1 : w10.cell? ⟨gb120, 1, none⟩ = some (.slice none 0 0) := (blk_cell BK120.out 1).trans rfl
                    have hcz23_2 : w10.cell? ⟨gb120, 2, none⟩ = some (.int .i64 0) := (blk_cell BK120.out 2).trans rfl
                    have hfz23_0 := blk_frozen BK120.out 0
                    have hfz23_1 := blk_frozen BK120.out 1
                    have hfz23_2 := blk_frozen BK120.out 2
                    go_wp2
                    go_meet
                    case rel => exact ⟨_, (false), (by first | rfl | (simp; done) | (simp [*]; done)), H', ⟨by have := HK1.out; first | omega | exact Nat.le_refl _⟩, ⟨by (with_reducible repeat (first | apply Kd.R_alloc | apply Kd.R_drewN | apply Kd.R_drew)); exact Kd.R_mono (Kd.R_far (p := ⟨gb120, 2, none⟩) (Kd.R_far (p := ⟨gb120, 1, none⟩) (Kd.R_far (p := ⟨gb120, 0, none⟩) (Kd.R_types HO_3.out BK120.out (by decide)) (fun _ hk => hk.2) (.int .i64 ((rd_T51 l0 x12_1).f0))) (fun _ hk => hk.2) (.slice A119_1 ((rd_T51 l0 x12_1).f1).length c119_1)) (fun _ hk => hk.2) (.int .i64 ((rd_T51 l0 x12_1).f2))) (fun _ hk => trivial)⟩, ⟨by (with_reducible repeat (first | refine blk_drewN ?_ _ | refine blk_drew ?_ | refine blk_alloc ?_ _)); refine blk_put (cs := #[.int .i64 ((rd_T51 l0 x12_1).f0), .slice A119_1 ((rd_T51 l0 x12_1).f1).length c119_1, .int .i64 0]) ?_ 2 _ rfl; (with_reducible repeat (first | refine blk_drewN ?_ _ | refine blk_drew ?_ | refine blk_alloc ?_ _)); refine blk_put (cs := #[.int .i64 ((rd_T51 l0 x12_1).f0), .slice none 0 0, .int .i64 0]) ?_ 1 _ rfl; (with_reducible repeat (first | refine blk_drewN ?_ _ | refine blk_drew ?_ | refine blk_alloc ?_ _)); refine blk_put (cs := #[.int .i64 0, .slice none 0 0, .int .i64 0]) ?_ 0 _ rfl; (with_reducible repeat (first | refine blk_drewN ?_ _ | refine blk_drew ?_ | refine blk_alloc ?_ _)); exact BK120.out⟩, ⟨by repeat (first | (with_reducible first | exact HB.out | apply below_alloc | apply pw_below_drewN | apply below_drew1 | refine below_set ?_ GE120.out) | exact HB.out)⟩⟩
            case rest =>
              clear HC9
              try clear c1
              try clear p1
              try clear q1
              try clear hx1
              try clear c2
              try clear p2
              try clear c4
              try clear c4b0
              try clear c5
              try clear c5b0
              try clear c6
              try clear c6b0
              try clear c11
              try clear p11
              try clear q11
              try clear hx11
              try clear c13
              try clear c13b0
              try clear c13b1
              try clear c15
              try clear c15b0
              try clear c15b1
              try clear c16
              try clear c16b0
              try clear c18
              try clear c18b0
              try clear c18b1
              try clear c21
              try clear c21b0
              try clear c21b1
              try clear hcz11_0
              try clear hcz11_1
              try clear hcz11_2
              try clear hcz14_0
              try clear hcz14_1
              try clear hcz14_2
              try clear hcz17_0
              try clear hcz17_1
              try clear hcz17_2
              try clear hcz19_0
              try clear hcz19_1
              try clear hcz19_2
              try clear hcz20_0
              try clear hcz20_1
              try clear hcz20_2
              try clear hcz22_0
              try clear hcz22_1
              try clear hcz22_2
              try clear hcz23_0
              try clear hcz23_1
              try clear hcz23_2
              try clear hfz11_0
              try clear hfz11_1
              try clear hfz11_2
              try clear hfz14_0
              try clear hfz14_1
              try clear hfz14_2
              try clear hfz17_0
              try clear hfz17_1
              try clear hfz17_2
              try clear hfz19_0
              try clear hfz19_1
              try clear hfz19_2
              try clear hfz20_0
              try clear hfz20_1
              try clear hfz20_2
              try clear hfz22_0
              try clear hfz22_1
              try clear hfz22_2
              try clear hfz23_0
              try clear hfz23_1
              try clear hfz23_2
              try clear hx119_0
              try clear hx119_1
              try clear hx119_2
              try clear p119
              try clear p2
              try clear q119
              obtain ⟨kq, x47_8, rfl, HA, HJ8, HO_3, BK120, HB⟩ := hcut
              cases kq with
              | zero => exact absurd HA.out (by simp [riffleref18_Values.j1])
              | succ kj8 =>
                have H := HA.out
                clear HA
                simp only [riffleref18_Values.j1] at H
                have HC24 := Aside0.mk H
                clear H
                go_upto_if 47 with (fail)
                go_cut [6] (fun v6 wc => ∃ (kq : Nat) (x6_23 : Int), v6 = .int .i64 x6_23 ∧ Aside0 (riffleref18_Values.j2 kq x3_1 x6_23 t121 l0 (l0.length : Int) x12_1 ((rd_T51 l0 x12_1).f0) ((rd_T51 l0 x12_1).f1) ((rd_T51 l0 x12_1).f2) = some r) ∧ Aside0 (kq ≤ kj8) ∧ Aside0 (Kd.R (Kd.int .i64) 3 wc w.heap.size (fun _ => True) (.slice Ao12 x3_1.length co12) x3_1) ∧ Aside0 (wc.heap[gb120]? = some (.cells #[.int .i64 ((rd_T51 l0 x12_1).f0), (.slice A119_1 ((rd_T51 l0 x12_1).f1).length c119_1), .int .i64 ((rd_T51 l0 x12_1).f2)] 51 (0, 0))) ∧ Aside0 (Below w.heap.size w wc))
                case first =>
                  have H := HC24.out
                  clear HC24
                  by_cases c25 : x47_8 = true
                  · subst c25
                    have H1 : (riffleref18_Values.j2 kj8 x3_1 2 t121 l0 (l0.length : Int) x12_1 ((rd_T51 l0 x12_1).f0) ((rd_T51 l0 x12_1).f1) ((rd_T51 l0 x12_1).f2)) = some r := by rw [if_pos rfl] at H; exact H
                    clear H
                    have H := H1
                    clear H1
                    have H' := Aside0.mk H
                    clear H
                    go_wp2
                    go_meet
                    case rel => exact ⟨_, (2), (by first | rfl | (simp; done) | (simp [*]; done)), H', ⟨by have := HK1.out; have := HJ8.out; first | omega | exact Nat.le_refl _⟩, ⟨by (with_reducible repeat (first | apply Kd.R_alloc | apply Kd.R_drewN | apply Kd.R_drew)); exact HO_3.out⟩, ⟨by (with_reducible repeat (first | refine blk_drewN ?_ _ | refine blk_drew ?_ | refine blk_alloc ?_ _)); exact BK120.out⟩, ⟨by repeat (first | (with_reducible first | exact HB.out | apply below_alloc | apply pw_below_drewN | apply below_drew1 | refine below_set ?_ GE120.out) | exact HB.out)⟩⟩
                  · replace c25 := Bool.eq_false_iff.mpr c25
                    subst c25
                    have H1 : (riffleref18_Values.j2 kj8 x3_1 0 t121 l0 (l0.length : Int) x12_1 ((rd_T51 l0 x12_1).f0) ((rd_T51 l0 x12_1).f1) ((rd_T51 l0 x12_1).f2)) = some r := by rw [if_neg (show ¬ (false = true) by decide)] at H; exact H
                    clear H
                    have H := H1
                    clear H1
                    have H' := Aside0.mk H
                    clear H
                    go_wp2
                    go_meet
                    case rel => exact ⟨_, (0), (by first | rfl | (simp; done) | (simp [*]; done)), H', ⟨by have := HK1.out; have := HJ8.out; first | omega | exact Nat.le_refl _⟩, ⟨by (with_reducible repeat (first | apply Kd.R_alloc | apply Kd.R_drewN | apply Kd.R_drew)); exact HO_3.out⟩, ⟨by (with_reducible repeat (first | refine blk_drewN ?_ _ | refine blk_drew ?_ | refine blk_alloc ?_ _)); exact BK120.out⟩, ⟨by repeat (first | (with_reducible first | exact HB.out | apply below_alloc | apply pw_below_drewN | apply below_drew1 | refine below_set ?_ GE120.out) | exact HB.out)⟩⟩
                case rest =>
                  clear HC24
                  try clear c1
                  try clear p1
                  try clear q1
                  try clear hx1
                  try clear c2
                  try clear p2
                  try clear c4
                  try clear c4b0
                  try clear c5
                  try clear c5b0
                  try clear c6
                  try clear c6b0
                  try clear c11
                  try clear p11
                  try clear q11
                  try clear hx11
                  try clear c13
                  try clear c13b0
                  try clear c13b1
                  try clear c15
                  try clear c15b0
                  try clear c15b1
                  try clear c16
                  try clear c16b0
                  try clear c18
                  try clear c18b0
                  try clear c18b1
                  try clear c21
                  try clear c21b0
                  try clear c21b1
                  try clear c25
                  try clear hcz11_0
                  try clear hcz11_1
                  try clear hcz11_2
                  try clear hcz14_0
                  try clear hcz14_1
                  try clear hcz14_2
                  try clear hcz17_0
                  try clear hcz17_1
                  try clear hcz17_2
                  try clear hcz19_0
                  try clear hcz19_1
                  try clear hcz19_2
                  try clear hcz20_0
                  try clear hcz20_1
                  try clear hcz20_2
                  try clear hcz22_0
                  try clear hcz22_1
                  try clear hcz22_2
                  try clear hcz23_0
                  try clear hcz23_1
                  try clear hcz23_2
                  try clear hfz11_0
                  try clear hfz11_1
                  try clear hfz11_2
                  try clear hfz14_0
                  try clear hfz14_1
                  try clear hfz14_2
                  try clear hfz17_0
                  try clear hfz17_1
                  try clear hfz17_2
                  try clear hfz19_0
                  try clear hfz19_1
                  try clear hfz19_2
                  try clear hfz20_0
                  try clear hfz20_1
                  try clear hfz20_2
                  try clear hfz22_0
                  try clear hfz22_1
                  try clear hfz22_2
                  try clear hfz23_0
                  try clear hfz23_1
                  try clear hfz23_2
                  try clear hx119_0
                  try clear hx119_1
                  try clear hx119_2
                  try clear p1
                  try clear p11
                  try clear p119
                  try clear p2
                  try clear q1
                  try clear q11
                  try clear q119
                  obtain ⟨kq, x6_23, rfl, HA, HJ23, HO_3, BK120, HB⟩ := hcut
                  cases kq with
                  | zero => exact absurd HA.out (by simp [riffleref18_Values.j2])
                  | succ kj23 =>
                    have H := HA.out
                    clear HA
                    simp only [riffleref18_Values.j2] at H
                    have HC26 := Aside0.mk H
                    clear H
                    go_upto_region 10 with (fail)
                    go_cut [71] (fun v71 wc => ∃ (kq : Nat) (x71_25 : Bool), v71 = .bool x71_25 ∧ Aside0 (riffleref18_Values.j3 kq x3_1 x6_23 l0 (l0.length : Int) x12_1 x71_25 ((rd_T51 l0 x12_1).f0) ((rd_T51 l0 x12_1).f1) ((rd_T51 l0 x12_1).f2) = some r) ∧ Aside0 (kq ≤ kj23) ∧ Aside0 (Kd.R (Kd.int .i64) 3 wc w.heap.size (fun _ => True) (.slice Ao12 x3_1.length co12) x3_1) ∧ Aside0 (wc.heap[gb120]? = some (.cells #[.int .i64 ((rd_T51 l0 x12_1).f0), (.slice A119_1 ((rd_T51 l0 x12_1).f1).length c119_1), .int .i64 ((rd_T51 l0 x12_1).f2)] 51 (0, 0))) ∧ Aside0 (Below w.heap.size w wc))
                    case first =>
                      have H := HC26.out
                      clear HC26
                      by_cases c27 : ((rd_T51 l0 x12_1).f0) = 1
                      · rw [if_pos c27] at H
                        have c27b0 : (((rd_T51 l0 x12_1).f0) == 1) = true := beq_iff_eq.mpr c27
                        have c27b1 : (((rd_T51 l0 x12_1).f0) != 1) = false := bne_eq_false_iff_eq.mpr c27
                        clear c27
                        (first | rw [c27b0] | (simp only [i64_w, i32_w]; rw [c27b0]) | skip)
                        have H' := Aside0.mk H
                        clear H
                        have hcz28_0 : wc.cell? ⟨gb120, 0, none⟩ = some (.int .i64 ((rd_T51 l0 x12_1).f0)) := (blk_cell BK120.out 0).trans rfl
                        have hcz28_1 : wc.cell? ⟨gb120, 1, none⟩ = some (.slice A119_1 ((rd_T51 l0 x12_1).f1).length c119_1) := (blk_cell BK120.out 1).trans rfl
                        have hcz28_2 : wc.cell? ⟨gb120, 2, none⟩ = some (.int .i64 ((rd_T51 l0 x12_1).f2)) := (blk_cell BK120.out 2).trans rfl
                        have hfz28_0 := blk_frozen BK120.out 0
                        have hfz28_1 := blk_frozen BK120.out 1
                        have hfz28_2 := blk_frozen BK120.out 2
                        go_wp2
                        go_meet
                        case rel => exact ⟨_, (true), (by first | rfl | (simp; done) | (simp [*]; done)), H', ⟨by have := HK1.out; have := HJ8.out; have := HJ23.out; first | omega | exact Nat.le_refl _⟩, ⟨by (with_reducible repeat (first | apply Kd.R_alloc | apply Kd.R_drewN | apply Kd.R_drew)); exact HO_3.out⟩, ⟨by (with_reducible repeat (first | refine blk_drewN ?_ _ | refine blk_drew ?_ | refine blk_alloc ?_ _)); exact BK120.out⟩, ⟨by repeat (first | (with_reducible first | exact HB.out | apply below_alloc | apply pw_below_drewN | apply below_drew1 | refine below_set ?_ GE120.out) | exact HB.out)⟩⟩
                      · rw [if_neg c27] at H
                        have c27b0 : (((rd_T51 l0 x12_1).f0) == 1) = false := beq_eq_false_iff_ne.mpr c27
                        have c27b1 : (((rd_T51 l0 x12_1).f0) != 1) = true := bne_iff_ne.mpr c27
                        (first | rw [c27b0] | (simp only [i64_w, i32_w]; rw [c27b0]) | skip)
                        by_cases c29 : ((rd_T51 l0 x12_1).f0) = 3
                        · rw [if_pos c29] at H
                          have c29b0 : (((rd_T51 l0 x12_1).f0) == 3) = true := beq_iff_eq.mpr c29
                          have c29b1 : (((rd_T51 l0 x12_1).f0) != 3) = false := bne_eq_false_iff_eq.mpr c29
                          clear c29
                          by_cases c30 : t121 = (((rd_T51 l0 x12_1).f1).length : Int)
                          · rw [if_pos c30] at H
                            have c30b0 : (t121 == (((rd_T51 l0 x12_1).f1).length : Int)) = true := beq_iff_eq.mpr c30
                            have c30b1 : (t121 != (((rd_T51 l0 x12_1).f1).length : Int)) = false := bne_eq_false_iff_eq.mpr c30
                            clear c30
                            have H' := Aside0.mk H
                            clear H
                            have hcz31_0 : wc.cell? ⟨gb120, 0, none⟩ = some (.int .i64 ((rd_T51 l0 x12_1).f0)) := (blk_cell BK120.out 0).trans rfl
                            have hcz31_1 : wc.cell? ⟨gb120, 1, none⟩ = some (.slice A119_1 ((rd_T51 l0 x12_1).f1).length c119_1) := (blk_cell BK120.out 1).trans rfl
                            have hcz31_2 : wc.cell? ⟨gb120, 2, none⟩ = some (.int .i64 ((rd_T51 l0 x12_1).f2)) := (blk_cell BK120.out 2).trans rfl
                            have hfz31_0 := blk_frozen BK120.out 0
                            have hfz31_1 := blk_frozen BK120.out 1
                            have hfz31_2 := blk_frozen BK120.out 2
                            go_wp2
                            go_meet
                            case rel => exact ⟨_, (true), (by first | rfl | (simp; done) | (simp [*]; done)), H', ⟨by have := HK1.out; have := HJ8.out; have := HJ23.out; first | omega | exact Nat.le_refl _⟩, ⟨by (with_reducible repeat (first | apply Kd.R_alloc | apply Kd.R_drewN | apply Kd.R_drew)); exact HO_3.out⟩, ⟨by (with_reducible repeat (first | refine blk_drewN ?_ _ | refine blk_drew ?_ | refine blk_alloc ?_ _)); exact BK120.out⟩, ⟨by repeat (first | (with_reducible first | exact HB.out | apply below_alloc | apply pw_below_drewN | apply below_drew1 | refine below_set ?_ GE120.out) | exact HB.out)⟩⟩
                          · rw [if_neg c30] at H
                            have c30b0 : (t121 == (((rd_T51 l0 x12_1).f1).length : Int)) = false := beq_eq_false_iff_ne.mpr c30
                            have c30b1 : (t121 != (((rd_T51 l0 x12_1).f1).length : Int)) = true := bne_iff_ne.mpr c30
                            by_cases c32 : ((rd_T51 l0 x12_1).f0) = 4
                            · rw [if_pos c32] at H
                              have c32b0 : (((rd_T51 l0 x12_1).f0) == 4) = true := beq_iff_eq.mpr c32
                              have c32b1 : (((rd_T51 l0 x12_1).f0) != 4) = false := bne_eq_false_iff_eq.mpr c32
                              clear c32
                              have H' := Aside0.mk H
                              clear H
                              have hcz33_0 : wc.cell? ⟨gb120, 0, none⟩ = some (.int .i64 ((rd_T51 l0 x12_1).f0)) := (blk_cell BK120.out 0).trans rfl
                              have hcz33_1 : wc.cell? ⟨gb120, 1, none⟩ = some (.slice A119_1 ((rd_T51 l0 x12_1).f1).length c119_1) := (blk_cell BK120.out 1).trans rfl
                              have hcz33_2 : wc.cell? ⟨gb120, 2, none⟩ = some (.int .i64 ((rd_T51 l0 x12_1).f2)) := (blk_cell BK120.out 2).trans rfl
                              have hfz33_0 := blk_frozen BK120.out 0
                              have hfz33_1 := blk_frozen BK120.out 1
                              have hfz33_2 := blk_frozen BK120.out 2
                              go_wp2
                              go_meet
                              case rel => exact ⟨_, (decide (t121 > 0)), (by first | rfl | (simp; done) | (simp [*]; done)), H', ⟨by have := HK1.out; have := HJ8.out; have := HJ23.out; first | omega | exact Nat.le_refl _⟩, ⟨by (with_reducible repeat (first | apply Kd.R_alloc | apply Kd.R_drewN | apply Kd.R_drew)); exact HO_3.out⟩, ⟨by (with_reducible repeat (first | refine blk_drewN ?_ _ | refine blk_drew ?_ | refine blk_alloc ?_ _)); exact BK120.out⟩, ⟨by repeat (first | (with_reducible first | exact HB.out | apply below_alloc | apply pw_below_drewN | apply below_drew1 | refine below_set ?_ GE120.out) | exact HB.out)⟩⟩
                            · rw [if_neg c32] at H
                              have c32b0 : (((rd_T51 l0 x12_1).f0) == 4) = false := beq_eq_false_iff_ne.mpr c32
                              have c32b1 : (((rd_T51 l0 x12_1).f0) != 4) = true := bne_iff_ne.mpr c32
                              have H' := Aside0.mk H
                              clear H
                              have hcz34_0 : wc.cell? ⟨gb120, 0, none⟩ = some (.int .i64 ((rd_T51 l0 x12_1).f0)) := (blk_cell BK120.out 0).trans rfl
                              have hcz34_1 : wc.cell? ⟨gb120, 1, none⟩ = some (.slice A119_1 ((rd_T51 l0 x12_1).f1).length c119_1) := (blk_cell BK120.out 1).trans rfl
                              have hcz34_2 : wc.cell? ⟨gb120, 2, none⟩ = some (.int .i64 ((rd_T51 l0 x12_1).f2)) := (blk_cell BK120.out 2).trans rfl
                              have hfz34_0 := blk_frozen BK120.out 0
                              have hfz34_1 := blk_frozen BK120.out 1
                              have hfz34_2 := blk_frozen BK120.out 2
                              go_wp2
                              go_meet
                              case rel => exact ⟨_, (false), (by first | rfl | (simp; done) | (simp [*]; done)), H', ⟨by have := HK1.out; have := HJ8.out; have := HJ23.out; first | omega | exact Nat.le_refl _⟩, ⟨by (with_reducible repeat (first | apply Kd.R_alloc | apply Kd.R_drewN | apply Kd.R_drew)); exact HO_3.out⟩, ⟨by (with_reducible repeat (first | refine blk_drewN ?_ _ | refine blk_drew ?_ | refine blk_alloc ?_ _)); exact BK120.out⟩, ⟨by repeat (first | (with_reducible first | exact HB.out | apply below_alloc | apply pw_below_drewN | apply below_drew1 | refine below_set ?_ GE120.out) | exact HB.out)⟩⟩
                        · rw [if_neg c29] at H
                          have c29b0 : (((rd_T51 l0 x12_1).f0) == 3) = false := beq_eq_false_iff_ne.mpr c29
                          have c29b1 : (((rd_T51 l0 x12_1).f0) != 3) = true := bne_iff_ne.mpr c29
                          by_cases c35 : ((rd_T51 l0 x12_1).f0) = 4
                          · rw [if_pos c35] at H
                            have c35b0 : (((rd_T51 l0 x12_1).f0) == 4) = true := beq_iff_eq.mpr c35
                            have c35b1 : (((rd_T51 l0 x12_1).f0) != 4) = false := bne_eq_false_iff_eq.mpr c35
                            clear c35
                            have H' := Aside0.mk H
                            clear H
                            have hcz36_0 : wc.cell? ⟨gb120, 0, none⟩ = some (.int .i64 ((rd_T51 l0 x12_1).f0)) := (blk_cell BK120.out 0).trans rfl
                            have hcz36_1 : wc.cell? ⟨gb120, 1, none⟩ = some (.slice A119_1 ((rd_T51 l0 x12_1).f1).length c119_1) := (blk_cell BK120.out 1).trans rfl
                            have hcz36_2 : wc.cell? ⟨gb120, 2, none⟩ = some (.int .i64 ((rd_T51 l0 x12_1).f2)) := (blk_cell BK120.out 2).trans rfl
                            have hfz36_0 := blk_frozen BK120.out 0
                            have hfz36_1 := blk_frozen BK120.out 1
                            have hfz36_2 := blk_frozen BK120.out 2
                            go_wp2
                            go_meet
                            case rel => exact ⟨_, (decide (t121 > 0)), (by first | rfl | (simp; done) | (simp [*]; done)), H', ⟨by have := HK1.out; have := HJ8.out; have := HJ23.out; first | omega | exact Nat.le_refl _⟩, ⟨by (with_reducible repeat (first | apply Kd.R_alloc | apply Kd.R_drewN | apply Kd.R_drew)); exact HO_3.out⟩, ⟨by (with_reducible repeat (first | refine blk_drewN ?_ _ | refine blk_drew ?_ | refine blk_alloc ?_ _)); exact BK120.out⟩, ⟨by repeat (first | (with_reducible first | exact HB.out | apply below_alloc | apply pw_below_drewN | apply below_drew1 | refine below_set ?_ GE120.out) | exact HB.out)⟩⟩
                          · rw [if_neg c35] at H
                            have c35b0 : (((rd_T51 l0 x12_1).f0) == 4) = false := beq_eq_false_iff_ne.mpr c35
                            have c35b1 : (((rd_T51 l0 x12_1).f0) != 4) = true := bne_iff_ne.mpr c35
                            have H' := Aside0.mk H
                            clear H
                            have hcz37_0 : wc.cell? ⟨gb120, 0, none⟩ = some (.int .i64 ((rd_T51 l0 x12_1).f0)) := (blk_cell BK120.out 0).trans rfl
                            have hcz37_1 : wc.cell? ⟨gb120, 1, none⟩ = some (.slice A119_1 ((rd_T51 l0 x12_1).f1).length c119_1) := (blk_cell BK120.out 1).trans rfl
                            have hcz37_2 : wc.cell? ⟨gb120, 2, none⟩ = some (.int .i64 ((rd_T51 l0 x12_1).f2)) := (blk_cell BK120.out 2).trans rfl
                            have hfz37_0 := blk_frozen BK120.out 0
                            have hfz37_1 := blk_frozen BK120.out 1
                            have hfz37_2 := blk_frozen BK120.out 2
                            go_wp2
                            go_meet
                            case rel => exact ⟨_, (false), (by first | rfl | (simp; done) | (simp [*]; done)), H', ⟨by have := HK1.out; have := HJ8.out; have := HJ23.out; first | omega | exact Nat.le_refl _⟩, ⟨by (with_reducible repeat (first | apply Kd.R_alloc | apply Kd.R_drewN | apply Kd.R_drew)); exact HO_3.out⟩, ⟨by (with_reducible repeat (first | refine blk_drewN ?_ _ | refine blk_drew ?_ | refine blk_alloc ?_ _)); exact BK120.out⟩, ⟨by repeat (first | (with_reducible first | exact HB.out | apply below_alloc | apply pw_below_drewN | apply below_drew1 | refine below_set ?_ GE120.out) | exact HB.out)⟩⟩
                    case rest =>
                      clear HC26
                      try clear c1
                      try clear p1
                      try clear q1
                      try clear hx1
                      try clear c2
                      try clear p2
                      try clear c3
                      try clear c4
                      try clear c4b0
                      try clear c5
                      try clear c5b0
                      try clear c6
                      try clear c6b0
                      try clear c11
                      try clear p11
                      try clear q11
                      try clear hx11
                      try clear c13
                      try clear c13b0
                      try clear c13b1
                      try clear c15
                      try clear c15b0
                      try clear c15b1
                      try clear c16
                      try clear c16b0
                      try clear c18
                      try clear c18b0
                      try clear c18b1
                      try clear c21
                      try clear c21b0
                      try clear c21b1
                      try clear c25
                      try clear c27
                      try clear c27b0
                      try clear c27b1
                      try clear c29
                      try clear c29b0
                      try clear c29b1
                      try clear c30
                      try clear c30b0
                      try clear c30b1
                      try clear c32
                      try clear c32b0
                      try clear c32b1
                      try clear c35
                      try clear c35b0
                      try clear c35b1
                      try clear hcz11_0
                      try clear hcz11_1
                      try clear hcz11_2
                      try clear hcz14_0
                      try clear hcz14_1
                      try clear hcz14_2
                      try clear hcz17_0
                      try clear hcz17_1
                      try clear hcz17_2
                      try clear hcz19_0
                      try clear hcz19_1
                      try clear hcz19_2
                      try clear hcz20_0
                      try clear hcz20_1
                      try clear hcz20_2
                      try clear hcz22_0
                      try clear hcz22_1
                      try clear hcz22_2
                      try clear hcz23_0
                      try clear hcz23_1
                      try clear hcz23_2
                      try clear hcz28_0
                      try clear hcz28_1
                      try clear hcz28_2
                      try clear hcz31_0
                      try clear hcz31_1
                      try clear hcz31_2
                      try clear hcz33_0
                      try clear hcz33_1
                      try clear hcz33_2
                      try clear hcz34_0
                      try clear hcz34_1
                      try clear hcz34_2
                      try clear hcz36_0
                      try clear hcz36_1
                      try clear hcz36_2
                      try clear hcz37_0
                      try clear hcz37_1
                      try clear hcz37_2
                      try clear hfz11_0
                      try clear hfz11_1
                      try clear hfz11_2
                      try clear hfz14_0
                      try clear hfz14_1
                      try clear hfz14_2
                      try clear hfz17_0
                      try clear hfz17_1
                      try clear hfz17_2
                      try clear hfz19_0
                      try clear hfz19_1
                      try clear hfz19_2
                      try clear hfz20_0
                      try clear hfz20_1
                      try clear hfz20_2
                      try clear hfz22_0
                      try clear hfz22_1
                      try clear hfz22_2
                      try clear hfz23_0
                      try clear hfz23_1
                      try clear hfz23_2
                      try clear hfz28_0
                      try clear hfz28_1
                      try clear hfz28_2
                      try clear hfz31_0
                      try clear hfz31_1
                      try clear hfz31_2
                      try clear hfz33_0
                      try clear hfz33_1
                      try clear hfz33_2
                      try clear hfz34_0
                      try clear hfz34_1
                      try clear hfz34_2
                      try clear hfz36_0
                      try clear hfz36_1
                      try clear hfz36_2
                      try clear hfz37_0
                      try clear hfz37_1
                      try clear hfz37_2
                      try clear hx119_0
                      try clear hx119_1
                      try clear hx119_2
                      try clear p1
                      try clear p11
                      try clear p119
                      try clear p2
                      try clear q1
                      try clear q11
                      try clear q119
                      obtain ⟨kq, x71_25, rfl, HA, HJ25, HO_3, BK120, HB⟩ := hcut
                      cases kq with
                      | zero => exact absurd HA.out (by simp [riffleref18_Values.j3])
                      | succ kj25 =>
                        have H := HA.out
                        clear HA
                        simp only [riffleref18_Values.j3] at H
                        by_cases c38 : x71_25 = true
                        · subst c38
                          have H1 : (if ((rd_T51 l0 x12_1).f0) = 2 then (if x3_1.length < 17592186044416 then (riffleref18_Values.l0 kj25 (x3_1 ++ [((rd_T51 l0 x12_1).f2)]) l0 (l0.length : Int) (wrap64 (x12_1 + 1))) else (none)) else (if x3_1.length < 17592186044416 then (riffleref18_Values.l0 kj25 (x3_1 ++ [1]) l0 (l0.length : Int) (wrap64 (x12_1 + 1))) else (none))) = some r := by rw [if_pos rfl] at H; exact H
                          clear H
                          have H := H1
                          clear H1
                          by_cases c39 : ((rd_T51 l0 x12_1).f0) = 2
                          · rw [if_pos c39] at H
                            have c39b0 : (((rd_T51 l0 x12_1).f0) == 2) = true := beq_iff_eq.mpr c39
                            have c39b1 : (((rd_T51 l0 x12_1).f0) != 2) = false := bne_eq_false_iff_eq.mpr c39
                            clear c39
                            by_cases c40 : x3_1.length < 17592186044416
                            · rw [if_pos c40] at H
                              have LMc40 := Aside0.mk c40
                              clear c40
                              obtain ⟨y123, hy123⟩ : ∃ y_ : List Int, y_ = (x3_1 ++ [((rd_T51 l0 x12_1).f2)]) := ⟨_, rfl⟩
                              replace H : (riffleref18_Values.l0 kj25 y123 l0 (l0.length : Int) (wrap64 (x12_1 + 1))) = some r := by first | (rw [hy123]; with_reducible exact H) | (have H2_ := (Option.bind_some _ _).symm.trans H; rw [hy123]; with_reducible exact H2_) | (have H2_ := (Option.bind_some _ _).symm.trans H; with_reducible exact H2_) | with_reducible exact H | (rw [hy123]; exact H) | exact H
                              have Ny123 := Aside0.mk hy123
                              clear hy123
                              have H' := Aside0.mk H
                              clear H
                              have hcz41_0 : wc.cell? ⟨gb120, 0, none⟩ = some (.int .i64 ((rd_T51 l0 x12_1).f0)) := (blk_cell BK120.out 0).trans rfl
                              have hcz41_1 : wc.cell? ⟨gb120, 1, none⟩ = some (.slice A119_1 ((rd_T51 l0 x12_1).f1).length c119_1) := (blk_cell BK120.out 1).trans rfl
                              have hcz41_2 : wc.cell? ⟨gb120, 2, none⟩ = some (.int .i64 ((rd_T51 l0 x12_1).f2)) := (blk_cell BK120.out 2).trans rfl
                              have hfz41_0 := blk_frozen BK120.out 0
                              have hfz41_1 := blk_frozen BK120.out 1
                              have hfz41_2 := blk_frozen BK120.out 2
                              go_wp2_with (first | ((with_reducible refine gate_builtin (b := .append) (xs := #[.tmp 77, .tmp 79]) rfl ?_); (try (refine gate_guard (by rfl) ?_; dsimp only)); at_builtin; refine Kd.R_append (Kd.int .i64) (w0 := w) w.heap.size rfl (.tmp 77) (.tmp 79) 42 3 (.int .i64 0) 8 rfl Try.underlying42 info3 rfl (by decide) (by omega) (.slice Ao12 x3_1.length co12) x3_1 ((rd_T51 l0 x12_1).f2) [.int .i64 ((rd_T51 l0 x12_1).f2)] (fun _ => True) (fun _ => False) rfl rfl ?aP (fun _ hk => hk.elim) ?aF ?aO ?aB ?aS ?aL ?_; (case aP => exact rfl); (case aB => exact (by repeat (first | (with_reducible first | exact HB.out | apply below_alloc | apply pw_below_drewN | apply below_drew1 | refine below_set ?_ GE120.out) | exact HB.out))); (case aF => exact (fun _ _ => trivial)); (case aO => exact (by (with_reducible repeat (first | apply Kd.R_alloc | apply Kd.R_drewN | apply Kd.R_drew)); exact HO_3.out)); (case aS => exact (below_size (by repeat (first | (with_reducible first | exact HB.out | apply below_alloc | apply pw_below_drewN | apply below_drew1 | refine below_set ?_ GE120.out) | exact HB.out)))); (case aL => have := LMc40.out; omega); intro v124 w42 ho hb hg hat; rw [← Ny123.out] at ho; have n0_ := Aside0.mk (blk_grown (g := gb120) (o := .cells #[.int .i64 ((rd_T51 l0 x12_1).f0), .slice A119_1 ((rd_T51 l0 x12_1).f1).length c119_1, .int .i64 ((rd_T51 l0 x12_1).f2)] 51 (0, 0)) (by (with_reducible repeat (first | refine blk_drewN ?_ _ | refine blk_drew ?_ | refine blk_alloc ?_ _)); exact BK120.out) hg (Kd.R_ne HO_3.out BK120.out (by decide))); have n1_ := Aside0.mk (hb); have n2_ := Aside0.mk (ho); clear BK120; clear HB; clear HO_3; have BK120 := n0_; have HB := n1_; have HO125 := n2_; clear n0_ n1_ n2_; clear ho hb hg hat))
                              go_roundg kj25
                              case measure => have := HK1.out; have := HJ8.out; have := HJ23.out; have := HJ25.out; omega
                              case rel => exact ⟨(y123), (wrap64 (x12_1 + 1)), (by first | rfl | (simp; done) | (simp [*]; done)), H', ⟨by have := HK1.out; have := HJ8.out; have := HJ23.out; have := HJ25.out; omega⟩, ⟨by (with_reducible repeat (first | apply Kd.R_alloc | apply Kd.R_drewN | apply Kd.R_drew)); exact HO125.out⟩, ⟨by repeat (first | (with_reducible first | exact HB.out | apply below_alloc | apply pw_below_drewN | apply below_drew1 | refine below_set ?_ GE120.out) | exact HB.out)⟩⟩
                            · rw [if_neg c40] at H
                              exact absurd H (by simp)
                          · rw [if_neg c39] at H
                            have c39b0 : (((rd_T51 l0 x12_1).f0) == 2) = false := beq_eq_false_iff_ne.mpr c39
                            have c39b1 : (((rd_T51 l0 x12_1).f0) != 2) = true := bne_iff_ne.mpr c39
                            by_cases c43 : x3_1.length < 17592186044416
                            · rw [if_pos c43] at H
                              have LMc43 := Aside0.mk c43
                              clear c43
                              obtain ⟨y126, hy126⟩ : ∃ y_ : List Int, y_ = (x3_1 ++ [1]) := ⟨_, rfl⟩
                              replace H : (riffleref18_Values.l0 kj25 y126 l0 (l0.length : Int) (wrap64 (x12_1 + 1))) = some r := by first | (rw [hy126]; with_reducible exact H) | (have H2_ := (Option.bind_some _ _).symm.trans H; rw [hy126]; with_reducible exact H2_) | (have H2_ := (Option.bind_some _ _).symm.trans H; with_reducible exact H2_) | with_reducible exact H | (rw [hy126]; exact H) | exact H
                              have Ny126 := Aside0.mk hy126
                              clear hy126
                              have H' := Aside0.mk H
                              clear H
                              have hcz44_0 : wc.cell? ⟨gb120, 0, none⟩ = some (.int .i64 ((rd_T51 l0 x12_1).f0)) := (blk_cell BK120.out 0).trans rfl
                              have hcz44_1 : wc.cell? ⟨gb120, 1, none⟩ = some (.slice A119_1 ((rd_T51 l0 x12_1).f1).length c119_1) := (blk_cell BK120.out 1).trans rfl
                              have hcz44_2 : wc.cell? ⟨gb120, 2, none⟩ = some (.int .i64 ((rd_T51 l0 x12_1).f2)) := (blk_cell BK120.out 2).trans rfl
                              have hfz44_0 := blk_frozen BK120.out 0
                              have hfz44_1 := blk_frozen BK120.out 1
                              have hfz44_2 := blk_frozen BK120.out 2
                              go_wp2_with (first | ((with_reducible refine gate_builtin (b := .append) (xs := #[.tmp 77, .tmp 79]) rfl ?_); (try (refine gate_guard (by rfl) ?_; dsimp only)); at_builtin; refine Kd.R_append (Kd.int .i64) (w0 := w) w.heap.size rfl (.tmp 77) (.tmp 79) 42 3 (.int .i64 0) 8 rfl Try.underlying42 info3 rfl (by decide) (by omega) (.slice Ao12 x3_1.length co12) x3_1 1 [.int .i64 1] (fun _ => True) (fun _ => False) rfl rfl ?aP (fun _ hk => hk.elim) ?aF ?aO ?aB ?aS ?aL ?_; (case aP => exact rfl); (case aB => exact (by repeat (first | (with_reducible first | exact HB.out | apply below_alloc | apply pw_below_drewN | apply below_drew1 | refine below_set ?_ GE120.out) | exact HB.out))); (case aF => exact (fun _ _ => trivial)); (case aO => exact (by (with_reducible repeat (first | apply Kd.R_alloc | apply Kd.R_drewN | apply Kd.R_drew)); exact HO_3.out)); (case aS => exact (below_size (by repeat (first | (with_reducible first | exact HB.out | apply below_alloc | apply pw_below_drewN | apply below_drew1 | refine below_set ?_ GE120.out) | exact HB.out)))); (case aL => have := LMc43.out; omega); intro v127 w45 ho hb hg hat; rw [← Ny126.out] at ho; have n0_ := Aside0.mk (blk_grown (g := gb120) (o := .cells #[.int .i64 ((rd_T51 l0 x12_1).f0), .slice A119_1 ((rd_T51 l0 x12_1).f1).length c119_1, .int .i64 ((rd_T51 l0 x12_1).f2)] 51 (0, 0)) (by (with_reducible repeat (first | refine blk_drewN ?_ _ | refine blk_drew ?_ | refine blk_alloc ?_ _)); exact BK120.out) hg (Kd.R_ne HO_3.out BK120.out (by decide))); have n1_ := Aside0.mk (hb); have n2_ := Aside0.mk (ho); clear BK120; clear HB; clear HO_3; have BK120 := n0_; have HB := n1_; have HO128 := n2_; clear n0_ n1_ n2_; clear ho hb hg hat))
                              go_roundg kj25
                              case measure => have := HK1.out; have := HJ8.out; have := HJ23.out; have := HJ25.out; omega
                              case rel => exact ⟨(y126), (wrap64 (x12_1 + 1)), (by first | rfl | (simp; done) | (simp [*]; done)), H', ⟨by have := HK1.out; have := HJ8.out; have := HJ23.out; have := HJ25.out; omega⟩, ⟨by (with_reducible repeat (first | apply Kd.R_alloc | apply Kd.R_drewN | apply Kd.R_drew)); exact HO128.out⟩, ⟨by repeat (first | (with_reducible first | exact HB.out | apply below_alloc | apply pw_below_drewN | apply below_drew1 | refine below_set ?_ GE120.out) | exact HB.out)⟩⟩
                            · rw [if_neg c43] at H
                              exact absurd H (by simp)
                        · replace c38 := Bool.eq_false_iff.mpr c38
                          subst c38
                          have H1 : (if ((rd_T51 l0 x12_1).f0) = 2 then (if x3_1.length < 17592186044416 then (riffleref18_Values.l0 kj25 (x3_1 ++ [((rd_T51 l0 x12_1).f2)]) l0 (l0.length : Int) (wrap64 (x12_1 + 1))) else (none)) else (if x3_1.length < 17592186044416 then (riffleref18_Values.l0 kj25 (x3_1 ++ [x6_23]) l0 (l0.length : Int) (wrap64 (x12_1 + 1))) else (none))) = some r := by rw [if_neg (show ¬ (false = true) by decide)] at H; exact H
                          clear H
                          have H := H1
                          clear H1
                          by_cases c46 : ((rd_T51 l0 x12_1).f0) = 2
                          · rw [if_pos c46] at H
                            have c46b0 : (((rd_T51 l0 x12_1).f0) == 2) = true := beq_iff_eq.mpr c46
                            have c46b1 : (((rd_T51 l0 x12_1).f0) != 2) = false := bne_eq_false_iff_eq.mpr c46
                            clear c46
                            by_cases c47 : x3_1.length < 17592186044416
                            · rw [if_pos c47] at H
                              have LMc47 := Aside0.mk c47
                              clear c47
                              obtain ⟨y129, hy129⟩ : ∃ y_ : List Int, y_ = (x3_1 ++ [((rd_T51 l0 x12_1).f2)]) := ⟨_, rfl⟩
                              replace H : (riffleref18_Values.l0 kj25 y129 l0 (l0.length : Int) (wrap64 (x12_1 + 1))) = some r := by first | (rw [hy129]; with_reducible exact H) | (have H2_ := (Option.bind_some _ _).symm.trans H; rw [hy129]; with_reducible exact H2_) | (have H2_ := (Option.bind_some _ _).symm.trans H; with_reducible exact H2_) | with_reducible exact H | (rw [hy129]; exact H) | exact H
                              have Ny129 := Aside0.mk hy129
                              clear hy129
                              have H' := Aside0.mk H
                              clear H
                              have hcz48_0 : wc.cell? ⟨gb120, 0, none⟩ = some (.int .i64 ((rd_T51 l0 x12_1).f0)) := (blk_cell BK120.out 0).trans rfl
                              have hcz48_1 : wc.cell? ⟨gb120, 1, none⟩ = some (.slice A119_1 ((rd_T51 l0 x12_1).f1).length c119_1) := (blk_cell BK120.out 1).trans rfl
                              have hcz48_2 : wc.cell? ⟨gb120, 2, none⟩ = some (.int .i64 ((rd_T51 l0 x12_1).f2)) := (blk_cell BK120.out 2).trans rfl
                              have hfz48_0 := blk_frozen BK120.out 0
                              have hfz48_1 := blk_frozen BK120.out 1
                              have hfz48_2 := blk_frozen BK120.out 2
                              go_wp2_with (first | ((with_reducible refine gate_builtin (b := .append) (xs := #[.tmp 77, .tmp 79]) rfl ?_); (try (refine gate_guard (by rfl) ?_; dsimp only)); at_builtin; refine Kd.R_append (Kd.int .i64) (w0 := w) w.heap.size rfl (.tmp 77) (.tmp 79) 42 3 (.int .i64 0) 8 rfl Try.underlying42 info3 rfl (by decide) (by omega) (.slice Ao12 x3_1.length co12) x3_1 ((rd_T51 l0 x12_1).f2) [.int .i64 ((rd_T51 l0 x12_1).f2)] (fun _ => True) (fun _ => False) rfl rfl ?aP (fun _ hk => hk.elim) ?aF ?aO ?aB ?aS ?aL ?_; (case aP => exact rfl); (case aB => exact (by repeat (first | (with_reducible first | exact HB.out | apply below_alloc | apply pw_below_drewN | apply below_drew1 | refine below_set ?_ GE120.out) | exact HB.out))); (case aF => exact (fun _ _ => trivial)); (case aO => exact (by (with_reducible repeat (first | apply Kd.R_alloc | apply Kd.R_drewN | apply Kd.R_drew)); exact HO_3.out)); (case aS => exact (below_size (by repeat (first | (with_reducible first | exact HB.out | apply below_alloc | apply pw_below_drewN | apply below_drew1 | refine below_set ?_ GE120.out) | exact HB.out)))); (case aL => have := LMc47.out; omega); intro v130 w49 ho hb hg hat; rw [← Ny129.out] at ho; have n0_ := Aside0.mk (blk_grown (g := gb120) (o := .cells #[.int .i64 ((rd_T51 l0 x12_1).f0), .slice A119_1 ((rd_T51 l0 x12_1).f1).length c119_1, .int .i64 ((rd_T51 l0 x12_1).f2)] 51 (0, 0)) (by (with_reducible repeat (first | refine blk_drewN ?_ _ | refine blk_drew ?_ | refine blk_alloc ?_ _)); exact BK120.out) hg (Kd.R_ne HO_3.out BK120.out (by decide))); have n1_ := Aside0.mk (hb); have n2_ := Aside0.mk (ho); clear BK120; clear HB; clear HO_3; have BK120 := n0_; have HB := n1_; have HO131 := n2_; clear n0_ n1_ n2_; clear ho hb hg hat))
                              go_roundg kj25
                              case measure => have := HK1.out; have := HJ8.out; have := HJ23.out; have := HJ25.out; omega
                              case rel => exact ⟨(y129), (wrap64 (x12_1 + 1)), (by first | rfl | (simp; done) | (simp [*]; done)), H', ⟨by have := HK1.out; have := HJ8.out; have := HJ23.out; have := HJ25.out; omega⟩, ⟨by (with_reducible repeat (first | apply Kd.R_alloc | apply Kd.R_drewN | apply Kd.R_drew)); exact HO131.out⟩, ⟨by repeat (first | (with_reducible first | exact HB.out | apply below_alloc | apply pw_below_drewN | apply below_drew1 | refine below_set ?_ GE120.out) | exact HB.out)⟩⟩
                            · rw [if_neg c47] at H
                              exact absurd H (by simp)
                          · rw [if_neg c46] at H
                            have c46b0 : (((rd_T51 l0 x12_1).f0) == 2) = false := beq_eq_false_iff_ne.mpr c46
                            have c46b1 : (((rd_T51 l0 x12_1).f0) != 2) = true := bne_iff_ne.mpr c46
                            by_cases c50 : x3_1.length < 17592186044416
                            · rw [if_pos c50] at H
                              have LMc50 := Aside0.mk c50
                              clear c50
                              obtain ⟨y132, hy132⟩ : ∃ y_ : List Int, y_ = (x3_1 ++ [x6_23]) := ⟨_, rfl⟩
                              replace H : (riffleref18_Values.l0 kj25 y132 l0 (l0.length : Int) (wrap64 (x12_1 + 1))) = some r := by first | (rw [hy132]; with_reducible exact H) | (have H2_ := (Option.bind_some _ _).symm.trans H; rw [hy132]; with_reducible exact H2_) | (have H2_ := (Option.bind_some _ _).symm.trans H; with_reducible exact H2_) | with_reducible exact H | (rw [hy132]; exact H) | exact H
                              have Ny132 := Aside0.mk hy132
                              clear hy132
                              have H' := Aside0.mk H
                              clear H
                              have hcz51_0 : wc.cell? ⟨gb120, 0, none⟩ = some (.int .i64 ((rd_T51 l0 x12_1).f0)) := (blk_cell BK120.out 0).trans rfl
                              have hcz51_1 : wc.cell? ⟨gb120, 1, none⟩ = some (.slice A119_1 ((rd_T51 l0 x12_1).f1).length c119_1) := (blk_cell BK120.out 1).trans rfl
                              have hcz51_2 : wc.cell? ⟨gb120, 2, none⟩ = some (.int .i64 ((rd_T51 l0 x12_1).f2)) := (blk_cell BK120.out 2).trans rfl
                              have hfz51_0 := blk_frozen BK120.out 0
                              have hfz51_1 := blk_frozen BK120.out 1
                              have hfz51_2 := blk_frozen BK120.out 2
                              go_wp2_with (first | ((with_reducible refine gate_builtin (b := .append) (xs := #[.tmp 77, .tmp 79]) rfl ?_); (try (refine gate_guard (by rfl) ?_; dsimp only)); at_builtin; refine Kd.R_append (Kd.int .i64) (w0 := w) w.heap.size rfl (.tmp 77) (.tmp 79) 42 3 (.int .i64 0) 8 rfl Try.underlying42 info3 rfl (by decide) (by omega) (.slice Ao12 x3_1.length co12) x3_1 x6_23 [.int .i64 x6_23] (fun _ => True) (fun _ => False) rfl rfl ?aP (fun _ hk => hk.elim) ?aF ?aO ?aB ?aS ?aL ?_; (case aP => exact rfl); (case aB => exact (by repeat (first | (with_reducible first | exact HB.out | apply below_alloc | apply pw_below_drewN | apply below_drew1 | refine below_set ?_ GE120.out) | exact HB.out))); (case aF => exact (fun _ _ => trivial)); (case aO => exact (by (with_reducible repeat (first | apply Kd.R_alloc | apply Kd.R_drewN | apply Kd.R_drew)); exact HO_3.out)); (case aS => exact (below_size (by repeat (first | (with_reducible first | exact HB.out | apply below_alloc | apply pw_below_drewN | apply below_drew1 | refine below_set ?_ GE120.out) | exact HB.out)))); (case aL => have := LMc50.out; omega); intro v133 w52 ho hb hg hat; rw [← Ny132.out] at ho; have n0_ := Aside0.mk (blk_grown (g := gb120) (o := .cells #[.int .i64 ((rd_T51 l0 x12_1).f0), .slice A119_1 ((rd_T51 l0 x12_1).f1).length c119_1, .int .i64 ((rd_T51 l0 x12_1).f2)] 51 (0, 0)) (by (with_reducible repeat (first | refine blk_drewN ?_ _ | refine blk_drew ?_ | refine blk_alloc ?_ _)); exact BK120.out) hg (Kd.R_ne HO_3.out BK120.out (by decide))); have n1_ := Aside0.mk (hb); have n2_ := Aside0.mk (ho); clear BK120; clear HB; clear HO_3; have BK120 := n0_; have HB := n1_; have HO134 := n2_; clear n0_ n1_ n2_; clear ho hb hg hat))
                              go_roundg kj25
                              case measure => have := HK1.out; have := HJ8.out; have := HJ23.out; have := HJ25.out; omega
                              case rel => exact ⟨(y132), (wrap64 (x12_1 + 1)), (by first | rfl | (simp; done) | (simp [*]; done)), H', ⟨by have := HK1.out; have := HJ8.out; have := HJ23.out; have := HJ25.out; omega⟩, ⟨by (with_reducible repeat (first | apply Kd.R_alloc | apply Kd.R_drewN | apply Kd.R_drew)); exact HO134.out⟩, ⟨by repeat (first | (with_reducible first | exact HB.out | apply below_alloc | apply pw_below_drewN | apply below_drew1 | refine below_set ?_ GE120.out) | exact HB.out)⟩⟩
                            · rw [if_neg c50] at H
                              exact absurd H (by simp)
          · rw [if_neg c6] at H
            exact absurd H (by simp)
        · rw [if_neg c5] at H
          exact absurd H (by simp)
      · rw [if_neg c4] at H
        have c4b0 : decide (x12_1 < (l0.length : Int)) = false := decide_eq_false c4
        clear c4
        obtain rfl := Option.some.inj H
        go_wp2
        go_ret
        exact ⟨_, by first | rfl | (simp [errW_none, errW_some] <;> rfl) | (simp [*, errW_none, errW_some] <;> rfl), by (with_reducible repeat (first | apply Kd.R_alloc | apply Kd.R_drewN | apply Kd.R_drew)); exact HO_3.out, by repeat (first | (with_reducible first | exact HB.out | apply below_alloc | apply pw_below_drewN | apply below_drew1) | exact HB.out)⟩

-- NOT PRINTED: function 10 (rifflelaw18_TruthRuns)

end Go.Proofs.Ytjfoppmpiklfiab.PTruthRuns
