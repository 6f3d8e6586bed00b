/- Contracts of functions that the law CursorCuts reaches. Conditions: none. -/
import Derived.Test.YtjfoppmpiklfiaaPCursorCutsx0
namespace Go.Proofs.Ytjfoppmpiklfiaa.PCursorCuts
open Go.RowKit Go.Proofs.YtjfoppmpiklfiaaW.PrintWords Go.Proofs.YtjfoppmpiklfiaaW.PrintLast Go.Proofs.YtjfoppmpiklfiaaW.PrintMore
attribute [local go_sem] max2_int min2_int max_two min_two max_three min_three max_four min_four   -- for this text's walks alone
set_option linter.unusedVariables false
set_option linter.unusedSimpArgs false

/-! ### riffleref03_Cut: function 48 -/
mutual
def riffleref03_Cut.l0 : Nat → List Int → List (List Int) → Int → List Int → Int → Int → Option ((List (List Int)))
  | 0, _, _, _, _, _, _ => none
  | k + 1, x0, x5, x6, x12, x13, x14 => if x14 < x13 then (if 0 ≤ x14 then (if x14 < (x12.length : Int) then (riffleref03_Cut.l1 k x0 x5 x6 (rd x12 x14) (([] : List Int)) 0 x12 x13 x14) else (none)) else (none)) else (if x6 < (x0.length : Int) then ((some (([] : List Int) : List Int)).bind fun y130 => (if 0 ≤ x6 then (if x6 ≤ (x0.length : Int) then (if y130.length + (x0.drop (x6 : Int).toNat).length < 140737488355328 then (if x5.length < 5864062014805 then (some (x5 ++ [(y130 ++ (x0.drop (x6 : Int).toNat))])) else (none)) else (none)) else (none)) else (none))) else (some x5))
def riffleref03_Cut.l1 : Nat → List Int → List (List Int) → Int → Int → List Int → Int → List Int → Int → Int → Option ((List (List Int)))
  | 0, _, _, _, _, _, _, _, _, _ => none
  | k + 1, x0, x5, x6, x8, x9, x10, x12, x13, x14 => if x10 < x8 then (if x6 < (x0.length : Int) then (if 0 ≤ x6 then (if x9.length < 140737488355328 then (riffleref03_Cut.l1 k x0 x5 (wrap64 (x6 + 1)) x8 (x9 ++ [rd x0 x6]) (wrap64 (x10 + 1)) x12 x13 x14) else (none)) else (none)) else (if x5.length < 5864062014805 then (riffleref03_Cut.l0 k x0 (x5 ++ [x9]) x6 x12 x13 (wrap64 (x14 + 1))) else (none))) else (if x5.length < 5864062014805 then (riffleref03_Cut.l0 k x0 (x5 ++ [x9]) x6 x12 x13 (wrap64 (x14 + 1))) else (none))
end
def riffleref03_Cut.f (k : Nat) (l0 : List Int) (l1 : List Int) : Option ((List (List Int))) := riffleref03_Cut.l0 k l0 (([] : List (List Int))) 0 l1 (l1.length : Int) 0
theorem riffleref03_Cut.mono_l : ∀ k, (∀ y0 y1 y2 y3 y4 y5, LeO (riffleref03_Cut.l0 k y0 y1 y2 y3 y4 y5) (riffleref03_Cut.l0 (k + 1) y0 y1 y2 y3 y4 y5)) ∧ (∀ y0 y1 y2 y3 y4 y5 y6 y7 y8, LeO (riffleref03_Cut.l1 k y0 y1 y2 y3 y4 y5 y6 y7 y8) (riffleref03_Cut.l1 (k + 1) y0 y1 y2 y3 y4 y5 y6 y7 y8))
  | 0 => ⟨fun _ _ _ _ _ _ r h => by simp [riffleref03_Cut.l0] at h, fun _ _ _ _ _ _ _ _ _ r h => by simp [riffleref03_Cut.l1] at h⟩
  | k + 1 => by
    obtain ⟨ih0, ih1⟩ := riffleref03_Cut.mono_l k
    refine ⟨?_, ?_⟩
    · intro y0 y1 y2 y3 y4 y5
      unfold riffleref03_Cut.l0
      repeat' first
      | (with_reducible exact ih0 _ _ _ _ _ _)
      | (with_reducible exact ih1 _ _ _ _ _ _ _ _ _)
      | (with_reducible exact LeO.refl _)
      | (with_reducible exact LeO.none _)
      | (with_reducible refine LeO.ite ?_ ?_)
      | (with_reducible refine LeO.bind ?_ (fun _ => ?_))
      | exact ih0 _ _ _ _ _ _
      | exact ih1 _ _ _ _ _ _ _ _ _
      | exact LeO.none _
      | refine LeO.ite ?_ ?_
      | refine LeO.bind ?_ (fun _ => ?_)
    · intro y0 y1 y2 y3 y4 y5 y6 y7 y8
      unfold riffleref03_Cut.l1
      repeat' first
      | (with_reducible exact ih0 _ _ _ _ _ _)
      | (with_reducible exact ih1 _ _ _ _ _ _ _ _ _)
      | (with_reducible exact LeO.refl _)
      | (with_reducible exact LeO.none _)
      | (with_reducible refine LeO.ite ?_ ?_)
      | (with_reducible refine LeO.bind ?_ (fun _ => ?_))
      | exact ih0 _ _ _ _ _ _
      | exact ih1 _ _ _ _ _ _ _ _ _
      | exact LeO.none _
      | refine LeO.ite ?_ ?_
      | refine LeO.bind ?_ (fun _ => ?_)
theorem riffleref03_Cut.mono : ∀ a0 a1 k, LeO (riffleref03_Cut.f k a0 a1) (riffleref03_Cut.f (k + 1) a0 a1) := by
  intro a0 a1 k
  obtain ⟨ih0, ih1⟩ := riffleref03_Cut.mono_l k
  unfold riffleref03_Cut.f
  repeat' first
      | (with_reducible exact ih0 _ _ _ _ _ _)
      | (with_reducible exact ih1 _ _ _ _ _ _ _ _ _)
      | (with_reducible exact LeO.refl _)
      | (with_reducible exact LeO.none _)
      | (with_reducible refine LeO.ite ?_ ?_)
      | (with_reducible refine LeO.bind ?_ (fun _ => ?_))
      | exact ih0 _ _ _ _ _ _
      | exact ih1 _ _ _ _ _ _ _ _ _
      | exact LeO.none _
      | refine LeO.ite ?_ ?_
      | refine LeO.bind ?_ (fun _ => ?_)
set_option maxHeartbeats 8000000 in
set_option maxRecDepth 100000 in
theorem riffleref03_Cut.calls (k : Nat) (A0 : Option Addr) (c0 : Nat) (l0 : List Int) (A1 : Option Addr) (c1 : Nat) (l1 : List Int) (r : List (List Int)) (w : World) (hr0 : Kd.C (Kd.int .u8) w A0 l0.length l0) (hc0 : l0.length ≤ c0) (hr1 : Kd.C (Kd.int .i64) w A1 l1.length l1) (hc1 : l1.length ≤ c1) (h : riffleref03_Cut.f k l0 l1 = some r) :
    Calls Try.prog 48 #[.slice A0 l0.length c0, .slice A1 l1.length c1] w fun e w' => ∃ v0_ : Value, e = .returned (v0_) ∧ Kd.S (Kd.slice 5 (Kd.int .u8)) 22 w' w.heap.size (fun _ => True) v0_ r ∧ Below w.heap.size w w' := by
  have HR0 := Aside0.mk hr0
  have HC0 := Aside0.mk hc0
  clear hr0 hc0
  have HR1 := Aside0.mk hr1
  have HC1 := Aside0.mk hc1
  clear hr1 hc1
  have HB := Aside0.mk (Below.refl w.heap.size w)
  have H : (riffleref03_Cut.l0 k l0 (([] : List (List Int))) 0 l1 (l1.length : Int) 0) = some r := h
  clear h
  obtain ⟨y127, hy127⟩ : ∃ y_ : List (List Int), y_ = (([] : List (List Int))) := ⟨_, rfl⟩
  replace H : (riffleref03_Cut.l0 k l0 y127 0 l1 (l1.length : Int) 0) = some r := by first | (rw [hy127]; with_reducible exact H) | (have H2_ := (Option.bind_some _ _).symm.trans H; rw [hy127]; with_reducible exact H2_) | (have H2_ := (Option.bind_some _ _).symm.trans H; with_reducible exact H2_) | with_reducible exact H | (rw [hy127]; exact H) | exact H
  have Ny127 := Aside0.mk hy127
  clear hy127
  have H' := Aside0.mk H
  clear H
  go_enter Try.func48, Try.ntmps48
  go_wp2_with (first | ((with_reducible refine gate_dst (N := 11) rfl ?_); (try (refine gate_guard (by rfl) ?_; dsimp only)); refine Kd.S_lit (Kd.slice 5 (Kd.int .u8)) _ 22 ?hg (N := 11) ?hd (xs := ([] : List (List Int))) (inner := []) (ok := fun _ => True) (okp := fun _ => True) ?hr ?hp (fun _ hk => hk) trivial (Below.refl _ _) (Nat.le_refl _) (by simp) ?_; (case hd => rfl); (case hg => rfl); (case hr => first | (go_simp; done) | (go_simp; rfl)); (case hp => exact (Reps.none _ _)); intro v128 w3 ho4 hb hg_ hnew_; clear hg_ hnew_; (first | rw [← Ny127.out] at ho4 | (simp only [Int.reduceToNat] at ho4; rw [← Ny127.out] at ho4)); have n0_ := Aside0.mk (Kd.S_lower ho4 (below_size (by repeat (first | (with_reducible first | exact HB.out | apply below_alloc | apply pw_below_drewN | apply below_drew1) | exact HB.out)))); have n1_ := Aside0.mk (below_step (by repeat (first | (with_reducible first | exact HB.out | apply below_alloc | apply pw_below_drewN | apply below_drew1) | exact HB.out)) hb); clear HB; have HO129 := n0_; have HB := n1_; clear n0_ n1_; clear hb ho4))
  go_loopg [5, 6, 14] k (fun kq v5 v6 v14 w' => ∃ (x5_1 : List (List Int)) (x6_1 : Int) (x14_1 : Int), v6 = .int .i64 x6_1 ∧ v14 = .int .i64 x14_1 ∧ Aside0 (riffleref03_Cut.l0 kq l0 x5_1 x6_1 l1 (l1.length : Int) x14_1 = some r) ∧ Aside0 (kq ≤ k) ∧ Aside0 (Kd.S (Kd.slice 5 (Kd.int .u8)) 22 w' w.heap.size (fun _ => True) v5 x5_1) ∧ Aside0 (Below w.heap.size w w'))
  case atStart => exact ⟨(y127), (0), (0), (by first | rfl | (simp; done) | (simp [*]; done)), (by first | rfl | (simp; done) | (simp [*]; done)), H', ⟨Nat.le_refl _⟩, ⟨by (with_reducible repeat (first | apply Kd.S_alloc | apply Kd.S_drewN | apply Kd.S_drew)); exact HO129.out⟩, ⟨by repeat (first | (with_reducible first | exact HB.out | apply below_alloc | apply pw_below_drewN | apply below_drew1) | exact HB.out)⟩⟩
  case round =>
    clear H'
    try clear c1
    try clear p2
    try clear c4
    obtain ⟨x5_1, x6_1, x14_1, rfl, rfl, HA, HK1, HO_5, HB⟩ := hrel
    cases gk with
    | zero => exact absurd HA.out (by simp [riffleref03_Cut.l0])
    | succ k1 =>
      have H := HA.out
      clear HA
      simp only [riffleref03_Cut.l0] at H
      by_cases c5 : x14_1 < (l1.length : Int)
      · rw [if_pos c5] at H
        have c5b0 : decide (x14_1 < (l1.length : Int)) = true := decide_eq_true c5
        clear c5
        by_cases c6 : 0 ≤ x14_1
        · rw [if_pos c6] at H
          have c6b0 : decide (0 ≤ x14_1) = true := decide_eq_true c6
          clear c6
          by_cases c7 : x14_1 < (l1.length : Int)
          · rw [if_pos c7] at H
            have c7b0 : decide (x14_1 < (l1.length : Int)) = true := decide_eq_true c7
            clear c7
            obtain ⟨y141, hy141⟩ : ∃ y_ : List Int, y_ = (([] : List Int)) := ⟨_, rfl⟩
            replace H : (riffleref03_Cut.l1 k1 l0 x5_1 x6_1 (rd l1 x14_1) y141 0 l1 (l1.length : Int) x14_1) = some r := by first | (rw [hy141]; with_reducible exact H) | (have H2_ := (Option.bind_some _ _).symm.trans H; rw [hy141]; with_reducible exact H2_) | (have H2_ := (Option.bind_some _ _).symm.trans H; with_reducible exact H2_) | with_reducible exact H | (rw [hy141]; exact H) | exact H
            have Ny141 := Aside0.mk hy141
            clear hy141
            have H' := Aside0.mk H
            clear H
            have p140 : 0 ≤ (x14_1 : Int) := of_decide_eq_true (by first | (with_reducible assumption) | assumption)
            have q140 : x14_1 < (l1.length : Int) := of_decide_eq_true (by first | (with_reducible assumption) | assumption)
            obtain ⟨ad140, e140, hx140_0⟩ := Kd.at_int HR1.out x14_1 p140 q140
            cases e140
            replace hx140_0 := (HB.out.cell (World.block_lt_of_cell? w _ hx140_0)).trans hx140_0
            replace p140 := eq_true p140
            replace q140 := eq_true q140
            go_wp2_with (first | ((with_reducible refine gate_dst (N := 18) rfl ?_); (try (refine gate_guard (by rfl) ?_; dsimp only)); refine Kd.R_lit (Kd.int .u8) _ 5 ?hg (N := 18) ?hd (xs := ([] : List Int)) (inner := []) (ok := fun _ => True) (okp := fun _ => True) ?hr ?hp (fun _ hk => hk) trivial (Below.refl _ _) (Nat.le_refl _) (by simp) ?_; (case hd => rfl); (case hg => rfl); (case hr => first | (go_simp; done) | (go_simp; rfl)); (case hp => exact (Reps.none _ _)); intro v142 w8 ho9 hb hg_ hnew_; clear hg_ hnew_; (first | rw [← Ny141.out] at ho9 | (simp only [Int.reduceToNat] at ho9; rw [← Ny141.out] at ho9)); have n0_ := Aside0.mk (Kd.S_elder' (by (with_reducible repeat (first | apply Kd.S_alloc | apply Kd.S_drewN | apply Kd.S_drew)); exact HO_5.out) (Kd.R_base ho9) hb); have n1_ := Aside0.mk (Kd.R_lower ho9 (below_size (by repeat (first | (with_reducible first | exact HB.out | apply below_alloc | apply pw_below_drewN | apply below_drew1) | exact HB.out)))); have n2_ := Aside0.mk (below_step (by repeat (first | (with_reducible first | exact HB.out | apply below_alloc | apply pw_below_drewN | apply below_drew1) | exact HB.out)) hb); clear HO_5; clear HB; have HO_5 := n0_; have HO143 := n1_; have HB := n2_; clear n0_ n1_ n2_; clear hb ho9))
            go_loopg [6, 9, 10] k1 (fun kq v6 v9 v10 w' => ∃ (x6_2 : Int) (x9_2 : List Int) (x10_2 : Int), v6 = .int .i64 x6_2 ∧ v10 = .int .i64 x10_2 ∧ Aside0 (riffleref03_Cut.l1 kq l0 x5_1 x6_2 (rd l1 x14_1) x9_2 x10_2 l1 (l1.length : Int) x14_1 = some r) ∧ Aside0 (kq ≤ k1) ∧ Aside0 (Kd.S (Kd.slice 5 (Kd.int .u8)) 22 w' w.heap.size (fun k_ => some k_ ≠ (v9 : Value).ownBlock) u5 x5_1) ∧ Aside0 (Kd.R (Kd.int .u8) 5 w' w.heap.size (fun _ => True) v9 x9_2) ∧ Aside0 (Below w.heap.size w w'))
            case atStart => exact ⟨(x6_1), (y141), (0), (by first | rfl | (simp; done) | (simp [*]; done)), (by first | rfl | (simp; done) | (simp [*]; done)), H', ⟨Nat.le_refl _⟩, ⟨by (with_reducible repeat (first | apply Kd.S_alloc | apply Kd.S_drewN | apply Kd.S_drew)); exact Kd.S_mono HO_5.out (fun _ hk => hk.2)⟩, ⟨by (with_reducible repeat (first | apply Kd.R_alloc | apply Kd.R_drewN | apply Kd.R_drew)); exact HO143.out⟩, ⟨by repeat (first | (with_reducible first | exact HB.out | apply below_alloc | apply pw_below_drewN | apply below_drew1) | exact HB.out)⟩⟩
            case round =>
              clear H'
              try clear c1
              try clear p1
              try clear q1
              try clear hx1
              try clear p2
              try clear c4
              try clear c5
              try clear c5b0
              try clear c6
              try clear c6b0
              try clear c7
              try clear c7b0
              try clear hx140_0
              try clear p140
              try clear p2
              try clear q140
              obtain ⟨x6_2, x9_2, x10_2, rfl, rfl, HA, HK2, HO_5, HO_9, HB⟩ := hrel
              cases gk with
              | zero => exact absurd HA.out (by simp [riffleref03_Cut.l1])
              | succ k2 =>
                have H := HA.out
                clear HA
                simp only [riffleref03_Cut.l1] at H
                by_cases c10 : x10_2 < (rd l1 x14_1)
                · rw [if_pos c10] at H
                  have c10b0 : decide (x10_2 < (rd l1 x14_1)) = true := decide_eq_true c10
                  clear c10
                  by_cases c11 : x6_2 < (l0.length : Int)
                  · rw [if_pos c11] at H
                    have c11b0 : decide (x6_2 < (l0.length : Int)) = true := decide_eq_true c11
                    clear c11
                    by_cases c12 : 0 ≤ x6_2
                    · rw [if_pos c12] at H
                      have c12b0 : decide (0 ≤ x6_2) = true := decide_eq_true c12
                      clear c12
                      by_cases c13 : x9_2.length < 140737488355328
                      · rw [if_pos c13] at H
                        have LMc13 := Aside0.mk c13
                        clear c13
                        obtain ⟨y145, hy145⟩ : ∃ y_ : List Int, y_ = (x9_2 ++ [rd l0 x6_2]) := ⟨_, rfl⟩
                        replace H : (riffleref03_Cut.l1 k2 l0 x5_1 (wrap64 (x6_2 + 1)) (rd l1 x14_1) y145 (wrap64 (x10_2 + 1)) l1 (l1.length : Int) x14_1) = some r := by first | (rw [hy145]; with_reducible exact H) | (have H2_ := (Option.bind_some _ _).symm.trans H; rw [hy145]; with_reducible exact H2_) | (have H2_ := (Option.bind_some _ _).symm.trans H; with_reducible exact H2_) | with_reducible exact H | (rw [hy145]; exact H) | exact H
                        have Ny145 := Aside0.mk hy145
                        clear hy145
                        have H' := Aside0.mk H
                        clear H
                        have p144 : 0 ≤ (x6_2 : Int) := of_decide_eq_true (by first | (with_reducible assumption) | assumption)
                        have q144 : x6_2 < (l0.length : Int) := of_decide_eq_true (by first | (with_reducible assumption) | assumption)
                        obtain ⟨ad144, e144, hx144_0⟩ := Kd.at_int HR0.out x6_2 p144 q144
                        cases e144
                        replace hx144_0 := (HB.out.cell (World.block_lt_of_cell? w _ hx144_0)).trans hx144_0
                        replace p144 := eq_true p144
                        replace q144 := eq_true q144
                        go_wp2_with (first | ((with_reducible refine gate_builtin (b := .append) (xs := #[.tmp 30, .tmp 35]) rfl ?_); (try (refine gate_guard (by rfl) ?_; dsimp only)); at_builtin; refine Kd.R_append (Kd.int .u8) (w0 := w) w.heap.size rfl (.tmp 30) (.tmp 35) 22 5 (.int .u8 0) 1 rfl Try.underlying22 info5 rfl (by decide) (by omega) u9 x9_2 (rd l0 x6_2) [.int .u8 (rd l0 x6_2)] (fun _ => True) (fun _ => False) rfl rfl ?aP (fun _ hk => hk.elim) ?aF ?aO ?aB ?aS ?aL ?_; (case aP => exact rfl); (case aB => exact (by repeat (first | (with_reducible first | exact HB.out | apply below_alloc | apply pw_below_drewN | apply below_drew1) | exact HB.out))); (case aF => exact (fun _ _ => trivial)); (case aO => exact (by (with_reducible repeat (first | apply Kd.R_alloc | apply Kd.R_drewN | apply Kd.R_drew)); exact HO_9.out)); (case aS => exact (below_size (by repeat (first | (with_reducible first | exact HB.out | apply below_alloc | apply pw_below_drewN | apply below_drew1) | exact HB.out)))); (case aL => have := LMc13.out; omega); intro v146 w14 ho hb hg hat; rw [← Ny145.out] at ho; have n0_ := Aside0.mk (Kd.S_after (ok := (fun _ => True)) (by (with_reducible repeat (first | apply Kd.S_alloc | apply Kd.S_drewN | apply Kd.S_drew)); exact Kd.S_mono HO_5.out (fun _ hk => ⟨trivial, hk⟩)) hg hat); have n1_ := Aside0.mk (hb); have n2_ := Aside0.mk (ho); clear HO_5; clear HB; clear HO_9; have HO_5 := n0_; have HB := n1_; have HO147 := n2_; clear n0_ n1_ n2_; clear ho hb hg hat))
                        go_roundg k2
                        case measure => have := HK1.out; have := HK2.out; omega
                        case rel => exact ⟨(wrap64 (x6_2 + 1)), (y145), (wrap64 (x10_2 + 1)), (by first | rfl | (simp; done) | (simp [*]; done)), (by first | rfl | (simp; done) | (simp [*]; done)), H', ⟨by have := HK1.out; have := HK2.out; omega⟩, ⟨by (with_reducible repeat (first | apply Kd.S_alloc | apply Kd.S_drewN | apply Kd.S_drew)); exact Kd.S_mono HO_5.out (fun _ hk => hk.2)⟩, ⟨by (with_reducible repeat (first | apply Kd.R_alloc | apply Kd.R_drewN | apply Kd.R_drew)); exact HO147.out⟩, ⟨by repeat (first | (with_reducible first | exact HB.out | apply below_alloc | apply pw_below_drewN | apply below_drew1) | exact HB.out)⟩⟩
                      · rw [if_neg c13] at H
                        exact absurd H (by simp)
                    · rw [if_neg c12] at H
                      exact absurd H (by simp)
                  · rw [if_neg c11] at H
                    have c11b0 : decide (x6_2 < (l0.length : Int)) = false := decide_eq_false c11
                    clear c11
                    by_cases c15 : x5_1.length < 5864062014805
                    · rw [if_pos c15] at H
                      have LMc15 := Aside0.mk c15
                      clear c15
                      obtain ⟨y148, hy148⟩ : ∃ y_ : List (List Int), y_ = (x5_1 ++ [x9_2]) := ⟨_, rfl⟩
                      replace H : (riffleref03_Cut.l0 k2 l0 y148 x6_2 l1 (l1.length : Int) (wrap64 (x14_1 + 1))) = some r := by first | (rw [hy148]; with_reducible exact H) | (have H2_ := (Option.bind_some _ _).symm.trans H; rw [hy148]; with_reducible exact H2_) | (have H2_ := (Option.bind_some _ _).symm.trans H; with_reducible exact H2_) | with_reducible exact H | (rw [hy148]; exact H) | exact H
                      have Ny148 := Aside0.mk hy148
                      clear hy148
                      have H' := Aside0.mk H
                      clear H
                      obtain ⟨Ao17, co17, eo17⟩ := Kd.R_slice HO_9.out
                      subst eo17
                      go_wp2_with (first | ((with_reducible refine gate_builtin (b := .append) (xs := #[.tmp 39, .tmp 41]) rfl ?_); (try (refine gate_guard (by rfl) ?_; dsimp only)); at_builtin; refine Kd.S_append (Kd.slice 5 (Kd.int .u8)) (w0 := w) w.heap.size rfl (.tmp 39) (.tmp 41) 40 22 (.slice none 0 0) 24 rfl Try.underlying40 info22 rfl (by decide) (by omega) u5 x5_1 x9_2 [.slice Ao17 x9_2.length co17] (fun _ => True) (fun k_ => some k_ = (.slice Ao17 x9_2.length co17 : Value).ownBlock) rfl rfl ?aP (fun k_ hk_ => ((Kd.R_mono (ok' := fun k_ => ((fun _ => True)) k_ ∧ some k_ ≠ (u5 : Value).ownBlock) (Kd.R_apart' (HO_9.out) (Kd.S_typed HO_5.out) (by decide)) (fun k_ hk => ⟨trivial, hk.2⟩))).1 k_ hk_.symm) ?aF ?aO ?aB ?aS ?aL ?_; (case aP => exact Kd.M_row (Kd.R_mono (Kd.R_tight rfl (Kd.R_mono (ok' := fun k_ => ((fun _ => True)) k_ ∧ some k_ ≠ (u5 : Value).ownBlock) (Kd.R_apart' (HO_9.out) (Kd.S_typed HO_5.out) (by decide)) (fun k_ hk => ⟨trivial, hk.2⟩))) (fun _ h_ => h_))); (case aB => exact (by repeat (first | (with_reducible first | exact HB.out | apply below_alloc | apply pw_below_drewN | apply below_drew1) | exact HB.out))); (case aF => exact (fun _ _ => trivial)); (case aO => exact (by (with_reducible repeat (first | apply Kd.S_alloc | apply Kd.S_drewN | apply Kd.S_drew)); exact Kd.S_mono HO_5.out (fun k_ hk => ⟨trivial, fun e_ => hk e_⟩))); (case aS => exact (below_size (by repeat (first | (with_reducible first | exact HB.out | apply below_alloc | apply pw_below_drewN | apply below_drew1) | exact HB.out)))); (case aL => have := LMc15.out; omega); intro v149 w16 ho hb hg hat; rw [← Ny148.out] at ho; have n0_ := Aside0.mk (hb); have n1_ := Aside0.mk (ho); clear HB; clear HO_5; clear HO_9; have HB := n0_; have HO150 := n1_; clear n0_ n1_; clear ho hb hg hat))
                      go_roundg k2
                      case measure => have := HK1.out; have := HK2.out; omega
                      case rel => exact ⟨(y148), (x6_2), (wrap64 (x14_1 + 1)), (by first | rfl | (simp; done) | (simp [*]; done)), (by first | rfl | (simp; done) | (simp [*]; done)), H', ⟨by have := HK1.out; have := HK2.out; omega⟩, ⟨by (with_reducible repeat (first | apply Kd.S_alloc | apply Kd.S_drewN | apply Kd.S_drew)); exact HO150.out⟩, ⟨by repeat (first | (with_reducible first | exact HB.out | apply below_alloc | apply pw_below_drewN | apply below_drew1) | exact HB.out)⟩⟩
                    · rw [if_neg c15] at H
                      exact absurd H (by simp)
                · rw [if_neg c10] at H
                  have c10b0 : decide (x10_2 < (rd l1 x14_1)) = false := decide_eq_false c10
                  clear c10
                  by_cases c18 : x5_1.length < 5864062014805
                  · rw [if_pos c18] at H
                    have LMc18 := Aside0.mk c18
                    clear c18
                    obtain ⟨y151, hy151⟩ : ∃ y_ : List (List Int), y_ = (x5_1 ++ [x9_2]) := ⟨_, rfl⟩
                    replace H : (riffleref03_Cut.l0 k2 l0 y151 x6_2 l1 (l1.length : Int) (wrap64 (x14_1 + 1))) = some r := by first | (rw [hy151]; with_reducible exact H) | (have H2_ := (Option.bind_some _ _).symm.trans H; rw [hy151]; with_reducible exact H2_) | (have H2_ := (Option.bind_some _ _).symm.trans H; with_reducible exact H2_) | with_reducible exact H | (rw [hy151]; exact H) | exact H
                    have Ny151 := Aside0.mk hy151
                    clear hy151
                    have H' := Aside0.mk H
                    clear H
                    obtain ⟨Ao20, co20, eo20⟩ := Kd.R_slice HO_9.out
                    subst eo20
                    go_wp2_with (first | ((with_reducible refine gate_builtin (b := .append) (xs := #[.tmp 39, .tmp 41]) rfl ?_); (try (refine gate_guard (by rfl) ?_; dsimp only)); at_builtin; refine Kd.S_append (Kd.slice 5 (Kd.int .u8)) (w0 := w) w.heap.size rfl (.tmp 39) (.tmp 41) 40 22 (.slice none 0 0) 24 rfl Try.underlying40 info22 rfl (by decide) (by omega) u5 x5_1 x9_2 [.slice Ao20 x9_2.length co20] (fun _ => True) (fun k_ => some k_ = (.slice Ao20 x9_2.length co20 : Value).ownBlock) rfl rfl ?aP (fun k_ hk_ => ((Kd.R_mono (ok' := fun k_ => ((fun _ => True)) k_ ∧ some k_ ≠ (u5 : Value).ownBlock) (Kd.R_apart' (HO_9.out) (Kd.S_typed HO_5.out) (by decide)) (fun k_ hk => ⟨trivial, hk.2⟩))).1 k_ hk_.symm) ?aF ?aO ?aB ?aS ?aL ?_; (case aP => exact Kd.M_row (Kd.R_mono (Kd.R_tight rfl (Kd.R_mono (ok' := fun k_ => ((fun _ => True)) k_ ∧ some k_ ≠ (u5 : Value).ownBlock) (Kd.R_apart' (HO_9.out) (Kd.S_typed HO_5.out) (by decide)) (fun k_ hk => ⟨trivial, hk.2⟩))) (fun _ h_ => h_))); (case aB => exact (by repeat (first | (with_reducible first | exact HB.out | apply below_alloc | apply pw_below_drewN | apply below_drew1) | exact HB.out))); (case aF => exact (fun _ _ => trivial)); (case aO => exact (by (with_reducible repeat (first | apply Kd.S_alloc | apply Kd.S_drewN | apply Kd.S_drew)); exact Kd.S_mono HO_5.out (fun k_ hk => ⟨trivial, fun e_ => hk e_⟩))); (case aS => exact (below_size (by repeat (first | (with_reducible first | exact HB.out | apply below_alloc | apply pw_below_drewN | apply below_drew1) | exact HB.out)))); (case aL => have := LMc18.out; omega); intro v152 w19 ho hb hg hat; rw [← Ny151.out] at ho; have n0_ := Aside0.mk (hb); have n1_ := Aside0.mk (ho); clear HB; clear HO_5; clear HO_9; have HB := n0_; have HO153 := n1_; clear n0_ n1_; clear ho hb hg hat))
                    go_roundg k2
                    case measure => have := HK1.out; have := HK2.out; omega
                    case rel => exact ⟨(y151), (x6_2), (wrap64 (x14_1 + 1)), (by first | rfl | (simp; done) | (simp [*]; done)), (by first | rfl | (simp; done) | (simp [*]; done)), H', ⟨by have := HK1.out; have := HK2.out; omega⟩, ⟨by (with_reducible repeat (first | apply Kd.S_alloc | apply Kd.S_drewN | apply Kd.S_drew)); exact HO153.out⟩, ⟨by repeat (first | (with_reducible first | exact HB.out | apply below_alloc | apply pw_below_drewN | apply below_drew1) | exact HB.out)⟩⟩
                  · rw [if_neg c18] at H
                    exact absurd H (by simp)
          · rw [if_neg c7] at H
            exact absurd H (by simp)
        · rw [if_neg c6] at H
          exact absurd H (by simp)
      · rw [if_neg c5] at H
        have c5b0 : decide (x14_1 < (l1.length : Int)) = false := decide_eq_false c5
        clear c5
        by_cases c21 : x6_1 < (l0.length : Int)
        · rw [if_pos c21] at H
          have c21b0 : decide (x6_1 < (l0.length : Int)) = true := decide_eq_true c21
          clear c21
          obtain ⟨y130, hy130⟩ : ∃ y_ : List Int, y_ = (([] : List Int)) := ⟨_, rfl⟩
          replace H : (if 0 ≤ x6_1 then (if x6_1 ≤ (l0.length : Int) then (if y130.length + (l0.drop (x6_1 : Int).toNat).length < 140737488355328 then (if x5_1.length < 5864062014805 then (some (x5_1 ++ [(y130 ++ (l0.drop (x6_1 : Int).toNat))])) else (none)) else (none)) else (none)) else (none)) = some r := by first | (rw [hy130]; with_reducible exact H) | (have H2_ := (Option.bind_some _ _).symm.trans H; rw [hy130]; with_reducible exact H2_) | (have H2_ := (Option.bind_some _ _).symm.trans H; with_reducible exact H2_) | with_reducible exact H | (rw [hy130]; exact H) | exact H
          have Ny130 := Aside0.mk hy130
          clear hy130
          by_cases c22 : 0 ≤ x6_1
          · rw [if_pos c22] at H
            have c22b0 := eq_true c22
            have c22b1 : decide (0 ≤ x6_1) = true := decide_eq_true c22
            clear c22
            by_cases c23 : x6_1 ≤ (l0.length : Int)
            · rw [if_pos c23] at H
              have c23b0 := eq_true c23
              have c23b1 : decide (x6_1 ≤ (l0.length : Int)) = true := decide_eq_true c23
              clear c23
              by_cases c24 : y130.length + (l0.drop (x6_1 : Int).toNat).length < 140737488355328
              · rw [if_pos c24] at H
                have LMc24 := Aside0.mk c24
                clear c24
                obtain ⟨y134, hy134⟩ : ∃ y_ : List Int, y_ = (y130 ++ (l0.drop (x6_1 : Int).toNat)) := ⟨_, rfl⟩
                replace H : (if x5_1.length < 5864062014805 then (some (x5_1 ++ [y134])) else (none)) = some r := by first | (rw [hy134]; with_reducible exact H) | (have H2_ := (Option.bind_some _ _).symm.trans H; rw [hy134]; with_reducible exact H2_) | (have H2_ := (Option.bind_some _ _).symm.trans H; with_reducible exact H2_) | with_reducible exact H | (rw [hy134]; exact H) | exact H
                have Ny134 := Aside0.mk hy134
                clear hy134
                by_cases c25 : x5_1.length < 5864062014805
                · rw [if_pos c25] at H
                  have LMc25 := Aside0.mk c25
                  clear c25
                  obtain ⟨y137, hy137⟩ : ∃ y_ : List (List Int), y_ = (x5_1 ++ [y134]) := ⟨_, rfl⟩
                  replace H : (some y137) = some r := by first | (rw [hy137]; with_reducible exact H) | (have H2_ := (Option.bind_some _ _).symm.trans H; rw [hy137]; with_reducible exact H2_) | (have H2_ := (Option.bind_some _ _).symm.trans H; with_reducible exact H2_) | with_reducible exact H | (rw [hy137]; exact H) | exact H
                  have Ny137 := Aside0.mk hy137
                  clear hy137
                  obtain rfl := Option.some.inj H
                  go_wp2_with (first | ((with_reducible refine gate_dst (N := 49) rfl ?_); (try (refine gate_guard (by rfl) ?_; dsimp only)); refine Kd.R_lit (Kd.int .u8) _ 5 ?hg (N := 49) ?hd (xs := ([] : List Int)) (inner := []) (ok := fun _ => True) (okp := fun _ => True) ?hr ?hp (fun _ hk => hk) trivial (Below.refl _ _) (Nat.le_refl _) (by simp) ?_; (case hd => rfl); (case hg => rfl); (case hr => first | (go_simp; done) | (go_simp; rfl)); (case hp => exact (Reps.none _ _)); intro v131 w26 ho27 hb hg_ hnew_; clear hg_ hnew_; (first | rw [← Ny130.out] at ho27 | (simp only [Int.reduceToNat] at ho27; rw [← Ny130.out] at ho27)); have n0_ := Aside0.mk (Kd.S_elder' (by (with_reducible repeat (first | apply Kd.S_alloc | apply Kd.S_drewN | apply Kd.S_drew)); exact HO_5.out) (Kd.R_base ho27) hb); have n1_ := Aside0.mk (Kd.R_lower ho27 (below_size (by repeat (first | (with_reducible first | exact HB.out | apply below_alloc | apply pw_below_drewN | apply below_drew1) | exact HB.out)))); have n2_ := Aside0.mk (below_step (by repeat (first | (with_reducible first | exact HB.out | apply below_alloc | apply pw_below_drewN | apply below_drew1) | exact HB.out)) hb); clear HO_5; clear HB; have HO_5 := n0_; have HO132 := n1_; have HB := n2_; clear n0_ n1_ n2_; clear hb ho27; obtain ⟨i028, hi028, _, hsz28, _⟩ := info_parts info5; obtain ⟨A28, hcut28, hA28, hC28⟩ := print_drop_of (P := Try.prog) (Value.int .u8) 0 22 5 .i64 Try.underlying22 hi028 hsz28 A0 c0 l0 x6_1 (of_decide_eq_true (by first | (with_reducible assumption) | assumption)) (of_decide_eq_true (by first | (with_reducible assumption) | assumption)) HC0.out; have HR133 := Aside0.mk (Kd.C_of_reads (h1 := fun _ => rfl) (hA28 _ (Kd.reads_of_C HR0.out))); have HC133 := Aside0.mk hC28; clear hA28 hC28 hi028 hsz28) | ((with_reducible refine gate_builtin (b := .append) (xs := #[.tmp 49, .tmp 52]) rfl ?_); (try (refine gate_guard (by rfl) ?_; dsimp only)); at_builtin; refine Kd.R_append_rows (Kd.int .u8) (w0 := w) w.heap.size rfl (.tmp 49) (.tmp 52) 22 5 (.int .u8 0) 1 rfl Try.underlying22 info5 rfl (by decide) (by omega) v131 y130 (l0.drop (x6_1 : Int).toNat) _ _ _ (fun _ => True) (fun _ => False) rfl rfl ?aO ?aR (fun _ _ h => h) (fun _ h => h.elim) ?aF ?aB ?aS ?aL ?_; (case aR => first | (rw [← show (l0.drop (x6_1 : Int).toNat).length = (l0.length - x6_1.toNat) from List.length_drop]; repeat (first | exact (Kd.C_below HR133.out HB.out) | (with_reducible refine Kd.C_alloc ?_ _) | (with_reducible refine Kd.C_drewN ?_ _) | (with_reducible refine Kd.C_drew ?_))) | (repeat (first | exact (Kd.C_below HR133.out HB.out) | (with_reducible refine Kd.C_alloc ?_ _) | (with_reducible refine Kd.C_drewN ?_ _) | (with_reducible refine Kd.C_drew ?_)))); (case aB => exact (by repeat (first | (with_reducible first | exact HB.out | apply below_alloc | apply pw_below_drewN | apply below_drew1) | exact HB.out))); (case aF => exact (fun _ _ => trivial)); (case aO => exact (by (with_reducible repeat (first | apply Kd.R_alloc | apply Kd.R_drewN | apply Kd.R_drew)); exact HO132.out)); (case aS => exact (below_size (by repeat (first | (with_reducible first | exact HB.out | apply below_alloc | apply pw_below_drewN | apply below_drew1) | exact HB.out)))); (case aL => have := LMc24.out; have hlx_ := (show (l0.drop (x6_1 : Int).toNat).length = (l0.length - x6_1.toNat) from List.length_drop); omega); intro v135 w29 ho hb hg hat; rw [← Ny134.out] at ho; have n0_ := Aside0.mk (Kd.S_after (ok := (fun _ => True)) (by (with_reducible repeat (first | apply Kd.S_alloc | apply Kd.S_drewN | apply Kd.S_drew)); exact HO_5.out) hg hat); have n1_ := Aside0.mk (hb); have n2_ := Aside0.mk (ho); clear HO_5; clear HB; clear HO132; have HO_5 := n0_; have HB := n1_; have HO136 := n2_; clear n0_ n1_ n2_; clear ho hb hg hat; obtain ⟨Ao31, co31, eo31⟩ := Kd.R_slice HO136.out; subst eo31) | ((with_reducible refine gate_builtin (b := .append) (xs := #[.tmp 48, .tmp 54]) rfl ?_); (try (refine gate_guard (by rfl) ?_; dsimp only)); at_builtin; refine Kd.S_append (Kd.slice 5 (Kd.int .u8)) (w0 := w) w.heap.size rfl (.tmp 48) (.tmp 54) 40 22 (.slice none 0 0) 24 rfl Try.underlying40 info22 rfl (by decide) (by omega) u5 x5_1 y134 [.slice Ao31 y134.length co31] (fun _ => True) (fun k_ => some k_ = (.slice Ao31 y134.length co31 : Value).ownBlock) rfl rfl ?aP (fun k_ hk_ => ((Kd.R_mono (ok' := fun k_ => ((fun _ => True)) k_ ∧ some k_ ≠ (u5 : Value).ownBlock) (Kd.R_apart' (HO136.out) (Kd.S_typed HO_5.out) (by decide)) (fun k_ hk => ⟨trivial, hk.2⟩))).1 k_ hk_.symm) ?aF ?aO ?aB ?aS ?aL ?_; (case aP => exact Kd.M_row (Kd.R_mono (Kd.R_tight rfl (Kd.R_mono (ok' := fun k_ => ((fun _ => True)) k_ ∧ some k_ ≠ (u5 : Value).ownBlock) (Kd.R_apart' (HO136.out) (Kd.S_typed HO_5.out) (by decide)) (fun k_ hk => ⟨trivial, hk.2⟩))) (fun _ h_ => h_))); (case aB => exact (by repeat (first | (with_reducible first | exact HB.out | apply below_alloc | apply pw_below_drewN | apply below_drew1) | exact HB.out))); (case aF => exact (fun _ _ => trivial)); (case aO => exact (by (with_reducible repeat (first | apply Kd.S_alloc | apply Kd.S_drewN | apply Kd.S_drew)); exact Kd.S_mono HO_5.out (fun k_ hk => ⟨trivial, fun e_ => hk.2 e_⟩))); (case aS => exact (below_size (by repeat (first | (with_reducible first | exact HB.out | apply below_alloc | apply pw_below_drewN | apply below_drew1) | exact HB.out)))); (case aL => have := LMc25.out; omega); intro v138 w30 ho hb hg hat; rw [← Ny137.out] at ho; have n0_ := Aside0.mk (hb); have n1_ := Aside0.mk (ho); clear HB; clear HO_5; clear HO136; have HB := n0_; have HO139 := n1_; clear n0_ n1_; clear ho hb hg hat))
                  go_ret
                  exact ⟨_, by first | rfl | (simp [errW_none, errW_some] <;> rfl) | (simp [*, errW_none, errW_some] <;> rfl), by (with_reducible repeat (first | apply Kd.S_alloc | apply Kd.S_drewN | apply Kd.S_drew)); exact HO139.out, by repeat (first | (with_reducible first | exact HB.out | apply below_alloc | apply pw_below_drewN | apply below_drew1) | exact HB.out)⟩
                · rw [if_neg c25] at H
                  exact absurd H (by simp)
              · rw [if_neg c24] at H
                exact absurd H (by simp)
            · rw [if_neg c23] at H
              exact absurd H (by simp)
          · rw [if_neg c22] at H
            exact absurd H (by simp)
        · rw [if_neg c21] at H
          have c21b0 : decide (x6_1 < (l0.length : Int)) = false := decide_eq_false c21
          clear c21
          obtain rfl := Option.some.inj H
          go_wp2
          go_ret
          exact ⟨_, by first | rfl | (simp [errW_none, errW_some] <;> rfl) | (simp [*, errW_none, errW_some] <;> rfl), by (with_reducible repeat (first | apply Kd.S_alloc | apply Kd.S_drewN | apply Kd.S_drew)); exact HO_5.out, by repeat (first | (with_reducible first | exact HB.out | apply below_alloc | apply pw_below_drewN | apply below_drew1) | exact HB.out)⟩

-- NOT PRINTED: function 62 (slices_Grow_byte_byte)

def slices_Concat_byte_byte.f (l0 : List (List Int)) : Option (List Int) := if l0.flatten.length < 140737488355328 then some l0.flatten else none
theorem cut0 (A : Option Addr) (n c : Nat) (hn : n ≤ c) (W : World) : (Instr.sliceAt 22 (.slice A n c) none (some (.int .i64 0)) none).run Try.prog W = .ok (.slice A 0 c) W := by
  obtain ⟨i5, hi5⟩ : ∃ i, Try.prog.info? 5 = some i := by
    have h := info5
    cases h8 : Try.prog.info? 5 with
    | none => rw [h8] at h; cases h
    | some i => exact ⟨i, rfl⟩
  have hx : A.map (fun b => b.add (0 * 1)) = A := by cases A <;> simp [Addr.add]
  have hx2 : ∀ b : Addr, b.add 0 = b := fun b => by simp [Addr.add]
  cases A <;> simp [Instr.sliceAt, Instr.slice, Instr.sliceBounds, Instr.sliceBound, asIntOf, run_underlying Try.underlying22, go_sem, sizeOf, typeInfo, hi5, hx, hx2, pure, Sem.pure]
set_option maxHeartbeats 4000000 in
set_option maxRecDepth 100000 in
theorem Grow_calls (n : Nat) (hn : n < 140737488355328) (w : World) : Calls Try.prog 62 #[.slice none 0 0, .int .i64 (n : Int)] w fun e w' => ∃ v0_ : Value, e = .returned v0_ ∧ w'.ownsRow w.heap.size 5 1 v0_ 0 [] ∧ Below w.heap.size w w' := by
  obtain ⟨x, hx⟩ : ∃ x : Int, x = (n : Int) := ⟨_, rfl⟩
  rw [← hx]
  have HX := Aside0.mk hx
  have q1 : 0 ≤ x := by omega
  have q2 : x < 140737488355328 := by omega
  have q3 : decide (x < 0) = false := by simp; omega
  clear hx
  by_cases h0 : x = 0
  · subst h0
    go_enter Try.func62, Try.ntmps62
    go_wp2_with fail
    go_ret
    exact ⟨_, rfl, own_nil _ _ _ _, Below.refl _ _⟩
  · have q4 : decide (x > 0) = true := by simp; omega
    have q5 : ¬ x = 0 := h0
    have hs0 : ∀ W : World, (Instr.sliceAt 22 (.slice none 0 0) none (some (.int .i64 0)) none).run Try.prog W = .ok (.slice none 0 0) W := cut0 none 0 0 (Nat.le_refl _)
    clear h0
    go_enter Try.func62, Try.ntmps62
    go_wp2_with (first | (at_builtin; refine Kd.R_append_zeros (Kd.int .u8) (w0 := w) w.heap.size rfl (.tmp 20) (.tmp 21) 22 3 5 (.int .u8 0) 1 rfl Try.underlying22 Try.underlying3 info5 rfl (by decide) (by decide) _ [] 0 x (fun _ => True) rfl rfl rfl (fun _ _ => trivial) (Kd.R_nil _ _ _ _ _) (by have := HX.out; omega) (Below.refl _ _) (Nat.le_refl _) (by simp; have := HX.out; omega) ?_; intro v1 w1 hown hb hg hat; have hO := Kd.own_of_R hown; obtain ⟨A1, c1, rfl⟩ := own_slice hO; have hcp := own_cap hO; have hsA := cut0 A1 x.toNat c1 (by simpa using hcp); have HO := Aside0.mk hO; have HB := Aside0.mk hb; clear hown hb hg hat hO hcp))
    go_ret
    exact ⟨_, rfl, by have h := own_take HO.out (m := 0) (Nat.zero_le _); simpa using h, HB.out⟩
set_option maxHeartbeats 4000000 in
set_option maxRecDepth 100000 in
theorem slices_Concat_byte_byte.calls (A0 : Option Addr) (c0 : Nat) (l0 : List (List Int)) (r : List Int) (w : World) (hr0 : Kd.C (Kd.slice 5 (Kd.int .u8)) w A0 l0.length l0) (hc0 : l0.length ≤ c0) (h : slices_Concat_byte_byte.f l0 = some r) :
    Calls Try.prog 60 #[.slice A0 l0.length c0] w fun e w' => ∃ v0_ : Value, e = .returned (v0_) ∧ Kd.R (Kd.int .u8) 5 w' w.heap.size (fun _ => True) v0_ r ∧ Below w.heap.size w w' := by
  unfold slices_Concat_byte_byte.f at h
  by_cases hl : l0.flatten.length < 140737488355328
  · rw [if_pos hl] at h
    obtain rfl := Option.some.inj h
    have HL := Aside0.mk hl
    have HR := Aside0.mk hr0
    have HLen : ∀ i, (l0.take i).flatten.length < 140737488355328 := fun i => Nat.lt_of_le_of_lt (by
      have h := congrArg (fun l => (List.flatten l).length) (List.take_append_drop i l0)
      simp only [List.flatten_append, List.length_append] at h
      omega) hl
    have HT : ∀ i : Nat, i < l0.length → (l0.take (i + 1)).flatten = (l0.take i).flatten ++ rd_L1 l0 (i : Int) := fun i hi => by
      rw [List.take_add_one, List.flatten_append, List.getElem?_eq_getElem hi]
      congr 1
      unfold rd_L1
      rw [Int.toNat_natCast, List.getD_eq_getElem?_getD, List.getElem?_eq_getElem hi]
      simp
    have HLen' := Aside0.mk HLen
    have HT' := Aside0.mk HT
    obtain ⟨n, hn⟩ : ∃ n, n = l0.length := ⟨_, rfl⟩
    have HN := Aside0.mk hn
    rw [← hn]
    have hnm : n ≤ 9223372036854775807 := by rw [hn]; exact hr0.2.1
    have HNM := Aside0.mk hnm
    clear h hl hr0 hc0 HLen HT hn hnm
    go_enter Try.func60, Try.ntmps60
    go_wp2_with fail
    go_loopg [3, 11] n (fun kq v3 v11 w' => ∃ i : Nat, Aside0 (kq + i = n) ∧ v3 = .int .i64 ((l0.take i).flatten.length : Int) ∧ v11 = .int .i64 (i : Int) ∧ Aside0 (w = w'))
    case atStart => exact ⟨0, ⟨by omega⟩, by simp, rfl, ⟨rfl⟩⟩
    case round =>
      obtain ⟨i, hi, rfl, rfl, ⟨rfl⟩⟩ := hrel
      by_cases c3 : i < n
      · obtain ⟨x, hx⟩ : ∃ x : Int, x = (i : Int) := ⟨_, rfl⟩
        have p1 : 0 ≤ x := by omega
        have q1 : x < (n : Int) := by omega
        obtain ⟨ad, A1, c1, rfl, hcell, hle, hC⟩ := at_L1 HR.out x p1 (by rw [← HN.out]; exact q1)
        obtain ⟨y, hy⟩ : ∃ y, y = (l0.take i).flatten.length := ⟨_, rfl⟩
        obtain ⟨m, hm⟩ : ∃ m, m = (rd_L1 l0 x).length := ⟨_, rfl⟩
        rw [← hm] at hcell
        have hs1 : y < 140737488355328 := by rw [hy]; exact HLen'.out i
        have hs2 : y + m = (l0.take (i + 1)).flatten.length := by rw [HT'.out i (by rw [← HN.out]; exact c3), List.length_append, ← hy, hm, hx]
        have hs3 : y + m < 140737488355328 := by rw [hs2]; exact HLen'.out _
        have S2 := Aside0.mk hs2
        have X1 := Aside0.mk hx
        have C3 := Aside0.mk c3
        rw [← hx, ← hy]
        have q2 : decide (x < (n : Int)) = true := decide_eq_true q1
        obtain ⟨u, hu⟩ : ∃ u : Int, u = (y : Int) + (m : Int) := ⟨_, rfl⟩
        have U := Aside0.mk hu
        have u1 : (y : Int) + (m : Int) = u := hu.symm
        have u2 : 0 ≤ u := by omega
        have u3 : u < 140737488355328 := by omega
        have u4 : decide (u < 0) = false := by simp; omega
        replace p1 := eq_true p1
        replace q1 := eq_true q1
        clear hx hy hm hs2 hs3 hs1 hle hC c3 hu
        go_wp2_with fail
        go_roundg (n - (i + 1))
        case measure => have := hi.out; have := C3.out; omega
        case rel => exact ⟨i + 1, ⟨by have := C3.out; omega⟩, by rw [← S2.out, U.out]; simp, by rw [X1.out]; congr 1; have := HNM.out; have := C3.out; unfold wrap64; omega, ⟨rfl⟩⟩
      · have q2 : decide ((i : Int) < (n : Int)) = false := by simp; omega
        have hin : i = l0.length := by have := hi.out; have := HN.out; omega
        have hy0 : (l0.take i).flatten = l0.flatten := by rw [hin, List.take_length]
        rw [hy0]
        obtain ⟨y, hy⟩ : ∃ y, y = l0.flatten.length := ⟨_, rfl⟩
        have hyl : y < 140737488355328 := by rw [hy]; exact HL.out
        have HG := Aside0.mk (Grow_calls y hyl w)
        obtain ⟨x, hx⟩ : ∃ x : Int, x = (i : Int) := ⟨_, rfl⟩
        rw [← hx] at q2 ⊢
        rw [← hy]
        clear hy0 hin c3 hi hx hyl hy
        go_wp2_with (first | (go_at_call 62; refine HG.out.mono ?_; rintro e w2 ⟨v2, rfl, o2, b2⟩; have O2 : Aside0 (Kd.R (Kd.int .u8) 5 w2 w.heap.size (fun _ => True) v2 []) := ⟨Kd.R_of_own o2 (fun _ _ => trivial)⟩; have B2 := Aside0.mk b2; clear o2 b2))
        go_loopg [6, 27] n (fun kq v6 v27 w' => ∃ i : Nat, Aside0 (kq + i = n) ∧ v27 = .int .i64 (i : Int) ∧ Aside0 (Kd.R (Kd.int .u8) 5 w' w.heap.size (fun _ => True) v6 (l0.take i).flatten) ∧ Aside0 (Below w.heap.size w w'))
        case atStart => exact ⟨0, ⟨by omega⟩, rfl, ⟨by simpa using O2.out⟩, B2⟩
        case round =>
          clear O2 B2 HG q2
          obtain ⟨j, hj, rfl, HO, HB⟩ := hrel
          by_cases c3 : j < n
          · obtain ⟨z, hz⟩ : ∃ z : Int, z = (j : Int) := ⟨_, rfl⟩
            have p1 : 0 ≤ z := by omega
            have q1 : z < (n : Int) := by omega
            obtain ⟨ad, A1, c1, rfl, hcell, hle, hC⟩ := at_L1 (Kd.C_below HR.out HB.out) z p1 (by rw [← HN.out]; exact q1)
            obtain ⟨m, hm⟩ : ∃ m, m = (rd_L1 l0 z).length := ⟨_, rfl⟩
            rw [← hm] at hcell hC
            obtain ⟨ys, hys⟩ : ∃ ys, ys = (l0.take j).flatten := ⟨_, rfl⟩
            have hs2 : ys ++ rd_L1 l0 z = (l0.take (j + 1)).flatten := by rw [HT'.out j (by rw [← HN.out]; exact c3), ← hys, hz]
            have hs3 : (ys.length + m) * 1 ≤ 140737488355328 := by
              have h1 := HLen'.out (j + 1)
              rw [← hs2, List.length_append, ← hm] at h1
              omega
            have S2 := Aside0.mk hs2
            have X1 := Aside0.mk hz
            have C3 := Aside0.mk c3
            have HC := Aside0.mk hC
            rw [← hys] at HO
            rw [← hz]
            have q2 : decide (z < (n : Int)) = true := decide_eq_true q1
            have S3 := Aside0.mk hs3
            replace p1 := eq_true p1
            replace q1 := eq_true q1
            clear hz hm hs2 hs3 hle hC c3 hys
            go_wp2_with (first | (at_builtin; refine Kd.R_append_row (w0 := w) (Value.int .u8) 0 w.heap.size rfl (.tmp 31) (.tmp 32) 22 5 (.int .u8 0) 1 rfl Try.underlying22 info5 rfl (by decide) _ ys (rd_L1 l0 z) _ _ _ (fun _ => True) rfl rfl (fun _ _ => trivial) HO.out HC.out HB.out HB.out.size S3.out ?_; intro v1 w1 hown hb hg hat; have HO1 := Aside0.mk hown; have HB1 := Aside0.mk hb; clear hown hb hg hat))
            go_roundg (n - (j + 1))
            case measure => have := hj.out; have := C3.out; omega
            case rel => exact ⟨j + 1, ⟨by have := C3.out; omega⟩, by rw [X1.out]; congr 1; have := HNM.out; have := C3.out; unfold wrap64; omega, ⟨by rw [← S2.out]; exact HO1.out⟩, HB1⟩
          · have q3 : decide ((j : Int) < (n : Int)) = false := by simp; omega
            have hjn : j = l0.length := by have := hj.out; have := HN.out; omega
            have HO2 : Aside0 (Kd.R (Kd.int .u8) 5 wr w.heap.size (fun _ => True) u6 l0.flatten) := ⟨by have h := HO.out; rwa [hjn, List.take_length] at h⟩
            clear HO c3 hj
            obtain ⟨z, hz⟩ : ∃ z : Int, z = (j : Int) := ⟨_, rfl⟩
            rw [← hz] at q3 ⊢
            clear hz hjn
            go_wp2_with fail
            go_ret
            exact ⟨_, rfl, HO2.out, HB.out⟩
  · rw [if_neg hl] at h
    cases h

/-! ### cursor_Join: function 49 -/
def cursor_Join.f (l0 : List (List Int)) : Option (List Int) := (slices_Concat_byte_byte.f l0).bind fun t154 => (some t154)
set_option maxHeartbeats 8000000 in
set_option maxRecDepth 100000 in
theorem cursor_Join.calls (A0 : Option Addr) (c0 : Nat) (l0 : List (List Int)) (r : List Int) (w : World) (hr0 : Kd.C (Kd.slice 5 (Kd.int .u8)) w A0 l0.length l0) (hc0 : l0.length ≤ c0) (h : cursor_Join.f l0 = some r) :
    Calls Try.prog 49 #[.slice A0 l0.length c0] w fun e w' => ∃ v0_ : Value, e = .returned (v0_) ∧ Kd.R (Kd.int .u8) 5 w' w.heap.size (fun _ => True) v0_ r ∧ Below w.heap.size w w' := by
  have HR0 := Aside0.mk hr0
  have HC0 := Aside0.mk hc0
  clear hr0 hc0
  have HB := Aside0.mk (Below.refl w.heap.size w)
  have H : ((slices_Concat_byte_byte.f l0).bind fun t154 => (some t154)) = some r := h
  clear h
  replace H := Option.bind_eq_some_iff.mp H
  obtain ⟨t154, A20, H⟩ := H
  replace H : (some t154) = some r := H
  have A2 := Aside0.mk A20
  clear A20
  obtain rfl := Option.some.inj H
  go_enter Try.func49, Try.ntmps49
  go_wp2_with (first | ((with_reducible refine gate_callee (f := 60) rfl ?_); refine goesL_ (some 4) rfl rfl Try.func60 (by kernel_rfl) rfl #[.slice A0 l0.length c0] rfl (by (try simp only [List.map_toArray, List.map_cons, List.map_nil]); first | done | rfl | (simp only [List.length_drop, List.length_take]; rfl)) ?_; (with_reducible refine (slices_Concat_byte_byte.calls _ _ l0 t154 _ ?side1 ?side2 A2.out).mono ?_); (case side1 => repeat (first | exact HR0.out | (with_reducible refine Kd.C_alloc ?_ _) | (with_reducible refine Kd.C_drewN ?_ _) | (with_reducible refine Kd.C_drew ?_))); (case side2 => exact HC0.out); rintro e w3 ⟨v155, rfl, ho0, hb⟩; refine ⟨_, rfl, ?_⟩; have n0_ := Aside0.mk (Kd.R_lower ho0 (below_size (by repeat (first | (with_reducible first | exact HB.out | apply below_alloc | apply pw_below_drewN | apply below_drew1) | exact HB.out)))); have n1_ := Aside0.mk (below_step (by repeat (first | (with_reducible first | exact HB.out | apply below_alloc | apply pw_below_drewN | apply below_drew1) | exact HB.out)) hb); clear HB; have HO156 := n0_; have HB := n1_; clear n0_ n1_; (try clear hb); (try clear hb2); (try clear hk); (try clear hi); (try clear ho0)))
  go_ret
  exact ⟨_, by first | rfl | (simp [errW_none, errW_some] <;> rfl) | (simp [*, errW_none, errW_some] <;> rfl), by (with_reducible repeat (first | apply Kd.R_alloc | apply Kd.R_drewN | apply Kd.R_drew)); exact HO156.out, by repeat (first | (with_reducible first | exact HB.out | apply below_alloc | apply pw_below_drewN | apply below_drew1) | exact HB.out)⟩

end Go.Proofs.Ytjfoppmpiklfiaa.PCursorCuts
