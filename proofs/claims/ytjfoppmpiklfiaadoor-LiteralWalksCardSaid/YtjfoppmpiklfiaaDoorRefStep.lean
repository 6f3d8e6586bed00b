/- Contracts of riffleref05.Words and riffleref05.Step. Conditions: none. -/
import Derived.Test.YtjfoppmpiklfiaaDoorPLiteralWalksx0
namespace Go.Proofs.YtjfoppmpiklfiaaDoor.PLiteralWalks
open Go.RowKit Go.Proofs.YtjfoppmpiklfiaaDoorW.PrintWords Go.Proofs.YtjfoppmpiklfiaaDoorW.PrintLast Go.Proofs.YtjfoppmpiklfiaaDoorW.PrintMore
attribute [local go_sem] max2_int min2_int max_two min_two max_three min_three max_four min_four   -- for this text's walks alone
set_option linter.unusedVariables false
set_option linter.unusedSimpArgs false

-- NOT PRINTED: function 7 (literal_Walk_Step)

-- NOT PRINTED: function 5 (rifflelaw05_literalAlive)

/-! ### riffleref05_Words: function 11 -/
def riffleref05_Words.f  : Option (List ByteArray) := some (([(⟨#[116, 114, 117, 101]⟩ : ByteArray), (⟨#[102, 97, 108, 115, 101]⟩ : ByteArray), (⟨#[110, 117, 108, 108]⟩ : ByteArray)] : List ByteArray))
set_option maxHeartbeats 8000000 in
set_option maxRecDepth 100000 in
theorem riffleref05_Words.calls  (r : List ByteArray) (w : World) (h : riffleref05_Words.f  = some r) :
    Calls Tryd.prog 11 #[] w fun e w' => ∃ v0_ : Value, e = .returned (v0_) ∧ Kd.R Kd.string 9 w' w.heap.size (fun _ => True) v0_ r ∧ Below w.heap.size w w' := by
  have HB := Aside0.mk (Below.refl w.heap.size w)
  have H : (some (([(⟨#[116, 114, 117, 101]⟩ : ByteArray), (⟨#[102, 97, 108, 115, 101]⟩ : ByteArray), (⟨#[110, 117, 108, 108]⟩ : ByteArray)] : List ByteArray))) = some r := h
  clear h
  obtain ⟨y102, hy102⟩ : ∃ y_ : List ByteArray, y_ = (([(⟨#[116, 114, 117, 101]⟩ : ByteArray), (⟨#[102, 97, 108, 115, 101]⟩ : ByteArray), (⟨#[110, 117, 108, 108]⟩ : ByteArray)] : List ByteArray)) := ⟨_, rfl⟩
  replace H : (some y102) = some r := by first | (rw [hy102]; with_reducible exact H) | (have H2_ := (Option.bind_some _ _).symm.trans H; rw [hy102]; with_reducible exact H2_) | (have H2_ := (Option.bind_some _ _).symm.trans H; with_reducible exact H2_) | with_reducible exact H | (rw [hy102]; exact H) | exact H
  have Ny102 := Aside0.mk hy102
  clear hy102
  obtain rfl := Option.some.inj H
  go_enter Tryd.func11, Tryd.ntmps11
  go_wp2_with (first | ((with_reducible refine gate_dst (N := 1) rfl ?_); refine Kd.R_lit Kd.string _ 9 ?hg (N := 1) ?hd (xs := ([(⟨#[116, 114, 117, 101]⟩ : ByteArray), (⟨#[102, 97, 108, 115, 101]⟩ : ByteArray), (⟨#[110, 117, 108, 108]⟩ : ByteArray)] : List ByteArray)) (inner := [.string (⟨#[116, 114, 117, 101]⟩ : ByteArray), .string (⟨#[102, 97, 108, 115, 101]⟩ : ByteArray), .string (⟨#[110, 117, 108, 108]⟩ : ByteArray)]) (ok := fun _ => True) (okp := fun _ => True) ?hr ?hp (fun _ hk => hk) trivial (Below.refl _ _) (Nat.le_refl _) (by simp) ?_; (case hd => rfl); (case hg => rfl); (case hr => first | (go_simp; done) | (go_simp; rfl)); (case hp => exact (Reps.one (show Kd.M Kd.string _ _ _ (⟨#[116, 114, 117, 101]⟩ : ByteArray) [.string (⟨#[116, 114, 117, 101]⟩ : ByteArray)] from rfl) (Reps.one (show Kd.M Kd.string _ _ _ (⟨#[102, 97, 108, 115, 101]⟩ : ByteArray) [.string (⟨#[102, 97, 108, 115, 101]⟩ : ByteArray)] from rfl) (Reps.one (show Kd.M Kd.string _ _ _ (⟨#[110, 117, 108, 108]⟩ : ByteArray) [.string (⟨#[110, 117, 108, 108]⟩ : ByteArray)] from rfl) (Reps.none _ _))))); intro v103 w1 ho2 hb hg_ hnew_; clear hg_ hnew_; (first | rw [← Ny102.out] at ho2 | (simp only [Int.reduceToNat] at ho2; rw [← Ny102.out] at ho2)); have n0_ := Aside0.mk (Kd.R_lower ho2 (below_size (by repeat (first | (with_reducible first | exact HB.out | apply below_alloc | apply pw_below_drewN | apply below_drew1) | exact HB.out)))); have n1_ := Aside0.mk (below_step (by repeat (first | (with_reducible first | exact HB.out | apply below_alloc | apply pw_below_drewN | apply below_drew1) | exact HB.out)) hb); clear HB; have HO104 := n0_; have HB := n1_; clear n0_ n1_; clear hb ho2))
  go_ret
  exact ⟨_, by first | rfl | (simp [errW_none, errW_some] <;> rfl) | (simp [*, errW_none, errW_some] <;> rfl), by (with_reducible repeat (first | apply Kd.R_alloc | apply Kd.R_drewN | apply Kd.R_drew)); exact HO104.out, by repeat (first | (with_reducible first | exact HB.out | apply below_alloc | apply pw_below_drewN | apply below_drew1) | exact HB.out)⟩

/-! ### riffleref05_Step: function 6 -/
def riffleref05_Step.l0 : Nat → ByteArray → List ByteArray → Int → Int → Option (Int)
  | 0, _, _, _, _ => none
  | k + 1, x5, x13, x14, x15 => if x15 < x14 then (if 0 ≤ x15 then (if x15 < (x13.length : Int) then (if (rdOf ByteArray.empty x13 x15).toList = x5.toList then (some 1) else (if ((rdOf ByteArray.empty x13 x15).size : Int) > (x5.size : Int) then (if 0 ≤ (x5.size : Int) then (if (x5.size : Int) ≤ ((rdOf ByteArray.empty x13 x15).size : Int) then (if ((rdOf ByteArray.empty x13 x15).extract 0 ((x5.size : Int) : Int).toNat).toList = x5.toList then (some 0) else (riffleref05_Step.l0 k x5 x13 x14 (wrap64 (x15 + 1)))) else (none)) else (none)) else (riffleref05_Step.l0 k x5 x13 x14 (wrap64 (x15 + 1))))) else (none)) else (none)) else (some 2)
def riffleref05_Step.f (k : Nat) (a0 : ByteArray) (a1 : Int) : Option (Int) := (some (([a1] : List Int) : List Int)).bind fun y105 => (if a0.size + (strOfNums y105).size ≤ 9223372036854775807 then ((riffleref05_Words.f).bind fun t108 => (riffleref05_Step.l0 k (a0 ++ (strOfNums y105)) t108 (t108.length : Int) 0)) else (none))
theorem riffleref05_Step.mono_l : ∀ k, (∀ y0 y1 y2 y3, LeO (riffleref05_Step.l0 k y0 y1 y2 y3) (riffleref05_Step.l0 (k + 1) y0 y1 y2 y3))
  | 0 => fun _ _ _ _ r h => by simp [riffleref05_Step.l0] at h
  | k + 1 => by
    have ih0 := riffleref05_Step.mono_l k
    · intro y0 y1 y2 y3
      unfold riffleref05_Step.l0
      repeat' first
      | (with_reducible exact ih0 _ _ _ _)
      | (with_reducible exact LeO.refl _)
      | (with_reducible exact LeO.none _)
      | (with_reducible refine LeO.ite ?_ ?_)
      | (with_reducible refine LeO.bind ?_ (fun _ => ?_))
      | exact ih0 _ _ _ _
      | exact LeO.none _
      | refine LeO.ite ?_ ?_
      | refine LeO.bind ?_ (fun _ => ?_)
theorem riffleref05_Step.mono : ∀ a0 a1 k, LeO (riffleref05_Step.f k a0 a1) (riffleref05_Step.f (k + 1) a0 a1) := by
  intro a0 a1 k
  have ih0 := riffleref05_Step.mono_l k
  unfold riffleref05_Step.f
  repeat' first
      | (with_reducible exact ih0 _ _ _ _)
      | (with_reducible exact LeO.refl _)
      | (with_reducible exact LeO.none _)
      | (with_reducible refine LeO.ite ?_ ?_)
      | (with_reducible refine LeO.bind ?_ (fun _ => ?_))
      | exact ih0 _ _ _ _
      | exact LeO.none _
      | refine LeO.ite ?_ ?_
      | refine LeO.bind ?_ (fun _ => ?_)
set_option maxHeartbeats 8000000 in
set_option maxRecDepth 100000 in
theorem riffleref05_Step.calls (k : Nat) (a0 : ByteArray) (a1 : Int) (r : Int) (w : World) (h : riffleref05_Step.f k a0 a1 = some r) :
    Calls Tryd.prog 6 #[.string a0, .int .u8 a1] w fun e w' => e = .returned (.int .i64 r) ∧ Below w.heap.size w w' := by
  have HB := Aside0.mk (Below.refl w.heap.size w)
  have H : ((some (([a1] : List Int) : List Int)).bind fun y105 => (if a0.size + (strOfNums y105).size ≤ 9223372036854775807 then ((riffleref05_Words.f).bind fun t108 => (riffleref05_Step.l0 k (a0 ++ (strOfNums y105)) t108 (t108.length : Int) 0)) else (none))) = some r := h
  clear h
  obtain ⟨y105, hy105⟩ : ∃ y_ : List Int, y_ = (([a1] : List Int)) := ⟨_, rfl⟩
  replace H : (if a0.size + (strOfNums y105).size ≤ 9223372036854775807 then ((riffleref05_Words.f).bind fun t108 => (riffleref05_Step.l0 k (a0 ++ (strOfNums y105)) t108 (t108.length : Int) 0)) else (none)) = some r := by first | (rw [hy105]; with_reducible exact H) | (have H2_ := (Option.bind_some _ _).symm.trans H; rw [hy105]; with_reducible exact H2_) | (have H2_ := (Option.bind_some _ _).symm.trans H; with_reducible exact H2_) | with_reducible exact H | (rw [hy105]; exact H) | exact H
  have Ny105 := Aside0.mk hy105
  clear hy105
  by_cases c3 : a0.size + (strOfNums y105).size ≤ 9223372036854775807
  · rw [if_pos c3] at H
    have c3b0 := eq_true c3
    have c3b1 : decide (a0.size + (strOfNums y105).size ≤ 9223372036854775807) = true := decide_eq_true c3
    try have c3b2 : (9223372036854775807 < a0.size + (strOfNums y105).size) = False := eq_false (Nat.not_lt.2 c3)
    replace H := Option.bind_eq_some_iff.mp H
    obtain ⟨t108, A40, H⟩ := H
    replace H : (riffleref05_Step.l0 k (a0 ++ (strOfNums y105)) t108 (t108.length : Int) 0) = some r := H
    have A4 := Aside0.mk A40
    clear A40
    have H' := Aside0.mk H
    clear H
    go_enter Tryd.func6, Tryd.ntmps6
    go_wp2_with (first | ((with_reducible refine gate_dst (N := 10) rfl ?_); (try (refine gate_guard (by rfl) ?_; dsimp only)); refine Kd.R_lit (Kd.int .u8) _ 5 ?hg (N := 10) ?hd (xs := ([a1] : List Int)) (inner := [.int .u8 a1]) (ok := fun _ => True) (okp := fun _ => True) ?hr ?hp (fun _ hk => hk) trivial (Below.refl _ _) (Nat.le_refl _) (by simp) ?_; (case hd => rfl); (case hg => rfl); (case hr => first | (go_simp; done) | (go_simp; rfl)); (case hp => exact (Reps.one (show Kd.M (Kd.int .u8) _ _ _ a1 [.int .u8 a1] from rfl) (Reps.none _ _))); intro v106 w5 ho6 hb hg_ hnew_; clear hg_ hnew_; (first | rw [← Ny105.out] at ho6 | (simp only [Int.reduceToNat] at ho6; rw [← Ny105.out] at ho6)); have n0_ := Aside0.mk (Kd.R_lower ho6 (below_size (by repeat (first | (with_reducible first | exact HB.out | apply below_alloc | apply pw_below_drewN | apply below_drew1) | exact HB.out)))); have n1_ := Aside0.mk (below_step (by repeat (first | (with_reducible first | exact HB.out | apply below_alloc | apply pw_below_drewN | apply below_drew1) | exact HB.out)) hb); clear HB; have HO107 := n0_; have HB := n1_; clear n0_ n1_; clear hb ho6; have hcv7 := own_string (P := Tryd.prog) Tryd.underlying31 Tryd.underlying5 Tryd.underlying9 (Kd.own_of_R HO107.out)) | ((with_reducible refine gate_callee (f := 11) rfl ?_); refine goesL_ (some 13) rfl rfl Tryd.func11 (by kernel_rfl) rfl #[] rfl (by (try simp only [List.map_toArray, List.map_cons, List.map_nil]); first | done | rfl | (simp only [List.length_drop, List.length_take]; rfl)) ?_; (with_reducible refine (riffleref05_Words.calls  t108 _ A4.out).mono ?_); rintro e w8 ⟨v109, rfl, ho0, hb⟩; refine ⟨_, rfl, ?_⟩; have n0_ := Aside0.mk (Kd.R_below (by (with_reducible repeat (first | apply Kd.R_alloc | apply Kd.R_drewN | apply Kd.R_drew)); exact HO107.out) hb); have n1_ := Aside0.mk (Kd.R_lower ho0 (below_size (by repeat (first | (with_reducible first | exact HB.out | apply below_alloc | apply pw_below_drewN | apply below_drew1) | exact HB.out)))); have n2_ := Aside0.mk (below_step (by repeat (first | (with_reducible first | exact HB.out | apply below_alloc | apply pw_below_drewN | apply below_drew1) | exact HB.out)) hb); clear HO107; clear HB; have HO107 := n0_; have HO110 := n1_; have HB := n2_; clear n0_ n1_ n2_; (try clear hb); (try clear hb2); (try clear hk); (try clear hi); (try clear ho0); obtain ⟨Ao9, co9, eo9⟩ := Kd.R_slice HO110.out; subst eo9))
    go_loopg [15] k (fun kq v15 w' => ∃ (x15_1 : Int), v15 = .int .i64 x15_1 ∧ Aside0 (riffleref05_Step.l0 kq (a0 ++ (strOfNums y105)) t108 (t108.length : Int) x15_1 = some r) ∧ Aside0 (kq ≤ k) ∧ Aside0 (Kd.R Kd.string 9 w' w.heap.size (fun _ => True) (.slice Ao9 t108.length co9) t108) ∧ Aside0 (Below w.heap.size w w'))
    case atStart => exact ⟨(0), (by first | rfl | (simp; done) | (simp [*]; done)), H', ⟨Nat.le_refl _⟩, ⟨by (with_reducible repeat (first | apply Kd.R_alloc | apply Kd.R_drewN | apply Kd.R_drew)); exact HO110.out⟩, ⟨by repeat (first | (with_reducible first | exact HB.out | apply below_alloc | apply pw_below_drewN | apply below_drew1) | exact HB.out)⟩⟩
    case round =>
      clear H'
      try clear c1
      try clear p2
      try clear c3
      try clear c3b0
      try clear c3b1
      try clear c3b2
      try clear c6
      try clear hcv7
      obtain ⟨x15_1, rfl, HA, HK1, HO_13, HB⟩ := hrel
      generalize a0 ++ strOfNums y105 = tt at *
      cases gk with
      | zero => exact absurd HA.out (by simp [riffleref05_Step.l0])
      | succ k1 =>
        have H := HA.out
        clear HA
        simp only [riffleref05_Step.l0] at H
        by_cases c10 : x15_1 < (t108.length : Int)
        · rw [if_pos c10] at H
          have c10b0 : decide (x15_1 < (t108.length : Int)) = true := decide_eq_true c10
          clear c10
          by_cases c11 : 0 ≤ x15_1
          · rw [if_pos c11] at H
            have c11b0 : decide (0 ≤ x15_1) = true := decide_eq_true c11
            clear c11
            by_cases c12 : x15_1 < (t108.length : Int)
            · rw [if_pos c12] at H
              have c12b0 : decide (x15_1 < (t108.length : Int)) = true := decide_eq_true c12
              clear c12
              by_cases c13 : (rdOf ByteArray.empty t108 x15_1).toList = tt.toList
              · rw [if_pos c13] at H
                have c13b0 : ((rdOf ByteArray.empty t108 x15_1).toList == tt.toList) = true := beq_iff_eq.mpr c13
                have c13b1 : ((rdOf ByteArray.empty t108 x15_1).toList != tt.toList) = false := bne_eq_false_iff_eq.mpr c13
                clear c13
                obtain rfl := Option.some.inj H
                have p111 : 0 ≤ (x15_1 : Int) := of_decide_eq_true (by first | (with_reducible assumption) | assumption)
                have q111 : x15_1 < (t108.length : Int) := of_decide_eq_true (by first | (with_reducible assumption) | assumption)
                obtain ⟨ad111, e111, hx111_0⟩ := Kd.at_string (Kd.R_reads' HO_13.out).2.2 x15_1 p111 q111
                cases e111
                replace p111 := eq_true p111
                replace q111 := eq_true q111
                go_wp2
                go_ret
                exact ⟨by first | rfl | (simp [errW_none, errW_some] <;> rfl) | (simp [*, errW_none, errW_some] <;> rfl), by repeat (first | (with_reducible first | exact HB.out | apply below_alloc | apply pw_below_drewN | apply below_drew1) | exact HB.out)⟩
              · rw [if_neg c13] at H
                have c13b0 : ((rdOf ByteArray.empty t108 x15_1).toList == tt.toList) = false := beq_eq_false_iff_ne.mpr c13
                have c13b1 : ((rdOf ByteArray.empty t108 x15_1).toList != tt.toList) = true := bne_iff_ne.mpr c13
                by_cases c14 : ((rdOf ByteArray.empty t108 x15_1).size : Int) > (tt.size : Int)
                · rw [if_pos c14] at H
                  have c14b0 : decide ((tt.size : Int) < ((rdOf ByteArray.empty t108 x15_1).size : Int)) = true := decide_eq_true c14
                  have c14b1 : decide (tt.size < (rdOf ByteArray.empty t108 x15_1).size) = true := decide_eq_true (Int.ofNat_lt.mp c14)
                  clear c14
                  by_cases c15 : 0 ≤ (tt.size : Int)
                  · rw [if_pos c15] at H
                    have c15b0 := eq_true c15
                    have c15b1 : decide (0 ≤ (tt.size : Int)) = true := decide_eq_true c15
                    by_cases c16 : (tt.size : Int) ≤ ((rdOf ByteArray.empty t108 x15_1).size : Int)
                    · rw [if_pos c16] at H
                      have c16b0 := eq_true c16
                      have c16b1 : decide ((tt.size : Int) ≤ ((rdOf ByteArray.empty t108 x15_1).size : Int)) = true := decide_eq_true c16
                      by_cases c17 : ((rdOf ByteArray.empty t108 x15_1).extract 0 ((tt.size : Int) : Int).toNat).toList = tt.toList
                      · rw [if_pos c17] at H
                        have c17b0 : (((rdOf ByteArray.empty t108 x15_1).extract 0 ((tt.size : Int) : Int).toNat).toList == tt.toList) = true := beq_iff_eq.mpr c17
                        have c17b1 : (((rdOf ByteArray.empty t108 x15_1).extract 0 ((tt.size : Int) : Int).toNat).toList != tt.toList) = false := bne_eq_false_iff_eq.mpr c17
                        replace c17b0 := c17b0; rw [Int.toNat_natCast] at c17b0
                        rw [Int.toNat_natCast] at c17b1
                        clear c17
                        obtain rfl := Option.some.inj H
                        have p111 : 0 ≤ (x15_1 : Int) := of_decide_eq_true (by first | (with_reducible assumption) | assumption)
                        have q111 : x15_1 < (t108.length : Int) := of_decide_eq_true (by first | (with_reducible assumption) | assumption)
                        obtain ⟨ad111, e111, hx111_0⟩ := Kd.at_string (Kd.R_reads' HO_13.out).2.2 x15_1 p111 q111
                        cases e111
                        replace p111 := eq_true p111
                        replace q111 := eq_true q111
                        go_wp2
                        go_ret
                        exact ⟨by first | rfl | (simp [errW_none, errW_some] <;> rfl) | (simp [*, errW_none, errW_some] <;> rfl), by repeat (first | (with_reducible first | exact HB.out | apply below_alloc | apply pw_below_drewN | apply below_drew1) | exact HB.out)⟩
                      · rw [if_neg c17] at H
                        have c17b0 : (((rdOf ByteArray.empty t108 x15_1).extract 0 ((tt.size : Int) : Int).toNat).toList == tt.toList) = false := beq_eq_false_iff_ne.mpr c17
                        have c17b1 : (((rdOf ByteArray.empty t108 x15_1).extract 0 ((tt.size : Int) : Int).toNat).toList != tt.toList) = true := bne_iff_ne.mpr c17
                        replace c17b0 := c17b0; rw [Int.toNat_natCast] at c17b0
                        rw [Int.toNat_natCast] at c17b1
                        have H' := Aside0.mk H
                        clear H
                        have p111 : 0 ≤ (x15_1 : Int) := of_decide_eq_true (by first | (with_reducible assumption) | assumption)
                        have q111 : x15_1 < (t108.length : Int) := of_decide_eq_true (by first | (with_reducible assumption) | assumption)
                        obtain ⟨ad111, e111, hx111_0⟩ := Kd.at_string (Kd.R_reads' HO_13.out).2.2 x15_1 p111 q111
                        cases e111
                        replace p111 := eq_true p111
                        replace q111 := eq_true q111
                        go_wp2
                        go_roundg k1
                        case measure => have := HK1.out; omega
                        case rel => exact ⟨(wrap64 (x15_1 + 1)), (by first | rfl | (simp; done) | (simp [*]; done)), H', ⟨by have := HK1.out; omega⟩, ⟨by (with_reducible repeat (first | apply Kd.R_alloc | apply Kd.R_drewN | apply Kd.R_drew)); exact HO_13.out⟩, ⟨by repeat (first | (with_reducible first | exact HB.out | apply below_alloc | apply pw_below_drewN | apply below_drew1) | exact HB.out)⟩⟩
                    · rw [if_neg c16] at H
                      exact absurd H (by simp)
                  · rw [if_neg c15] at H
                    exact absurd H (by simp)
                · rw [if_neg c14] at H
                  have c14b0 : decide ((tt.size : Int) < ((rdOf ByteArray.empty t108 x15_1).size : Int)) = false := decide_eq_false c14
                  have c14b1 : decide (tt.size < (rdOf ByteArray.empty t108 x15_1).size) = false := decide_eq_false (fun h => c14 (Int.ofNat_lt.mpr h))
                  clear c14
                  have H' := Aside0.mk H
                  clear H
                  have p111 : 0 ≤ (x15_1 : Int) := of_decide_eq_true (by first | (with_reducible assumption) | assumption)
                  have q111 : x15_1 < (t108.length : Int) := of_decide_eq_true (by first | (with_reducible assumption) | assumption)
                  obtain ⟨ad111, e111, hx111_0⟩ := Kd.at_string (Kd.R_reads' HO_13.out).2.2 x15_1 p111 q111
                  cases e111
                  replace p111 := eq_true p111
                  replace q111 := eq_true q111
                  go_wp2
                  go_roundg k1
                  case measure => have := HK1.out; omega
                  case rel => exact ⟨(wrap64 (x15_1 + 1)), (by first | rfl | (simp; done) | (simp [*]; done)), H', ⟨by have := HK1.out; omega⟩, ⟨by (with_reducible repeat (first | apply Kd.R_alloc | apply Kd.R_drewN | apply Kd.R_drew)); exact HO_13.out⟩, ⟨by repeat (first | (with_reducible first | exact HB.out | apply below_alloc | apply pw_below_drewN | apply below_drew1) | exact HB.out)⟩⟩
            · rw [if_neg c12] at H
              exact absurd H (by simp)
          · rw [if_neg c11] at H
            exact absurd H (by simp)
        · rw [if_neg c10] at H
          have c10b0 : decide (x15_1 < (t108.length : Int)) = false := decide_eq_false c10
          clear c10
          obtain rfl := Option.some.inj H
          go_wp2
          go_ret
          exact ⟨by first | rfl | (simp [errW_none, errW_some] <;> rfl) | (simp [*, errW_none, errW_some] <;> rfl), by repeat (first | (with_reducible first | exact HB.out | apply below_alloc | apply pw_below_drewN | apply below_drew1) | exact HB.out)⟩
  · rw [if_neg c3] at H
    exact absurd H (by simp)

-- NOT PRINTED: function 8 (literal_Walk_Word)

-- NOT PRINTED: function 3 (rifflelaw05_LiteralWalks)

end Go.Proofs.YtjfoppmpiklfiaaDoor.PLiteralWalks
