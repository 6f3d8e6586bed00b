/- Contract of riffleref02.Bad. Conditions: none. -/
import Derived.Test.YtlhpflicchchlaaPQuotePutsx4
namespace Go.Proofs.Ytlhpflicchchlaa.BadP
open Go.RowKit Go.Proofs.YtlhpflicchchlaaW.PrintWords Go.Proofs.YtlhpflicchchlaaW.PrintLast Go.Proofs.YtlhpflicchchlaaW.PrintMore
open Go.Proofs.Ytlhpflicchchlaa.PQuotePuts
attribute [local go_sem] max2_int min2_int max_two min_two max_three min_three max_four min_four
set_option linter.unusedVariables false
set_option linter.unusedSimpArgs false
/-! ### riffleref02_Bad: function 18 -/
def riffleref02_Bad.l0 : Nat → ByteArray → Int → Int → Option (Int)
  | 0, _, _, _ => none
  | k + 1, x0, x3, x4 => if x4 < (x0.size : Int) then (if 0 ≤ x3 then (if x3 ≤ (wrap64 (x4 + 1)) then (if (wrap64 (x4 + 1)) ≤ (x0.size : Int) then ((riffleref02_Begins.f k (x0.extract (x3 : Int).toNat ((wrap64 (x4 + 1)) : Int).toNat)).bind fun bt166 => (if bt166.1 = true then (if bt166.2.1 = true then (riffleref02_Bad.l0 k x0 (wrap64 (x4 + 1)) (wrap64 (x4 + 1))) else (riffleref02_Bad.l0 k x0 x3 (wrap64 (x4 + 1)))) else (some x4))) else (none)) else (none)) else (none)) else (if x3 < (x0.size : Int) then (some (x0.size : Int)) else (some (-1)))
def riffleref02_Bad.f (k : Nat) (a0 : ByteArray) : Option (Int) := riffleref02_Bad.l0 k a0 0 0
theorem riffleref02_Bad.mono_l : ∀ k, (∀ y0 y1 y2, LeO (riffleref02_Bad.l0 k y0 y1 y2) (riffleref02_Bad.l0 (k + 1) y0 y1 y2))
  | 0 => fun _ _ _ r h => by simp [riffleref02_Bad.l0] at h
  | k + 1 => by
    have ih0 := riffleref02_Bad.mono_l k
    · intro y0 y1 y2
      unfold riffleref02_Bad.l0
      repeat' first
      | (with_reducible exact ih0 _ _ _)
      | (with_reducible exact riffleref02_Begins.mono _ _)
      | (with_reducible exact LeO.refl _)
      | (with_reducible exact LeO.none _)
      | (with_reducible refine LeO.ite ?_ ?_)
      | (with_reducible refine LeO.bind ?_ (fun _ => ?_))
      | exact ih0 _ _ _
      | exact riffleref02_Begins.mono _ _
      | exact LeO.none _
      | refine LeO.ite ?_ ?_
      | refine LeO.bind ?_ (fun _ => ?_)
theorem riffleref02_Bad.mono : ∀ a0 k, LeO (riffleref02_Bad.f k a0) (riffleref02_Bad.f (k + 1) a0) := by
  intro a0 k
  have ih0 := riffleref02_Bad.mono_l k
  unfold riffleref02_Bad.f
  repeat' first
      | (with_reducible exact ih0 _ _ _)
      | (with_reducible exact riffleref02_Begins.mono _ _)
      | (with_reducible exact LeO.refl _)
      | (with_reducible exact LeO.none _)
      | (with_reducible refine LeO.ite ?_ ?_)
      | (with_reducible refine LeO.bind ?_ (fun _ => ?_))
      | exact ih0 _ _ _
      | exact riffleref02_Begins.mono _ _
      | exact LeO.none _
      | refine LeO.ite ?_ ?_
      | refine LeO.bind ?_ (fun _ => ?_)
set_option maxHeartbeats 8000000 in
set_option maxRecDepth 100000 in
theorem riffleref02_Bad.calls (k : Nat) (a0 : ByteArray) (r : Int) (w : World) (h : riffleref02_Bad.f k a0 = some r) :
    Calls Try.prog 18 #[.string a0] w fun e w' => e = .returned (.int .i64 r) ∧ Below w.heap.size w w' := by
  have HB := Aside0.mk (Below.refl w.heap.size w)
  have H : (riffleref02_Bad.l0 k a0 0 0) = some r := h
  clear h
  have H' := Aside0.mk H
  clear H
  go_enter Try.func18, Try.ntmps18
  go_wp2
  go_loopg [3, 4] k (fun kq v3 v4 w' => ∃ (x3_1 : Int) (x4_1 : Int), v3 = .int .i64 x3_1 ∧ v4 = .int .i64 x4_1 ∧ Aside0 (riffleref02_Bad.l0 kq a0 x3_1 x4_1 = some r) ∧ Aside0 (kq ≤ k) ∧ Aside0 (Below w.heap.size w w'))
  case atStart => exact ⟨(0), (0), (by first | rfl | (simp; done) | (simp [*]; done)), (by first | rfl | (simp; done) | (simp [*]; done)), H', ⟨Nat.le_refl _⟩, ⟨by repeat (first | (with_reducible first | exact HB.out | apply below_alloc | apply pw_below_drewN | apply below_drew1) | exact HB.out)⟩⟩
  case round =>
    clear H'
    try clear c1
    obtain ⟨x3_1, x4_1, rfl, rfl, HA, HK1, HB⟩ := hrel
    cases gk with
    | zero => exact absurd HA.out (by simp [riffleref02_Bad.l0])
    | succ k1 =>
      have H := HA.out
      clear HA
      simp only [riffleref02_Bad.l0] at H
      by_cases c2 : x4_1 < (a0.size : Int)
      · rw [if_pos c2] at H
        have c2b0 : decide (x4_1 < (a0.size : Int)) = true := decide_eq_true c2
        clear c2
        by_cases c3 : 0 ≤ x3_1
        · rw [if_pos c3] at H
          have c3b0 := eq_true c3
          have c3b1 : decide (0 ≤ x3_1) = true := decide_eq_true c3
          clear c3
          by_cases c4 : x3_1 ≤ (wrap64 (x4_1 + 1))
          · rw [if_pos c4] at H
            have c4b0 := eq_true c4
            have c4b1 : decide (x3_1 ≤ (wrap64 (x4_1 + 1))) = true := decide_eq_true c4
            by_cases c5 : (wrap64 (x4_1 + 1)) ≤ (a0.size : Int)
            · rw [if_pos c5] at H
              have c5b0 := eq_true c5
              have c5b1 : decide ((wrap64 (x4_1 + 1)) ≤ (a0.size : Int)) = true := decide_eq_true c5
              replace H := Option.bind_eq_some_iff.mp H
              obtain ⟨⟨t166, t167, t168⟩, A60, H⟩ := H
              replace H : (if t166 = true then (if t167 = true then (riffleref02_Bad.l0 k1 a0 (wrap64 (x4_1 + 1)) (wrap64 (x4_1 + 1))) else (riffleref02_Bad.l0 k1 a0 x3_1 (wrap64 (x4_1 + 1)))) else (some x4_1)) = some r := H
              have A6 := Aside0.mk A60
              clear A60
              by_cases c7 : t166 = true
              · subst c7
                have H1 : (if t167 = true then (riffleref02_Bad.l0 k1 a0 (wrap64 (x4_1 + 1)) (wrap64 (x4_1 + 1))) else (riffleref02_Bad.l0 k1 a0 x3_1 (wrap64 (x4_1 + 1)))) = some r := by rw [if_pos rfl] at H; exact H
                clear H
                have H := H1
                clear H1
                by_cases c8 : t167 = true
                · subst c8
                  have H1 : (riffleref02_Bad.l0 k1 a0 (wrap64 (x4_1 + 1)) (wrap64 (x4_1 + 1))) = some r := by rw [if_pos rfl] at H; exact H
                  clear H
                  have H := H1
                  clear H1
                  have H' := Aside0.mk H
                  clear H
                  go_wp2_with (first | ((with_reducible refine gate_callee (f := 27) rfl ?_); refine goesL_ (some 20) rfl rfl Try.func27 (by kernel_rfl) rfl #[.string (a0.extract (x3_1 : Int).toNat ((wrap64 (x4_1 + 1)) : Int).toNat)] rfl (by (try simp only [List.map_toArray, List.map_cons, List.map_nil]); first | done | rfl | (simp only [List.length_drop, List.length_take]; rfl)) ?_; (with_reducible refine (riffleref02_Begins.calls k1 (a0.extract (x3_1 : Int).toNat ((wrap64 (x4_1 + 1)) : Int).toNat) true true t168 _ A6.out).mono ?_); rintro e w9 ⟨rfl, hb⟩; refine ⟨_, rfl, ?_⟩; have n0_ := Aside0.mk (below_step (by repeat (first | (with_reducible first | exact HB.out | apply below_alloc | apply pw_below_drewN | apply below_drew1) | exact HB.out)) hb); clear HB; have HB := n0_; clear n0_; (try clear hb); (try clear hb2); (try clear hk); (try clear hi)))
                  go_roundg k1
                  case measure => have := HK1.out; omega
                  case rel => exact ⟨(wrap64 (x4_1 + 1)), (wrap64 (x4_1 + 1)), (by first | rfl | (simp; done) | (simp [*]; done)), (by first | rfl | (simp; done) | (simp [*]; done)), H', ⟨by have := HK1.out; omega⟩, ⟨by repeat (first | (with_reducible first | exact HB.out | apply below_alloc | apply pw_below_drewN | apply below_drew1) | exact HB.out)⟩⟩
                · replace c8 := Bool.eq_false_iff.mpr c8
                  subst c8
                  have H1 : (riffleref02_Bad.l0 k1 a0 x3_1 (wrap64 (x4_1 + 1))) = some r := by rw [if_neg (show ¬ (false = true) by decide)] at H; exact H
                  clear H
                  have H := H1
                  clear H1
                  have H' := Aside0.mk H
                  clear H
                  go_wp2_with (first | ((with_reducible refine gate_callee (f := 27) rfl ?_); refine goesL_ (some 20) rfl rfl Try.func27 (by kernel_rfl) rfl #[.string (a0.extract (x3_1 : Int).toNat ((wrap64 (x4_1 + 1)) : Int).toNat)] rfl (by (try simp only [List.map_toArray, List.map_cons, List.map_nil]); first | done | rfl | (simp only [List.length_drop, List.length_take]; rfl)) ?_; (with_reducible refine (riffleref02_Begins.calls k1 (a0.extract (x3_1 : Int).toNat ((wrap64 (x4_1 + 1)) : Int).toNat) true false t168 _ A6.out).mono ?_); rintro e w10 ⟨rfl, hb⟩; refine ⟨_, rfl, ?_⟩; have n0_ := Aside0.mk (below_step (by repeat (first | (with_reducible first | exact HB.out | apply below_alloc | apply pw_below_drewN | apply below_drew1) | exact HB.out)) hb); clear HB; have HB := n0_; clear n0_; (try clear hb); (try clear hb2); (try clear hk); (try clear hi)))
                  go_roundg k1
                  case measure => have := HK1.out; omega
                  case rel => exact ⟨(x3_1), (wrap64 (x4_1 + 1)), (by first | rfl | (simp; done) | (simp [*]; done)), (by first | rfl | (simp; done) | (simp [*]; done)), H', ⟨by have := HK1.out; omega⟩, ⟨by repeat (first | (with_reducible first | exact HB.out | apply below_alloc | apply pw_below_drewN | apply below_drew1) | exact HB.out)⟩⟩
              · replace c7 := Bool.eq_false_iff.mpr c7
                subst c7
                have H1 : (some x4_1) = some r := by rw [if_neg (show ¬ (false = true) by decide)] at H; exact H
                clear H
                have H := H1
                clear H1
                obtain rfl := Option.some.inj H
                go_wp2_with (first | ((with_reducible refine gate_callee (f := 27) rfl ?_); refine goesL_ (some 20) rfl rfl Try.func27 (by kernel_rfl) rfl #[.string (a0.extract (x3_1 : Int).toNat ((wrap64 (x4_1 + 1)) : Int).toNat)] rfl (by (try simp only [List.map_toArray, List.map_cons, List.map_nil]); first | done | rfl | (simp only [List.length_drop, List.length_take]; rfl)) ?_; (with_reducible refine (riffleref02_Begins.calls k1 (a0.extract (x3_1 : Int).toNat ((wrap64 (x4_1 + 1)) : Int).toNat) false t167 t168 _ A6.out).mono ?_); rintro e w11 ⟨rfl, hb⟩; refine ⟨_, rfl, ?_⟩; have n0_ := Aside0.mk (below_step (by repeat (first | (with_reducible first | exact HB.out | apply below_alloc | apply pw_below_drewN | apply below_drew1) | exact HB.out)) hb); clear HB; have HB := n0_; clear n0_; (try clear hb); (try clear hb2); (try clear hk); (try clear hi)))
                go_ret
                exact ⟨by first | rfl | (simp [errW_none, errW_some] <;> rfl) | (simp [*, errW_none, errW_some] <;> rfl), by repeat (first | (with_reducible first | exact HB.out | apply below_alloc | apply pw_below_drewN | apply below_drew1) | exact HB.out)⟩
            · rw [if_neg c5] at H
              exact absurd H (by simp)
          · rw [if_neg c4] at H
            exact absurd H (by simp)
        · rw [if_neg c3] at H
          exact absurd H (by simp)
      · rw [if_neg c2] at H
        have c2b0 : decide (x4_1 < (a0.size : Int)) = false := decide_eq_false c2
        clear c2
        by_cases c12 : x3_1 < (a0.size : Int)
        · rw [if_pos c12] at H
          have c12b0 : decide (x3_1 < (a0.size : Int)) = true := decide_eq_true c12
          clear c12
          obtain rfl := Option.some.inj H
          go_wp2
          go_ret
          exact ⟨by first | rfl | (simp [errW_none, errW_some] <;> rfl) | (simp [*, errW_none, errW_some] <;> rfl), by repeat (first | (with_reducible first | exact HB.out | apply below_alloc | apply pw_below_drewN | apply below_drew1) | exact HB.out)⟩
        · rw [if_neg c12] at H
          have c12b0 : decide (x3_1 < (a0.size : Int)) = false := decide_eq_false c12
          clear c12
          obtain rfl := Option.some.inj H
          go_wp2
          go_ret
          exact ⟨by first | rfl | (simp [errW_none, errW_some] <;> rfl) | (simp [*, errW_none, errW_some] <;> rfl), by repeat (first | (with_reducible first | exact HB.out | apply below_alloc | apply pw_below_drewN | apply below_drew1) | exact HB.out)⟩

-- NOT PRINTED: function 6 (rifflelaw06_QuoteBack)


end Go.Proofs.Ytlhpflicchchlaa.BadP
