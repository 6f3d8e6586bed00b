/- Contracts of functions that the law NumeralParts reaches. Conditions: none. -/
import Derived.Test.YtjfoppmpiklfiabPNumeralPartsx0
import Derived.Test.YtjfoppmpiklfiabPNumeralPartsx3
namespace Go.Proofs.Ytjfoppmpiklfiab.PNumeralParts
open Go.RowKit Go.Proofs.YtjfoppmpiklfiabW.PrintWords Go.Proofs.YtjfoppmpiklfiabW.PrintLast Go.Proofs.YtjfoppmpiklfiabW.PrintMore
attribute [local go_sem] max2_int min2_int max_two min_two max_three min_three max_four min_four   -- for this text's walks alone
set_option linter.unusedVariables false
set_option linter.unusedSimpArgs false

/-! ### rifflelaw04_NumeralParts: function 8 -/
mutual
def rifflelaw04_NumeralParts.j0 : Nat → ByteArray → Int → Bool → Option (Bool)
  | 0, _, _, _ => none
  | k + 1, x0, x3, x27 => if x27 = true then (some false) else (if x3 = (x0.size : Int) then (if x0.size + 1 ≤ 9223372036854775807 then ((numeral_Is.f k (x0 ++ (⟨#[49]⟩ : ByteArray))).bind fun t116 => (rifflelaw04_NumeralParts.j1 k x0 (!t116))) else (none)) else (rifflelaw04_NumeralParts.j1 k x0 false))
def rifflelaw04_NumeralParts.j1 : Nat → ByteArray → Bool → Option (Bool)
  | 0, _, _ => none
  | k + 1, x0, x37 => if x37 = true then (some false) else ((some (([(⟨#[44]⟩ : ByteArray), (⟨#[93]⟩ : ByteArray), (⟨#[125]⟩ : ByteArray), (⟨#[32]⟩ : ByteArray), (⟨#[10]⟩ : ByteArray), (⟨#[58]⟩ : ByteArray)] : List ByteArray) : List ByteArray)).bind fun y117 => (rifflelaw04_NumeralParts.l0 k x0 y117 (y117.length : Int) 0))
def rifflelaw04_NumeralParts.l0 : Nat → ByteArray → List ByteArray → Int → Int → Option (Bool)
  | 0, _, _, _, _ => none
  | k + 1, x0, x38, x39, x40 => if x40 < x39 then (if 0 ≤ x40 then (if x40 < (x38.length : Int) then ((numeral_Is.f k x0).bind fun t121 => (if t121 = true then (if x0.size + (rdOf ByteArray.empty x38 x40).size ≤ 9223372036854775807 then (if (x0 ++ (rdOf ByteArray.empty x38 x40)).size + 1 ≤ 9223372036854775807 then ((numeral_Count.f k ((x0 ++ (rdOf ByteArray.empty x38 x40)) ++ (⟨#[49]⟩ : ByteArray))).bind fun t122 => (if t122 = (x0.size : Int) then ((numeral_Fault.f k (x0 ++ (rdOf ByteArray.empty x38 x40))).bind fun t123 => (if t123 = (x0.size : Int) then (rifflelaw04_NumeralParts.l0 k x0 x38 x39 (wrap64 (x40 + 1))) else (some false))) else (some false))) else (none)) else (none)) else (rifflelaw04_NumeralParts.l0 k x0 x38 x39 (wrap64 (x40 + 1))))) else (none)) else (none)) else (some true)
end
def rifflelaw04_NumeralParts.f (k : Nat) (a0 : ByteArray) : Option (Bool) := (rifflelaw04_numeralAlive.f k).bind fun t113 => (if t113 = true then (if (a0.size : Int) > 300 then (some true) else ((numeral_Fault.f k a0).bind fun t114 => (if t114 < (-1) then (rifflelaw04_NumeralParts.j0 k a0 t114 true) else (if t114 > (a0.size : Int) then (rifflelaw04_NumeralParts.j0 k a0 t114 true) else ((numeral_Is.f k a0).bind fun t115 => (rifflelaw04_NumeralParts.j0 k a0 t114 ((t114 == (-1)) != t115))))))) else (some false))
theorem rifflelaw04_NumeralParts.mono_l : ∀ k, (∀ y0 y1 y2, LeO (rifflelaw04_NumeralParts.j0 k y0 y1 y2) (rifflelaw04_NumeralParts.j0 (k + 1) y0 y1 y2)) ∧ (∀ y0 y1, LeO (rifflelaw04_NumeralParts.j1 k y0 y1) (rifflelaw04_NumeralParts.j1 (k + 1) y0 y1)) ∧ (∀ y0 y1 y2 y3, LeO (rifflelaw04_NumeralParts.l0 k y0 y1 y2 y3) (rifflelaw04_NumeralParts.l0 (k + 1) y0 y1 y2 y3))
  | 0 => ⟨fun _ _ _ r h => by simp [rifflelaw04_NumeralParts.j0] at h, fun _ _ r h => by simp [rifflelaw04_NumeralParts.j1] at h, fun _ _ _ _ r h => by simp [rifflelaw04_NumeralParts.l0] at h⟩
  | k + 1 => by
    obtain ⟨ih0, ih1, ih2⟩ := rifflelaw04_NumeralParts.mono_l k
    refine ⟨?_, ?_, ?_⟩
    · intro y0 y1 y2
      unfold rifflelaw04_NumeralParts.j0
      repeat' first
      | (with_reducible exact ih0 _ _ _)
      | (with_reducible exact ih1 _ _)
      | (with_reducible exact ih2 _ _ _ _)
      | (with_reducible exact numeral_Count.mono _ _)
      | (with_reducible exact numeral_Fault.mono _ _)
      | (with_reducible exact numeral_Is.mono _ _)
      | (with_reducible exact rifflelaw04_numeralAlive.mono _)
      | (with_reducible exact LeO.refl _)
      | (with_reducible exact LeO.none _)
      | (with_reducible refine LeO.ite ?_ ?_)
      | (with_reducible refine LeO.bind ?_ (fun _ => ?_))
      | exact ih0 _ _ _
      | exact ih1 _ _
      | exact ih2 _ _ _ _
      | exact numeral_Count.mono _ _
      | exact numeral_Fault.mono _ _
      | exact numeral_Is.mono _ _
      | exact rifflelaw04_numeralAlive.mono _
      | exact LeO.none _
      | refine LeO.ite ?_ ?_
      | refine LeO.bind ?_ (fun _ => ?_)
    · intro y0 y1
      unfold rifflelaw04_NumeralParts.j1
      repeat' first
      | (with_reducible exact ih0 _ _ _)
      | (with_reducible exact ih1 _ _)
      | (with_reducible exact ih2 _ _ _ _)
      | (with_reducible exact numeral_Count.mono _ _)
      | (with_reducible exact numeral_Fault.mono _ _)
      | (with_reducible exact numeral_Is.mono _ _)
      | (with_reducible exact rifflelaw04_numeralAlive.mono _)
      | (with_reducible exact LeO.refl _)
      | (with_reducible exact LeO.none _)
      | (with_reducible refine LeO.ite ?_ ?_)
      | (with_reducible refine LeO.bind ?_ (fun _ => ?_))
      | exact ih0 _ _ _
      | exact ih1 _ _
      | exact ih2 _ _ _ _
      | exact numeral_Count.mono _ _
      | exact numeral_Fault.mono _ _
      | exact numeral_Is.mono _ _
      | exact rifflelaw04_numeralAlive.mono _
      | exact LeO.none _
      | refine LeO.ite ?_ ?_
      | refine LeO.bind ?_ (fun _ => ?_)
    · intro y0 y1 y2 y3
      unfold rifflelaw04_NumeralParts.l0
      repeat' first
      | (with_reducible exact ih0 _ _ _)
      | (with_reducible exact ih1 _ _)
      | (with_reducible exact ih2 _ _ _ _)
      | (with_reducible exact numeral_Count.mono _ _)
      | (with_reducible exact numeral_Fault.mono _ _)
      | (with_reducible exact numeral_Is.mono _ _)
      | (with_reducible exact rifflelaw04_numeralAlive.mono _)
      | (with_reducible exact LeO.refl _)
      | (with_reducible exact LeO.none _)
      | (with_reducible refine LeO.ite ?_ ?_)
      | (with_reducible refine LeO.bind ?_ (fun _ => ?_))
      | exact ih0 _ _ _
      | exact ih1 _ _
      | exact ih2 _ _ _ _
      | exact numeral_Count.mono _ _
      | exact numeral_Fault.mono _ _
      | exact numeral_Is.mono _ _
      | exact rifflelaw04_numeralAlive.mono _
      | exact LeO.none _
      | refine LeO.ite ?_ ?_
      | refine LeO.bind ?_ (fun _ => ?_)
theorem rifflelaw04_NumeralParts.mono : ∀ a0 k, LeO (rifflelaw04_NumeralParts.f k a0) (rifflelaw04_NumeralParts.f (k + 1) a0) := by
  intro a0 k
  obtain ⟨ih0, ih1, ih2⟩ := rifflelaw04_NumeralParts.mono_l k
  unfold rifflelaw04_NumeralParts.f
  repeat' first
      | (with_reducible exact ih0 _ _ _)
      | (with_reducible exact ih1 _ _)
      | (with_reducible exact ih2 _ _ _ _)
      | (with_reducible exact numeral_Count.mono _ _)
      | (with_reducible exact numeral_Fault.mono _ _)
      | (with_reducible exact numeral_Is.mono _ _)
      | (with_reducible exact rifflelaw04_numeralAlive.mono _)
      | (with_reducible exact LeO.refl _)
      | (with_reducible exact LeO.none _)
      | (with_reducible refine LeO.ite ?_ ?_)
      | (with_reducible refine LeO.bind ?_ (fun _ => ?_))
      | exact ih0 _ _ _
      | exact ih1 _ _
      | exact ih2 _ _ _ _
      | exact numeral_Count.mono _ _
      | exact numeral_Fault.mono _ _
      | exact numeral_Is.mono _ _
      | exact rifflelaw04_numeralAlive.mono _
      | exact LeO.none _
      | refine LeO.ite ?_ ?_
      | refine LeO.bind ?_ (fun _ => ?_)
set_option maxHeartbeats 8000000 in
set_option maxRecDepth 100000 in
theorem rifflelaw04_NumeralParts.calls (k : Nat) (a0 : ByteArray) (r : Bool) (w : World) (h : rifflelaw04_NumeralParts.f k a0 = some r) :
    Calls Try.prog 8 #[.string a0] w fun e w' => e = .returned (.bool r) ∧ Below w.heap.size w w' := by
  have HB := Aside0.mk (Below.refl w.heap.size w)
  have H : ((rifflelaw04_numeralAlive.f k).bind fun t113 => (if t113 = true then (if (a0.size : Int) > 300 then (some true) else ((numeral_Fault.f k a0).bind fun t114 => (if t114 < (-1) then (rifflelaw04_NumeralParts.j0 k a0 t114 true) else (if t114 > (a0.size : Int) then (rifflelaw04_NumeralParts.j0 k a0 t114 true) else ((numeral_Is.f k a0).bind fun t115 => (rifflelaw04_NumeralParts.j0 k a0 t114 ((t114 == (-1)) != t115))))))) else (some false))) = some r := h
  clear h
  replace H := Option.bind_eq_some_iff.mp H
  obtain ⟨t113, A20, H⟩ := H
  replace H : (if t113 = true then (if (a0.size : Int) > 300 then (some true) else ((numeral_Fault.f k a0).bind fun t114 => (if t114 < (-1) then (rifflelaw04_NumeralParts.j0 k a0 t114 true) else (if t114 > (a0.size : Int) then (rifflelaw04_NumeralParts.j0 k a0 t114 true) else ((numeral_Is.f k a0).bind fun t115 => (rifflelaw04_NumeralParts.j0 k a0 t114 ((t114 == (-1)) != t115))))))) else (some false)) = some r := H
  have A2 := Aside0.mk A20
  clear A20
  by_cases c3 : t113 = true
  · subst c3
    have H1 : (if (a0.size : Int) > 300 then (some true) else ((numeral_Fault.f k a0).bind fun t114 => (if t114 < (-1) then (rifflelaw04_NumeralParts.j0 k a0 t114 true) else (if t114 > (a0.size : Int) then (rifflelaw04_NumeralParts.j0 k a0 t114 true) else ((numeral_Is.f k a0).bind fun t115 => (rifflelaw04_NumeralParts.j0 k a0 t114 ((t114 == (-1)) != t115))))))) = some r := by rw [if_pos rfl] at H; exact H
    clear H
    have H := H1
    clear H1
    by_cases c4 : (a0.size : Int) > 300
    · rw [if_pos c4] at H
      have c4b0 : decide (300 < (a0.size : Int)) = true := decide_eq_true c4
      have c4b1 : decide (300 < a0.size) = true := decide_eq_true (by omega)
      clear c4
      obtain rfl := Option.some.inj H
      go_enter Try.func8, Try.ntmps8
      go_wp2_with (first | ((with_reducible refine gate_callee (f := 19) rfl ?_); refine goesL_ (some 6) rfl rfl Try.func19 (by kernel_rfl) rfl #[] rfl (by (try simp only [List.map_toArray, List.map_cons, List.map_nil]); first | done | rfl | (simp only [List.length_drop, List.length_take]; rfl)) ?_; (with_reducible refine (rifflelaw04_numeralAlive.calls k  true _ A2.out).mono ?_); rintro e w5 ⟨rfl, hb⟩; refine ⟨_, rfl, ?_⟩; have n0_ := Aside0.mk (below_step (by repeat (first | (with_reducible first | exact HB.out | apply below_alloc | apply pw_below_drewN | apply below_drew1) | exact HB.out)) hb); clear HB; have HB := n0_; clear n0_; (try clear hb); (try clear hb2); (try clear hk); (try clear hi)))
      go_ret
      exact ⟨by first | rfl | (simp [errW_none, errW_some] <;> rfl) | (simp [*, errW_none, errW_some] <;> rfl), by repeat (first | (with_reducible first | exact HB.out | apply below_alloc | apply pw_below_drewN | apply below_drew1) | exact HB.out)⟩
    · rw [if_neg c4] at H
      have c4b0 : decide (300 < (a0.size : Int)) = false := decide_eq_false c4
      have c4b1 : decide (300 < a0.size) = false := decide_eq_false (by omega)
      clear c4
      replace H := Option.bind_eq_some_iff.mp H
      obtain ⟨t114, A60, H⟩ := H
      replace H : (if t114 < (-1) then (rifflelaw04_NumeralParts.j0 k a0 t114 true) else (if t114 > (a0.size : Int) then (rifflelaw04_NumeralParts.j0 k a0 t114 true) else ((numeral_Is.f k a0).bind fun t115 => (rifflelaw04_NumeralParts.j0 k a0 t114 ((t114 == (-1)) != t115))))) = some r := H
      have A6 := Aside0.mk A60
      clear A60
      have HC7 := Aside0.mk H
      clear H
      go_enter Try.func8, Try.ntmps8
      go_upto_region 6 with (first | ((with_reducible refine gate_callee (f := 19) rfl ?_); refine goesL_ (some 6) rfl rfl Try.func19 (by kernel_rfl) rfl #[] rfl (by (try simp only [List.map_toArray, List.map_cons, List.map_nil]); first | done | rfl | (simp only [List.length_drop, List.length_take]; rfl)) ?_; (with_reducible refine (rifflelaw04_numeralAlive.calls k  true _ A2.out).mono ?_); rintro e w8 ⟨rfl, hb⟩; refine ⟨_, rfl, ?_⟩; have n0_ := Aside0.mk (below_step (by repeat (first | (with_reducible first | exact HB.out | apply below_alloc | apply pw_below_drewN | apply below_drew1) | exact HB.out)) hb); clear HB; have HB := n0_; clear n0_; (try clear hb); (try clear hb2); (try clear hk); (try clear hi)) | ((with_reducible refine gate_callee (f := 25) rfl ?_); refine goesL_ (some 12) rfl rfl Try.func25 (by kernel_rfl) rfl #[.string a0] rfl (by (try simp only [List.map_toArray, List.map_cons, List.map_nil]); first | done | rfl | (simp only [List.length_drop, List.length_take]; rfl)) ?_; (with_reducible refine (numeral_Fault.calls k a0 t114 _ A6.out).mono ?_); rintro e w9 ⟨rfl, hb⟩; refine ⟨_, rfl, ?_⟩; have n0_ := Aside0.mk (below_step (by repeat (first | (with_reducible first | exact HB.out | apply below_alloc | apply pw_below_drewN | apply below_drew1) | exact HB.out)) hb); clear HB; have HB := n0_; clear n0_; (try clear hb); (try clear hb2); (try clear hk); (try clear hi)))
      (try simp only [Act.put, List.setIfInBounds_toArray, List.set_cons_zero, List.set_cons_succ])
      go_cut [27] (fun v27 wc => ∃ (kq : Nat) (x27_6 : Bool), v27 = .bool x27_6 ∧ Aside0 (rifflelaw04_NumeralParts.j0 kq a0 t114 x27_6 = some r) ∧ Aside0 (kq ≤ k) ∧ Aside0 (Below w.heap.size w wc))
      case first =>
        have H := HC7.out
        clear HC7
        by_cases c10 : t114 < (-1)
        · rw [if_pos c10] at H
          have c10b0 : decide (t114 < (-1)) = true := decide_eq_true c10
          clear c10
          (first | rw [c10b0] | (simp only [i64_w, i32_w]; rw [c10b0]) | skip)
          have H' := Aside0.mk H
          clear H
          go_wp2
          go_meet
          case rel => exact ⟨_, (true), (by first | rfl | (simp; done) | (simp [*]; done)), H', ⟨by first | omega | exact Nat.le_refl _⟩, ⟨by repeat (first | (with_reducible first | exact HB.out | apply below_alloc | apply pw_below_drewN | apply below_drew1) | exact HB.out)⟩⟩
        · rw [if_neg c10] at H
          have c10b0 : decide (t114 < (-1)) = false := decide_eq_false c10
          clear c10
          (first | rw [c10b0] | (simp only [i64_w, i32_w]; rw [c10b0]) | skip)
          by_cases c11 : t114 > (a0.size : Int)
          · rw [if_pos c11] at H
            have c11b0 : decide ((a0.size : Int) < t114) = true := decide_eq_true c11
            clear c11
            have H' := Aside0.mk H
            clear H
            go_wp2
            go_meet
            case rel => exact ⟨_, (true), (by first | rfl | (simp; done) | (simp [*]; done)), H', ⟨by first | omega | exact Nat.le_refl _⟩, ⟨by repeat (first | (with_reducible first | exact HB.out | apply below_alloc | apply pw_below_drewN | apply below_drew1) | exact HB.out)⟩⟩
          · rw [if_neg c11] at H
            have c11b0 : decide ((a0.size : Int) < t114) = false := decide_eq_false c11
            clear c11
            replace H := Option.bind_eq_some_iff.mp H
            obtain ⟨t115, A120, H⟩ := H
            replace H : (rifflelaw04_NumeralParts.j0 k a0 t114 ((t114 == (-1)) != t115)) = some r := H
            have A12 := Aside0.mk A120
            clear A120
            have H' := Aside0.mk H
            clear H
            go_wp2_with (first | (go_at_call 24; (with_reducible refine (numeral_Is.calls k a0 t115 _ A12.out).mono ?_); rintro e w13 ⟨rfl, hb⟩; have n0_ := Aside0.mk (below_step (by repeat (first | (with_reducible first | exact HB.out | apply below_alloc | apply pw_below_drewN | apply below_drew1) | exact HB.out)) hb); clear HB; have HB := n0_; clear n0_; (try clear hb); (try clear hb2); (try clear hk); (try clear hi)))
            go_meet
            case rel => exact ⟨_, (((t114 == (-1)) != t115)), (by first | rfl | (simp; done) | (simp [*]; done)), H', ⟨by first | omega | exact Nat.le_refl _⟩, ⟨by repeat (first | (with_reducible first | exact HB.out | apply below_alloc | apply pw_below_drewN | apply below_drew1) | exact HB.out)⟩⟩
      case rest =>
        clear HC7
        try clear c1
        try clear c2
        try clear p2
        try clear c3
        try clear c4
        try clear c4b0
        try clear c4b1
        try clear c8
        try clear c10
        try clear c10b0
        try clear c11
        try clear c11b0
        obtain ⟨kq, x27_6, rfl, HA, HJ6, HB⟩ := hcut
        cases kq with
        | zero => exact absurd HA.out (by simp [rifflelaw04_NumeralParts.j0])
        | succ kj6 =>
          have H := HA.out
          clear HA
          simp only [rifflelaw04_NumeralParts.j0] at H
          by_cases c14 : x27_6 = true
          · subst c14
            have H1 : (some false) = some r := by rw [if_pos rfl] at H; exact H
            clear H
            have H := H1
            clear H1
            obtain rfl := Option.some.inj H
            go_wp2
            go_ret
            exact ⟨by first | rfl | (simp [errW_none, errW_some] <;> rfl) | (simp [*, errW_none, errW_some] <;> rfl), by repeat (first | (with_reducible first | exact HB.out | apply below_alloc | apply pw_below_drewN | apply below_drew1) | exact HB.out)⟩
          · replace c14 := Bool.eq_false_iff.mpr c14
            subst c14
            have H1 : (if t114 = (a0.size : Int) then (if a0.size + 1 ≤ 9223372036854775807 then ((numeral_Is.f kj6 (a0 ++ (⟨#[49]⟩ : ByteArray))).bind fun t116 => (rifflelaw04_NumeralParts.j1 kj6 a0 (!t116))) else (none)) else (rifflelaw04_NumeralParts.j1 kj6 a0 false)) = some r := by rw [if_neg (show ¬ (false = true) by decide)] at H; exact H
            clear H
            have H := H1
            clear H1
            have HC15 := Aside0.mk H
            clear H
            go_upto_region 8 with (fail)
            go_cut [37] (fun v37 wc => ∃ (kq : Nat) (x37_14 : Bool), v37 = .bool x37_14 ∧ Aside0 (rifflelaw04_NumeralParts.j1 kq a0 x37_14 = some r) ∧ Aside0 (kq ≤ kj6) ∧ Aside0 (Below w.heap.size w wc))
            case first =>
              have H := HC15.out
              clear HC15
              by_cases c16 : t114 = (a0.size : Int)
              · rw [if_pos c16] at H
                have c16b0 : (t114 == (a0.size : Int)) = true := beq_iff_eq.mpr c16
                have c16b1 : (t114 != (a0.size : Int)) = false := bne_eq_false_iff_eq.mpr c16
                clear c16
                (first | rw [c16b0] | (simp only [i64_w, i32_w]; rw [c16b0]) | skip)
                by_cases c17 : a0.size + 1 ≤ 9223372036854775807
                · rw [if_pos c17] at H
                  have c17b0 := eq_true c17
                  have c17b1 : decide (a0.size + 1 ≤ 9223372036854775807) = true := decide_eq_true c17
                  try have c17b2 : (9223372036854775807 < a0.size + 1) = False := eq_false (Nat.not_lt.2 c17)
                  replace H := Option.bind_eq_some_iff.mp H
                  obtain ⟨t116, A180, H⟩ := H
                  replace H : (rifflelaw04_NumeralParts.j1 kj6 a0 (!t116)) = some r := H
                  have A18 := Aside0.mk A180
                  clear A180
                  have H' := Aside0.mk H
                  clear H
                  go_wp2_with (first | (go_at_call 24; (with_reducible refine (numeral_Is.calls kj6 (a0 ++ (⟨#[49]⟩ : ByteArray)) t116 _ A18.out).mono ?_); rintro e w19 ⟨rfl, hb⟩; have n0_ := Aside0.mk (below_step (by repeat (first | (with_reducible first | exact HB.out | apply below_alloc | apply pw_below_drewN | apply below_drew1) | exact HB.out)) hb); clear HB; have HB := n0_; clear n0_; (try clear hb); (try clear hb2); (try clear hk); (try clear hi)))
                  go_meet
                  case rel => exact ⟨_, (!t116), (by first | rfl | (simp; done) | (simp [*]; done)), H', ⟨by have := HJ6.out; first | omega | exact Nat.le_refl _⟩, ⟨by repeat (first | (with_reducible first | exact HB.out | apply below_alloc | apply pw_below_drewN | apply below_drew1) | exact HB.out)⟩⟩
                · rw [if_neg c17] at H
                  exact absurd H (by simp)
              · rw [if_neg c16] at H
                have c16b0 : (t114 == (a0.size : Int)) = false := beq_eq_false_iff_ne.mpr c16
                have c16b1 : (t114 != (a0.size : Int)) = true := bne_iff_ne.mpr c16
                (first | rw [c16b0] | (simp only [i64_w, i32_w]; rw [c16b0]) | skip)
                have H' := Aside0.mk H
                clear H
                go_wp2
                go_meet
                case rel => exact ⟨_, (false), (by first | rfl | (simp; done) | (simp [*]; done)), H', ⟨by have := HJ6.out; first | omega | exact Nat.le_refl _⟩, ⟨by repeat (first | (with_reducible first | exact HB.out | apply below_alloc | apply pw_below_drewN | apply below_drew1) | exact HB.out)⟩⟩
            case rest =>
              clear HC15
              try clear c1
              try clear c2
              try clear p2
              try clear c3
              try clear c4
              try clear c4b0
              try clear c4b1
              try clear c8
              try clear c10
              try clear c10b0
              try clear c11
              try clear c11b0
              try clear c14
              try clear c16
              try clear c16b0
              try clear c16b1
              try clear c17
              try clear c17b0
              try clear c17b1
              try clear c17b2
              try clear c19
              try clear p2
              obtain ⟨kq, x37_14, rfl, HA, HJ14, HB⟩ := hcut
              cases kq with
              | zero => exact absurd HA.out (by simp [rifflelaw04_NumeralParts.j1])
              | succ kj14 =>
                have H := HA.out
                clear HA
                simp only [rifflelaw04_NumeralParts.j1] at H
                by_cases c20 : x37_14 = true
                · subst c20
                  have H1 : (some false) = some r := by rw [if_pos rfl] at H; exact H
                  clear H
                  have H := H1
                  clear H1
                  obtain rfl := Option.some.inj H
                  go_wp2
                  go_ret
                  exact ⟨by first | rfl | (simp [errW_none, errW_some] <;> rfl) | (simp [*, errW_none, errW_some] <;> rfl), by repeat (first | (with_reducible first | exact HB.out | apply below_alloc | apply pw_below_drewN | apply below_drew1) | exact HB.out)⟩
                · replace c20 := Bool.eq_false_iff.mpr c20
                  subst c20
                  have H1 : ((some (([(⟨#[44]⟩ : ByteArray), (⟨#[93]⟩ : ByteArray), (⟨#[125]⟩ : ByteArray), (⟨#[32]⟩ : ByteArray), (⟨#[10]⟩ : ByteArray), (⟨#[58]⟩ : ByteArray)] : List ByteArray) : List ByteArray)).bind fun y117 => (rifflelaw04_NumeralParts.l0 kj14 a0 y117 (y117.length : Int) 0)) = some r := by rw [if_neg (show ¬ (false = true) by decide)] at H; exact H
                  clear H
                  have H := H1
                  clear H1
                  obtain ⟨y117, hy117⟩ : ∃ y_ : List ByteArray, y_ = (([(⟨#[44]⟩ : ByteArray), (⟨#[93]⟩ : ByteArray), (⟨#[125]⟩ : ByteArray), (⟨#[32]⟩ : ByteArray), (⟨#[10]⟩ : ByteArray), (⟨#[58]⟩ : ByteArray)] : List ByteArray)) := ⟨_, rfl⟩
                  replace H : (rifflelaw04_NumeralParts.l0 kj14 a0 y117 (y117.length : Int) 0) = some r := by first | (rw [hy117]; with_reducible exact H) | (have H2_ := (Option.bind_some _ _).symm.trans H; rw [hy117]; with_reducible exact H2_) | (have H2_ := (Option.bind_some _ _).symm.trans H; with_reducible exact H2_) | with_reducible exact H | (rw [hy117]; exact H) | exact H
                  have Ny117 := Aside0.mk hy117
                  clear hy117
                  have H' := Aside0.mk H
                  clear H
                  go_wp2_with (first | ((with_reducible refine gate_dst (N := 38) rfl ?_); (try (refine gate_guard (by rfl) ?_; dsimp only)); refine Kd.R_lit Kd.string _ 9 ?hg (N := 38) ?hd (xs := ([(⟨#[44]⟩ : ByteArray), (⟨#[93]⟩ : ByteArray), (⟨#[125]⟩ : ByteArray), (⟨#[32]⟩ : ByteArray), (⟨#[10]⟩ : ByteArray), (⟨#[58]⟩ : ByteArray)] : List ByteArray)) (inner := [.string (⟨#[44]⟩ : ByteArray), .string (⟨#[93]⟩ : ByteArray), .string (⟨#[125]⟩ : ByteArray), .string (⟨#[32]⟩ : ByteArray), .string (⟨#[10]⟩ : ByteArray), .string (⟨#[58]⟩ : ByteArray)]) (ok := fun _ => True) (okp := fun _ => True) ?hr ?hp (fun _ hk => hk) trivial (Below.refl _ _) (Nat.le_refl _) (by simp) ?_; (case hd => rfl); (case hg => rfl); (case hr => first | (go_simp; done) | (go_simp; rfl)); (case hp => exact (Reps.one (show Kd.M Kd.string _ _ _ (⟨#[44]⟩ : ByteArray) [.string (⟨#[44]⟩ : ByteArray)] from rfl) (Reps.one (show Kd.M Kd.string _ _ _ (⟨#[93]⟩ : ByteArray) [.string (⟨#[93]⟩ : ByteArray)] from rfl) (Reps.one (show Kd.M Kd.string _ _ _ (⟨#[125]⟩ : ByteArray) [.string (⟨#[125]⟩ : ByteArray)] from rfl) (Reps.one (show Kd.M Kd.string _ _ _ (⟨#[32]⟩ : ByteArray) [.string (⟨#[32]⟩ : ByteArray)] from rfl) (Reps.one (show Kd.M Kd.string _ _ _ (⟨#[10]⟩ : ByteArray) [.string (⟨#[10]⟩ : ByteArray)] from rfl) (Reps.one (show Kd.M Kd.string _ _ _ (⟨#[58]⟩ : ByteArray) [.string (⟨#[58]⟩ : ByteArray)] from rfl) (Reps.none _ _)))))))); intro v118 w21 ho22 hb hg_ hnew_; clear hg_ hnew_; (first | rw [← Ny117.out] at ho22 | (simp only [Int.reduceToNat] at ho22; rw [← Ny117.out] at ho22)); have n0_ := Aside0.mk (Kd.R_lower ho22 (below_size (by repeat (first | (with_reducible first | exact HB.out | apply below_alloc | apply pw_below_drewN | apply below_drew1) | exact HB.out)))); have n1_ := Aside0.mk (below_step (by repeat (first | (with_reducible first | exact HB.out | apply below_alloc | apply pw_below_drewN | apply below_drew1) | exact HB.out)) hb); clear HB; have HO119 := n0_; have HB := n1_; clear n0_ n1_; clear hb ho22; obtain ⟨Ao23, co23, eo23⟩ := Kd.R_slice HO119.out; subst eo23))
                  go_loopg [40] kj14 (fun kq v40 w' => ∃ (x40_3 : Int), v40 = .int .i64 x40_3 ∧ Aside0 (rifflelaw04_NumeralParts.l0 kq a0 y117 (y117.length : Int) x40_3 = some r) ∧ Aside0 (kq ≤ kj14) ∧ Aside0 (Kd.R Kd.string 9 w' w.heap.size (fun _ => True) (.slice Ao23 y117.length co23) y117) ∧ Aside0 (Below w.heap.size w w'))
                  case atStart => exact ⟨(0), (by first | rfl | (simp; done) | (simp [*]; done)), H', ⟨Nat.le_refl _⟩, ⟨by (with_reducible repeat (first | apply Kd.R_alloc | apply Kd.R_drewN | apply Kd.R_drew)); exact HO119.out⟩, ⟨by repeat (first | (with_reducible first | exact HB.out | apply below_alloc | apply pw_below_drewN | apply below_drew1) | exact HB.out)⟩⟩
                  case round =>
                    clear H'
                    try clear c1
                    try clear c2
                    try clear p2
                    try clear c3
                    try clear c4
                    try clear c4b0
                    try clear c4b1
                    try clear c8
                    try clear c10
                    try clear c10b0
                    try clear c11
                    try clear c11b0
                    try clear c14
                    try clear c16
                    try clear c16b0
                    try clear c16b1
                    try clear c17
                    try clear c17b0
                    try clear c17b1
                    try clear c17b2
                    try clear c19
                    try clear c20
                    try clear p2
                    obtain ⟨x40_3, rfl, HA, HK3, HO_38, HB⟩ := hrel
                    cases gk with
                    | zero => exact absurd HA.out (by simp [rifflelaw04_NumeralParts.l0])
                    | succ k3 =>
                      have H := HA.out
                      clear HA
                      simp only [rifflelaw04_NumeralParts.l0] at H
                      by_cases c24 : x40_3 < (y117.length : Int)
                      · rw [if_pos c24] at H
                        have c24b0 : decide (x40_3 < (y117.length : Int)) = true := decide_eq_true c24
                        clear c24
                        by_cases c25 : 0 ≤ x40_3
                        · rw [if_pos c25] at H
                          have c25b0 : decide (0 ≤ x40_3) = true := decide_eq_true c25
                          clear c25
                          by_cases c26 : x40_3 < (y117.length : Int)
                          · rw [if_pos c26] at H
                            have c26b0 : decide (x40_3 < (y117.length : Int)) = true := decide_eq_true c26
                            clear c26
                            replace H := Option.bind_eq_some_iff.mp H
                            obtain ⟨t121, A270, H⟩ := H
                            replace H : (if t121 = true then (if a0.size + (rdOf ByteArray.empty y117 x40_3).size ≤ 9223372036854775807 then (if (a0 ++ (rdOf ByteArray.empty y117 x40_3)).size + 1 ≤ 9223372036854775807 then ((numeral_Count.f k3 ((a0 ++ (rdOf ByteArray.empty y117 x40_3)) ++ (⟨#[49]⟩ : ByteArray))).bind fun t122 => (if t122 = (a0.size : Int) then ((numeral_Fault.f k3 (a0 ++ (rdOf ByteArray.empty y117 x40_3))).bind fun t123 => (if t123 = (a0.size : Int) then (rifflelaw04_NumeralParts.l0 k3 a0 y117 (y117.length : Int) (wrap64 (x40_3 + 1))) else (some false))) else (some false))) else (none)) else (none)) else (rifflelaw04_NumeralParts.l0 k3 a0 y117 (y117.length : Int) (wrap64 (x40_3 + 1)))) = some r := H
                            have A27 := Aside0.mk A270
                            clear A270
                            by_cases c28 : t121 = true
                            · subst c28
                              have H1 : (if a0.size + (rdOf ByteArray.empty y117 x40_3).size ≤ 9223372036854775807 then (if (a0 ++ (rdOf ByteArray.empty y117 x40_3)).size + 1 ≤ 9223372036854775807 then ((numeral_Count.f k3 ((a0 ++ (rdOf ByteArray.empty y117 x40_3)) ++ (⟨#[49]⟩ : ByteArray))).bind fun t122 => (if t122 = (a0.size : Int) then ((numeral_Fault.f k3 (a0 ++ (rdOf ByteArray.empty y117 x40_3))).bind fun t123 => (if t123 = (a0.size : Int) then (rifflelaw04_NumeralParts.l0 k3 a0 y117 (y117.length : Int) (wrap64 (x40_3 + 1))) else (some false))) else (some false))) else (none)) else (none)) = some r := by rw [if_pos rfl] at H; exact H
                              clear H
                              have H := H1
                              clear H1
                              by_cases c29 : a0.size + (rdOf ByteArray.empty y117 x40_3).size ≤ 9223372036854775807
                              · rw [if_pos c29] at H
                                have c29b0 := eq_true c29
                                have c29b1 : decide (a0.size + (rdOf ByteArray.empty y117 x40_3).size ≤ 9223372036854775807) = true := decide_eq_true c29
                                try have c29b2 : (9223372036854775807 < a0.size + (rdOf ByteArray.empty y117 x40_3).size) = False := eq_false (Nat.not_lt.2 c29)
                                by_cases c30 : (a0 ++ (rdOf ByteArray.empty y117 x40_3)).size + 1 ≤ 9223372036854775807
                                · rw [if_pos c30] at H
                                  have c30b0 := eq_true c30
                                  have c30b1 : decide ((a0 ++ (rdOf ByteArray.empty y117 x40_3)).size + 1 ≤ 9223372036854775807) = true := decide_eq_true c30
                                  try have c30b2 : (9223372036854775807 < (a0 ++ (rdOf ByteArray.empty y117 x40_3)).size + 1) = False := eq_false (Nat.not_lt.2 c30)
                                  try have c30b4 : (a0.size + (rdOf ByteArray.empty y117 x40_3).size + 1 ≤ 9223372036854775807) = True := eq_true (by have h_ := c30; rw [ByteArray.size_append] at h_; exact h_)
                                  try have c30b5 : (9223372036854775807 < a0.size + (rdOf ByteArray.empty y117 x40_3).size + 1) = False := eq_false (by have h_ := c30; rw [ByteArray.size_append] at h_; omega)
                                  replace H := Option.bind_eq_some_iff.mp H
                                  obtain ⟨t122, A310, H⟩ := H
                                  replace H : (if t122 = (a0.size : Int) then ((numeral_Fault.f k3 (a0 ++ (rdOf ByteArray.empty y117 x40_3))).bind fun t123 => (if t123 = (a0.size : Int) then (rifflelaw04_NumeralParts.l0 k3 a0 y117 (y117.length : Int) (wrap64 (x40_3 + 1))) else (some false))) else (some false)) = some r := H
                                  have A31 := Aside0.mk A310
                                  clear A310
                                  by_cases c32 : t122 = (a0.size : Int)
                                  · rw [if_pos c32] at H
                                    have c32b0 : (t122 == (a0.size : Int)) = true := beq_iff_eq.mpr c32
                                    have c32b1 : (t122 != (a0.size : Int)) = false := bne_eq_false_iff_eq.mpr c32
                                    clear c32
                                    replace H := Option.bind_eq_some_iff.mp H
                                    obtain ⟨t123, A330, H⟩ := H
                                    replace H : (if t123 = (a0.size : Int) then (rifflelaw04_NumeralParts.l0 k3 a0 y117 (y117.length : Int) (wrap64 (x40_3 + 1))) else (some false)) = some r := H
                                    have A33 := Aside0.mk A330
                                    clear A330
                                    by_cases c34 : t123 = (a0.size : Int)
                                    · rw [if_pos c34] at H
                                      have c34b0 : (t123 == (a0.size : Int)) = true := beq_iff_eq.mpr c34
                                      have c34b1 : (t123 != (a0.size : Int)) = false := bne_eq_false_iff_eq.mpr c34
                                      clear c34
                                      have H' := Aside0.mk H
                                      clear H
                                      have p120 : 0 ≤ (x40_3 : Int) := of_decide_eq_true (by first | (with_reducible assumption) | assumption)
                                      have q120 : x40_3 < (y117.length : Int) := of_decide_eq_true (by first | (with_reducible assumption) | assumption)
                                      obtain ⟨ad120, e120, hx120_0⟩ := Kd.at_string (Kd.R_reads' HO_38.out).2.2 x40_3 p120 q120
                                      cases e120
                                      replace p120 := eq_true p120
                                      replace q120 := eq_true q120
                                      go_wp2_with (first | ((with_reducible refine gate_callee (f := 24) rfl ?_); refine goesL_ (some 45) rfl rfl Try.func24 (by kernel_rfl) rfl #[.string a0] rfl (by (try simp only [List.map_toArray, List.map_cons, List.map_nil]); first | done | rfl | (simp only [List.length_drop, List.length_take]; rfl)) ?_; (with_reducible refine (numeral_Is.calls k3 a0 true _ A27.out).mono ?_); rintro e w35 ⟨rfl, hb⟩; refine ⟨_, rfl, ?_⟩; have n0_ := Aside0.mk (Kd.R_below (by (with_reducible repeat (first | apply Kd.R_alloc | apply Kd.R_drewN | apply Kd.R_drew)); exact HO_38.out) hb); have n1_ := Aside0.mk (below_step (by repeat (first | (with_reducible first | exact HB.out | apply below_alloc | apply pw_below_drewN | apply below_drew1) | exact HB.out)) hb); clear HO_38; clear HB; have HO_38 := n0_; have HB := n1_; clear n0_ n1_; (try clear hb); (try clear hb2); (try clear hk); (try clear hi)) | (go_at_call 27; (with_reducible refine (numeral_Count.calls k3 ((a0 ++ (rdOf ByteArray.empty y117 x40_3)) ++ (⟨#[49]⟩ : ByteArray)) t122 _ A31.out).mono ?_); rintro e w36 ⟨rfl, hb⟩; have n0_ := Aside0.mk (Kd.R_below (by (with_reducible repeat (first | apply Kd.R_alloc | apply Kd.R_drewN | apply Kd.R_drew)); exact HO_38.out) hb); have n1_ := Aside0.mk (below_step (by repeat (first | (with_reducible first | exact HB.out | apply below_alloc | apply pw_below_drewN | apply below_drew1) | exact HB.out)) hb); clear HO_38; clear HB; have HO_38 := n0_; have HB := n1_; clear n0_ n1_; (try clear hb); (try clear hb2); (try clear hk); (try clear hi)) | (go_at_call 25; (with_reducible refine (numeral_Fault.calls k3 (a0 ++ (rdOf ByteArray.empty y117 x40_3)) t123 _ A33.out).mono ?_); rintro e w37 ⟨rfl, hb⟩; have n0_ := Aside0.mk (Kd.R_below (by (with_reducible repeat (first | apply Kd.R_alloc | apply Kd.R_drewN | apply Kd.R_drew)); exact HO_38.out) hb); have n1_ := Aside0.mk (below_step (by repeat (first | (with_reducible first | exact HB.out | apply below_alloc | apply pw_below_drewN | apply below_drew1) | exact HB.out)) hb); clear HO_38; clear HB; have HO_38 := n0_; have HB := n1_; clear n0_ n1_; (try clear hb); (try clear hb2); (try clear hk); (try clear hi)))
                                      go_roundg k3
                                      case measure => have := HJ6.out; have := HJ14.out; have := HK3.out; omega
                                      case rel => exact ⟨(wrap64 (x40_3 + 1)), (by first | rfl | (simp; done) | (simp [*]; done)), H', ⟨by have := HJ6.out; have := HJ14.out; have := HK3.out; omega⟩, ⟨by (with_reducible repeat (first | apply Kd.R_alloc | apply Kd.R_drewN | apply Kd.R_drew)); exact HO_38.out⟩, ⟨by repeat (first | (with_reducible first | exact HB.out | apply below_alloc | apply pw_below_drewN | apply below_drew1) | exact HB.out)⟩⟩
                                    · rw [if_neg c34] at H
                                      have c34b0 : (t123 == (a0.size : Int)) = false := beq_eq_false_iff_ne.mpr c34
                                      have c34b1 : (t123 != (a0.size : Int)) = true := bne_iff_ne.mpr c34
                                      obtain rfl := Option.some.inj H
                                      have p120 : 0 ≤ (x40_3 : Int) := of_decide_eq_true (by first | (with_reducible assumption) | assumption)
                                      have q120 : x40_3 < (y117.length : Int) := of_decide_eq_true (by first | (with_reducible assumption) | assumption)
                                      obtain ⟨ad120, e120, hx120_0⟩ := Kd.at_string (Kd.R_reads' HO_38.out).2.2 x40_3 p120 q120
                                      cases e120
                                      replace p120 := eq_true p120
                                      replace q120 := eq_true q120
                                      go_wp2_with (first | ((with_reducible refine gate_callee (f := 24) rfl ?_); refine goesL_ (some 45) rfl rfl Try.func24 (by kernel_rfl) rfl #[.string a0] rfl (by (try simp only [List.map_toArray, List.map_cons, List.map_nil]); first | done | rfl | (simp only [List.length_drop, List.length_take]; rfl)) ?_; (with_reducible refine (numeral_Is.calls k3 a0 true _ A27.out).mono ?_); rintro e w38 ⟨rfl, hb⟩; refine ⟨_, rfl, ?_⟩; have n0_ := Aside0.mk (Kd.R_below (by (with_reducible repeat (first | apply Kd.R_alloc | apply Kd.R_drewN | apply Kd.R_drew)); exact HO_38.out) hb); have n1_ := Aside0.mk (below_step (by repeat (first | (with_reducible first | exact HB.out | apply below_alloc | apply pw_below_drewN | apply below_drew1) | exact HB.out)) hb); clear HO_38; clear HB; have HO_38 := n0_; have HB := n1_; clear n0_ n1_; (try clear hb); (try clear hb2); (try clear hk); (try clear hi)) | (go_at_call 27; (with_reducible refine (numeral_Count.calls k3 ((a0 ++ (rdOf ByteArray.empty y117 x40_3)) ++ (⟨#[49]⟩ : ByteArray)) t122 _ A31.out).mono ?_); rintro e w39 ⟨rfl, hb⟩; have n0_ := Aside0.mk (Kd.R_below (by (with_reducible repeat (first | apply Kd.R_alloc | apply Kd.R_drewN | apply Kd.R_drew)); exact HO_38.out) hb); have n1_ := Aside0.mk (below_step (by repeat (first | (with_reducible first | exact HB.out | apply below_alloc | apply pw_below_drewN | apply below_drew1) | exact HB.out)) hb); clear HO_38; clear HB; have HO_38 := n0_; have HB := n1_; clear n0_ n1_; (try clear hb); (try clear hb2); (try clear hk); (try clear hi)) | (go_at_call 25; (with_reducible refine (numeral_Fault.calls k3 (a0 ++ (rdOf ByteArray.empty y117 x40_3)) t123 _ A33.out).mono ?_); rintro e w40 ⟨rfl, hb⟩; have n0_ := Aside0.mk (Kd.R_below (by (with_reducible repeat (first | apply Kd.R_alloc | apply Kd.R_drewN | apply Kd.R_drew)); exact HO_38.out) hb); have n1_ := Aside0.mk (below_step (by repeat (first | (with_reducible first | exact HB.out | apply below_alloc | apply pw_below_drewN | apply below_drew1) | exact HB.out)) hb); clear HO_38; clear HB; have HO_38 := n0_; have HB := n1_; clear n0_ n1_; (try clear hb); (try clear hb2); (try clear hk); (try clear hi)))
                                      go_ret
                                      exact ⟨by first | rfl | (simp [errW_none, errW_some] <;> rfl) | (simp [*, errW_none, errW_some] <;> rfl), by repeat (first | (with_reducible first | exact HB.out | apply below_alloc | apply pw_below_drewN | apply below_drew1) | exact HB.out)⟩
                                  · rw [if_neg c32] at H
                                    have c32b0 : (t122 == (a0.size : Int)) = false := beq_eq_false_iff_ne.mpr c32
                                    have c32b1 : (t122 != (a0.size : Int)) = true := bne_iff_ne.mpr c32
                                    obtain rfl := Option.some.inj H
                                    have p120 : 0 ≤ (x40_3 : Int) := of_decide_eq_true (by first | (with_reducible assumption) | assumption)
                                    have q120 : x40_3 < (y117.length : Int) := of_decide_eq_true (by first | (with_reducible assumption) | assumption)
                                    obtain ⟨ad120, e120, hx120_0⟩ := Kd.at_string (Kd.R_reads' HO_38.out).2.2 x40_3 p120 q120
                                    cases e120
                                    replace p120 := eq_true p120
                                    replace q120 := eq_true q120
                                    go_wp2_with (first | ((with_reducible refine gate_callee (f := 24) rfl ?_); refine goesL_ (some 45) rfl rfl Try.func24 (by kernel_rfl) rfl #[.string a0] rfl (by (try simp only [List.map_toArray, List.map_cons, List.map_nil]); first | done | rfl | (simp only [List.length_drop, List.length_take]; rfl)) ?_; (with_reducible refine (numeral_Is.calls k3 a0 true _ A27.out).mono ?_); rintro e w41 ⟨rfl, hb⟩; refine ⟨_, rfl, ?_⟩; have n0_ := Aside0.mk (Kd.R_below (by (with_reducible repeat (first | apply Kd.R_alloc | apply Kd.R_drewN | apply Kd.R_drew)); exact HO_38.out) hb); have n1_ := Aside0.mk (below_step (by repeat (first | (with_reducible first | exact HB.out | apply below_alloc | apply pw_below_drewN | apply below_drew1) | exact HB.out)) hb); clear HO_38; clear HB; have HO_38 := n0_; have HB := n1_; clear n0_ n1_; (try clear hb); (try clear hb2); (try clear hk); (try clear hi)) | (go_at_call 27; (with_reducible refine (numeral_Count.calls k3 ((a0 ++ (rdOf ByteArray.empty y117 x40_3)) ++ (⟨#[49]⟩ : ByteArray)) t122 _ A31.out).mono ?_); rintro e w42 ⟨rfl, hb⟩; have n0_ := Aside0.mk (Kd.R_below (by (with_reducible repeat (first | apply Kd.R_alloc | apply Kd.R_drewN | apply Kd.R_drew)); exact HO_38.out) hb); have n1_ := Aside0.mk (below_step (by repeat (first | (with_reducible first | exact HB.out | apply below_alloc | apply pw_below_drewN | apply below_drew1) | exact HB.out)) hb); clear HO_38; clear HB; have HO_38 := n0_; have HB := n1_; clear n0_ n1_; (try clear hb); (try clear hb2); (try clear hk); (try clear hi)))
                                    go_ret
                                    exact ⟨by first | rfl | (simp [errW_none, errW_some] <;> rfl) | (simp [*, errW_none, errW_some] <;> rfl), by repeat (first | (with_reducible first | exact HB.out | apply below_alloc | apply pw_below_drewN | apply below_drew1) | exact HB.out)⟩
                                · rw [if_neg c30] at H
                                  exact absurd H (by simp)
                              · rw [if_neg c29] at H
                                exact absurd H (by simp)
                            · replace c28 := Bool.eq_false_iff.mpr c28
                              subst c28
                              have H1 : (rifflelaw04_NumeralParts.l0 k3 a0 y117 (y117.length : Int) (wrap64 (x40_3 + 1))) = some r := by rw [if_neg (show ¬ (false = true) by decide)] at H; exact H
                              clear H
                              have H := H1
                              clear H1
                              have H' := Aside0.mk H
                              clear H
                              have p120 : 0 ≤ (x40_3 : Int) := of_decide_eq_true (by first | (with_reducible assumption) | assumption)
                              have q120 : x40_3 < (y117.length : Int) := of_decide_eq_true (by first | (with_reducible assumption) | assumption)
                              obtain ⟨ad120, e120, hx120_0⟩ := Kd.at_string (Kd.R_reads' HO_38.out).2.2 x40_3 p120 q120
                              cases e120
                              replace p120 := eq_true p120
                              replace q120 := eq_true q120
                              go_wp2_with (first | ((with_reducible refine gate_callee (f := 24) rfl ?_); refine goesL_ (some 45) rfl rfl Try.func24 (by kernel_rfl) rfl #[.string a0] rfl (by (try simp only [List.map_toArray, List.map_cons, List.map_nil]); first | done | rfl | (simp only [List.length_drop, List.length_take]; rfl)) ?_; (with_reducible refine (numeral_Is.calls k3 a0 false _ A27.out).mono ?_); rintro e w43 ⟨rfl, hb⟩; refine ⟨_, rfl, ?_⟩; have n0_ := Aside0.mk (Kd.R_below (by (with_reducible repeat (first | apply Kd.R_alloc | apply Kd.R_drewN | apply Kd.R_drew)); exact HO_38.out) hb); have n1_ := Aside0.mk (below_step (by repeat (first | (with_reducible first | exact HB.out | apply below_alloc | apply pw_below_drewN | apply below_drew1) | exact HB.out)) hb); clear HO_38; clear HB; have HO_38 := n0_; have HB := n1_; clear n0_ n1_; (try clear hb); (try clear hb2); (try clear hk); (try clear hi)))
                              go_roundg k3
                              case measure => have := HJ6.out; have := HJ14.out; have := HK3.out; omega
                              case rel => exact ⟨(wrap64 (x40_3 + 1)), (by first | rfl | (simp; done) | (simp [*]; done)), H', ⟨by have := HJ6.out; have := HJ14.out; have := HK3.out; omega⟩, ⟨by (with_reducible repeat (first | apply Kd.R_alloc | apply Kd.R_drewN | apply Kd.R_drew)); exact HO_38.out⟩, ⟨by repeat (first | (with_reducible first | exact HB.out | apply below_alloc | apply pw_below_drewN | apply below_drew1) | exact HB.out)⟩⟩
                          · rw [if_neg c26] at H
                            exact absurd H (by simp)
                        · rw [if_neg c25] at H
                          exact absurd H (by simp)
                      · rw [if_neg c24] at H
                        have c24b0 : decide (x40_3 < (y117.length : Int)) = false := decide_eq_false c24
                        clear c24
                        obtain rfl := Option.some.inj H
                        go_wp2
                        go_ret
                        exact ⟨by first | rfl | (simp [errW_none, errW_some] <;> rfl) | (simp [*, errW_none, errW_some] <;> rfl), by repeat (first | (with_reducible first | exact HB.out | apply below_alloc | apply pw_below_drewN | apply below_drew1) | exact HB.out)⟩
  · replace c3 := Bool.eq_false_iff.mpr c3
    subst c3
    have H1 : (some false) = some r := by rw [if_neg (show ¬ (false = true) by decide)] at H; exact H
    clear H
    have H := H1
    clear H1
    obtain rfl := Option.some.inj H
    go_enter Try.func8, Try.ntmps8
    go_wp2_with (first | ((with_reducible refine gate_callee (f := 19) rfl ?_); refine goesL_ (some 6) rfl rfl Try.func19 (by kernel_rfl) rfl #[] rfl (by (try simp only [List.map_toArray, List.map_cons, List.map_nil]); first | done | rfl | (simp only [List.length_drop, List.length_take]; rfl)) ?_; (with_reducible refine (rifflelaw04_numeralAlive.calls k  false _ A2.out).mono ?_); rintro e w44 ⟨rfl, hb⟩; refine ⟨_, rfl, ?_⟩; have n0_ := Aside0.mk (below_step (by repeat (first | (with_reducible first | exact HB.out | apply below_alloc | apply pw_below_drewN | apply below_drew1) | exact HB.out)) hb); clear HB; have HB := n0_; clear n0_; (try clear hb); (try clear hb2); (try clear hk); (try clear hi)))
    go_ret
    exact ⟨by first | rfl | (simp [errW_none, errW_some] <;> rfl) | (simp [*, errW_none, errW_some] <;> rfl), by repeat (first | (with_reducible first | exact HB.out | apply below_alloc | apply pw_below_drewN | apply below_drew1) | exact HB.out)⟩

/-- THE ONE PURE STATEMENT of rifflelaw04_NumeralParts: yours. -/
def rifflelaw04_NumeralParts.Pure : Prop := ∀ (a0 : ByteArray), a0.size ≤ 140737488351232 → ∃ k, rifflelaw04_NumeralParts.f k a0 = some true
theorem rifflelaw04_NumeralParts.walk (P : rifflelaw04_NumeralParts.Pure) (a0 : ByteArray) (w : World) (w0 : a0.size ≤ 140737488351232) :
    Calls Try.prog 8 #[.string a0] w fun e w' => e = .returned (.bool true) ∧ Below w.heap.size w w' := by
  obtain ⟨k, h⟩ := P a0 w0
  refine (rifflelaw04_NumeralParts.calls k a0 true w h).mono ?_
  rintro e w' ⟨rfl, hd⟩
  exact ⟨rfl, hd⟩

end Go.Proofs.Ytjfoppmpiklfiab.PNumeralParts
