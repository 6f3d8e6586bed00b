/- Contracts of functions that the law NumeralWalks reaches. Conditions: none. -/
import Derived.Test.YtjfoppmpiklfiabPNumeralWalksx0
import Derived.Test.YtjfoppmpiklfiabPNumeralWalksx1
import Derived.Test.YtjfoppmpiklfiabPNumeralWalksx2
namespace Go.Proofs.Ytjfoppmpiklfiab.PNumeralWalks
open Go.RowKit Go.Proofs.YtjfoppmpiklfiabW.PrintWords Go.Proofs.YtjfoppmpiklfiabW.PrintLast Go.Proofs.YtjfoppmpiklfiabW.PrintMore
attribute [local go_sem] max2_int min2_int max_two min_two max_three min_three max_four min_four   -- for this text's walks alone
set_option linter.unusedVariables false
set_option linter.unusedSimpArgs false

/-! ### octet_Alpha: function 53 -/
def octet_Alpha.f (a0 : Int) : Option (Bool) := if a0 ≥ 97 then (if a0 ≤ 122 then (some true) else (if a0 ≥ 65 then (some (decide (a0 ≤ 90))) else (some false))) else (if a0 ≥ 65 then (some (decide (a0 ≤ 90))) else (some false))
set_option maxHeartbeats 8000000 in
set_option maxRecDepth 100000 in
theorem octet_Alpha.calls (a0 : Int) (r : Bool) (w : World) (h : octet_Alpha.f a0 = some r) :
    Calls Try.prog 53 #[.int .u8 a0] w fun e w' => e = .returned (.bool r) ∧ Drawn0 w w' := by
  have H : (if a0 ≥ 97 then (if a0 ≤ 122 then (some true) else (if a0 ≥ 65 then (some (decide (a0 ≤ 90))) else (some false))) else (if a0 ≥ 65 then (some (decide (a0 ≤ 90))) else (some false))) = some r := h
  clear h
  by_cases c2 : a0 ≥ 97
  · rw [if_pos c2] at H
    have c2b0 : decide (97 ≤ a0) = true := decide_eq_true c2
    clear c2
    by_cases c3 : a0 ≤ 122
    · rw [if_pos c3] at H
      have c3b0 : decide (a0 ≤ 122) = true := decide_eq_true c3
      clear c3
      obtain rfl := Option.some.inj H
      go_enter Try.func53, Try.ntmps53
      go_wp2
      go_ret
      exact ⟨by first | rfl | (simp; done) | (simp [*]; done), by repeat (first | exact Drawn0.refl _ | apply Drawn0.step)⟩
    · rw [if_neg c3] at H
      have c3b0 : decide (a0 ≤ 122) = false := decide_eq_false c3
      clear c3
      by_cases c4 : a0 ≥ 65
      · rw [if_pos c4] at H
        have c4b0 : decide (65 ≤ a0) = true := decide_eq_true c4
        clear c4
        obtain rfl := Option.some.inj H
        go_enter Try.func53, Try.ntmps53
        go_wp2
        go_ret
        exact ⟨by first | rfl | (simp; done) | (simp [*]; done), by repeat (first | exact Drawn0.refl _ | apply Drawn0.step)⟩
      · rw [if_neg c4] at H
        have c4b0 : decide (65 ≤ a0) = false := decide_eq_false c4
        clear c4
        obtain rfl := Option.some.inj H
        go_enter Try.func53, Try.ntmps53
        go_wp2
        go_ret
        exact ⟨by first | rfl | (simp; done) | (simp [*]; done), by repeat (first | exact Drawn0.refl _ | apply Drawn0.step)⟩
  · rw [if_neg c2] at H
    have c2b0 : decide (97 ≤ a0) = false := decide_eq_false c2
    clear c2
    by_cases c5 : a0 ≥ 65
    · rw [if_pos c5] at H
      have c5b0 : decide (65 ≤ a0) = true := decide_eq_true c5
      clear c5
      obtain rfl := Option.some.inj H
      go_enter Try.func53, Try.ntmps53
      go_wp2
      go_ret
      exact ⟨by first | rfl | (simp; done) | (simp [*]; done), by repeat (first | exact Drawn0.refl _ | apply Drawn0.step)⟩
    · rw [if_neg c5] at H
      have c5b0 : decide (65 ≤ a0) = false := decide_eq_false c5
      clear c5
      obtain rfl := Option.some.inj H
      go_enter Try.func53, Try.ntmps53
      go_wp2
      go_ret
      exact ⟨by first | rfl | (simp; done) | (simp [*]; done), by repeat (first | exact Drawn0.refl _ | apply Drawn0.step)⟩

/-! ### numeral_Walk_Step: function 22 -/
def numeral_Walk_Step.f (k : Nat) (s0_0 : Int) (a1 : Int) : Option (Int × Int) := (numeral_Walk_next.f k s0_0 a1).bind fun bt102 => (if bt102.1 = 0 then ((numeral_Walk_Whole.f bt102.2).bind fun bt104 => (if bt104.1 = true then ((octet_Digit.f a1).bind fun t106 => (if t106 = true then (some (2, bt104.2)) else ((octet_Alpha.f a1).bind fun t107 => (if t107 = true then (some (2, bt104.2)) else (if a1 = 46 then (some (2, bt104.2)) else (if a1 = 43 then (some (2, bt104.2)) else (if a1 = 45 then (some (2, bt104.2)) else (some (1, bt104.2))))))))) else (some (2, bt104.2)))) else (some (0, bt102.1)))
theorem numeral_Walk_Step.mono : ∀ a0 a1 k, LeO (numeral_Walk_Step.f k a0 a1) (numeral_Walk_Step.f (k + 1) a0 a1) := by
  intro a0 a1 k
  unfold numeral_Walk_Step.f
  repeat' first
      | (with_reducible exact numeral_Walk_next.mono _ _ _)
      | (with_reducible exact LeO.refl _)
      | (with_reducible exact LeO.none _)
      | (with_reducible refine LeO.ite ?_ ?_)
      | (with_reducible refine LeO.bind ?_ (fun _ => ?_))
      | exact numeral_Walk_next.mono _ _ _
      | exact LeO.none _
      | refine LeO.ite ?_ ?_
      | refine LeO.bind ?_ (fun _ => ?_)
set_option maxHeartbeats 8000000 in
set_option maxRecDepth 100000 in
theorem numeral_Walk_Step.calls (k : Nat) (g : Nat) (s0_0 : Int) (a1 : Int) (r1 : Int) (r2 : Int) (w0 w : World) (hI : IsS33 w0 w g s0_0) (hB : Below w0.heap.size w0 w) (h : numeral_Walk_Step.f k s0_0 a1 = some (r1, r2)) :
    Calls Try.prog 22 #[.pointer (some ⟨g, 0, none⟩), .int .u8 a1] w fun e w' => e = .returned (.int .i64 r1) ∧ IsS33 w0 w' g r2 ∧ Below w0.heap.size w0 w' ∧ KeepBut w w' g none := by
  have HI0 := Aside0.mk hI
  have HK := Aside0.mk (KeepBut.refl w g none)
  have HL := Aside0.mk hB.size
  clear hI
  have HW0 := Aside0.mk hB.size
  have HB := Aside0.mk hB
  clear hB
  have H : ((numeral_Walk_next.f k s0_0 a1).bind fun bt102 => (if bt102.1 = 0 then ((numeral_Walk_Whole.f bt102.2).bind fun bt104 => (if bt104.1 = true then ((octet_Digit.f a1).bind fun t106 => (if t106 = true then (some (2, bt104.2)) else ((octet_Alpha.f a1).bind fun t107 => (if t107 = true then (some (2, bt104.2)) else (if a1 = 46 then (some (2, bt104.2)) else (if a1 = 43 then (some (2, bt104.2)) else (if a1 = 45 then (some (2, bt104.2)) else (some (1, bt104.2))))))))) else (some (2, bt104.2)))) else (some (0, bt102.1)))) = some (r1, r2) := h
  clear h
  replace H := Option.bind_eq_some_iff.mp H
  obtain ⟨⟨t102, t103⟩, A30, H⟩ := H
  replace H : (if t102 = 0 then ((numeral_Walk_Whole.f t103).bind fun bt104 => (if bt104.1 = true then ((octet_Digit.f a1).bind fun t106 => (if t106 = true then (some (2, bt104.2)) else ((octet_Alpha.f a1).bind fun t107 => (if t107 = true then (some (2, bt104.2)) else (if a1 = 46 then (some (2, bt104.2)) else (if a1 = 43 then (some (2, bt104.2)) else (if a1 = 45 then (some (2, bt104.2)) else (some (1, bt104.2))))))))) else (some (2, bt104.2)))) else (some (0, t102))) = some (r1, r2) := H
  have A3 := Aside0.mk A30
  clear A30
  by_cases c4 : t102 = 0
  · rw [if_pos c4] at H
    have c4b0 : (t102 == 0) = true := beq_iff_eq.mpr c4
    have c4b1 : (t102 != 0) = false := bne_eq_false_iff_eq.mpr c4
    clear c4
    replace H := Option.bind_eq_some_iff.mp H
    obtain ⟨⟨t104, t105⟩, A50, H⟩ := H
    replace H : (if t104 = true then ((octet_Digit.f a1).bind fun t106 => (if t106 = true then (some (2, t105)) else ((octet_Alpha.f a1).bind fun t107 => (if t107 = true then (some (2, t105)) else (if a1 = 46 then (some (2, t105)) else (if a1 = 43 then (some (2, t105)) else (if a1 = 45 then (some (2, t105)) else (some (1, t105))))))))) else (some (2, t105))) = some (r1, r2) := H
    have A5 := Aside0.mk A50
    clear A50
    by_cases c6 : t104 = true
    · subst c6
      have H1 : ((octet_Digit.f a1).bind fun t106 => (if t106 = true then (some (2, t105)) else ((octet_Alpha.f a1).bind fun t107 => (if t107 = true then (some (2, t105)) else (if a1 = 46 then (some (2, t105)) else (if a1 = 43 then (some (2, t105)) else (if a1 = 45 then (some (2, t105)) else (some (1, t105))))))))) = some (r1, r2) := by rw [if_pos rfl] at H; exact H
      clear H
      have H := H1
      clear H1
      replace H := Option.bind_eq_some_iff.mp H
      obtain ⟨t106, A70, H⟩ := H
      replace H : (if t106 = true then (some (2, t105)) else ((octet_Alpha.f a1).bind fun t107 => (if t107 = true then (some (2, t105)) else (if a1 = 46 then (some (2, t105)) else (if a1 = 43 then (some (2, t105)) else (if a1 = 45 then (some (2, t105)) else (some (1, t105)))))))) = some (r1, r2) := H
      have A7 := Aside0.mk A70
      clear A70
      by_cases c8 : t106 = true
      · subst c8
        have H1 : (some (2, t105)) = some (r1, r2) := by rw [if_pos rfl] at H; exact H
        clear H
        have H := H1
        clear H1
        simp only [Option.some.injEq, Prod.mk.injEq] at H
        obtain ⟨rfl, rfl⟩ := H
        go_enter Try.func22, Try.ntmps22
        go_wp2_with (first | ((with_reducible refine gate_callee (f := 51) rfl ?_); refine goesL_ (some 8) rfl rfl Try.func51 (by kernel_rfl) rfl #[.pointer (some ⟨g, 0, none⟩), .int .u8 a1] rfl (by (try simp only [List.map_toArray, List.map_cons, List.map_nil]); first | done | rfl | (simp only [List.length_drop, List.length_take]; rfl)) ?_; (with_reducible refine (numeral_Walk_next.calls k g s0_0 a1 t102 t103 w0 _ ?side1 ?side2 A3.out).mono ?_); (case side1 => repeat (first | (with_reducible first | exact HI0.out | apply IsS33.alloc | apply IsS33.drewN | apply IsS33.drew | apply IsS33.set_0) | exact HI0.out)); (case side2 => repeat (first | (with_reducible first | exact HB.out | apply below_alloc | apply pw_below_drewN | apply below_drew1 | refine below_set ?_ (IsS33.ge HI0.out)) | exact HB.out)); rintro e w9 ⟨rfl, hi, hb, hk⟩; refine ⟨_, rfl, ?_⟩; have n0_ := Aside0.mk (KeepBut.trans (by repeat (first | (with_reducible first | exact HK.out | apply KeepBut.set_ | apply keep_drewN | apply keep_drew | apply keep_alloc) | exact HK.out)) hk (.inl rfl)); have n1_ := Aside0.mk (hb); have n2_ := Aside0.mk (hi); clear HK; clear HB; clear HI0; have HK := n0_; have HB := n1_; have HI0 := n2_; clear n0_ n1_ n2_; (try clear hb); (try clear hb2); (try clear hk); (try clear hi)) | ((with_reducible refine gate_callee (f := 20) rfl ?_); refine goesL_ (some 16) rfl rfl Try.func20 (by kernel_rfl) rfl #[.pointer (some ⟨g, 0, none⟩)] rfl (by (try simp only [List.map_toArray, List.map_cons, List.map_nil]); first | done | rfl | (simp only [List.length_drop, List.length_take]; rfl)) ?_; (with_reducible refine (numeral_Walk_Whole.calls g t103 true t105 w0 _ ?side1 ?side2 A5.out).mono ?_); (case side1 => repeat (first | (with_reducible first | exact HI0.out | apply IsS33.alloc | apply IsS33.drewN | apply IsS33.drew | apply IsS33.set_0) | exact HI0.out)); (case side2 => repeat (first | (with_reducible first | exact HB.out | apply below_alloc | apply pw_below_drewN | apply below_drew1 | refine below_set ?_ (IsS33.ge HI0.out)) | exact HB.out)); rintro e w10 ⟨rfl, hi, hb, hk⟩; refine ⟨_, rfl, ?_⟩; have n0_ := Aside0.mk (KeepBut.trans (by repeat (first | (with_reducible first | exact HK.out | apply KeepBut.set_ | apply keep_drewN | apply keep_drew | apply keep_alloc) | exact HK.out)) hk (.inl rfl)); have n1_ := Aside0.mk (hb); have n2_ := Aside0.mk (hi); clear HK; clear HB; clear HI0; have HK := n0_; have HB := n1_; have HI0 := n2_; clear n0_ n1_ n2_; (try clear hb); (try clear hb2); (try clear hk); (try clear hi)) | (go_at_call 52; (with_reducible refine (octet_Digit.calls a1 true _ A7.out).mono ?_); rintro e w' ⟨rfl, ⟨nd, rfl⟩⟩))
        go_ret
        exact ⟨by first | rfl | (simp [errW_none, errW_some] <;> rfl) | (simp [*, errW_none, errW_some] <;> rfl), by repeat (first | (with_reducible first | exact HI0.out | apply IsS33.alloc | apply IsS33.drewN | apply IsS33.drew | apply IsS33.set_0) | exact HI0.out), by repeat (first | (with_reducible first | exact HB.out | apply below_alloc | apply pw_below_drewN | apply below_drew1 | refine below_set ?_ (IsS33.ge HI0.out)) | exact HB.out), by repeat (first | (with_reducible first | exact HK.out | apply KeepBut.set_ | apply keep_drewN | apply keep_drew | apply keep_alloc) | exact HK.out)⟩
      · replace c8 := Bool.eq_false_iff.mpr c8
        subst c8
        have H1 : ((octet_Alpha.f a1).bind fun t107 => (if t107 = true then (some (2, t105)) else (if a1 = 46 then (some (2, t105)) else (if a1 = 43 then (some (2, t105)) else (if a1 = 45 then (some (2, t105)) else (some (1, t105))))))) = some (r1, r2) := by rw [if_neg (show ¬ (false = true) by decide)] at H; exact H
        clear H
        have H := H1
        clear H1
        replace H := Option.bind_eq_some_iff.mp H
        obtain ⟨t107, A110, H⟩ := H
        replace H : (if t107 = true then (some (2, t105)) else (if a1 = 46 then (some (2, t105)) else (if a1 = 43 then (some (2, t105)) else (if a1 = 45 then (some (2, t105)) else (some (1, t105)))))) = some (r1, r2) := H
        have A11 := Aside0.mk A110
        clear A110
        by_cases c12 : t107 = true
        · subst c12
          have H1 : (some (2, t105)) = some (r1, r2) := by rw [if_pos rfl] at H; exact H
          clear H
          have H := H1
          clear H1
          simp only [Option.some.injEq, Prod.mk.injEq] at H
          obtain ⟨rfl, rfl⟩ := H
          go_enter Try.func22, Try.ntmps22
          go_wp2_with (first | ((with_reducible refine gate_callee (f := 51) rfl ?_); refine goesL_ (some 8) rfl rfl Try.func51 (by kernel_rfl) rfl #[.pointer (some ⟨g, 0, none⟩), .int .u8 a1] rfl (by (try simp only [List.map_toArray, List.map_cons, List.map_nil]); first | done | rfl | (simp only [List.length_drop, List.length_take]; rfl)) ?_; (with_reducible refine (numeral_Walk_next.calls k g s0_0 a1 t102 t103 w0 _ ?side1 ?side2 A3.out).mono ?_); (case side1 => repeat (first | (with_reducible first | exact HI0.out | apply IsS33.alloc | apply IsS33.drewN | apply IsS33.drew | apply IsS33.set_0) | exact HI0.out)); (case side2 => repeat (first | (with_reducible first | exact HB.out | apply below_alloc | apply pw_below_drewN | apply below_drew1 | refine below_set ?_ (IsS33.ge HI0.out)) | exact HB.out)); rintro e w13 ⟨rfl, hi, hb, hk⟩; refine ⟨_, rfl, ?_⟩; have n0_ := Aside0.mk (KeepBut.trans (by repeat (first | (with_reducible first | exact HK.out | apply KeepBut.set_ | apply keep_drewN | apply keep_drew | apply keep_alloc) | exact HK.out)) hk (.inl rfl)); have n1_ := Aside0.mk (hb); have n2_ := Aside0.mk (hi); clear HK; clear HB; clear HI0; have HK := n0_; have HB := n1_; have HI0 := n2_; clear n0_ n1_ n2_; (try clear hb); (try clear hb2); (try clear hk); (try clear hi)) | ((with_reducible refine gate_callee (f := 20) rfl ?_); refine goesL_ (some 16) rfl rfl Try.func20 (by kernel_rfl) rfl #[.pointer (some ⟨g, 0, none⟩)] rfl (by (try simp only [List.map_toArray, List.map_cons, List.map_nil]); first | done | rfl | (simp only [List.length_drop, List.length_take]; rfl)) ?_; (with_reducible refine (numeral_Walk_Whole.calls g t103 true t105 w0 _ ?side1 ?side2 A5.out).mono ?_); (case side1 => repeat (first | (with_reducible first | exact HI0.out | apply IsS33.alloc | apply IsS33.drewN | apply IsS33.drew | apply IsS33.set_0) | exact HI0.out)); (case side2 => repeat (first | (with_reducible first | exact HB.out | apply below_alloc | apply pw_below_drewN | apply below_drew1 | refine below_set ?_ (IsS33.ge HI0.out)) | exact HB.out)); rintro e w14 ⟨rfl, hi, hb, hk⟩; refine ⟨_, rfl, ?_⟩; have n0_ := Aside0.mk (KeepBut.trans (by repeat (first | (with_reducible first | exact HK.out | apply KeepBut.set_ | apply keep_drewN | apply keep_drew | apply keep_alloc) | exact HK.out)) hk (.inl rfl)); have n1_ := Aside0.mk (hb); have n2_ := Aside0.mk (hi); clear HK; clear HB; clear HI0; have HK := n0_; have HB := n1_; have HI0 := n2_; clear n0_ n1_ n2_; (try clear hb); (try clear hb2); (try clear hk); (try clear hi)) | (go_at_call 52; (with_reducible refine (octet_Digit.calls a1 false _ A7.out).mono ?_); rintro e w' ⟨rfl, ⟨nd, rfl⟩⟩) | (go_at_call 53; (with_reducible refine (octet_Alpha.calls a1 true _ A11.out).mono ?_); rintro e w' ⟨rfl, ⟨nd, rfl⟩⟩))
          go_ret
          exact ⟨by first | rfl | (simp [errW_none, errW_some] <;> rfl) | (simp [*, errW_none, errW_some] <;> rfl), by repeat (first | (with_reducible first | exact HI0.out | apply IsS33.alloc | apply IsS33.drewN | apply IsS33.drew | apply IsS33.set_0) | exact HI0.out), by repeat (first | (with_reducible first | exact HB.out | apply below_alloc | apply pw_below_drewN | apply below_drew1 | refine below_set ?_ (IsS33.ge HI0.out)) | exact HB.out), by repeat (first | (with_reducible first | exact HK.out | apply KeepBut.set_ | apply keep_drewN | apply keep_drew | apply keep_alloc) | exact HK.out)⟩
        · replace c12 := Bool.eq_false_iff.mpr c12
          subst c12
          have H1 : (if a1 = 46 then (some (2, t105)) else (if a1 = 43 then (some (2, t105)) else (if a1 = 45 then (some (2, t105)) else (some (1, t105))))) = some (r1, r2) := by rw [if_neg (show ¬ (false = true) by decide)] at H; exact H
          clear H
          have H := H1
          clear H1
          by_cases c15 : a1 = 46
          · rw [if_pos c15] at H
            have c15b0 : (a1 == 46) = true := beq_iff_eq.mpr c15
            have c15b1 : (a1 != 46) = false := bne_eq_false_iff_eq.mpr c15
            clear c15
            simp only [Option.some.injEq, Prod.mk.injEq] at H
            obtain ⟨rfl, rfl⟩ := H
            go_enter Try.func22, Try.ntmps22
            go_wp2_with (first | ((with_reducible refine gate_callee (f := 51) rfl ?_); refine goesL_ (some 8) rfl rfl Try.func51 (by kernel_rfl) rfl #[.pointer (some ⟨g, 0, none⟩), .int .u8 a1] rfl (by (try simp only [List.map_toArray, List.map_cons, List.map_nil]); first | done | rfl | (simp only [List.length_drop, List.length_take]; rfl)) ?_; (with_reducible refine (numeral_Walk_next.calls k g s0_0 a1 t102 t103 w0 _ ?side1 ?side2 A3.out).mono ?_); (case side1 => repeat (first | (with_reducible first | exact HI0.out | apply IsS33.alloc | apply IsS33.drewN | apply IsS33.drew | apply IsS33.set_0) | exact HI0.out)); (case side2 => repeat (first | (with_reducible first | exact HB.out | apply below_alloc | apply pw_below_drewN | apply below_drew1 | refine below_set ?_ (IsS33.ge HI0.out)) | exact HB.out)); rintro e w16 ⟨rfl, hi, hb, hk⟩; refine ⟨_, rfl, ?_⟩; have n0_ := Aside0.mk (KeepBut.trans (by repeat (first | (with_reducible first | exact HK.out | apply KeepBut.set_ | apply keep_drewN | apply keep_drew | apply keep_alloc) | exact HK.out)) hk (.inl rfl)); have n1_ := Aside0.mk (hb); have n2_ := Aside0.mk (hi); clear HK; clear HB; clear HI0; have HK := n0_; have HB := n1_; have HI0 := n2_; clear n0_ n1_ n2_; (try clear hb); (try clear hb2); (try clear hk); (try clear hi)) | ((with_reducible refine gate_callee (f := 20) rfl ?_); refine goesL_ (some 16) rfl rfl Try.func20 (by kernel_rfl) rfl #[.pointer (some ⟨g, 0, none⟩)] rfl (by (try simp only [List.map_toArray, List.map_cons, List.map_nil]); first | done | rfl | (simp only [List.length_drop, List.length_take]; rfl)) ?_; (with_reducible refine (numeral_Walk_Whole.calls g t103 true t105 w0 _ ?side1 ?side2 A5.out).mono ?_); (case side1 => repeat (first | (with_reducible first | exact HI0.out | apply IsS33.alloc | apply IsS33.drewN | apply IsS33.drew | apply IsS33.set_0) | exact HI0.out)); (case side2 => repeat (first | (with_reducible first | exact HB.out | apply below_alloc | apply pw_below_drewN | apply below_drew1 | refine below_set ?_ (IsS33.ge HI0.out)) | exact HB.out)); rintro e w17 ⟨rfl, hi, hb, hk⟩; refine ⟨_, rfl, ?_⟩; have n0_ := Aside0.mk (KeepBut.trans (by repeat (first | (with_reducible first | exact HK.out | apply KeepBut.set_ | apply keep_drewN | apply keep_drew | apply keep_alloc) | exact HK.out)) hk (.inl rfl)); have n1_ := Aside0.mk (hb); have n2_ := Aside0.mk (hi); clear HK; clear HB; clear HI0; have HK := n0_; have HB := n1_; have HI0 := n2_; clear n0_ n1_ n2_; (try clear hb); (try clear hb2); (try clear hk); (try clear hi)) | (go_at_call 52; (with_reducible refine (octet_Digit.calls a1 false _ A7.out).mono ?_); rintro e w' ⟨rfl, ⟨nd, rfl⟩⟩) | (go_at_call 53; (with_reducible refine (octet_Alpha.calls a1 false _ A11.out).mono ?_); rintro e w' ⟨rfl, ⟨nd, rfl⟩⟩))
            go_ret
            exact ⟨by first | rfl | (simp [errW_none, errW_some] <;> rfl) | (simp [*, errW_none, errW_some] <;> rfl), by repeat (first | (with_reducible first | exact HI0.out | apply IsS33.alloc | apply IsS33.drewN | apply IsS33.drew | apply IsS33.set_0) | exact HI0.out), by repeat (first | (with_reducible first | exact HB.out | apply below_alloc | apply pw_below_drewN | apply below_drew1 | refine below_set ?_ (IsS33.ge HI0.out)) | exact HB.out), by repeat (first | (with_reducible first | exact HK.out | apply KeepBut.set_ | apply keep_drewN | apply keep_drew | apply keep_alloc) | exact HK.out)⟩
          · rw [if_neg c15] at H
            have c15b0 : (a1 == 46) = false := beq_eq_false_iff_ne.mpr c15
            have c15b1 : (a1 != 46) = true := bne_iff_ne.mpr c15
            by_cases c18 : a1 = 43
            · rw [if_pos c18] at H
              have c18b0 : (a1 == 43) = true := beq_iff_eq.mpr c18
              have c18b1 : (a1 != 43) = false := bne_eq_false_iff_eq.mpr c18
              clear c18
              simp only [Option.some.injEq, Prod.mk.injEq] at H
              obtain ⟨rfl, rfl⟩ := H
              go_enter Try.func22, Try.ntmps22
              go_wp2_with (first | ((with_reducible refine gate_callee (f := 51) rfl ?_); refine goesL_ (some 8) rfl rfl Try.func51 (by kernel_rfl) rfl #[.pointer (some ⟨g, 0, none⟩), .int .u8 a1] rfl (by (try simp only [List.map_toArray, List.map_cons, List.map_nil]); first | done | rfl | (simp only [List.length_drop, List.length_take]; rfl)) ?_; (with_reducible refine (numeral_Walk_next.calls k g s0_0 a1 t102 t103 w0 _ ?side1 ?side2 A3.out).mono ?_); (case side1 => repeat (first | (with_reducible first | exact HI0.out | apply IsS33.alloc | apply IsS33.drewN | apply IsS33.drew | apply IsS33.set_0) | exact HI0.out)); (case side2 => repeat (first | (with_reducible first | exact HB.out | apply below_alloc | apply pw_below_drewN | apply below_drew1 | refine below_set ?_ (IsS33.ge HI0.out)) | exact HB.out)); rintro e w19 ⟨rfl, hi, hb, hk⟩; refine ⟨_, rfl, ?_⟩; have n0_ := Aside0.mk (KeepBut.trans (by repeat (first | (with_reducible first | exact HK.out | apply KeepBut.set_ | apply keep_drewN | apply keep_drew | apply keep_alloc) | exact HK.out)) hk (.inl rfl)); have n1_ := Aside0.mk (hb); have n2_ := Aside0.mk (hi); clear HK; clear HB; clear HI0; have HK := n0_; have HB := n1_; have HI0 := n2_; clear n0_ n1_ n2_; (try clear hb); (try clear hb2); (try clear hk); (try clear hi)) | ((with_reducible refine gate_callee (f := 20) rfl ?_); refine goesL_ (some 16) rfl rfl Try.func20 (by kernel_rfl) rfl #[.pointer (some ⟨g, 0, none⟩)] rfl (by (try simp only [List.map_toArray, List.map_cons, List.map_nil]); first | done | rfl | (simp only [List.length_drop, List.length_take]; rfl)) ?_; (with_reducible refine (numeral_Walk_Whole.calls g t103 true t105 w0 _ ?side1 ?side2 A5.out).mono ?_); (case side1 => repeat (first | (with_reducible first | exact HI0.out | apply IsS33.alloc | apply IsS33.drewN | apply IsS33.drew | apply IsS33.set_0) | exact HI0.out)); (case side2 => repeat (first | (with_reducible first | exact HB.out | apply below_alloc | apply pw_below_drewN | apply below_drew1 | refine below_set ?_ (IsS33.ge HI0.out)) | exact HB.out)); rintro e w20 ⟨rfl, hi, hb, hk⟩; refine ⟨_, rfl, ?_⟩; have n0_ := Aside0.mk (KeepBut.trans (by repeat (first | (with_reducible first | exact HK.out | apply KeepBut.set_ | apply keep_drewN | apply keep_drew | apply keep_alloc) | exact HK.out)) hk (.inl rfl)); have n1_ := Aside0.mk (hb); have n2_ := Aside0.mk (hi); clear HK; clear HB; clear HI0; have HK := n0_; have HB := n1_; have HI0 := n2_; clear n0_ n1_ n2_; (try clear hb); (try clear hb2); (try clear hk); (try clear hi)) | (go_at_call 52; (with_reducible refine (octet_Digit.calls a1 false _ A7.out).mono ?_); rintro e w' ⟨rfl, ⟨nd, rfl⟩⟩) | (go_at_call 53; (with_reducible refine (octet_Alpha.calls a1 false _ A11.out).mono ?_); rintro e w' ⟨rfl, ⟨nd, rfl⟩⟩))
              go_ret
              exact ⟨by first | rfl | (simp [errW_none, errW_some] <;> rfl) | (simp [*, errW_none, errW_some] <;> rfl), by repeat (first | (with_reducible first | exact HI0.out | apply IsS33.alloc | apply IsS33.drewN | apply IsS33.drew | apply IsS33.set_0) | exact HI0.out), by repeat (first | (with_reducible first | exact HB.out | apply below_alloc | apply pw_below_drewN | apply below_drew1 | refine below_set ?_ (IsS33.ge HI0.out)) | exact HB.out), by repeat (first | (with_reducible first | exact HK.out | apply KeepBut.set_ | apply keep_drewN | apply keep_drew | apply keep_alloc) | exact HK.out)⟩
            · rw [if_neg c18] at H
              have c18b0 : (a1 == 43) = false := beq_eq_false_iff_ne.mpr c18
              have c18b1 : (a1 != 43) = true := bne_iff_ne.mpr c18
              by_cases c21 : a1 = 45
              · rw [if_pos c21] at H
                have c21b0 : (a1 == 45) = true := beq_iff_eq.mpr c21
                have c21b1 : (a1 != 45) = false := bne_eq_false_iff_eq.mpr c21
                clear c21
                simp only [Option.some.injEq, Prod.mk.injEq] at H
                obtain ⟨rfl, rfl⟩ := H
                go_enter Try.func22, Try.ntmps22
                go_wp2_with (first | ((with_reducible refine gate_callee (f := 51) rfl ?_); refine goesL_ (some 8) rfl rfl Try.func51 (by kernel_rfl) rfl #[.pointer (some ⟨g, 0, none⟩), .int .u8 a1] rfl (by (try simp only [List.map_toArray, List.map_cons, List.map_nil]); first | done | rfl | (simp only [List.length_drop, List.length_take]; rfl)) ?_; (with_reducible refine (numeral_Walk_next.calls k g s0_0 a1 t102 t103 w0 _ ?side1 ?side2 A3.out).mono ?_); (case side1 => repeat (first | (with_reducible first | exact HI0.out | apply IsS33.alloc | apply IsS33.drewN | apply IsS33.drew | apply IsS33.set_0) | exact HI0.out)); (case side2 => repeat (first | (with_reducible first | exact HB.out | apply below_alloc | apply pw_below_drewN | apply below_drew1 | refine below_set ?_ (IsS33.ge HI0.out)) | exact HB.out)); rintro e w22 ⟨rfl, hi, hb, hk⟩; refine ⟨_, rfl, ?_⟩; have n0_ := Aside0.mk (KeepBut.trans (by repeat (first | (with_reducible first | exact HK.out | apply KeepBut.set_ | apply keep_drewN | apply keep_drew | apply keep_alloc) | exact HK.out)) hk (.inl rfl)); have n1_ := Aside0.mk (hb); have n2_ := Aside0.mk (hi); clear HK; clear HB; clear HI0; have HK := n0_; have HB := n1_; have HI0 := n2_; clear n0_ n1_ n2_; (try clear hb); (try clear hb2); (try clear hk); (try clear hi)) | ((with_reducible refine gate_callee (f := 20) rfl ?_); refine goesL_ (some 16) rfl rfl Try.func20 (by kernel_rfl) rfl #[.pointer (some ⟨g, 0, none⟩)] rfl (by (try simp only [List.map_toArray, List.map_cons, List.map_nil]); first | done | rfl | (simp only [List.length_drop, List.length_take]; rfl)) ?_; (with_reducible refine (numeral_Walk_Whole.calls g t103 true t105 w0 _ ?side1 ?side2 A5.out).mono ?_); (case side1 => repeat (first | (with_reducible first | exact HI0.out | apply IsS33.alloc | apply IsS33.drewN | apply IsS33.drew | apply IsS33.set_0) | exact HI0.out)); (case side2 => repeat (first | (with_reducible first | exact HB.out | apply below_alloc | apply pw_below_drewN | apply below_drew1 | refine below_set ?_ (IsS33.ge HI0.out)) | exact HB.out)); rintro e w23 ⟨rfl, hi, hb, hk⟩; refine ⟨_, rfl, ?_⟩; have n0_ := Aside0.mk (KeepBut.trans (by repeat (first | (with_reducible first | exact HK.out | apply KeepBut.set_ | apply keep_drewN | apply keep_drew | apply keep_alloc) | exact HK.out)) hk (.inl rfl)); have n1_ := Aside0.mk (hb); have n2_ := Aside0.mk (hi); clear HK; clear HB; clear HI0; have HK := n0_; have HB := n1_; have HI0 := n2_; clear n0_ n1_ n2_; (try clear hb); (try clear hb2); (try clear hk); (try clear hi)) | (go_at_call 52; (with_reducible refine (octet_Digit.calls a1 false _ A7.out).mono ?_); rintro e w' ⟨rfl, ⟨nd, rfl⟩⟩) | (go_at_call 53; (with_reducible refine (octet_Alpha.calls a1 false _ A11.out).mono ?_); rintro e w' ⟨rfl, ⟨nd, rfl⟩⟩))
                go_ret
                exact ⟨by first | rfl | (simp [errW_none, errW_some] <;> rfl) | (simp [*, errW_none, errW_some] <;> rfl), by repeat (first | (with_reducible first | exact HI0.out | apply IsS33.alloc | apply IsS33.drewN | apply IsS33.drew | apply IsS33.set_0) | exact HI0.out), by repeat (first | (with_reducible first | exact HB.out | apply below_alloc | apply pw_below_drewN | apply below_drew1 | refine below_set ?_ (IsS33.ge HI0.out)) | exact HB.out), by repeat (first | (with_reducible first | exact HK.out | apply KeepBut.set_ | apply keep_drewN | apply keep_drew | apply keep_alloc) | exact HK.out)⟩
              · rw [if_neg c21] at H
                have c21b0 : (a1 == 45) = false := beq_eq_false_iff_ne.mpr c21
                have c21b1 : (a1 != 45) = true := bne_iff_ne.mpr c21
                simp only [Option.some.injEq, Prod.mk.injEq] at H
                obtain ⟨rfl, rfl⟩ := H
                go_enter Try.func22, Try.ntmps22
                go_wp2_with (first | ((with_reducible refine gate_callee (f := 51) rfl ?_); refine goesL_ (some 8) rfl rfl Try.func51 (by kernel_rfl) rfl #[.pointer (some ⟨g, 0, none⟩), .int .u8 a1] rfl (by (try simp only [List.map_toArray, List.map_cons, List.map_nil]); first | done | rfl | (simp only [List.length_drop, List.length_take]; rfl)) ?_; (with_reducible refine (numeral_Walk_next.calls k g s0_0 a1 t102 t103 w0 _ ?side1 ?side2 A3.out).mono ?_); (case side1 => repeat (first | (with_reducible first | exact HI0.out | apply IsS33.alloc | apply IsS33.drewN | apply IsS33.drew | apply IsS33.set_0) | exact HI0.out)); (case side2 => repeat (first | (with_reducible first | exact HB.out | apply below_alloc | apply pw_below_drewN | apply below_drew1 | refine below_set ?_ (IsS33.ge HI0.out)) | exact HB.out)); rintro e w24 ⟨rfl, hi, hb, hk⟩; refine ⟨_, rfl, ?_⟩; have n0_ := Aside0.mk (KeepBut.trans (by repeat (first | (with_reducible first | exact HK.out | apply KeepBut.set_ | apply keep_drewN | apply keep_drew | apply keep_alloc) | exact HK.out)) hk (.inl rfl)); have n1_ := Aside0.mk (hb); have n2_ := Aside0.mk (hi); clear HK; clear HB; clear HI0; have HK := n0_; have HB := n1_; have HI0 := n2_; clear n0_ n1_ n2_; (try clear hb); (try clear hb2); (try clear hk); (try clear hi)) | ((with_reducible refine gate_callee (f := 20) rfl ?_); refine goesL_ (some 16) rfl rfl Try.func20 (by kernel_rfl) rfl #[.pointer (some ⟨g, 0, none⟩)] rfl (by (try simp only [List.map_toArray, List.map_cons, List.map_nil]); first | done | rfl | (simp only [List.length_drop, List.length_take]; rfl)) ?_; (with_reducible refine (numeral_Walk_Whole.calls g t103 true t105 w0 _ ?side1 ?side2 A5.out).mono ?_); (case side1 => repeat (first | (with_reducible first | exact HI0.out | apply IsS33.alloc | apply IsS33.drewN | apply IsS33.drew | apply IsS33.set_0) | exact HI0.out)); (case side2 => repeat (first | (with_reducible first | exact HB.out | apply below_alloc | apply pw_below_drewN | apply below_drew1 | refine below_set ?_ (IsS33.ge HI0.out)) | exact HB.out)); rintro e w25 ⟨rfl, hi, hb, hk⟩; refine ⟨_, rfl, ?_⟩; have n0_ := Aside0.mk (KeepBut.trans (by repeat (first | (with_reducible first | exact HK.out | apply KeepBut.set_ | apply keep_drewN | apply keep_drew | apply keep_alloc) | exact HK.out)) hk (.inl rfl)); have n1_ := Aside0.mk (hb); have n2_ := Aside0.mk (hi); clear HK; clear HB; clear HI0; have HK := n0_; have HB := n1_; have HI0 := n2_; clear n0_ n1_ n2_; (try clear hb); (try clear hb2); (try clear hk); (try clear hi)) | (go_at_call 52; (with_reducible refine (octet_Digit.calls a1 false _ A7.out).mono ?_); rintro e w' ⟨rfl, ⟨nd, rfl⟩⟩) | (go_at_call 53; (with_reducible refine (octet_Alpha.calls a1 false _ A11.out).mono ?_); rintro e w' ⟨rfl, ⟨nd, rfl⟩⟩))
                go_ret
                exact ⟨by first | rfl | (simp [errW_none, errW_some] <;> rfl) | (simp [*, errW_none, errW_some] <;> rfl), by repeat (first | (with_reducible first | exact HI0.out | apply IsS33.alloc | apply IsS33.drewN | apply IsS33.drew | apply IsS33.set_0) | exact HI0.out), by repeat (first | (with_reducible first | exact HB.out | apply below_alloc | apply pw_below_drewN | apply below_drew1 | refine below_set ?_ (IsS33.ge HI0.out)) | exact HB.out), by repeat (first | (with_reducible first | exact HK.out | apply KeepBut.set_ | apply keep_drewN | apply keep_drew | apply keep_alloc) | exact HK.out)⟩
    · replace c6 := Bool.eq_false_iff.mpr c6
      subst c6
      have H1 : (some (2, t105)) = some (r1, r2) := by rw [if_neg (show ¬ (false = true) by decide)] at H; exact H
      clear H
      have H := H1
      clear H1
      simp only [Option.some.injEq, Prod.mk.injEq] at H
      obtain ⟨rfl, rfl⟩ := H
      go_enter Try.func22, Try.ntmps22
      go_wp2_with (first | ((with_reducible refine gate_callee (f := 51) rfl ?_); refine goesL_ (some 8) rfl rfl Try.func51 (by kernel_rfl) rfl #[.pointer (some ⟨g, 0, none⟩), .int .u8 a1] rfl (by (try simp only [List.map_toArray, List.map_cons, List.map_nil]); first | done | rfl | (simp only [List.length_drop, List.length_take]; rfl)) ?_; (with_reducible refine (numeral_Walk_next.calls k g s0_0 a1 t102 t103 w0 _ ?side1 ?side2 A3.out).mono ?_); (case side1 => repeat (first | (with_reducible first | exact HI0.out | apply IsS33.alloc | apply IsS33.drewN | apply IsS33.drew | apply IsS33.set_0) | exact HI0.out)); (case side2 => repeat (first | (with_reducible first | exact HB.out | apply below_alloc | apply pw_below_drewN | apply below_drew1 | refine below_set ?_ (IsS33.ge HI0.out)) | exact HB.out)); rintro e w26 ⟨rfl, hi, hb, hk⟩; refine ⟨_, rfl, ?_⟩; have n0_ := Aside0.mk (KeepBut.trans (by repeat (first | (with_reducible first | exact HK.out | apply KeepBut.set_ | apply keep_drewN | apply keep_drew | apply keep_alloc) | exact HK.out)) hk (.inl rfl)); have n1_ := Aside0.mk (hb); have n2_ := Aside0.mk (hi); clear HK; clear HB; clear HI0; have HK := n0_; have HB := n1_; have HI0 := n2_; clear n0_ n1_ n2_; (try clear hb); (try clear hb2); (try clear hk); (try clear hi)) | ((with_reducible refine gate_callee (f := 20) rfl ?_); refine goesL_ (some 16) rfl rfl Try.func20 (by kernel_rfl) rfl #[.pointer (some ⟨g, 0, none⟩)] rfl (by (try simp only [List.map_toArray, List.map_cons, List.map_nil]); first | done | rfl | (simp only [List.length_drop, List.length_take]; rfl)) ?_; (with_reducible refine (numeral_Walk_Whole.calls g t103 false t105 w0 _ ?side1 ?side2 A5.out).mono ?_); (case side1 => repeat (first | (with_reducible first | exact HI0.out | apply IsS33.alloc | apply IsS33.drewN | apply IsS33.drew | apply IsS33.set_0) | exact HI0.out)); (case side2 => repeat (first | (with_reducible first | exact HB.out | apply below_alloc | apply pw_below_drewN | apply below_drew1 | refine below_set ?_ (IsS33.ge HI0.out)) | exact HB.out)); rintro e w27 ⟨rfl, hi, hb, hk⟩; refine ⟨_, rfl, ?_⟩; have n0_ := Aside0.mk (KeepBut.trans (by repeat (first | (with_reducible first | exact HK.out | apply KeepBut.set_ | apply keep_drewN | apply keep_drew | apply keep_alloc) | exact HK.out)) hk (.inl rfl)); have n1_ := Aside0.mk (hb); have n2_ := Aside0.mk (hi); clear HK; clear HB; clear HI0; have HK := n0_; have HB := n1_; have HI0 := n2_; clear n0_ n1_ n2_; (try clear hb); (try clear hb2); (try clear hk); (try clear hi)))
      go_ret
      exact ⟨by first | rfl | (simp [errW_none, errW_some] <;> rfl) | (simp [*, errW_none, errW_some] <;> rfl), by repeat (first | (with_reducible first | exact HI0.out | apply IsS33.alloc | apply IsS33.drewN | apply IsS33.drew | apply IsS33.set_0) | exact HI0.out), by repeat (first | (with_reducible first | exact HB.out | apply below_alloc | apply pw_below_drewN | apply below_drew1 | refine below_set ?_ (IsS33.ge HI0.out)) | exact HB.out), by repeat (first | (with_reducible first | exact HK.out | apply KeepBut.set_ | apply keep_drewN | apply keep_drew | apply keep_alloc) | exact HK.out)⟩
  · rw [if_neg c4] at H
    have c4b0 : (t102 == 0) = false := beq_eq_false_iff_ne.mpr c4
    have c4b1 : (t102 != 0) = true := bne_iff_ne.mpr c4
    simp only [Option.some.injEq, Prod.mk.injEq] at H
    obtain ⟨rfl, rfl⟩ := H
    go_enter Try.func22, Try.ntmps22
    go_wp2_with (first | ((with_reducible refine gate_callee (f := 51) rfl ?_); refine goesL_ (some 8) rfl rfl Try.func51 (by kernel_rfl) rfl #[.pointer (some ⟨g, 0, none⟩), .int .u8 a1] rfl (by (try simp only [List.map_toArray, List.map_cons, List.map_nil]); first | done | rfl | (simp only [List.length_drop, List.length_take]; rfl)) ?_; (with_reducible refine (numeral_Walk_next.calls k g s0_0 a1 t102 t103 w0 _ ?side1 ?side2 A3.out).mono ?_); (case side1 => repeat (first | (with_reducible first | exact HI0.out | apply IsS33.alloc | apply IsS33.drewN | apply IsS33.drew | apply IsS33.set_0) | exact HI0.out)); (case side2 => repeat (first | (with_reducible first | exact HB.out | apply below_alloc | apply pw_below_drewN | apply below_drew1 | refine below_set ?_ (IsS33.ge HI0.out)) | exact HB.out)); rintro e w28 ⟨rfl, hi, hb, hk⟩; refine ⟨_, rfl, ?_⟩; have n0_ := Aside0.mk (KeepBut.trans (by repeat (first | (with_reducible first | exact HK.out | apply KeepBut.set_ | apply keep_drewN | apply keep_drew | apply keep_alloc) | exact HK.out)) hk (.inl rfl)); have n1_ := Aside0.mk (hb); have n2_ := Aside0.mk (hi); clear HK; clear HB; clear HI0; have HK := n0_; have HB := n1_; have HI0 := n2_; clear n0_ n1_ n2_; (try clear hb); (try clear hb2); (try clear hk); (try clear hi); obtain ⟨HGz29, hgz29⟩ := HI0.out; have hcz29_0 := cellS33_0 HGz29; have hfz29_0 := blk_frozen HGz29 0; clear HGz29 hgz29))
    go_ret
    exact ⟨by first | rfl | (simp [errW_none, errW_some] <;> rfl) | (simp [*, errW_none, errW_some] <;> rfl), by repeat (first | (with_reducible first | exact HI0.out | apply IsS33.alloc | apply IsS33.drewN | apply IsS33.drew | apply IsS33.set_0) | exact HI0.out), by repeat (first | (with_reducible first | exact HB.out | apply below_alloc | apply pw_below_drewN | apply below_drew1 | refine below_set ?_ (IsS33.ge HI0.out)) | exact HB.out), by repeat (first | (with_reducible first | exact HK.out | apply KeepBut.set_ | apply keep_drewN | apply keep_drew | apply keep_alloc) | exact HK.out)⟩

def numeral_Count.l0 : Nat → ByteArray → Int → Int → Int → Option (Int)
  | 0, _, _, _, _ => none
  | k + 1, s, n, i, f0 => if i < (s.size : Int) then (if 0 ≤ i then ((numeral_Walk_Step.f k f0 (bt s i)).bind fun t => (if t.1 = 0 then ((numeral_Walk_Whole.f t.2).bind fun u => (if u.1 = true then (numeral_Count.l0 k s (wrap64 (i + 1)) (wrap64 (i + 1)) u.2) else (numeral_Count.l0 k s n (wrap64 (i + 1)) u.2))) else (some n))) else (none)) else (some n)
def numeral_Count.f (k : Nat) (a0 : ByteArray) : Option (Int) := numeral_Count.l0 k a0 0 0 0
theorem numeral_Count.mono_l : ∀ k, (∀ y0 y1 y2 y3, LeO (numeral_Count.l0 k y0 y1 y2 y3) (numeral_Count.l0 (k + 1) y0 y1 y2 y3))
  | 0 => fun _ _ _ _ r h => by simp [numeral_Count.l0] at h
  | k + 1 => by
    have ih := numeral_Count.mono_l k
    intro y0 y1 y2 y3
    unfold numeral_Count.l0
    repeat' first
      | (with_reducible exact ih _ _ _ _)
      | (with_reducible exact numeral_Walk_Step.mono _ _ _)
      | (with_reducible exact LeO.refl _)
      | (with_reducible exact LeO.none _)
      | (with_reducible refine LeO.ite ?_ ?_)
      | (with_reducible refine LeO.bind ?_ (fun _ => ?_))
theorem numeral_Count.mono : ∀ a0 k, LeO (numeral_Count.f k a0) (numeral_Count.f (k + 1) a0) := fun a0 k => numeral_Count.mono_l k a0 0 0 0
set_option maxHeartbeats 4000000 in
set_option maxRecDepth 100000 in
theorem numeral_Count.calls (k : Nat) (a0 : ByteArray) (r : Int) (w : World) (h : numeral_Count.f k a0 = some r) :
    Calls Try.prog 27 #[.string a0] w fun e w' => e = .returned (.int .i64 r) ∧ Below w.heap.size w w' := by
  have H' := Aside0.mk (show numeral_Count.l0 k a0 0 0 0 = some r from h)
  clear h
  go_enter Try.func27, Try.ntmps27
  go_wp2_with fail
  generalize hg : World.alloc w _ = w1
  have HI : Aside0 (IsS33 w w1 w.heap.size 0) := ⟨by subst hg; exact ⟨blk_new _ _, Nat.le_refl _⟩⟩
  have HB : Aside0 (Below w.heap.size w w1) := ⟨by subst hg; exact (Below.refl _ _).alloc (Nat.le_refl _) _⟩
  clear hg
  go_loopg [4, 5] k (fun kq v4 v5 w' => ∃ (n i f0 : Int), v4 = .int .i64 n ∧ v5 = .int .i64 i ∧ Aside0 (numeral_Count.l0 kq a0 n i f0 = some r) ∧ Aside0 (kq ≤ k) ∧ Aside0 (IsS33 w w' w.heap.size f0) ∧ Aside0 (Below w.heap.size w w'))
  case atStart => exact ⟨0, 0, 0, rfl, rfl, H', ⟨Nat.le_refl _⟩, HI, HB⟩
  case round =>
    clear H' HI HB
    obtain ⟨n, i, f0, rfl, rfl, HA, HK, HI, HB⟩ := hrel
    cases gk with
    | zero => exact absurd HA.out (by simp [numeral_Count.l0])
    | succ k1 =>
      have H := HA.out
      clear HA
      simp only [numeral_Count.l0] at H
      by_cases c1 : i < (a0.size : Int)
      · rw [if_pos c1] at H
        by_cases c2 : 0 ≤ i
        · rw [if_pos c2] at H
          obtain ⟨⟨t0, t1⟩, A, H⟩ := Option.bind_eq_some_iff.mp H
          have A := Aside0.mk A
          have q3 : i.toNat < a0.size := by omega
          have hx3 : ∀ h : i.toNat < a0.size, ((a0[i.toNat]'h).toNat : Int) = bt a0 i := bt_at a0 i
          have c1b : decide (i < (a0.size : Int)) = true := decide_eq_true c1
          by_cases c3 : t0 = 0
          · subst c3
            have H1 := H
            simp only [if_true] at H1
            obtain ⟨⟨u0, u1⟩, A2, H1⟩ := Option.bind_eq_some_iff.mp H1
            have A2 := Aside0.mk A2
            clear H
            cases u0 with
            | true =>
              have H' := Aside0.mk (show numeral_Count.l0 k1 a0 (wrap64 (i + 1)) (wrap64 (i + 1)) u1 = some r by simpa using H1)
              clear H1
              go_wp2_with fail
              refine (numeral_Walk_Step.calls k1 _ f0 _ 0 t1 w _ HI.out HB.out A.out).mono ?_
              rintro e w2 ⟨rfl, hi, hb, _⟩
              have HI2 := Aside0.mk hi
              have HB2 := Aside0.mk hb
              clear hi hb HI HB
              go_wp2_with fail
              refine (numeral_Walk_Whole.calls _ t1 true u1 w _ HI2.out HB2.out A2.out).mono ?_
              rintro e w3 ⟨rfl, hi, hb, _⟩
              have HI3 := Aside0.mk hi
              have HB3 := Aside0.mk hb
              clear hi hb HI2 HB2
              go_wp2
              go_roundg k1
              case measure => have := HK.out; omega
              case rel => exact ⟨_, _, u1, rfl, rfl, H', ⟨by have := HK.out; omega⟩, HI3, HB3⟩
            | false =>
              have H' := Aside0.mk (show numeral_Count.l0 k1 a0 n (wrap64 (i + 1)) u1 = some r by simpa using H1)
              clear H1
              go_wp2_with fail
              refine (numeral_Walk_Step.calls k1 _ f0 _ 0 t1 w _ HI.out HB.out A.out).mono ?_
              rintro e w2 ⟨rfl, hi, hb, _⟩
              have HI2 := Aside0.mk hi
              have HB2 := Aside0.mk hb
              clear hi hb HI HB
              go_wp2_with fail
              refine (numeral_Walk_Whole.calls _ t1 false u1 w _ HI2.out HB2.out A2.out).mono ?_
              rintro e w3 ⟨rfl, hi, hb, _⟩
              have HI3 := Aside0.mk hi
              have HB3 := Aside0.mk hb
              clear hi hb HI2 HB2
              go_wp2
              go_roundg k1
              case measure => have := HK.out; omega
              case rel => exact ⟨_, _, u1, rfl, rfl, H', ⟨by have := HK.out; omega⟩, HI3, HB3⟩
          · have c3b : (t0 == 0) = false := beq_eq_false_iff_ne.mpr c3
            have H1 : n = r := by simpa [c3] using H
            clear H
            obtain rfl := H1
            clear c3
            go_wp2_with fail
            refine (numeral_Walk_Step.calls k1 _ f0 _ t0 t1 w _ HI.out HB.out A.out).mono ?_
            rintro e w2 ⟨rfl, hi, hb, _⟩
            have HB2 := Aside0.mk hb
            clear hi hb HI HB
            go_wp2
            go_ret
            exact ⟨rfl, HB2.out⟩
        · rw [if_neg c2] at H; exact absurd H (by simp)
      · rw [if_neg c1] at H
        have c1b : decide (i < (a0.size : Int)) = false := decide_eq_false c1
        obtain rfl := Option.some.inj H
        clear H c1
        go_wp2
        go_ret
        exact ⟨rfl, HB.out⟩

/-! ### numeral_Is: function 24 -/
def numeral_Is.f (k : Nat) (a0 : ByteArray) : Option (Bool) := if a0.toList = ([] : List UInt8) then (some false) else ((numeral_Count.f k a0).bind fun t108 => (some (t108 == (a0.size : Int))))
theorem numeral_Is.mono : ∀ a0 k, LeO (numeral_Is.f k a0) (numeral_Is.f (k + 1) a0) := by
  intro a0 k
  unfold numeral_Is.f
  repeat' first
      | (with_reducible exact numeral_Count.mono _ _)
      | (with_reducible exact LeO.refl _)
      | (with_reducible exact LeO.none _)
      | (with_reducible refine LeO.ite ?_ ?_)
      | (with_reducible refine LeO.bind ?_ (fun _ => ?_))
      | exact numeral_Count.mono _ _
      | exact LeO.none _
      | refine LeO.ite ?_ ?_
      | refine LeO.bind ?_ (fun _ => ?_)
set_option maxHeartbeats 8000000 in
set_option maxRecDepth 100000 in
theorem numeral_Is.calls (k : Nat) (a0 : ByteArray) (r : Bool) (w : World) (h : numeral_Is.f k a0 = some r) :
    Calls Try.prog 24 #[.string a0] w fun e w' => e = .returned (.bool r) ∧ Below w.heap.size w w' := by
  have HB := Aside0.mk (Below.refl w.heap.size w)
  have H : (if a0.toList = ([] : List UInt8) then (some false) else ((numeral_Count.f k a0).bind fun t108 => (some (t108 == (a0.size : Int))))) = some r := h
  clear h
  by_cases c2 : a0.toList = ([] : List UInt8)
  · rw [if_pos c2] at H
    have c2b0 : (a0.toList == ([] : List UInt8)) = true := beq_iff_eq.mpr c2
    have c2b1 : (a0.toList != ([] : List UInt8)) = false := bne_eq_false_iff_eq.mpr c2
    clear c2
    obtain rfl := Option.some.inj H
    go_enter Try.func24, Try.ntmps24
    go_wp2
    go_ret
    exact ⟨by first | rfl | (simp [errW_none, errW_some] <;> rfl) | (simp [*, errW_none, errW_some] <;> rfl), by repeat (first | (with_reducible first | exact HB.out | apply below_alloc | apply pw_below_drewN | apply below_drew1) | exact HB.out)⟩
  · rw [if_neg c2] at H
    have c2b0 : (a0.toList == ([] : List UInt8)) = false := beq_eq_false_iff_ne.mpr c2
    have c2b1 : (a0.toList != ([] : List UInt8)) = true := bne_iff_ne.mpr c2
    replace H := Option.bind_eq_some_iff.mp H
    obtain ⟨t108, A30, H⟩ := H
    replace H : (some (t108 == (a0.size : Int))) = some r := H
    have A3 := Aside0.mk A30
    clear A30
    obtain rfl := Option.some.inj H
    go_enter Try.func24, Try.ntmps24
    go_wp2_with (first | (go_at_call 27; (with_reducible refine (numeral_Count.calls k a0 t108 _ A3.out).mono ?_); rintro e w4 ⟨rfl, hb⟩; have n0_ := Aside0.mk (below_step (by repeat (first | (with_reducible first | exact HB.out | apply below_alloc | apply pw_below_drewN | apply below_drew1) | exact HB.out)) hb); clear HB; have HB := n0_; clear n0_; (try clear hb); (try clear hb2); (try clear hk); (try clear hi)))
    go_ret
    exact ⟨by first | rfl | (simp [errW_none, errW_some] <;> rfl) | (simp [*, errW_none, errW_some] <;> rfl), by repeat (first | (with_reducible first | exact HB.out | apply below_alloc | apply pw_below_drewN | apply below_drew1) | exact HB.out)⟩

def numeral_Fault.l0 : Nat → ByteArray → Int → Int → Option (Int)
  | 0, _, _, _ => none
  | k + 1, s, i, f0 => if i < (s.size : Int) then (if 0 ≤ i then ((numeral_Walk_Step.f k f0 (bt s i)).bind fun t => (if t.1 = 0 then (numeral_Fault.l0 k s (wrap64 (i + 1)) t.2) else (some i))) else (none)) else ((numeral_Walk_Whole.f f0).bind fun u => (if u.1 = true then (some (-1)) else (some (s.size : Int))))
def numeral_Fault.f (k : Nat) (a0 : ByteArray) : Option (Int) := numeral_Fault.l0 k a0 0 0
theorem numeral_Fault.mono_l : ∀ k, (∀ y0 y1 y2, LeO (numeral_Fault.l0 k y0 y1 y2) (numeral_Fault.l0 (k + 1) y0 y1 y2))
  | 0 => fun _ _ _ r h => by simp [numeral_Fault.l0] at h
  | k + 1 => by
    have ih := numeral_Fault.mono_l k
    intro y0 y1 y2
    unfold numeral_Fault.l0
    repeat' first
      | (with_reducible exact ih _ _ _)
      | (with_reducible exact numeral_Walk_Step.mono _ _ _)
      | (with_reducible exact LeO.refl _)
      | (with_reducible exact LeO.none _)
      | (with_reducible refine LeO.ite ?_ ?_)
      | (with_reducible refine LeO.bind ?_ (fun _ => ?_))
theorem numeral_Fault.mono : ∀ a0 k, LeO (numeral_Fault.f k a0) (numeral_Fault.f (k + 1) a0) := fun a0 k => numeral_Fault.mono_l k a0 0 0
set_option maxHeartbeats 4000000 in
set_option maxRecDepth 100000 in
theorem numeral_Fault.calls (k : Nat) (a0 : ByteArray) (r : Int) (w : World) (h : numeral_Fault.f k a0 = some r) :
    Calls Try.prog 25 #[.string a0] w fun e w' => e = .returned (.int .i64 r) ∧ Below w.heap.size w w' := by
  have H' := Aside0.mk (show numeral_Fault.l0 k a0 0 0 = some r from h)
  clear h
  go_enter Try.func25, Try.ntmps25
  go_wp2_with fail
  generalize hg : World.alloc w _ = w1
  have HI : Aside0 (IsS33 w w1 w.heap.size 0) := ⟨by subst hg; exact ⟨blk_new _ _, Nat.le_refl _⟩⟩
  have HB : Aside0 (Below w.heap.size w w1) := ⟨by subst hg; exact (Below.refl _ _).alloc (Nat.le_refl _) _⟩
  clear hg
  go_loopg [7] k (fun kq v7 w' => ∃ (i f0 : Int), v7 = .int .i64 i ∧ Aside0 (numeral_Fault.l0 kq a0 i f0 = some r) ∧ Aside0 (kq ≤ k) ∧ Aside0 (IsS33 w w' w.heap.size f0) ∧ Aside0 (Below w.heap.size w w'))
  case atStart => exact ⟨0, 0, rfl, H', ⟨Nat.le_refl _⟩, HI, HB⟩
  case round =>
    clear H' HI HB
    obtain ⟨i, f0, rfl, HA, HK, HI, HB⟩ := hrel
    cases gk with
    | zero => exact absurd HA.out (by simp [numeral_Fault.l0])
    | succ k1 =>
      have H := HA.out
      clear HA
      simp only [numeral_Fault.l0] at H
      by_cases c1 : i < (a0.size : Int)
      · rw [if_pos c1] at H
        by_cases c2 : 0 ≤ i
        · rw [if_pos c2] at H
          obtain ⟨⟨t0, t1⟩, A, H⟩ := Option.bind_eq_some_iff.mp H
          have A := Aside0.mk A
          have q3 : i.toNat < a0.size := by omega
          have hx3 : ∀ h : i.toNat < a0.size, ((a0[i.toNat]'h).toNat : Int) = bt a0 i := bt_at a0 i
          by_cases c3 : t0 = 0
          · subst c3
            have H' := Aside0.mk (show numeral_Fault.l0 k1 a0 (wrap64 (i + 1)) t1 = some r by simpa using H)
            clear H
            go_wp2_with fail
            refine (numeral_Walk_Step.calls k1 _ f0 _ 0 t1 w _ HI.out HB.out A.out).mono ?_
            rintro e w2 ⟨rfl, hi, hb, _⟩
            have HI2 := Aside0.mk hi
            have HB2 := Aside0.mk hb
            clear hi hb HI HB
            go_wp2
            go_roundg k1
            case measure => have := HK.out; omega
            case rel => exact ⟨_, t1, rfl, H', ⟨by have := HK.out; omega⟩, HI2, HB2⟩
          · have c3b : (t0 == 0) = false := beq_eq_false_iff_ne.mpr c3
            have c3c : (t0 != 0) = true := bne_iff_ne.mpr c3
            have H1 : i = r := by simpa [c3] using H
            clear H
            obtain rfl := H1
            clear c3
            go_wp2_with fail
            refine (numeral_Walk_Step.calls k1 _ f0 _ t0 t1 w _ HI.out HB.out A.out).mono ?_
            rintro e w2 ⟨rfl, hi, hb, _⟩
            have HB2 := Aside0.mk hb
            clear hi hb HI HB
            go_wp2
            go_ret
            exact ⟨rfl, HB2.out⟩
        · rw [if_neg c2] at H; exact absurd H (by simp)
      · rw [if_neg c1] at H
        obtain ⟨⟨u0, u1⟩, A, H⟩ := Option.bind_eq_some_iff.mp H
        have A := Aside0.mk A
        cases u0 with
        | true =>
          obtain rfl : (-1 : Int) = r := by simpa using H
          clear H
          go_wp2_with fail
          refine (numeral_Walk_Whole.calls _ f0 true u1 w _ HI.out HB.out A.out).mono ?_
          rintro e w2 ⟨rfl, hi, hb, _⟩
          have HB2 := Aside0.mk hb
          clear hi hb HI HB
          go_wp2
          go_ret
          exact ⟨rfl, HB2.out⟩
        | false =>
          obtain rfl : (a0.size : Int) = r := by simpa using H
          clear H
          go_wp2_with fail
          refine (numeral_Walk_Whole.calls _ f0 false u1 w _ HI.out HB.out A.out).mono ?_
          rintro e w2 ⟨rfl, hi, hb, _⟩
          have HB2 := Aside0.mk hb
          clear hi hb HI HB
          go_wp2
          go_ret
          exact ⟨rfl, HB2.out⟩

/-! ### rifflelaw04_numeralAlive: function 19 -/
def rifflelaw04_numeralAlive.f (k : Nat)  : Option (Bool) := (numeral_Is.f k (⟨#[45, 48, 46, 53, 101, 43, 55]⟩ : ByteArray)).bind fun t109 => (if t109 = true then ((numeral_Fault.f k (⟨#[48, 49]⟩ : ByteArray)).bind fun t110 => (if t110 = 1 then ((numeral_Fault.f k (⟨#[49, 46]⟩ : ByteArray)).bind fun t111 => (if t111 = 2 then ((numeral_Count.f k (⟨#[49, 50, 44]⟩ : ByteArray)).bind fun t112 => (some (t112 == 2))) else (some false))) else (some false))) else (some false))
theorem rifflelaw04_numeralAlive.mono : ∀ k, LeO (rifflelaw04_numeralAlive.f k ) (rifflelaw04_numeralAlive.f (k + 1) ) := by
  intro  k
  unfold rifflelaw04_numeralAlive.f
  repeat' first
      | (with_reducible exact numeral_Count.mono _ _)
      | (with_reducible exact numeral_Fault.mono _ _)
      | (with_reducible exact numeral_Is.mono _ _)
      | (with_reducible exact LeO.refl _)
      | (with_reducible exact LeO.none _)
      | (with_reducible refine LeO.ite ?_ ?_)
      | (with_reducible refine LeO.bind ?_ (fun _ => ?_))
      | exact numeral_Count.mono _ _
      | exact numeral_Fault.mono _ _
      | exact numeral_Is.mono _ _
      | exact LeO.none _
      | refine LeO.ite ?_ ?_
      | refine LeO.bind ?_ (fun _ => ?_)
set_option maxHeartbeats 8000000 in
set_option maxRecDepth 100000 in
theorem rifflelaw04_numeralAlive.calls (k : Nat)  (r : Bool) (w : World) (h : rifflelaw04_numeralAlive.f k  = some r) :
    Calls Try.prog 19 #[] w fun e w' => e = .returned (.bool r) ∧ Below w.heap.size w w' := by
  have HB := Aside0.mk (Below.refl w.heap.size w)
  have H : ((numeral_Is.f k (⟨#[45, 48, 46, 53, 101, 43, 55]⟩ : ByteArray)).bind fun t109 => (if t109 = true then ((numeral_Fault.f k (⟨#[48, 49]⟩ : ByteArray)).bind fun t110 => (if t110 = 1 then ((numeral_Fault.f k (⟨#[49, 46]⟩ : ByteArray)).bind fun t111 => (if t111 = 2 then ((numeral_Count.f k (⟨#[49, 50, 44]⟩ : ByteArray)).bind fun t112 => (some (t112 == 2))) else (some false))) else (some false))) else (some false))) = some r := h
  clear h
  replace H := Option.bind_eq_some_iff.mp H
  obtain ⟨t109, A10, H⟩ := H
  replace H : (if t109 = true then ((numeral_Fault.f k (⟨#[48, 49]⟩ : ByteArray)).bind fun t110 => (if t110 = 1 then ((numeral_Fault.f k (⟨#[49, 46]⟩ : ByteArray)).bind fun t111 => (if t111 = 2 then ((numeral_Count.f k (⟨#[49, 50, 44]⟩ : ByteArray)).bind fun t112 => (some (t112 == 2))) else (some false))) else (some false))) else (some false)) = some r := H
  have A1 := Aside0.mk A10
  clear A10
  by_cases c2 : t109 = true
  · subst c2
    have H1 : ((numeral_Fault.f k (⟨#[48, 49]⟩ : ByteArray)).bind fun t110 => (if t110 = 1 then ((numeral_Fault.f k (⟨#[49, 46]⟩ : ByteArray)).bind fun t111 => (if t111 = 2 then ((numeral_Count.f k (⟨#[49, 50, 44]⟩ : ByteArray)).bind fun t112 => (some (t112 == 2))) else (some false))) else (some false))) = some r := by rw [if_pos rfl] at H; exact H
    clear H
    have H := H1
    clear H1
    replace H := Option.bind_eq_some_iff.mp H
    obtain ⟨t110, A30, H⟩ := H
    replace H : (if t110 = 1 then ((numeral_Fault.f k (⟨#[49, 46]⟩ : ByteArray)).bind fun t111 => (if t111 = 2 then ((numeral_Count.f k (⟨#[49, 50, 44]⟩ : ByteArray)).bind fun t112 => (some (t112 == 2))) else (some false))) else (some false)) = some r := H
    have A3 := Aside0.mk A30
    clear A30
    by_cases c4 : t110 = 1
    · rw [if_pos c4] at H
      have c4b0 : (t110 == 1) = true := beq_iff_eq.mpr c4
      have c4b1 : (t110 != 1) = false := bne_eq_false_iff_eq.mpr c4
      clear c4
      replace H := Option.bind_eq_some_iff.mp H
      obtain ⟨t111, A50, H⟩ := H
      replace H : (if t111 = 2 then ((numeral_Count.f k (⟨#[49, 50, 44]⟩ : ByteArray)).bind fun t112 => (some (t112 == 2))) else (some false)) = some r := H
      have A5 := Aside0.mk A50
      clear A50
      by_cases c6 : t111 = 2
      · rw [if_pos c6] at H
        have c6b0 : (t111 == 2) = true := beq_iff_eq.mpr c6
        have c6b1 : (t111 != 2) = false := bne_eq_false_iff_eq.mpr c6
        clear c6
        replace H := Option.bind_eq_some_iff.mp H
        obtain ⟨t112, A70, H⟩ := H
        replace H : (some (t112 == 2)) = some r := H
        have A7 := Aside0.mk A70
        clear A70
        obtain rfl := Option.some.inj H
        go_enter Try.func19, Try.ntmps19
        go_wp2_with (first | ((with_reducible refine gate_callee (f := 24) rfl ?_); refine goesL_ (some 1) rfl rfl Try.func24 (by kernel_rfl) rfl #[.string (⟨#[45, 48, 46, 53, 101, 43, 55]⟩ : ByteArray)] rfl (by (try simp only [List.map_toArray, List.map_cons, List.map_nil]); first | done | rfl | (simp only [List.length_drop, List.length_take]; rfl)) ?_; (with_reducible refine (numeral_Is.calls k (⟨#[45, 48, 46, 53, 101, 43, 55]⟩ : ByteArray) true _ A1.out).mono ?_); rintro e w8 ⟨rfl, hb⟩; refine ⟨_, rfl, ?_⟩; have n0_ := Aside0.mk (below_step (by repeat (first | (with_reducible first | exact HB.out | apply below_alloc | apply pw_below_drewN | apply below_drew1) | exact HB.out)) hb); clear HB; have HB := n0_; clear n0_; (try clear hb); (try clear hb2); (try clear hk); (try clear hi)) | (go_at_call 25; (with_reducible refine (numeral_Fault.calls k (⟨#[48, 49]⟩ : ByteArray) t110 _ A3.out).mono ?_); rintro e w9 ⟨rfl, hb⟩; have n0_ := Aside0.mk (below_step (by repeat (first | (with_reducible first | exact HB.out | apply below_alloc | apply pw_below_drewN | apply below_drew1) | exact HB.out)) hb); clear HB; have HB := n0_; clear n0_; (try clear hb); (try clear hb2); (try clear hk); (try clear hi)) | (go_at_call 25; (with_reducible refine (numeral_Fault.calls k (⟨#[49, 46]⟩ : ByteArray) t111 _ A5.out).mono ?_); rintro e w10 ⟨rfl, hb⟩; have n0_ := Aside0.mk (below_step (by repeat (first | (with_reducible first | exact HB.out | apply below_alloc | apply pw_below_drewN | apply below_drew1) | exact HB.out)) hb); clear HB; have HB := n0_; clear n0_; (try clear hb); (try clear hb2); (try clear hk); (try clear hi)) | (go_at_call 27; (with_reducible refine (numeral_Count.calls k (⟨#[49, 50, 44]⟩ : ByteArray) t112 _ A7.out).mono ?_); rintro e w11 ⟨rfl, hb⟩; have n0_ := Aside0.mk (below_step (by repeat (first | (with_reducible first | exact HB.out | apply below_alloc | apply pw_below_drewN | apply below_drew1) | exact HB.out)) hb); clear HB; have HB := n0_; clear n0_; (try clear hb); (try clear hb2); (try clear hk); (try clear hi)))
        go_ret
        exact ⟨by first | rfl | (simp [errW_none, errW_some] <;> rfl) | (simp [*, errW_none, errW_some] <;> rfl), by repeat (first | (with_reducible first | exact HB.out | apply below_alloc | apply pw_below_drewN | apply below_drew1) | exact HB.out)⟩
      · rw [if_neg c6] at H
        have c6b0 : (t111 == 2) = false := beq_eq_false_iff_ne.mpr c6
        have c6b1 : (t111 != 2) = true := bne_iff_ne.mpr c6
        obtain rfl := Option.some.inj H
        go_enter Try.func19, Try.ntmps19
        go_wp2_with (first | ((with_reducible refine gate_callee (f := 24) rfl ?_); refine goesL_ (some 1) rfl rfl Try.func24 (by kernel_rfl) rfl #[.string (⟨#[45, 48, 46, 53, 101, 43, 55]⟩ : ByteArray)] rfl (by (try simp only [List.map_toArray, List.map_cons, List.map_nil]); first | done | rfl | (simp only [List.length_drop, List.length_take]; rfl)) ?_; (with_reducible refine (numeral_Is.calls k (⟨#[45, 48, 46, 53, 101, 43, 55]⟩ : ByteArray) true _ A1.out).mono ?_); rintro e w12 ⟨rfl, hb⟩; refine ⟨_, rfl, ?_⟩; have n0_ := Aside0.mk (below_step (by repeat (first | (with_reducible first | exact HB.out | apply below_alloc | apply pw_below_drewN | apply below_drew1) | exact HB.out)) hb); clear HB; have HB := n0_; clear n0_; (try clear hb); (try clear hb2); (try clear hk); (try clear hi)) | (go_at_call 25; (with_reducible refine (numeral_Fault.calls k (⟨#[48, 49]⟩ : ByteArray) t110 _ A3.out).mono ?_); rintro e w13 ⟨rfl, hb⟩; have n0_ := Aside0.mk (below_step (by repeat (first | (with_reducible first | exact HB.out | apply below_alloc | apply pw_below_drewN | apply below_drew1) | exact HB.out)) hb); clear HB; have HB := n0_; clear n0_; (try clear hb); (try clear hb2); (try clear hk); (try clear hi)) | (go_at_call 25; (with_reducible refine (numeral_Fault.calls k (⟨#[49, 46]⟩ : ByteArray) t111 _ A5.out).mono ?_); rintro e w14 ⟨rfl, hb⟩; have n0_ := Aside0.mk (below_step (by repeat (first | (with_reducible first | exact HB.out | apply below_alloc | apply pw_below_drewN | apply below_drew1) | exact HB.out)) hb); clear HB; have HB := n0_; clear n0_; (try clear hb); (try clear hb2); (try clear hk); (try clear hi)))
        go_ret
        exact ⟨by first | rfl | (simp [errW_none, errW_some] <;> rfl) | (simp [*, errW_none, errW_some] <;> rfl), by repeat (first | (with_reducible first | exact HB.out | apply below_alloc | apply pw_below_drewN | apply below_drew1) | exact HB.out)⟩
    · rw [if_neg c4] at H
      have c4b0 : (t110 == 1) = false := beq_eq_false_iff_ne.mpr c4
      have c4b1 : (t110 != 1) = true := bne_iff_ne.mpr c4
      obtain rfl := Option.some.inj H
      go_enter Try.func19, Try.ntmps19
      go_wp2_with (first | ((with_reducible refine gate_callee (f := 24) rfl ?_); refine goesL_ (some 1) rfl rfl Try.func24 (by kernel_rfl) rfl #[.string (⟨#[45, 48, 46, 53, 101, 43, 55]⟩ : ByteArray)] rfl (by (try simp only [List.map_toArray, List.map_cons, List.map_nil]); first | done | rfl | (simp only [List.length_drop, List.length_take]; rfl)) ?_; (with_reducible refine (numeral_Is.calls k (⟨#[45, 48, 46, 53, 101, 43, 55]⟩ : ByteArray) true _ A1.out).mono ?_); rintro e w15 ⟨rfl, hb⟩; refine ⟨_, rfl, ?_⟩; have n0_ := Aside0.mk (below_step (by repeat (first | (with_reducible first | exact HB.out | apply below_alloc | apply pw_below_drewN | apply below_drew1) | exact HB.out)) hb); clear HB; have HB := n0_; clear n0_; (try clear hb); (try clear hb2); (try clear hk); (try clear hi)) | (go_at_call 25; (with_reducible refine (numeral_Fault.calls k (⟨#[48, 49]⟩ : ByteArray) t110 _ A3.out).mono ?_); rintro e w16 ⟨rfl, hb⟩; have n0_ := Aside0.mk (below_step (by repeat (first | (with_reducible first | exact HB.out | apply below_alloc | apply pw_below_drewN | apply below_drew1) | exact HB.out)) hb); clear HB; have HB := n0_; clear n0_; (try clear hb); (try clear hb2); (try clear hk); (try clear hi)))
      go_ret
      exact ⟨by first | rfl | (simp [errW_none, errW_some] <;> rfl) | (simp [*, errW_none, errW_some] <;> rfl), by repeat (first | (with_reducible first | exact HB.out | apply below_alloc | apply pw_below_drewN | apply below_drew1) | exact HB.out)⟩
  · replace c2 := Bool.eq_false_iff.mpr c2
    subst c2
    have H1 : (some false) = some r := by rw [if_neg (show ¬ (false = true) by decide)] at H; exact H
    clear H
    have H := H1
    clear H1
    obtain rfl := Option.some.inj H
    go_enter Try.func19, Try.ntmps19
    go_wp2_with (first | ((with_reducible refine gate_callee (f := 24) rfl ?_); refine goesL_ (some 1) rfl rfl Try.func24 (by kernel_rfl) rfl #[.string (⟨#[45, 48, 46, 53, 101, 43, 55]⟩ : ByteArray)] rfl (by (try simp only [List.map_toArray, List.map_cons, List.map_nil]); first | done | rfl | (simp only [List.length_drop, List.length_take]; rfl)) ?_; (with_reducible refine (numeral_Is.calls k (⟨#[45, 48, 46, 53, 101, 43, 55]⟩ : ByteArray) false _ A1.out).mono ?_); rintro e w17 ⟨rfl, hb⟩; refine ⟨_, rfl, ?_⟩; have n0_ := Aside0.mk (below_step (by repeat (first | (with_reducible first | exact HB.out | apply below_alloc | apply pw_below_drewN | apply below_drew1) | exact HB.out)) hb); clear HB; have HB := n0_; clear n0_; (try clear hb); (try clear hb2); (try clear hk); (try clear hi)))
    go_ret
    exact ⟨by first | rfl | (simp [errW_none, errW_some] <;> rfl) | (simp [*, errW_none, errW_some] <;> rfl), by repeat (first | (with_reducible first | exact HB.out | apply below_alloc | apply pw_below_drewN | apply below_drew1) | exact HB.out)⟩

/-! ### riffleref01_Digit: function 49 -/
def riffleref01_Digit.f (a0 : Int) : Option (Bool) := if a0 ≥ 48 then (some (decide (a0 ≤ 57))) else (some false)
set_option maxHeartbeats 8000000 in
set_option maxRecDepth 100000 in
theorem riffleref01_Digit.calls (a0 : Int) (r : Bool) (w : World) (h : riffleref01_Digit.f a0 = some r) :
    Calls Try.prog 49 #[.int .u8 a0] w fun e w' => e = .returned (.bool r) ∧ Drawn0 w w' := by
  have H : (if a0 ≥ 48 then (some (decide (a0 ≤ 57))) else (some false)) = some r := h
  clear h
  by_cases c2 : a0 ≥ 48
  · rw [if_pos c2] at H
    have c2b0 : decide (48 ≤ a0) = true := decide_eq_true c2
    clear c2
    obtain rfl := Option.some.inj H
    go_enter Try.func49, Try.ntmps49
    go_wp2
    go_ret
    exact ⟨by first | rfl | (simp; done) | (simp [*]; done), by repeat (first | exact Drawn0.refl _ | apply Drawn0.step)⟩
  · rw [if_neg c2] at H
    have c2b0 : decide (48 ≤ a0) = false := decide_eq_false c2
    clear c2
    obtain rfl := Option.some.inj H
    go_enter Try.func49, Try.ntmps49
    go_wp2
    go_ret
    exact ⟨by first | rfl | (simp; done) | (simp [*]; done), by repeat (first | exact Drawn0.refl _ | apply Drawn0.step)⟩

/-! ### riffleref04_digits: function 54 -/
def riffleref04_digits.l0 : Nat → ByteArray → Int → Option (Int)
  | 0, _, _ => none
  | k + 1, x0, x3 => if x3 < (x0.size : Int) then (if 0 ≤ x3 then ((riffleref01_Digit.f (bt x0 x3)).bind fun t113 => (if t113 = true then (riffleref04_digits.l0 k x0 (wrap64 (x3 + 1))) else (some x3))) else (none)) else (some x3)
def riffleref04_digits.f (k : Nat) (a0 : ByteArray) : Option (Int) := riffleref04_digits.l0 k a0 0
theorem riffleref04_digits.mono_l : ∀ k, (∀ y0 y1, LeO (riffleref04_digits.l0 k y0 y1) (riffleref04_digits.l0 (k + 1) y0 y1))
  | 0 => fun _ _ r h => by simp [riffleref04_digits.l0] at h
  | k + 1 => by
    have ih0 := riffleref04_digits.mono_l k
    · intro y0 y1
      unfold riffleref04_digits.l0
      repeat' first
      | (with_reducible exact ih0 _ _)
      | (with_reducible exact LeO.refl _)
      | (with_reducible exact LeO.none _)
      | (with_reducible refine LeO.ite ?_ ?_)
      | (with_reducible refine LeO.bind ?_ (fun _ => ?_))
      | exact ih0 _ _
      | exact LeO.none _
      | refine LeO.ite ?_ ?_
      | refine LeO.bind ?_ (fun _ => ?_)
theorem riffleref04_digits.mono : ∀ a0 k, LeO (riffleref04_digits.f k a0) (riffleref04_digits.f (k + 1) a0) := by
  intro a0 k
  have ih0 := riffleref04_digits.mono_l k
  unfold riffleref04_digits.f
  repeat' first
      | (with_reducible exact ih0 _ _)
      | (with_reducible exact LeO.refl _)
      | (with_reducible exact LeO.none _)
      | (with_reducible refine LeO.ite ?_ ?_)
      | (with_reducible refine LeO.bind ?_ (fun _ => ?_))
      | exact ih0 _ _
      | exact LeO.none _
      | refine LeO.ite ?_ ?_
      | refine LeO.bind ?_ (fun _ => ?_)
set_option maxHeartbeats 8000000 in
set_option maxRecDepth 100000 in
theorem riffleref04_digits.calls (k : Nat) (a0 : ByteArray) (r : Int) (w : World) (h : riffleref04_digits.f k a0 = some r) :
    Calls Try.prog 54 #[.string a0] w fun e w' => e = .returned (.int .i64 r) ∧ Drawn0 w w' := by
  have H : (riffleref04_digits.l0 k a0 0) = some r := h
  clear h
  have H' := Aside0.mk H
  clear H
  go_enter Try.func54, Try.ntmps54
  go_wp2
  go_loopg [3] k (fun kq v3 w' => ∃ (x3_1 : Int), v3 = .int .i64 x3_1 ∧ Aside0 (riffleref04_digits.l0 kq a0 x3_1 = some r) ∧ Aside0 (kq ≤ k) ∧ Drawn0 w w')
  case atStart => exact ⟨(0), (by first | rfl | (simp; done) | (simp [*]; done)), H', ⟨Nat.le_refl _⟩, by repeat (first | exact Drawn0.refl _ | apply Drawn0.step)⟩
  case round =>
    clear H'
    obtain ⟨x3_1, rfl, HA, HK1, ⟨m1, rfl⟩⟩ := hrel
    cases gk with
    | zero => exact absurd HA.out (by simp [riffleref04_digits.l0])
    | succ k1 =>
      have H := HA.out
      clear HA
      simp only [riffleref04_digits.l0] at H
      by_cases c2 : x3_1 < (a0.size : Int)
      · rw [if_pos c2] at H
        have c2b0 : decide (x3_1 < (a0.size : Int)) = true := decide_eq_true c2
        clear c2
        by_cases c3 : 0 ≤ x3_1
        · rw [if_pos c3] at H
          have c3b0 : decide (0 ≤ x3_1) = true := decide_eq_true c3
          clear c3
          replace H := Option.bind_eq_some_iff.mp H
          obtain ⟨t113, A50, H⟩ := H
          replace H : (if t113 = true then (riffleref04_digits.l0 k1 a0 (wrap64 (x3_1 + 1))) else (some x3_1)) = some r := H
          have A5 := Aside0.mk A50
          clear A50
          by_cases c6 : t113 = true
          · subst c6
            have H1 : (riffleref04_digits.l0 k1 a0 (wrap64 (x3_1 + 1))) = some r := by rw [if_pos rfl] at H; exact H
            clear H
            have H := H1
            clear H1
            have H' := Aside0.mk H
            clear H
            have p4 : 0 ≤ (x3_1 : Int) := of_decide_eq_true (by first | (with_reducible assumption) | assumption)
            have q4 : x3_1 < (a0.size : Int) := of_decide_eq_true (by first | (with_reducible assumption) | assumption)
            have hx4 := bt_at a0 x3_1
            replace p4 := eq_true p4
            replace q4 := eq_true q4
            go_wp2_with (first | (go_at_call 49; (with_reducible refine (riffleref01_Digit.calls (bt a0 x3_1) true _ A5.out).mono ?_); rintro e w' ⟨rfl, ⟨nd, rfl⟩⟩))
            go_roundg k1
            case measure => have := HK1.out; omega
            case rel => exact ⟨(wrap64 (x3_1 + 1)), (by first | rfl | (simp; done) | (simp [*]; done)), H', ⟨by have := HK1.out; omega⟩, by repeat (first | exact Drawn0.refl _ | apply Drawn0.step)⟩
          · replace c6 := Bool.eq_false_iff.mpr c6
            subst c6
            have H1 : (some x3_1) = some r := by rw [if_neg (show ¬ (false = true) by decide)] at H; exact H
            clear H
            have H := H1
            clear H1
            obtain rfl := Option.some.inj H
            have p4 : 0 ≤ (x3_1 : Int) := of_decide_eq_true (by first | (with_reducible assumption) | assumption)
            have q4 : x3_1 < (a0.size : Int) := of_decide_eq_true (by first | (with_reducible assumption) | assumption)
            have hx4 := bt_at a0 x3_1
            replace p4 := eq_true p4
            replace q4 := eq_true q4
            go_wp2_with (first | (go_at_call 49; (with_reducible refine (riffleref01_Digit.calls (bt a0 x3_1) false _ A5.out).mono ?_); rintro e w' ⟨rfl, ⟨nd, rfl⟩⟩))
            go_ret
            exact ⟨by first | rfl | (simp; done) | (simp [*]; done), by repeat (first | exact Drawn0.refl _ | apply Drawn0.step)⟩
        · rw [if_neg c3] at H
          exact absurd H (by simp)
      · rw [if_neg c2] at H
        have c2b0 : decide (x3_1 < (a0.size : Int)) = false := decide_eq_false c2
        clear c2
        obtain rfl := Option.some.inj H
        go_wp2
        go_ret
        exact ⟨by first | rfl | (simp; done) | (simp [*]; done), by repeat (first | exact Drawn0.refl _ | apply Drawn0.step)⟩

end Go.Proofs.Ytjfoppmpiklfiab.PNumeralWalks
