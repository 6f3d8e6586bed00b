/- What a byte begins: octet.Kind, printed, and as the plain machine says it. Conditions: none. -/
import Derived.Test.YtlhpflicchchlaaDoorPPathPutsx0
import Derived.Test.YtlhpflicchchlaaDoorLexPure
namespace Go.Proofs.YtlhpflicchchlaaDoor.LxPr
open Go.RowKit Go.Proofs.YtlhpflicchchlaaDoor.PPathPuts Go.Proofs.YtlhpflicchchlaaDoorW.PrintWords Go.Proofs.YtlhpflicchchlaaDoorW.PrintLast Go.Proofs.YtlhpflicchchlaaDoorW.PrintMore
attribute [local go_sem] max2_int min2_int max_two min_two max_three min_three max_four min_four
set_option linter.unusedVariables false
set_option linter.unusedSimpArgs false
/-! ### octet_Digit: function 160 -/
def octet_Digit.f (a0 : Int) : Option (Bool) := if a0 ≥ 48 then (some (decide (a0 ≤ 57))) else (some false)
set_option maxHeartbeats 8000000 in
set_option maxRecDepth 100000 in
theorem octet_Digit.calls (a0 : Int) (r : Bool) (w : World) (h : octet_Digit.f a0 = some r) :
    Calls Tryd.prog 160 #[.int .u8 a0] w fun e w' => e = .returned (.bool r) ∧ Drawn0 w w' := by
  have H : (if a0 ≥ 48 then (some (decide (a0 ≤ 57))) else (some false)) = some r := h
  clear h
  by_cases c2 : a0 ≥ 48
  · rw [if_pos c2] at H
    have c2b0 : decide (48 ≤ a0) = true := decide_eq_true c2
    clear c2
    obtain rfl := Option.some.inj H
    go_enter Tryd.func160, Tryd.ntmps160
    go_wp2
    go_ret
    exact ⟨by first | rfl | (simp; done) | (simp [*]; done), by repeat (first | exact Drawn0.refl _ | apply Drawn0.step)⟩
  · rw [if_neg c2] at H
    have c2b0 : decide (48 ≤ a0) = false := decide_eq_false c2
    clear c2
    obtain rfl := Option.some.inj H
    go_enter Tryd.func160, Tryd.ntmps160
    go_wp2
    go_ret
    exact ⟨by first | rfl | (simp; done) | (simp [*]; done), by repeat (first | exact Drawn0.refl _ | apply Drawn0.step)⟩

/-! ### octet_Kind: function 162 -/
mutual
def octet_Kind.j0 : Nat → Int → Int → Bool → Option (Int)
  | 0, _, _, _ => none
  | k + 1, x0, x3, x4 => if x4 = true then (some 1) else (if x3 = 91 then (some 2) else (if x3 = 93 then (some 3) else (if x3 = 123 then (some 4) else (if x3 = 125 then (some 5) else (if x3 = 44 then (some 6) else (if x3 = 58 then (some 7) else (if x3 = 34 then (some 8) else (if x3 = 45 then (some 9) else (if x3 = 116 then (octet_Kind.j1 k x0 (x3 == 116)) else (if x3 = 102 then (octet_Kind.j1 k x0 (x3 == 102)) else (octet_Kind.j1 k x0 (x3 == 110))))))))))))
def octet_Kind.j1 : Nat → Int → Bool → Option (Int)
  | 0, _, _ => none
  | k + 1, x0, x25 => if x25 = true then (some 10) else ((octet_Digit.f x0).bind fun t162 => (if t162 = true then (some 9) else (some 0)))
end
def octet_Kind.f (k : Nat) (a0 : Int) : Option (Int) := if a0 = 32 then (octet_Kind.j0 k a0 a0 (a0 == 32)) else (if a0 = 9 then (octet_Kind.j0 k a0 a0 (a0 == 9)) else (if a0 = 10 then (octet_Kind.j0 k a0 a0 (a0 == 10)) else (octet_Kind.j0 k a0 a0 (a0 == 13))))
theorem octet_Kind.mono_l : ∀ k, (∀ y0 y1 y2, LeO (octet_Kind.j0 k y0 y1 y2) (octet_Kind.j0 (k + 1) y0 y1 y2)) ∧ (∀ y0 y1, LeO (octet_Kind.j1 k y0 y1) (octet_Kind.j1 (k + 1) y0 y1))
  | 0 => ⟨fun _ _ _ r h => by simp [octet_Kind.j0] at h, fun _ _ r h => by simp [octet_Kind.j1] at h⟩
  | k + 1 => by
    obtain ⟨ih0, ih1⟩ := octet_Kind.mono_l k
    refine ⟨?_, ?_⟩
    · intro y0 y1 y2
      unfold octet_Kind.j0
      repeat' first
      | (with_reducible exact ih0 _ _ _)
      | (with_reducible exact ih1 _ _)
      | (with_reducible exact LeO.refl _)
      | (with_reducible exact LeO.none _)
      | (with_reducible refine LeO.ite ?_ ?_)
      | (with_reducible refine LeO.bind ?_ (fun _ => ?_))
      | exact ih0 _ _ _
      | exact ih1 _ _
      | exact LeO.none _
      | refine LeO.ite ?_ ?_
      | refine LeO.bind ?_ (fun _ => ?_)
    · intro y0 y1
      unfold octet_Kind.j1
      repeat' first
      | (with_reducible exact ih0 _ _ _)
      | (with_reducible exact ih1 _ _)
      | (with_reducible exact LeO.refl _)
      | (with_reducible exact LeO.none _)
      | (with_reducible refine LeO.ite ?_ ?_)
      | (with_reducible refine LeO.bind ?_ (fun _ => ?_))
      | exact ih0 _ _ _
      | exact ih1 _ _
      | exact LeO.none _
      | refine LeO.ite ?_ ?_
      | refine LeO.bind ?_ (fun _ => ?_)
theorem octet_Kind.mono : ∀ a0 k, LeO (octet_Kind.f k a0) (octet_Kind.f (k + 1) a0) := by
  intro a0 k
  obtain ⟨ih0, ih1⟩ := octet_Kind.mono_l k
  unfold octet_Kind.f
  repeat' first
      | (with_reducible exact ih0 _ _ _)
      | (with_reducible exact ih1 _ _)
      | (with_reducible exact LeO.refl _)
      | (with_reducible exact LeO.none _)
      | (with_reducible refine LeO.ite ?_ ?_)
      | (with_reducible refine LeO.bind ?_ (fun _ => ?_))
      | exact ih0 _ _ _
      | exact ih1 _ _
      | exact LeO.none _
      | refine LeO.ite ?_ ?_
      | refine LeO.bind ?_ (fun _ => ?_)
set_option maxHeartbeats 8000000 in
set_option maxRecDepth 100000 in
theorem octet_Kind.calls (k : Nat) (a0 : Int) (r : Int) (w : World) (h : octet_Kind.f k a0 = some r) :
    Calls Tryd.prog 162 #[.int .u8 a0] w fun e w' => e = .returned (.int .i64 r) ∧ Drawn0 w w' := by
  have H : (if a0 = 32 then (octet_Kind.j0 k a0 a0 (a0 == 32)) else (if a0 = 9 then (octet_Kind.j0 k a0 a0 (a0 == 9)) else (if a0 = 10 then (octet_Kind.j0 k a0 a0 (a0 == 10)) else (octet_Kind.j0 k a0 a0 (a0 == 13))))) = some r := h
  clear h
  have HC2 := Aside0.mk H
  clear H
  go_enter Tryd.func162, Tryd.ntmps162
  go_upto_if 4 with (fail)
  go_cut [4] (fun v4 wc => ∃ (kq : Nat) (x4_1 : Bool), v4 = .bool x4_1 ∧ Aside0 (octet_Kind.j0 kq a0 a0 x4_1 = some r) ∧ Aside0 (kq ≤ k) ∧ Drawn0 w wc)
  case first =>
    have H := HC2.out
    clear HC2
    by_cases c3 : a0 = 32
    · rw [if_pos c3] at H
      have c3b0 : (a0 == 32) = true := beq_iff_eq.mpr c3
      have c3b1 : (a0 != 32) = false := bne_eq_false_iff_eq.mpr c3
      clear c3
      (first | rw [c3b0] | (simp only [i64_w, i32_w]; rw [c3b0]) | skip)
      have H' := Aside0.mk H
      clear H
      go_wp2
      go_meet
      case rel => exact ⟨_, ((a0 == 32)), (by first | rfl | (simp; done) | (simp [*]; done)), H', ⟨by first | omega | exact Nat.le_refl _⟩, by repeat (first | exact Drawn0.refl _ | apply Drawn0.step)⟩
    · rw [if_neg c3] at H
      have c3b0 : (a0 == 32) = false := beq_eq_false_iff_ne.mpr c3
      have c3b1 : (a0 != 32) = true := bne_iff_ne.mpr c3
      (first | rw [c3b0] | (simp only [i64_w, i32_w]; rw [c3b0]) | skip)
      by_cases c4 : a0 = 9
      · rw [if_pos c4] at H
        have c4b0 : (a0 == 9) = true := beq_iff_eq.mpr c4
        have c4b1 : (a0 != 9) = false := bne_eq_false_iff_eq.mpr c4
        clear c4
        have H' := Aside0.mk H
        clear H
        go_wp2
        go_meet
        case rel => exact ⟨_, ((a0 == 9)), (by first | rfl | (simp; done) | (simp [*]; done)), H', ⟨by first | omega | exact Nat.le_refl _⟩, by repeat (first | exact Drawn0.refl _ | apply Drawn0.step)⟩
      · rw [if_neg c4] at H
        have c4b0 : (a0 == 9) = false := beq_eq_false_iff_ne.mpr c4
        have c4b1 : (a0 != 9) = true := bne_iff_ne.mpr c4
        by_cases c5 : a0 = 10
        · rw [if_pos c5] at H
          have c5b0 : (a0 == 10) = true := beq_iff_eq.mpr c5
          have c5b1 : (a0 != 10) = false := bne_eq_false_iff_eq.mpr c5
          clear c5
          have H' := Aside0.mk H
          clear H
          go_wp2
          go_meet
          case rel => exact ⟨_, ((a0 == 10)), (by first | rfl | (simp; done) | (simp [*]; done)), H', ⟨by first | omega | exact Nat.le_refl _⟩, by repeat (first | exact Drawn0.refl _ | apply Drawn0.step)⟩
        · rw [if_neg c5] at H
          have c5b0 : (a0 == 10) = false := beq_eq_false_iff_ne.mpr c5
          have c5b1 : (a0 != 10) = true := bne_iff_ne.mpr c5
          have H' := Aside0.mk H
          clear H
          go_wp2
          go_meet
          case rel => exact ⟨_, ((a0 == 13)), (by first | rfl | (simp; done) | (simp [*]; done)), H', ⟨by first | omega | exact Nat.le_refl _⟩, by repeat (first | exact Drawn0.refl _ | apply Drawn0.step)⟩
  case rest =>
    clear HC2
    try clear c1
    try clear p2
    try clear c3
    try clear c3b0
    try clear c3b1
    try clear c4
    try clear c4b0
    try clear c4b1
    try clear c5
    try clear c5b0
    try clear c5b1
    obtain ⟨kq, x4_1, rfl, HA, HJ1, ⟨mc1, rfl⟩⟩ := hcut
    cases kq with
    | zero => exact absurd HA.out (by simp [octet_Kind.j0])
    | succ kj1 =>
      have H := HA.out
      clear HA
      simp only [octet_Kind.j0] at H
      by_cases c6 : x4_1 = true
      · subst c6
        have H1 : (some 1) = some r := by rw [if_pos rfl] at H; exact H
        clear H
        have H := H1
        clear H1
        obtain rfl := Option.some.inj H
        go_wp2
        go_ret
        exact ⟨by first | rfl | (simp; done) | (simp [*]; done), by repeat (first | exact Drawn0.refl _ | apply Drawn0.step)⟩
      · replace c6 := Bool.eq_false_iff.mpr c6
        subst c6
        have H1 : (if a0 = 91 then (some 2) else (if a0 = 93 then (some 3) else (if a0 = 123 then (some 4) else (if a0 = 125 then (some 5) else (if a0 = 44 then (some 6) else (if a0 = 58 then (some 7) else (if a0 = 34 then (some 8) else (if a0 = 45 then (some 9) else (if a0 = 116 then (octet_Kind.j1 kj1 a0 (a0 == 116)) else (if a0 = 102 then (octet_Kind.j1 kj1 a0 (a0 == 102)) else (octet_Kind.j1 kj1 a0 (a0 == 110)))))))))))) = some r := by rw [if_neg (show ¬ (false = true) by decide)] at H; exact H
        clear H
        have H := H1
        clear H1
        by_cases c7 : a0 = 91
        · rw [if_pos c7] at H
          have c7b0 : (a0 == 91) = true := beq_iff_eq.mpr c7
          have c7b1 : (a0 != 91) = false := bne_eq_false_iff_eq.mpr c7
          clear c7
          obtain rfl := Option.some.inj H
          go_wp2
          go_ret
          exact ⟨by first | rfl | (simp; done) | (simp [*]; done), by repeat (first | exact Drawn0.refl _ | apply Drawn0.step)⟩
        · rw [if_neg c7] at H
          have c7b0 : (a0 == 91) = false := beq_eq_false_iff_ne.mpr c7
          have c7b1 : (a0 != 91) = true := bne_iff_ne.mpr c7
          by_cases c8 : a0 = 93
          · rw [if_pos c8] at H
            have c8b0 : (a0 == 93) = true := beq_iff_eq.mpr c8
            have c8b1 : (a0 != 93) = false := bne_eq_false_iff_eq.mpr c8
            clear c8
            obtain rfl := Option.some.inj H
            go_wp2
            go_ret
            exact ⟨by first | rfl | (simp; done) | (simp [*]; done), by repeat (first | exact Drawn0.refl _ | apply Drawn0.step)⟩
          · rw [if_neg c8] at H
            have c8b0 : (a0 == 93) = false := beq_eq_false_iff_ne.mpr c8
            have c8b1 : (a0 != 93) = true := bne_iff_ne.mpr c8
            by_cases c9 : a0 = 123
            · rw [if_pos c9] at H
              have c9b0 : (a0 == 123) = true := beq_iff_eq.mpr c9
              have c9b1 : (a0 != 123) = false := bne_eq_false_iff_eq.mpr c9
              clear c9
              obtain rfl := Option.some.inj H
              go_wp2
              go_ret
              exact ⟨by first | rfl | (simp; done) | (simp [*]; done), by repeat (first | exact Drawn0.refl _ | apply Drawn0.step)⟩
            · rw [if_neg c9] at H
              have c9b0 : (a0 == 123) = false := beq_eq_false_iff_ne.mpr c9
              have c9b1 : (a0 != 123) = true := bne_iff_ne.mpr c9
              by_cases c10 : a0 = 125
              · rw [if_pos c10] at H
                have c10b0 : (a0 == 125) = true := beq_iff_eq.mpr c10
                have c10b1 : (a0 != 125) = false := bne_eq_false_iff_eq.mpr c10
                clear c10
                obtain rfl := Option.some.inj H
                go_wp2
                go_ret
                exact ⟨by first | rfl | (simp; done) | (simp [*]; done), by repeat (first | exact Drawn0.refl _ | apply Drawn0.step)⟩
              · rw [if_neg c10] at H
                have c10b0 : (a0 == 125) = false := beq_eq_false_iff_ne.mpr c10
                have c10b1 : (a0 != 125) = true := bne_iff_ne.mpr c10
                by_cases c11 : a0 = 44
                · rw [if_pos c11] at H
                  have c11b0 : (a0 == 44) = true := beq_iff_eq.mpr c11
                  have c11b1 : (a0 != 44) = false := bne_eq_false_iff_eq.mpr c11
                  clear c11
                  obtain rfl := Option.some.inj H
                  go_wp2
                  go_ret
                  exact ⟨by first | rfl | (simp; done) | (simp [*]; done), by repeat (first | exact Drawn0.refl _ | apply Drawn0.step)⟩
                · rw [if_neg c11] at H
                  have c11b0 : (a0 == 44) = false := beq_eq_false_iff_ne.mpr c11
                  have c11b1 : (a0 != 44) = true := bne_iff_ne.mpr c11
                  by_cases c12 : a0 = 58
                  · rw [if_pos c12] at H
                    have c12b0 : (a0 == 58) = true := beq_iff_eq.mpr c12
                    have c12b1 : (a0 != 58) = false := bne_eq_false_iff_eq.mpr c12
                    clear c12
                    obtain rfl := Option.some.inj H
                    go_wp2
                    go_ret
                    exact ⟨by first | rfl | (simp; done) | (simp [*]; done), by repeat (first | exact Drawn0.refl _ | apply Drawn0.step)⟩
                  · rw [if_neg c12] at H
                    have c12b0 : (a0 == 58) = false := beq_eq_false_iff_ne.mpr c12
                    have c12b1 : (a0 != 58) = true := bne_iff_ne.mpr c12
                    by_cases c13 : a0 = 34
                    · rw [if_pos c13] at H
                      have c13b0 : (a0 == 34) = true := beq_iff_eq.mpr c13
                      have c13b1 : (a0 != 34) = false := bne_eq_false_iff_eq.mpr c13
                      clear c13
                      obtain rfl := Option.some.inj H
                      go_wp2
                      go_ret
                      exact ⟨by first | rfl | (simp; done) | (simp [*]; done), by repeat (first | exact Drawn0.refl _ | apply Drawn0.step)⟩
                    · rw [if_neg c13] at H
                      have c13b0 : (a0 == 34) = false := beq_eq_false_iff_ne.mpr c13
                      have c13b1 : (a0 != 34) = true := bne_iff_ne.mpr c13
                      by_cases c14 : a0 = 45
                      · rw [if_pos c14] at H
                        have c14b0 : (a0 == 45) = true := beq_iff_eq.mpr c14
                        have c14b1 : (a0 != 45) = false := bne_eq_false_iff_eq.mpr c14
                        clear c14
                        obtain rfl := Option.some.inj H
                        go_wp2
                        go_ret
                        exact ⟨by first | rfl | (simp; done) | (simp [*]; done), by repeat (first | exact Drawn0.refl _ | apply Drawn0.step)⟩
                      · rw [if_neg c14] at H
                        have c14b0 : (a0 == 45) = false := beq_eq_false_iff_ne.mpr c14
                        have c14b1 : (a0 != 45) = true := bne_iff_ne.mpr c14
                        have HC15 := Aside0.mk H
                        clear H
                        go_upto_if 25 with (fail)
                        go_cut [25] (fun v25 wc => ∃ (kq : Nat) (x25_14 : Bool), v25 = .bool x25_14 ∧ Aside0 (octet_Kind.j1 kq a0 x25_14 = some r) ∧ Aside0 (kq ≤ kj1) ∧ Drawn0 w wc)
                        case first =>
                          have H := HC15.out
                          clear HC15
                          by_cases c16 : a0 = 116
                          · rw [if_pos c16] at H
                            have c16b0 : (a0 == 116) = true := beq_iff_eq.mpr c16
                            have c16b1 : (a0 != 116) = false := bne_eq_false_iff_eq.mpr c16
                            clear c16
                            (first | rw [c16b0] | (simp only [i64_w, i32_w]; rw [c16b0]) | skip)
                            have H' := Aside0.mk H
                            clear H
                            go_wp2
                            go_meet
                            case rel => exact ⟨_, ((a0 == 116)), (by first | rfl | (simp; done) | (simp [*]; done)), H', ⟨by have := HJ1.out; first | omega | exact Nat.le_refl _⟩, by repeat (first | exact Drawn0.refl _ | apply Drawn0.step)⟩
                          · rw [if_neg c16] at H
                            have c16b0 : (a0 == 116) = false := beq_eq_false_iff_ne.mpr c16
                            have c16b1 : (a0 != 116) = true := bne_iff_ne.mpr c16
                            (first | rw [c16b0] | (simp only [i64_w, i32_w]; rw [c16b0]) | skip)
                            by_cases c17 : a0 = 102
                            · rw [if_pos c17] at H
                              have c17b0 : (a0 == 102) = true := beq_iff_eq.mpr c17
                              have c17b1 : (a0 != 102) = false := bne_eq_false_iff_eq.mpr c17
                              clear c17
                              have H' := Aside0.mk H
                              clear H
                              go_wp2
                              go_meet
                              case rel => exact ⟨_, ((a0 == 102)), (by first | rfl | (simp; done) | (simp [*]; done)), H', ⟨by have := HJ1.out; first | omega | exact Nat.le_refl _⟩, by repeat (first | exact Drawn0.refl _ | apply Drawn0.step)⟩
                            · rw [if_neg c17] at H
                              have c17b0 : (a0 == 102) = false := beq_eq_false_iff_ne.mpr c17
                              have c17b1 : (a0 != 102) = true := bne_iff_ne.mpr c17
                              have H' := Aside0.mk H
                              clear H
                              go_wp2
                              go_meet
                              case rel => exact ⟨_, ((a0 == 110)), (by first | rfl | (simp; done) | (simp [*]; done)), H', ⟨by have := HJ1.out; first | omega | exact Nat.le_refl _⟩, by repeat (first | exact Drawn0.refl _ | apply Drawn0.step)⟩
                        case rest =>
                          clear HC15
                          try clear c1
                          try clear p2
                          try clear c3
                          try clear c3b0
                          try clear c3b1
                          try clear c4
                          try clear c4b0
                          try clear c4b1
                          try clear c5
                          try clear c5b0
                          try clear c5b1
                          try clear c6
                          try clear c7
                          try clear c7b0
                          try clear c7b1
                          try clear c8
                          try clear c8b0
                          try clear c8b1
                          try clear c9
                          try clear c9b0
                          try clear c9b1
                          try clear c10
                          try clear c10b0
                          try clear c10b1
                          try clear c11
                          try clear c11b0
                          try clear c11b1
                          try clear c12
                          try clear c12b0
                          try clear c12b1
                          try clear c13
                          try clear c13b0
                          try clear c13b1
                          try clear c14
                          try clear c14b0
                          try clear c14b1
                          try clear c16
                          try clear c16b0
                          try clear c16b1
                          try clear c17
                          try clear c17b0
                          try clear c17b1
                          try clear p2
                          obtain ⟨kq, x25_14, rfl, HA, HJ14, ⟨mc14, rfl⟩⟩ := hcut
                          cases kq with
                          | zero => exact absurd HA.out (by simp [octet_Kind.j1])
                          | succ kj14 =>
                            have H := HA.out
                            clear HA
                            simp only [octet_Kind.j1] at H
                            by_cases c18 : x25_14 = true
                            · subst c18
                              have H1 : (some 10) = some r := by rw [if_pos rfl] at H; exact H
                              clear H
                              have H := H1
                              clear H1
                              obtain rfl := Option.some.inj H
                              go_wp2
                              go_ret
                              exact ⟨by first | rfl | (simp; done) | (simp [*]; done), by repeat (first | exact Drawn0.refl _ | apply Drawn0.step)⟩
                            · replace c18 := Bool.eq_false_iff.mpr c18
                              subst c18
                              have H1 : ((octet_Digit.f a0).bind fun t162 => (if t162 = true then (some 9) else (some 0))) = some r := by rw [if_neg (show ¬ (false = true) by decide)] at H; exact H
                              clear H
                              have H := H1
                              clear H1
                              replace H := Option.bind_eq_some_iff.mp H
                              obtain ⟨t162, A190, H⟩ := H
                              replace H : (if t162 = true then (some 9) else (some 0)) = some r := H
                              have A19 := Aside0.mk A190
                              clear A190
                              by_cases c20 : t162 = true
                              · subst c20
                                have H1 : (some 9) = some r := by rw [if_pos rfl] at H; exact H
                                clear H
                                have H := H1
                                clear H1
                                obtain rfl := Option.some.inj H
                                go_wp2_with (first | ((with_reducible refine gate_callee (f := 160) rfl ?_); refine goesL_ (some 30) rfl rfl Tryd.func160 (by kernel_rfl) rfl #[.int .u8 a0] rfl (by (try simp only [List.map_toArray, List.map_cons, List.map_nil]); first | done | rfl | (simp only [List.length_drop, List.length_take]; rfl)) ?_; (with_reducible refine (octet_Digit.calls a0 true _ A19.out).mono ?_); rintro e w' ⟨rfl, ⟨nd, rfl⟩⟩; refine ⟨_, rfl, ?_⟩))
                                go_ret
                                exact ⟨by first | rfl | (simp; done) | (simp [*]; done), by repeat (first | exact Drawn0.refl _ | apply Drawn0.step)⟩
                              · replace c20 := Bool.eq_false_iff.mpr c20
                                subst c20
                                have H1 : (some 0) = some r := by rw [if_neg (show ¬ (false = true) by decide)] at H; exact H
                                clear H
                                have H := H1
                                clear H1
                                obtain rfl := Option.some.inj H
                                go_wp2_with (first | ((with_reducible refine gate_callee (f := 160) rfl ?_); refine goesL_ (some 30) rfl rfl Tryd.func160 (by kernel_rfl) rfl #[.int .u8 a0] rfl (by (try simp only [List.map_toArray, List.map_cons, List.map_nil]); first | done | rfl | (simp only [List.length_drop, List.length_take]; rfl)) ?_; (with_reducible refine (octet_Digit.calls a0 false _ A19.out).mono ?_); rintro e w' ⟨rfl, ⟨nd, rfl⟩⟩; refine ⟨_, rfl, ?_⟩))
                                go_ret
                                exact ⟨by first | rfl | (simp; done) | (simp [*]; done), by repeat (first | exact Drawn0.refl _ | apply Drawn0.step)⟩

-- NOT PRINTED: function 139 (lex_Lexer_begin)

-- NOT PRINTED: function 98 (lex_Lexer_look)

-- NOT PRINTED: function 56 (lex_Lexer_Step)

theorem kind_tab : ∀ c : Fin 256, octet_Kind.f 4 ((c.val : Nat) : Int) = some (LexPure.kindOf ((c.val : Nat) : Int)) := by decide +kernel
theorem kind_calls (c : Int) (h0 : 0 ≤ c) (h1 : c < 256) (w : World) : Calls Tryd.prog 162 #[.int .u8 c] w fun e w' => e = .returned (.int .i64 (LexPure.kindOf c)) ∧ Below w.heap.size w w' := by
  have ht := kind_tab ⟨c.toNat, by omega⟩
  simp only [show ((c.toNat : Nat) : Int) = c by omega] at ht
  refine (octet_Kind.calls 4 c _ w ht).mono (fun e w' h => ⟨h.1, ?_⟩)
  obtain ⟨n, rfl⟩ := h.2
  exact pw_below_drewN (Below.refl _ _) n
end Go.Proofs.YtlhpflicchchlaaDoor.LxPr
