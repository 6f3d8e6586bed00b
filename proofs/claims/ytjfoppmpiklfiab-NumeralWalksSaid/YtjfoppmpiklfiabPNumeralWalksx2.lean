/- Contracts of functions that the law NumeralWalks reaches. Conditions: none. -/
import Derived.Test.YtjfoppmpiklfiabPNumeralWalksx0
import Derived.Test.YtjfoppmpiklfiabPNumeralWalksx1
namespace Go.Proofs.Ytjfoppmpiklfiab.PNumeralWalks
open Go.RowKit Go.Proofs.YtjfoppmpiklfiabW.PrintWords Go.Proofs.YtjfoppmpiklfiabW.PrintLast Go.Proofs.YtjfoppmpiklfiabW.PrintMore
attribute [local go_sem] max2_int min2_int max_two min_two max_three min_three max_four min_four   -- for this text's walks alone
set_option linter.unusedVariables false
set_option linter.unusedSimpArgs false

/-! ### numeral_Walk_next: function 51 -/
mutual
def numeral_Walk_next.j0 : Nat → Int → Bool → Int → Bool → Int → Option (Int × Int)
  | 0, _, _, _, _, _ => none
  | k + 1, x1, x5, x6, x13, x1000 => if x13 = true then (some (1, x1000)) else (if x6 = 0 then (numeral_Walk_next.j1 k x1 x5 x6 (x1 == 48) x1000) else (if x6 = 1 then (numeral_Walk_next.j1 k x1 x5 x6 (x1 == 48) x1000) else (numeral_Walk_next.j1 k x1 x5 x6 false x1000)))
def numeral_Walk_next.j1 : Nat → Int → Bool → Int → Bool → Int → Option (Int × Int)
  | 0, _, _, _, _, _ => none
  | k + 1, x1, x5, x6, x20, x1000 => if x20 = true then (some (2, x1000)) else (if x6 = 0 then (numeral_Walk_next.j2 k x1 x5 x6 x5 x1000) else (if x6 = 1 then (numeral_Walk_next.j2 k x1 x5 x6 x5 x1000) else (if x6 = 3 then (numeral_Walk_next.j2 k x1 x5 x6 x5 x1000) else (numeral_Walk_next.j2 k x1 x5 x6 false x1000))))
def numeral_Walk_next.j2 : Nat → Int → Bool → Int → Bool → Int → Option (Int × Int)
  | 0, _, _, _, _, _ => none
  | k + 1, x1, x5, x6, x31, x1000 => if x31 = true then (some (3, x1000)) else (if x6 = 2 then (numeral_Walk_next.j3 k x1 x5 x6 (x1 == 46) x1000) else (if x6 = 3 then (numeral_Walk_next.j3 k x1 x5 x6 (x1 == 46) x1000) else (numeral_Walk_next.j3 k x1 x5 x6 false x1000)))
def numeral_Walk_next.j3 : Nat → Int → Bool → Int → Bool → Int → Option (Int × Int)
  | 0, _, _, _, _, _ => none
  | k + 1, x1, x5, x6, x45, x1000 => if x45 = true then (some (4, x1000)) else (if x6 = 4 then (numeral_Walk_next.j4 k x1 x5 x6 x5 x1000) else (if x6 = 5 then (numeral_Walk_next.j4 k x1 x5 x6 x5 x1000) else (numeral_Walk_next.j4 k x1 x5 x6 false x1000)))
def numeral_Walk_next.j4 : Nat → Int → Bool → Int → Bool → Int → Option (Int × Int)
  | 0, _, _, _, _, _ => none
  | k + 1, x1, x5, x6, x56, x1000 => if x56 = true then (some (5, x1000)) else (if x6 = 2 then (if x1 = 101 then (numeral_Walk_next.j5 k x1 x5 x6 true x1000) else (numeral_Walk_next.j5 k x1 x5 x6 (x1 == 69) x1000)) else (if x6 = 3 then (if x1 = 101 then (numeral_Walk_next.j5 k x1 x5 x6 true x1000) else (numeral_Walk_next.j5 k x1 x5 x6 (x1 == 69) x1000)) else (if x6 = 5 then (if x1 = 101 then (numeral_Walk_next.j5 k x1 x5 x6 true x1000) else (numeral_Walk_next.j5 k x1 x5 x6 (x1 == 69) x1000)) else (numeral_Walk_next.j5 k x1 x5 x6 false x1000))))
def numeral_Walk_next.j5 : Nat → Int → Bool → Int → Bool → Int → Option (Int × Int)
  | 0, _, _, _, _, _ => none
  | k + 1, x1, x5, x6, x66, x1000 => if x66 = true then (some (6, x1000)) else (if x6 = 6 then (if x1 = 43 then (numeral_Walk_next.j6 k x5 x6 true x1000) else (numeral_Walk_next.j6 k x5 x6 (x1 == 45) x1000)) else (numeral_Walk_next.j6 k x5 x6 false x1000))
def numeral_Walk_next.j6 : Nat → Bool → Int → Bool → Int → Option (Int × Int)
  | 0, _, _, _, _ => none
  | k + 1, x5, x6, x85, x1000 => if x85 = true then (some (7, x1000)) else (if x6 ≥ 6 then (if x5 = true then (some (8, x1000)) else (some (0, x1000))) else (some (0, x1000)))
end
def numeral_Walk_next.f (k : Nat) (s0_0 : Int) (a1 : Int) : Option (Int × Int) := (octet_Digit.f a1).bind fun t101 => (if s0_0 = 0 then (numeral_Walk_next.j0 k a1 t101 s0_0 (a1 == 45) s0_0) else (numeral_Walk_next.j0 k a1 t101 s0_0 false s0_0))
theorem numeral_Walk_next.mono_l : ∀ k, (∀ y0 y1 y2 y3 y4, LeO (numeral_Walk_next.j0 k y0 y1 y2 y3 y4) (numeral_Walk_next.j0 (k + 1) y0 y1 y2 y3 y4)) ∧ (∀ y0 y1 y2 y3 y4, LeO (numeral_Walk_next.j1 k y0 y1 y2 y3 y4) (numeral_Walk_next.j1 (k + 1) y0 y1 y2 y3 y4)) ∧ (∀ y0 y1 y2 y3 y4, LeO (numeral_Walk_next.j2 k y0 y1 y2 y3 y4) (numeral_Walk_next.j2 (k + 1) y0 y1 y2 y3 y4)) ∧ (∀ y0 y1 y2 y3 y4, LeO (numeral_Walk_next.j3 k y0 y1 y2 y3 y4) (numeral_Walk_next.j3 (k + 1) y0 y1 y2 y3 y4)) ∧ (∀ y0 y1 y2 y3 y4, LeO (numeral_Walk_next.j4 k y0 y1 y2 y3 y4) (numeral_Walk_next.j4 (k + 1) y0 y1 y2 y3 y4)) ∧ (∀ y0 y1 y2 y3 y4, LeO (numeral_Walk_next.j5 k y0 y1 y2 y3 y4) (numeral_Walk_next.j5 (k + 1) y0 y1 y2 y3 y4)) ∧ (∀ y0 y1 y2 y3, LeO (numeral_Walk_next.j6 k y0 y1 y2 y3) (numeral_Walk_next.j6 (k + 1) y0 y1 y2 y3))
  | 0 => ⟨fun _ _ _ _ _ r h => by simp [numeral_Walk_next.j0] at h, fun _ _ _ _ _ r h => by simp [numeral_Walk_next.j1] at h, fun _ _ _ _ _ r h => by simp [numeral_Walk_next.j2] at h, fun _ _ _ _ _ r h => by simp [numeral_Walk_next.j3] at h, fun _ _ _ _ _ r h => by simp [numeral_Walk_next.j4] at h, fun _ _ _ _ _ r h => by simp [numeral_Walk_next.j5] at h, fun _ _ _ _ r h => by simp [numeral_Walk_next.j6] at h⟩
  | k + 1 => by
    obtain ⟨ih0, ih1, ih2, ih3, ih4, ih5, ih6⟩ := numeral_Walk_next.mono_l k
    refine ⟨?_, ?_, ?_, ?_, ?_, ?_, ?_⟩
    · intro y0 y1 y2 y3 y4
      unfold numeral_Walk_next.j0
      repeat' first
      | (with_reducible exact ih0 _ _ _ _ _)
      | (with_reducible exact ih1 _ _ _ _ _)
      | (with_reducible exact ih2 _ _ _ _ _)
      | (with_reducible exact ih3 _ _ _ _ _)
      | (with_reducible exact ih4 _ _ _ _ _)
      | (with_reducible exact ih5 _ _ _ _ _)
      | (with_reducible exact ih6 _ _ _ _)
      | (with_reducible exact LeO.refl _)
      | (with_reducible exact LeO.none _)
      | (with_reducible refine LeO.ite ?_ ?_)
      | (with_reducible refine LeO.bind ?_ (fun _ => ?_))
      | exact ih0 _ _ _ _ _
      | exact ih1 _ _ _ _ _
      | exact ih2 _ _ _ _ _
      | exact ih3 _ _ _ _ _
      | exact ih4 _ _ _ _ _
      | exact ih5 _ _ _ _ _
      | exact ih6 _ _ _ _
      | exact LeO.none _
      | refine LeO.ite ?_ ?_
      | refine LeO.bind ?_ (fun _ => ?_)
    · intro y0 y1 y2 y3 y4
      unfold numeral_Walk_next.j1
      repeat' first
      | (with_reducible exact ih0 _ _ _ _ _)
      | (with_reducible exact ih1 _ _ _ _ _)
      | (with_reducible exact ih2 _ _ _ _ _)
      | (with_reducible exact ih3 _ _ _ _ _)
      | (with_reducible exact ih4 _ _ _ _ _)
      | (with_reducible exact ih5 _ _ _ _ _)
      | (with_reducible exact ih6 _ _ _ _)
      | (with_reducible exact LeO.refl _)
      | (with_reducible exact LeO.none _)
      | (with_reducible refine LeO.ite ?_ ?_)
      | (with_reducible refine LeO.bind ?_ (fun _ => ?_))
      | exact ih0 _ _ _ _ _
      | exact ih1 _ _ _ _ _
      | exact ih2 _ _ _ _ _
      | exact ih3 _ _ _ _ _
      | exact ih4 _ _ _ _ _
      | exact ih5 _ _ _ _ _
      | exact ih6 _ _ _ _
      | exact LeO.none _
      | refine LeO.ite ?_ ?_
      | refine LeO.bind ?_ (fun _ => ?_)
    · intro y0 y1 y2 y3 y4
      unfold numeral_Walk_next.j2
      repeat' first
      | (with_reducible exact ih0 _ _ _ _ _)
      | (with_reducible exact ih1 _ _ _ _ _)
      | (with_reducible exact ih2 _ _ _ _ _)
      | (with_reducible exact ih3 _ _ _ _ _)
      | (with_reducible exact ih4 _ _ _ _ _)
      | (with_reducible exact ih5 _ _ _ _ _)
      | (with_reducible exact ih6 _ _ _ _)
      | (with_reducible exact LeO.refl _)
      | (with_reducible exact LeO.none _)
      | (with_reducible refine LeO.ite ?_ ?_)
      | (with_reducible refine LeO.bind ?_ (fun _ => ?_))
      | exact ih0 _ _ _ _ _
      | exact ih1 _ _ _ _ _
      | exact ih2 _ _ _ _ _
      | exact ih3 _ _ _ _ _
      | exact ih4 _ _ _ _ _
      | exact ih5 _ _ _ _ _
      | exact ih6 _ _ _ _
      | exact LeO.none _
      | refine LeO.ite ?_ ?_
      | refine LeO.bind ?_ (fun _ => ?_)
    · intro y0 y1 y2 y3 y4
      unfold numeral_Walk_next.j3
      repeat' first
      | (with_reducible exact ih0 _ _ _ _ _)
      | (with_reducible exact ih1 _ _ _ _ _)
      | (with_reducible exact ih2 _ _ _ _ _)
      | (with_reducible exact ih3 _ _ _ _ _)
      | (with_reducible exact ih4 _ _ _ _ _)
      | (with_reducible exact ih5 _ _ _ _ _)
      | (with_reducible exact ih6 _ _ _ _)
      | (with_reducible exact LeO.refl _)
      | (with_reducible exact LeO.none _)
      | (with_reducible refine LeO.ite ?_ ?_)
      | (with_reducible refine LeO.bind ?_ (fun _ => ?_))
      | exact ih0 _ _ _ _ _
      | exact ih1 _ _ _ _ _
      | exact ih2 _ _ _ _ _
      | exact ih3 _ _ _ _ _
      | exact ih4 _ _ _ _ _
      | exact ih5 _ _ _ _ _
      | exact ih6 _ _ _ _
      | exact LeO.none _
      | refine LeO.ite ?_ ?_
      | refine LeO.bind ?_ (fun _ => ?_)
    · intro y0 y1 y2 y3 y4
      unfold numeral_Walk_next.j4
      repeat' first
      | (with_reducible exact ih0 _ _ _ _ _)
      | (with_reducible exact ih1 _ _ _ _ _)
      | (with_reducible exact ih2 _ _ _ _ _)
      | (with_reducible exact ih3 _ _ _ _ _)
      | (with_reducible exact ih4 _ _ _ _ _)
      | (with_reducible exact ih5 _ _ _ _ _)
      | (with_reducible exact ih6 _ _ _ _)
      | (with_reducible exact LeO.refl _)
      | (with_reducible exact LeO.none _)
      | (with_reducible refine LeO.ite ?_ ?_)
      | (with_reducible refine LeO.bind ?_ (fun _ => ?_))
      | exact ih0 _ _ _ _ _
      | exact ih1 _ _ _ _ _
      | exact ih2 _ _ _ _ _
      | exact ih3 _ _ _ _ _
      | exact ih4 _ _ _ _ _
      | exact ih5 _ _ _ _ _
      | exact ih6 _ _ _ _
      | exact LeO.none _
      | refine LeO.ite ?_ ?_
      | refine LeO.bind ?_ (fun _ => ?_)
    · intro y0 y1 y2 y3 y4
      unfold numeral_Walk_next.j5
      repeat' first
      | (with_reducible exact ih0 _ _ _ _ _)
      | (with_reducible exact ih1 _ _ _ _ _)
      | (with_reducible exact ih2 _ _ _ _ _)
      | (with_reducible exact ih3 _ _ _ _ _)
      | (with_reducible exact ih4 _ _ _ _ _)
      | (with_reducible exact ih5 _ _ _ _ _)
      | (with_reducible exact ih6 _ _ _ _)
      | (with_reducible exact LeO.refl _)
      | (with_reducible exact LeO.none _)
      | (with_reducible refine LeO.ite ?_ ?_)
      | (with_reducible refine LeO.bind ?_ (fun _ => ?_))
      | exact ih0 _ _ _ _ _
      | exact ih1 _ _ _ _ _
      | exact ih2 _ _ _ _ _
      | exact ih3 _ _ _ _ _
      | exact ih4 _ _ _ _ _
      | exact ih5 _ _ _ _ _
      | exact ih6 _ _ _ _
      | exact LeO.none _
      | refine LeO.ite ?_ ?_
      | refine LeO.bind ?_ (fun _ => ?_)
    · intro y0 y1 y2 y3
      unfold numeral_Walk_next.j6
      repeat' first
      | (with_reducible exact ih0 _ _ _ _ _)
      | (with_reducible exact ih1 _ _ _ _ _)
      | (with_reducible exact ih2 _ _ _ _ _)
      | (with_reducible exact ih3 _ _ _ _ _)
      | (with_reducible exact ih4 _ _ _ _ _)
      | (with_reducible exact ih5 _ _ _ _ _)
      | (with_reducible exact ih6 _ _ _ _)
      | (with_reducible exact LeO.refl _)
      | (with_reducible exact LeO.none _)
      | (with_reducible refine LeO.ite ?_ ?_)
      | (with_reducible refine LeO.bind ?_ (fun _ => ?_))
      | exact ih0 _ _ _ _ _
      | exact ih1 _ _ _ _ _
      | exact ih2 _ _ _ _ _
      | exact ih3 _ _ _ _ _
      | exact ih4 _ _ _ _ _
      | exact ih5 _ _ _ _ _
      | exact ih6 _ _ _ _
      | exact LeO.none _
      | refine LeO.ite ?_ ?_
      | refine LeO.bind ?_ (fun _ => ?_)
theorem numeral_Walk_next.mono : ∀ a0 a1 k, LeO (numeral_Walk_next.f k a0 a1) (numeral_Walk_next.f (k + 1) a0 a1) := by
  intro a0 a1 k
  obtain ⟨ih0, ih1, ih2, ih3, ih4, ih5, ih6⟩ := numeral_Walk_next.mono_l k
  unfold numeral_Walk_next.f
  repeat' first
      | (with_reducible exact ih0 _ _ _ _ _)
      | (with_reducible exact ih1 _ _ _ _ _)
      | (with_reducible exact ih2 _ _ _ _ _)
      | (with_reducible exact ih3 _ _ _ _ _)
      | (with_reducible exact ih4 _ _ _ _ _)
      | (with_reducible exact ih5 _ _ _ _ _)
      | (with_reducible exact ih6 _ _ _ _)
      | (with_reducible exact LeO.refl _)
      | (with_reducible exact LeO.none _)
      | (with_reducible refine LeO.ite ?_ ?_)
      | (with_reducible refine LeO.bind ?_ (fun _ => ?_))
      | exact ih0 _ _ _ _ _
      | exact ih1 _ _ _ _ _
      | exact ih2 _ _ _ _ _
      | exact ih3 _ _ _ _ _
      | exact ih4 _ _ _ _ _
      | exact ih5 _ _ _ _ _
      | exact ih6 _ _ _ _
      | exact LeO.none _
      | refine LeO.ite ?_ ?_
      | refine LeO.bind ?_ (fun _ => ?_)
set_option maxHeartbeats 8000000 in
set_option maxRecDepth 100000 in
theorem numeral_Walk_next.calls (k : Nat) (g : Nat) (s0_0 : Int) (a1 : Int) (r1 : Int) (r2 : Int) (w0 w : World) (hI : IsS33 w0 w g s0_0) (hB : Below w0.heap.size w0 w) (h : numeral_Walk_next.f k s0_0 a1 = some (r1, r2)) :
    Calls Try.prog 51 #[.pointer (some ⟨g, 0, none⟩), .int .u8 a1] w fun e w' => e = .returned (.int .i64 r1) ∧ IsS33 w0 w' g r2 ∧ Below w0.heap.size w0 w' ∧ KeepBut w w' g none := by
  have HI0 := Aside0.mk hI
  have HK := Aside0.mk (KeepBut.refl w g none)
  have HL := Aside0.mk hB.size
  clear hI
  have HW0 := Aside0.mk hB.size
  have HB := Aside0.mk hB
  clear hB
  have H : ((octet_Digit.f a1).bind fun t101 => (if s0_0 = 0 then (numeral_Walk_next.j0 k a1 t101 s0_0 (a1 == 45) s0_0) else (numeral_Walk_next.j0 k a1 t101 s0_0 false s0_0))) = some (r1, r2) := h
  clear h
  replace H := Option.bind_eq_some_iff.mp H
  obtain ⟨t101, A30, H⟩ := H
  replace H : (if s0_0 = 0 then (numeral_Walk_next.j0 k a1 t101 s0_0 (a1 == 45) s0_0) else (numeral_Walk_next.j0 k a1 t101 s0_0 false s0_0)) = some (r1, r2) := H
  have A3 := Aside0.mk A30
  clear A30
  have HC4 := Aside0.mk H
  clear H
  go_enter Try.func51, Try.ntmps51
  go_upto_region 3 with (first | ((with_reducible refine gate_callee (f := 52) rfl ?_); refine goesL_ (some 8) rfl rfl Try.func52 (by kernel_rfl) rfl #[.int .u8 a1] rfl (by (try simp only [List.map_toArray, List.map_cons, List.map_nil]); first | done | rfl | (simp only [List.length_drop, List.length_take]; rfl)) ?_; (with_reducible refine (octet_Digit.calls a1 t101 _ A3.out).mono ?_); rintro e w' ⟨rfl, ⟨nd, rfl⟩⟩; refine ⟨_, rfl, ?_⟩; obtain ⟨HGz5, hgz5⟩ := HI0.out; have hcz5_0 := cellS33_0 HGz5; have hfz5_0 := blk_frozen HGz5 0; clear HGz5 hgz5))
  (try simp only [Act.put, List.setIfInBounds_toArray, List.set_cons_zero, List.set_cons_succ])
  go_cut [13] (fun v13 wc => ∃ (kq : Nat) (x13_3 : Bool), v13 = .bool x13_3 ∧ Aside0 (numeral_Walk_next.j0 kq a1 t101 s0_0 x13_3 s0_0 = some (r1, r2)) ∧ Aside0 (kq ≤ k) ∧ Aside0 (IsS33 w0 wc g s0_0) ∧ Aside0 (KeepBut w wc g none) ∧ Aside0 (Below w0.heap.size w0 wc))
  case first =>
    have H := HC4.out
    clear HC4
    by_cases c6 : s0_0 = 0
    · rw [if_pos c6] at H
      have c6b0 : (s0_0 == 0) = true := beq_iff_eq.mpr c6
      have c6b1 : (s0_0 != 0) = false := bne_eq_false_iff_eq.mpr c6
      clear c6
      (first | rw [c6b0] | (simp only [i64_w, i32_w]; rw [c6b0]) | skip)
      have H' := Aside0.mk H
      clear H
      go_wp2
      go_meet
      case rel => exact ⟨_, ((a1 == 45)), (by first | rfl | (simp; done) | (simp [*]; done)), H', ⟨by first | omega | exact Nat.le_refl _⟩, ⟨by repeat (first | (with_reducible first | exact HI0.out | apply IsS33.alloc | apply IsS33.drewN | apply IsS33.drew | apply IsS33.set_0) | exact HI0.out)⟩, ⟨by repeat (first | (with_reducible first | exact HK.out | apply KeepBut.set_ | apply keep_drewN | apply keep_drew | apply keep_alloc) | exact HK.out)⟩, ⟨by repeat (first | (with_reducible first | exact HB.out | apply below_alloc | apply pw_below_drewN | apply below_drew1 | refine below_set ?_ (IsS33.ge HI0.out)) | exact HB.out)⟩⟩
    · rw [if_neg c6] at H
      have c6b0 : (s0_0 == 0) = false := beq_eq_false_iff_ne.mpr c6
      have c6b1 : (s0_0 != 0) = true := bne_iff_ne.mpr c6
      (first | rw [c6b0] | (simp only [i64_w, i32_w]; rw [c6b0]) | skip)
      have H' := Aside0.mk H
      clear H
      go_wp2
      go_meet
      case rel => exact ⟨_, (false), (by first | rfl | (simp; done) | (simp [*]; done)), H', ⟨by first | omega | exact Nat.le_refl _⟩, ⟨by repeat (first | (with_reducible first | exact HI0.out | apply IsS33.alloc | apply IsS33.drewN | apply IsS33.drew | apply IsS33.set_0) | exact HI0.out)⟩, ⟨by repeat (first | (with_reducible first | exact HK.out | apply KeepBut.set_ | apply keep_drewN | apply keep_drew | apply keep_alloc) | exact HK.out)⟩, ⟨by repeat (first | (with_reducible first | exact HB.out | apply below_alloc | apply pw_below_drewN | apply below_drew1 | refine below_set ?_ (IsS33.ge HI0.out)) | exact HB.out)⟩⟩
  case rest =>
    clear HC4
    try clear p2
    try clear c5
    try clear c6
    try clear c6b0
    try clear c6b1
    try clear hcz5_0
    try clear hfz5_0
    obtain ⟨kq, x13_3, rfl, HA, HJ3, HI0, HK, HB⟩ := hcut
    cases kq with
    | zero => exact absurd HA.out (by simp [numeral_Walk_next.j0])
    | succ kj3 =>
      have H := HA.out
      clear HA
      simp only [numeral_Walk_next.j0] at H
      by_cases c7 : x13_3 = true
      · subst c7
        have H1 : (some (1, s0_0)) = some (r1, r2) := by rw [if_pos rfl] at H; exact H
        clear H
        have H := H1
        clear H1
        simp only [Option.some.injEq, Prod.mk.injEq] at H
        obtain ⟨rfl, rfl⟩ := H
        go_wp2
        go_ret
        exact ⟨by first | rfl | (simp [errW_none, errW_some] <;> rfl) | (simp [*, errW_none, errW_some] <;> rfl), by repeat (first | (with_reducible first | exact HI0.out | apply IsS33.alloc | apply IsS33.drewN | apply IsS33.drew | apply IsS33.set_0) | exact HI0.out), by repeat (first | (with_reducible first | exact HB.out | apply below_alloc | apply pw_below_drewN | apply below_drew1 | refine below_set ?_ (IsS33.ge HI0.out)) | exact HB.out), by repeat (first | (with_reducible first | exact HK.out | apply KeepBut.set_ | apply keep_drewN | apply keep_drew | apply keep_alloc) | exact HK.out)⟩
      · replace c7 := Bool.eq_false_iff.mpr c7
        subst c7
        have H1 : (if s0_0 = 0 then (numeral_Walk_next.j1 kj3 a1 t101 s0_0 (a1 == 48) s0_0) else (if s0_0 = 1 then (numeral_Walk_next.j1 kj3 a1 t101 s0_0 (a1 == 48) s0_0) else (numeral_Walk_next.j1 kj3 a1 t101 s0_0 false s0_0))) = some (r1, r2) := by rw [if_neg (show ¬ (false = true) by decide)] at H; exact H
        clear H
        have H := H1
        clear H1
        have HC8 := Aside0.mk H
        clear H
        go_upto_region 5 with (fail)
        go_cut [20] (fun v20 wc => ∃ (kq : Nat) (x20_7 : Bool), v20 = .bool x20_7 ∧ Aside0 (numeral_Walk_next.j1 kq a1 t101 s0_0 x20_7 s0_0 = some (r1, r2)) ∧ Aside0 (kq ≤ kj3) ∧ Aside0 (IsS33 w0 wc g s0_0) ∧ Aside0 (KeepBut w wc g none) ∧ Aside0 (Below w0.heap.size w0 wc))
        case first =>
          have H := HC8.out
          clear HC8
          by_cases c9 : s0_0 = 0
          · rw [if_pos c9] at H
            have c9b0 : (s0_0 == 0) = true := beq_iff_eq.mpr c9
            have c9b1 : (s0_0 != 0) = false := bne_eq_false_iff_eq.mpr c9
            clear c9
            (first | rw [c9b0] | (simp only [i64_w, i32_w]; rw [c9b0]) | skip)
            have H' := Aside0.mk H
            clear H
            go_wp2
            go_meet
            case rel => exact ⟨_, ((a1 == 48)), (by first | rfl | (simp; done) | (simp [*]; done)), H', ⟨by have := HJ3.out; first | omega | exact Nat.le_refl _⟩, ⟨by repeat (first | (with_reducible first | exact HI0.out | apply IsS33.alloc | apply IsS33.drewN | apply IsS33.drew | apply IsS33.set_0) | exact HI0.out)⟩, ⟨by repeat (first | (with_reducible first | exact HK.out | apply KeepBut.set_ | apply keep_drewN | apply keep_drew | apply keep_alloc) | exact HK.out)⟩, ⟨by repeat (first | (with_reducible first | exact HB.out | apply below_alloc | apply pw_below_drewN | apply below_drew1 | refine below_set ?_ (IsS33.ge HI0.out)) | exact HB.out)⟩⟩
          · rw [if_neg c9] at H
            have c9b0 : (s0_0 == 0) = false := beq_eq_false_iff_ne.mpr c9
            have c9b1 : (s0_0 != 0) = true := bne_iff_ne.mpr c9
            (first | rw [c9b0] | (simp only [i64_w, i32_w]; rw [c9b0]) | skip)
            by_cases c10 : s0_0 = 1
            · rw [if_pos c10] at H
              have c10b0 : (s0_0 == 1) = true := beq_iff_eq.mpr c10
              have c10b1 : (s0_0 != 1) = false := bne_eq_false_iff_eq.mpr c10
              clear c10
              have H' := Aside0.mk H
              clear H
              go_wp2
              go_meet
              case rel => exact ⟨_, ((a1 == 48)), (by first | rfl | (simp; done) | (simp [*]; done)), H', ⟨by have := HJ3.out; first | omega | exact Nat.le_refl _⟩, ⟨by repeat (first | (with_reducible first | exact HI0.out | apply IsS33.alloc | apply IsS33.drewN | apply IsS33.drew | apply IsS33.set_0) | exact HI0.out)⟩, ⟨by repeat (first | (with_reducible first | exact HK.out | apply KeepBut.set_ | apply keep_drewN | apply keep_drew | apply keep_alloc) | exact HK.out)⟩, ⟨by repeat (first | (with_reducible first | exact HB.out | apply below_alloc | apply pw_below_drewN | apply below_drew1 | refine below_set ?_ (IsS33.ge HI0.out)) | exact HB.out)⟩⟩
            · rw [if_neg c10] at H
              have c10b0 : (s0_0 == 1) = false := beq_eq_false_iff_ne.mpr c10
              have c10b1 : (s0_0 != 1) = true := bne_iff_ne.mpr c10
              have H' := Aside0.mk H
              clear H
              go_wp2
              go_meet
              case rel => exact ⟨_, (false), (by first | rfl | (simp; done) | (simp [*]; done)), H', ⟨by have := HJ3.out; first | omega | exact Nat.le_refl _⟩, ⟨by repeat (first | (with_reducible first | exact HI0.out | apply IsS33.alloc | apply IsS33.drewN | apply IsS33.drew | apply IsS33.set_0) | exact HI0.out)⟩, ⟨by repeat (first | (with_reducible first | exact HK.out | apply KeepBut.set_ | apply keep_drewN | apply keep_drew | apply keep_alloc) | exact HK.out)⟩, ⟨by repeat (first | (with_reducible first | exact HB.out | apply below_alloc | apply pw_below_drewN | apply below_drew1 | refine below_set ?_ (IsS33.ge HI0.out)) | exact HB.out)⟩⟩
        case rest =>
          clear HC8
          try clear c1
          try clear p2
          try clear c5
          try clear c6
          try clear c6b0
          try clear c6b1
          try clear c7
          try clear c9
          try clear c9b0
          try clear c9b1
          try clear c10
          try clear c10b0
          try clear c10b1
          try clear hcz5_0
          try clear hfz5_0
          try clear p2
          obtain ⟨kq, x20_7, rfl, HA, HJ7, HI0, HK, HB⟩ := hcut
          cases kq with
          | zero => exact absurd HA.out (by simp [numeral_Walk_next.j1])
          | succ kj7 =>
            have H := HA.out
            clear HA
            simp only [numeral_Walk_next.j1] at H
            by_cases c11 : x20_7 = true
            · subst c11
              have H1 : (some (2, s0_0)) = some (r1, r2) := by rw [if_pos rfl] at H; exact H
              clear H
              have H := H1
              clear H1
              simp only [Option.some.injEq, Prod.mk.injEq] at H
              obtain ⟨rfl, rfl⟩ := H
              go_wp2
              go_ret
              exact ⟨by first | rfl | (simp [errW_none, errW_some] <;> rfl) | (simp [*, errW_none, errW_some] <;> rfl), by repeat (first | (with_reducible first | exact HI0.out | apply IsS33.alloc | apply IsS33.drewN | apply IsS33.drew | apply IsS33.set_0) | exact HI0.out), by repeat (first | (with_reducible first | exact HB.out | apply below_alloc | apply pw_below_drewN | apply below_drew1 | refine below_set ?_ (IsS33.ge HI0.out)) | exact HB.out), by repeat (first | (with_reducible first | exact HK.out | apply KeepBut.set_ | apply keep_drewN | apply keep_drew | apply keep_alloc) | exact HK.out)⟩
            · replace c11 := Bool.eq_false_iff.mpr c11
              subst c11
              have H1 : (if s0_0 = 0 then (numeral_Walk_next.j2 kj7 a1 t101 s0_0 t101 s0_0) else (if s0_0 = 1 then (numeral_Walk_next.j2 kj7 a1 t101 s0_0 t101 s0_0) else (if s0_0 = 3 then (numeral_Walk_next.j2 kj7 a1 t101 s0_0 t101 s0_0) else (numeral_Walk_next.j2 kj7 a1 t101 s0_0 false s0_0)))) = some (r1, r2) := by rw [if_neg (show ¬ (false = true) by decide)] at H; exact H
              clear H
              have H := H1
              clear H1
              have HC12 := Aside0.mk H
              clear H
              go_upto_region 7 with (fail)
              go_cut [31] (fun v31 wc => ∃ (kq : Nat) (x31_11 : Bool), v31 = .bool x31_11 ∧ Aside0 (numeral_Walk_next.j2 kq a1 t101 s0_0 x31_11 s0_0 = some (r1, r2)) ∧ Aside0 (kq ≤ kj7) ∧ Aside0 (IsS33 w0 wc g s0_0) ∧ Aside0 (KeepBut w wc g none) ∧ Aside0 (Below w0.heap.size w0 wc))
              case first =>
                have H := HC12.out
                clear HC12
                by_cases c13 : s0_0 = 0
                · rw [if_pos c13] at H
                  have c13b0 : (s0_0 == 0) = true := beq_iff_eq.mpr c13
                  have c13b1 : (s0_0 != 0) = false := bne_eq_false_iff_eq.mpr c13
                  clear c13
                  (first | rw [c13b0] | (simp only [i64_w, i32_w]; rw [c13b0]) | skip)
                  have H' := Aside0.mk H
                  clear H
                  go_wp2
                  go_meet
                  case rel => exact ⟨_, (t101), (by first | rfl | (simp; done) | (simp [*]; done)), H', ⟨by have := HJ3.out; have := HJ7.out; first | omega | exact Nat.le_refl _⟩, ⟨by repeat (first | (with_reducible first | exact HI0.out | apply IsS33.alloc | apply IsS33.drewN | apply IsS33.drew | apply IsS33.set_0) | exact HI0.out)⟩, ⟨by repeat (first | (with_reducible first | exact HK.out | apply KeepBut.set_ | apply keep_drewN | apply keep_drew | apply keep_alloc) | exact HK.out)⟩, ⟨by repeat (first | (with_reducible first | exact HB.out | apply below_alloc | apply pw_below_drewN | apply below_drew1 | refine below_set ?_ (IsS33.ge HI0.out)) | exact HB.out)⟩⟩
                · rw [if_neg c13] at H
                  have c13b0 : (s0_0 == 0) = false := beq_eq_false_iff_ne.mpr c13
                  have c13b1 : (s0_0 != 0) = true := bne_iff_ne.mpr c13
                  (first | rw [c13b0] | (simp only [i64_w, i32_w]; rw [c13b0]) | skip)
                  by_cases c14 : s0_0 = 1
                  · rw [if_pos c14] at H
                    have c14b0 : (s0_0 == 1) = true := beq_iff_eq.mpr c14
                    have c14b1 : (s0_0 != 1) = false := bne_eq_false_iff_eq.mpr c14
                    clear c14
                    have H' := Aside0.mk H
                    clear H
                    go_wp2
                    go_meet
                    case rel => exact ⟨_, (t101), (by first | rfl | (simp; done) | (simp [*]; done)), H', ⟨by have := HJ3.out; have := HJ7.out; first | omega | exact Nat.le_refl _⟩, ⟨by repeat (first | (with_reducible first | exact HI0.out | apply IsS33.alloc | apply IsS33.drewN | apply IsS33.drew | apply IsS33.set_0) | exact HI0.out)⟩, ⟨by repeat (first | (with_reducible first | exact HK.out | apply KeepBut.set_ | apply keep_drewN | apply keep_drew | apply keep_alloc) | exact HK.out)⟩, ⟨by repeat (first | (with_reducible first | exact HB.out | apply below_alloc | apply pw_below_drewN | apply below_drew1 | refine below_set ?_ (IsS33.ge HI0.out)) | exact HB.out)⟩⟩
                  · rw [if_neg c14] at H
                    have c14b0 : (s0_0 == 1) = false := beq_eq_false_iff_ne.mpr c14
                    have c14b1 : (s0_0 != 1) = true := bne_iff_ne.mpr c14
                    by_cases c15 : s0_0 = 3
                    · rw [if_pos c15] at H
                      have c15b0 : (s0_0 == 3) = true := beq_iff_eq.mpr c15
                      have c15b1 : (s0_0 != 3) = false := bne_eq_false_iff_eq.mpr c15
                      clear c15
                      have H' := Aside0.mk H
                      clear H
                      go_wp2
                      go_meet
                      case rel => exact ⟨_, (t101), (by first | rfl | (simp; done) | (simp [*]; done)), H', ⟨by have := HJ3.out; have := HJ7.out; first | omega | exact Nat.le_refl _⟩, ⟨by repeat (first | (with_reducible first | exact HI0.out | apply IsS33.alloc | apply IsS33.drewN | apply IsS33.drew | apply IsS33.set_0) | exact HI0.out)⟩, ⟨by repeat (first | (with_reducible first | exact HK.out | apply KeepBut.set_ | apply keep_drewN | apply keep_drew | apply keep_alloc) | exact HK.out)⟩, ⟨by repeat (first | (with_reducible first | exact HB.out | apply below_alloc | apply pw_below_drewN | apply below_drew1 | refine below_set ?_ (IsS33.ge HI0.out)) | exact HB.out)⟩⟩
                    · rw [if_neg c15] at H
                      have c15b0 : (s0_0 == 3) = false := beq_eq_false_iff_ne.mpr c15
                      have c15b1 : (s0_0 != 3) = true := bne_iff_ne.mpr c15
                      have H' := Aside0.mk H
                      clear H
                      go_wp2
                      go_meet
                      case rel => exact ⟨_, (false), (by first | rfl | (simp; done) | (simp [*]; done)), H', ⟨by have := HJ3.out; have := HJ7.out; first | omega | exact Nat.le_refl _⟩, ⟨by repeat (first | (with_reducible first | exact HI0.out | apply IsS33.alloc | apply IsS33.drewN | apply IsS33.drew | apply IsS33.set_0) | exact HI0.out)⟩, ⟨by repeat (first | (with_reducible first | exact HK.out | apply KeepBut.set_ | apply keep_drewN | apply keep_drew | apply keep_alloc) | exact HK.out)⟩, ⟨by repeat (first | (with_reducible first | exact HB.out | apply below_alloc | apply pw_below_drewN | apply below_drew1 | refine below_set ?_ (IsS33.ge HI0.out)) | exact HB.out)⟩⟩
              case rest =>
                clear HC12
                try clear c1
                try clear p2
                try clear c5
                try clear c6
                try clear c6b0
                try clear c6b1
                try clear c7
                try clear c9
                try clear c9b0
                try clear c9b1
                try clear c10
                try clear c10b0
                try clear c10b1
                try clear c11
                try clear c13
                try clear c13b0
                try clear c13b1
                try clear c14
                try clear c14b0
                try clear c14b1
                try clear c15
                try clear c15b0
                try clear c15b1
                try clear hcz5_0
                try clear hfz5_0
                try clear p2
                obtain ⟨kq, x31_11, rfl, HA, HJ11, HI0, HK, HB⟩ := hcut
                cases kq with
                | zero => exact absurd HA.out (by simp [numeral_Walk_next.j2])
                | succ kj11 =>
                  have H := HA.out
                  clear HA
                  simp only [numeral_Walk_next.j2] at H
                  by_cases c16 : x31_11 = true
                  · subst c16
                    have H1 : (some (3, s0_0)) = some (r1, r2) := by rw [if_pos rfl] at H; exact H
                    clear H
                    have H := H1
                    clear H1
                    simp only [Option.some.injEq, Prod.mk.injEq] at H
                    obtain ⟨rfl, rfl⟩ := H
                    go_wp2
                    go_ret
                    exact ⟨by first | rfl | (simp [errW_none, errW_some] <;> rfl) | (simp [*, errW_none, errW_some] <;> rfl), by repeat (first | (with_reducible first | exact HI0.out | apply IsS33.alloc | apply IsS33.drewN | apply IsS33.drew | apply IsS33.set_0) | exact HI0.out), by repeat (first | (with_reducible first | exact HB.out | apply below_alloc | apply pw_below_drewN | apply below_drew1 | refine below_set ?_ (IsS33.ge HI0.out)) | exact HB.out), by repeat (first | (with_reducible first | exact HK.out | apply KeepBut.set_ | apply keep_drewN | apply keep_drew | apply keep_alloc) | exact HK.out)⟩
                  · replace c16 := Bool.eq_false_iff.mpr c16
                    subst c16
                    have H1 : (if s0_0 = 2 then (numeral_Walk_next.j3 kj11 a1 t101 s0_0 (a1 == 46) s0_0) else (if s0_0 = 3 then (numeral_Walk_next.j3 kj11 a1 t101 s0_0 (a1 == 46) s0_0) else (numeral_Walk_next.j3 kj11 a1 t101 s0_0 false s0_0))) = some (r1, r2) := by rw [if_neg (show ¬ (false = true) by decide)] at H; exact H
                    clear H
                    have H := H1
                    clear H1
                    have HC17 := Aside0.mk H
                    clear H
                    go_upto_region 9 with (fail)
                    go_cut [45] (fun v45 wc => ∃ (kq : Nat) (x45_16 : Bool), v45 = .bool x45_16 ∧ Aside0 (numeral_Walk_next.j3 kq a1 t101 s0_0 x45_16 s0_0 = some (r1, r2)) ∧ Aside0 (kq ≤ kj11) ∧ Aside0 (IsS33 w0 wc g s0_0) ∧ Aside0 (KeepBut w wc g none) ∧ Aside0 (Below w0.heap.size w0 wc))
                    case first =>
                      have H := HC17.out
                      clear HC17
                      by_cases c18 : s0_0 = 2
                      · rw [if_pos c18] at H
                        have c18b0 : (s0_0 == 2) = true := beq_iff_eq.mpr c18
                        have c18b1 : (s0_0 != 2) = false := bne_eq_false_iff_eq.mpr c18
                        clear c18
                        (first | rw [c18b0] | (simp only [i64_w, i32_w]; rw [c18b0]) | skip)
                        have H' := Aside0.mk H
                        clear H
                        go_wp2
                        go_meet
                        case rel => exact ⟨_, ((a1 == 46)), (by first | rfl | (simp; done) | (simp [*]; done)), H', ⟨by have := HJ3.out; have := HJ7.out; have := HJ11.out; first | omega | exact Nat.le_refl _⟩, ⟨by repeat (first | (with_reducible first | exact HI0.out | apply IsS33.alloc | apply IsS33.drewN | apply IsS33.drew | apply IsS33.set_0) | exact HI0.out)⟩, ⟨by repeat (first | (with_reducible first | exact HK.out | apply KeepBut.set_ | apply keep_drewN | apply keep_drew | apply keep_alloc) | exact HK.out)⟩, ⟨by repeat (first | (with_reducible first | exact HB.out | apply below_alloc | apply pw_below_drewN | apply below_drew1 | refine below_set ?_ (IsS33.ge HI0.out)) | exact HB.out)⟩⟩
                      · rw [if_neg c18] at H
                        have c18b0 : (s0_0 == 2) = false := beq_eq_false_iff_ne.mpr c18
                        have c18b1 : (s0_0 != 2) = true := bne_iff_ne.mpr c18
                        (first | rw [c18b0] | (simp only [i64_w, i32_w]; rw [c18b0]) | skip)
                        by_cases c19 : s0_0 = 3
                        · rw [if_pos c19] at H
                          have c19b0 : (s0_0 == 3) = true := beq_iff_eq.mpr c19
                          have c19b1 : (s0_0 != 3) = false := bne_eq_false_iff_eq.mpr c19
                          clear c19
                          have H' := Aside0.mk H
                          clear H
                          go_wp2
                          go_meet
                          case rel => exact ⟨_, ((a1 == 46)), (by first | rfl | (simp; done) | (simp [*]; done)), H', ⟨by have := HJ3.out; have := HJ7.out; have := HJ11.out; first | omega | exact Nat.le_refl _⟩, ⟨by repeat (first | (with_reducible first | exact HI0.out | apply IsS33.alloc | apply IsS33.drewN | apply IsS33.drew | apply IsS33.set_0) | exact HI0.out)⟩, ⟨by repeat (first | (with_reducible first | exact HK.out | apply KeepBut.set_ | apply keep_drewN | apply keep_drew | apply keep_alloc) | exact HK.out)⟩, ⟨by repeat (first | (with_reducible first | exact HB.out | apply below_alloc | apply pw_below_drewN | apply below_drew1 | refine below_set ?_ (IsS33.ge HI0.out)) | exact HB.out)⟩⟩
                        · rw [if_neg c19] at H
                          have c19b0 : (s0_0 == 3) = false := beq_eq_false_iff_ne.mpr c19
                          have c19b1 : (s0_0 != 3) = true := bne_iff_ne.mpr c19
                          have H' := Aside0.mk H
                          clear H
                          go_wp2
                          go_meet
                          case rel => exact ⟨_, (false), (by first | rfl | (simp; done) | (simp [*]; done)), H', ⟨by have := HJ3.out; have := HJ7.out; have := HJ11.out; first | omega | exact Nat.le_refl _⟩, ⟨by repeat (first | (with_reducible first | exact HI0.out | apply IsS33.alloc | apply IsS33.drewN | apply IsS33.drew | apply IsS33.set_0) | exact HI0.out)⟩, ⟨by repeat (first | (with_reducible first | exact HK.out | apply KeepBut.set_ | apply keep_drewN | apply keep_drew | apply keep_alloc) | exact HK.out)⟩, ⟨by repeat (first | (with_reducible first | exact HB.out | apply below_alloc | apply pw_below_drewN | apply below_drew1 | refine below_set ?_ (IsS33.ge HI0.out)) | exact HB.out)⟩⟩
                    case rest =>
                      clear HC17
                      try clear c1
                      try clear p2
                      try clear c5
                      try clear c6
                      try clear c6b0
                      try clear c6b1
                      try clear c7
                      try clear c9
                      try clear c9b0
                      try clear c9b1
                      try clear c10
                      try clear c10b0
                      try clear c10b1
                      try clear c11
                      try clear c13
                      try clear c13b0
                      try clear c13b1
                      try clear c14
                      try clear c14b0
                      try clear c14b1
                      try clear c15
                      try clear c15b0
                      try clear c15b1
                      try clear c16
                      try clear c18
                      try clear c18b0
                      try clear c18b1
                      try clear c19
                      try clear c19b0
                      try clear c19b1
                      try clear hcz5_0
                      try clear hfz5_0
                      try clear p2
                      obtain ⟨kq, x45_16, rfl, HA, HJ16, HI0, HK, HB⟩ := hcut
                      cases kq with
                      | zero => exact absurd HA.out (by simp [numeral_Walk_next.j3])
                      | succ kj16 =>
                        have H := HA.out
                        clear HA
                        simp only [numeral_Walk_next.j3] at H
                        by_cases c20 : x45_16 = true
                        · subst c20
                          have H1 : (some (4, s0_0)) = some (r1, r2) := by rw [if_pos rfl] at H; exact H
                          clear H
                          have H := H1
                          clear H1
                          simp only [Option.some.injEq, Prod.mk.injEq] at H
                          obtain ⟨rfl, rfl⟩ := H
                          go_wp2
                          go_ret
                          exact ⟨by first | rfl | (simp [errW_none, errW_some] <;> rfl) | (simp [*, errW_none, errW_some] <;> rfl), by repeat (first | (with_reducible first | exact HI0.out | apply IsS33.alloc | apply IsS33.drewN | apply IsS33.drew | apply IsS33.set_0) | exact HI0.out), by repeat (first | (with_reducible first | exact HB.out | apply below_alloc | apply pw_below_drewN | apply below_drew1 | refine below_set ?_ (IsS33.ge HI0.out)) | exact HB.out), by repeat (first | (with_reducible first | exact HK.out | apply KeepBut.set_ | apply keep_drewN | apply keep_drew | apply keep_alloc) | exact HK.out)⟩
                        · replace c20 := Bool.eq_false_iff.mpr c20
                          subst c20
                          have H1 : (if s0_0 = 4 then (numeral_Walk_next.j4 kj16 a1 t101 s0_0 t101 s0_0) else (if s0_0 = 5 then (numeral_Walk_next.j4 kj16 a1 t101 s0_0 t101 s0_0) else (numeral_Walk_next.j4 kj16 a1 t101 s0_0 false s0_0))) = some (r1, r2) := by rw [if_neg (show ¬ (false = true) by decide)] at H; exact H
                          clear H
                          have H := H1
                          clear H1
                          have HC21 := Aside0.mk H
                          clear H
                          go_upto_region 11 with (fail)
                          go_cut [56] (fun v56 wc => ∃ (kq : Nat) (x56_20 : Bool), v56 = .bool x56_20 ∧ Aside0 (numeral_Walk_next.j4 kq a1 t101 s0_0 x56_20 s0_0 = some (r1, r2)) ∧ Aside0 (kq ≤ kj16) ∧ Aside0 (IsS33 w0 wc g s0_0) ∧ Aside0 (KeepBut w wc g none) ∧ Aside0 (Below w0.heap.size w0 wc))
                          case first =>
                            have H := HC21.out
                            clear HC21
                            by_cases c22 : s0_0 = 4
                            · rw [if_pos c22] at H
                              have c22b0 : (s0_0 == 4) = true := beq_iff_eq.mpr c22
                              have c22b1 : (s0_0 != 4) = false := bne_eq_false_iff_eq.mpr c22
                              clear c22
                              (first | rw [c22b0] | (simp only [i64_w, i32_w]; rw [c22b0]) | skip)
                              have H' := Aside0.mk H
                              clear H
                              go_wp2
                              go_meet
                              case rel => exact ⟨_, (t101), (by first | rfl | (simp; done) | (simp [*]; done)), H', ⟨by have := HJ3.out; have := HJ7.out; have := HJ11.out; have := HJ16.out; first | omega | exact Nat.le_refl _⟩, ⟨by repeat (first | (with_reducible first | exact HI0.out | apply IsS33.alloc | apply IsS33.drewN | apply IsS33.drew | apply IsS33.set_0) | exact HI0.out)⟩, ⟨by repeat (first | (with_reducible first | exact HK.out | apply KeepBut.set_ | apply keep_drewN | apply keep_drew | apply keep_alloc) | exact HK.out)⟩, ⟨by repeat (first | (with_reducible first | exact HB.out | apply below_alloc | apply pw_below_drewN | apply below_drew1 | refine below_set ?_ (IsS33.ge HI0.out)) | exact HB.out)⟩⟩
                            · rw [if_neg c22] at H
                              have c22b0 : (s0_0 == 4) = false := beq_eq_false_iff_ne.mpr c22
                              have c22b1 : (s0_0 != 4) = true := bne_iff_ne.mpr c22
                              (first | rw [c22b0] | (simp only [i64_w, i32_w]; rw [c22b0]) | skip)
                              by_cases c23 : s0_0 = 5
                              · rw [if_pos c23] at H
                                have c23b0 : (s0_0 == 5) = true := beq_iff_eq.mpr c23
                                have c23b1 : (s0_0 != 5) = false := bne_eq_false_iff_eq.mpr c23
                                clear c23
                                have H' := Aside0.mk H
                                clear H
                                go_wp2
                                go_meet
                                case rel => exact ⟨_, (t101), (by first | rfl | (simp; done) | (simp [*]; done)), H', ⟨by have := HJ3.out; have := HJ7.out; have := HJ11.out; have := HJ16.out; first | omega | exact Nat.le_refl _⟩, ⟨by repeat (first | (with_reducible first | exact HI0.out | apply IsS33.alloc | apply IsS33.drewN | apply IsS33.drew | apply IsS33.set_0) | exact HI0.out)⟩, ⟨by repeat (first | (with_reducible first | exact HK.out | apply KeepBut.set_ | apply keep_drewN | apply keep_drew | apply keep_alloc) | exact HK.out)⟩, ⟨by repeat (first | (with_reducible first | exact HB.out | apply below_alloc | apply pw_below_drewN | apply below_drew1 | refine below_set ?_ (IsS33.ge HI0.out)) | exact HB.out)⟩⟩
                              · rw [if_neg c23] at H
                                have c23b0 : (s0_0 == 5) = false := beq_eq_false_iff_ne.mpr c23
                                have c23b1 : (s0_0 != 5) = true := bne_iff_ne.mpr c23
                                have H' := Aside0.mk H
                                clear H
                                go_wp2
                                go_meet
                                case rel => exact ⟨_, (false), (by first | rfl | (simp; done) | (simp [*]; done)), H', ⟨by have := HJ3.out; have := HJ7.out; have := HJ11.out; have := HJ16.out; first | omega | exact Nat.le_refl _⟩, ⟨by repeat (first | (with_reducible first | exact HI0.out | apply IsS33.alloc | apply IsS33.drewN | apply IsS33.drew | apply IsS33.set_0) | exact HI0.out)⟩, ⟨by repeat (first | (with_reducible first | exact HK.out | apply KeepBut.set_ | apply keep_drewN | apply keep_drew | apply keep_alloc) | exact HK.out)⟩, ⟨by repeat (first | (with_reducible first | exact HB.out | apply below_alloc | apply pw_below_drewN | apply below_drew1 | refine below_set ?_ (IsS33.ge HI0.out)) | exact HB.out)⟩⟩
                          case rest =>
                            clear HC21
                            try clear c1
                            try clear c2
                            try clear p2
                            try clear c5
                            try clear c6
                            try clear c6b0
                            try clear c6b1
                            try clear c7
                            try clear c9
                            try clear c9b0
                            try clear c9b1
                            try clear c10
                            try clear c10b0
                            try clear c10b1
                            try clear c11
                            try clear c13
                            try clear c13b0
                            try clear c13b1
                            try clear c14
                            try clear c14b0
                            try clear c14b1
                            try clear c15
                            try clear c15b0
                            try clear c15b1
                            try clear c16
                            try clear c18
                            try clear c18b0
                            try clear c18b1
                            try clear c19
                            try clear c19b0
                            try clear c19b1
                            try clear c20
                            try clear c22
                            try clear c22b0
                            try clear c22b1
                            try clear c23
                            try clear c23b0
                            try clear c23b1
                            try clear hcz5_0
                            try clear hfz5_0
                            try clear p2
                            obtain ⟨kq, x56_20, rfl, HA, HJ20, HI0, HK, HB⟩ := hcut
                            cases kq with
                            | zero => exact absurd HA.out (by simp [numeral_Walk_next.j4])
                            | succ kj20 =>
                              have H := HA.out
                              clear HA
                              simp only [numeral_Walk_next.j4] at H
                              by_cases c24 : x56_20 = true
                              · subst c24
                                have H1 : (some (5, s0_0)) = some (r1, r2) := by rw [if_pos rfl] at H; exact H
                                clear H
                                have H := H1
                                clear H1
                                simp only [Option.some.injEq, Prod.mk.injEq] at H
                                obtain ⟨rfl, rfl⟩ := H
                                go_wp2
                                go_ret
                                exact ⟨by first | rfl | (simp [errW_none, errW_some] <;> rfl) | (simp [*, errW_none, errW_some] <;> rfl), by repeat (first | (with_reducible first | exact HI0.out | apply IsS33.alloc | apply IsS33.drewN | apply IsS33.drew | apply IsS33.set_0) | exact HI0.out), by repeat (first | (with_reducible first | exact HB.out | apply below_alloc | apply pw_below_drewN | apply below_drew1 | refine below_set ?_ (IsS33.ge HI0.out)) | exact HB.out), by repeat (first | (with_reducible first | exact HK.out | apply KeepBut.set_ | apply keep_drewN | apply keep_drew | apply keep_alloc) | exact HK.out)⟩
                              · replace c24 := Bool.eq_false_iff.mpr c24
                                subst c24
                                have H1 : (if s0_0 = 2 then (if a1 = 101 then (numeral_Walk_next.j5 kj20 a1 t101 s0_0 true s0_0) else (numeral_Walk_next.j5 kj20 a1 t101 s0_0 (a1 == 69) s0_0)) else (if s0_0 = 3 then (if a1 = 101 then (numeral_Walk_next.j5 kj20 a1 t101 s0_0 true s0_0) else (numeral_Walk_next.j5 kj20 a1 t101 s0_0 (a1 == 69) s0_0)) else (if s0_0 = 5 then (if a1 = 101 then (numeral_Walk_next.j5 kj20 a1 t101 s0_0 true s0_0) else (numeral_Walk_next.j5 kj20 a1 t101 s0_0 (a1 == 69) s0_0)) else (numeral_Walk_next.j5 kj20 a1 t101 s0_0 false s0_0)))) = some (r1, r2) := by rw [if_neg (show ¬ (false = true) by decide)] at H; exact H
                                clear H
                                have H := H1
                                clear H1
                                have HC25 := Aside0.mk H
                                clear H
                                go_upto_region 13 with (fail)
                                go_cut [66] (fun v66 wc => ∃ (kq : Nat) (x66_24 : Bool), v66 = .bool x66_24 ∧ Aside0 (numeral_Walk_next.j5 kq a1 t101 s0_0 x66_24 s0_0 = some (r1, r2)) ∧ Aside0 (kq ≤ kj20) ∧ Aside0 (IsS33 w0 wc g s0_0) ∧ Aside0 (KeepBut w wc g none) ∧ Aside0 (Below w0.heap.size w0 wc))
                                case first =>
                                  have H := HC25.out
                                  clear HC25
                                  by_cases c26 : s0_0 = 2
                                  · rw [if_pos c26] at H
                                    have c26b0 : (s0_0 == 2) = true := beq_iff_eq.mpr c26
                                    have c26b1 : (s0_0 != 2) = false := bne_eq_false_iff_eq.mpr c26
                                    clear c26
                                    (first | rw [c26b0] | (simp only [i64_w, i32_w]; rw [c26b0]) | skip)
                                    by_cases c27 : a1 = 101
                                    · rw [if_pos c27] at H
                                      have c27b0 : (a1 == 101) = true := beq_iff_eq.mpr c27
                                      have c27b1 : (a1 != 101) = false := bne_eq_false_iff_eq.mpr c27
                                      clear c27
                                      have H' := Aside0.mk H
                                      clear H
                                      go_wp2
                                      go_meet
                                      case rel => exact ⟨_, (true), (by first | rfl | (simp; done) | (simp [*]; done)), H', ⟨by have := HJ3.out; have := HJ7.out; have := HJ11.out; have := HJ16.out; have := HJ20.out; first | omega | exact Nat.le_refl _⟩, ⟨by repeat (first | (with_reducible first | exact HI0.out | apply IsS33.alloc | apply IsS33.drewN | apply IsS33.drew | apply IsS33.set_0) | exact HI0.out)⟩, ⟨by repeat (first | (with_reducible first | exact HK.out | apply KeepBut.set_ | apply keep_drewN | apply keep_drew | apply keep_alloc) | exact HK.out)⟩, ⟨by repeat (first | (with_reducible first | exact HB.out | apply below_alloc | apply pw_below_drewN | apply below_drew1 | refine below_set ?_ (IsS33.ge HI0.out)) | exact HB.out)⟩⟩
                                    · rw [if_neg c27] at H
                                      have c27b0 : (a1 == 101) = false := beq_eq_false_iff_ne.mpr c27
                                      have c27b1 : (a1 != 101) = true := bne_iff_ne.mpr c27
                                      have H' := Aside0.mk H
                                      clear H
                                      go_wp2
                                      go_meet
                                      case rel => exact ⟨_, ((a1 == 69)), (by first | rfl | (simp; done) | (simp [*]; done)), H', ⟨by have := HJ3.out; have := HJ7.out; have := HJ11.out; have := HJ16.out; have := HJ20.out; first | omega | exact Nat.le_refl _⟩, ⟨by repeat (first | (with_reducible first | exact HI0.out | apply IsS33.alloc | apply IsS33.drewN | apply IsS33.drew | apply IsS33.set_0) | exact HI0.out)⟩, ⟨by repeat (first | (with_reducible first | exact HK.out | apply KeepBut.set_ | apply keep_drewN | apply keep_drew | apply keep_alloc) | exact HK.out)⟩, ⟨by repeat (first | (with_reducible first | exact HB.out | apply below_alloc | apply pw_below_drewN | apply below_drew1 | refine below_set ?_ (IsS33.ge HI0.out)) | exact HB.out)⟩⟩
                                  · rw [if_neg c26] at H
                                    have c26b0 : (s0_0 == 2) = false := beq_eq_false_iff_ne.mpr c26
                                    have c26b1 : (s0_0 != 2) = true := bne_iff_ne.mpr c26
                                    (first | rw [c26b0] | (simp only [i64_w, i32_w]; rw [c26b0]) | skip)
                                    by_cases c28 : s0_0 = 3
                                    · rw [if_pos c28] at H
                                      have c28b0 : (s0_0 == 3) = true := beq_iff_eq.mpr c28
                                      have c28b1 : (s0_0 != 3) = false := bne_eq_false_iff_eq.mpr c28
                                      clear c28
                                      by_cases c29 : a1 = 101
                                      · rw [if_pos c29] at H
                                        have c29b0 : (a1 == 101) = true := beq_iff_eq.mpr c29
                                        have c29b1 : (a1 != 101) = false := bne_eq_false_iff_eq.mpr c29
                                        clear c29
                                        have H' := Aside0.mk H
                                        clear H
                                        go_wp2
                                        go_meet
                                        case rel => exact ⟨_, (true), (by first | rfl | (simp; done) | (simp [*]; done)), H', ⟨by have := HJ3.out; have := HJ7.out; have := HJ11.out; have := HJ16.out; have := HJ20.out; first | omega | exact Nat.le_refl _⟩, ⟨by repeat (first | (with_reducible first | exact HI0.out | apply IsS33.alloc | apply IsS33.drewN | apply IsS33.drew | apply IsS33.set_0) | exact HI0.out)⟩, ⟨by repeat (first | (with_reducible first | exact HK.out | apply KeepBut.set_ | apply keep_drewN | apply keep_drew | apply keep_alloc) | exact HK.out)⟩, ⟨by repeat (first | (with_reducible first | exact HB.out | apply below_alloc | apply pw_below_drewN | apply below_drew1 | refine below_set ?_ (IsS33.ge HI0.out)) | exact HB.out)⟩⟩
                                      · rw [if_neg c29] at H
                                        have c29b0 : (a1 == 101) = false := beq_eq_false_iff_ne.mpr c29
                                        have c29b1 : (a1 != 101) = true := bne_iff_ne.mpr c29
                                        have H' := Aside0.mk H
                                        clear H
                                        go_wp2
                                        go_meet
                                        case rel => exact ⟨_, ((a1 == 69)), (by first | rfl | (simp; done) | (simp [*]; done)), H', ⟨by have := HJ3.out; have := HJ7.out; have := HJ11.out; have := HJ16.out; have := HJ20.out; first | omega | exact Nat.le_refl _⟩, ⟨by repeat (first | (with_reducible first | exact HI0.out | apply IsS33.alloc | apply IsS33.drewN | apply IsS33.drew | apply IsS33.set_0) | exact HI0.out)⟩, ⟨by repeat (first | (with_reducible first | exact HK.out | apply KeepBut.set_ | apply keep_drewN | apply keep_drew | apply keep_alloc) | exact HK.out)⟩, ⟨by repeat (first | (with_reducible first | exact HB.out | apply below_alloc | apply pw_below_drewN | apply below_drew1 | refine below_set ?_ (IsS33.ge HI0.out)) | exact HB.out)⟩⟩
                                    · rw [if_neg c28] at H
                                      have c28b0 : (s0_0 == 3) = false := beq_eq_false_iff_ne.mpr c28
                                      have c28b1 : (s0_0 != 3) = true := bne_iff_ne.mpr c28
                                      by_cases c30 : s0_0 = 5
                                      · rw [if_pos c30] at H
                                        have c30b0 : (s0_0 == 5) = true := beq_iff_eq.mpr c30
                                        have c30b1 : (s0_0 != 5) = false := bne_eq_false_iff_eq.mpr c30
                                        clear c30
                                        by_cases c31 : a1 = 101
                                        · rw [if_pos c31] at H
                                          have c31b0 : (a1 == 101) = true := beq_iff_eq.mpr c31
                                          have c31b1 : (a1 != 101) = false := bne_eq_false_iff_eq.mpr c31
                                          clear c31
                                          have H' := Aside0.mk H
                                          clear H
                                          go_wp2
                                          go_meet
                                          case rel => exact ⟨_, (true), (by first | rfl | (simp; done) | (simp [*]; done)), H', ⟨by have := HJ3.out; have := HJ7.out; have := HJ11.out; have := HJ16.out; have := HJ20.out; first | omega | exact Nat.le_refl _⟩, ⟨by repeat (first | (with_reducible first | exact HI0.out | apply IsS33.alloc | apply IsS33.drewN | apply IsS33.drew | apply IsS33.set_0) | exact HI0.out)⟩, ⟨by repeat (first | (with_reducible first | exact HK.out | apply KeepBut.set_ | apply keep_drewN | apply keep_drew | apply keep_alloc) | exact HK.out)⟩, ⟨by repeat (first | (with_reducible first | exact HB.out | apply below_alloc | apply pw_below_drewN | apply below_drew1 | refine below_set ?_ (IsS33.ge HI0.out)) | exact HB.out)⟩⟩
                                        · rw [if_neg c31] at H
                                          have c31b0 : (a1 == 101) = false := beq_eq_false_iff_ne.mpr c31
                                          have c31b1 : (a1 != 101) = true := bne_iff_ne.mpr c31
                                          have H' := Aside0.mk H
                                          clear H
                                          go_wp2
                                          go_meet
                                          case rel => exact ⟨_, ((a1 == 69)), (by first | rfl | (simp; done) | (simp [*]; done)), H', ⟨by have := HJ3.out; have := HJ7.out; have := HJ11.out; have := HJ16.out; have := HJ20.out; first | omega | exact Nat.le_refl _⟩, ⟨by repeat (first | (with_reducible first | exact HI0.out | apply IsS33.alloc | apply IsS33.drewN | apply IsS33.drew | apply IsS33.set_0) | exact HI0.out)⟩, ⟨by repeat (first | (with_reducible first | exact HK.out | apply KeepBut.set_ | apply keep_drewN | apply keep_drew | apply keep_alloc) | exact HK.out)⟩, ⟨by repeat (first | (with_reducible first | exact HB.out | apply below_alloc | apply pw_below_drewN | apply below_drew1 | refine below_set ?_ (IsS33.ge HI0.out)) | exact HB.out)⟩⟩
                                      · rw [if_neg c30] at H
                                        have c30b0 : (s0_0 == 5) = false := beq_eq_false_iff_ne.mpr c30
                                        have c30b1 : (s0_0 != 5) = true := bne_iff_ne.mpr c30
                                        have H' := Aside0.mk H
                                        clear H
                                        go_wp2
                                        go_meet
                                        case rel => exact ⟨_, (false), (by first | rfl | (simp; done) | (simp [*]; done)), H', ⟨by have := HJ3.out; have := HJ7.out; have := HJ11.out; have := HJ16.out; have := HJ20.out; first | omega | exact Nat.le_refl _⟩, ⟨by repeat (first | (with_reducible first | exact HI0.out | apply IsS33.alloc | apply IsS33.drewN | apply IsS33.drew | apply IsS33.set_0) | exact HI0.out)⟩, ⟨by repeat (first | (with_reducible first | exact HK.out | apply KeepBut.set_ | apply keep_drewN | apply keep_drew | apply keep_alloc) | exact HK.out)⟩, ⟨by repeat (first | (with_reducible first | exact HB.out | apply below_alloc | apply pw_below_drewN | apply below_drew1 | refine below_set ?_ (IsS33.ge HI0.out)) | exact HB.out)⟩⟩
                                case rest =>
                                  clear HC25
                                  try clear c1
                                  try clear c2
                                  try clear p2
                                  try clear c3
                                  try clear c5
                                  try clear c6
                                  try clear c6b0
                                  try clear c6b1
                                  try clear c7
                                  try clear c9
                                  try clear c9b0
                                  try clear c9b1
                                  try clear c10
                                  try clear c10b0
                                  try clear c10b1
                                  try clear c11
                                  try clear c13
                                  try clear c13b0
                                  try clear c13b1
                                  try clear c14
                                  try clear c14b0
                                  try clear c14b1
                                  try clear c15
                                  try clear c15b0
                                  try clear c15b1
                                  try clear c16
                                  try clear c18
                                  try clear c18b0
                                  try clear c18b1
                                  try clear c19
                                  try clear c19b0
                                  try clear c19b1
                                  try clear c20
                                  try clear c22
                                  try clear c22b0
                                  try clear c22b1
                                  try clear c23
                                  try clear c23b0
                                  try clear c23b1
                                  try clear c24
                                  try clear c26
                                  try clear c26b0
                                  try clear c26b1
                                  try clear c27
                                  try clear c27b0
                                  try clear c27b1
                                  try clear c28
                                  try clear c28b0
                                  try clear c28b1
                                  try clear c29
                                  try clear c29b0
                                  try clear c29b1
                                  try clear c30
                                  try clear c30b0
                                  try clear c30b1
                                  try clear c31
                                  try clear c31b0
                                  try clear c31b1
                                  try clear hcz5_0
                                  try clear hfz5_0
                                  try clear p2
                                  obtain ⟨kq, x66_24, rfl, HA, HJ24, HI0, HK, HB⟩ := hcut
                                  cases kq with
                                  | zero => exact absurd HA.out (by simp [numeral_Walk_next.j5])
                                  | succ kj24 =>
                                    have H := HA.out
                                    clear HA
                                    simp only [numeral_Walk_next.j5] at H
                                    by_cases c32 : x66_24 = true
                                    · subst c32
                                      have H1 : (some (6, s0_0)) = some (r1, r2) := by rw [if_pos rfl] at H; exact H
                                      clear H
                                      have H := H1
                                      clear H1
                                      simp only [Option.some.injEq, Prod.mk.injEq] at H
                                      obtain ⟨rfl, rfl⟩ := H
                                      go_wp2
                                      go_ret
                                      exact ⟨by first | rfl | (simp [errW_none, errW_some] <;> rfl) | (simp [*, errW_none, errW_some] <;> rfl), by repeat (first | (with_reducible first | exact HI0.out | apply IsS33.alloc | apply IsS33.drewN | apply IsS33.drew | apply IsS33.set_0) | exact HI0.out), by repeat (first | (with_reducible first | exact HB.out | apply below_alloc | apply pw_below_drewN | apply below_drew1 | refine below_set ?_ (IsS33.ge HI0.out)) | exact HB.out), by repeat (first | (with_reducible first | exact HK.out | apply KeepBut.set_ | apply keep_drewN | apply keep_drew | apply keep_alloc) | exact HK.out)⟩
                                    · replace c32 := Bool.eq_false_iff.mpr c32
                                      subst c32
                                      have H1 : (if s0_0 = 6 then (if a1 = 43 then (numeral_Walk_next.j6 kj24 t101 s0_0 true s0_0) else (numeral_Walk_next.j6 kj24 t101 s0_0 (a1 == 45) s0_0)) else (numeral_Walk_next.j6 kj24 t101 s0_0 false s0_0)) = some (r1, r2) := by rw [if_neg (show ¬ (false = true) by decide)] at H; exact H
                                      clear H
                                      have H := H1
                                      clear H1
                                      have HC33 := Aside0.mk H
                                      clear H
                                      go_upto_region 15 with (fail)
                                      go_cut [85] (fun v85 wc => ∃ (kq : Nat) (x85_32 : Bool), v85 = .bool x85_32 ∧ Aside0 (numeral_Walk_next.j6 kq t101 s0_0 x85_32 s0_0 = some (r1, r2)) ∧ Aside0 (kq ≤ kj24) ∧ Aside0 (IsS33 w0 wc g s0_0) ∧ Aside0 (KeepBut w wc g none) ∧ Aside0 (Below w0.heap.size w0 wc))
                                      case first =>
                                        have H := HC33.out
                                        clear HC33
                                        by_cases c34 : s0_0 = 6
                                        · rw [if_pos c34] at H
                                          have c34b0 : (s0_0 == 6) = true := beq_iff_eq.mpr c34
                                          have c34b1 : (s0_0 != 6) = false := bne_eq_false_iff_eq.mpr c34
                                          clear c34
                                          (first | rw [c34b0] | (simp only [i64_w, i32_w]; rw [c34b0]) | skip)
                                          by_cases c35 : a1 = 43
                                          · rw [if_pos c35] at H
                                            have c35b0 : (a1 == 43) = true := beq_iff_eq.mpr c35
                                            have c35b1 : (a1 != 43) = false := bne_eq_false_iff_eq.mpr c35
                                            clear c35
                                            have H' := Aside0.mk H
                                            clear H
                                            go_wp2
                                            go_meet
                                            case rel => exact ⟨_, (true), (by first | rfl | (simp; done) | (simp [*]; done)), H', ⟨by have := HJ3.out; have := HJ7.out; have := HJ11.out; have := HJ16.out; have := HJ20.out; have := HJ24.out; first | omega | exact Nat.le_refl _⟩, ⟨by repeat (first | (with_reducible first | exact HI0.out | apply IsS33.alloc | apply IsS33.drewN | apply IsS33.drew | apply IsS33.set_0) | exact HI0.out)⟩, ⟨by repeat (first | (with_reducible first | exact HK.out | apply KeepBut.set_ | apply keep_drewN | apply keep_drew | apply keep_alloc) | exact HK.out)⟩, ⟨by repeat (first | (with_reducible first | exact HB.out | apply below_alloc | apply pw_below_drewN | apply below_drew1 | refine below_set ?_ (IsS33.ge HI0.out)) | exact HB.out)⟩⟩
                                          · rw [if_neg c35] at H
                                            have c35b0 : (a1 == 43) = false := beq_eq_false_iff_ne.mpr c35
                                            have c35b1 : (a1 != 43) = true := bne_iff_ne.mpr c35
                                            have H' := Aside0.mk H
                                            clear H
                                            go_wp2
                                            go_meet
                                            case rel => exact ⟨_, ((a1 == 45)), (by first | rfl | (simp; done) | (simp [*]; done)), H', ⟨by have := HJ3.out; have := HJ7.out; have := HJ11.out; have := HJ16.out; have := HJ20.out; have := HJ24.out; first | omega | exact Nat.le_refl _⟩, ⟨by repeat (first | (with_reducible first | exact HI0.out | apply IsS33.alloc | apply IsS33.drewN | apply IsS33.drew | apply IsS33.set_0) | exact HI0.out)⟩, ⟨by repeat (first | (with_reducible first | exact HK.out | apply KeepBut.set_ | apply keep_drewN | apply keep_drew | apply keep_alloc) | exact HK.out)⟩, ⟨by repeat (first | (with_reducible first | exact HB.out | apply below_alloc | apply pw_below_drewN | apply below_drew1 | refine below_set ?_ (IsS33.ge HI0.out)) | exact HB.out)⟩⟩
                                        · rw [if_neg c34] at H
                                          have c34b0 : (s0_0 == 6) = false := beq_eq_false_iff_ne.mpr c34
                                          have c34b1 : (s0_0 != 6) = true := bne_iff_ne.mpr c34
                                          (first | rw [c34b0] | (simp only [i64_w, i32_w]; rw [c34b0]) | skip)
                                          have H' := Aside0.mk H
                                          clear H
                                          go_wp2
                                          go_meet
                                          case rel => exact ⟨_, (false), (by first | rfl | (simp; done) | (simp [*]; done)), H', ⟨by have := HJ3.out; have := HJ7.out; have := HJ11.out; have := HJ16.out; have := HJ20.out; have := HJ24.out; first | omega | exact Nat.le_refl _⟩, ⟨by repeat (first | (with_reducible first | exact HI0.out | apply IsS33.alloc | apply IsS33.drewN | apply IsS33.drew | apply IsS33.set_0) | exact HI0.out)⟩, ⟨by repeat (first | (with_reducible first | exact HK.out | apply KeepBut.set_ | apply keep_drewN | apply keep_drew | apply keep_alloc) | exact HK.out)⟩, ⟨by repeat (first | (with_reducible first | exact HB.out | apply below_alloc | apply pw_below_drewN | apply below_drew1 | refine below_set ?_ (IsS33.ge HI0.out)) | exact HB.out)⟩⟩
                                      case rest =>
                                        clear HC33
                                        try clear c1
                                        try clear c2
                                        try clear p2
                                        try clear c3
                                        try clear c5
                                        try clear c6
                                        try clear c6b0
                                        try clear c6b1
                                        try clear c7
                                        try clear c9
                                        try clear c9b0
                                        try clear c9b1
                                        try clear c10
                                        try clear c10b0
                                        try clear c10b1
                                        try clear c11
                                        try clear c13
                                        try clear c13b0
                                        try clear c13b1
                                        try clear c14
                                        try clear c14b0
                                        try clear c14b1
                                        try clear c15
                                        try clear c15b0
                                        try clear c15b1
                                        try clear c16
                                        try clear c18
                                        try clear c18b0
                                        try clear c18b1
                                        try clear c19
                                        try clear c19b0
                                        try clear c19b1
                                        try clear c20
                                        try clear c22
                                        try clear c22b0
                                        try clear c22b1
                                        try clear c23
                                        try clear c23b0
                                        try clear c23b1
                                        try clear c24
                                        try clear c26
                                        try clear c26b0
                                        try clear c26b1
                                        try clear c27
                                        try clear c27b0
                                        try clear c27b1
                                        try clear c28
                                        try clear c28b0
                                        try clear c28b1
                                        try clear c29
                                        try clear c29b0
                                        try clear c29b1
                                        try clear c30
                                        try clear c30b0
                                        try clear c30b1
                                        try clear c31
                                        try clear c31b0
                                        try clear c31b1
                                        try clear c32
                                        try clear c34
                                        try clear c34b0
                                        try clear c34b1
                                        try clear c35
                                        try clear c35b0
                                        try clear c35b1
                                        try clear hcz5_0
                                        try clear hfz5_0
                                        try clear p2
                                        obtain ⟨kq, x85_32, rfl, HA, HJ32, HI0, HK, HB⟩ := hcut
                                        cases kq with
                                        | zero => exact absurd HA.out (by simp [numeral_Walk_next.j6])
                                        | succ kj32 =>
                                          have H := HA.out
                                          clear HA
                                          simp only [numeral_Walk_next.j6] at H
                                          by_cases c36 : x85_32 = true
                                          · subst c36
                                            have H1 : (some (7, s0_0)) = some (r1, r2) := by rw [if_pos rfl] at H; exact H
                                            clear H
                                            have H := H1
                                            clear H1
                                            simp only [Option.some.injEq, Prod.mk.injEq] at H
                                            obtain ⟨rfl, rfl⟩ := H
                                            go_wp2
                                            go_ret
                                            exact ⟨by first | rfl | (simp [errW_none, errW_some] <;> rfl) | (simp [*, errW_none, errW_some] <;> rfl), by repeat (first | (with_reducible first | exact HI0.out | apply IsS33.alloc | apply IsS33.drewN | apply IsS33.drew | apply IsS33.set_0) | exact HI0.out), by repeat (first | (with_reducible first | exact HB.out | apply below_alloc | apply pw_below_drewN | apply below_drew1 | refine below_set ?_ (IsS33.ge HI0.out)) | exact HB.out), by repeat (first | (with_reducible first | exact HK.out | apply KeepBut.set_ | apply keep_drewN | apply keep_drew | apply keep_alloc) | exact HK.out)⟩
                                          · replace c36 := Bool.eq_false_iff.mpr c36
                                            subst c36
                                            have H1 : (if s0_0 ≥ 6 then (if t101 = true then (some (8, s0_0)) else (some (0, s0_0))) else (some (0, s0_0))) = some (r1, r2) := by rw [if_neg (show ¬ (false = true) by decide)] at H; exact H
                                            clear H
                                            have H := H1
                                            clear H1
                                            by_cases c37 : s0_0 ≥ 6
                                            · rw [if_pos c37] at H
                                              have c37b0 : decide (6 ≤ s0_0) = true := decide_eq_true c37
                                              clear c37
                                              by_cases c38 : t101 = true
                                              · subst c38
                                                have H1 : (some (8, s0_0)) = some (r1, r2) := by rw [if_pos rfl] at H; exact H
                                                clear H
                                                have H := H1
                                                clear H1
                                                simp only [Option.some.injEq, Prod.mk.injEq] at H
                                                obtain ⟨rfl, rfl⟩ := H
                                                go_wp2
                                                go_ret
                                                exact ⟨by first | rfl | (simp [errW_none, errW_some] <;> rfl) | (simp [*, errW_none, errW_some] <;> rfl), by repeat (first | (with_reducible first | exact HI0.out | apply IsS33.alloc | apply IsS33.drewN | apply IsS33.drew | apply IsS33.set_0) | exact HI0.out), by repeat (first | (with_reducible first | exact HB.out | apply below_alloc | apply pw_below_drewN | apply below_drew1 | refine below_set ?_ (IsS33.ge HI0.out)) | exact HB.out), by repeat (first | (with_reducible first | exact HK.out | apply KeepBut.set_ | apply keep_drewN | apply keep_drew | apply keep_alloc) | exact HK.out)⟩
                                              · replace c38 := Bool.eq_false_iff.mpr c38
                                                subst c38
                                                have H1 : (some (0, s0_0)) = some (r1, r2) := by rw [if_neg (show ¬ (false = true) by decide)] at H; exact H
                                                clear H
                                                have H := H1
                                                clear H1
                                                simp only [Option.some.injEq, Prod.mk.injEq] at H
                                                obtain ⟨rfl, rfl⟩ := H
                                                go_wp2
                                                go_ret
                                                exact ⟨by first | rfl | (simp [errW_none, errW_some] <;> rfl) | (simp [*, errW_none, errW_some] <;> rfl), by repeat (first | (with_reducible first | exact HI0.out | apply IsS33.alloc | apply IsS33.drewN | apply IsS33.drew | apply IsS33.set_0) | exact HI0.out), by repeat (first | (with_reducible first | exact HB.out | apply below_alloc | apply pw_below_drewN | apply below_drew1 | refine below_set ?_ (IsS33.ge HI0.out)) | exact HB.out), by repeat (first | (with_reducible first | exact HK.out | apply KeepBut.set_ | apply keep_drewN | apply keep_drew | apply keep_alloc) | exact HK.out)⟩
                                            · rw [if_neg c37] at H
                                              have c37b0 : decide (6 ≤ s0_0) = false := decide_eq_false c37
                                              clear c37
                                              simp only [Option.some.injEq, Prod.mk.injEq] at H
                                              obtain ⟨rfl, rfl⟩ := H
                                              go_wp2
                                              go_ret
                                              exact ⟨by first | rfl | (simp [errW_none, errW_some] <;> rfl) | (simp [*, errW_none, errW_some] <;> rfl), by repeat (first | (with_reducible first | exact HI0.out | apply IsS33.alloc | apply IsS33.drewN | apply IsS33.drew | apply IsS33.set_0) | exact HI0.out), by repeat (first | (with_reducible first | exact HB.out | apply below_alloc | apply pw_below_drewN | apply below_drew1 | refine below_set ?_ (IsS33.ge HI0.out)) | exact HB.out), by repeat (first | (with_reducible first | exact HK.out | apply KeepBut.set_ | apply keep_drewN | apply keep_drew | apply keep_alloc) | exact HK.out)⟩

end Go.Proofs.Ytjfoppmpiklfiab.PNumeralWalks
