/- Contracts of functions that the law NumeralWalks reaches. Conditions: none. -/
import Derived.Test.YtjfoppmpiklfiabPNumeralWalksx0
namespace Go.Proofs.Ytjfoppmpiklfiab.PNumeralWalks
open Go.RowKit Go.Proofs.YtjfoppmpiklfiabW.PrintWords Go.Proofs.YtjfoppmpiklfiabW.PrintLast Go.Proofs.YtjfoppmpiklfiabW.PrintMore
attribute [local go_sem] max2_int min2_int max_two min_two max_three min_three max_four min_four   -- for this text's walks alone
set_option linter.unusedVariables false
set_option linter.unusedSimpArgs false

/-- A state of type 33 at block g of W; what its slices lead to came in by w0. -/
def IsS33 (w0 W : World) (g : Nat) (f0 : Int) : Prop := W.heap[g]? = some (.cells #[.int .i64 f0] 33 (0, 0)) ∧ w0.heap.size ≤ g
theorem IsS33.grown {w0 W : World} {g : Nat} {f0 : Int} {W1 : World} {row : Option Nat} (h : IsS33 w0 W g f0) (hw : W.grownBy W1 row) (hne : some g ≠ row) : IsS33 w0 W1 g f0 := by
  obtain ⟨hb, hg⟩ := h
  exact ⟨blk_grown hb hw hne, hg⟩
theorem IsS33.own_neN {w0 W : World} {g : Nat} {f0 : Int} {α : Type} {d : Kd α} {e : Nat} {base : Nat} {ok : Nat → Prop} {v : Value} {xs : List α} (h : IsS33 w0 W g f0) (ho : Kd.N d e W base ok v xs) (ht : e ≠ 33) : some g ≠ v.ownBlock := by
  obtain ⟨hb, hg⟩ := h
  exact Kd.N_ne ho hb ht
theorem IsS33.fresh {w0 W : World} {g : Nat} {f0 : Int} (h : IsS33 w0 W g f0) : ∀ k, W.heap.size ≤ k → k ≠ g := by
  obtain ⟨hb, hg⟩ := h
  exact Kd.freshB hb
theorem IsS33.kept {w0 W : World} {g : Nat} {f0 : Int} {W1 : World} {S : Nat → Prop} (h : IsS33 w0 W g f0) (hk : Kept W W1 S) (hne : ¬ S g) : IsS33 w0 W1 g f0 := by
  obtain ⟨hb, hg⟩ := h
  exact ⟨blk_kept hb hk hne, hg⟩
theorem IsS33.below {w0 W : World} {g : Nat} {f0 : Int} {W1 : World} (h : IsS33 w0 W g f0) (hw : Below W.heap.size W W1) : IsS33 w0 W1 g f0 := h.grown (grown_of_below hw none) (by simp)
theorem IsS33.alloc {w0 W : World} {g : Nat} {f0 : Int} (h : IsS33 w0 W g f0) (o : Obj) : IsS33 w0 (W.alloc o) g f0 := h.below (below_alloc (Below.refl _ _) o)
theorem IsS33.drewN {w0 W : World} {g : Nat} {f0 : Int} (h : IsS33 w0 W g f0) (m : Nat) : IsS33 w0 (W.drewN m) g f0 := h
theorem IsS33.drew {w0 W : World} {g : Nat} {f0 : Int} (h : IsS33 w0 W g f0) : IsS33 w0 W.drew g f0 := h
theorem IsS33.at_ {w0 W : World} {g : Nat} {f0 : Int} {w' : World} {m : Nat} (hq : W.drewN m = w') (h : IsS33 w0 W g f0) : IsS33 w0 w' g f0 := by subst hq; exact IsS33.drewN h m
theorem IsS33.apart {w0 W : World} {g : Nat} {f0 : Int} {α : Type} {d : Kd α} {e : Nat} {base : Nat} {ok : Nat → Prop} {v : Value} {xs : List α} (h : IsS33 w0 W g f0) (ho : d.R e W base ok v xs) (ht : ∀ q, q ∈ e :: d.E → q ≠ 33) : d.R e W base (fun k => ok k ∧ k ≠ g) v xs := by
  obtain ⟨hb, hg⟩ := h
  exact Kd.R_types ho hb ht
theorem IsS33.own_ne {w0 W : World} {g : Nat} {f0 : Int} {α : Type} {d : Kd α} {e : Nat} {base : Nat} {ok : Nat → Prop} {v : Value} {xs : List α} (h : IsS33 w0 W g f0) (ho : d.R e W base ok v xs) (ht : e ≠ 33) : some g ≠ v.ownBlock := by
  obtain ⟨hb, hg⟩ := h
  exact Kd.R_ne ho hb ht
theorem IsS33.apartQ {w0 W : World} {g : Nat} {f0 : Int} {α : Type} {d : Kd α} {e : Nat} {base : Nat} {ok : Nat → Prop} {v : Value} {xs : List α} (h : IsS33 w0 W g f0) (ho : d.Q e W base ok v xs) (ht : ∀ q, q ∈ e :: d.E → q ≠ 33) : d.Q e W base (fun k => ok k ∧ k ≠ g) v xs := by
  obtain ⟨hb, hg⟩ := h
  exact Kd.Q_types ho hb ht
theorem IsS33.own_neQ {w0 W : World} {g : Nat} {f0 : Int} {α : Type} {d : Kd α} {e : Nat} {base : Nat} {ok : Nat → Prop} {v : Value} {xs : List α} (h : IsS33 w0 W g f0) (ho : d.Q e W base ok v xs) (ht : e ≠ 33) : some g ≠ v.ownBlock := by
  obtain ⟨hb, hg⟩ := h
  exact Kd.Q_ne ho hb ht
theorem IsS33.apartS {w0 W : World} {g : Nat} {f0 : Int} {α : Type} {d : Kd α} {e : Nat} {base : Nat} {ok : Nat → Prop} {v : Value} {xs : List α} (h : IsS33 w0 W g f0) (ho : d.S e W base ok v xs) (ht : ∀ q, q ∈ e :: d.E → q ≠ 33) : d.S e W base (fun k => ok k ∧ k ≠ g) v xs := by
  obtain ⟨hb, hg⟩ := h
  exact Kd.S_types ho hb ht
theorem IsS33.own_neS {w0 W : World} {g : Nat} {f0 : Int} {α : Type} {d : Kd α} {e : Nat} {base : Nat} {ok : Nat → Prop} {v : Value} {xs : List α} (h : IsS33 w0 W g f0) (ho : d.S e W base ok v xs) (ht : e ≠ 33) : some g ≠ v.ownBlock := by
  obtain ⟨hb, hg⟩ := h
  exact Kd.S_ne ho hb ht
theorem IsS33.lt {w0 W : World} {g : Nat} {f0 : Int} (h : IsS33 w0 W g f0) : g < W.heap.size := by
  obtain ⟨hb, hg⟩ := h
  exact blk_lt hb
theorem IsS33.ge {w0 W : World} {g : Nat} {f0 : Int} (h : IsS33 w0 W g f0) : w0.heap.size ≤ g := by
  obtain ⟨hb, hg⟩ := h
  exact hg
theorem IsS33.ne_blk {w0 W : World} {g : Nat} {f0 : Int} {a : Nat} {cs : Array Value} {t : TypeId} {fr : Nat × Nat} (h : IsS33 w0 W g f0) (hb2 : W.heap[a]? = some (.cells cs t fr)) (ht : t ≠ 33) : g ≠ a := by
  obtain ⟨hb, hg⟩ := h
  rintro rfl
  rw [hb] at hb2
  injection hb2 with hb2
  injection hb2 with _ ht2
  exact ht ht2.symm
theorem IsS33.far {w0 W : World} {g : Nat} {f0 : Int} {p : Addr} (h : IsS33 w0 W g f0) (hne : g ≠ p.block) (u : Value) : IsS33 w0 (W.setCell p u) g f0 := by
  obtain ⟨hb, hg⟩ := h
  exact ⟨blk_far hb hne u, hg⟩
theorem cellS33_0 {W : World} {g : Nat} {f0 : Int} (h : W.heap[g]? = some (.cells #[.int .i64 f0] 33 (0, 0))) : W.cell? ⟨g, 0, none⟩ = some (.int .i64 f0) := (blk_cell h 0).trans rfl
theorem IsS33.set_0 {w0 W : World} {g : Nat} {f0 : Int} (h : IsS33 w0 W g f0) (x : Int) : IsS33 w0 (W.setCell ⟨g, 0, none⟩ (.int .i64 x)) g x := by
  obtain ⟨hb, hg⟩ := h
  exact ⟨by simpa using blk_set hb 0 (.int .i64 x), hg⟩
theorem IsS33.new (w0 W : World) (f0 : Int) (hB : Below w0.heap.size w0 W) : IsS33 w0 (W.alloc (.cells #[.int .i64 f0] 33)) W.heap.size f0 := ⟨by simpa using heap_alloc_new W _, hB.size⟩

/-! ### numeral_Walk_Whole: function 20 -/
def numeral_Walk_Whole.f (s0_0 : Int) : Option (Bool × Int) := if s0_0 = 2 then (some (true, s0_0)) else (if s0_0 = 3 then (some (true, s0_0)) else (if s0_0 = 5 then (some (true, s0_0)) else (if s0_0 = 8 then (some (true, s0_0)) else (some (false, s0_0)))))
set_option maxHeartbeats 8000000 in
set_option maxRecDepth 100000 in
theorem numeral_Walk_Whole.calls (g : Nat) (s0_0 : Int) (r1 : Bool) (r2 : Int) (w0 w : World) (hI : IsS33 w0 w g s0_0) (hB : Below w0.heap.size w0 w) (h : numeral_Walk_Whole.f s0_0 = some (r1, r2)) :
    Calls Try.prog 20 #[.pointer (some ⟨g, 0, none⟩)] w fun e w' => e = .returned (.bool r1) ∧ IsS33 w0 w' g r2 ∧ Below w0.heap.size w0 w' ∧ KeepBut w w' g none := by
  have HI0 := Aside0.mk hI
  have HK := Aside0.mk (KeepBut.refl w g none)
  have HL := Aside0.mk hB.size
  clear hI
  have HW0 := Aside0.mk hB.size
  have HB := Aside0.mk hB
  clear hB
  have H : (if s0_0 = 2 then (some (true, s0_0)) else (if s0_0 = 3 then (some (true, s0_0)) else (if s0_0 = 5 then (some (true, s0_0)) else (if s0_0 = 8 then (some (true, s0_0)) else (some (false, s0_0)))))) = some (r1, r2) := h
  clear h
  by_cases c2 : s0_0 = 2
  · rw [if_pos c2] at H
    have c2b0 : (s0_0 == 2) = true := beq_iff_eq.mpr c2
    have c2b1 : (s0_0 != 2) = false := bne_eq_false_iff_eq.mpr c2
    clear c2
    simp only [Option.some.injEq, Prod.mk.injEq] at H
    obtain ⟨rfl, rfl⟩ := H
    obtain ⟨HGz3, hgz3⟩ := HI0.out
    have hcz3_0 := cellS33_0 HGz3
    have hfz3_0 := blk_frozen HGz3 0
    clear HGz3 hgz3
    go_enter Try.func20, Try.ntmps20
    go_wp2
    go_ret
    exact ⟨by first | rfl | (simp [errW_none, errW_some] <;> rfl) | (simp [*, errW_none, errW_some] <;> rfl), by repeat (first | (with_reducible first | exact HI0.out | apply IsS33.alloc | apply IsS33.drewN | apply IsS33.drew | apply IsS33.set_0) | exact HI0.out), by repeat (first | (with_reducible first | exact HB.out | apply below_alloc | apply pw_below_drewN | apply below_drew1 | refine below_set ?_ (IsS33.ge HI0.out)) | exact HB.out), by repeat (first | (with_reducible first | exact HK.out | apply KeepBut.set_ | apply keep_drewN | apply keep_drew | apply keep_alloc) | exact HK.out)⟩
  · rw [if_neg c2] at H
    have c2b0 : (s0_0 == 2) = false := beq_eq_false_iff_ne.mpr c2
    have c2b1 : (s0_0 != 2) = true := bne_iff_ne.mpr c2
    by_cases c4 : s0_0 = 3
    · rw [if_pos c4] at H
      have c4b0 : (s0_0 == 3) = true := beq_iff_eq.mpr c4
      have c4b1 : (s0_0 != 3) = false := bne_eq_false_iff_eq.mpr c4
      clear c4
      simp only [Option.some.injEq, Prod.mk.injEq] at H
      obtain ⟨rfl, rfl⟩ := H
      obtain ⟨HGz5, hgz5⟩ := HI0.out
      have hcz5_0 := cellS33_0 HGz5
      have hfz5_0 := blk_frozen HGz5 0
      clear HGz5 hgz5
      go_enter Try.func20, Try.ntmps20
      go_wp2
      go_ret
      exact ⟨by first | rfl | (simp [errW_none, errW_some] <;> rfl) | (simp [*, errW_none, errW_some] <;> rfl), by repeat (first | (with_reducible first | exact HI0.out | apply IsS33.alloc | apply IsS33.drewN | apply IsS33.drew | apply IsS33.set_0) | exact HI0.out), by repeat (first | (with_reducible first | exact HB.out | apply below_alloc | apply pw_below_drewN | apply below_drew1 | refine below_set ?_ (IsS33.ge HI0.out)) | exact HB.out), by repeat (first | (with_reducible first | exact HK.out | apply KeepBut.set_ | apply keep_drewN | apply keep_drew | apply keep_alloc) | exact HK.out)⟩
    · rw [if_neg c4] at H
      have c4b0 : (s0_0 == 3) = false := beq_eq_false_iff_ne.mpr c4
      have c4b1 : (s0_0 != 3) = true := bne_iff_ne.mpr c4
      by_cases c6 : s0_0 = 5
      · rw [if_pos c6] at H
        have c6b0 : (s0_0 == 5) = true := beq_iff_eq.mpr c6
        have c6b1 : (s0_0 != 5) = false := bne_eq_false_iff_eq.mpr c6
        clear c6
        simp only [Option.some.injEq, Prod.mk.injEq] at H
        obtain ⟨rfl, rfl⟩ := H
        obtain ⟨HGz7, hgz7⟩ := HI0.out
        have hcz7_0 := cellS33_0 HGz7
        have hfz7_0 := blk_frozen HGz7 0
        clear HGz7 hgz7
        go_enter Try.func20, Try.ntmps20
        go_wp2
        go_ret
        exact ⟨by first | rfl | (simp [errW_none, errW_some] <;> rfl) | (simp [*, errW_none, errW_some] <;> rfl), by repeat (first | (with_reducible first | exact HI0.out | apply IsS33.alloc | apply IsS33.drewN | apply IsS33.drew | apply IsS33.set_0) | exact HI0.out), by repeat (first | (with_reducible first | exact HB.out | apply below_alloc | apply pw_below_drewN | apply below_drew1 | refine below_set ?_ (IsS33.ge HI0.out)) | exact HB.out), by repeat (first | (with_reducible first | exact HK.out | apply KeepBut.set_ | apply keep_drewN | apply keep_drew | apply keep_alloc) | exact HK.out)⟩
      · rw [if_neg c6] at H
        have c6b0 : (s0_0 == 5) = false := beq_eq_false_iff_ne.mpr c6
        have c6b1 : (s0_0 != 5) = true := bne_iff_ne.mpr c6
        by_cases c8 : s0_0 = 8
        · rw [if_pos c8] at H
          have c8b0 : (s0_0 == 8) = true := beq_iff_eq.mpr c8
          have c8b1 : (s0_0 != 8) = false := bne_eq_false_iff_eq.mpr c8
          clear c8
          simp only [Option.some.injEq, Prod.mk.injEq] at H
          obtain ⟨rfl, rfl⟩ := H
          obtain ⟨HGz9, hgz9⟩ := HI0.out
          have hcz9_0 := cellS33_0 HGz9
          have hfz9_0 := blk_frozen HGz9 0
          clear HGz9 hgz9
          go_enter Try.func20, Try.ntmps20
          go_wp2
          go_ret
          exact ⟨by first | rfl | (simp [errW_none, errW_some] <;> rfl) | (simp [*, errW_none, errW_some] <;> rfl), by repeat (first | (with_reducible first | exact HI0.out | apply IsS33.alloc | apply IsS33.drewN | apply IsS33.drew | apply IsS33.set_0) | exact HI0.out), by repeat (first | (with_reducible first | exact HB.out | apply below_alloc | apply pw_below_drewN | apply below_drew1 | refine below_set ?_ (IsS33.ge HI0.out)) | exact HB.out), by repeat (first | (with_reducible first | exact HK.out | apply KeepBut.set_ | apply keep_drewN | apply keep_drew | apply keep_alloc) | exact HK.out)⟩
        · rw [if_neg c8] at H
          have c8b0 : (s0_0 == 8) = false := beq_eq_false_iff_ne.mpr c8
          have c8b1 : (s0_0 != 8) = true := bne_iff_ne.mpr c8
          simp only [Option.some.injEq, Prod.mk.injEq] at H
          obtain ⟨rfl, rfl⟩ := H
          obtain ⟨HGz10, hgz10⟩ := HI0.out
          have hcz10_0 := cellS33_0 HGz10
          have hfz10_0 := blk_frozen HGz10 0
          clear HGz10 hgz10
          go_enter Try.func20, Try.ntmps20
          go_wp2
          go_ret
          exact ⟨by first | rfl | (simp [errW_none, errW_some] <;> rfl) | (simp [*, errW_none, errW_some] <;> rfl), by repeat (first | (with_reducible first | exact HI0.out | apply IsS33.alloc | apply IsS33.drewN | apply IsS33.drew | apply IsS33.set_0) | exact HI0.out), by repeat (first | (with_reducible first | exact HB.out | apply below_alloc | apply pw_below_drewN | apply below_drew1 | refine below_set ?_ (IsS33.ge HI0.out)) | exact HB.out), by repeat (first | (with_reducible first | exact HK.out | apply KeepBut.set_ | apply keep_drewN | apply keep_drew | apply keep_alloc) | exact HK.out)⟩

/-! ### octet_Digit: function 52 -/
def octet_Digit.f (a0 : Int) : Option (Bool) := if a0 ≥ 48 then (some (decide (a0 ≤ 57))) else (some false)
set_option maxHeartbeats 8000000 in
set_option maxRecDepth 100000 in
theorem octet_Digit.calls (a0 : Int) (r : Bool) (w : World) (h : octet_Digit.f a0 = some r) :
    Calls Try.prog 52 #[.int .u8 a0] w fun e w' => e = .returned (.bool r) ∧ Drawn0 w w' := by
  have H : (if a0 ≥ 48 then (some (decide (a0 ≤ 57))) else (some false)) = some r := h
  clear h
  by_cases c2 : a0 ≥ 48
  · rw [if_pos c2] at H
    have c2b0 : decide (48 ≤ a0) = true := decide_eq_true c2
    clear c2
    obtain rfl := Option.some.inj H
    go_enter Try.func52, Try.ntmps52
    go_wp2
    go_ret
    exact ⟨by first | rfl | (simp; done) | (simp [*]; done), by repeat (first | exact Drawn0.refl _ | apply Drawn0.step)⟩
  · rw [if_neg c2] at H
    have c2b0 : decide (48 ≤ a0) = false := decide_eq_false c2
    clear c2
    obtain rfl := Option.some.inj H
    go_enter Try.func52, Try.ntmps52
    go_wp2
    go_ret
    exact ⟨by first | rfl | (simp; done) | (simp [*]; done), by repeat (first | exact Drawn0.refl _ | apply Drawn0.step)⟩

end Go.Proofs.Ytjfoppmpiklfiab.PNumeralWalks
