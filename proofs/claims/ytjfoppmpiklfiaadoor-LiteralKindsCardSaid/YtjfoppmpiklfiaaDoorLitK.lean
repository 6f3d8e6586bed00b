/- The walks of literalAlive, literal.Kind. Conditions: none. -/
import Derived.Test.YtjfoppmpiklfiaaDoorLit
import Derived.Deep.RegionWith
namespace Go.Proofs.YtjfoppmpiklfiaaDoor.Lit
open Go.RowKit Go.Proofs.YtjfoppmpiklfiaaDoorW.PrintWords Go.Proofs.YtjfoppmpiklfiaaDoorW.PrintLast Go.Proofs.YtjfoppmpiklfiaaDoorW.PrintMore Go.Proofs.YtjfoppmpiklfiaaDoor.PLiteralKinds

theorem Kind_calls (a0 : ByteArray) (r1 : Int) (r2 : Bool) (w0 w : World) (hT : Tab w0) (hB : Below w0.heap.size w0 w) (h : riffleref05_Kind.f a0 = some (r1, r2)) :
    Calls Tryd.prog 9 #[.string a0] w fun e w' => e = .returned (.tuple #[.int .i64 r1, .bool r2]) ∧ Below w0.heap.size w0 w' := by
  obtain ⟨_, t0, t1, t2⟩ := hT.below hB
  simp only [word] at t0 t1 t2
  unfold riffleref05_Kind.f at h
  have HB := Aside0.mk hB
  clear hT hB
  by_cases c2 : a0.toList = ([110, 117, 108, 108] : List UInt8)
  · rw [if_pos c2] at h
    have c2b0 : (a0.toList == ([110, 117, 108, 108] : List UInt8)) = true := beq_iff_eq.mpr c2
    have c2b1 : (a0.toList != ([110, 117, 108, 108] : List UInt8)) = false := bne_eq_false_iff_eq.mpr c2
    clear c2
    simp only [Option.some.injEq, Prod.mk.injEq] at h
    obtain ⟨rfl, rfl⟩ := h
    go_enter Tryd.func9, Tryd.ntmps9
    go_wp2_with fail
    go_ret2
    exact ⟨rfl, HB.out⟩
  · rw [if_neg c2] at h
    have c2b0 : (a0.toList == ([110, 117, 108, 108] : List UInt8)) = false := beq_eq_false_iff_ne.mpr c2
    have c2b1 : (a0.toList != ([110, 117, 108, 108] : List UInt8)) = true := bne_iff_ne.mpr c2
    by_cases c3 : a0.toList = ([116, 114, 117, 101] : List UInt8)
    · rw [if_pos c3] at h
      have c3b0 : (a0.toList == ([116, 114, 117, 101] : List UInt8)) = true := beq_iff_eq.mpr c3
      have c3b1 : (a0.toList != ([116, 114, 117, 101] : List UInt8)) = false := bne_eq_false_iff_eq.mpr c3
      clear c3
      simp only [Option.some.injEq, Prod.mk.injEq] at h
      obtain ⟨rfl, rfl⟩ := h
      go_enter Tryd.func9, Tryd.ntmps9
      go_wp2_with fail
      go_ret2
      exact ⟨rfl, HB.out⟩
    · rw [if_neg c3] at h
      have c3b0 : (a0.toList == ([116, 114, 117, 101] : List UInt8)) = false := beq_eq_false_iff_ne.mpr c3
      have c3b1 : (a0.toList != ([116, 114, 117, 101] : List UInt8)) = true := bne_iff_ne.mpr c3
      by_cases c4 : a0.toList = ([102, 97, 108, 115, 101] : List UInt8)
      · rw [if_pos c4] at h
        have c4b0 : (a0.toList == ([102, 97, 108, 115, 101] : List UInt8)) = true := beq_iff_eq.mpr c4
        have c4b1 : (a0.toList != ([102, 97, 108, 115, 101] : List UInt8)) = false := bne_eq_false_iff_eq.mpr c4
        clear c4
        simp only [Option.some.injEq, Prod.mk.injEq] at h
        obtain ⟨rfl, rfl⟩ := h
        go_enter Tryd.func9, Tryd.ntmps9
        go_wp2_with fail
        go_ret2
        exact ⟨rfl, HB.out⟩
      · rw [if_neg c4] at h
        have c4b0 : (a0.toList == ([102, 97, 108, 115, 101] : List UInt8)) = false := beq_eq_false_iff_ne.mpr c4
        have c4b1 : (a0.toList != ([102, 97, 108, 115, 101] : List UInt8)) = true := bne_iff_ne.mpr c4
        simp only [Option.some.injEq, Prod.mk.injEq] at h
        obtain ⟨rfl, rfl⟩ := h
        go_enter Tryd.func9, Tryd.ntmps9
        go_wp2_with fail
        go_ret2
        exact ⟨rfl, HB.out⟩

theorem alive_calls (w : World) (hT : Tab w) :
    Calls Tryd.prog 5 #[] w fun e w' => e = .returned (.bool true) ∧ Below w.heap.size w w' := by
  have HT := Aside0.mk hT
  clear hT
  go_enter Tryd.func5, Tryd.ntmps5
  go_wp2_with fail
  generalize hg : World.alloc w _ = w1
  have HB1 : Aside0 (Below w.heap.size w w1) := ⟨by subst hg; exact below_alloc (Below.refl _ _) _⟩
  have HI1 : Aside0 (IsW w w1 w.heap.size 0 0) := ⟨by subst hg; exact ⟨blk_new _ _, Nat.le_refl _⟩⟩
  clear hg
  refine (Step_calls w.heap.size 0 0 116 w w1 HT.out HI1.out HB1.out (by omega) (by omega)).mono ?_
  rintro e w2 ⟨rfl, hi, hb⟩
  have HB2 := Aside0.mk hb
  have HI2 : Aside0 (IsW w w2 w.heap.size 0 1) := ⟨hi⟩
  clear hb hi HB1 HI1
  rw [show (stepF 0 0 116).1 = 0 from rfl]
  go_wp2_with fail
  refine (Step_calls w.heap.size 0 1 114 w w2 HT.out HI2.out HB2.out (by omega) (by decide)).mono ?_
  rintro e w3 ⟨rfl, hi, hb⟩
  have HB3 := Aside0.mk hb
  have HI3 : Aside0 (IsW w w3 w.heap.size 0 2) := ⟨hi⟩
  clear hb hi HB2 HI2
  rw [show (stepF 0 1 114).1 = 0 from rfl]
  go_wp2_with fail
  refine (Step_calls w.heap.size 0 2 117 w w3 HT.out HI3.out HB3.out (by omega) (by decide)).mono ?_
  rintro e w4 ⟨rfl, hi, hb⟩
  have HB4 := Aside0.mk hb
  have HI4 : Aside0 (IsW w w4 w.heap.size 0 3) := ⟨hi⟩
  clear hb hi HB3 HI3
  rw [show (stepF 0 2 117).1 = 0 from rfl]
  go_wp2_with fail
  refine (Step_calls w.heap.size 0 3 101 w w4 HT.out HI4.out HB4.out (by omega) (by decide)).mono ?_
  rintro e w5 ⟨rfl, hi, hb⟩
  have HB5 := Aside0.mk hb
  have HI5 : Aside0 (IsW w w5 w.heap.size 0 4) := ⟨hi⟩
  clear hb hi HB4 HI4
  rw [show (stepF 0 3 101).1 = 1 from rfl]
  go_wp2_with fail
  refine (Step_calls w.heap.size 0 4 101 w w5 HT.out HI5.out HB5.out (by omega) (by decide)).mono ?_
  rintro e w6 ⟨rfl, hi, hb⟩
  have HB6 := Aside0.mk hb
  clear hb hi HB5 HI5
  rw [show (stepF 0 4 101).1 = 2 from rfl]
  go_wp2_with fail
  go_ret
  exact ⟨rfl, HB6.out⟩
end Go.Proofs.YtjfoppmpiklfiaaDoor.Lit
