/- The stack of bits: the law BitsBack's walk. Conditions: none. -/
import Derived.Test.YtjfoppmpiklfiaaBitsAlive
namespace Go.Proofs.Ytjfoppmpiklfiaa.BitsW
open Go.RowKit Go.Proofs.YtjfoppmpiklfiaaW.PrintWords Go.Proofs.YtjfoppmpiklfiaaW.PrintLast Go.Proofs.YtjfoppmpiklfiaaW.PrintMore
set_option linter.unusedVariables false
set_option linter.unusedSimpArgs false
theorem take_len {l : List Bool} {i : Nat} (h : i ≤ l.length) : (l.take i).length = i := by simp; omega
theorem take_more {l : List Bool} {i : Nat} {b : Bool} (h : l[i]? = some b) : l.take i ++ [b] = l.take (i + 1) := by rw [List.take_add_one, h]; rfl
set_option maxHeartbeats 4000000 in
set_option maxRecDepth 100000 in
theorem back_walk (A : Option Addr) (n c : Nat) (l : List Bool) (w : World) (hr : ReadsOf Value.bool false w A n l) :
    Calls Try.prog 4 #[.slice A n c] w fun e w' => e = .returned (.bool true) ∧ Below w.heap.size w w' := by
  have HR := Aside0.mk hr
  have HLN := Aside0.mk hr.1
  clear hr
  by_cases h2 : n ≤ 2000
  · have q0 : decide ((n : Int) > 2000) = false := by simp; omega
    have H2 := Aside0.mk h2
    clear h2
    go_enter Try.func4, Try.ntmps4
    go_upto_region 3 with (first | (go_at_call 13; refine (alive_calls w).mono ?_; rintro e w0 ⟨rfl, B0⟩; have HB0 := Aside0.mk B0; clear B0))
    go_upto_region 6 with (fail)
    generalize hw1 : w0.alloc _ = w1
    have H1 : IsB w w1 w0.heap.size (mw ([] : List Bool).length) [] := by subst hw1; exact new_ w w0 HB0.out
    have B1 : Below w.heap.size w w1 := by subst hw1; exact below_alloc HB0.out _
    generalize hgg : w0.heap.size = g at H1 ⊢
    clear hgg hw1
    go_upto_region 6 with (fail)
    have H1h := Aside0.mk H1
    have B1h := Aside0.mk B1
    clear H1 B1 HB0 q0
    go_wp2_with fail
    go_loopg [18] n (fun kq v18 w' => ∃ i : Nat, Aside0 (kq + i = n) ∧ v18 = .int .i64 (i : Int) ∧ Aside0 (IsB w w' g (mw (l.take i).length) (l.take i)) ∧ Aside0 (Below w.heap.size w w'))
    case atStart => exact ⟨0, ⟨by omega⟩, rfl, ⟨by simpa using H1h.out⟩, B1h⟩
    case round =>
      obtain ⟨i, hi, rfl, HI, HB⟩ := hrel
      by_cases c3 : i < n
      · obtain ⟨x, hx⟩ : ∃ x : Int, x = (i : Int) := ⟨_, rfl⟩
        have p1 : 0 ≤ x := by omega
        have q1 : x < (n : Int) := by omega
        obtain ⟨ad, rfl, hcell⟩ := (HR.out.below HB.out).at_ x p1 q1
        obtain ⟨b, hb⟩ : ∃ b, l[i]? = some b := ⟨l[i]'(by rw [HLN.out]; exact c3), List.getElem?_eq_getElem _⟩
        have hrd : rdOf false l x = b := by unfold rdOf; rw [hx, Int.toNat_natCast, List.getD_eq_getElem?_getD, hb]; rfl
        rw [hrd] at hcell
        have hli : i ≤ l.length := by rw [HLN.out]; omega
        have HP := Aside0.mk (push_calls g (l.take i) b w wr HI.out HB.out (by rw [take_len hli]; have := H2.out; omega))
        have HT := Aside0.mk (take_more hb)
        have HT2 := Aside0.mk (take_len hli)
        have HT3 := Aside0.mk (take_len (l := l) (i := i + 1) (by rw [HLN.out]; omega))
        have q2 : decide (x < (n : Int)) = true := decide_eq_true q1
        replace p1 := eq_true p1
        replace q1 := eq_true q1
        have HX := Aside0.mk hx
        have C3 := Aside0.mk c3
        rw [← hx]
        clear hb hrd hli hx c3
        go_wp2_with (first | (go_at_call 14; refine HP.out.mono ?_; rintro e w2 ⟨rfl, H2', B2, -⟩; have H2h := Aside0.mk H2'; have B2h := Aside0.mk B2; clear H2' B2))
        go_roundg (n - (i + 1))
        case measure => have := hi.out; have := C3.out; omega
        case rel => exact ⟨i + 1, ⟨by have := C3.out; omega⟩, by rw [HX.out]; have := C3.out; have := H2.out; congr 1; unfold wrap64; omega, ⟨by have h := H2h.out; rw [HT.out, HT2.out] at h; rw [HT3.out]; exact h⟩, B2h⟩
      · have q2 : decide ((i : Int) < (n : Int)) = false := by simp; omega
        have hin : i = n := by have := hi.out; omega
        have HI2 : Aside0 (IsB w wr g (mw l.length) l) := ⟨by have h := HI.out; rwa [hin, ← HLN.out, List.take_length] at h⟩
        obtain ⟨x, hx⟩ : ∃ x : Int, x = (i : Int) := ⟨_, rfl⟩
        rw [← hx] at q2 ⊢
        clear hx hin c3 HI hi H1h B1h
        have e1 : ((n : Int) - 1 : Int) = (n : Int) - 1 := rfl
        have B1x := HB
        clear HB e1
        go_wp2_with fail
        go_loopg [6] n (fun kq v6 w' => ∃ (j : Nat) (y : Int), Aside0 (kq = j) ∧ Aside0 (j ≤ n) ∧ Aside0 (y = (j : Int) - 1) ∧ v6 = .int .i64 y ∧ Aside0 (IsB w w' g (mw (l.take j).length) (l.take j)) ∧ Aside0 (Below w.heap.size w w'))
        case atStart => exact ⟨n, (n : Int) - 1, ⟨rfl⟩, ⟨Nat.le_refl _⟩, ⟨rfl⟩, by have := H2.out; first | rfl | (congr 1; unfold wrap64; omega), ⟨by have h := HI2.out; rw [show l.take n = l by rw [← HLN.out, List.take_length]]; exact h⟩, B1x⟩
        case round =>
          clear HI2 B1x
          obtain ⟨j, y, hk, hj, hy, rfl, HI, HB⟩ := hrel
          cases j with
          | zero =>
            have q3 : decide (0 ≤ y) = false := by have := hy.out; simp; omega
            have HPop := Aside0.mk (pop_none g w wr (by simpa [mw] using HI.out))
            have HLen := Aside0.mk (len_calls g 0 [] w wr (by simpa [mw] using HI.out))
            have HWo := Aside0.mk (words_calls g 0 [] w wr (by simpa [mw] using HI.out))
            clear HI hk hj hy
            go_upto_region 17 with (fail)
            go_upto_region 18 with (first | (go_at_call 15; refine HPop.out.mono ?_; rintro e w4 ⟨rfl, rfl⟩))
            clear HPop
            go_wp2_with (first | (go_at_call 17; refine HLen.out.mono ?_; rintro e w4 ⟨rfl, rfl⟩) | (go_at_call 18; refine HWo.out.mono ?_; rintro e w4 ⟨rfl, rfl⟩))
            go_ret
            exact ⟨rfl, HB.out⟩
          | succ j =>
            have hyj : y = (j : Int) := by have := hy.out; omega
            have p1 : 0 ≤ y := by omega
            have q1 : y < (n : Int) := by have := hj.out; omega
            have q3 : decide (0 ≤ y) = true := decide_eq_true p1
            obtain ⟨b, hb⟩ : ∃ b, l[j]? = some b := ⟨l[j]'(by rw [HLN.out]; have := hj.out; omega), List.getElem?_eq_getElem _⟩
            have hli : j ≤ l.length := by rw [HLN.out]; have := hj.out; omega
            have HIs : IsB w wr g (mw ((l.take j).length + 1)) (l.take j ++ [b]) := by
              have h := HI.out
              rw [← take_more hb] at h
              simpa using h
            have HP := Aside0.mk (pop_calls g (l.take j) b w wr HIs HB.out (by rw [take_len hli]; have := H2.out; have := hj.out; omega))
            have hrd : rdOf false l y = b := by unfold rdOf; rw [hyj, Int.toNat_natCast, List.getD_eq_getElem?_getD, hb]; rfl
            have HRD := Aside0.mk hrd
            have HYJ := Aside0.mk hyj
            have P1 := Aside0.mk p1
            have Q1 := Aside0.mk q1
            clear hrd hyj hb hli HIs HI hy p1 q1 HB
            go_upto_region 15 with (first | (go_at_call 15; refine HP.out.mono ?_; rintro e w4 ⟨rfl, H2', B2, -⟩; have H2h := Aside0.mk H2'; have B2h := Aside0.mk B2; clear H2' B2))
            clear HP
            obtain ⟨ad, rfl, hcell⟩ := (HR.out.below B2h.out).at_ y P1.out Q1.out
            rw [HRD.out] at hcell
            have p1 := eq_true P1.out
            have q1 := eq_true Q1.out
            have hbb : (b != b) = false := by cases b <;> rfl
            clear q2 q3
            go_upto_region 13 with (fail)
            clear hcell p1 q1 hbb
            go_wp2_with fail
            go_roundg j
            case measure => have := hk.out; omega
            case rel => exact ⟨j, (j : Int) - 1, ⟨rfl⟩, ⟨by have := hj.out; omega⟩, ⟨rfl⟩, by have := hj.out; have := H2.out; rw [HYJ.out]; congr 1; unfold wrap64; omega, H2h, B2h⟩
  · have q0 : decide ((n : Int) > 2000) = true := by simp; omega
    clear h2
    go_enter Try.func4, Try.ntmps4
    go_upto_region 3 with (first | (go_at_call 13; refine (alive_calls w).mono ?_; rintro e w0 ⟨rfl, B0⟩; have HB0 := Aside0.mk B0; clear B0))
    go_wp2_with fail
    go_ret
    exact ⟨rfl, HB0.out⟩
end Go.Proofs.Ytjfoppmpiklfiaa.BitsW
