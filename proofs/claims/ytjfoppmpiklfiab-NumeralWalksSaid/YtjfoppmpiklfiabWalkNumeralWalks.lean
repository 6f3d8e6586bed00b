/- The walk of the law NumeralWalks over the contracts of what it calls. Conditions: none. -/
import Derived.Test.YtjfoppmpiklfiabPNumeralWalksx3
import Derived.Test.YtjfoppmpiklfiabPNumeralWalksx4
import Derived.Test.YtjfoppmpiklfiabLinkNumeralWalks
import Derived.StillTailTactics
import Derived.IntWalk
namespace Go.Proofs.Ytjfoppmpiklfiab.WalkNumeralWalks
open Go.RowKit Go.Proofs.Ytjfoppmpiklfiab.PNumeralWalks Go.Proofs.YtjfoppmpiklfiabW.PrintWords Go.Proofs.YtjfoppmpiklfiabW.PrintLast Go.Proofs.YtjfoppmpiklfiabW.PrintMore
open Go.Proofs.Ytjfoppmpiklfiab.LinkNumeralWalks
open Go.Proofs.Ytjfoppmpiklfiab.Num (run fin isN L nx L_len take_L isN_run)
attribute [local go_sem] max2_int min2_int max_two min_two max_three min_three max_four min_four
set_option linter.unusedVariables false
set_option linter.unusedSimpArgs false
set_option maxRecDepth 100000 in
theorem alive_so : rifflelaw04_numeralAlive.f 900 = some true := by decide +kernel
set_option maxHeartbeats 4000000 in
set_option maxRecDepth 100000 in
theorem walk (s : ByteArray) (_ : s.size ≤ 140737488351232) (w : World) : Calls Try.prog 6 #[.string s] w fun e w' => e = .returned (.bool true) ∧ Below w.heap.size w w' := by
  go_enter Try.func6, Try.ntmps6
  go_wp2_with fail
  refine (rifflelaw04_numeralAlive.calls 900 true _ alive_so).mono ?_
  rintro e w1 ⟨rfl, hb⟩
  have HB1 := Aside0.mk hb
  clear hb
  by_cases hbig : (300 : Int) < (s.size : Int)
  · go_wp2_with fail
    go_ret
    exact ⟨rfl, HB1.out⟩
  have z1 : decide ((300 : Int) < (s.size : Int)) = false := decide_eq_false hbig
  have hs : Aside0 (s.size ≤ 300) := ⟨by omega⟩
  clear hbig
  go_wp2_with fail
  generalize hg : World.alloc w1 _ = w2
  have HI : Aside0 (IsS33 w w2 w1.heap.size 0) := ⟨by subst hg; exact ⟨blk_new _ _, HB1.out.size⟩⟩
  have HB : Aside0 (Below w.heap.size w w2) := ⟨by subst hg; exact below_alloc HB1.out _⟩
  clear hg HB1
  generalize w1.heap.size = g at *
  refine (numeral_Walk_Whole.calls g 0 false 0 w _ HI.out HB.out (whole_eq 0)).mono ?_
  rintro e w3 ⟨rfl, hi, hb, _⟩
  replace HI := Aside0.mk hi
  replace HB := Aside0.mk hb
  clear hi hb
  go_wp2_with fail
  go_loopg [4] s.size (fun kq v4 w' => ∃ (i : Nat) (q : Int), v4 = .int .i64 i ∧ Aside0 (i + kq = s.size) ∧ Aside0 (run 0 ((L s).take i) = some q) ∧ Aside0 (IsS33 w w' g q) ∧ Aside0 (Below w.heap.size w w'))
  case atStart => exact ⟨0, 0, rfl, ⟨by omega⟩, ⟨rfl⟩, HI, HB⟩
  case round =>
    clear HI HB
    obtain ⟨i, q, rfl, HK, HR, HI, HB⟩ := hrel
    have hsz := hs.out
    have hk := HK.out
    cases gk with
    | zero =>
      have c1 : decide ((i : Int) < (s.size : Int)) = false := by simp; omega
      have c1n : decide (i < s.size) = false := by simp; omega
      clear hsz hk
      go_wp2_with fail
      go_ret
      exact ⟨rfl, HB.out⟩
    | succ d =>
      have c1 : decide ((i : Int) < (s.size : Int)) = true := by simp; omega
      have c1n : decide (i < s.size) = true := by simp; omega
      have c2 : (0 : Int) ≤ (i : Int) := by omega
      have c3 : (i : Int) ≤ (s.size : Int) := by omega
      have c4 : (i : Int) < (s.size : Int) := by omega
      have q5 : i < s.size := by omega
      have q5t := eq_true q5
      have hx : ∀ h : i < s.size, ((s[i]'h).toNat : Int) = bt s i := bt_at s i
      have hb := bt_ok s i
      have S1 : Aside0 (s.size ≤ 300 ∧ i < s.size) := ⟨⟨hsz, by omega⟩⟩
      have eS : Aside0 (riffleref04_Step.f 900 (s.extract 0 i) (bt s i) = some (stp q (bt s i))) := ⟨by
        rw [rstep_eq 900 (by omega) _ (by rw [size_take s i (by omega)]; omega) _ hb.1 hb.2, take_L, step_same _ _ _ HR.out]⟩
      have hn := next_run (s := s) (i := i) (q := q) q5 HR.out
      have eT : Aside0 (numeral_Walk_Step.f 900 q (bt s i) = some (stp q (bt s i), if nx q (bt s i) = 0 then q else nx q (bt s i))) := ⟨step_eq 900 (by omega) _ _⟩
      have hst : nx q (bt s i) = 0 → stp q (bt s i) ≠ 0 := fun h => by unfold stp; rw [if_pos h]; split <;> omega
      have hst0 : nx q (bt s i) ≠ 0 → stp q (bt s i) = 0 := fun h => by unfold stp; rw [if_neg h]
      generalize hc : bt s i = c at *
      generalize hst1 : stp q c = st at *
      have Hst := Aside0.mk hst
      have Hst0 := Aside0.mk hst0
      have HN := Aside0.mk hn
      clear hsz hk hb hst hst0 hn hc hst1
      go_wp2_with fail
      go_still_tail 6, (by kernel_rfl)
      change wpList _ _ _ _ _ wr.drew
      have HB2 := Aside0.mk (below_drew HB.out)
      have HI2 := Aside0.mk (IsS33.drew HI.out)
      generalize wr.drew = w4 at *
      clear HB HI
      go_wp2_with fail
      refine (riffleref04_Step.calls 900 (s.extract 0 i) c st _ eS.out).mono ?_
      rintro e w5 ⟨rfl, hb⟩
      have HB3 := Aside0.mk (below_step HB2.out hb)
      have HI3 := Aside0.mk (IsS33.below HI2.out hb)
      clear hb HB2 HI2
      go_wp2_with fail
      refine (numeral_Walk_Step.calls 900 g q c st _ w _ HI3.out HB3.out eT.out).mono ?_
      rintro e w6 ⟨rfl, hi, hb, _⟩
      have HB4 := Aside0.mk hb
      have HI4 := Aside0.mk hi
      clear hb hi HB3 HI3
      by_cases hn : nx q c = 0
      · have g1 : (st == 0) = false := by rw [beq_eq_false_iff_ne]; exact Hst.out hn
        have g2 : (st != 0) = true := by rw [bne_iff_ne]; exact Hst.out hn
        have HI5 : Aside0 (IsS33 w w6 g q) := ⟨by have := HI4.out; rw [if_pos hn] at this; exact this⟩
        have eI : Aside0 (riffleref04_Is.f 900 (s.extract 0 i) = some (fin q)) := ⟨by rw [Is_eq _ _ (by rw [size_take s i (by have := S1.out; omega)]; have := S1.out; omega), take_L, isN_run, HR.out]⟩
        clear hn HI4
        go_wp2_with fail
        go_region_with (first | (go_at_call 20; refine (numeral_Walk_Whole.calls g q (fin q) q w _ (IsS33.drew HI5.out) (below_drew HB4.out) (whole_eq q)).mono ?_; rintro e w7 ⟨rfl, hi, hb, _⟩; have HB5 := Aside0.mk hb; clear hi hb) | (go_at_call 23; refine (riffleref04_Is.calls 900 _ _ _ eI.out).mono ?_; rintro e w8 ⟨rfl, hb⟩; have HB6 := Aside0.mk (below_step HB5.out hb); clear hb))
        go_wp2_with fail
        go_ret
        exact ⟨by generalize fin q = b; cases b <;> rfl, HB6.out⟩
      · have g1 : st = 0 := Hst0.out hn
        have HI5 : Aside0 (IsS33 w w6 g (nx q c)) := ⟨by have := HI4.out; rw [if_neg hn] at this; exact this⟩
        have HR2 : Aside0 (run 0 ((L s).take (i + 1)) = some (nx q c)) := ⟨by have := HN.out; rw [if_neg hn] at this; exact this⟩
        have e1 : ((i : Int) + 1).toNat = i + 1 := by omega
        have eI : Aside0 (riffleref04_Is.f 900 (s.extract 0 (i + 1)) = some (fin (nx q c))) := ⟨by rw [Is_eq _ _ (by rw [size_take s (i + 1) (by have := S1.out; omega)]; have := S1.out; omega), take_L, isN_run, HR2.out]⟩
        have i1 : (0 : Int) ≤ (i : Int) + 1 := by omega
        have i2 : (i : Int) + 1 ≤ (s.size : Int) := by omega
        have i3 : wrap64 ((i : Int) + 1) = (i : Int) + 1 := by have := S1.out; unfold wrap64; omega
        have i7 : IntKind.i64.wrap ((i : Int) + 1) = (i : Int) + 1 := IntWalk.i64_in _ (by omega)
        have i4 : i + 1 ≤ s.size := by omega
        have i4t := eq_true i4
        have i2t := eq_true i2
        have i1t := eq_true i1
        have i5 : ¬ (s.size : Int) < (i : Int) + 1 := by omega
        have i6 : ¬ s.size < i + 1 := by omega
        subst g1
        generalize nx q c = p at *
        have eW : Aside0 (numeral_Walk_Whole.f p = some (fin p, p)) := ⟨whole_eq p⟩
        generalize fin p = b at *
        have nb : (b != b) = false := by simp
        clear hn HI4
        go_wp2_with fail
        go_region_with (first | (go_at_call 20; refine (numeral_Walk_Whole.calls g p b p w _ (IsS33.drew HI5.out) (below_drew HB4.out) eW.out).mono ?_; rintro e w7 ⟨rfl, hi, hb, _⟩; have HB5 := Aside0.mk hb; have HI6 := Aside0.mk hi; clear hi hb) | (go_at_call 23; refine (riffleref04_Is.calls 900 _ _ _ eI.out).mono ?_; rintro e w8 ⟨rfl, hb⟩; have HB6 := Aside0.mk (below_step HB5.out hb); have HI7 := Aside0.mk (IsS33.below HI6.out hb); clear hb))
        go_wp2_with fail
        go_roundg d
        case measure => omega
        case rel => exact ⟨i + 1, p, by go_num, ⟨by have := HK.out; omega⟩, HR2, HI7, HB6⟩
end Go.Proofs.Ytjfoppmpiklfiab.WalkNumeralWalks
