/- The walk of LiteralWalks over the contracts of what it calls: it returns true. Conditions: none. -/
import Derived.Test.YtjfoppmpiklfiaaDoorLitPure
import Derived.Test.YtjfoppmpiklfiaaDoorListed
namespace Go.Proofs.YtjfoppmpiklfiaaDoor.Lit
open Go.RowKit Go.Proofs.YtjfoppmpiklfiaaDoorW.PrintWords Go.Proofs.YtjfoppmpiklfiaaDoorW.PrintLast Go.Proofs.YtjfoppmpiklfiaaDoorW.PrintMore Go.Proofs.YtjfoppmpiklfiaaDoor.PLiteralWalks

theorem bt_nat (s : ByteArray) (i : Nat) : ∃ c : Nat, c < 256 ∧ bt s i = (c : Int) := by
  have h := bt_range s i
  exact ⟨(bt s i).toNat, by omega, by omega⟩
theorem cut_one (s : ByteArray) (i c : Nat) (hi : i < s.size) (hc : bt s i = (c : Int)) (_ : c < 256) : s.extract i (i + 1) = one c := by
  have h : ((s[i]'hi).toNat : Int) = bt s i := bt_at s i hi
  rw [hc] at h
  apply ByteArray.ext
  apply Array.ext
  · simp [one]; omega
  · intro j h1 h2
    simp [one] at h2
    subst h2
    simp [one]
    have : s[i].toNat = c := by omega
    rw [← this]
    simp
    rfl
theorem step_vals (a i : Nat) (c : Int) : (stepF a i c).1 = 0 ∨ (stepF a i c).1 = 1 ∨ (stepF a i c).1 = 2 := by
  unfold stepF
  repeat' split
  all_goals simp
/-- The states along a text. -/
def runL (s : ByteArray) : Nat → Nat × Nat
  | 0 => (0, 0)
  | i + 1 => (stepF (runL s i).1 (runL s i).2 (bt s i)).2
theorem runL_ok (s : ByteArray) (i : Nat) : (runL s i).1 < 3 ∧ (runL s i).2 ≤ (word (runL s i).1).size := by
  induction i with
  | zero => exact ⟨Nat.zero_lt_succ _, Nat.zero_le _⟩
  | succ i ih =>
    simp only [runL]
    generalize runL s i = q at *
    obtain ⟨a, p⟩ := q
    dsimp only at ih ⊢
    unfold stepF
    repeat' split
    all_goals (refine ⟨?_, ?_⟩ <;> first | omega | (simp; done) | (simp [word]; done) | (simp; omega) | decide | skip)

set_option maxHeartbeats 4000000 in
theorem walkL (s : ByteArray) (w : World) (hT : Tab w) : Calls Tryd.prog 3 #[.string s] w fun e w' => e = .returned (.bool true) ∧ Below w.heap.size w w' := by
  have HT := Aside0.mk hT
  clear hT
  go_enter Tryd.func3, Tryd.ntmps3
  go_wp2_with fail
  refine (alive_calls w HT.out).mono ?_
  rintro e w1 ⟨rfl, hb⟩
  have HB1 := Aside0.mk hb
  clear hb
  by_cases hbig : (100 : Int) < (s.size : Int)
  · go_wp2_with fail
    go_ret
    exact ⟨rfl, HB1.out⟩
  have z1 : decide ((100 : Int) < (s.size : Int)) = false := decide_eq_false hbig
  have hs : Aside0 (s.size ≤ 100) := ⟨by omega⟩
  clear hbig
  go_wp2_with fail
  generalize hg : World.alloc w1 _ = w4
  have HB4 : Aside0 (Below w.heap.size w w4) := ⟨by subst hg; exact below_alloc HB1.out _⟩
  have HI4 : Aside0 (IsW w w4 w1.heap.size 0 0) := ⟨by subst hg; exact ⟨blk_new _ _, HB1.out.size⟩⟩
  clear hg HB1
  generalize w1.heap.size = g at *
  go_loopg [4, 5] s.size (fun kq v4 v5 w' => ∃ i : Nat, v4 = .string (txt (runL s i).1 (runL s i).2) ∧ v5 = .int .i64 i ∧ Aside0 (i + kq = s.size) ∧ Aside0 (IsW w w' g (runL s i).1 (runL s i).2) ∧ Aside0 (Below w.heap.size w w'))
  case atStart => exact ⟨0, rfl, rfl, ⟨by omega⟩, HI4, HB4⟩
  case round =>
    clear HI4 HB4
    obtain ⟨i, rfl, rfl, HN, HI, HB⟩ := hrel
    have hn := HN.out
    have hsz := hs.out
    cases gk with
    | zero =>
      have e1 : decide ((i : Int) < (s.size : Int)) = false := by simp; omega
      have e1n : decide (i < s.size) = false := by simp; omega
      clear hn hsz
      go_wp2_with fail
      go_ret
      exact ⟨rfl, HB.out⟩
    | succ d =>
      have e1 : decide ((i : Int) < (s.size : Int)) = true := by simp; omega
      have e1n : decide (i < s.size) = true := by simp; omega
      have e3 : (0 : Int) ≤ (i : Int) := by omega
      have e4 : (i : Int) < (s.size : Int) := by omega
      have e5 : (i : Int) + 1 ≤ (s.size : Int) := by omega
      have e6 : i + 1 ≤ s.size := by omega
      have e7 := eq_true (show i < s.size by omega)
      have e8 : (0 : Int) ≤ (i : Int) + 1 := by omega
      have e9 : (i : Int) ≤ (i : Int) + 1 := by omega
      have wr1 : wrap64 ((i : Int) + 1) = (i : Int) + 1 := by unfold wrap64; omega
      have wr2 : IntKind.i64.wrap ((i : Int) + 1) = (i : Int) + 1 := IntWalk.i64_in _ (by omega)
      have hx : ∀ h : i < s.size, ((s[i]'h).toNat : Int) = bt s i := bt_at s i
      obtain ⟨c, hc, hbt⟩ := bt_nat s i
      have hcut := cut_one s i c (by omega) hbt hc
      have hok := runL_ok s i
      have hw6 := word_size _ hok.1
      have HR := Aside0.mk (ref_all _ hok.1 _ (by omega) hok.2 c hc)
      have HX := Aside0.mk (next_all _ hok.1 _ (by omega) hok.2 c hc)
      have HY := Aside0.mk (stay_all _ hok.1 _ (by omega) hok.2 c hc)
      have HQ : Aside0 ((runL s (i + 1)) = (stepF (runL s i).1 (runL s i).2 (c : Nat)).2) := ⟨by simp only [runL]; rw [hbt]⟩
      have HOK1 := Aside0.mk (runL_ok s (i + 1))
      have HST := fun w0 w' hT hI hB => Step_calls g (runL s i).1 (runL s i).2 (c : Nat) w0 w' hT hI hB hok.1 hok.2
      have HST := Aside0.mk HST
      have HV := step_vals (runL s i).1 (runL s i).2 (c : Nat)
      have hts : (txt (runL s i).1 (runL s i).2).size ≤ 5 := by unfold txt; rw [ByteArray.size_extract]; omega
      rw [hbt] at hx
      have HCUT := Aside0.mk hcut
      clear hn hok hw6 hcut hbt hsz
      generalize hq1 : runL s (i + 1) = q1 at *
      have HQ1 := Aside0.mk hq1
      clear hq1
      generalize runL s i = q at *
      obtain ⟨a, p⟩ := q
      dsimp only at *
      generalize hst : stepF a p (c : Nat) = st at *
      clear hst
      obtain ⟨r, q'⟩ := st
      dsimp only at *
      obtain rfl := HQ.out
      obtain ⟨a', p'⟩ := q1
      dsimp only at *
      have hone : (one c).size = 1 := rfl
      by_cases hr2 : r = 2
      · have HY2 := Aside0.mk (HY.out hr2)
        have HR2 : Aside0 (riffleref05_Step.f 9 (txt a p) (c : Nat) = some 2) := ⟨by rw [HR.out, hr2]⟩
        subst hr2
        clear HV hts HX hone
        go_wp2_with fail
        refine (riffleref05_Step.calls 9 (txt a p) (c : Nat) 2 _ HR2.out).mono ?_
        rintro e w5 ⟨rfl, hb⟩
        have HB5 := Aside0.mk (below_step HB.out hb)
        have HI5 := Aside0.mk (IsW.below HI.out hb)
        clear hb
        go_wp2_with fail
        refine (HST.out w _ HT.out HI5.out HB5.out).mono ?_
        rintro e w6 ⟨rfl, hi, hb⟩
        have HB6 := Aside0.mk hb
        have HI6 : Aside0 (IsW w w6 g a' p') := ⟨hi⟩
        clear hb hi
        go_wp2_with fail
        refine (Word_calls g a' p' w w6 HT.out HI6.out HB6.out HOK1.out.1 HOK1.out.2).mono ?_
        rintro e w7 ⟨rfl, hi, hb⟩
        have HB7 := Aside0.mk hb
        have HI7 := Aside0.mk hi
        clear hb hi
        have t1 : (((word a').extract 0 p').toList == (txt a p).toList) = true := by rw [← HY2.out]; exact beq_self_eq_true _
        have t2 : (((word a').extract 0 p').toList != (txt a p).toList) = false := by rw [bne, t1]; rfl
        go_wp2_with fail
        go_roundg d
        case measure => omega
        case rel => exact ⟨i + 1, by rw [HQ1.out, ← HY2.out], by go_num, ⟨by have := HN.out; omega⟩, ⟨by rw [HQ1.out]; exact HI7.out⟩, HB7⟩
      · have HX2 := Aside0.mk (HX.out hr2)
        have c3b0 := eq_true (show (txt a p).size + (one c).size ≤ 9223372036854775807 by omega)
        have c3b2 : (9223372036854775807 < (txt a p).size + (one c).size) = False := eq_false (by omega)
        have k1 : (r == 2) = false := by simp [hr2]
        have k2 : (r != 2) = true := by simp [hr2]
        have k3 : decide (r = 2) = false := by simp [hr2]
        clear HV hts HY hone hr2
        have t1 : (((word a').extract 0 p').toList == (txt a p ++ one c).toList) = true := by rw [← HX2.out]; exact beq_self_eq_true _
        have t2 : (((word a').extract 0 p').toList != (txt a p ++ one c).toList) = false := by rw [bne, t1]; rfl
        have t3 := HCUT.out
        go_wp2_with fail
        refine (riffleref05_Step.calls 9 (txt a p) (c : Nat) r _ HR.out).mono ?_
        rintro e w5 ⟨rfl, hb⟩
        have HB5 := Aside0.mk (below_step HB.out hb)
        have HI5 := Aside0.mk (IsW.below HI.out hb)
        clear hb
        go_wp2_with fail
        refine (HST.out w _ HT.out HI5.out HB5.out).mono ?_
        rintro e w6 ⟨rfl, hi, hb⟩
        have HB6 := Aside0.mk hb
        have HI6 : Aside0 (IsW w w6 g a' p') := ⟨hi⟩
        clear hb hi
        go_wp2_with fail
        refine (Word_calls g a' p' w w6 HT.out HI6.out HB6.out HOK1.out.1 HOK1.out.2).mono ?_
        rintro e w7 ⟨rfl, hi, hb⟩
        have HB7 := Aside0.mk hb
        have HI7 := Aside0.mk hi
        clear hb hi
        go_wp2_with fail
        go_roundg d
        case measure => omega
        case rel => exact ⟨i + 1, by rw [HQ1.out, HX2.out], by go_num, ⟨by have := HN.out; omega⟩, ⟨by rw [HQ1.out]; exact HI7.out⟩, HB7⟩
end Go.Proofs.YtjfoppmpiklfiaaDoor.Lit
