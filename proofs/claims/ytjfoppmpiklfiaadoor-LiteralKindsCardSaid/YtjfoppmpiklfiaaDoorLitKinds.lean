/- The walk of LiteralKinds over the contracts of what it calls: it returns true. Conditions: none. -/
import Derived.Test.YtjfoppmpiklfiaaDoorLitK
import Derived.Deep.RegionWith
import Derived.Deep.DeepMust
import Derived.BigGuard
import Derived.BigQuiet
import Derived.Test.YtjfoppmpiklfiaaDoorListed
namespace Go.Proofs.YtjfoppmpiklfiaaDoor.Lit
open Go.RowKit Go.Proofs.YtjfoppmpiklfiaaDoorW.PrintWords Go.Proofs.YtjfoppmpiklfiaaDoorW.PrintLast Go.Proofs.YtjfoppmpiklfiaaDoorW.PrintMore Go.Proofs.YtjfoppmpiklfiaaDoor.PLiteralKinds

def runK (s : ByteArray) : Nat → Nat × Nat × Bool
  | 0 => (0, 0, false)
  | i + 1 =>
    let q := runK s i
    let r := stepF q.1 q.2.1 (bt s i)
    (r.2.1, r.2.2, decide (r.1 = 1) && decide ((word r.2.1).extract 0 r.2.2 = s.extract 0 (i + 1)))
theorem stepF_ok (a i : Nat) (c : Int) (ha : a < 3) (hi : i ≤ (word a).size) : (stepF a i c).2.1 < 3 ∧ (stepF a i c).2.2 ≤ (word (stepF a i c).2.1).size ∧ ((stepF a i c).1 = 1 → (stepF a i c).2.2 = (word (stepF a i c).2.1).size) := by
  unfold stepF
  repeat' split
  all_goals (refine ⟨?_, ?_, ?_⟩ <;> first | omega | (simp; done) | (simp [word]; done) | (simp; omega) | decide | skip)
theorem stepF_vals (a i : Nat) (c : Int) : (stepF a i c).1 = 0 ∨ (stepF a i c).1 = 1 ∨ (stepF a i c).1 = 2 := by
  unfold stepF
  repeat' split
  all_goals simp
theorem run_ok (s : ByteArray) (i : Nat) : (runK s i).1 < 3 ∧ (runK s i).2.1 ≤ (word (runK s i).1).size := by
  induction i with
  | zero => exact ⟨Nat.zero_lt_succ _, Nat.zero_le _⟩
  | succ i ih => exact ⟨(stepF_ok _ _ _ ih.1 ih.2).1, (stepF_ok _ _ _ ih.1 ih.2).2.1⟩
theorem word_iff (s : ByteArray) (l : List UInt8) : s.toList = l ↔ s = ⟨l.toArray⟩ := by
  rw [ByteArray.toList_eq]
  constructor
  · intro h
    cases s with
    | mk d => cases d with
      | mk x => simp at h; rw [h]
  · rintro rfl; rfl
theorem beq_dec (x y : ByteArray) : (x.toList == y.toList) = decide (x = y) := by
  by_cases h : x = y
  · subst h; simp
  · have h1 : ¬ x.toList = y.toList := fun e => h (by rw [word_iff] at e; rw [e, ByteArray.toList_eq])
    rw [decide_eq_false h, beq_eq_false_iff_ne.2 h1]
theorem kind_alt (s : ByteArray) : ∃ r1 r2, riffleref05_Kind.f s = some (r1, r2) ∧ r2 = decide (s = word 0 ∨ s = word 1 ∨ s = word 2) := by
  unfold riffleref05_Kind.f
  by_cases h2 : s.toList = [110, 117, 108, 108]
  · rw [if_pos h2]
    refine ⟨_, _, rfl, ?_⟩
    rw [decide_eq_true]
    exact .inr (.inr ((word_iff _ _).1 h2))
  rw [if_neg h2]
  by_cases h0 : s.toList = [116, 114, 117, 101]
  · rw [if_pos h0]
    refine ⟨_, _, rfl, ?_⟩
    rw [decide_eq_true]
    exact .inl ((word_iff _ _).1 h0)
  rw [if_neg h0]
  by_cases h1 : s.toList = [102, 97, 108, 115, 101]
  · rw [if_pos h1]
    refine ⟨_, _, rfl, ?_⟩
    rw [decide_eq_true]
    exact .inr (.inl ((word_iff _ _).1 h1))
  rw [if_neg h1]
  refine ⟨_, _, rfl, ?_⟩
  rw [decide_eq_false]
  rintro (h | h | h)
  · exact h0 ((word_iff _ _).2 h)
  · exact h1 ((word_iff _ _).2 h)
  · exact h2 ((word_iff _ _).2 h)
theorem done_law (s : ByteArray) (n : Nat) (hn : n = min s.size 9) : decide (s = word 0 ∨ s = word 1 ∨ s = word 2) = ((runK s n).2.2 && decide (s.size ≤ 5)) := by
  subst hn
  by_cases h : s = word 0 ∨ s = word 1 ∨ s = word 2
  · rw [decide_eq_true h]
    rcases h with rfl | rfl | rfl
    · decide
    · decide
    · decide
  · rw [decide_eq_false h]
    by_cases h5 : s.size ≤ 5
    · rw [show min s.size 9 = s.size by omega]
      cases hz : s.size with
      | zero => rfl
      | succ m =>
        have hk := run_ok s m
        have hq := stepF_ok (runK s m).1 (runK s m).2.1 (bt s m) hk.1 hk.2
        simp only [runK]
        by_cases h1 : (stepF (runK s m).1 (runK s m).2.1 (bt s m)).1 = 1
        · have h2 := hq.2.2 h1
          rw [h2, ByteArray.extract_zero_size, ← hz, ByteArray.extract_zero_size]
          have h3 : ¬ word (stepF (runK s m).1 (runK s m).2.1 (bt s m)).2.1 = s := by
            intro e
            apply h
            generalize (stepF (runK s m).1 (runK s m).2.1 (bt s m)).2.1 = x at e hq
            match x, hq.1 with
            | 0, _ => exact .inl e.symm
            | 1, _ => exact .inr (.inl e.symm)
            | 2, _ => exact .inr (.inr e.symm)
          simp [h3]
        · simp [h1]
    · simp [h5]

set_option maxHeartbeats 4000000 in
theorem walk (s : ByteArray) (w : World) (hT : Tab w) : Calls Tryd.prog 4 #[.string s] w fun e w' => e = .returned (.bool true) ∧ Below w.heap.size w w' := by
  obtain ⟨r1, r2, hk, hr2⟩ := kind_alt s
  have HK := Aside0.mk hk
  have HT := Aside0.mk hT
  have HR := Aside0.mk hr2
  clear hT hk hr2
  go_enter Tryd.func4, Tryd.ntmps4
  go_wp2_with fail
  refine (alive_calls w HT.out).mono ?_
  rintro e w1 ⟨rfl, hb⟩
  have HB1 := Aside0.mk hb
  clear hb
  go_wp2_with fail
  refine (Kind_calls s r1 r2 w w1 HT.out HB1.out HK.out).mono ?_
  rintro e w2 ⟨rfl, hb⟩
  have HB2 := Aside0.mk hb
  clear hb HB1
  go_wp2_with fail
  refine (riffleref05_Kind.calls s r1 r2 w2 HK.out).mono ?_
  rintro e w3 ⟨rfl, hb⟩
  have HB3 : Aside0 (Below w.heap.size w w3) := ⟨below_step HB2.out hb.below⟩
  clear hb HB2
  go_wp2_with fail
  generalize hg : World.alloc w3 _ = w4
  have HB4 : Aside0 (Below w.heap.size w w4) := ⟨by subst hg; exact below_alloc HB3.out _⟩
  have HI4 : Aside0 (IsW w w4 w3.heap.size 0 0) := ⟨by subst hg; exact ⟨blk_new _ _, HB3.out.size⟩⟩
  clear hg HB3
  generalize w3.heap.size = g at *
  go_loopg [8, 9] (min s.size 9) (fun kq v8 v9 w' => ∃ i : Nat, v8 = .bool (runK s i).2.2 ∧ v9 = .int .i64 i ∧ Aside0 (i + kq = min s.size 9) ∧ Aside0 (IsW w w' g (runK s i).1 (runK s i).2.1) ∧ Aside0 (Below w.heap.size w w'))
  case atStart => exact ⟨0, rfl, rfl, ⟨by omega⟩, HI4, HB4⟩
  case round =>
    clear HI4 HB4
    obtain ⟨i, rfl, rfl, HN, HI, HB⟩ := hrel
    have hn := HN.out
    cases gk with
    | zero =>
      have HD : Aside0 (r2 = ((runK s i).2.2 && decide (s.size ≤ 5))) := ⟨by rw [HR.out]; exact done_law s i (by omega)⟩
      have c0 : (decide ((i : Int) < (s.size : Int)) && decide ((i : Int) < 9)) = false := by simp; omega
      by_cases c1 : i < s.size
      · have e1 : decide ((i : Int) < (s.size : Int)) = true := by simp; omega
        have e2 : decide ((i : Int) < 9) = false := by simp; omega
        have e1n : decide (i < s.size) = true := by simp; omega
        have e2n : decide (i < 9) = false := by simp; omega
        clear hn c0 c1
        generalize (runK s i).2.2 = dn at HD ⊢
        cases dn
        · have HE : Aside0 (r2 = false) := ⟨by rw [HD.out]; rfl⟩
          obtain rfl := HE.out
          clear HE
          go_wp2_with fail
          go_ret
          exact ⟨rfl, HB.out⟩
        · have HE : Aside0 (r2 = decide ((s.size : Int) ≤ 5)) := ⟨by rw [HD.out]; simp; omega⟩
          obtain rfl := HE.out
          clear HE
          go_wp2_with fail
          go_ret
          exact ⟨by simp, HB.out⟩
      · have e1 : decide ((i : Int) < (s.size : Int)) = false := by simp; omega
        have e1n : decide (i < s.size) = false := by simp; omega
        clear hn c0 c1
        generalize (runK s i).2.2 = dn at HD ⊢
        cases dn
        · have HE : Aside0 (r2 = false) := ⟨by rw [HD.out]; rfl⟩
          obtain rfl := HE.out
          clear HE
          go_wp2_with fail
          go_ret
          exact ⟨rfl, HB.out⟩
        · have HE : Aside0 (r2 = decide ((s.size : Int) ≤ 5)) := ⟨by rw [HD.out]; simp; omega⟩
          obtain rfl := HE.out
          clear HE
          go_wp2_with fail
          go_ret
          exact ⟨by simp, HB.out⟩
    | succ d =>
      have e1 : decide ((i : Int) < (s.size : Int)) = true := by simp; omega
      have e2 : decide ((i : Int) < 9) = true := by simp; omega
      have e1n : decide (i < s.size) = true := by simp; omega
      have e2n : decide (i < 9) = true := by simp; omega
      have e3 : (0 : Int) ≤ (i : Int) := by omega
      have e4 : (i : Int) < (s.size : Int) := by omega
      have e5 : (i : Int) + 1 ≤ (s.size : Int) := by omega
      have e6 : i + 1 ≤ s.size := by omega
      have e7 := eq_true (show i < s.size by omega)
      have e8 : (0 : Int) ≤ (i : Int) + 1 := by omega
      have w1 : wrap64 ((i : Int) + 1) = (i : Int) + 1 := by unfold wrap64; omega
      have w2 : IntKind.i64.wrap ((i : Int) + 1) = (i : Int) + 1 := IntWalk.i64_in _ (by omega)
      have hx : ∀ h : i < s.size, ((s[i]'h).toNat : Int) = bt s i := bt_at s i
      clear hn
      by_cases h1 : (stepF (runK s i).1 (runK s i).2.1 (bt s i)).1 = 1
      · have HO := Aside0.mk (run_ok s i)
        have HQ := Aside0.mk (stepF_ok _ _ (bt s i) (run_ok s i).1 (run_ok s i).2)
        have HS : Aside0 (runK s (i + 1) = ((stepF (runK s i).1 (runK s i).2.1 (bt s i)).2.1, (stepF (runK s i).1 (runK s i).2.1 (bt s i)).2.2, decide ((word (stepF (runK s i).1 (runK s i).2.1 (bt s i)).2.1).extract 0 (stepF (runK s i).1 (runK s i).2.1 (bt s i)).2.2 = s.extract 0 (i + 1)))) := ⟨by simp only [runK]; rw [h1]; simp⟩
        have H1 := Aside0.mk h1
        have HST := fun w0 w' hT hI hB => Step_calls g (runK s i).1 (runK s i).2.1 (bt s i) w0 w' hT hI hB (run_ok s i).1 (run_ok s i).2
        have HST := Aside0.mk HST
        clear h1
        generalize (runK s i).2.2 = dn at *
        generalize (runK s i).1 = a at *
        generalize (runK s i).2.1 = p at *
        generalize stepF a p (bt s i) = q at *
        obtain ⟨q1, qa, qp⟩ := q
        obtain rfl : q1 = 1 := H1.out
        clear H1 HO
        go_wp2_with fail
        refine Listed.wp_region_listed (by kernel_rfl) (by kernel_rfl) ?_
        go_wp2_with fail
        refine (HST.out w _ HT.out (show IsW w wr.drew g a p from HI.out) (below_drew HB.out)).mono ?_
        rintro e w5 ⟨rfl, hi, hb⟩
        have HI5 := Aside0.mk hi
        have HB5 := Aside0.mk hb
        clear hi hb
        go_wp2_with fail
        refine (Word_calls g qa qp w w5 HT.out HI5.out HB5.out HQ.out.1 HQ.out.2.1).mono ?_
        rintro e w6 ⟨rfl, hi, hb⟩
        have HI6 := Aside0.mk hi
        have HB6 := Aside0.mk hb
        clear hi hb
        go_wp2_with fail
        refine Listed.fin_intro (by kernel_rfl) ?_
        go_wp2_with fail
        go_roundg d
        case measure => omega
        case rel =>
          refine ⟨i + 1, ?_, by go_num, ⟨by have := HN.out; omega⟩, ⟨by rw [HS.out]; exact HI6.out⟩, HB6⟩
          rw [HS.out]
          dsimp only
          rw [beq_dec]
      · have HQ := Aside0.mk (stepF_ok _ _ (bt s i) (run_ok s i).1 (run_ok s i).2)
        have HS : Aside0 (runK s (i + 1) = ((stepF (runK s i).1 (runK s i).2.1 (bt s i)).2.1, (stepF (runK s i).1 (runK s i).2.1 (bt s i)).2.2, false)) := ⟨by simp only [runK]; rw [decide_eq_false h1]; rfl⟩
        have HST := fun w0 w' hT hI hB => Step_calls g (runK s i).1 (runK s i).2.1 (bt s i) w0 w' hT hI hB (run_ok s i).1 (run_ok s i).2
        have HST := Aside0.mk HST
        have H1 : (stepF (runK s i).1 (runK s i).2.1 (bt s i)).1 = 0 ∨ (stepF (runK s i).1 (runK s i).2.1 (bt s i)).1 = 2 := by have := stepF_vals (runK s i).1 (runK s i).2.1 (bt s i); omega
        clear h1
        generalize (runK s i).2.2 = dn at *
        generalize (runK s i).1 = a at *
        generalize (runK s i).2.1 = p at *
        generalize stepF a p (bt s i) = q at *
        obtain ⟨q1, qa, qp⟩ := q
        have H1 : q1 = 0 ∨ q1 = 2 := H1
        obtain rfl | rfl := H1
        all_goals
          go_wp2_with fail
          refine Listed.wp_region_listed (by kernel_rfl) (by kernel_rfl) ?_
          go_wp2_with fail
          refine (HST.out w _ HT.out (show IsW w wr.drew g a p from HI.out) (below_drew HB.out)).mono ?_
          rintro e w5 ⟨rfl, hi, hb⟩
          have HI5 := Aside0.mk hi
          have HB5 := Aside0.mk hb
          clear hi hb
          go_wp2_with fail
          refine Listed.fin_intro (by kernel_rfl) ?_
          go_wp2_with fail
          go_roundg d
          case measure => omega
          case rel => exact ⟨i + 1, by rw [HS.out], by go_num, ⟨by have := HN.out; omega⟩, ⟨by rw [HS.out]; exact HI5.out⟩, HB5⟩
end Go.Proofs.YtjfoppmpiklfiaaDoor.Lit
