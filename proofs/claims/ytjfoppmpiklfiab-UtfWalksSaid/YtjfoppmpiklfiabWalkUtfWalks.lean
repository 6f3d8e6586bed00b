/- The walk of the law UtfWalks over the contracts of what it calls. Conditions: none. -/
import Derived.Test.YtjfoppmpiklfiabLinkUtfWalks
import Derived.StillTailTactics
import Derived.IntWalk
namespace Go.Proofs.Ytjfoppmpiklfiab.WalkUtfWalks
open Go.RowKit Go.Proofs.Ytjfoppmpiklfiab.PUtfWalks Go.Proofs.YtjfoppmpiklfiabW.PrintWords Go.Proofs.YtjfoppmpiklfiabW.PrintLast Go.Proofs.YtjfoppmpiklfiabW.PrintMore
open Go.Proofs.Ytjfoppmpiklfiab.LinkUtfWalks
open Go.Proofs.Ytjfoppmpiklfiab.Num (L L_len)
attribute [local go_sem] max2_int min2_int max_two min_two max_three min_three max_four min_four
set_option linter.unusedVariables false
set_option linter.unusedSimpArgs false
set_option maxRecDepth 100000 in
theorem alive_so : rifflelaw02_utfAlive.f 900 = some true := by decide +kernel
theorem within_eq (l lo hi sg : Int) (b : Bool) (h : decide (l > 0) = b) : utf_Walk_Within.f l lo hi sg = some (b, l, lo, hi, sg) := by unfold utf_Walk_Within.f; rw [h]
theorem sign_eq (l lo hi sg : Int) : utf_Walk_Sign.f l lo hi sg = some (if l > 0 then 0 else sg, l, lo, hi, sg) := by unfold utf_Walk_Sign.f; split <;> rfl
theorem inv_ge {p : List Int} {l lo hi : Int} (h : Inv p l lo hi) : 0 ≤ l := by
  cases h with
  | none => omega
  | one => repeat' split
           all_goals omega
  | two => split <;> omega
  | three => omega
theorem whole_range {l : List Int} {n : Int} (hl : ∀ c ∈ l, 0 ≤ c ∧ c < 256) (h : beg l = (true, true, n)) : 0 ≤ n ∧ n < 1114112 := by
  have hn := beg_whole h
  cases l with
  | nil => simp [beg] at h
  | cons c r =>
    have hc := hl c (by simp)
    simp only [beg] at h
    split at h
    · simp [F] at h
    · rename_i hz
      unfold begN at h
      split at h
      · rename_i hall
        simp only [List.drop_succ_cons, List.drop_zero] at hall
        unfold judge at h
        split at h
        · simp [F] at h
        · rename_i hj
          split at h
          · rename_i hm
            simp only [Prod.mk.injEq, true_and] at h
            have hsz := sz_range c
            simp only [List.length_cons] at hm hz
            refine ⟨?_, by omega⟩
            rw [hn]
            match r, hm, hall with
            | [], hm, hall => exact hc.1
            | [b], hm, hall =>
              simp [ct] at hall
              simp only [List.length_cons, List.length_nil] at hm
              have : sz c = 2 := by omega
              have h2 : 192 ≤ c := by unfold sz at this; repeat' split at this
                                      all_goals omega
              simp only [nm]; omega
            | [b, d], hm, hall =>
              simp [ct] at hall
              simp only [List.length_cons, List.length_nil] at hm
              have : sz c = 3 := by omega
              have h2 : 224 ≤ c := by unfold sz at this; repeat' split at this
                                      all_goals omega
              simp only [nm]; omega
            | [b, d, e], hm, hall =>
              simp [ct] at hall
              simp only [List.length_cons, List.length_nil] at hm
              have : sz c = 4 := by omega
              have h2 : 240 ≤ c := by unfold sz at this; repeat' split at this
                                      all_goals omega
              simp only [nm]; omega
            | b :: d :: e :: f :: q, hm, hall => simp only [List.length_cons] at hm; omega
          · simp at h
      · simp [F] at h
set_option maxHeartbeats 4000000 in
set_option maxRecDepth 100000 in
theorem walk (s : ByteArray) (_ : s.size ≤ 140737488351232) (w : World) : Calls Try.prog 5 #[.string s] w fun e w' => e = .returned (.bool true) ∧ Below w.heap.size w w' := by
  go_enter Try.func5, Try.ntmps5
  go_wp2_with fail
  refine (rifflelaw02_utfAlive.calls 900 true _ alive_so).mono ?_
  rintro e w1 ⟨rfl, hb⟩
  have HB1 := Aside0.mk hb
  clear hb
  by_cases hbig : (1000 : Int) < (s.size : Int)
  · go_wp2_with fail
    go_ret
    exact ⟨rfl, HB1.out⟩
  have z1 : decide ((1000 : Int) < (s.size : Int)) = false := decide_eq_false hbig
  have hs : Aside0 (s.size ≤ 1000) := ⟨by omega⟩
  clear hbig
  go_wp2_with fail
  generalize hg : World.alloc w1 _ = w2
  have HI : Aside0 (IsS27 w w2 w1.heap.size 0 0 0 0) := ⟨by subst hg; exact ⟨blk_new _ _, HB1.out.size⟩⟩
  have HB : Aside0 (Below w.heap.size w w2) := ⟨by subst hg; exact below_alloc HB1.out _⟩
  clear hg HB1
  generalize w1.heap.size = g at *
  go_loopg [4, 5, 6] s.size (fun kq v4 v5 v6 w' => ∃ (a i : Nat) (last l lo hi sg : Int), v4 = .int .i64 a ∧ v5 = .int .i64 last ∧ v6 = .int .i64 i ∧ Aside0 (i + kq = s.size ∧ a ≤ i ∧ 0 ≤ last ∧ last < 1114112) ∧ Aside0 (Inv (((L s).take i).drop a) l lo hi) ∧ Aside0 ((l = 0 → sg = last) ∧ (l ≠ 0 → sg = sv (((L s).take i).drop a))) ∧ Aside0 (IsS27 w w' g l lo hi sg) ∧ Aside0 (Below w.heap.size w w'))
  case atStart => exact ⟨0, 0, 0, 0, 0, 0, 0, rfl, rfl, rfl, ⟨by omega⟩, ⟨Inv.none 0 0⟩, ⟨fun _ => rfl, fun h => absurd rfl h⟩, HI, HB⟩
  case round =>
    clear HI HB
    obtain ⟨a, i, last, l, lo, hi, sg, rfl, rfl, rfl, HK, HV, HS, HI, HB⟩ := hrel
    have hsz := hs.out
    obtain ⟨hk, ha, hl0, hl1⟩ := HK.out
    cases gk with
    | zero =>
      have c1 : decide ((i : Int) < (s.size : Int)) = false := by simp; omega
      have c1n : decide (i < s.size) = false := by simp; omega
      clear hsz hk ha hl0 hl1
      go_wp2_with fail
      go_ret
      exact ⟨rfl, HB.out⟩
    | succ d =>
      have c1 : decide ((i : Int) < (s.size : Int)) = true := by simp; omega
      have c1n : decide (i < s.size) = true := by simp; omega
      have i7 : IntKind.i64.wrap ((i : Int) + 1) = (i : Int) + 1 := IntWalk.i64_in _ (by omega)
      have i3 : wrap64 ((i : Int) + 1) = (i : Int) + 1 := by unfold wrap64; omega
      have i1 : (0 : Int) ≤ (i : Int) + 1 := by omega
      have i2 : (i : Int) + 1 ≤ (s.size : Int) := by omega
      have a1 : (0 : Int) ≤ (a : Int) := by omega
      have a2 : (a : Int) ≤ (i : Int) + 1 := by omega
      have a2n : a ≤ i + 1 := by omega
      have i4 : i + 1 ≤ s.size := by omega
      have c2 : (0 : Int) ≤ (i : Int) := by omega
      have c4 : (i : Int) < (s.size : Int) := by omega
      have q5 : i < s.size := by omega
      have q5t := eq_true q5
      have hx : ∀ h : i < s.size, ((s[i]'h).toNat : Int) = bt s i := bt_at s i
      have hb := bt_ok s i
      have hr := range_snoc s a i q5 ha
      have eB : Aside0 (riffleref02_Begins.f 900 (s.extract a (i + 1)) = some (beg (((L s).take i).drop a ++ [bt s i]))) := ⟨by rw [begins_eq 900 (by omega), range_L, hr]⟩
      obtain ⟨x, hx1, hg⟩ := step_inv 900 (by omega) HV.out sg (bt s i) hb.1 hb.2
      have hsa := sign_after HV.out (bt s i) x.2.1 hb.1
      have hsg := step_sg 900 HV.out sg (bt s i) hb.1 hb.2 HS.out.2 x hx1
      have Hr := Aside0.mk hr
      have HC := Aside0.mk hb
      generalize hc : bt s i = c at *
      have HE := Aside0.mk hx1
      have HG := Aside0.mk hg
      have HSA := Aside0.mk hsa
      have HSG := Aside0.mk hsg
      clear hsz hk ha hl0 hl1 hc hx1 hg hsa hsg hr hb
      obtain ⟨b0, l', lo', hi', sg'⟩ := x
      rcases HG.out with ⟨g1, g2, g3⟩ | ⟨g1, g2, n, g3⟩ | ⟨g1, g2, g3, g4⟩
      · -- refused
        obtain rfl : b0 = false := g1
        simp only [Prod.mk.injEq] at g3
        obtain ⟨rfl, rfl, rfl, rfl⟩ := g3
        have eB2 : Aside0 (riffleref02_Begins.f 900 (s.extract a (i + 1)) = some (false, false, 0)) := ⟨by rw [eB.out, g2]; rfl⟩
        clear g2
        have hlen := inv_len HV.out
        have hne : ((L s).take i).drop a ≠ [] ↔ a < i := by
          have := HK.out
          rw [ne_eq, List.drop_eq_nil_iff, List.length_take, L_len]; omega
        go_wp2_with fail
        refine (riffleref02_Begins.calls 900 _ false false 0 _ eB2.out).mono ?_
        rintro e w3 ⟨rfl, hb⟩
        have HB3 := Aside0.mk (below_step HB.out hb)
        have HI3 := Aside0.mk (IsS27.below HI.out hb)
        clear hb HB HI
        go_wp2_with fail
        refine (utf_Walk_Step.calls 900 g l' lo' hi' sg' c false l' lo' hi' sg' w _ HI3.out HB3.out HE.out).mono ?_
        rintro e w4 ⟨rfl, hi, hb, _⟩
        have HB4 := Aside0.mk hb
        have HI4 := Aside0.mk hi
        clear hb hi HB3 HI3
        by_cases hl : l' > 0
        · have hai : a < i := hne.1 (hlen.1 hl)
          have d1 : decide ((a : Int) < (i : Int)) = true := by simp; omega
          have d2 : decide (a < i) = true := by simp; omega
          have eW : Aside0 (utf_Walk_Within.f l' lo' hi' sg' = some (true, l', lo', hi', sg')) := ⟨within_eq _ _ _ _ _ (by simpa using hl)⟩
          clear hl hai hlen hne
          go_wp2_with fail
          refine (utf_Walk_Within.calls g l' lo' hi' sg' true _ _ _ _ w _ HI4.out HB4.out eW.out).mono ?_
          rintro e w5 ⟨rfl, hi, hb, _⟩
          have HB5 := Aside0.mk hb
          clear hb hi HB4 HI4
          go_wp2_with fail
          go_ret
          exact ⟨rfl, HB5.out⟩
        · have hai : ¬ a < i := fun e => hl (hlen.2 (hne.2 e))
          have d1 : decide ((a : Int) < (i : Int)) = false := by simp; omega
          have d2 : decide (a < i) = false := by simp; omega
          have hl0 : l' = 0 := by have := inv_ge HV.out; omega
          have eW : Aside0 (utf_Walk_Within.f l' lo' hi' sg' = some (false, l', lo', hi', sg')) := ⟨within_eq _ _ _ _ _ (by simpa using hl)⟩
          have eS : Aside0 (utf_Walk_Sign.f l' lo' hi' sg' = some (last, l', lo', hi', sg')) := ⟨by rw [sign_eq, if_neg hl, HS.out.1 hl0]⟩
          have w1 : wrap32 last = last := by have := HK.out; unfold wrap32; omega
          have w2 : IntKind.i32.wrap last = last := by have := HK.out; rw [IntKind.wrap_i32]; omega
          clear hl hai hlen hne hl0
          go_wp2_with fail
          refine (utf_Walk_Within.calls g l' lo' hi' sg' false _ _ _ _ w _ HI4.out HB4.out eW.out).mono ?_
          rintro e w5 ⟨rfl, hi, hb, _⟩
          have HB5 := Aside0.mk hb
          have HI5 := Aside0.mk hi
          clear hb hi HB4 HI4
          go_wp2_with fail
          refine (utf_Walk_Sign.calls g l' lo' hi' sg' last _ _ _ _ w _ HI5.out HB5.out eS.out).mono ?_
          rintro e w6 ⟨rfl, hi, hb, _⟩
          have HB6 := Aside0.mk hb
          clear hb hi HB5 HI5
          go_wp2_with fail
          go_ret
          exact ⟨by first | rfl | simp, HB6.out⟩
      · -- a sign has ended
        obtain rfl : b0 = true := g1
        obtain rfl : l' = 0 := g2
        have hsn : sg' = n := (HSG.out rfl).trans (HSA.out.1 n g3)
        subst hsn
        have hrng : 0 ≤ sg' ∧ sg' < 1114112 := by
          refine whole_range (fun c' hc' => ?_) g3
          rw [List.mem_append] at hc'
          rcases hc' with hc' | hc'
          · exact Num.L_range s c' (List.mem_of_mem_take (List.mem_of_mem_drop hc'))
          · simp only [List.mem_singleton] at hc'
            have := HC.out; rw [hc']; exact this
        have eB2 : Aside0 (riffleref02_Begins.f 900 (s.extract a (i + 1)) = some (true, true, sg')) := ⟨by rw [eB.out, g3]⟩
        have eW : Aside0 (utf_Walk_Within.f 0 lo' hi' sg' = some (false, 0, lo', hi', sg')) := ⟨within_eq _ _ _ _ _ rfl⟩
        have eS : Aside0 (utf_Walk_Sign.f 0 lo' hi' sg' = some (sg', 0, lo', hi', sg')) := ⟨by rw [sign_eq, if_neg (by omega)]⟩
        have w1 : wrap32 sg' = sg' := by unfold wrap32; omega
        have w2 : IntKind.i32.wrap sg' = sg' := by rw [IntKind.wrap_i32]; omega
        have HRG := Aside0.mk hrng
        clear g3 hrng
        go_wp2_with fail
        refine (riffleref02_Begins.calls 900 _ true true sg' _ eB2.out).mono ?_
        rintro e w3 ⟨rfl, hb⟩
        have HB3 := Aside0.mk (below_step HB.out hb)
        have HI3 := Aside0.mk (IsS27.below HI.out hb)
        clear hb HB HI
        go_wp2_with fail
        refine (utf_Walk_Step.calls 900 g l lo hi sg c true 0 lo' hi' sg' w _ HI3.out HB3.out HE.out).mono ?_
        rintro e w4 ⟨rfl, hi1, hb, _⟩
        have HB4 := Aside0.mk hb
        have HI4 := Aside0.mk hi1
        clear hb hi1 HB3 HI3
        go_wp2_with fail
        refine (utf_Walk_Within.calls g 0 lo' hi' sg' false _ _ _ _ w _ HI4.out HB4.out eW.out).mono ?_
        rintro e w5 ⟨rfl, hi1, hb, _⟩
        have HB5 := Aside0.mk hb
        have HI5 := Aside0.mk hi1
        clear hb hi1 HB4 HI4
        go_wp2_with fail
        refine (utf_Walk_Sign.calls g 0 lo' hi' sg' sg' _ _ _ _ w _ HI5.out HB5.out eS.out).mono ?_
        rintro e w6 ⟨rfl, hi1, hb, _⟩
        have HB6 := Aside0.mk hb
        have HI6 := Aside0.mk hi1
        clear hb hi1 HB5 HI5
        go_wp2_with fail
        go_roundg d
        case measure => omega
        case rel =>
          refine ⟨i + 1, i + 1, sg', 0, lo', hi', sg', by go_num, rfl, by go_num, ⟨by have := HK.out; have := HRG.out; omega⟩, ⟨?_⟩, ⟨fun _ => rfl, fun h => absurd rfl h⟩, HI6, HB6⟩
          rw [List.drop_eq_nil_of_le (by rw [List.length_take]; omega)]
          exact Inv.none _ _
      · -- a sign goes on
        obtain rfl : b0 = true := g1
        have hsn : sg' = sv (((L s).take i).drop a ++ [c]) := (HSG.out rfl).trans (HSA.out.2 lo' hi' g2 g4)
        have eB2 : Aside0 (riffleref02_Begins.f 900 (s.extract a (i + 1)) = some (true, false, 0)) := ⟨by rw [eB.out, g3]⟩
        have eW : Aside0 (utf_Walk_Within.f l' lo' hi' sg' = some (true, l', lo', hi', sg')) := ⟨within_eq _ _ _ _ _ (by simpa using g2)⟩
        have eS : Aside0 (utf_Walk_Sign.f l' lo' hi' sg' = some (0, l', lo', hi', sg')) := ⟨by rw [sign_eq, if_pos g2]⟩
        have HSN := Aside0.mk hsn
        have HV2 := Aside0.mk g4
        have HL2 : Aside0 (0 < l') := ⟨g2⟩
        clear g3 hsn g2 g4
        go_wp2_with fail
        refine (riffleref02_Begins.calls 900 _ true false 0 _ eB2.out).mono ?_
        rintro e w3 ⟨rfl, hb⟩
        have HB3 := Aside0.mk (below_step HB.out hb)
        have HI3 := Aside0.mk (IsS27.below HI.out hb)
        clear hb HB HI
        go_wp2_with fail
        refine (utf_Walk_Step.calls 900 g l lo hi sg c true l' lo' hi' sg' w _ HI3.out HB3.out HE.out).mono ?_
        rintro e w4 ⟨rfl, hi1, hb, _⟩
        have HB4 := Aside0.mk hb
        have HI4 := Aside0.mk hi1
        clear hb hi1 HB3 HI3
        go_wp2_with fail
        refine (utf_Walk_Within.calls g l' lo' hi' sg' true _ _ _ _ w _ HI4.out HB4.out eW.out).mono ?_
        rintro e w5 ⟨rfl, hi1, hb, _⟩
        have HB5 := Aside0.mk hb
        have HI5 := Aside0.mk hi1
        clear hb hi1 HB4 HI4
        go_wp2_with fail
        refine (utf_Walk_Sign.calls g l' lo' hi' sg' 0 _ _ _ _ w _ HI5.out HB5.out eS.out).mono ?_
        rintro e w6 ⟨rfl, hi1, hb, _⟩
        have HB6 := Aside0.mk hb
        have HI6 := Aside0.mk hi1
        clear hb hi1 HB5 HI5
        go_wp2_with fail
        go_roundg d
        case measure => omega
        case rel =>
          refine ⟨a, i + 1, last, l', lo', hi', sg', rfl, rfl, by go_num, ⟨by have := HK.out; omega⟩, ⟨by rw [Hr.out]; exact HV2.out⟩, ⟨fun h => by have := HL2.out; omega, fun _ => by rw [Hr.out]; exact HSN.out⟩, HI6, HB6⟩
end Go.Proofs.Ytjfoppmpiklfiab.WalkUtfWalks
