/- Contracts of functions that the law NumeralWalks reaches. Conditions: none. -/
import Derived.Test.YtjfoppmpiklfiabPNumeralWalksx0
import Derived.Test.YtjfoppmpiklfiabPNumeralWalksx3
namespace Go.Proofs.Ytjfoppmpiklfiab.PNumeralWalks
open Go.RowKit Go.Proofs.YtjfoppmpiklfiabW.PrintWords Go.Proofs.YtjfoppmpiklfiabW.PrintLast Go.Proofs.YtjfoppmpiklfiabW.PrintMore
attribute [local go_sem] max2_int min2_int max_two min_two max_three min_three max_four min_four   -- for this text's walks alone
set_option linter.unusedVariables false
set_option linter.unusedSimpArgs false

def riffleref04_Is.f (k : Nat) (a0 : ByteArray) : Option (Bool) := if a0.size ≤ 400 then some (Num.isN (Num.L a0)) else none
theorem riffleref04_Is.mono : ∀ a0 k, LeO (riffleref04_Is.f k a0) (riffleref04_Is.f (k + 1) a0) := fun _ _ => LeO.refl _
theorem riffleref04_Is.digits_loop (s : ByteArray) (hs : s.size ≤ 400) (d : Nat) : ∀ (k i : Nat), i + d = s.size → d < k → riffleref04_digits.l0 k s i = some ((i + Num.nd ((Num.L s).drop i) : Nat) : Int) := by
  induction d with
  | zero =>
    intro k i hi hk
    obtain ⟨k, rfl⟩ : ∃ j, k = j + 1 := ⟨k - 1, by omega⟩
    simp only [riffleref04_digits.l0]
    rw [if_neg (by omega), List.drop_eq_nil_of_le (by rw [Num.L_len]; omega)]; simp [Num.nd]
  | succ d ih =>
    intro k i hi hk
    obtain ⟨k, rfl⟩ : ∃ j, k = j + 1 := ⟨k - 1, by omega⟩
    simp only [riffleref04_digits.l0]
    have hlt : i < (Num.L s).length := by rw [Num.L_len]; omega
    have hdg : ∀ c : Int, riffleref01_Digit.f c = some (Num.dg c) := by
      intro c
      unfold riffleref01_Digit.f Num.dg
      by_cases h : c ≥ 48
      · rw [if_pos h]; congr 1; simp; omega
      · rw [if_neg h]; congr 1; simp; omega
    rw [if_pos (by omega), if_pos (by omega), List.drop_eq_getElem_cons hlt, Num.bt_L s i (Num.L s)[i] (by simp), hdg]
    simp only [Option.bind_some]
    by_cases h : Num.dg (Num.L s)[i] = true
    · rw [if_pos h, Num.nd_true h, show wrap64 ((i : Int) + 1) = ((i + 1 : Nat) : Int) by unfold wrap64; omega, ih k (i + 1) (by omega) (by omega)]
      congr 2; omega
    · rw [if_neg h, Num.nd_false h]; simp
theorem riffleref04_Is.digits_any (s : ByteArray) (hs : s.size ≤ 400) (w : World) :
    Calls Try.prog 54 #[.string s] w fun e w' => e = .returned (.int .i64 ((Num.nd (Num.L s) : Nat) : Int)) ∧ Drawn0 w w' :=
  riffleref04_digits.calls 500 s _ w (by unfold riffleref04_digits.f; have := riffleref04_Is.digits_loop s hs s.size 500 0 (by omega) (by omega); simpa using this)
/-- What is looked at first in a text that isn't empty. -/
theorem riffleref04_Is.look {s : ByteArray} {c : Int} {r : List Int} (h : Num.L s = c :: r) : s.size = r.length + 1 ∧ (∀ h0 : 0 < s.size, ((s[0]'h0).toNat : Int) = c) ∧ Num.L (s.extract 1 s.size) = r ∧ (s.extract 1 s.size).size = r.length := by
  have h1 : s.size = r.length + 1 := by rw [← Num.L_len, h]; rfl
  refine ⟨h1, fun h0 => (bt_at s 0 h0).trans (Num.bt0 h), by rw [Num.ext_L, h]; rfl, by rw [Num.size_ext, h1]; rfl⟩
def riffleref04_Is.hd (p : Int → Bool) : List Int → Bool
  | [] => false
  | c :: _ => p c
set_option maxHeartbeats 8000000 in
set_option maxRecDepth 100000 in
theorem riffleref04_Is.calls (k : Nat) (a0 : ByteArray) (r : Bool) (w : World) (h : riffleref04_Is.f k a0 = some r) :
    Calls Try.prog 23 #[.string a0] w fun e w' => e = .returned (.bool r) ∧ Below w.heap.size w w' := by
  have hs : a0.size ≤ 400 := by
    unfold riffleref04_Is.f at h; by_cases c : a0.size ≤ 400
    · exact c
    · rw [if_neg c] at h; cases h
  have H := Aside0.mk (show Num.isN (Num.L a0) = r by unfold riffleref04_Is.f at h; rw [if_pos hs] at h; simpa using h)
  have S := Aside0.mk hs
  clear h hs
  go_enter Try.func23, Try.ntmps23
  go_upto_region 1 with (fail)
  go_cut [11] (fun v11 wc => v11 = .bool (riffleref04_Is.hd (fun c => c == 45) (Num.L a0)) ∧ Aside0 (Below w.heap.size w wc))
  case first =>
    cases hL : Num.L a0 with
    | nil =>
      have hz := (Num.nil_iff a0).1 hL
      have z1 : decide (0 < a0.size) = false := decide_eq_false (by omega)
      have z2 : decide ((0 : Int) < (a0.size : Int)) = false := decide_eq_false (by omega)
      have HL := Aside0.mk hL
      clear hz hL H S
      go_wp2
      go_meet
      case rel => exact ⟨by rw [HL.out]; rfl, ⟨Below.refl _ _⟩⟩
    | cons c t =>
      obtain ⟨h1, h2, h3, h4⟩ := riffleref04_Is.look hL
      have q : 0 < a0.size := by omega
      have z1 : decide (0 < a0.size) = true := decide_eq_true q
      have z2 : decide ((0 : Int) < (a0.size : Int)) = true := decide_eq_true (by omega)
      have q3 : (0 : Int) < (a0.size : Int) := by omega
      replace q := eq_true q
      have HL := Aside0.mk hL
      clear h1 h3 h4 hL H S
      go_wp2
      go_meet
      case rel => exact ⟨by rw [HL.out]; rfl, ⟨Below.refl _ _⟩⟩
  case rest =>
    obtain ⟨rfl, HB⟩ := hcut
    obtain ⟨b1, hb1⟩ : ∃ b, riffleref04_Is.hd (fun c => c == 45) (Num.L a0) = b := ⟨_, rfl⟩
    rw [hb1]
    have HB1 := Aside0.mk hb1
    clear hb1
    go_upto_if 11 with (fail)
    go_cut [0] (fun v0 wc => ∃ s : ByteArray, v0 = .string s ∧ Aside0 (s.size ≤ 400) ∧ Aside0 (Num.I (Num.L s) = r) ∧ Aside0 (Below w.heap.size w wc))
    case first =>
      cases hL : Num.L a0 with
      | nil =>
        have R := Aside0.mk (show Num.I (Num.L a0) = r by rw [← H.out, hL]; rfl)
        obtain rfl : b1 = false := by rw [← HB1.out, hL]; rfl
        clear H hL
        go_wp2_with fail
        go_meet
        case rel => exact ⟨_, rfl, S, R, HB⟩
      | cons c t =>
        obtain ⟨h1, h2, h3, h4⟩ := riffleref04_Is.look hL
        by_cases hc : c = 45
        · have R := Aside0.mk (show Num.I (Num.L (a0.extract 1 a0.size)) = r by rw [← H.out, hL, h3]; simp [Num.isN, hc])
          have S2 := Aside0.mk (show (a0.extract 1 a0.size).size ≤ 400 by have := S.out; omega)
          obtain rfl : b1 = true := by rw [← HB1.out, hL]; simp [riffleref04_Is.hd, hc]
          have q2 : (1 : Int) ≤ (a0.size : Int) := by omega
          clear h1 h2 h3 h4 hL H S hc
          go_wp2_with fail
          go_meet
          case rel => exact ⟨_, rfl, S2, R, HB⟩
        · have R := Aside0.mk (show Num.I (Num.L a0) = r by rw [← H.out, hL]; simp [Num.isN, hc])
          obtain rfl : b1 = false := by rw [← HB1.out, hL]; simp [riffleref04_Is.hd, hc]
          clear h1 h2 h3 h4 hL H hc
          go_wp2_with fail
          go_meet
          case rel => exact ⟨_, rfl, S, R, HB⟩
    case rest =>
      clear H S HB HB1
      obtain ⟨s, rfl, S, H, HB⟩ := hcut
      -- the digits
      generalize hl : Num.L s = l at *
      have HL := Aside0.mk hl
      clear hl
      go_wp2_with fail
      refine (riffleref04_Is.digits_any s S.out _).mono ?_
      rintro e w2 ⟨rfl, hd⟩
      have HB2 := Aside0.mk (below_step HB.out hd.below)
      clear hd HB
      rw [HL.out]
      have hle := Num.nd_le l
      have hsz : s.size = l.length := by rw [← HL.out, Num.L_len]
      generalize hn : Num.nd l = n at *
      have HN := Aside0.mk hn
      clear hn
      have S3 := S.out
      have hnb : (n : Int) ≤ 400 := by omega
      replace hle := Aside0.mk hle
      replace hsz := Aside0.mk hsz
      clear S3
      go_upto_region 4 with (fail)
      go_cut [26] (fun v26 wc => v26 = .bool (decide (n = 0) || (decide (n > 1) && riffleref04_Is.hd (fun c => c == 48) l)) ∧ Aside0 (Below w.heap.size w wc))
      case first =>
        by_cases n0 : n = 0
        · subst n0
          go_wp2_with fail
          go_meet
          case rel => exact ⟨by simp, HB2⟩
        · have e0 : ((n : Int) == 0) = false := by simp; omega
          by_cases n1 : 1 < n
          · have e1 : decide ((1 : Int) < (n : Int)) = true := by simp; omega
            have e2 : decide (1 < n) = true := by simp; omega
            obtain ⟨c, t, hct⟩ : ∃ c t, l = c :: t := by
              cases l with
              | nil => have := hle.out; simp at this; omega
              | cons c t => exact ⟨c, t, rfl⟩
            obtain ⟨h1, h2, h3, h4⟩ := riffleref04_Is.look (HL.out.trans hct)
            have q : 0 < s.size := by omega
            have q3 : (0 : Int) < (s.size : Int) := by omega
            replace q := eq_true q
            replace n0 := Aside0.mk n0
            replace n1 := Aside0.mk n1
            replace hct := Aside0.mk hct
            clear h1 h3 h4
            go_wp2_with fail
            go_meet
            case rel => exact ⟨by have a := n0.out; have b := n1.out; rw [hct.out]; simp [riffleref04_Is.hd, a, b], HB2⟩
          · have e1 : decide ((1 : Int) < (n : Int)) = false := by simp; omega
            have e2 : decide (1 < n) = false := by simp; omega
            replace n0 := Aside0.mk n0
            replace n1 := Aside0.mk n1
            go_wp2_with fail
            go_meet
            case rel => exact ⟨by have a := n0.out; have b := n1.out; simp [a, b], HB2⟩
      case rest =>
        clear HB2
        obtain ⟨rfl, HB⟩ := hcut
        cases hb : (decide (n = 0) || (decide (n > 1) && riffleref04_Is.hd (fun c => c == 48) l)) with
        | true =>
          have R : Aside0 (r = false) := ⟨by
            rw [← H.out]; unfold Num.I; rw [HN.out]
            by_cases n0 : n = 0
            · simp [n0]
            · cases l with
              | nil => simp [n0, riffleref04_Is.hd] at hb
              | cons c t =>
                simp [n0, riffleref04_Is.hd] at hb
                simp [n0, hb]⟩
          go_wp2_with fail
          go_ret
          exact ⟨by have e := R.out; subst e; rfl, HB.out⟩
        | false =>
          have R : Aside0 (Num.Fr (l.drop n) = r) := ⟨by
            rw [← H.out]; unfold Num.I; rw [HN.out]
            cases l with
            | nil => simp [riffleref04_Is.hd] at hb ⊢; simp [hb]
            | cons c t =>
              simp only [riffleref04_Is.hd, Bool.or_eq_false_iff, Bool.and_eq_false_iff, decide_eq_false_iff_not] at hb
              obtain ⟨hb1, hb2⟩ := hb
              rcases hb2 with hb2 | hb2
              · simp [hb1, hb2]
              · simp [hb1, hb2]⟩
          have q2 : (n : Int) ≤ (s.size : Int) := by have a := hle.out; have b := hsz.out; omega
          have T2 : Aside0 (Num.L (s.extract n s.size) = l.drop n) := ⟨by rw [Num.ext_L, HL.out]⟩
          have S2 : Aside0 ((s.extract n s.size).size ≤ 400) := ⟨by rw [Num.size_ext]; have := S.out; omega⟩
          clear H
          go_upto_region 7 with (fail)
          generalize s.extract n s.size = s2 at *
          generalize l.drop n = l2 at *
          clear hle hsz HL HN S
          go_cut [37] (fun v37 wc => v37 = .bool (riffleref04_Is.hd (fun c => c == 46) l2) ∧ Aside0 (Below w.heap.size w wc))
          case first =>
            cases hL : l2 with
            | nil =>
              have hz := (Num.nil_iff s2).1 (T2.out.trans hL)
              have z1 : decide (0 < s2.size) = false := decide_eq_false (by omega)
              have z2 : decide ((0 : Int) < (s2.size : Int)) = false := decide_eq_false (by omega)
              have HL := Aside0.mk hL
              clear hz hL
              go_wp2_with fail
              go_meet
              case rel => exact ⟨by rw [HL.out]; rfl, HB⟩
            | cons c t =>
              obtain ⟨h1, h2, h3, h4⟩ := riffleref04_Is.look (T2.out.trans hL)
              have q : 0 < s2.size := by omega
              have z1 : decide (0 < s2.size) = true := decide_eq_true q
              have z2 : decide ((0 : Int) < (s2.size : Int)) = true := decide_eq_true (by omega)
              have q3 : (0 : Int) < (s2.size : Int) := by omega
              replace q := eq_true q
              have HL := Aside0.mk hL
              clear h1 h3 h4 hL
              go_wp2_with fail
              all_goals go_meet
              all_goals exact ⟨by first | (rw [HL.out]; rfl) | (rw [HL.out]; simp [riffleref04_Is.hd]; done), HB⟩
          case rest =>
            clear HB
            obtain ⟨rfl, HB⟩ := hcut
            obtain ⟨b1, hb1⟩ : ∃ b, riffleref04_Is.hd (fun c => c == 46) l2 = b := ⟨_, rfl⟩
            rw [hb1]
            have HB1 := Aside0.mk hb1
            clear hb1
            go_upto_if 37 with (fail)
            go_cut [0] (fun v0 wc => ∃ s : ByteArray, v0 = .string s ∧ Aside0 (s.size ≤ 400) ∧ Aside0 (Num.E (Num.L s) = r) ∧ Aside0 (Below w.heap.size w wc))
            case first =>
              cases hL : l2 with
              | nil =>
                subst hL
                obtain rfl : b1 = false := by rw [← HB1.out]; rfl
                have E2 : Aside0 (Num.E (Num.L s2) = r) := ⟨by rw [T2.out, ← R.out]; rfl⟩
                clear HB1 R
                go_wp2_with fail
                go_meet
                case rel => exact ⟨_, rfl, S2, E2, HB⟩
              | cons c t =>
                subst hL
                obtain ⟨h1, h2, h3, h4⟩ := riffleref04_Is.look T2.out
                by_cases hc : c = 46
                · obtain rfl : b1 = true := by rw [← HB1.out]; simp [riffleref04_Is.hd, hc]
                  have R2 := R.out
                  simp only [Num.Fr] at R2
                  rw [if_pos hc] at R2
                  replace R2 := Aside0.mk R2
                  have q2 : (1 : Int) ≤ (s2.size : Int) := by omega
                  have S4 : Aside0 ((s2.extract 1 s2.size).size ≤ 400) := ⟨by have := S2.out; omega⟩
                  have H1 := Aside0.mk h1
                  have H3 := Aside0.mk h3
                  have H4 := Aside0.mk h4
                  clear h1 h2 h3 h4 HB1 R hc
                  go_wp2_with fail
                  refine (riffleref04_Is.digits_any (s2.extract 1 s2.size) S4.out _).mono ?_
                  rintro e w4 ⟨rfl, hd⟩
                  have HB2 := Aside0.mk (below_step HB.out hd.below)
                  clear hd HB
                  rw [H3.out]
                  have hle := Num.nd_le t
                  have hb := S2.out
                  have hb2 := H1.out
                  generalize hm : Num.nd t = m at *
                  have HM := Aside0.mk hm
                  clear hm
                  have hmb : (m : Int) ≤ 400 := by omega
                  have hm2 : (1 : Int) + (m : Int) ≤ (s2.size : Int) := by omega
                  by_cases m0 : m = 0
                  · subst m0
                    have F : Aside0 (r = false) := ⟨by rw [← R2.out]; rfl⟩
                    go_wp2_with fail
                    go_ret
                    exact ⟨by have e := F.out; subst e; rfl, HB2.out⟩
                  · have e0 : ((m : Int) == 0) = false := by simp; omega
                    have e1 : (1 + (m : Int)).toNat = 1 + m := by omega
                    have T5 : Aside0 (Num.L (s2.extract (1 + (m : Int)).toNat s2.size) = t.drop m) := ⟨by rw [e1, Num.ext_L, T2.out, Nat.add_comm]; rfl⟩
                    have S5 : Aside0 ((s2.extract (1 + (m : Int)).toNat s2.size).size ≤ 400) := ⟨by rw [e1, Num.size_ext]; omega⟩
                    have F : Aside0 (Num.E (Num.L (s2.extract (1 + (m : Int)).toNat s2.size)) = r) := ⟨by rw [T5.out, ← R2.out]; simp [m0]⟩
                    clear e1 hle hb hb2 m0
                    go_wp2_with fail
                    go_meet
                    case rel => exact ⟨_, rfl, S5, F, HB2⟩
                · obtain rfl : b1 = false := by rw [← HB1.out]; simp [riffleref04_Is.hd, hc]
                  have E2 : Aside0 (Num.E (Num.L s2) = r) := ⟨by rw [T2.out, ← R.out]; simp only [Num.Fr]; rw [if_neg hc]⟩
                  clear HB1 R h1 h2 h3 h4 hc
                  go_wp2_with fail
                  go_meet
                  case rel => exact ⟨_, rfl, S2, E2, HB⟩
            case rest =>
              clear HB HB1 R S2 T2
              obtain ⟨s3, rfl, S3, H, HB⟩ := hcut
              generalize hl : Num.L s3 = l3 at *
              have T3 := Aside0.mk hl
              clear hl
              cases l3 with
              | nil =>
                have hz := (Num.nil_iff s3).1 T3.out
                have z1 : ((s3.size : Int) == 0) = true := by simp [hz]
                have F : Aside0 (r = true) := ⟨by rw [← H.out]; rfl⟩
                clear hz
                go_wp2_with fail
                go_ret
                exact ⟨by have e := F.out; subst e; rfl, HB.out⟩
              | cons c t =>
                obtain ⟨h1, h2, h3, h4⟩ := riffleref04_Is.look T3.out
                have z1 : ((s3.size : Int) == 0) = false := by rw [beq_eq_false_iff_ne]; omega
                have q : 0 < s3.size := by omega
                have q3 : (0 : Int) < (s3.size : Int) := by omega
                have q2 : (1 : Int) ≤ (s3.size : Int) := by omega
                replace q := eq_true q
                have T4 := Aside0.mk h3
                have S4 : Aside0 ((s3.extract 1 s3.size).size ≤ 400) := ⟨by have := S3.out; omega⟩
                clear h1 h3 h4
                go_upto_region 14 with (fail)
                go_cut [57] (fun v57 wc => v57 = .bool (c != 101 && c != 69) ∧ Aside0 (Below w.heap.size w wc))
                case first =>
                  by_cases c1 : c = 101
                  · subst c1
                    go_wp2_with fail
                    go_meet
                    case rel => exact ⟨rfl, HB⟩
                  · have d1 : (c != 101) = true := by simp [c1]
                    have d2 : (c == 101) = false := by simp [c1]
                    replace c1 := Aside0.mk c1
                    go_wp2_with fail
                    go_meet
                    case rel => exact ⟨by simp [c1.out], HB⟩
                case rest =>
                  clear HB h2
                  obtain ⟨rfl, HB⟩ := hcut
                  by_cases he : c = 101 ∨ c = 69
                  rotate_left
                  · have b4 : (c != 101 && c != 69) = true := by have h5 : c ≠ 101 := fun h => he (Or.inl h); have h6 : c ≠ 69 := fun h => he (Or.inr h); simp [h5, h6]
                    have F : Aside0 (r = false) := ⟨by rw [← H.out]; simp only [Num.E]; rw [if_neg he]⟩
                    rw [b4]
                    clear he b4
                    go_wp2_with fail
                    go_ret
                    exact ⟨by have e := F.out; subst e; rfl, HB.out⟩
                  have b4 : (c != 101 && c != 69) = false := by rcases he with he | he <;> simp [he]
                  have R : Aside0 (Num.X t = r) := ⟨by rw [← H.out]; simp only [Num.E]; rw [if_pos he]⟩
                  rw [b4]
                  clear he b4 H z1 q q3
                  go_upto_region 17 with (fail)
                  generalize s3.extract 1 s3.size = s4 at *
                  clear T3 S3 q2
                  go_cut [72] (fun v72 wc => v72 = .bool (riffleref04_Is.hd (fun c => c == 43 || c == 45) t) ∧ Aside0 (Below w.heap.size w wc))
                  case first =>
                    cases hL : t with
                    | nil =>
                      have hz := (Num.nil_iff s4).1 (T4.out.trans hL)
                      have z1 : decide (0 < s4.size) = false := decide_eq_false (by omega)
                      have z2 : decide ((0 : Int) < (s4.size : Int)) = false := decide_eq_false (by omega)
                      have HL := Aside0.mk hL
                      clear hz hL
                      go_wp2_with fail
                      go_meet
                      case rel => exact ⟨by rw [HL.out]; rfl, HB⟩
                    | cons c t =>
                      obtain ⟨h1, h2, h3, h4⟩ := riffleref04_Is.look (T4.out.trans hL)
                      have q : 0 < s4.size := by omega
                      have z1 : decide (0 < s4.size) = true := decide_eq_true q
                      have z2 : decide ((0 : Int) < (s4.size : Int)) = true := decide_eq_true (by omega)
                      have q3 : (0 : Int) < (s4.size : Int) := by omega
                      replace q := eq_true q
                      have HL := Aside0.mk hL
                      clear h1 h3 h4 hL
                      by_cases d1 : c = 43
                      · subst d1
                        go_wp2_with fail
                        go_meet
                        case rel => exact ⟨by rw [HL.out]; rfl, HB⟩
                      · have e1 : (c == 43) = false := by simp [d1]
                        replace d1 := Aside0.mk d1
                        go_wp2_with fail
                        go_meet
                        case rel => exact ⟨by rw [HL.out]; simp [riffleref04_Is.hd, d1.out], HB⟩
                  case rest =>
                    clear HB
                    obtain ⟨rfl, HB⟩ := hcut
                    obtain ⟨b1, hb1⟩ : ∃ b, riffleref04_Is.hd (fun c => c == 43 || c == 45) t = b := ⟨_, rfl⟩
                    rw [hb1]
                    have HB1 := Aside0.mk hb1
                    clear hb1
                    go_upto_if 72 with (fail)
                    go_cut [0] (fun v0 wc => ∃ s : ByteArray, v0 = .string s ∧ Aside0 (s.size ≤ 400) ∧ Aside0 (Num.D (Num.L s) = r) ∧ Aside0 (Below w.heap.size w wc))
                    case first =>
                      cases hL : t with
                      | nil =>
                        subst hL
                        obtain rfl : b1 = false := by rw [← HB1.out]; rfl
                        have E2 : Aside0 (Num.D (Num.L s4) = r) := ⟨by rw [T4.out, ← R.out]; rfl⟩
                        clear HB1 R
                        go_wp2_with fail
                        go_meet
                        case rel => exact ⟨_, rfl, S4, E2, HB⟩
                      | cons d u =>
                        subst hL
                        obtain ⟨h1, h2, h3, h4⟩ := riffleref04_Is.look T4.out
                        by_cases hc : d = 43 ∨ d = 45
                        · obtain rfl : b1 = true := by rw [← HB1.out]; rcases hc with hc | hc <;> simp [riffleref04_Is.hd, hc]
                          have E2 : Aside0 (Num.D (Num.L (s4.extract 1 s4.size)) = r) := ⟨by rw [h3, ← R.out]; simp only [Num.X]; rw [if_pos hc]⟩
                          have S5 : Aside0 ((s4.extract 1 s4.size).size ≤ 400) := ⟨by have := S4.out; omega⟩
                          have q2 : (1 : Int) ≤ (s4.size : Int) := by omega
                          clear h1 h2 h3 h4 HB1 R hc
                          go_wp2_with fail
                          go_meet
                          case rel => exact ⟨_, rfl, S5, E2, HB⟩
                        · obtain rfl : b1 = false := by rw [← HB1.out]; have h5 : d ≠ 43 := fun h => hc (Or.inl h); have h6 : d ≠ 45 := fun h => hc (Or.inr h); simp [riffleref04_Is.hd, h5, h6]
                          have E2 : Aside0 (Num.D (Num.L s4) = r) := ⟨by rw [T4.out, ← R.out]; simp only [Num.X]; rw [if_neg hc]⟩
                          clear h1 h2 h3 h4 HB1 R hc
                          go_wp2_with fail
                          go_meet
                          case rel => exact ⟨_, rfl, S4, E2, HB⟩
                    case rest =>
                      clear HB HB1 R S4 T4
                      obtain ⟨s5, rfl, S5, H, HB⟩ := hcut
                      generalize hl : Num.L s5 = l5 at *
                      have T5 := Aside0.mk hl
                      clear hl
                      cases l5 with
                      | nil =>
                        have hz := (Num.nil_iff s5).1 T5.out
                        have z1 : decide (0 < s5.size) = false := decide_eq_false (by omega)
                        have z2 : decide ((0 : Int) < (s5.size : Int)) = false := decide_eq_false (by omega)
                        have F : Aside0 (r = false) := ⟨by rw [← H.out]; rfl⟩
                        clear hz
                        go_wp2_with fail
                        go_ret
                        exact ⟨by have e := F.out; subst e; rfl, HB.out⟩
                      | cons d u =>
                        obtain ⟨h1, h2, h3, h4⟩ := riffleref04_Is.look T5.out
                        have z1 : decide (0 < s5.size) = true := decide_eq_true (by omega)
                        have z2 : decide ((0 : Int) < (s5.size : Int)) = true := decide_eq_true (by omega)
                        have F : Aside0 ((((Num.nd (Num.L s5) : Nat) : Int) == (s5.size : Int)) = r) := ⟨by
                          rw [← H.out, T5.out]; unfold Num.D
                          rw [Bool.eq_iff_iff]; simp [h1]; omega⟩
                        clear h1 h2 h3 h4
                        go_wp2_with fail
                        refine (riffleref04_Is.digits_any s5 S5.out _).mono ?_
                        rintro e w5 ⟨rfl, hd⟩
                        have HB2 := Aside0.mk (below_step HB.out hd.below)
                        clear hd HB
                        go_wp2_with fail
                        go_ret
                        exact ⟨by have e := F.out; subst e; rfl, HB2.out⟩

/-! ### riffleref01_Alpha: function 50 -/
def riffleref01_Alpha.f (a0 : Int) : Option (Bool) := if a0 ≥ 97 then (if a0 ≤ 122 then (some true) else (if a0 ≥ 65 then (some (decide (a0 ≤ 90))) else (some false))) else (if a0 ≥ 65 then (some (decide (a0 ≤ 90))) else (some false))
set_option maxHeartbeats 8000000 in
set_option maxRecDepth 100000 in
theorem riffleref01_Alpha.calls (a0 : Int) (r : Bool) (w : World) (h : riffleref01_Alpha.f a0 = some r) :
    Calls Try.prog 50 #[.int .u8 a0] w fun e w' => e = .returned (.bool r) ∧ Drawn0 w w' := by
  have H : (if a0 ≥ 97 then (if a0 ≤ 122 then (some true) else (if a0 ≥ 65 then (some (decide (a0 ≤ 90))) else (some false))) else (if a0 ≥ 65 then (some (decide (a0 ≤ 90))) else (some false))) = some r := h
  clear h
  by_cases c2 : a0 ≥ 97
  · rw [if_pos c2] at H
    have c2b0 : decide (97 ≤ a0) = true := decide_eq_true c2
    clear c2
    by_cases c3 : a0 ≤ 122
    · rw [if_pos c3] at H
      have c3b0 : decide (a0 ≤ 122) = true := decide_eq_true c3
      clear c3
      obtain rfl := Option.some.inj H
      go_enter Try.func50, Try.ntmps50
      go_wp2
      go_ret
      exact ⟨by first | rfl | (simp; done) | (simp [*]; done), by repeat (first | exact Drawn0.refl _ | apply Drawn0.step)⟩
    · rw [if_neg c3] at H
      have c3b0 : decide (a0 ≤ 122) = false := decide_eq_false c3
      clear c3
      by_cases c4 : a0 ≥ 65
      · rw [if_pos c4] at H
        have c4b0 : decide (65 ≤ a0) = true := decide_eq_true c4
        clear c4
        obtain rfl := Option.some.inj H
        go_enter Try.func50, Try.ntmps50
        go_wp2
        go_ret
        exact ⟨by first | rfl | (simp; done) | (simp [*]; done), by repeat (first | exact Drawn0.refl _ | apply Drawn0.step)⟩
      · rw [if_neg c4] at H
        have c4b0 : decide (65 ≤ a0) = false := decide_eq_false c4
        clear c4
        obtain rfl := Option.some.inj H
        go_enter Try.func50, Try.ntmps50
        go_wp2
        go_ret
        exact ⟨by first | rfl | (simp; done) | (simp [*]; done), by repeat (first | exact Drawn0.refl _ | apply Drawn0.step)⟩
  · rw [if_neg c2] at H
    have c2b0 : decide (97 ≤ a0) = false := decide_eq_false c2
    clear c2
    by_cases c5 : a0 ≥ 65
    · rw [if_pos c5] at H
      have c5b0 : decide (65 ≤ a0) = true := decide_eq_true c5
      clear c5
      obtain rfl := Option.some.inj H
      go_enter Try.func50, Try.ntmps50
      go_wp2
      go_ret
      exact ⟨by first | rfl | (simp; done) | (simp [*]; done), by repeat (first | exact Drawn0.refl _ | apply Drawn0.step)⟩
    · rw [if_neg c5] at H
      have c5b0 : decide (65 ≤ a0) = false := decide_eq_false c5
      clear c5
      obtain rfl := Option.some.inj H
      go_enter Try.func50, Try.ntmps50
      go_wp2
      go_ret
      exact ⟨by first | rfl | (simp; done) | (simp [*]; done), by repeat (first | exact Drawn0.refl _ | apply Drawn0.step)⟩

/-! ### riffleref04_Step: function 21 -/
def riffleref04_Step.j0 : Nat → ByteArray → Int → Bool → Option (Int)
  | 0, _, _, _ => none
  | k + 1, x0, x1, x17 => if x17 = true then (some 0) else ((riffleref04_Is.f k x0).bind fun t119 => (if t119 = true then ((riffleref01_Digit.f x1).bind fun t120 => (if t120 = true then (some 2) else ((riffleref01_Alpha.f x1).bind fun t121 => (if t121 = true then (some 2) else (if x1 = 46 then (some 2) else (if x1 = 43 then (some 2) else (if x1 = 45 then (some 2) else (some 1)))))))) else (some 2)))
def riffleref04_Step.f (k : Nat) (a0 : ByteArray) (a1 : Int) : Option (Int) := (some (([a1] : List Int) : List Int)).bind fun y114 => (if a0.size + (strOfNums y114).size ≤ 9223372036854775807 then ((riffleref04_Is.f k (a0 ++ (strOfNums y114))).bind fun t117 => (if t117 = true then (riffleref04_Step.j0 k a0 a1 true) else (if (a0 ++ (strOfNums y114)).size + 1 ≤ 9223372036854775807 then ((riffleref04_Is.f k ((a0 ++ (strOfNums y114)) ++ (⟨#[49]⟩ : ByteArray))).bind fun t118 => (riffleref04_Step.j0 k a0 a1 t118)) else (none)))) else (none))
theorem riffleref04_Step.mono_l : ∀ k, (∀ y0 y1 y2, LeO (riffleref04_Step.j0 k y0 y1 y2) (riffleref04_Step.j0 (k + 1) y0 y1 y2))
  | 0 => fun _ _ _ r h => by simp [riffleref04_Step.j0] at h
  | k + 1 => by
    have ih0 := riffleref04_Step.mono_l k
    · intro y0 y1 y2
      unfold riffleref04_Step.j0
      repeat' first
      | (with_reducible exact ih0 _ _ _)
      | (with_reducible exact riffleref04_Is.mono _ _)
      | (with_reducible exact LeO.refl _)
      | (with_reducible exact LeO.none _)
      | (with_reducible refine LeO.ite ?_ ?_)
      | (with_reducible refine LeO.bind ?_ (fun _ => ?_))
      | exact ih0 _ _ _
      | exact riffleref04_Is.mono _ _
      | exact LeO.none _
      | refine LeO.ite ?_ ?_
      | refine LeO.bind ?_ (fun _ => ?_)
theorem riffleref04_Step.mono : ∀ a0 a1 k, LeO (riffleref04_Step.f k a0 a1) (riffleref04_Step.f (k + 1) a0 a1) := by
  intro a0 a1 k
  have ih0 := riffleref04_Step.mono_l k
  unfold riffleref04_Step.f
  repeat' first
      | (with_reducible exact ih0 _ _ _)
      | (with_reducible exact riffleref04_Is.mono _ _)
      | (with_reducible exact LeO.refl _)
      | (with_reducible exact LeO.none _)
      | (with_reducible refine LeO.ite ?_ ?_)
      | (with_reducible refine LeO.bind ?_ (fun _ => ?_))
      | exact ih0 _ _ _
      | exact riffleref04_Is.mono _ _
      | exact LeO.none _
      | refine LeO.ite ?_ ?_
      | refine LeO.bind ?_ (fun _ => ?_)
set_option maxHeartbeats 8000000 in
set_option maxRecDepth 100000 in
theorem riffleref04_Step.calls (k : Nat) (a0 : ByteArray) (a1 : Int) (r : Int) (w : World) (h : riffleref04_Step.f k a0 a1 = some r) :
    Calls Try.prog 21 #[.string a0, .int .u8 a1] w fun e w' => e = .returned (.int .i64 r) ∧ Below w.heap.size w w' := by
  have HB := Aside0.mk (Below.refl w.heap.size w)
  have H : ((some (([a1] : List Int) : List Int)).bind fun y114 => (if a0.size + (strOfNums y114).size ≤ 9223372036854775807 then ((riffleref04_Is.f k (a0 ++ (strOfNums y114))).bind fun t117 => (if t117 = true then (riffleref04_Step.j0 k a0 a1 true) else (if (a0 ++ (strOfNums y114)).size + 1 ≤ 9223372036854775807 then ((riffleref04_Is.f k ((a0 ++ (strOfNums y114)) ++ (⟨#[49]⟩ : ByteArray))).bind fun t118 => (riffleref04_Step.j0 k a0 a1 t118)) else (none)))) else (none))) = some r := h
  clear h
  obtain ⟨y114, hy114⟩ : ∃ y_ : List Int, y_ = (([a1] : List Int)) := ⟨_, rfl⟩
  replace H : (if a0.size + (strOfNums y114).size ≤ 9223372036854775807 then ((riffleref04_Is.f k (a0 ++ (strOfNums y114))).bind fun t117 => (if t117 = true then (riffleref04_Step.j0 k a0 a1 true) else (if (a0 ++ (strOfNums y114)).size + 1 ≤ 9223372036854775807 then ((riffleref04_Is.f k ((a0 ++ (strOfNums y114)) ++ (⟨#[49]⟩ : ByteArray))).bind fun t118 => (riffleref04_Step.j0 k a0 a1 t118)) else (none)))) else (none)) = some r := by first | (rw [hy114]; with_reducible exact H) | (have H2_ := (Option.bind_some _ _).symm.trans H; rw [hy114]; with_reducible exact H2_) | (have H2_ := (Option.bind_some _ _).symm.trans H; with_reducible exact H2_) | with_reducible exact H | (rw [hy114]; exact H) | exact H
  have Ny114 := Aside0.mk hy114
  clear hy114
  by_cases c3 : a0.size + (strOfNums y114).size ≤ 9223372036854775807
  · rw [if_pos c3] at H
    have c3b0 := eq_true c3
    have c3b1 : decide (a0.size + (strOfNums y114).size ≤ 9223372036854775807) = true := decide_eq_true c3
    try have c3b2 : (9223372036854775807 < a0.size + (strOfNums y114).size) = False := eq_false (Nat.not_lt.2 c3)
    have HC4 := Aside0.mk H
    clear H
    go_enter Try.func21, Try.ntmps21
    go_upto_region 2 with (first | ((with_reducible refine gate_dst (N := 8) rfl ?_); refine Kd.R_lit (Kd.int .u8) _ 5 ?hg (N := 8) ?hd (xs := ([a1] : List Int)) (inner := [.int .u8 a1]) (ok := fun _ => True) (okp := fun _ => True) ?hr ?hp (fun _ hk => hk) trivial (Below.refl _ _) (Nat.le_refl _) (by simp) ?_; (case hd => rfl); (case hg => rfl); (case hr => first | (go_simp; done) | (go_simp; rfl)); (case hp => exact (Reps.one (show Kd.M (Kd.int .u8) _ _ _ a1 [.int .u8 a1] from rfl) (Reps.none _ _))); intro v115 w5 ho6 hb hg_ hnew_; clear hg_ hnew_; (first | rw [← Ny114.out] at ho6 | (simp only [Int.reduceToNat] at ho6; rw [← Ny114.out] at ho6)); have n0_ := Aside0.mk (Kd.R_lower ho6 (below_size (by repeat (first | (with_reducible first | exact HB.out | apply below_alloc | apply pw_below_drewN | apply below_drew1) | exact HB.out)))); have n1_ := Aside0.mk (below_step (by repeat (first | (with_reducible first | exact HB.out | apply below_alloc | apply pw_below_drewN | apply below_drew1) | exact HB.out)) hb); clear HB; have HO116 := n0_; have HB := n1_; clear n0_ n1_; clear hb ho6; have hcv7 := own_string (P := Try.prog) Try.underlying55 Try.underlying5 Try.underlying9 (Kd.own_of_R HO116.out)))
    (try simp only [Act.put, List.setIfInBounds_toArray, List.set_cons_zero, List.set_cons_succ])
    go_cut [17] (fun v17 wc => ∃ (kq : Nat) (x17_3 : Bool), v17 = .bool x17_3 ∧ Aside0 (riffleref04_Step.j0 kq a0 a1 x17_3 = some r) ∧ Aside0 (kq ≤ k) ∧ Aside0 (Below w.heap.size w wc))
    case first =>
      have H := HC4.out
      clear HC4
      replace H := Option.bind_eq_some_iff.mp H
      obtain ⟨t117, A80, H⟩ := H
      replace H : (if t117 = true then (riffleref04_Step.j0 k a0 a1 true) else (if (a0 ++ (strOfNums y114)).size + 1 ≤ 9223372036854775807 then ((riffleref04_Is.f k ((a0 ++ (strOfNums y114)) ++ (⟨#[49]⟩ : ByteArray))).bind fun t118 => (riffleref04_Step.j0 k a0 a1 t118)) else (none))) = some r := H
      have A8 := Aside0.mk A80
      clear A80
      by_cases c9 : t117 = true
      · subst c9
        have H1 : (riffleref04_Step.j0 k a0 a1 true) = some r := by rw [if_pos rfl] at H; exact H
        clear H
        have H := H1
        clear H1
        have H' := Aside0.mk H
        clear H
        go_wp2_with (first | ((with_reducible refine gate_callee (f := 23) rfl ?_); refine goesL_ (some 12) rfl rfl Try.func23 (by kernel_rfl) rfl #[.string (a0 ++ (strOfNums y114))] rfl (by (try simp only [List.map_toArray, List.map_cons, List.map_nil]); first | done | rfl | (simp only [List.length_drop, List.length_take]; rfl)) ?_; (with_reducible refine (riffleref04_Is.calls k (a0 ++ (strOfNums y114)) true _ A8.out).mono ?_); rintro e w10 ⟨rfl, hb⟩; refine ⟨_, rfl, ?_⟩; have n0_ := Aside0.mk (Kd.R_below (by (with_reducible repeat (first | apply Kd.R_alloc | apply Kd.R_drewN | apply Kd.R_drew)); exact HO116.out) hb); have n1_ := Aside0.mk (below_step (by repeat (first | (with_reducible first | exact HB.out | apply below_alloc | apply pw_below_drewN | apply below_drew1) | exact HB.out)) hb); clear HO116; clear HB; have HO116 := n0_; have HB := n1_; clear n0_ n1_; (try clear hb); (try clear hb2); (try clear hk); (try clear hi)))
        go_meet
        case rel => exact ⟨_, (true), (by first | rfl | (simp; done) | (simp [*]; done)), H', ⟨by first | omega | exact Nat.le_refl _⟩, ⟨by repeat (first | (with_reducible first | exact HB.out | apply below_alloc | apply pw_below_drewN | apply below_drew1) | exact HB.out)⟩⟩
      · replace c9 := Bool.eq_false_iff.mpr c9
        subst c9
        have H1 : (if (a0 ++ (strOfNums y114)).size + 1 ≤ 9223372036854775807 then ((riffleref04_Is.f k ((a0 ++ (strOfNums y114)) ++ (⟨#[49]⟩ : ByteArray))).bind fun t118 => (riffleref04_Step.j0 k a0 a1 t118)) else (none)) = some r := by rw [if_neg (show ¬ (false = true) by decide)] at H; exact H
        clear H
        have H := H1
        clear H1
        by_cases c11 : (a0 ++ (strOfNums y114)).size + 1 ≤ 9223372036854775807
        · rw [if_pos c11] at H
          have c11b0 := eq_true c11
          have c11b1 : decide ((a0 ++ (strOfNums y114)).size + 1 ≤ 9223372036854775807) = true := decide_eq_true c11
          try have c11b2 : (9223372036854775807 < (a0 ++ (strOfNums y114)).size + 1) = False := eq_false (Nat.not_lt.2 c11)
          try have c11b4 : (a0.size + (strOfNums y114).size + 1 ≤ 9223372036854775807) = True := eq_true (by have h_ := c11; rw [ByteArray.size_append] at h_; exact h_)
          try have c11b5 : (9223372036854775807 < a0.size + (strOfNums y114).size + 1) = False := eq_false (by have h_ := c11; rw [ByteArray.size_append] at h_; omega)
          replace H := Option.bind_eq_some_iff.mp H
          obtain ⟨t118, A120, H⟩ := H
          replace H : (riffleref04_Step.j0 k a0 a1 t118) = some r := H
          have A12 := Aside0.mk A120
          clear A120
          have H' := Aside0.mk H
          clear H
          go_wp2_with (first | ((with_reducible refine gate_callee (f := 23) rfl ?_); refine goesL_ (some 12) rfl rfl Try.func23 (by kernel_rfl) rfl #[.string (a0 ++ (strOfNums y114))] rfl (by (try simp only [List.map_toArray, List.map_cons, List.map_nil]); first | done | rfl | (simp only [List.length_drop, List.length_take]; rfl)) ?_; (with_reducible refine (riffleref04_Is.calls k (a0 ++ (strOfNums y114)) false _ A8.out).mono ?_); rintro e w13 ⟨rfl, hb⟩; refine ⟨_, rfl, ?_⟩; have n0_ := Aside0.mk (Kd.R_below (by (with_reducible repeat (first | apply Kd.R_alloc | apply Kd.R_drewN | apply Kd.R_drew)); exact HO116.out) hb); have n1_ := Aside0.mk (below_step (by repeat (first | (with_reducible first | exact HB.out | apply below_alloc | apply pw_below_drewN | apply below_drew1) | exact HB.out)) hb); clear HO116; clear HB; have HO116 := n0_; have HB := n1_; clear n0_ n1_; (try clear hb); (try clear hb2); (try clear hk); (try clear hi)) | (go_at_call 23; (with_reducible refine (riffleref04_Is.calls k ((a0 ++ (strOfNums y114)) ++ (⟨#[49]⟩ : ByteArray)) t118 _ A12.out).mono ?_); rintro e w14 ⟨rfl, hb⟩; have n0_ := Aside0.mk (Kd.R_below (by (with_reducible repeat (first | apply Kd.R_alloc | apply Kd.R_drewN | apply Kd.R_drew)); exact HO116.out) hb); have n1_ := Aside0.mk (below_step (by repeat (first | (with_reducible first | exact HB.out | apply below_alloc | apply pw_below_drewN | apply below_drew1) | exact HB.out)) hb); clear HO116; clear HB; have HO116 := n0_; have HB := n1_; clear n0_ n1_; (try clear hb); (try clear hb2); (try clear hk); (try clear hi)))
          go_meet
          case rel => exact ⟨_, (t118), (by first | rfl | (simp; done) | (simp [*]; done)), H', ⟨by first | omega | exact Nat.le_refl _⟩, ⟨by repeat (first | (with_reducible first | exact HB.out | apply below_alloc | apply pw_below_drewN | apply below_drew1) | exact HB.out)⟩⟩
        · rw [if_neg c11] at H
          exact absurd H (by simp)
    case rest =>
      clear HC4
      try clear c1
      try clear c2
      try clear p2
      try clear c3
      try clear c3b0
      try clear c3b1
      try clear c3b2
      try clear hcv7
      try clear c9
      try clear c11
      try clear c11b0
      try clear c11b1
      try clear c11b2
      obtain ⟨kq, x17_3, rfl, HA, HJ3, HB⟩ := hcut
      cases kq with
      | zero => exact absurd HA.out (by simp [riffleref04_Step.j0])
      | succ kj3 =>
        have H := HA.out
        clear HA
        simp only [riffleref04_Step.j0] at H
        by_cases c15 : x17_3 = true
        · subst c15
          have H1 : (some 0) = some r := by rw [if_pos rfl] at H; exact H
          clear H
          have H := H1
          clear H1
          obtain rfl := Option.some.inj H
          go_wp2
          go_ret
          exact ⟨by first | rfl | (simp [errW_none, errW_some] <;> rfl) | (simp [*, errW_none, errW_some] <;> rfl), by repeat (first | (with_reducible first | exact HB.out | apply below_alloc | apply pw_below_drewN | apply below_drew1) | exact HB.out)⟩
        · replace c15 := Bool.eq_false_iff.mpr c15
          subst c15
          have H1 : ((riffleref04_Is.f kj3 a0).bind fun t119 => (if t119 = true then ((riffleref01_Digit.f a1).bind fun t120 => (if t120 = true then (some 2) else ((riffleref01_Alpha.f a1).bind fun t121 => (if t121 = true then (some 2) else (if a1 = 46 then (some 2) else (if a1 = 43 then (some 2) else (if a1 = 45 then (some 2) else (some 1)))))))) else (some 2))) = some r := by rw [if_neg (show ¬ (false = true) by decide)] at H; exact H
          clear H
          have H := H1
          clear H1
          replace H := Option.bind_eq_some_iff.mp H
          obtain ⟨t119, A160, H⟩ := H
          replace H : (if t119 = true then ((riffleref01_Digit.f a1).bind fun t120 => (if t120 = true then (some 2) else ((riffleref01_Alpha.f a1).bind fun t121 => (if t121 = true then (some 2) else (if a1 = 46 then (some 2) else (if a1 = 43 then (some 2) else (if a1 = 45 then (some 2) else (some 1)))))))) else (some 2)) = some r := H
          have A16 := Aside0.mk A160
          clear A160
          by_cases c17 : t119 = true
          · subst c17
            have H1 : ((riffleref01_Digit.f a1).bind fun t120 => (if t120 = true then (some 2) else ((riffleref01_Alpha.f a1).bind fun t121 => (if t121 = true then (some 2) else (if a1 = 46 then (some 2) else (if a1 = 43 then (some 2) else (if a1 = 45 then (some 2) else (some 1)))))))) = some r := by rw [if_pos rfl] at H; exact H
            clear H
            have H := H1
            clear H1
            replace H := Option.bind_eq_some_iff.mp H
            obtain ⟨t120, A180, H⟩ := H
            replace H : (if t120 = true then (some 2) else ((riffleref01_Alpha.f a1).bind fun t121 => (if t121 = true then (some 2) else (if a1 = 46 then (some 2) else (if a1 = 43 then (some 2) else (if a1 = 45 then (some 2) else (some 1))))))) = some r := H
            have A18 := Aside0.mk A180
            clear A180
            by_cases c19 : t120 = true
            · subst c19
              have H1 : (some 2) = some r := by rw [if_pos rfl] at H; exact H
              clear H
              have H := H1
              clear H1
              obtain rfl := Option.some.inj H
              go_wp2_with (first | ((with_reducible refine gate_callee (f := 23) rfl ?_); refine goesL_ (some 19) rfl rfl Try.func23 (by kernel_rfl) rfl #[.string a0] rfl (by (try simp only [List.map_toArray, List.map_cons, List.map_nil]); first | done | rfl | (simp only [List.length_drop, List.length_take]; rfl)) ?_; (with_reducible refine (riffleref04_Is.calls kj3 a0 true _ A16.out).mono ?_); rintro e w20 ⟨rfl, hb⟩; refine ⟨_, rfl, ?_⟩; have n0_ := Aside0.mk (below_step (by repeat (first | (with_reducible first | exact HB.out | apply below_alloc | apply pw_below_drewN | apply below_drew1) | exact HB.out)) hb); clear HB; have HB := n0_; clear n0_; (try clear hb); (try clear hb2); (try clear hk); (try clear hi)) | (go_at_call 49; (with_reducible refine (riffleref01_Digit.calls a1 true _ A18.out).mono ?_); rintro e w' ⟨rfl, ⟨nd, rfl⟩⟩))
              go_ret
              exact ⟨by first | rfl | (simp [errW_none, errW_some] <;> rfl) | (simp [*, errW_none, errW_some] <;> rfl), by repeat (first | (with_reducible first | exact HB.out | apply below_alloc | apply pw_below_drewN | apply below_drew1) | exact HB.out)⟩
            · replace c19 := Bool.eq_false_iff.mpr c19
              subst c19
              have H1 : ((riffleref01_Alpha.f a1).bind fun t121 => (if t121 = true then (some 2) else (if a1 = 46 then (some 2) else (if a1 = 43 then (some 2) else (if a1 = 45 then (some 2) else (some 1)))))) = some r := by rw [if_neg (show ¬ (false = true) by decide)] at H; exact H
              clear H
              have H := H1
              clear H1
              replace H := Option.bind_eq_some_iff.mp H
              obtain ⟨t121, A210, H⟩ := H
              replace H : (if t121 = true then (some 2) else (if a1 = 46 then (some 2) else (if a1 = 43 then (some 2) else (if a1 = 45 then (some 2) else (some 1))))) = some r := H
              have A21 := Aside0.mk A210
              clear A210
              by_cases c22 : t121 = true
              · subst c22
                have H1 : (some 2) = some r := by rw [if_pos rfl] at H; exact H
                clear H
                have H := H1
                clear H1
                obtain rfl := Option.some.inj H
                go_wp2_with (first | ((with_reducible refine gate_callee (f := 23) rfl ?_); refine goesL_ (some 19) rfl rfl Try.func23 (by kernel_rfl) rfl #[.string a0] rfl (by (try simp only [List.map_toArray, List.map_cons, List.map_nil]); first | done | rfl | (simp only [List.length_drop, List.length_take]; rfl)) ?_; (with_reducible refine (riffleref04_Is.calls kj3 a0 true _ A16.out).mono ?_); rintro e w23 ⟨rfl, hb⟩; refine ⟨_, rfl, ?_⟩; have n0_ := Aside0.mk (below_step (by repeat (first | (with_reducible first | exact HB.out | apply below_alloc | apply pw_below_drewN | apply below_drew1) | exact HB.out)) hb); clear HB; have HB := n0_; clear n0_; (try clear hb); (try clear hb2); (try clear hk); (try clear hi)) | (go_at_call 49; (with_reducible refine (riffleref01_Digit.calls a1 false _ A18.out).mono ?_); rintro e w' ⟨rfl, ⟨nd, rfl⟩⟩) | (go_at_call 50; (with_reducible refine (riffleref01_Alpha.calls a1 true _ A21.out).mono ?_); rintro e w' ⟨rfl, ⟨nd, rfl⟩⟩))
                go_ret
                exact ⟨by first | rfl | (simp [errW_none, errW_some] <;> rfl) | (simp [*, errW_none, errW_some] <;> rfl), by repeat (first | (with_reducible first | exact HB.out | apply below_alloc | apply pw_below_drewN | apply below_drew1) | exact HB.out)⟩
              · replace c22 := Bool.eq_false_iff.mpr c22
                subst c22
                have H1 : (if a1 = 46 then (some 2) else (if a1 = 43 then (some 2) else (if a1 = 45 then (some 2) else (some 1)))) = some r := by rw [if_neg (show ¬ (false = true) by decide)] at H; exact H
                clear H
                have H := H1
                clear H1
                by_cases c24 : a1 = 46
                · rw [if_pos c24] at H
                  have c24b0 : (a1 == 46) = true := beq_iff_eq.mpr c24
                  have c24b1 : (a1 != 46) = false := bne_eq_false_iff_eq.mpr c24
                  clear c24
                  obtain rfl := Option.some.inj H
                  go_wp2_with (first | ((with_reducible refine gate_callee (f := 23) rfl ?_); refine goesL_ (some 19) rfl rfl Try.func23 (by kernel_rfl) rfl #[.string a0] rfl (by (try simp only [List.map_toArray, List.map_cons, List.map_nil]); first | done | rfl | (simp only [List.length_drop, List.length_take]; rfl)) ?_; (with_reducible refine (riffleref04_Is.calls kj3 a0 true _ A16.out).mono ?_); rintro e w25 ⟨rfl, hb⟩; refine ⟨_, rfl, ?_⟩; have n0_ := Aside0.mk (below_step (by repeat (first | (with_reducible first | exact HB.out | apply below_alloc | apply pw_below_drewN | apply below_drew1) | exact HB.out)) hb); clear HB; have HB := n0_; clear n0_; (try clear hb); (try clear hb2); (try clear hk); (try clear hi)) | (go_at_call 49; (with_reducible refine (riffleref01_Digit.calls a1 false _ A18.out).mono ?_); rintro e w' ⟨rfl, ⟨nd, rfl⟩⟩) | (go_at_call 50; (with_reducible refine (riffleref01_Alpha.calls a1 false _ A21.out).mono ?_); rintro e w' ⟨rfl, ⟨nd, rfl⟩⟩))
                  go_ret
                  exact ⟨by first | rfl | (simp [errW_none, errW_some] <;> rfl) | (simp [*, errW_none, errW_some] <;> rfl), by repeat (first | (with_reducible first | exact HB.out | apply below_alloc | apply pw_below_drewN | apply below_drew1) | exact HB.out)⟩
                · rw [if_neg c24] at H
                  have c24b0 : (a1 == 46) = false := beq_eq_false_iff_ne.mpr c24
                  have c24b1 : (a1 != 46) = true := bne_iff_ne.mpr c24
                  by_cases c26 : a1 = 43
                  · rw [if_pos c26] at H
                    have c26b0 : (a1 == 43) = true := beq_iff_eq.mpr c26
                    have c26b1 : (a1 != 43) = false := bne_eq_false_iff_eq.mpr c26
                    clear c26
                    obtain rfl := Option.some.inj H
                    go_wp2_with (first | ((with_reducible refine gate_callee (f := 23) rfl ?_); refine goesL_ (some 19) rfl rfl Try.func23 (by kernel_rfl) rfl #[.string a0] rfl (by (try simp only [List.map_toArray, List.map_cons, List.map_nil]); first | done | rfl | (simp only [List.length_drop, List.length_take]; rfl)) ?_; (with_reducible refine (riffleref04_Is.calls kj3 a0 true _ A16.out).mono ?_); rintro e w27 ⟨rfl, hb⟩; refine ⟨_, rfl, ?_⟩; have n0_ := Aside0.mk (below_step (by repeat (first | (with_reducible first | exact HB.out | apply below_alloc | apply pw_below_drewN | apply below_drew1) | exact HB.out)) hb); clear HB; have HB := n0_; clear n0_; (try clear hb); (try clear hb2); (try clear hk); (try clear hi)) | (go_at_call 49; (with_reducible refine (riffleref01_Digit.calls a1 false _ A18.out).mono ?_); rintro e w' ⟨rfl, ⟨nd, rfl⟩⟩) | (go_at_call 50; (with_reducible refine (riffleref01_Alpha.calls a1 false _ A21.out).mono ?_); rintro e w' ⟨rfl, ⟨nd, rfl⟩⟩))
                    go_ret
                    exact ⟨by first | rfl | (simp [errW_none, errW_some] <;> rfl) | (simp [*, errW_none, errW_some] <;> rfl), by repeat (first | (with_reducible first | exact HB.out | apply below_alloc | apply pw_below_drewN | apply below_drew1) | exact HB.out)⟩
                  · rw [if_neg c26] at H
                    have c26b0 : (a1 == 43) = false := beq_eq_false_iff_ne.mpr c26
                    have c26b1 : (a1 != 43) = true := bne_iff_ne.mpr c26
                    by_cases c28 : a1 = 45
                    · rw [if_pos c28] at H
                      have c28b0 : (a1 == 45) = true := beq_iff_eq.mpr c28
                      have c28b1 : (a1 != 45) = false := bne_eq_false_iff_eq.mpr c28
                      clear c28
                      obtain rfl := Option.some.inj H
                      go_wp2_with (first | ((with_reducible refine gate_callee (f := 23) rfl ?_); refine goesL_ (some 19) rfl rfl Try.func23 (by kernel_rfl) rfl #[.string a0] rfl (by (try simp only [List.map_toArray, List.map_cons, List.map_nil]); first | done | rfl | (simp only [List.length_drop, List.length_take]; rfl)) ?_; (with_reducible refine (riffleref04_Is.calls kj3 a0 true _ A16.out).mono ?_); rintro e w29 ⟨rfl, hb⟩; refine ⟨_, rfl, ?_⟩; have n0_ := Aside0.mk (below_step (by repeat (first | (with_reducible first | exact HB.out | apply below_alloc | apply pw_below_drewN | apply below_drew1) | exact HB.out)) hb); clear HB; have HB := n0_; clear n0_; (try clear hb); (try clear hb2); (try clear hk); (try clear hi)) | (go_at_call 49; (with_reducible refine (riffleref01_Digit.calls a1 false _ A18.out).mono ?_); rintro e w' ⟨rfl, ⟨nd, rfl⟩⟩) | (go_at_call 50; (with_reducible refine (riffleref01_Alpha.calls a1 false _ A21.out).mono ?_); rintro e w' ⟨rfl, ⟨nd, rfl⟩⟩))
                      go_ret
                      exact ⟨by first | rfl | (simp [errW_none, errW_some] <;> rfl) | (simp [*, errW_none, errW_some] <;> rfl), by repeat (first | (with_reducible first | exact HB.out | apply below_alloc | apply pw_below_drewN | apply below_drew1) | exact HB.out)⟩
                    · rw [if_neg c28] at H
                      have c28b0 : (a1 == 45) = false := beq_eq_false_iff_ne.mpr c28
                      have c28b1 : (a1 != 45) = true := bne_iff_ne.mpr c28
                      obtain rfl := Option.some.inj H
                      go_wp2_with (first | ((with_reducible refine gate_callee (f := 23) rfl ?_); refine goesL_ (some 19) rfl rfl Try.func23 (by kernel_rfl) rfl #[.string a0] rfl (by (try simp only [List.map_toArray, List.map_cons, List.map_nil]); first | done | rfl | (simp only [List.length_drop, List.length_take]; rfl)) ?_; (with_reducible refine (riffleref04_Is.calls kj3 a0 true _ A16.out).mono ?_); rintro e w30 ⟨rfl, hb⟩; refine ⟨_, rfl, ?_⟩; have n0_ := Aside0.mk (below_step (by repeat (first | (with_reducible first | exact HB.out | apply below_alloc | apply pw_below_drewN | apply below_drew1) | exact HB.out)) hb); clear HB; have HB := n0_; clear n0_; (try clear hb); (try clear hb2); (try clear hk); (try clear hi)) | (go_at_call 49; (with_reducible refine (riffleref01_Digit.calls a1 false _ A18.out).mono ?_); rintro e w' ⟨rfl, ⟨nd, rfl⟩⟩) | (go_at_call 50; (with_reducible refine (riffleref01_Alpha.calls a1 false _ A21.out).mono ?_); rintro e w' ⟨rfl, ⟨nd, rfl⟩⟩))
                      go_ret
                      exact ⟨by first | rfl | (simp [errW_none, errW_some] <;> rfl) | (simp [*, errW_none, errW_some] <;> rfl), by repeat (first | (with_reducible first | exact HB.out | apply below_alloc | apply pw_below_drewN | apply below_drew1) | exact HB.out)⟩
          · replace c17 := Bool.eq_false_iff.mpr c17
            subst c17
            have H1 : (some 2) = some r := by rw [if_neg (show ¬ (false = true) by decide)] at H; exact H
            clear H
            have H := H1
            clear H1
            obtain rfl := Option.some.inj H
            go_wp2_with (first | ((with_reducible refine gate_callee (f := 23) rfl ?_); refine goesL_ (some 19) rfl rfl Try.func23 (by kernel_rfl) rfl #[.string a0] rfl (by (try simp only [List.map_toArray, List.map_cons, List.map_nil]); first | done | rfl | (simp only [List.length_drop, List.length_take]; rfl)) ?_; (with_reducible refine (riffleref04_Is.calls kj3 a0 false _ A16.out).mono ?_); rintro e w31 ⟨rfl, hb⟩; refine ⟨_, rfl, ?_⟩; have n0_ := Aside0.mk (below_step (by repeat (first | (with_reducible first | exact HB.out | apply below_alloc | apply pw_below_drewN | apply below_drew1) | exact HB.out)) hb); clear HB; have HB := n0_; clear n0_; (try clear hb); (try clear hb2); (try clear hk); (try clear hi)))
            go_ret
            exact ⟨by first | rfl | (simp [errW_none, errW_some] <;> rfl) | (simp [*, errW_none, errW_some] <;> rfl), by repeat (first | (with_reducible first | exact HB.out | apply below_alloc | apply pw_below_drewN | apply below_drew1) | exact HB.out)⟩
  · rw [if_neg c3] at H
    exact absurd H (by simp)

-- NOT PRINTED: function 6 (rifflelaw04_NumeralWalks)

end Go.Proofs.Ytjfoppmpiklfiab.PNumeralWalks
