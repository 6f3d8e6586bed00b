/- riffleref13.Parse, strconv.ParseUint to the base 16, utf.Put and path.plain, walked. Conditions: texts of at most 1000 bytes; the variable of a bad numeral's error holds one. -/
import Derived.Test.YthfhefkacmepkaaDoorWAa
import Derived.Test.YthfhefkacmepkaaDoorShelf
import Derived.Test.YthfhefkacmepkaaDoorShelf
namespace Go.Proofs.YthfhefkacmepkaaDoor.PS
open Go.RowKit Go.Proofs.YthfhefkacmepkaaDoorW.PrintWords Go.Proofs.YthfhefkacmepkaaDoorW.PrintLast Go.Proofs.YthfhefkacmepkaaDoorW.PrintMore
open Go.Proofs.YthfhefkacmepkaaDoor.PPathPuts Go.Proofs.YthfhefkacmepkaaDoor.Beg Go.Proofs.YthfhefkacmepkaaDoor.Bld Go.Proofs.YthfhefkacmepkaaDoor.PB
open Go.Proofs.YthfhefkacmepkaaDoor.Num (L L_len L_range)
attribute [local go_sem] max2_int min2_int max_two min_two max_three min_three max_four min_four
set_option linter.unusedVariables false
set_option linter.unusedSimpArgs false
def parseTop (s : ByteArray) : Option (List S26) := if 0 < s.size ∧ bt s 0 = 36 then parseV s.size ((L s).drop 1) else none
def Answer (R : Option (List S26)) (e : Ending) (w' : World) : Prop := match R with
  | some l => ∃ v, e = .returned (.tuple #[v, .bool true]) ∧ StepsAt w' v l
  | none => e = .returned (.tuple #[.slice none 0 0, .bool false])
theorem map_snoc (o : Option (List S26)) (acc : List S26) (x : S26) : (o.map (fun t => x :: t)).map (fun t => acc ++ t) = o.map (fun t => (acc ++ [x]) ++ t) := by cases o <;> simp
theorem nameV_cons (f : Nat) (c : Int) (r : List Int) : nameV (f + 1) (c :: r) = (if c = 39 then some ([], 0) else if (oneV (c :: r)).2 = 0 then none else (nameV f ((c :: r).drop (oneV (c :: r)).2)).map fun x => ((oneV (c :: r)).1 ++ x.1, (oneV (c :: r)).2 + x.2)) := rfl
theorem nameV_more : ∀ (f g : Nat) (l : List Int), l.length < f → l.length < g → nameV f l = nameV g l
  | 0, _, l, h, _ => by omega
  | _, 0, l, _, h => by omega
  | f + 1, g + 1, [], _, _ => rfl
  | f + 1, g + 1, c :: r, h1, h2 => by
    rw [nameV_cons, nameV_cons]
    by_cases h3 : c = 39
    · rw [if_pos h3, if_pos h3]
    rw [if_neg h3, if_neg h3]
    by_cases h4 : (oneV (c :: r)).2 = 0
    · rw [if_pos h4, if_pos h4]
    rw [if_neg h4, if_neg h4, nameV_more f g _ (by rw [List.length_drop]; simp at h1 ⊢; omega) (by rw [List.length_drop]; simp at h2 ⊢; omega)]
theorem enc_le (r : Int) : (Lib.encodeRune r).length ≤ 4 := by
  have := (Lib.encodeRuneZ_length r).2
  simpa [Lib.encodeRune] using this
theorem ext_drop (s : ByteArray) (a : Nat) : L (s.extract a s.size) = (L s).drop a := Num.ext_L s a
theorem own_text2 {w : World} {B : Nat} {v : Value} {l : List UInt8} (h : w.ownsRow B 5 1 v l.length (Lib.byteCells l)) : (convert 39 9 v).run Tryd.prog w = .ok (.string ⟨l.toArray⟩) w := by
  rcases h.2 with ⟨rfl, hn⟩ | ⟨g, cap, cur, rfl, hbg, hg, hnc, hc, hsz, hx⟩
  · obtain rfl := List.length_eq_zero_iff.1 hn
    rw [run_convert_bytes_string w 39 9 5 none 0 0 Tryd.underlying39 Tryd.underlying5 Tryd.underlying9]
    rfl
  · refine run_convert_bytes_back _ 39 9 5 ⟨g, 0, none⟩ cap l Tryd.underlying39 Tryd.underlying5 Tryd.underlying9 ?_
    intro j hj
    have h1 : (Lib.byteCells l)[j]? = some (.int .u8 (l[j].toNat : Int)) := by simp [Lib.byteCells, hj]
    rw [← hx, List.getElem?_take, if_pos (by omega), Array.getElem?_toList] at h1
    have h2 := (blk_cell hg j).trans h1
    rw [show (⟨g, 0, none⟩ : Addr).add j = ⟨g, j, none⟩ by cases j <;> simp [Addr.add]]
    exact h2

set_option maxHeartbeats 32000000 in
set_option maxRecDepth 100000 in
theorem rparse_calls (s : ByteArray) (hs : s.size ≤ 1000) (w : World) :
    Calls Tryd.prog 15 #[.string s] w fun e w' => Answer (parseTop s) e w' ∧ Below w.heap.size w w' := by
  obtain ⟨i0, hi, hz0, hz1, hz2⟩ := info_parts Bld.info5
  obtain ⟨j0, hj, hy0, hy1, hy2⟩ := info_parts info26
  have hu26 := Tryd.underlying26
  have HS := Aside0.mk hs
  by_cases h0 : s.size = 0
  · have E : Aside0 (parseTop s = none) := ⟨by unfold parseTop; rw [if_neg (by omega)]⟩
    have d1 : ((s.size : Int) == 0) = true := beq_iff_eq.2 (by omega)
    have d2 : decide ((s.size : Int) = 0) = true := decide_eq_true (by omega)
    have d3 : decide (s.size = 0) = true := decide_eq_true (by omega)
    have HB := Aside0.mk (Below.refl w.heap.size w)
    clear h0 hs
    go_enter Tryd.func15, Tryd.ntmps15
    go_wp2_with (fail)
    go_ret2
    refine ⟨?_, by first | exact HB.out | exact HB.out.drew⟩
    rw [E.out]; rfl
  have d1 : ((s.size : Int) == 0) = false := beq_eq_false_iff_ne.2 (by omega)
  have d2 : decide ((s.size : Int) = 0) = false := decide_eq_false (by omega)
  have d3 : decide (s.size = 0) = false := decide_eq_false (by omega)
  have H0 : Aside0 (0 < s.size) := ⟨by omega⟩
  have hx0 : ∀ h : 0 < s.size, ((s[0]'h).toNat : Int) = bt s 0 := bt_at s 0
  obtain ⟨c0, hc0⟩ : ∃ c, bt s 0 = c := ⟨_, rfl⟩
  simp only [hc0] at hx0
  have q3 := eq_true (show 0 < s.size by omega)
  have q4 : (0 : Int) < (s.size : Int) := by omega
  by_cases h36 : c0 = 36
  rotate_left
  · have E : Aside0 (parseTop s = none) := ⟨by unfold parseTop; rw [if_neg (fun h => h36 (hc0.symm.trans h.2))]⟩
    have l1 : (c0 != 36) = true := by simp; exact h36
    have l2 : (c0 == 36) = false := by simp; exact h36
    have l3 : decide (c0 = 36) = false := by simp; exact h36
    have HB := Aside0.mk (Below.refl w.heap.size w)
    clear h0 hs h36 hc0
    go_enter Tryd.func15, Tryd.ntmps15
    go_wp2_with (fail)
    go_ret2
    refine ⟨?_, by first | exact HB.out | exact HB.out.drew⟩
    rw [E.out]; rfl
  subst h36
  obtain ⟨R, hR⟩ : ∃ R, R = parseTop s := ⟨_, rfl⟩
  have HR : Aside0 (parseV s.size ((L s).drop 1) = R) := ⟨by rw [hR]; unfold parseTop; rw [if_pos ⟨H0.out, hc0⟩]⟩
  rw [← hR]
  clear h0 hs hc0 hR
  go_enter Tryd.func15, Tryd.ntmps15
  go_wp2_with (fail)
  go_loopg [4, 5] s.size (fun kq v4 v5 w' => ∃ (pos : Nat) (acc : List S26) (vo : Value) (W : World), W = w' ∧ vo = v4 ∧ v5 = .int .i64 (pos : Int) ∧ Aside0 (s.size - pos < kq ∧ 1 ≤ pos ∧ pos ≤ s.size ∧ acc.length ≤ pos) ∧ Aside0 ((parseV kq ((L s).drop pos)).map (fun t => acc ++ t) = R) ∧ Aside0 (w'.ownsRow w.heap.size 26 3 vo acc.length (sc acc)) ∧ Aside0 (Below w.heap.size w w'))
  case atStart =>
    refine ⟨1, [], _, _, rfl, rfl, rfl, ⟨by have := H0.out; omega, by omega, by have := H0.out; omega, by simp⟩, ⟨?_⟩, ⟨World.ownsRow_lit w #[] 0 (Nat.le_refl _) (by decide) (by simp)⟩, ⟨below_alloc (Below.refl _ _) _⟩⟩
    rw [HR.out]; cases R <;> simp
  case round =>
    obtain ⟨pos, acc, vo, W, rfl, rfl, rfl, HI, HD, HO, HB⟩ := hrel
    obtain ⟨hk, hp1, hps, hal⟩ := HI.out
    have hs := HS.out
    by_cases hp : pos < s.size
    rotate_left
    · obtain ⟨f, rfl⟩ : ∃ f, gk = f + 1 := ⟨gk - 1, by omega⟩
      have E : Aside0 (R = some acc) := ⟨by rw [← HD.out, drop_end s pos hp]; simp [parseV]⟩
      have d1 : decide ((pos : Int) < (s.size : Int)) = false := by simp; omega
      have d1n : decide (pos < s.size) = false := by simp; omega
      have HM : Aside0 (acc.length ≤ maxLen) := ⟨by unfold maxLen; omega⟩
      clear hk hp1 hps hal hs hp
      go_wp2_with (fail)
      go_ret2
      refine ⟨?_, by first | exact HB.out | exact HB.out.drew⟩
      rw [E.out]
      exact ⟨_, rfl, steps_of_own HO.out HM.out⟩
    obtain ⟨f, rfl⟩ : ∃ f, gk = f + 1 := ⟨gk - 1, by omega⟩
    have HFK : Aside0 (s.size - pos < f + 1) := ⟨hk⟩
    have hltA : pos < s.size := hp
    have hdrA := drop_at s (pos) hltA
    have hxA : ∀ h : pos < s.size, ((s[pos]'h).toNat : Int) = bt s ((pos : Nat) : Int) := bt_at s ((pos : Nat) : Int)
    have hcrA := bt_ok s ((pos : Nat) : Int)
    obtain ⟨cA, hcA⟩ : ∃ c, bt s ((pos : Nat) : Int) = c := ⟨_, rfl⟩
    rw [hcA] at hdrA hcrA
    simp only [hcA] at hxA
    have iaA : (0 : Int) ≤ ((pos : Nat) : Int) := by omega
    have ibA : ((pos : Nat) : Int) < (s.size : Int) := by omega
    have icA := eq_true hltA
    have d1 : decide ((pos : Int) < (s.size : Int)) = true := by simp; omega
    have d1n : decide (pos < s.size) = true := by simp; omega
    obtain ⟨P1, hP1⟩ : ∃ P, P = pos + 1 := ⟨_, rfl⟩
    have HP1 := Aside0.mk hP1
    have W1 : Aside0 (wrap64 ((pos : Int) + 1) = (P1 : Int)) := ⟨by unfold wrap64; omega⟩
    have hD := HD.out
    rw [hdrA, parseV_cons, ← hP1] at hD
    by_cases h91 : cA = 91
    rotate_left
    · have E : Aside0 (R = none) := ⟨by rw [← hD, if_pos h91]; rfl⟩
      have l1 : (cA != 91) = true := by simp; exact h91
      have l2 : (cA == 91) = false := by simp; exact h91
      have l3 : decide (cA = 91) = false := by simp; exact h91
      clear hk hp1 hps hal hs hp hD h91 hP1 hcA hdrA hcrA hltA
      have w1 := W1.out
      go_wp2_with (fail)
      go_ret2
      refine ⟨?_, by first | exact HB.out | exact HB.out.drew⟩
      rw [E.out]; rfl
    subst h91
    rw [if_neg (by simp)] at hD
    by_cases hp2 : P1 < s.size
    rotate_left
    · have E : Aside0 (R = none) := ⟨by rw [← hD, drop_end s P1 hp2]; rfl⟩
      have l1 : decide ((s.size : Int) ≤ (P1 : Int)) = true := by simp; omega
      have l2 : decide (s.size ≤ P1) = true := by simp; omega
      clear hk hp1 hps hal hs hp hD hP1 hcA hdrA hcrA hltA hp2
      have w1 := W1.out
      go_wp2_with (fail)
      go_ret2
      refine ⟨?_, by first | exact HB.out | exact HB.out.drew⟩
      rw [E.out]; rfl
    have hltB : P1 < s.size := hp2
    have hdrB := drop_at s (P1) hltB
    have hxB : ∀ h : P1 < s.size, ((s[P1]'h).toNat : Int) = bt s ((P1 : Nat) : Int) := bt_at s ((P1 : Nat) : Int)
    have hcrB := bt_ok s ((P1 : Nat) : Int)
    obtain ⟨cB, hcB⟩ : ∃ c, bt s ((P1 : Nat) : Int) = c := ⟨_, rfl⟩
    rw [hcB] at hdrB hcrB
    simp only [hcB] at hxB
    have iaB : (0 : Int) ≤ ((P1 : Nat) : Int) := by omega
    have ibB : ((P1 : Nat) : Int) < (s.size : Int) := by omega
    have icB := eq_true hltB
    have e1 : decide ((s.size : Int) ≤ (P1 : Int)) = false := by simp; omega
    have e2 : decide (s.size ≤ P1) = false := by simp; omega
    rw [hdrB] at hD
    simp only at hD
    by_cases h39 : cB = 39
    rotate_left
    · have l1 : (cB != 39) = true := by simp; exact h39
      have l2 : (cB == 39) = false := by simp; exact h39
      have l3 : decide (cB = 39) = false := by simp; exact h39
      rw [if_pos h39, ← hdrB] at hD
      have HNC := Aside0.mk (num_calls (s.extract P1 s.size) (by rw [ByteArray.size_extract]; omega))
      rw [ext_drop] at HNC
      have hnt := numV_tells ((L s).drop P1)
      obtain ⟨v, n, hvn⟩ : ∃ v n, numV ((L s).drop P1) = (v, n) := ⟨_, _, rfl⟩
      rw [hvn] at HNC hnt hD
      simp only at HNC hnt hD
      rw [List.length_drop, L_len] at hnt
      have m0 : (P1 : Int) ≤ (s.size : Int) := by omega
      have m1 : P1 ≤ s.size := by omega
      have HNT := Aside0.mk hnt
      have HDD := Aside0.mk hD
      have HP2b := Aside0.mk hp2
      clear hk hp1 hps hal hs hp hD hP1 hcA hdrA hcrA hltA hp2 hltB hdrB hcrB hcB h39 hnt hvn
      have w1 := W1.out
      go_wp2_with (fail)
      go_at_call 32
      refine (HNC.out _).mono ?_
      rintro e w3 ⟨rfl, hb⟩
      have HB3 := Aside0.mk (below_step HB.out hb)
      have HO3 : Aside0 (w3.ownsRow w.heap.size 26 3 vo acc.length (sc acc)) := ⟨own_below HO.out hb⟩
      clear hb HO HNC w1 hxA iaA ibA icA hxB iaB ibB icB l1 l2 l3 e1 e2 d1 d1n m0 m1
      have hnt := HNT.out
      have hD := HDD.out
      have hs := HS.out
      have hP1 := HP1.out
      have hk := HFK.out
      have hal := HI.out
      have hp2 := HP2b.out
      by_cases hn0 : n = 0
      · subst hn0
        have E : Aside0 (R = none) := ⟨by rw [← hD, if_pos (.inl rfl)]; rfl⟩
        clear hnt hD hs hP1 hk hal hp2
        have w1 := W1.out
        go_wp2_with (fail)
        go_ret2
        refine ⟨?_, by first | exact HB3.out | exact HB3.out.drew⟩
        rw [E.out]; rfl
      have hnb := (hnt hn0).2.2.1
      have hvb := (hnt hn0).1
      have n1 : ((n : Int) == 0) = false := by simp; exact hn0
      have n2 : decide ((n : Int) = 0) = false := by simp; exact hn0
      have n3 : decide (n = 0) = false := by simp; exact hn0
      obtain ⟨P2, hP2⟩ : ∃ P, P = P1 + n := ⟨_, rfl⟩
      have W2 : Aside0 (wrap64 ((P1 : Int) + (n : Int)) = (P2 : Int)) := ⟨by unfold wrap64; omega⟩
      rw [List.drop_drop, ← hP2] at hD
      by_cases hp3 : P2 < s.size
      rotate_left
      · have E : Aside0 (R = none) := ⟨by rw [← hD, drop_end s P2 hp3, if_pos (.inr (by simp))]; rfl⟩
        have k1 : decide ((s.size : Int) ≤ (P2 : Int)) = true := by simp; omega
        have k2 : decide (s.size ≤ P2) = true := by simp; omega
        clear hnt hD hs hP1 hk hal hp2 hP2 hn0 hnb hvb hp3
        have w1 := W1.out
        have w2 := W2.out
        go_wp2_with (fail)
        go_ret2
        refine ⟨?_, by first | exact HB3.out | exact HB3.out.drew⟩
        rw [E.out]; rfl
      have hltC : P2 < s.size := hp3
      have hdrC := drop_at s (P2) hltC
      have hxC : ∀ h : P2 < s.size, ((s[P2]'h).toNat : Int) = bt s ((P2 : Nat) : Int) := bt_at s ((P2 : Nat) : Int)
      have hcrC := bt_ok s ((P2 : Nat) : Int)
      obtain ⟨cC, hcC⟩ : ∃ c, bt s ((P2 : Nat) : Int) = c := ⟨_, rfl⟩
      rw [hcC] at hdrC hcrC
      simp only [hcC] at hxC
      have iaC : (0 : Int) ≤ ((P2 : Nat) : Int) := by omega
      have ibC : ((P2 : Nat) : Int) < (s.size : Int) := by omega
      have icC := eq_true hltC
      have k1 : decide ((s.size : Int) ≤ (P2 : Int)) = false := by simp; omega
      have k2 : decide (s.size ≤ P2) = false := by simp; omega
      rw [hdrC] at hD
      by_cases h93 : cC = 93
      rotate_left
      · have E : Aside0 (R = none) := ⟨by rw [← hD, if_pos (.inr (by simpa using h93))]; rfl⟩
        have g1 : (cC != 93) = true := by simp; exact h93
        have g2 : (cC == 93) = false := by simp; exact h93
        have g3 : decide (cC = 93) = false := by simp; exact h93
        clear hnt hD hs hP1 hk hal hp2 hP2 hn0 hnb hvb hp3 hltC hdrC hcrC hcC h93
        have w1 := W1.out
        have w2 := W2.out
        go_wp2_with (fail)
        go_ret2
        refine ⟨?_, by first | exact HB3.out | exact HB3.out.drew⟩
        rw [E.out]; rfl
      subst h93
      rw [if_neg (by simp [hn0]), map_snoc, List.drop_drop] at hD
      obtain ⟨n1, hn1⟩ : ∃ k, k = n + 1 := ⟨_, rfl⟩
      obtain ⟨P3, hP3⟩ : ∃ P, P = P1 + n1 := ⟨_, rfl⟩
      rw [← hn1, ← hP3] at hD
      have HD2 := Aside0.mk hD
      have W3 : Aside0 (wrap64 ((n : Int) + 1) = (n1 : Int)) := ⟨by unfold wrap64; omega⟩
      have W4 : Aside0 (wrap64 ((P1 : Int) + (n1 : Int)) = (P3 : Int)) := ⟨by unfold wrap64; omega⟩
      have HF2 : Aside0 (s.size - P3 < f ∧ P3 ≤ s.size ∧ acc.length ≤ pos ∧ pos ≤ 1000 ∧ pos + 2 ≤ P3) := ⟨by omega⟩
      clear hnt hD hs hP1 hk hal hp2 hP2 hn0 hnb hvb hp3 hltC hdrC hcrC hcC hn1 hP3
      have w1 := W1.out
      have w2 := W2.out
      go_wp2_with (at_builtin; refine wpList_append_own _ rfl _ _ 22 rfl w.heap.size 26 j0 stepZ 3 32 Tryd.underlying22 hj hy0 hy1 hy2 rfl (by decide) _ _ _ rfl (HO3.out.alloc _) ⟨w3.heap.size, 0, none⟩ 1 1 (sc1 ⟨false, ⟨#[]⟩, (v : Int)⟩) rfl rfl (step_cells _ ⟨false, ⟨#[]⟩, (v : Int)⟩) ?c2 ?c3 ?c4 ?c5 ?_)
      case c2 => exact sc_one _
      case c3 => have := HF2.out; unfold maxLen; omega
      case c4 => have := HF2.out; omega
      case c5 => have := HB3.out.size; simp; omega
      intro v' w2 hown' hgrow _
      have HO2 := Aside0.mk (steps_snoc hown')
      have HB2 := Aside0.mk (grown_below3 (below_alloc HB3.out _) (by have := HB3.out.size; simp; omega) (HO3.out.alloc _) hgrow)
      clear hown' hgrow
      have w3 := W3.out
      have w4 := W4.out
      go_wp2_with (fail)
      go_roundg f
      case measure => omega
      case rel =>
        have h2 := HF2.out
        exact ⟨P3, acc ++ [⟨false, ⟨#[]⟩, (v : Int)⟩], _, _, rfl, rfl, by first | rfl | rw [W4.out], ⟨h2.1, by omega, h2.2.1, by rw [List.length_append]; simp; omega⟩, HD2, HO2, HB2⟩
    subst h39
    rw [if_neg (by simp)] at hD
    obtain ⟨P2, hP2⟩ : ∃ P, P = P1 + 1 := ⟨_, rfl⟩
    rw [← hP2] at hD
    have W2 : Aside0 (wrap64 ((P1 : Int) + 1) = (P2 : Int)) := ⟨by unfold wrap64; omega⟩
    obtain ⟨RN, hRN⟩ : ∃ RN, nameV (((L s).drop P2).length + 1) ((L s).drop P2) = RN := ⟨_, rfl⟩
    rw [hRN] at hD
    have HDD := Aside0.mk hD
    have HRN := Aside0.mk hRN
    have HPP : Aside0 (P2 = pos + 2 ∧ P2 ≤ s.size) := ⟨by omega⟩
    clear hk hp1 hps hal hs hp hD hP1 hcA hdrA hcrA hltA hp2 hltB hdrB hcrB hcB hP2 hRN
    have w1 := W1.out
    have w2 := W2.out
    go_upto_block 2 with (fail)
    clear w1 w2 hxA iaA ibA icA hxB iaB ibB icB e1 e2 d1 d1n
    go_cut [5, 8] (fun v5 v8 wc => ∃ (q : Nat) (nm : List UInt8) (vn : Value), v5 = .int .i64 (q : Int) ∧ v8 = vn ∧ Aside0 (RN = some (nm, q - P2) ∧ P2 ≤ q ∧ q ≤ s.size ∧ nm.length ≤ 4000) ∧ Aside0 (wc.ownsRow w.heap.size 26 3 vo acc.length (sc acc)) ∧ Aside0 (wc.ownsRow w.heap.size 5 1 vn nm.length (Lib.byteCells nm)) ∧ Aside0 (Below w.heap.size w wc))
    case first =>
      go_wp2_with (fail)
      go_loopg [5, 8] (s.size + 1) (fun kq v5 v8 w' => ∃ (q : Nat) (nm : List UInt8) (vn : Value) (W' : World), W' = w' ∧ vn = v8 ∧ v5 = .int .i64 (q : Int) ∧ Aside0 (s.size - q < kq ∧ P2 ≤ q ∧ q ≤ s.size ∧ nm.length ≤ 4 * (q - P2)) ∧ Aside0 ((nameV kq ((L s).drop q)).map (fun x => (nm ++ x.1, (q - P2) + x.2)) = RN) ∧ Aside0 (w'.ownsRow w.heap.size 26 3 vo acc.length (sc acc)) ∧ Aside0 (w'.ownsRow w.heap.size 5 1 vn nm.length (Lib.byteCells nm)) ∧ Aside0 (Below w.heap.size w w'))
      case atStart =>
        refine ⟨P2, [], _, _, rfl, rfl, by first | rfl | rw [W2.out], ⟨by have := HPP.out; omega, by omega, HPP.out.2, by simp⟩, ⟨?_⟩, ⟨HO.out.alloc _⟩, ⟨World.ownsRow_lit W #[] 0 (by have := HB.out.size; omega) (by decide) (by simp)⟩, ⟨below_alloc HB.out _⟩⟩
        rw [← HRN.out, nameV_more (s.size + 1) (((L s).drop P2).length + 1) ((L s).drop P2) (by rw [List.length_drop, L_len]; omega) (Nat.lt_succ_self _)]
        cases nameV (((L s).drop P2).length + 1) ((L s).drop P2) <;> simp
      case round =>
        clear HO HB
        obtain ⟨q, nm, vn, W', rfl, rfl, rfl, HJ, HN, HO, HNM, HB⟩ := hrel
        obtain ⟨jk, jp, jq, jl⟩ := HJ.out
        have hs := HS.out
        obtain ⟨g, rfl⟩ : ∃ g, gk = g + 1 := ⟨gk - 1, by omega⟩
        have hN := HN.out
        by_cases hq : q < s.size
        rotate_left
        · have E : Aside0 (RN = some (nm, q - P2)) := ⟨by rw [← hN, drop_end s q hq]; simp [nameV]⟩
          have HL4 : Aside0 (P2 ≤ q ∧ q ≤ s.size ∧ nm.length ≤ 4000) := ⟨by omega⟩
          have d1 : decide ((q : Int) < (s.size : Int)) = false := by simp; omega
          have d1n : decide (q < s.size) = false := by simp; omega
          clear jk jp jq jl hs hN hq
          go_wp2_with (fail)
          go_meet
          case rel => exact ⟨q, nm, _, rfl, rfl, ⟨E.out, HL4.out⟩, HO, HNM, HB⟩
        have hltD : q < s.size := hq
        have hdrD := drop_at s (q) hltD
        have hxD : ∀ h : q < s.size, ((s[q]'h).toNat : Int) = bt s ((q : Nat) : Int) := bt_at s ((q : Nat) : Int)
        have hcrD := bt_ok s ((q : Nat) : Int)
        obtain ⟨cD, hcD⟩ : ∃ c, bt s ((q : Nat) : Int) = c := ⟨_, rfl⟩
        rw [hcD] at hdrD hcrD
        simp only [hcD] at hxD
        have iaD : (0 : Int) ≤ ((q : Nat) : Int) := by omega
        have ibD : ((q : Nat) : Int) < (s.size : Int) := by omega
        have icD := eq_true hltD
        have d1 : decide ((q : Int) < (s.size : Int)) = true := by simp; omega
        have d1n : decide (q < s.size) = true := by simp; omega
        by_cases h39 : cD = 39
        · have E : Aside0 (RN = some (nm, q - P2)) := ⟨by rw [← hN, hdrD, nameV_cons, if_pos h39]; simp⟩
          have HL4 : Aside0 (P2 ≤ q ∧ q ≤ s.size ∧ nm.length ≤ 4000) := ⟨by omega⟩
          have l1 : (cD != 39) = false := by simp; exact h39
          have l2 : (cD == 39) = true := by simp; exact h39
          have l3 : decide (cD = 39) = true := by simp; exact h39
          clear jk jp jq jl hs hN hq hltD hdrD hcrD hcD h39
          go_wp2_with (fail)
          go_meet
          case rel => exact ⟨q, nm, _, rfl, rfl, ⟨E.out, HL4.out⟩, HO, HNM, HB⟩
        have l1 : (cD != 39) = true := by simp; exact h39
        have l2 : (cD == 39) = false := by simp; exact h39
        have l3 : decide (cD = 39) = false := by simp; exact h39
        have HOC := Aside0.mk (one_calls (s.extract q s.size) (by rw [ByteArray.size_extract]; omega) (by rw [ByteArray.size_extract]; omega))
        rw [ext_drop] at HOC
        have hot := oneV_tells ((L s).drop q) (fun x hx => L_range s x (List.mem_of_mem_drop hx))
        rw [hdrD, nameV_cons, if_neg h39, ← hdrD] at hN
        obtain ⟨b, n, hbn⟩ : ∃ b n, oneV ((L s).drop q) = (b, n) := ⟨_, _, rfl⟩
        rw [hbn] at HOC hot hN
        simp only at HOC hot hN
        rw [List.length_drop, L_len] at hot
        have m0 : (q : Int) ≤ (s.size : Int) := by omega
        have m1 : q ≤ s.size := by omega
        have HOT := Aside0.mk hot
        have HNN := Aside0.mk hN
        clear jk jp jq jl hs hN hq hltD hdrD hcrD hcD h39 hot hbn
        go_wp2_with (fail)
        go_at_call 33
        refine (HOC.out _).mono ?_
        rintro e w3 ⟨⟨v, rfl, hrd⟩, hb⟩
        have HB3 := Aside0.mk (below_step HB.out hb)
        have HO3 : Aside0 (w3.ownsRow w.heap.size 26 3 vo acc.length (sc acc)) := ⟨own_below HO.out hb⟩
        have HN3 : Aside0 (w3.ownsRow w.heap.size 5 1 vn nm.length (Lib.byteCells nm)) := ⟨own_below HNM.out hb⟩
        have HRD := Aside0.mk hrd
        clear hb hrd HO HB HNM HOC hxD iaD ibD icD l1 l2 l3 d1 d1n m0 m1
        by_cases hn0 : n = 0
        · subst hn0
          have E : Aside0 (R = none) := ⟨by
            have h1 := HNN.out
            rw [if_pos rfl] at h1
            have h2 : none = RN := h1
            rw [← HDD.out, ← h2]; rfl⟩
          go_wp2_with (fail)
          go_ret2
          refine ⟨?_, by first | exact HB3.out | exact HB3.out.drew⟩
          rw [E.out]; rfl
        have hn1 : ((n : Int) == 0) = false := by simp; exact hn0
        have hn2 : decide ((n : Int) = 0) = false := by simp; exact hn0
        have hn3 : decide (n = 0) = false := by simp; exact hn0
        obtain ⟨x, t1, t2, t3, t4, t5⟩ := HOT.out hn0
        have hbl : b.length ≤ 4 := by rw [t3]; exact enc_le _
        obtain ⟨jk, jp, jq, jl⟩ := HJ.out
        have hs := HS.out
        obtain ⟨q2, hq2⟩ : ∃ k, k = q + n := ⟨_, rfl⟩
        have W5 : Aside0 (wrap64 ((q : Int) + (n : Int)) = (q2 : Int)) := ⟨by unfold wrap64; omega⟩
        have HQ2 : Aside0 (s.size - q2 < g ∧ P2 ≤ q2 ∧ q2 ≤ s.size ∧ nm.length + b.length ≤ 4 * (q2 - P2) ∧ q2 ≤ 1000) := ⟨by omega⟩
        have hN := HNN.out
        rw [if_neg hn0, List.drop_drop, ← hq2, Option.map_map] at hN
        have hN2 : (nameV g ((L s).drop q2)).map (fun x => ((nm ++ b) ++ x.1, (q2 - P2) + x.2)) = RN := by
          rw [← hN]
          congr 1
          funext x
          simp only [Function.comp, List.append_assoc]
          congr 1
          omega
        have HN2 := Aside0.mk hN2
        have hrd := HRD.out hn0
        obtain ⟨ad, cap, rfl, hcells⟩ := hrd
        have HCE := Aside0.mk hcells
        obtain ⟨m, hm⟩ : ∃ m, m = b.length := ⟨_, rfl⟩
        rw [← hm]
        have HM := Aside0.mk hm
        have HNE := Aside0.mk (own_ne HO3.out HN3.out (by decide))
        clear t1 t2 t3 t4 t5 hbl jk jp jq jl hs hq2 hN hN2 hcells hm hn0
        go_wp2_with (at_builtin; refine wpList_append_own _ rfl _ _ 39 rfl w.heap.size 5 i0 (.int .u8 0) 1 1 Tryd.underlying39 hi hz0 hz1 hz2 rfl (by decide) _ _ _ rfl HN3.out ad m cap (Lib.byteCells b) rfl (by rw [Lib.byteCells_length, HM.out]; omega) HCE.out (byteCells_one b) ?c3 ?c4 ?c5 ?_)
        case c3 => have := HQ2.out; have := HM.out; unfold maxLen; omega
        case c4 => have := HQ2.out; have := HM.out; omega
        case c5 => exact HB3.out.size
        intro v' w2 hown' hgrow _
        have HN4 := Aside0.mk (own_cells (new := b) hown' rfl HM.out)
        have HO4 : Aside0 (w2.ownsRow w.heap.size 26 3 vo acc.length (sc acc)) := ⟨HO3.out.kept hgrow HNE.out⟩
        have HB4 := Aside0.mk (grown_below' HB3.out HB3.out.size HN3.out hgrow)
        clear hown' hgrow
        have w5 := W5.out
        (first | go_wp2_with (fail) | skip)
        go_roundg g
        case measure => omega
        case rel =>
          have h2 := HQ2.out
          exact ⟨q2, nm ++ b, _, _, rfl, rfl, by first | rfl | rw [W5.out], ⟨h2.1, h2.2.1, h2.2.2.1, by rw [List.length_append]; omega⟩, HN2, HO4, HN4, HB4⟩
    case rest =>
      clear HO HB
      obtain ⟨q, nm, vn, rfl, rfl, HQ, HO, HNM, HB⟩ := hcut
      obtain ⟨hrn, hq1, hq2, hnl⟩ := HQ.out
      have hD := HDD.out
      have hs := HS.out
      have hk := HFK.out
      have hal := HI.out
      have hpp := HPP.out
      rw [hrn] at hD
      simp only [List.drop_drop] at hD
      obtain ⟨q1, he1⟩ : ∃ k, k = q + 1 := ⟨_, rfl⟩
      rw [show P2 + (q - P2) + 1 = q1 by omega, show P2 + (q - P2 + 2) = q1 + 1 by omega] at hD
      have W6 : Aside0 (wrap64 ((q : Int) + 1) = (q1 : Int)) := ⟨by unfold wrap64; omega⟩
      by_cases hp3 : q1 < s.size
      rotate_left
      · have E : Aside0 (R = none) := ⟨by rw [← hD, drop_end s q1 hp3, if_pos (by simp)]; rfl⟩
        have k1 : decide ((s.size : Int) ≤ (q1 : Int)) = true := by simp; omega
        have k2 : decide (s.size ≤ q1) = true := by simp; omega
        clear hrn hq1 hq2 hnl hD hs hk hal hpp he1 hp3
        have w6 := W6.out
        go_wp2_with (fail)
        go_ret2
        refine ⟨?_, by first | exact HB.out | exact HB.out.drew⟩
        rw [E.out]; rfl
      have hltC : q1 < s.size := hp3
      have hdrC := drop_at s (q1) hltC
      have hxC : ∀ h : q1 < s.size, ((s[q1]'h).toNat : Int) = bt s ((q1 : Nat) : Int) := bt_at s ((q1 : Nat) : Int)
      have hcrC := bt_ok s ((q1 : Nat) : Int)
      obtain ⟨cC, hcC⟩ : ∃ c, bt s ((q1 : Nat) : Int) = c := ⟨_, rfl⟩
      rw [hcC] at hdrC hcrC
      simp only [hcC] at hxC
      have iaC : (0 : Int) ≤ ((q1 : Nat) : Int) := by omega
      have ibC : ((q1 : Nat) : Int) < (s.size : Int) := by omega
      have icC := eq_true hltC
      have k1 : decide ((s.size : Int) ≤ (q1 : Int)) = false := by simp; omega
      have k2 : decide (s.size ≤ q1) = false := by simp; omega
      rw [hdrC] at hD
      by_cases h93 : cC = 93
      rotate_left
      · have E : Aside0 (R = none) := ⟨by rw [← hD, if_pos (by simpa using h93)]; rfl⟩
        have g1 : (cC != 93) = true := by simp; exact h93
        have g2 : (cC == 93) = false := by simp; exact h93
        have g3 : decide (cC = 93) = false := by simp; exact h93
        clear hrn hq1 hq2 hnl hD hs hk hal hpp he1 hp3 hltC hdrC hcrC hcC h93
        have w6 := W6.out
        go_wp2_with (fail)
        go_ret2
        refine ⟨?_, by first | exact HB.out | exact HB.out.drew⟩
        rw [E.out]; rfl
      subst h93
      rw [if_neg (by simp), map_snoc] at hD
      obtain ⟨q2, he2⟩ : ∃ k, k = q + 2 := ⟨_, rfl⟩
      rw [show q1 + 1 = q2 by omega] at hD
      have HD2 := Aside0.mk hD
      have W7 : Aside0 (wrap64 ((q : Int) + 2) = (q2 : Int)) := ⟨by unfold wrap64; omega⟩
      have HF2 : Aside0 (s.size - q2 < f ∧ q2 ≤ s.size ∧ acc.length ≤ pos ∧ pos ≤ 1000 ∧ pos + 2 ≤ q2) := ⟨by omega⟩
      have hcv := own_text2 HNM.out
      have HS1 : Aside0 (nm.length ≤ 4000) := ⟨hnl⟩
      clear hrn hq1 hq2 hnl hD hs hk hal hpp he1 he2 hp3 hltC hdrC hcrC hcC
      have w6 := W6.out
      go_wp2_with (at_builtin; refine wpList_append_own _ rfl _ _ 22 rfl w.heap.size 26 j0 stepZ 3 32 Tryd.underlying22 hj hy0 hy1 hy2 rfl (by decide) _ _ _ rfl (HO.out.alloc _) ⟨wc.heap.size, 0, none⟩ 1 1 (sc1 ⟨true, ⟨nm.toArray⟩, 0⟩) rfl rfl (step_cells _ ⟨true, ⟨nm.toArray⟩, 0⟩) ?c2 ?c3 ?c4 ?c5 ?_)
      case c2 => exact sc_one _
      case c3 => have := HF2.out; unfold maxLen; omega
      case c4 => have := HF2.out; omega
      case c5 => have := HB.out.size; simp; omega
      intro v' w2 hown' hgrow _
      have HO2 := Aside0.mk (steps_snoc hown')
      have HB2 := Aside0.mk (grown_below3 (below_alloc HB.out _) (by have := HB.out.size; simp; omega) (HO.out.alloc _) hgrow)
      clear hown' hgrow w6
      have w7 := W7.out
      go_wp2_with (fail)
      go_roundg f
      case measure => omega
      case rel =>
        have h2 := HF2.out
        exact ⟨q2, acc ++ [⟨true, ⟨nm.toArray⟩, 0⟩], _, _, rfl, rfl, by first | rfl | rw [W7.out], ⟨h2.1, by omega, h2.2.1, by rw [List.length_append]; simp; omega⟩, HD2, HO2, HB2⟩
end Go.Proofs.YthfhefkacmepkaaDoor.PS
namespace Go.Proofs.YthfhefkacmepkaaDoor.PS
open Go.RowKit Go.Proofs.YthfhefkacmepkaaDoorW.PrintWords Go.Proofs.YthfhefkacmepkaaDoorW.PrintLast Go.Proofs.YthfhefkacmepkaaDoorW.PrintMore
open Go.Proofs.YthfhefkacmepkaaDoor.PPathPuts Go.Proofs.YthfhefkacmepkaaDoor.Beg Go.Proofs.YthfhefkacmepkaaDoor.Bld Go.Proofs.YthfhefkacmepkaaDoor.PB
open Go.Proofs.YthfhefkacmepkaaDoor.Num (L L_len L_range)
attribute [local go_sem] max2_int min2_int max_two min_two max_three min_three max_four min_four
set_option linter.unusedVariables false
set_option linter.unusedSimpArgs false
def hexN : List Int → Nat → Option Nat
  | [], n => some n
  | c :: r, n => match hexD c with
    | none => none
    | some d => hexN r (n * 16 + d)
theorem hexV_N (a b c d : Int) : hexV [a, b, c, d] = (hexN [a, b, c, d] 0).getD 0 := by
  unfold hexV
  simp only [hexN]
  cases hexD a <;> cases hexD b <;> cases hexD c <;> cases hexD d <;> simp
theorem hexV_L (t : ByteArray) (h : t.size = 4) : hexV (L t) = (hexN (L t) 0).getD 0 := by
  have hl := L_len t
  match h2 : L t with
  | [] => rw [h2] at hl; simp at hl; omega
  | [_] => rw [h2] at hl; simp at hl; omega
  | [_, _] => rw [h2] at hl; simp at hl; omega
  | [_, _, _] => rw [h2] at hl; simp at hl; omega
  | [a, b, c, d] => exact hexV_N a b c d
  | _ :: _ :: _ :: _ :: _ :: _ => rw [h2] at hl; simp at hl; omega
def low (c : Nat) : Int := Go.bits .or .u8 (c : Int) 32
theorem low_hex : ∀ c : Fin 256, 0 ≤ low c.val ∧ low c.val < 256 ∧ (¬ (48 ≤ c.val ∧ c.val ≤ 57) → hexD ((c.val : Nat) : Int) = if 97 ≤ low c.val ∧ low c.val ≤ 102 then some (low c.val - 87).toNat else none) := by decide +kernel
theorem low_calls (c : Nat) (w : World) : Calls Tryd.prog 68 #[.int .u8 (c : Int)] w fun e w' => e = .returned (.int .u8 (low c)) ∧ Below w.heap.size w w' := by
  refine (NSm.strconv_lower.calls (c : Int) (low c) w rfl).mono (fun e w' h => ⟨h.1, ?_⟩)
  obtain ⟨n, rfl⟩ := h.2
  exact pw_below_drewN (Below.refl _ _) n
theorem pow16 (j : Nat) (h : j ≤ 3) : 16 ^ j ≤ 4096 := Nat.le_trans (Nat.pow_le_pow_right (by omega) h) (by decide)
theorem bytes_cell (w : World) (t : ByteArray) (cap : Nat) (o : Nat × Nat) (i : Nat) (h : i < t.size) : (w.alloc (.cells (bytesRow t cap) 5 o)).drew.cell? ⟨w.heap.size, i, none⟩ = some (.int .u8 (bt t (i : Int))) := by
  obtain ⟨ad, c2, he, hc⟩ := reads_conv w t cap t.size o rfl
  simp only [Value.slice.injEq, Option.some.injEq] at he
  obtain ⟨rfl, _⟩ := he
  have h1 := hc i (.int .u8 (t.data[i].toNat : Int)) (by simp [Lib.byteCells]; exact ⟨t.data[i], Array.getElem?_eq_getElem h, rfl⟩)
  have e : (⟨w.heap.size, 0, none⟩ : Addr).add i = ⟨w.heap.size, i, none⟩ := by cases i <;> simp [Addr.add]
  rw [e] at h1
  have e2 : bt t (i : Int) = (t.data[i].toNat : Int) := by unfold bt; simp only [Int.toNat_natCast]; rw [dif_pos h]; rfl
  rw [e2]
  exact h1
theorem hcell_below {w w' : World} {a : Addr} {v : Value} (hb : Below w.heap.size w w') (h : w.cell? a = some v) : w'.cell? a = some v := (hb.cell (World.block_lt_of_cell? w _ h)).trans h
def puOut : Option Nat → Value
  | some n => .tuple #[.int .u64 (n : Int), .nilIface]
  | none => .tuple #[.int .u64 0, .iface 85 (.int .i64 2)]
theorem low95 : low 95 = 127 := by decide +kernel
theorem hex95 : hexD ((95 : Nat) : Int) = none := by decide
set_option maxHeartbeats 16000000 in
set_option maxRecDepth 100000 in
theorem pu_calls (t : ByteArray) (hs : t.size = 4) (w : World) :
    Calls Tryd.prog 57 #[.string t, .int .i64 16, .int .i64 16] w fun e w' => e = .returned (puOut (hexN (L t) 0)) ∧ Below w.heap.size w w' := by
  obtain ⟨R, hR⟩ : ∃ R, hexN (L t) 0 = R := ⟨_, rfl⟩
  rw [hR]
  have HR := Aside0.mk hR
  have HS := Aside0.mk hs
  have b0 : (t.toList == ([] : List UInt8)) = false := by
    rw [ByteArray.toList_eq]
    cases h : t.data.toList with
    | nil => have : t.size = 0 := by have := congrArg List.length h; simpa using this
             omega
    | cons a b => rfl
  have hcv := run_bytes_of_string (P := Tryd.prog) w 9 39 5 t Tryd.underlying9 Tryd.underlying39 Tryd.underlying5
  clear hs hR
  go_enter Tryd.func57, Tryd.ntmps57
  go_upto_block 3 with (fail)
  go_wp2_with (fail)
  go_loopg [12, 13, 101] 4 (fun kq v12 v13 v101 w' => ∃ (j n : Nat) (W : World), W = w' ∧ v12 = .bool false ∧ v13 = .int .u64 (n : Int) ∧ v101 = .int .i64 (j : Int) ∧ Aside0 (j + kq = 4 ∧ n < 16 ^ j) ∧ Aside0 (hexN ((L t).drop j) n = R) ∧ Aside0 (∀ i : Nat, i < 4 → w'.cell? ⟨w.heap.size, i, none⟩ = some (.int .u8 (bt t (i : Int)))) ∧ Aside0 (Below w.heap.size w w'))
  case atStart =>
    refine ⟨0, 0, _, rfl, rfl, rfl, rfl, ⟨by omega, by decide⟩, ⟨by rw [List.drop_zero]; exact HR.out⟩, ⟨fun i hi => ?_⟩, ⟨by first | exact below_alloc (Below.refl _ _).drew _ | exact (below_alloc (Below.refl _ _) _).drew⟩⟩
    exact bytes_cell w t _ _ i (by have := HS.out; omega)
  case round =>
    obtain ⟨j, n, W, rfl, rfl, rfl, rfl, HI, HN, HC, HB⟩ := hrel
    obtain ⟨hj, hn⟩ := HI.out
    have hs := HS.out
    cases gk with
    | zero =>
      have hj4 : j = 4 := by omega
      have E : Aside0 (R = some n) := ⟨by rw [← HN.out, hj4, drop_end t 4 (by omega)]; rfl⟩
      have d1 : decide ((j : Int) < (t.size : Int)) = false := by simp; omega
      have d1n : decide (j < t.size) = false := by simp; omega
      clear hj hn hs hj4
      go_wp2_with (fail)
      go_ret2
      rw [E.out]
      exact ⟨rfl, by first | exact HB.out | exact HB.out.drew⟩
    | succ f =>
    have hlt : j < t.size := by omega
    have hdr := drop_at t j hlt
    have hcr := bt_ok t (j : Int)
    have hcell := HC.out j (by omega)
    obtain ⟨c, hc⟩ : ∃ c : Nat, bt t (j : Int) = (c : Int) := ⟨(bt t (j : Int)).toNat, by omega⟩
    rw [hc] at hdr hcr hcell
    have hN := HN.out
    rw [hdr] at hN
    have hc256 : c < 256 := by omega
    have hl := low_hex ⟨c, hc256⟩
    simp only at hl
    have hn4 : n < 4096 := Nat.lt_of_lt_of_le hn (pow16 j (by omega))
    have d1 : decide ((j : Int) < (t.size : Int)) = true := by simp; omega
    have d1n : decide (j < t.size) = true := by simp; omega
    have i1 : (0 : Int) ≤ (j : Int) := by omega
    have i2 : (j : Int) < (t.size : Int) := by omega
    have i2n := eq_true hlt
    have HLC := Aside0.mk (low_calls c)
    have HJ9 : Aside0 (j + 1 + f = 4) := ⟨by omega⟩
    by_cases h95 : c = 95
    rotate_left
    have q1 : ((c : Int) == 95) = false := beq_eq_false_iff_ne.2 (by omega)
    have q2 : decide ((c : Int) = 95) = false := decide_eq_false (by omega)
    have q3 : (c == 95) = false := beq_eq_false_iff_ne.2 h95
    rotate_left
    · subst h95
      have hhx := hex95
      rw [low95] at HLC
      have hd : True := trivial
      have E : Aside0 (R = none) := ⟨by rw [← hN]; simp only [hexN, hhx]⟩
      clear hj hn hs hlt hdr hcr hc hN hc256 hl hn4 hd hhx
      go_wp2_with (fail)
      go_at_call 68
      refine (HLC.out _).mono ?_
      rintro e w3 ⟨rfl, hb⟩
      have HB2 := Aside0.mk (below_step HB.out hb)
      clear hb HB
      have HB := HB2
      clear HB2
      go_wp2_with (fail)
      go_at_call 68
      refine (HLC.out _).mono ?_
      rintro e w3 ⟨rfl, hb⟩
      have HB2 := Aside0.mk (below_step HB.out hb)
      clear hb HB
      have HB := HB2
      clear HB2
      go_wp2_with (fail)
      go_ret2
      rw [E.out]
      exact ⟨rfl, by first | exact HB.out | exact HB.out.drew⟩
    by_cases hd : 48 ≤ c ∧ c ≤ 57
    · have hhx : hexD (c : Int) = some (c - 48) := by unfold hexD; rw [if_pos (by omega)]; congr 1; omega
      have wj : Aside0 (wrap64 ((j : Int) + 1) = (j : Int) + 1) := ⟨by unfold wrap64; omega⟩
      obtain ⟨D, hD⟩ : ∃ D, D = c - 48 := ⟨_, rfl⟩
      rw [← hD] at hhx
      have e1 : decide (48 ≤ (c : Int)) = true := by simp; omega
      have e1n : decide (48 ≤ c) = true := by simp; omega
      have e2 : decide ((c : Int) ≤ 57) = true := by simp; omega
      have e2n : decide (c ≤ 57) = true := by simp; omega
      have e3 : ((c : Int) - 48) % 256 = (D : Int) := by omega
      have hD16 : D < 16 := by first | assumption | omega
      have hN2 : hexN ((L t).drop (j + 1)) (n * 16 + D) = R := by rw [← hN]; simp only [hexN, hhx]
      have HN2 := Aside0.mk hN2
      obtain ⟨N1, hN1⟩ : ∃ k, k = n * 16 + D := ⟨_, rfl⟩
      rw [← hN1] at HN2
      have HNB : Aside0 (N1 < 16 ^ (j + 1)) := ⟨by rw [hN1, Nat.pow_succ]; clear hdr hN hN2; omega⟩
      have f1 : decide (16 ≤ (D : Int)) = false := by simp; omega
      have f1n : decide (16 ≤ D) = false := by simp; omega
      have f2 : decide ((1152921504606846976 : Int) ≤ (n : Int)) = false := by simp; omega
      have f2n : decide (1152921504606846976 ≤ n) = false := by simp; omega
      have f3 : (n : Int) * 16 % 18446744073709551616 = ((n * 16 : Nat) : Int) := by omega
      have f4 : (D : Int) % 18446744073709551616 = (D : Int) := by omega
      have f5 : ((n : Int) * 16 + (D : Int)) % 18446744073709551616 = (N1 : Int) := by omega
      have f5w : IntKind.u64.wrap ((n : Int) * 16 + (D : Int)) = (N1 : Int) := by simp [IntKind.wrap, IntKind.bits, IntKind.signed]; omega
      have f6 : decide ((N1 : Int) < (n : Int) * 16) = false := by simp; omega
      have f6n : decide (N1 < n * 16) = false := by simp; omega
      have f7 : decide ((65535 : Int) < (N1 : Int)) = false := by simp; omega
      have f7n : decide (65535 < N1) = false := by simp; omega
      clear hj hn hs hlt hdr hcr hc hN hc256 hl hn4 hd hD16 hN2 hN1 hhx hD
      go_wp2_with (fail)
      go_roundg f
      case measure => omega
      case rel => exact ⟨j + 1, N1, _, rfl, rfl, by first | rfl | simp, by simp [wj.out], ⟨by have := HJ9.out; omega, HNB.out⟩, HN2, HC, HB⟩
    obtain ⟨lo, hlo⟩ : ∃ lo, low c = lo := ⟨_, rfl⟩
    rw [hlo] at hl HLC
    obtain ⟨l0, l1, l2⟩ := hl
    have hhx0 := l2 hd
    have hl : True := trivial
    obtain ⟨b48, hb48⟩ : ∃ b, decide (48 ≤ (c : Int)) = b := ⟨_, rfl⟩
    have e1n : decide (48 ≤ c) = b48 := by rw [← hb48]; exact decide_eq_decide.2 (by omega)
    have e2 : b48 = true → decide ((c : Int) ≤ 57) = false := fun h => by rw [← hb48] at h; have := of_decide_eq_true h; simp; omega
    by_cases hB : 97 ≤ lo ∧ lo ≤ 122
    · by_cases h102 : lo ≤ 102
      · obtain ⟨D, hD⟩ : ∃ D : Nat, D = (lo - 87).toNat := ⟨_, rfl⟩
        have hhx : hexD (c : Int) = some D := by rw [hhx0, if_pos ⟨hB.1, h102⟩, hD]
        have wj : Aside0 (wrap64 ((j : Int) + 1) = (j : Int) + 1) := ⟨by unfold wrap64; omega⟩
        have g1 : decide (97 ≤ lo) = true := by simp; omega
        have g2 : decide (lo ≤ 122) = true := by simp; omega
        have g3 : ((lo - 97) % 256 + 10) % 256 = (D : Int) := by omega
        have g4 : (lo - 97) % 256 = lo - 97 := by omega
        have g5 : (lo - 97 + 10) % 256 = (D : Int) := by omega
        have hDs : D < 16 := by omega
        clear hB h102 hlo l0 l1 l2 hhx0
        cases b48 with
        | true =>
          have e2' := e2 rfl
          have e2n : decide (c ≤ 57) = false := by rw [← e2']; exact decide_eq_decide.2 (by omega)
          clear e2
          have hD16 : D < 16 := by first | assumption | omega
          have hN2 : hexN ((L t).drop (j + 1)) (n * 16 + D) = R := by rw [← hN]; simp only [hexN, hhx]
          have HN2 := Aside0.mk hN2
          obtain ⟨N1, hN1⟩ : ∃ k, k = n * 16 + D := ⟨_, rfl⟩
          rw [← hN1] at HN2
          have HNB : Aside0 (N1 < 16 ^ (j + 1)) := ⟨by rw [hN1, Nat.pow_succ]; clear hdr hN hN2; omega⟩
          have f1 : decide (16 ≤ (D : Int)) = false := by simp; omega
          have f1n : decide (16 ≤ D) = false := by simp; omega
          have f2 : decide ((1152921504606846976 : Int) ≤ (n : Int)) = false := by simp; omega
          have f2n : decide (1152921504606846976 ≤ n) = false := by simp; omega
          have f3 : (n : Int) * 16 % 18446744073709551616 = ((n * 16 : Nat) : Int) := by omega
          have f4 : (D : Int) % 18446744073709551616 = (D : Int) := by omega
          have f5 : ((n : Int) * 16 + (D : Int)) % 18446744073709551616 = (N1 : Int) := by omega
          have f5w : IntKind.u64.wrap ((n : Int) * 16 + (D : Int)) = (N1 : Int) := by simp [IntKind.wrap, IntKind.bits, IntKind.signed]; omega
          have f6 : decide ((N1 : Int) < (n : Int) * 16) = false := by simp; omega
          have f6n : decide (N1 < n * 16) = false := by simp; omega
          have f7 : decide ((65535 : Int) < (N1 : Int)) = false := by simp; omega
          have f7n : decide (65535 < N1) = false := by simp; omega
          clear hj hn hs hlt hdr hcr hc hN hc256 hl hn4 hd hD16 hN2 hN1 hhx hD
          go_wp2_with (fail)
          go_at_call 68
          refine (HLC.out _).mono ?_
          rintro e w3 ⟨rfl, hb⟩
          have hcell2 := hcell_below hb hcell
          have HB2 := Aside0.mk (below_step HB.out hb)
          have HC2 : Aside0 (∀ i : Nat, i < 4 → w3.cell? ⟨w.heap.size, i, none⟩ = some (.int .u8 (bt t (i : Int)))) := ⟨fun i hi => hcell_below hb (HC.out i hi)⟩
          clear hb hcell HB HC
          have hcell := hcell2
          have HB := HB2
          have HC := HC2
          clear hcell2 HB2 HC2
          go_wp2_with (fail)
          go_at_call 68
          refine (HLC.out _).mono ?_
          rintro e w3 ⟨rfl, hb⟩
          have hcell2 := hcell_below hb hcell
          have HB2 := Aside0.mk (below_step HB.out hb)
          have HC2 : Aside0 (∀ i : Nat, i < 4 → w3.cell? ⟨w.heap.size, i, none⟩ = some (.int .u8 (bt t (i : Int)))) := ⟨fun i hi => hcell_below hb (HC.out i hi)⟩
          clear hb hcell HB HC
          have hcell := hcell2
          have HB := HB2
          have HC := HC2
          clear hcell2 HB2 HC2
          go_wp2_with (fail)
          go_at_call 68
          refine (HLC.out _).mono ?_
          rintro e w3 ⟨rfl, hb⟩
          have hcell2 := hcell_below hb hcell
          have HB2 := Aside0.mk (below_step HB.out hb)
          have HC2 : Aside0 (∀ i : Nat, i < 4 → w3.cell? ⟨w.heap.size, i, none⟩ = some (.int .u8 (bt t (i : Int)))) := ⟨fun i hi => hcell_below hb (HC.out i hi)⟩
          clear hb hcell HB HC
          have hcell := hcell2
          have HB := HB2
          have HC := HC2
          clear hcell2 HB2 HC2
          go_wp2_with (fail)
          go_roundg f
          case measure => omega
          case rel => exact ⟨j + 1, N1, _, rfl, rfl, by first | rfl | simp, by simp [wj.out], ⟨by have := HJ9.out; omega, HNB.out⟩, HN2, HC, HB⟩
        | false =>
          clear e2
          have hD16 : D < 16 := by first | assumption | omega
          have hN2 : hexN ((L t).drop (j + 1)) (n * 16 + D) = R := by rw [← hN]; simp only [hexN, hhx]
          have HN2 := Aside0.mk hN2
          obtain ⟨N1, hN1⟩ : ∃ k, k = n * 16 + D := ⟨_, rfl⟩
          rw [← hN1] at HN2
          have HNB : Aside0 (N1 < 16 ^ (j + 1)) := ⟨by rw [hN1, Nat.pow_succ]; clear hdr hN hN2; omega⟩
          have f1 : decide (16 ≤ (D : Int)) = false := by simp; omega
          have f1n : decide (16 ≤ D) = false := by simp; omega
          have f2 : decide ((1152921504606846976 : Int) ≤ (n : Int)) = false := by simp; omega
          have f2n : decide (1152921504606846976 ≤ n) = false := by simp; omega
          have f3 : (n : Int) * 16 % 18446744073709551616 = ((n * 16 : Nat) : Int) := by omega
          have f4 : (D : Int) % 18446744073709551616 = (D : Int) := by omega
          have f5 : ((n : Int) * 16 + (D : Int)) % 18446744073709551616 = (N1 : Int) := by omega
          have f5w : IntKind.u64.wrap ((n : Int) * 16 + (D : Int)) = (N1 : Int) := by simp [IntKind.wrap, IntKind.bits, IntKind.signed]; omega
          have f6 : decide ((N1 : Int) < (n : Int) * 16) = false := by simp; omega
          have f6n : decide (N1 < n * 16) = false := by simp; omega
          have f7 : decide ((65535 : Int) < (N1 : Int)) = false := by simp; omega
          have f7n : decide (65535 < N1) = false := by simp; omega
          clear hj hn hs hlt hdr hcr hc hN hc256 hl hn4 hd hD16 hN2 hN1 hhx hD
          go_wp2_with (fail)
          go_at_call 68
          refine (HLC.out _).mono ?_
          rintro e w3 ⟨rfl, hb⟩
          have hcell2 := hcell_below hb hcell
          have HB2 := Aside0.mk (below_step HB.out hb)
          have HC2 : Aside0 (∀ i : Nat, i < 4 → w3.cell? ⟨w.heap.size, i, none⟩ = some (.int .u8 (bt t (i : Int)))) := ⟨fun i hi => hcell_below hb (HC.out i hi)⟩
          clear hb hcell HB HC
          have hcell := hcell2
          have HB := HB2
          have HC := HC2
          clear hcell2 HB2 HC2
          go_wp2_with (fail)
          go_at_call 68
          refine (HLC.out _).mono ?_
          rintro e w3 ⟨rfl, hb⟩
          have hcell2 := hcell_below hb hcell
          have HB2 := Aside0.mk (below_step HB.out hb)
          have HC2 : Aside0 (∀ i : Nat, i < 4 → w3.cell? ⟨w.heap.size, i, none⟩ = some (.int .u8 (bt t (i : Int)))) := ⟨fun i hi => hcell_below hb (HC.out i hi)⟩
          clear hb hcell HB HC
          have hcell := hcell2
          have HB := HB2
          have HC := HC2
          clear hcell2 HB2 HC2
          go_wp2_with (fail)
          go_at_call 68
          refine (HLC.out _).mono ?_
          rintro e w3 ⟨rfl, hb⟩
          have hcell2 := hcell_below hb hcell
          have HB2 := Aside0.mk (below_step HB.out hb)
          have HC2 : Aside0 (∀ i : Nat, i < 4 → w3.cell? ⟨w.heap.size, i, none⟩ = some (.int .u8 (bt t (i : Int)))) := ⟨fun i hi => hcell_below hb (HC.out i hi)⟩
          clear hb hcell HB HC
          have hcell := hcell2
          have HB := HB2
          have HC := HC2
          clear hcell2 HB2 HC2
          go_wp2_with (fail)
          go_roundg f
          case measure => omega
          case rel => exact ⟨j + 1, N1, _, rfl, rfl, by first | rfl | simp, by simp [wj.out], ⟨by have := HJ9.out; omega, HNB.out⟩, HN2, HC, HB⟩
      · have g1 : decide (97 ≤ lo) = true := by simp; omega
        have g2 : decide (lo ≤ 122) = true := by simp; omega
        obtain ⟨D, hD⟩ : ∃ D : Nat, D = (lo - 87).toNat := ⟨_, rfl⟩
        have g3 : ((lo - 97) % 256 + 10) % 256 = (D : Int) := by omega
        have g4 : (lo - 97) % 256 = lo - 97 := by omega
        have g5 : (lo - 97 + 10) % 256 = (D : Int) := by omega
        have f1 : decide (16 ≤ (D : Int)) = true := by simp; omega
        have f1n : decide (16 ≤ D) = true := by simp; omega
        have hhx : hexD (c : Int) = none := by rw [hhx0, if_neg (by omega)]
        clear hB h102 hlo l0 l1 l2 hhx0 hD
        cases b48 with
        | true =>
          have e2' := e2 rfl
          have e2n : decide (c ≤ 57) = false := by rw [← e2']; exact decide_eq_decide.2 (by omega)
          clear e2
          have E : Aside0 (R = none) := ⟨by rw [← hN]; simp only [hexN, hhx]⟩
          clear hj hn hs hlt hdr hcr hc hN hc256 hl hn4 hd hhx
          go_wp2_with (fail)
          go_at_call 68
          refine (HLC.out _).mono ?_
          rintro e w3 ⟨rfl, hb⟩
          have HB2 := Aside0.mk (below_step HB.out hb)
          clear hb HB
          have HB := HB2
          clear HB2
          go_wp2_with (fail)
          go_at_call 68
          refine (HLC.out _).mono ?_
          rintro e w3 ⟨rfl, hb⟩
          have HB2 := Aside0.mk (below_step HB.out hb)
          clear hb HB
          have HB := HB2
          clear HB2
          go_wp2_with (fail)
          go_at_call 68
          refine (HLC.out _).mono ?_
          rintro e w3 ⟨rfl, hb⟩
          have HB2 := Aside0.mk (below_step HB.out hb)
          clear hb HB
          have HB := HB2
          clear HB2
          go_wp2_with (fail)
          go_ret2
          rw [E.out]
          exact ⟨rfl, by first | exact HB.out | exact HB.out.drew⟩
        | false =>
          clear e2
          have E : Aside0 (R = none) := ⟨by rw [← hN]; simp only [hexN, hhx]⟩
          clear hj hn hs hlt hdr hcr hc hN hc256 hl hn4 hd hhx
          go_wp2_with (fail)
          go_at_call 68
          refine (HLC.out _).mono ?_
          rintro e w3 ⟨rfl, hb⟩
          have HB2 := Aside0.mk (below_step HB.out hb)
          clear hb HB
          have HB := HB2
          clear HB2
          go_wp2_with (fail)
          go_at_call 68
          refine (HLC.out _).mono ?_
          rintro e w3 ⟨rfl, hb⟩
          have HB2 := Aside0.mk (below_step HB.out hb)
          clear hb HB
          have HB := HB2
          clear HB2
          go_wp2_with (fail)
          go_at_call 68
          refine (HLC.out _).mono ?_
          rintro e w3 ⟨rfl, hb⟩
          have HB2 := Aside0.mk (below_step HB.out hb)
          clear hb HB
          have HB := HB2
          clear HB2
          go_wp2_with (fail)
          go_ret2
          rw [E.out]
          exact ⟨rfl, by first | exact HB.out | exact HB.out.drew⟩
    · have hhx : hexD (c : Int) = none := by rw [hhx0, if_neg (by omega)]
      by_cases h97 : 97 ≤ lo
      · have g1 : decide (97 ≤ lo) = true := by simp; omega
        have g2 : decide (lo ≤ 122) = false := by simp; omega
        clear hB h97 hlo l0 l1 l2 hhx0
        cases b48 with
        | true =>
          have e2' := e2 rfl
          have e2n : decide (c ≤ 57) = false := by rw [← e2']; exact decide_eq_decide.2 (by omega)
          clear e2
          have E : Aside0 (R = none) := ⟨by rw [← hN]; simp only [hexN, hhx]⟩
          clear hj hn hs hlt hdr hcr hc hN hc256 hl hn4 hd hhx
          go_wp2_with (fail)
          go_at_call 68
          refine (HLC.out _).mono ?_
          rintro e w3 ⟨rfl, hb⟩
          have HB2 := Aside0.mk (below_step HB.out hb)
          clear hb HB
          have HB := HB2
          clear HB2
          go_wp2_with (fail)
          go_at_call 68
          refine (HLC.out _).mono ?_
          rintro e w3 ⟨rfl, hb⟩
          have HB2 := Aside0.mk (below_step HB.out hb)
          clear hb HB
          have HB := HB2
          clear HB2
          go_wp2_with (fail)
          go_ret2
          rw [E.out]
          exact ⟨rfl, by first | exact HB.out | exact HB.out.drew⟩
        | false =>
          clear e2
          have E : Aside0 (R = none) := ⟨by rw [← hN]; simp only [hexN, hhx]⟩
          clear hj hn hs hlt hdr hcr hc hN hc256 hl hn4 hd hhx
          go_wp2_with (fail)
          go_at_call 68
          refine (HLC.out _).mono ?_
          rintro e w3 ⟨rfl, hb⟩
          have HB2 := Aside0.mk (below_step HB.out hb)
          clear hb HB
          have HB := HB2
          clear HB2
          go_wp2_with (fail)
          go_at_call 68
          refine (HLC.out _).mono ?_
          rintro e w3 ⟨rfl, hb⟩
          have HB2 := Aside0.mk (below_step HB.out hb)
          clear hb HB
          have HB := HB2
          clear HB2
          go_wp2_with (fail)
          go_ret2
          rw [E.out]
          exact ⟨rfl, by first | exact HB.out | exact HB.out.drew⟩
      · have g1 : decide (97 ≤ lo) = false := by simp; omega
        clear hB h97 hlo l0 l1 l2 hhx0
        cases b48 with
        | true =>
          have e2' := e2 rfl
          have e2n : decide (c ≤ 57) = false := by rw [← e2']; exact decide_eq_decide.2 (by omega)
          clear e2
          have E : Aside0 (R = none) := ⟨by rw [← hN]; simp only [hexN, hhx]⟩
          clear hj hn hs hlt hdr hcr hc hN hc256 hl hn4 hd hhx
          go_wp2_with (fail)
          go_at_call 68
          refine (HLC.out _).mono ?_
          rintro e w3 ⟨rfl, hb⟩
          have HB2 := Aside0.mk (below_step HB.out hb)
          clear hb HB
          have HB := HB2
          clear HB2
          go_wp2_with (fail)
          go_ret2
          rw [E.out]
          exact ⟨rfl, by first | exact HB.out | exact HB.out.drew⟩
        | false =>
          clear e2
          have E : Aside0 (R = none) := ⟨by rw [← hN]; simp only [hexN, hhx]⟩
          clear hj hn hs hlt hdr hcr hc hN hc256 hl hn4 hd hhx
          go_wp2_with (fail)
          go_at_call 68
          refine (HLC.out _).mono ?_
          rintro e w3 ⟨rfl, hb⟩
          have HB2 := Aside0.mk (below_step HB.out hb)
          clear hb HB
          have HB := HB2
          clear HB2
          go_wp2_with (fail)
          go_ret2
          rw [E.out]
          exact ⟨rfl, by first | exact HB.out | exact HB.out.drew⟩
end Go.Proofs.YthfhefkacmepkaaDoor.PS
namespace Go.Proofs.YthfhefkacmepkaaDoor.PS
open Go.RowKit Go.Proofs.YthfhefkacmepkaaDoorW.PrintWords Go.Proofs.YthfhefkacmepkaaDoorW.PrintLast Go.Proofs.YthfhefkacmepkaaDoorW.PrintMore
open Go.Proofs.YthfhefkacmepkaaDoor.PPathPuts Go.Proofs.YthfhefkacmepkaaDoor.Beg Go.Proofs.YthfhefkacmepkaaDoor.Bld Go.Proofs.YthfhefkacmepkaaDoor.PB
open Go.Proofs.YthfhefkacmepkaaDoor.Num (L L_len L_range)
attribute [local go_sem] max2_int min2_int max_two min_two max_three min_three max_four min_four
set_option linter.unusedVariables false
set_option linter.unusedSimpArgs false
set_option maxHeartbeats 8000000 in
set_option maxRecDepth 100000 in
theorem puint_calls (t : ByteArray) (hs : t.size = 4) (tp : TypeId) (pe : Value) (w : World) (hv : w.cell? ⟨1, 0, none⟩ = some (.iface tp pe)) :
    Calls Tryd.prog 45 #[.string t, .int .i64 16, .int .i64 16] w fun e w' => (∃ er, e = .returned (.tuple #[.int .u64 (hexV (L t) : Int), er])) ∧ Below w.heap.size w w' := by
  have HX := Aside0.mk (hexV_L t hs)
  have HC := Aside0.mk (pu_calls t hs)
  have HV := Aside0.mk hv
  have HS := Aside0.mk hs
  obtain ⟨R, hR⟩ : ∃ R, hexN (L t) 0 = R := ⟨_, rfl⟩
  rw [hR] at HC HX
  clear hR hv hs
  cases R with
  | some n =>
    go_enter Tryd.func45, Tryd.ntmps45
    go_wp2_with (fail)
    go_at_call 57
    refine (HC.out _).mono ?_
    rintro e w2 ⟨rfl, hb⟩
    have HB := Aside0.mk hb
    clear hb
    unfold puOut
    go_wp2_with (fail)
    go_ret2
    rw [HX.out]
    exact ⟨⟨_, rfl⟩, HB.out⟩
  | none =>
    go_enter Tryd.func45, Tryd.ntmps45
    go_wp2_with (fail)
    go_at_call 57
    refine (HC.out _).mono ?_
    rintro e w2 ⟨rfl, hb⟩
    have HB := Aside0.mk hb
    have HV2 : Aside0 (w2.cell? ⟨1, 0, none⟩ = some (.iface tp pe)) := ⟨hcell_below hb HV.out⟩
    clear hb
    unfold puOut
    go_wp2_with (fail)
    go_at_call 49
    refine (Tryd.strconv_toError_syntax _ t 16 16 (.iface tp pe) _ (by have := HS.out; omega) HV2.out (Or.inr ⟨_, _, rfl⟩)).mono ?_
    rintro e w3 ⟨N, rfl, _, _, hb⟩
    have HB3 := Aside0.mk (below_step HB.out hb)
    clear hb
    go_wp2_with (fail)
    go_ret2
    rw [HX.out]
    exact ⟨⟨_, rfl⟩, HB3.out⟩
set_option maxHeartbeats 8000000 in
set_option maxRecDepth 100000 in
theorem uput_calls (B : Nat) (v : Value) (acc : List UInt8) (r : Nat) (hr : r ≤ 1114111) (w : World) (hown : w.ownsRow B 5 1 v acc.length (Lib.byteCells acc)) (hlen : acc.length + 4 ≤ 140737488355328) (hB : B ≤ w.heap.size) :
    Calls Tryd.prog 46 #[v, .int .i32 (r : Int)] w fun e w' => (∃ v', e = .returned v' ∧ w'.ownsRow B 5 1 v' (acc ++ Lib.encodeRune (r : Int)).length (Lib.byteCells (acc ++ Lib.encodeRune (r : Int)))) ∧ Below B w w' := by
  have HO := Aside0.mk hown
  have HL := Aside0.mk hlen
  have HBB := Aside0.mk hB
  have HR := Aside0.mk hr
  clear hown hlen hB hr
  go_enter Tryd.func46, Tryd.ntmps46
  go_wp2_with (fail)
  go_at_call 40
  refine (Tryd.utf8_AppendRune_plain B v acc.length (Lib.byteCells acc) (r : Int) (by omega) (by have := HR.out; omega) w HO.out HL.out HBB.out).mono ?_
  rintro e w2 ⟨v', rfl, hown', o, hg⟩
  have HO2 : Aside0 (w2.ownsRow B 5 1 v' (acc ++ Lib.encodeRune (r : Int)).length (Lib.byteCells (acc ++ Lib.encodeRune (r : Int)))) := ⟨by
    rw [List.length_append, Lib.byteCells_append, Lib.byteCells_encodeRune, ← Lib.runeCells_length]; exact hown'⟩
  have HB2 : Aside0 (Below B w w2) := ⟨((Below.refl B w).alloc HBB.out o).grown hg (by have := HBB.out; simp; omega) (fun k hk => (HO.out.lt k hk).1)⟩
  clear hown' hg
  go_wp2_with (fail)
  go_ret
  exact ⟨⟨v', rfl, HO2.out⟩, HB2.out⟩
theorem hexD_lt : ∀ c : Int, ∀ d, hexD c = some d → d < 16 := by
  intro c d h
  unfold hexD at h
  split at h
  · obtain rfl := Option.some.inj h; omega
  split at h
  · obtain rfl := Option.some.inj h; omega
  split at h
  · obtain rfl := Option.some.inj h; omega
  · cases h
theorem hexV_lt (l : List Int) : hexV l < 65536 := by
  unfold hexV
  split
  · split
    · rename_i h1 h2 h3 h4
      have := hexD_lt _ _ h1
      have := hexD_lt _ _ h2
      have := hexD_lt _ _ h3
      have := hexD_lt _ _ h4
      omega
    · decide
  · decide
theorem hcell_below2 {w W : World} {a : Addr} {v : Value} (hb : Below w.heap.size w W) (h : w.cell? a = some v) : W.cell? a = some v := (hb.cell (World.block_lt_of_cell? w _ h)).trans h
end Go.Proofs.YthfhefkacmepkaaDoor.PS
namespace Go.Proofs.YthfhefkacmepkaaDoor.PS
open Go.RowKit Go.Proofs.YthfhefkacmepkaaDoorW.PrintWords Go.Proofs.YthfhefkacmepkaaDoorW.PrintLast Go.Proofs.YthfhefkacmepkaaDoorW.PrintMore
open Go.Proofs.YthfhefkacmepkaaDoor.PPathPuts Go.Proofs.YthfhefkacmepkaaDoor.Beg Go.Proofs.YthfhefkacmepkaaDoor.Bld Go.Proofs.YthfhefkacmepkaaDoor.PB
open Go.Proofs.YthfhefkacmepkaaDoor.Num (L L_len L_range)
attribute [local go_sem] max2_int min2_int max_two min_two max_three min_three max_four min_four
set_option linter.unusedVariables false
set_option linter.unusedSimpArgs false
theorem plain_end (f : Nat) (b : List UInt8) (i : Nat) : plainV (f + 1) [] b i = ([], 0) := rfl
def ixV (d : Nat) : Int := Lib.indexByte [98, 116, 110, 102, 114] d.toUInt8
theorem ix_tab : ∀ d : Fin 256, (pf ((d.val : Nat) : Int) lB lC = some 8 ∧ ixV d.val = 0) ∨ (pf ((d.val : Nat) : Int) lB lC = some 9 ∧ ixV d.val = 1) ∨ (pf ((d.val : Nat) : Int) lB lC = some 10 ∧ ixV d.val = 2) ∨ (pf ((d.val : Nat) : Int) lB lC = some 12 ∧ ixV d.val = 3) ∨ (pf ((d.val : Nat) : Int) lB lC = some 13 ∧ ixV d.val = 4) ∨ (pf ((d.val : Nat) : Int) lB lC = none ∧ ixV d.val = -1) := by decide +kernel
theorem ix_calls (d : Nat) (w : World) : Calls Tryd.prog 30 #[.string ⟨#[98, 116, 110, 102, 114]⟩, .int .u8 (d : Int)] w fun e w' => e = .returned (.int .i64 (ixV d)) ∧ w = w' := by
  refine (Tryd.strings_IndexByte ⟨#[98, 116, 110, 102, 114]⟩ (d : Int) w).mono (fun e w' h => ⟨?_, h.2.symm⟩)
  rw [h.1]
  unfold ixV
  simp
theorem byte_one (c : Nat) (hc : c < 256) : [Value.int .u8 (c : Int)] = Lib.byteCells [c.toUInt8] := by
  show _ = [Value.int .u8 ((c.toUInt8).toNat : Int)]
  rw [show (c.toUInt8).toNat = c % 256 from UInt8.toNat_ofNat', Nat.mod_eq_of_lt hc]
theorem own_snoc {W : World} {B : Nat} {v : Value} {acc : List UInt8} {c : Nat} (hc : c < 256) (h : W.ownsRow B 5 1 v (acc.length + 1) (Lib.byteCells acc ++ [.int .u8 (c : Int)])) : W.ownsRow B 5 1 v (acc ++ [c.toUInt8]).length (Lib.byteCells (acc ++ [c.toUInt8])) :=
  own_cells (new := [c.toUInt8]) h (byte_one c hc) rfl

set_option maxHeartbeats 32000000 in
set_option maxRecDepth 100000 in
theorem plain_calls (s : ByteArray) (h0 : 1 ≤ s.size) (hs : s.size ≤ 40000) (tp : TypeId) (pe : Value) (w : World) (hv : w.cell? ⟨1, 0, none⟩ = some (.iface tp pe)) :
    Calls Tryd.prog 29 #[.string s] w fun e w' => e = .returned (.tuple #[.string ⟨(plainV (s.size + 1) ((L s).drop 1) [] 1).1.toArray⟩, .int .i64 ((plainV (s.size + 1) ((L s).drop 1) [] 1).2 : Int)]) ∧ Below w.heap.size w w' := by
  obtain ⟨i0, hi, hz0, hz1, hz2⟩ := info_parts Bld.info5
  have HS := Aside0.mk hs
  have H0 := Aside0.mk h0
  have HV := Aside0.mk hv
  obtain ⟨R, hR⟩ : ∃ R, plainV (s.size + 1) ((L s).drop 1) [] 1 = R := ⟨_, rfl⟩
  rw [hR]
  have HR := Aside0.mk hR
  clear h0 hs hv hR
  go_enter Tryd.func29, Tryd.ntmps29
  go_wp2_with (fail)
  go_loopg [4, 5] (s.size + 1) (fun kq v4 v5 w' => ∃ (i : Nat) (acc : List UInt8) (vb : Value) (W : World), W = w' ∧ vb = v4 ∧ v5 = .int .i64 (i : Int) ∧ Aside0 (s.size - i < kq ∧ 1 ≤ i ∧ i ≤ s.size ∧ acc.length ≤ 4 * i) ∧ Aside0 (plainV kq ((L s).drop i) acc i = R) ∧ Aside0 (w'.ownsRow w.heap.size 5 1 vb acc.length (Lib.byteCells acc)) ∧ Aside0 (Below w.heap.size w w'))
  case atStart => exact ⟨1, [], _, _, rfl, rfl, rfl, ⟨by omega, by omega, H0.out, by simp⟩, HR, ⟨World.ownsRow_nil _ _ _ _⟩, ⟨by first | exact Below.refl _ _ | exact (Below.refl _ _).drew⟩⟩
  case round =>
    obtain ⟨i, acc, vb, W, rfl, rfl, rfl, HI, HD, HO, HB⟩ := hrel
    obtain ⟨hk, hi1, his, hal⟩ := HI.out
    have hs := HS.out
    obtain ⟨f, rfl⟩ : ∃ f, gk = f + 1 := ⟨gk - 1, by omega⟩
    have hD := HD.out
    by_cases hp : i < s.size
    rotate_left
    · have E : Aside0 (R = ([], 0)) := ⟨by rw [← hD, drop_end s i hp]; rfl⟩
      have d1 : decide ((i : Int) < (s.size : Int)) = false := by simp; omega
      have d1n : decide (i < s.size) = false := by simp; omega
      clear hk hi1 his hal hs hp hD
      go_wp2_with (fail)
      go_ret2
      rw [E.out]
      exact ⟨rfl, by first | exact HB.out | exact HB.out.drew⟩
    have hltA : i < s.size := hp
    have hdrA := drop_at s i hltA
    have hxA : ∀ h : i < s.size, ((s[i]'h).toNat : Int) = bt s (i : Int) := bt_at s (i : Int)
    have hcrA := bt_ok s (i : Int)
    obtain ⟨cA, hcA⟩ : ∃ c : Nat, bt s (i : Int) = (c : Int) := ⟨(bt s (i : Int)).toNat, by omega⟩
    rw [hcA] at hdrA hcrA
    simp only [hcA] at hxA
    have iaA : (0 : Int) ≤ (i : Int) := by omega
    have ibA : (i : Int) < (s.size : Int) := by omega
    have icA := eq_true hltA
    have d1 : decide ((i : Int) < (s.size : Int)) = true := by simp; omega
    have d1n : decide (i < s.size) = true := by simp; omega
    rw [hdrA, plainV_cons] at hD
    obtain ⟨i1, he1⟩ : ∃ k, k = i + 1 := ⟨_, rfl⟩
    rw [← he1] at hD
    have W1 : Aside0 (wrap64 ((i : Int) + 1) = (i1 : Int)) := ⟨by unfold wrap64; omega⟩
    by_cases h39 : cA = 39
    · subst h39
      have E : Aside0 (R = (acc, i1)) := ⟨by rw [← hD, if_pos (by rfl)]⟩
      have hcv := own_text2 HO.out
      clear hk hi1 his hal hs hp hD hcA hdrA hcrA hltA he1
      have w1 := W1.out
      go_wp2_with (fail)
      go_ret2
      rw [E.out]
      exact ⟨by first | rfl | (simp [W1.out]; done) | simp, by first | exact HB.out | exact HB.out.drew⟩
    have l1 : ((cA : Int) == 39) = false := beq_eq_false_iff_ne.2 (by omega)
    have l2 : decide ((cA : Int) = 39) = false := decide_eq_false (by omega)
    have l3 : (cA == 39) = false := beq_eq_false_iff_ne.2 h39
    rw [if_neg (by omega)] at hD
    by_cases h92 : cA = 92
    rotate_left
    · rw [if_pos (by omega), Int.toNat_natCast] at hD
      have HD2 := Aside0.mk hD
      have HF2 : Aside0 (s.size - i1 < f ∧ i1 ≤ s.size ∧ acc.length ≤ 160000 ∧ acc.length + 4 ≤ 4 * i1 ∧ 1 ≤ i1) := ⟨by omega⟩
      have HC9 : Aside0 (cA < 256) := ⟨by omega⟩
      have m1 : ((cA : Int) != 92) = true := bne_iff_ne.2 (by omega)
      have m2 : ((cA : Int) == 92) = false := beq_eq_false_iff_ne.2 (by omega)
      have m3 : decide ((cA : Int) = 92) = false := decide_eq_false (by omega)
      have m4 : (cA == 92) = false := beq_eq_false_iff_ne.2 h92
      have m5 : (cA != 92) = true := bne_iff_ne.2 h92
      clear hk hi1 his hal hs hp hD hcA hdrA hcrA hltA he1 h39 h92
      go_wp2_with (at_builtin; refine wpList_append_own _ rfl _ _ 39 rfl w.heap.size 5 i0 (.int .u8 0) 1 1 Tryd.underlying39 hi hz0 hz1 hz2 rfl (by decide) _ _ _ rfl (HO.out.alloc _) ⟨W.heap.size, 0, none⟩ 1 1 [.int .u8 (cA : Int)] rfl rfl (lit_cells _ _) ?c2 ?c3 ?c4 ?c5 ?_)
      case c2 => intro u hu; simp at hu; subst hu; rfl
      case c3 => (try clear w1); (try clear w5); have := HF2.out; unfold maxLen; omega
      case c4 => (try clear w1); (try clear w5); have := HF2.out; omega
      case c5 => (try clear w1); (try clear w5); have := HB.out.size; simp; omega
      intro v' w2 hown' hgrow _
      have HO2 := Aside0.mk (own_snoc HC9.out hown')
      have HB2 := Aside0.mk (grown_below3 (below_alloc HB.out _) (by have := HB.out.size; simp; omega) (HO.out.alloc _) hgrow)
      clear hown' hgrow
      have w1 := W1.out
      go_wp2_with (fail)
      go_roundg f
      case measure => omega
      case rel =>
        try clear w1
        try clear w2
        try clear w5
        have h2 := HF2.out
        exact ⟨i1, _, _, _, rfl, rfl, by first | rfl | rw [W1.out], ⟨h2.1, by omega, h2.2.1, by rw [List.length_append]; simp; omega⟩, HD2, HO2, HB2⟩
    subst h92
    rw [if_neg (by simp)] at hD
    by_cases hp2 : i1 < s.size
    rotate_left
    · have E : Aside0 (R = ([], 0)) := ⟨by rw [← hD, drop_end s i1 hp2]⟩
      have k1 : ((i1 : Int) == (s.size : Int)) = true := beq_iff_eq.2 (by omega)
      have k2 : decide ((i1 : Int) = (s.size : Int)) = true := decide_eq_true (by omega)
      have k3 : (i1 == s.size) = true := beq_iff_eq.2 (by omega)
      have k4 : decide (i1 = s.size) = true := decide_eq_true (by omega)
      clear hk hi1 his hal hs hp hD hcA hdrA hcrA hltA he1 h39 hp2
      have w1 := W1.out
      go_wp2_with (fail)
      go_ret2
      rw [E.out]
      exact ⟨rfl, by first | exact HB.out | exact HB.out.drew⟩
    have k1 : ((i1 : Int) == (s.size : Int)) = false := beq_eq_false_iff_ne.2 (by omega)
    have k2 : decide ((i1 : Int) = (s.size : Int)) = false := decide_eq_false (by omega)
    have k3 : (i1 == s.size) = false := beq_eq_false_iff_ne.2 (by omega)
    have k4 : decide (i1 = s.size) = false := decide_eq_false (by omega)
    have hltB : i1 < s.size := hp2
    have hdrB := drop_at s i1 hltB
    have hxB : ∀ h : i1 < s.size, ((s[i1]'h).toNat : Int) = bt s (i1 : Int) := bt_at s (i1 : Int)
    have hcrB := bt_ok s (i1 : Int)
    obtain ⟨cB, hcB⟩ : ∃ c : Nat, bt s (i1 : Int) = (c : Int) := ⟨(bt s (i1 : Int)).toNat, by omega⟩
    rw [hcB] at hdrB hcrB
    simp only [hcB] at hxB
    have iaB : (0 : Int) ≤ (i1 : Int) := by omega
    have ibB : (i1 : Int) < (s.size : Int) := by omega
    have icB := eq_true hltB
    obtain ⟨i2, he2⟩ : ∃ k, k = i1 + 1 := ⟨_, rfl⟩
    have W2 : Aside0 (wrap64 ((i1 : Int) + 1) = (i2 : Int)) := ⟨by unfold wrap64; omega⟩
    rw [hdrB] at hD
    simp only [← he2] at hD
    rw [show i + 2 = i2 by omega] at hD
    have HIX := Aside0.mk (ix_calls cB)
    have hix := ix_tab ⟨cB, by omega⟩
    simp only at hix
    have HF2 : Aside0 (s.size - i2 < f ∧ i2 ≤ s.size ∧ acc.length ≤ 160000 ∧ acc.length + 4 ≤ 4 * i2 ∧ 1 ≤ i2) := ⟨by omega⟩
    rcases hix with ⟨hpf, hix⟩ | ⟨hpf, hix⟩ | ⟨hpf, hix⟩ | ⟨hpf, hix⟩ | ⟨hpf, hix⟩ | ⟨hpf, hix⟩
    · rw [hpf] at hD
      rw [hix] at HIX
      have HD2 : Aside0 (plainV f ((L s).drop i2) (acc ++ [(8 : Nat).toUInt8]) i2 = R) := ⟨hD⟩
      have HC9 : Aside0 (8 < 256) := ⟨by decide⟩
      clear hk hi1 his hal hs hp hD hcA hdrA hcrA hltA he1 h39 hp2 hpf hix he2 hcB hdrB hcrB hltB
      have w1 := W1.out
      go_wp2_with (go_at_call 30; refine (HIX.out _).mono ?_; rintro e w3 ⟨rfl, rfl⟩; refine Hid.out ?_)
      refine Lib.hid ?_
      go_wp2_with (at_builtin; refine wpList_append_own _ rfl _ _ 39 rfl w.heap.size 5 i0 (.int .u8 0) 1 1 Tryd.underlying39 hi hz0 hz1 hz2 rfl (by decide) _ _ _ rfl (HO.out.alloc _) ⟨W.heap.size, 0, none⟩ 1 1 [.int .u8 8] rfl rfl (lit_cells _ _) ?c2 ?c3 ?c4 ?c5 ?_)
      case c2 => intro u hu; simp at hu; subst hu; rfl
      case c3 => (try clear w1); (try clear w5); have := HF2.out; unfold maxLen; omega
      case c4 => (try clear w1); (try clear w5); have := HF2.out; omega
      case c5 => (try clear w1); (try clear w5); have := HB.out.size; simp; omega
      intro v' w2 hown' hgrow _
      have HO2 := Aside0.mk (own_snoc HC9.out hown')
      have HB2 := Aside0.mk (grown_below3 (below_alloc HB.out _) (by have := HB.out.size; simp; omega) (HO.out.alloc _) hgrow)
      clear hown' hgrow
      have w2 := W2.out
      go_wp2_with (fail)
      go_roundg f
      case measure => omega
      case rel =>
        try clear w1
        try clear w2
        try clear w5
        have h2 := HF2.out
        exact ⟨i2, _, _, _, rfl, rfl, by first | rfl | rw [W2.out], ⟨h2.1, by omega, h2.2.1, by rw [List.length_append]; simp; omega⟩, HD2, HO2, HB2⟩
    · rw [hpf] at hD
      rw [hix] at HIX
      have HD2 : Aside0 (plainV f ((L s).drop i2) (acc ++ [(9 : Nat).toUInt8]) i2 = R) := ⟨hD⟩
      have HC9 : Aside0 (9 < 256) := ⟨by decide⟩
      clear hk hi1 his hal hs hp hD hcA hdrA hcrA hltA he1 h39 hp2 hpf hix he2 hcB hdrB hcrB hltB
      have w1 := W1.out
      go_wp2_with (go_at_call 30; refine (HIX.out _).mono ?_; rintro e w3 ⟨rfl, rfl⟩; refine Hid.out ?_)
      refine Lib.hid ?_
      go_wp2_with (at_builtin; refine wpList_append_own _ rfl _ _ 39 rfl w.heap.size 5 i0 (.int .u8 0) 1 1 Tryd.underlying39 hi hz0 hz1 hz2 rfl (by decide) _ _ _ rfl (HO.out.alloc _) ⟨W.heap.size, 0, none⟩ 1 1 [.int .u8 9] rfl rfl (lit_cells _ _) ?c2 ?c3 ?c4 ?c5 ?_)
      case c2 => intro u hu; simp at hu; subst hu; rfl
      case c3 => (try clear w1); (try clear w5); have := HF2.out; unfold maxLen; omega
      case c4 => (try clear w1); (try clear w5); have := HF2.out; omega
      case c5 => (try clear w1); (try clear w5); have := HB.out.size; simp; omega
      intro v' w2 hown' hgrow _
      have HO2 := Aside0.mk (own_snoc HC9.out hown')
      have HB2 := Aside0.mk (grown_below3 (below_alloc HB.out _) (by have := HB.out.size; simp; omega) (HO.out.alloc _) hgrow)
      clear hown' hgrow
      have w2 := W2.out
      go_wp2_with (fail)
      go_roundg f
      case measure => omega
      case rel =>
        try clear w1
        try clear w2
        try clear w5
        have h2 := HF2.out
        exact ⟨i2, _, _, _, rfl, rfl, by first | rfl | rw [W2.out], ⟨h2.1, by omega, h2.2.1, by rw [List.length_append]; simp; omega⟩, HD2, HO2, HB2⟩
    · rw [hpf] at hD
      rw [hix] at HIX
      have HD2 : Aside0 (plainV f ((L s).drop i2) (acc ++ [(10 : Nat).toUInt8]) i2 = R) := ⟨hD⟩
      have HC9 : Aside0 (10 < 256) := ⟨by decide⟩
      clear hk hi1 his hal hs hp hD hcA hdrA hcrA hltA he1 h39 hp2 hpf hix he2 hcB hdrB hcrB hltB
      have w1 := W1.out
      go_wp2_with (go_at_call 30; refine (HIX.out _).mono ?_; rintro e w3 ⟨rfl, rfl⟩; refine Hid.out ?_)
      refine Lib.hid ?_
      go_wp2_with (at_builtin; refine wpList_append_own _ rfl _ _ 39 rfl w.heap.size 5 i0 (.int .u8 0) 1 1 Tryd.underlying39 hi hz0 hz1 hz2 rfl (by decide) _ _ _ rfl (HO.out.alloc _) ⟨W.heap.size, 0, none⟩ 1 1 [.int .u8 10] rfl rfl (lit_cells _ _) ?c2 ?c3 ?c4 ?c5 ?_)
      case c2 => intro u hu; simp at hu; subst hu; rfl
      case c3 => (try clear w1); (try clear w5); have := HF2.out; unfold maxLen; omega
      case c4 => (try clear w1); (try clear w5); have := HF2.out; omega
      case c5 => (try clear w1); (try clear w5); have := HB.out.size; simp; omega
      intro v' w2 hown' hgrow _
      have HO2 := Aside0.mk (own_snoc HC9.out hown')
      have HB2 := Aside0.mk (grown_below3 (below_alloc HB.out _) (by have := HB.out.size; simp; omega) (HO.out.alloc _) hgrow)
      clear hown' hgrow
      have w2 := W2.out
      go_wp2_with (fail)
      go_roundg f
      case measure => omega
      case rel =>
        try clear w1
        try clear w2
        try clear w5
        have h2 := HF2.out
        exact ⟨i2, _, _, _, rfl, rfl, by first | rfl | rw [W2.out], ⟨h2.1, by omega, h2.2.1, by rw [List.length_append]; simp; omega⟩, HD2, HO2, HB2⟩
    · rw [hpf] at hD
      rw [hix] at HIX
      have HD2 : Aside0 (plainV f ((L s).drop i2) (acc ++ [(12 : Nat).toUInt8]) i2 = R) := ⟨hD⟩
      have HC9 : Aside0 (12 < 256) := ⟨by decide⟩
      clear hk hi1 his hal hs hp hD hcA hdrA hcrA hltA he1 h39 hp2 hpf hix he2 hcB hdrB hcrB hltB
      have w1 := W1.out
      go_wp2_with (go_at_call 30; refine (HIX.out _).mono ?_; rintro e w3 ⟨rfl, rfl⟩; refine Hid.out ?_)
      refine Lib.hid ?_
      go_wp2_with (at_builtin; refine wpList_append_own _ rfl _ _ 39 rfl w.heap.size 5 i0 (.int .u8 0) 1 1 Tryd.underlying39 hi hz0 hz1 hz2 rfl (by decide) _ _ _ rfl (HO.out.alloc _) ⟨W.heap.size, 0, none⟩ 1 1 [.int .u8 12] rfl rfl (lit_cells _ _) ?c2 ?c3 ?c4 ?c5 ?_)
      case c2 => intro u hu; simp at hu; subst hu; rfl
      case c3 => (try clear w1); (try clear w5); have := HF2.out; unfold maxLen; omega
      case c4 => (try clear w1); (try clear w5); have := HF2.out; omega
      case c5 => (try clear w1); (try clear w5); have := HB.out.size; simp; omega
      intro v' w2 hown' hgrow _
      have HO2 := Aside0.mk (own_snoc HC9.out hown')
      have HB2 := Aside0.mk (grown_below3 (below_alloc HB.out _) (by have := HB.out.size; simp; omega) (HO.out.alloc _) hgrow)
      clear hown' hgrow
      have w2 := W2.out
      go_wp2_with (fail)
      go_roundg f
      case measure => omega
      case rel =>
        try clear w1
        try clear w2
        try clear w5
        have h2 := HF2.out
        exact ⟨i2, _, _, _, rfl, rfl, by first | rfl | rw [W2.out], ⟨h2.1, by omega, h2.2.1, by rw [List.length_append]; simp; omega⟩, HD2, HO2, HB2⟩
    · rw [hpf] at hD
      rw [hix] at HIX
      have HD2 : Aside0 (plainV f ((L s).drop i2) (acc ++ [(13 : Nat).toUInt8]) i2 = R) := ⟨hD⟩
      have HC9 : Aside0 (13 < 256) := ⟨by decide⟩
      clear hk hi1 his hal hs hp hD hcA hdrA hcrA hltA he1 h39 hp2 hpf hix he2 hcB hdrB hcrB hltB
      have w1 := W1.out
      go_wp2_with (go_at_call 30; refine (HIX.out _).mono ?_; rintro e w3 ⟨rfl, rfl⟩; refine Hid.out ?_)
      refine Lib.hid ?_
      go_wp2_with (at_builtin; refine wpList_append_own _ rfl _ _ 39 rfl w.heap.size 5 i0 (.int .u8 0) 1 1 Tryd.underlying39 hi hz0 hz1 hz2 rfl (by decide) _ _ _ rfl (HO.out.alloc _) ⟨W.heap.size, 0, none⟩ 1 1 [.int .u8 13] rfl rfl (lit_cells _ _) ?c2 ?c3 ?c4 ?c5 ?_)
      case c2 => intro u hu; simp at hu; subst hu; rfl
      case c3 => (try clear w1); (try clear w5); have := HF2.out; unfold maxLen; omega
      case c4 => (try clear w1); (try clear w5); have := HF2.out; omega
      case c5 => (try clear w1); (try clear w5); have := HB.out.size; simp; omega
      intro v' w2 hown' hgrow _
      have HO2 := Aside0.mk (own_snoc HC9.out hown')
      have HB2 := Aside0.mk (grown_below3 (below_alloc HB.out _) (by have := HB.out.size; simp; omega) (HO.out.alloc _) hgrow)
      clear hown' hgrow
      have w2 := W2.out
      go_wp2_with (fail)
      go_roundg f
      case measure => omega
      case rel =>
        try clear w1
        try clear w2
        try clear w5
        have h2 := HF2.out
        exact ⟨i2, _, _, _, rfl, rfl, by first | rfl | rw [W2.out], ⟨h2.1, by omega, h2.2.1, by rw [List.length_append]; simp; omega⟩, HD2, HO2, HB2⟩
    rw [hpf] at hD
    rw [hix] at HIX
    simp only at hD
    obtain ⟨i5, he5⟩ : ∃ k, k = i1 + 5 := ⟨_, rfl⟩
    have W5 : Aside0 (wrap64 ((i1 : Int) + 5) = (i5 : Int)) := ⟨by unfold wrap64; omega⟩
    have hql : ((L s).drop i2).length = s.size - i2 := by rw [List.length_drop, L_len]
    by_cases hu : cB = 117 ∧ i5 ≤ s.size
    rotate_left
    · rw [if_pos (by rw [hql]; omega), Int.toNat_natCast] at hD
      have HD2 := Aside0.mk hD
      have HC9 : Aside0 (cB < 256) := ⟨by omega⟩
      by_cases h117 : cB = 117
      · subst h117
        have n4 : decide ((s.size : Int) < (i5 : Int)) = true := by simp; omega
        have n5 : decide (s.size < i5) = true := by simp; omega
        clear hk hi1 his hal hs hp hD hcA hdrA hcrA hltA he1 h39 hp2 hpf hix he2 hcB hdrB hcrB hltB he5 hql hu
        have w1 := W1.out
        have w5 := W5.out
        go_wp2_with (go_at_call 30; refine (HIX.out _).mono ?_; rintro e w3 ⟨rfl, rfl⟩; refine Hid.out ?_)
        refine Lib.hid ?_
        go_wp2_with (at_builtin; refine wpList_append_own _ rfl _ _ 39 rfl w.heap.size 5 i0 (.int .u8 0) 1 1 Tryd.underlying39 hi hz0 hz1 hz2 rfl (by decide) _ _ _ rfl (HO.out.alloc _) ⟨W.heap.size, 0, none⟩ 1 1 [.int .u8 117] rfl rfl (lit_cells _ _) ?c2 ?c3 ?c4 ?c5 ?_)
        case c2 => intro u hu; simp at hu; subst hu; rfl
        case c3 => (try clear w1); (try clear w5); have := HF2.out; unfold maxLen; omega
        case c4 => (try clear w1); (try clear w5); have := HF2.out; omega
        case c5 => (try clear w1); (try clear w5); have := HB.out.size; simp; omega
        intro v' w2 hown' hgrow _
        have HO2 := Aside0.mk (own_snoc HC9.out hown')
        have HB2 := Aside0.mk (grown_below3 (below_alloc HB.out _) (by have := HB.out.size; simp; omega) (HO.out.alloc _) hgrow)
        clear hown' hgrow
        have w2 := W2.out
        go_wp2_with (fail)
        go_roundg f
        case measure => omega
        case rel =>
          try clear w1
          try clear w2
          try clear w5
          have h2 := HF2.out
          exact ⟨i2, _, _, _, rfl, rfl, by first | rfl | rw [W2.out], ⟨h2.1, by omega, h2.2.1, by rw [List.length_append]; simp; omega⟩, HD2, HO2, HB2⟩
      · have n1 : ((cB : Int) != 117) = true := bne_iff_ne.2 (by omega)
        have n2 : ((cB : Int) == 117) = false := beq_eq_false_iff_ne.2 (by omega)
        have n3 : decide ((cB : Int) = 117) = false := decide_eq_false (by omega)
        have n6 : (cB == 117) = false := beq_eq_false_iff_ne.2 h117
        have n7 : (cB != 117) = true := bne_iff_ne.2 h117
        clear hk hi1 his hal hs hp hD hcA hdrA hcrA hltA he1 h39 hp2 hpf hix he2 hcB hdrB hcrB hltB he5 hql hu h117
        have w1 := W1.out
        go_wp2_with (go_at_call 30; refine (HIX.out _).mono ?_; rintro e w3 ⟨rfl, rfl⟩; refine Hid.out ?_)
        refine Lib.hid ?_
        go_wp2_with (at_builtin; refine wpList_append_own _ rfl _ _ 39 rfl w.heap.size 5 i0 (.int .u8 0) 1 1 Tryd.underlying39 hi hz0 hz1 hz2 rfl (by decide) _ _ _ rfl (HO.out.alloc _) ⟨W.heap.size, 0, none⟩ 1 1 [.int .u8 (cB : Int)] rfl rfl (lit_cells _ _) ?c2 ?c3 ?c4 ?c5 ?_)
        case c2 => intro u hu; simp at hu; subst hu; rfl
        case c3 => (try clear w1); (try clear w5); have := HF2.out; unfold maxLen; omega
        case c4 => (try clear w1); (try clear w5); have := HF2.out; omega
        case c5 => (try clear w1); (try clear w5); have := HB.out.size; simp; omega
        intro v' w2 hown' hgrow _
        have HO2 := Aside0.mk (own_snoc HC9.out hown')
        have HB2 := Aside0.mk (grown_below3 (below_alloc HB.out _) (by have := HB.out.size; simp; omega) (HO.out.alloc _) hgrow)
        clear hown' hgrow
        have w2 := W2.out
        go_wp2_with (fail)
        go_roundg f
        case measure => omega
        case rel =>
          try clear w1
          try clear w2
          try clear w5
          have h2 := HF2.out
          exact ⟨i2, _, _, _, rfl, rfl, by first | rfl | rw [W2.out], ⟨h2.1, by omega, h2.2.1, by rw [List.length_append]; simp; omega⟩, HD2, HO2, HB2⟩
    obtain ⟨rfl, hu5⟩ := hu
    rw [if_neg (by rw [hql]; omega)] at hD
    have n4 : decide ((s.size : Int) < (i5 : Int)) = false := by simp; omega
    have n5 : decide (s.size < i5) = false := by simp; omega
    obtain ⟨i4, he4⟩ : ∃ k, k = i1 + 4 := ⟨_, rfl⟩
    have W4 : Aside0 (wrap64 ((i1 : Int) + 4) = (i4 : Int)) := ⟨by unfold wrap64; omega⟩
    have W6 : Aside0 (wrap64 ((i4 : Int) + 1) = (i5 : Int)) := ⟨by unfold wrap64; omega⟩
    rw [List.drop_drop, show i2 + 4 = i5 by omega, show i + 6 = i5 by omega] at hD
    have hL4 : L (s.extract i2 i5) = ((L s).drop i2).take 4 := sub_take s i2 i5 4 (by omega)
    obtain ⟨hv, hhv⟩ : ∃ k, hexV (((L s).drop i2).take 4) = k := ⟨_, rfl⟩
    rw [hhv] at hD
    have hvb : hv < 65536 := by rw [← hhv]; exact hexV_lt _
    have HPU := Aside0.mk (fun W' hW => puint_calls (s.extract i2 i5) (by rw [ByteArray.size_extract]; omega) tp pe W' hW)
    rw [hL4, hhv] at HPU
    have HD2 := Aside0.mk hD
    have HEL := enc_le (hv : Int)
    have HF3 : Aside0 (s.size - i5 < f ∧ i5 ≤ s.size ∧ acc.length ≤ 160000 ∧ acc.length + (Lib.encodeRune (hv : Int)).length ≤ 4 * i5 ∧ 1 ≤ i5) := ⟨by omega⟩
    have o1 : ((i2 : Nat) : Int) ≤ (i5 : Int) := by omega
    have o2 : i2 ≤ i5 := by omega
    have o3 : (i5 : Int) ≤ (s.size : Int) := by omega
    have o4 : (0 : Int) ≤ (i2 : Int) := by omega
    have o5 : (0 : Int) ≤ (i5 : Int) := by omega
    have o6 : IntKind.i32.wrap (hv : Int) = (hv : Int) := by simp [IntKind.wrap, IntKind.bits, IntKind.signed]; omega
    have HV9 : Aside0 (hv ≤ 1114111) := ⟨by omega⟩
    clear hk hi1 his hal hs hp hD hcA hdrA hcrA hltA he1 h39 hp2 hpf hix he2 hcB hdrB hcrB hltB he5 hql he4 hL4 hhv hvb HEL
    have w1 := W1.out
    have w5 := W5.out
    have w2 := W2.out
    go_wp2_with (go_at_call 30; refine (HIX.out _).mono ?_; rintro e w3 ⟨rfl, rfl⟩; refine Hid.out ?_)
    refine Lib.hid ?_
    go_wp2_with (fail)
    go_at_call 45
    refine (HPU.out _ (hcell_below2 HB.out HV.out)).mono ?_
    rintro e w3 ⟨⟨er, rfl⟩, hb⟩
    have HB3 := Aside0.mk (below_step HB.out hb)
    have HO3 : Aside0 (w3.ownsRow w.heap.size 5 1 vb acc.length (Lib.byteCells acc)) := ⟨own_below HO.out hb⟩
    clear hb HO HB
    go_wp2_with (fail)
    go_at_call 46
    refine (uput_calls w.heap.size vb acc hv HV9.out _ HO3.out (by have := HF3.out; clear w1 w2 w5; omega) HB3.out.size).mono ?_
    rintro e w4 ⟨⟨v', rfl, hown'⟩, hb⟩
    have HB4 := Aside0.mk (HB3.out.trans hb)
    have HO4 := Aside0.mk hown'
    clear hb hown' w1 w5 w2
    have w4' := W4.out
    have w6 := W6.out
    go_wp2_with (fail)
    go_roundg f
    case measure => omega
    case rel =>
      clear w4' w6
      have h2 := HF3.out
      exact ⟨i5, acc ++ Lib.encodeRune (hv : Int), _, _, rfl, rfl, by first | rfl | rw [W6.out], ⟨h2.1, by omega, h2.2.1, by rw [List.length_append]; omega⟩, HD2, HO4, HB4⟩
end Go.Proofs.YthfhefkacmepkaaDoor.PS
