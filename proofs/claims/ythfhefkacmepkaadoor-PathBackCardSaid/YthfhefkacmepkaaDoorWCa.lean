/- path.Parse, riffleref13.Same and the law PathParses, walked; what the row's list says. Conditions: texts of at most 1000 bytes; the table of powers of ten and the errors of a bad numeral read as they are laid. -/
import Derived.Test.YthfhefkacmepkaaDoorWBa
import Derived.Test.YthfhefkacmepkaaDoorShelf
import Derived.Lib.AtoiAllCases
import Derived.Lib.AtoiErrMem
import Derived.Test.YthfhefkacmepkaaDoorPWalk
import Derived.Test.YthfhefkacmepkaaDoorTabP
import Derived.Stop.LaidErr
namespace Go.Proofs.YthfhefkacmepkaaDoor.PS
open Go.RowKit Go.Proofs.YthfhefkacmepkaaDoorW.PrintWords Go.Proofs.YthfhefkacmepkaaDoorW.PrintLast Go.Proofs.YthfhefkacmepkaaDoorW.PrintMore
open Go.Proofs.YthfhefkacmepkaaDoor.PPathPuts Go.Proofs.YthfhefkacmepkaaDoor.Beg Go.Proofs.YthfhefkacmepkaaDoor.Bld Go.Proofs.YthfhefkacmepkaaDoor.PB
open Go.Proofs.YthfhefkacmepkaaDoor.Num (L L_len L_range)
set_option linter.unusedVariables false
set_option linter.unusedSimpArgs false
theorem bytes_b8 (s : ByteArray) : s.data.toList = b8 (L s) := bytes_L s
theorem L_ints (s : ByteArray) : L s = ints s.data.toList := rfl
theorem head_iff (s : ByteArray) (c : UInt8) : ([c] : List UInt8).isPrefixOf s.data.toList = decide ((L s).head? = some (c.toNat : Int)) := by
  rw [L_ints]
  cases h : s.data.toList with
  | nil => rfl
  | cons b r =>
    simp only [List.isPrefixOf, Bool.and_true, ints, List.map_cons, List.head?_cons, Option.some.injEq]
    by_cases hb : c = b
    · subst hb; simp
    · rw [beq_eq_false_iff_ne.2 hb, decide_eq_false]
      intro e
      exact hb (UInt8.toNat_inj.1 (by omega))
def cutT (c : UInt8) (s : ByteArray) : ByteArray := if (L s).head? = some (c.toNat : Int) then s.extract 1 s.size else s
theorem cut_L (c : UInt8) (s : ByteArray) (h : (L s).head? = some (c.toNat : Int)) : L (cutT c s) = (L s).drop 1 := by
  unfold cutT; rw [if_pos h]; exact Num.ext_L s 1
theorem cut_no (c : UInt8) (s : ByteArray) (h : ¬ (L s).head? = some (c.toNat : Int)) : cutT c s = s := by unfold cutT; rw [if_neg h]
theorem cut_calls (s : ByteArray) (c : UInt8) (w : World) : Calls Tryd.prog 27 #[.string s, .string ⟨#[c]⟩] w fun e w' => e = .returned (.tuple #[.string (cutT c s), .bool (decide ((L s).head? = some (c.toNat : Int)))]) ∧ w = w' := by
  refine (Tryd.strings_CutPrefix s ⟨#[c]⟩ w).mono (fun e w' h => ⟨?_, h.2.symm⟩)
  rw [h.1]
  have e1 : Lib.hasPrefix s.data.toList [c] = decide ((L s).head? = some (c.toNat : Int)) := head_iff s c
  have e2 : (⟨(Lib.trimPrefix s.data.toList [c]).toArray⟩ : ByteArray) = cutT c s := by
    unfold Lib.trimPrefix cutT
    rw [e1]
    by_cases h : (L s).head? = some (c.toNat : Int)
    · rw [if_pos (by simpa using h), if_pos h]
      apply L_inj
      rw [L_mk, Num.ext_L, L_ints]
      simp [ints]
    · rw [if_neg (by simpa using h), if_neg h]
  show Ending.returned (.tuple #[.string ⟨(Lib.trimPrefix s.data.toList [c]).toArray⟩, .bool (Lib.hasPrefix s.data.toList [c])]) = _
  rw [e1, e2]
theorem has_calls (s : ByteArray) (c : UInt8) (w : World) : Calls Tryd.prog 28 #[.string s, .string ⟨#[c]⟩] w fun e w' => e = .returned (.bool (decide ((L s).head? = some (c.toNat : Int)))) ∧ w = w' := by
  refine (Tryd.strings_HasPrefix s ⟨#[c]⟩ w).mono (fun e w' h => ⟨?_, h.2.symm⟩)
  rw [h.1]
  have e1 : Lib.hasPrefix s.data.toList [c] = decide ((L s).head? = some (c.toNat : Int)) := head_iff s c
  show Ending.returned (.bool (Lib.hasPrefix s.data.toList [c])) = _
  rw [e1]
theorem index_nonneg (c : UInt8) : ∀ l : List UInt8, Lib.indexByte l c = -1 ∨ 0 ≤ Lib.indexByte l c
  | [] => .inl rfl
  | b :: l => by
    unfold Lib.indexByte
    split
    · right; decide
    · split
      · left; rfl
      · rename_i h1 h2
        rcases index_nonneg c l with h | h
        · rw [h] at h2; exact absurd rfl h2
        · right; omega
theorem idx_eq : ∀ (l : List UInt8) (i : Nat), (Lib.indexByte l 93 = -1 ∧ idx93 (ints l) i = 0) ∨ (0 ≤ Lib.indexByte l 93 ∧ (idx93 (ints l) i : Int) = (i : Int) + Lib.indexByte l 93 ∧ idx93 (ints l) i < i + l.length)
  | [], i => .inl ⟨rfl, rfl⟩
  | b :: l, i => by
    have e : ints (b :: l) = (b.toNat : Int) :: ints l := rfl
    rw [e]
    unfold Lib.indexByte idx93
    by_cases hb : b = 93
    · subst hb
      rw [if_pos (by decide), if_pos (by decide)]
      right
      refine ⟨by decide, by simp, by simp⟩
    · have hn : ¬ ((b.toNat : Int) = 93) := fun h => hb (UInt8.toNat_inj.1 (by show b.toNat = 93; omega))
      rw [if_neg (by simpa using hb), if_neg hn]
      rcases idx_eq l (i + 1) with ⟨h1, h2⟩ | ⟨h1, h2, h3⟩
      · left
        rw [h1, if_pos (by decide)]
        exact ⟨rfl, h2⟩
      · right
        rw [if_neg (by
          intro h
          have := beq_iff_eq.1 h
          omega)]
        refine ⟨by omega, by omega, by simp; omega⟩
theorem idx_max (s : ByteArray) : max (Lib.indexByte s.data.toList 93) 0 = ((idx93 (L s) 0 : Nat) : Int) ∧ idx93 (L s) 0 ≤ s.size := by
  have h := idx_eq s.data.toList 0
  rw [← L_ints] at h
  have hl : s.data.toList.length = s.size := by simp
  rcases h with ⟨h1, h2⟩ | ⟨h1, h2, h3⟩
  · rw [h1, h2]
    exact ⟨by decide, Nat.zero_le _⟩
  · exact ⟨by omega, by omega⟩
theorem plainV_bounds : ∀ (f : Nat) (l : List Int) (b : List UInt8) (i : Nat), (plainV f l b i).2 ≤ i + l.length ∧ (plainV f l b i).1.length ≤ b.length + l.length
  | 0, l, b, i => by simp [plainV]
  | f + 1, [], b, i => by rw [plain_end]; simp
  | f + 1, c :: r, b, i => by
    rw [plainV_cons]
    split
    · simp only [List.length_cons]; omega
    split
    · have := plainV_bounds f r (b ++ [c.toNat.toUInt8]) (i + 1)
      rw [List.length_append] at this
      simp only [List.length_cons, List.length_nil] at this ⊢; omega
    split
    · simp
    · rename_i d q
      split
      · rename_i y _
        have := plainV_bounds f q (b ++ [y.toNat.toUInt8]) (i + 2)
        rw [List.length_append] at this
        simp only [List.length_cons, List.length_nil] at this ⊢; omega
      · split
        · have := plainV_bounds f q (b ++ [d.toNat.toUInt8]) (i + 2)
          rw [List.length_append] at this
          simp only [List.length_cons, List.length_nil] at this ⊢; omega
        · rename_i h
          have := plainV_bounds f (q.drop 4) (b ++ Lib.encodeRune (hexV (q.take 4) : Nat)) (i + 6)
          have he := enc_le (hexV (q.take 4) : Nat)
          rw [List.length_append, List.length_drop] at this
          simp only [List.length_cons] at this ⊢; omega
theorem cut_size (c : UInt8) (s : ByteArray) : (cutT c s).size ≤ s.size := by
  unfold cutT
  split
  · rw [ByteArray.size_extract]; omega
  · exact Nat.le_refl _
theorem loopV_more : ∀ (f g : Nat) (l : List Int) (out : List S26), l.length < f → l.length < g → loopV f l out = loopV g l out
  | 0, _, l, _, h, _ => by omega
  | _, 0, l, _, _, h => by omega
  | f + 1, g + 1, [], _, _, _ => rfl
  | f + 1, g + 1, c :: r, out, h1, h2 => by
    rw [loopV_cons, loopV_cons]
    by_cases h3 : c ≠ 91
    · rw [if_pos h3, if_pos h3]
    rw [if_neg h3, if_neg h3]
    by_cases h4 : r.head? = some 39
    · rw [if_pos h4, if_pos h4]
      split
      · rfl
      · exact loopV_more f g _ _ (by rw [List.length_drop]; simp at h1 ⊢; omega) (by rw [List.length_drop]; simp at h2 ⊢; omega)
    · rw [if_neg h4, if_neg h4]
      split
      · rfl
      · exact loopV_more f g _ _ (by rw [List.length_drop]; simp at h1 ⊢; omega) (by rw [List.length_drop]; simp at h2 ⊢; omega)
theorem atoi_calls (t : ByteArray) (hs : t.size ≤ 40000) (tp1 tp2 : TypeId) (p1 p2 : Value) (w : World) (h2 : w.cell? ⟨1, 0, none⟩ = some (.iface tp1 p1)) (h3 : w.cell? ⟨2, 0, none⟩ = some (.iface tp2 p2)) :
    Calls Tryd.prog 31 #[.string t] w fun e w' => (∃ er, e = .returned (.tuple #[.int .i64 (atoiV t.data.toList), er])) ∧ Below w.heap.size w w' := by
  unfold atoiV
  cases h : Lib.atoiAll t.data.toList with
  | ok v =>
    refine (Tryd.strconv_Atoi_ok t (by omega) v h w).mono ?_
    rintro e w' ⟨rfl, hw⟩
    refine ⟨⟨_, rfl⟩, ?_⟩
    rcases hw with rfl | ⟨t', rfl⟩
    · exact Below.refl _ _
    · exact Lib.bytesWorld_below w 5 t'
  | range =>
    refine (Tryd.strconv_Atoi_range t (by omega) h _ w h3 (Or.inr ⟨_, _, rfl⟩)).mono ?_
    rintro e w' ⟨N, rfl, _, _, hb⟩
    exact ⟨⟨_, rfl⟩, hb⟩
  | _ =>
    refine (Tryd.strconv_Atoi_syntax t (by omega) h _ w h2 (Or.inr ⟨_, _, rfl⟩)).mono ?_
    rintro e w' ⟨N, rfl, _, _, hb⟩
    exact ⟨⟨_, rfl⟩, hb⟩
theorem own_set {w : World} {B n m : Nat} {e : TypeId} {v : Value} {xs : List Value} (h : w.ownsRow B e n v m xs) {a : Addr} (hne : ∀ k, v.ownBlock = some k → k ≠ a.block) (u : Value) : (w.setCell a u).ownsRow B e n v m xs := by
  refine ⟨h.1, ?_⟩
  rcases h.2 with hn | ⟨g, cap, cur, hv, hbg, hg, rest⟩
  · exact .inl hn
  · have hk : g ≠ a.block := hne g (by rw [hv]; rfl)
    exact .inr ⟨g, cap, cur, hv, hbg, (Below.heap_setCell w a u g hk).trans hg, rest⟩
end Go.Proofs.YthfhefkacmepkaaDoor.PS
namespace Go.Proofs.YthfhefkacmepkaaDoor.PS
open Go.RowKit Go.Proofs.YthfhefkacmepkaaDoorW.PrintWords Go.Proofs.YthfhefkacmepkaaDoorW.PrintLast Go.Proofs.YthfhefkacmepkaaDoorW.PrintMore
open Go.Proofs.YthfhefkacmepkaaDoor.PPathPuts Go.Proofs.YthfhefkacmepkaaDoor.Beg Go.Proofs.YthfhefkacmepkaaDoor.Bld Go.Proofs.YthfhefkacmepkaaDoor.PB Go.Proofs.YthfhefkacmepkaaDoor.PP
open Go.Proofs.YthfhefkacmepkaaDoor.Num (L L_len L_range)
attribute [local go_sem] max2_int min2_int max_two min_two max_three min_three max_four min_four
set_option linter.unusedVariables false
set_option linter.unusedSimpArgs false
def loopTop (s : ByteArray) : Option (List S26) := if (L s).head? = some 36 then loopV (s.size + 1) ((L s).drop 1) [] else none
def checkV (s : ByteArray) : Option (List S26) → Option (List S26)
  | some l => if (⟨(pathOf l).toArray⟩ : ByteArray) = s then some l else none
  | none => none
structure Errs (w : World) : Prop where
  one : ∃ tp pe, w.cell? ⟨1, 0, none⟩ = some (.iface tp pe)
  two : ∃ tp pe, w.cell? ⟨2, 0, none⟩ = some (.iface tp pe)
theorem checkV_some (s : ByteArray) (l : List S26) : checkV s (some l) = if (⟨(pathOf l).toArray⟩ : ByteArray) = s then some l else none := rfl
theorem loopV_nil (f : Nat) (out : List S26) : loopV (f + 1) [] out = some out := rfl
theorem empty_of (t : ByteArray) (h : t.size = 0) : t = ⟨#[]⟩ := ByteArray.ext (Array.eq_empty_of_size_eq_zero h)
theorem toList_ne (t : ByteArray) (h : t.size ≠ 0) : (t.toList == ([] : List UInt8)) = false ∧ (t.toList != ([] : List UInt8)) = true := by
  have : t.toList ≠ [] := by
    rw [ByteArray.toList_eq]
    intro e
    apply h
    have := congrArg List.length e
    simpa using this
  exact ⟨beq_eq_false_iff_ne.2 this, bne_iff_ne.2 this⟩
theorem toList_eq0 (t : ByteArray) (h : t.size = 0) : (t.toList == ([] : List UInt8)) = true ∧ (t.toList != ([] : List UInt8)) = false := by
  have : t.toList = [] := by
    rw [ByteArray.toList_eq, empty_of t h]
  exact ⟨beq_iff_eq.2 this, bne_eq_false_iff_eq.2 this⟩
theorem toList_inj {a b : ByteArray} : a.toList = b.toList ↔ a = b := by
  rw [ByteArray.toList_eq, ByteArray.toList_eq]
  exact ⟨fun h => ByteArray.ext (Array.toList_inj.1 h), fun h => by rw [h]⟩

set_option maxHeartbeats 32000000 in
set_option maxRecDepth 100000 in
theorem pparse_calls (s : ByteArray) (hs : s.size ≤ 40000) (w : World) (htab : Lib.TabIs Tryd.prog w "internal/strconv.uint64pow10" .u64 Lib.pow10Tab) (herr : Errs w) :
    Calls Tryd.prog 14 #[.string s] w fun e w' => Answer (checkV s (loopTop s)) e w' ∧ Below w.heap.size w w' := by
  obtain ⟨j0, hj, hy0, hy1, hy2⟩ := info_parts info26
  have hu26 := Tryd.underlying26
  obtain ⟨⟨tp1, p1, he1⟩, ⟨tp2, p2, he2⟩⟩ := herr
  have HE1 := Aside0.mk he1
  have HE2 := Aside0.mk he2
  have HT := Aside0.mk (Lib.tabBelow_of_tabIs htab)
  have HS := Aside0.mk hs
  obtain ⟨RL, hRL⟩ : ∃ R, loopTop s = R := ⟨_, rfl⟩
  rw [hRL]
  have HRL := Aside0.mk hRL
  have HC0 := Aside0.mk (cut_calls s 36)
  clear he1 he2 htab hs hRL
  go_enter Tryd.func14, Tryd.ntmps14
  go_wp2_with (go_at_call 27; refine (HC0.out _).mono ?_; rintro e w3 ⟨rfl, rfl⟩; refine Hid.out ?_)
  refine Lib.hid ?_
  go_wp2_with (fail)
  go_loopg [4, 5, 6] (s.size + 2) (fun kq v4 v5 v6 w' => ∃ (acc : List S26) (t : ByteArray) (ok : Bool) (vo : Value) (W : World), W = w' ∧ vo = v4 ∧ v5 = .string t ∧ v6 = .bool ok ∧ Aside0 (t.size < kq ∧ acc.length + t.size ≤ 40000 ∧ ∀ x ∈ acc, x.f1.size ≤ 40000) ∧ Aside0 ((ok = true → loopV kq (L t) acc = RL) ∧ (ok = false → RL = none)) ∧ Aside0 (w'.ownsRow w.heap.size 26 3 vo acc.length (sc acc)) ∧ Aside0 (Below w.heap.size w w'))
  case atStart =>
    refine ⟨[], cutT 36 s, _, _, _, rfl, rfl, rfl, rfl, ⟨?_, ?_, by simp⟩, ⟨fun h => ?_, fun h => ?_⟩, ⟨World.ownsRow_nil _ _ _ _⟩, ⟨by first | exact Below.refl _ _ | exact (Below.refl _ _).drew⟩⟩
    · have := cut_size 36 s; omega
    · have := cut_size 36 s; have := HS.out; simp; omega
    · have h1 : (L s).head? = some 36 := by simpa using h
      rw [cut_L 36 s h1, ← HRL.out]
      unfold loopTop
      rw [if_pos h1]
      exact loopV_more _ _ _ _ (by rw [List.length_drop, L_len]; omega) (by rw [List.length_drop, L_len]; omega)
    · have h1 : ¬ (L s).head? = some 36 := by simpa using h
      rw [← HRL.out]
      unfold loopTop
      rw [if_neg h1]
  case round =>
    clear HC0
    obtain ⟨acc, t, ok, vo, W, rfl, rfl, rfl, rfl, HI, HD, HO, HB⟩ := hrel
    obtain ⟨hk, hal, hnm⟩ := HI.out
    have hs := HS.out
    cases ok with
    | false =>
      have E : Aside0 (RL = none) := ⟨HD.out.2 rfl⟩
      clear hk hal hnm hs
      go_wp2_with (fail)
      go_ret2
      rw [E.out]
      exact ⟨rfl, by first | exact HB.out | exact HB.out.drew⟩
    | true =>
    have hD := HD.out.1 rfl
    obtain ⟨f, rfl⟩ : ∃ f, gk = f + 1 := ⟨gk - 1, by omega⟩
    by_cases ht : t.size = 0
    · obtain ⟨b0, b1⟩ := toList_eq0 t ht
      have hL : L t = [] := (Num.nil_iff t).2 ht
      have E : Aside0 (RL = some acc) := ⟨by rw [← hD, hL]; rfl⟩
      have hsm : Small acc := ⟨by omega, hnm⟩
      obtain ⟨A, c, hv, hc, hC⟩ := steps_of_own HO.out (by unfold maxLen; omega)
      have HP := Aside0.mk (put_calls A c acc W hC hc hsm (HT.out.on HB.out).here)
      subst hv
      have HST : Aside0 (StepsAt W (.slice A acc.length c) acc) := ⟨⟨A, c, rfl, hc, hC⟩⟩
      obtain ⟨pb, hpb⟩ : ∃ pb : ByteArray, ⟨(pathOf acc).toArray⟩ = pb := ⟨_, rfl⟩
      rw [hpb] at HP
      have HPB := Aside0.mk hpb
      clear hk hal hnm hs hD hL ht hsm hc hC hpb HO
      by_cases heq : pb = s
      · have g1 : (pb.toList == s.toList) = true := beq_iff_eq.2 (toList_inj.2 heq)
        have g2 : (pb.toList != s.toList) = false := bne_eq_false_iff_eq.2 (toList_inj.2 heq)
        have E2 : Aside0 (checkV s RL = some acc) := ⟨by rw [E.out, checkV_some, if_pos (HPB.out.trans heq)]⟩
        clear heq
        go_wp2_with (fail)
        go_at_call 10
        refine HP.out.mono ?_
        rintro e w3 ⟨rfl, hb⟩
        have HST3 := Aside0.mk (HST.out.below hb)
        have HB3 := Aside0.mk (below_step HB.out hb)
        clear hb
        go_wp2_with (fail)
        go_ret2
        rw [E2.out]
        exact ⟨⟨_, rfl, by first | exact HST3.out | exact HST3.out.below (Below.refl _ _).drew⟩, by first | exact HB3.out | exact HB3.out.drew⟩
      · have g1 : (pb.toList == s.toList) = false := beq_eq_false_iff_ne.2 (fun h => heq (toList_inj.1 h))
        have g2 : (pb.toList != s.toList) = true := bne_iff_ne.2 (fun h => heq (toList_inj.1 h))
        have E2 : Aside0 (checkV s RL = none) := ⟨by rw [E.out, checkV_some, if_neg (fun h => heq (HPB.out.symm.trans h))]⟩
        clear heq
        go_wp2_with (fail)
        go_at_call 10
        refine HP.out.mono ?_
        rintro e w3 ⟨rfl, hb⟩
        have HB3 := Aside0.mk (below_step HB.out hb)
        clear hb
        go_wp2_with (fail)
        go_ret2
        rw [E2.out]
        exact ⟨rfl, by first | exact HB3.out | exact HB3.out.drew⟩
    obtain ⟨b0, b1⟩ := toList_ne t ht
    have HC1 := Aside0.mk (cut_calls t 91)
    obtain ⟨r, hr, hrl⟩ := L_split t (by omega)
    rw [hr, loopV_cons] at hD
    by_cases h91 : (L t).head? = some 91
    rotate_left
    · have hdec : decide ((L t).head? = some 91) = false := decide_eq_false h91
      have E : Aside0 (RL = none) := ⟨by rw [← hD, if_pos (fun e => h91 (by rw [hr, e]; rfl))]⟩
      have HC1' : Aside0 (∀ W', Calls Tryd.prog 27 #[.string t, .string ⟨#[91]⟩] W' fun e w' => e = .returned (.tuple #[.string (cutT 91 t), .bool false]) ∧ W' = w') := ⟨fun W' => by have := HC1.out W'; rwa [show decide ((L t).head? = some ((91 : UInt8).toNat : Int)) = false from hdec] at this⟩
      clear hk hal hnm hs hD ht hr hrl h91 hdec HC1
      go_wp2_with (go_at_call 27; refine (HC1'.out _).mono ?_; rintro e w3 ⟨rfl, rfl⟩; refine Hid.out ?_)
      refine Lib.hid ?_
      go_wp2_with (fail)
      go_ret2
      rw [E.out]
      exact ⟨rfl, by first | exact HB.out | exact HB.out.drew⟩
    have hdec : decide ((L t).head? = some 91) = true := decide_eq_true h91
    have HC1' : Aside0 (∀ W', Calls Tryd.prog 27 #[.string t, .string ⟨#[91]⟩] W' fun e w' => e = .returned (.tuple #[.string (cutT 91 t), .bool true]) ∧ W' = w') := ⟨fun W' => by have := HC1.out W'; rwa [show decide ((L t).head? = some ((91 : UInt8).toNat : Int)) = true from hdec] at this⟩
    have hc91 : bt t 0 = 91 := by rw [hr] at h91; simpa using h91
    rw [if_neg (by rw [hc91]; simp)] at hD
    obtain ⟨t1, ht1⟩ : ∃ t1, cutT 91 t = t1 := ⟨_, rfl⟩
    rw [ht1] at HC1'
    have hL1 : L t1 = r := by rw [← ht1, cut_L 91 t h91, hr]; rfl
    have hz1 : t1.size + 1 = t.size := by rw [← L_len, hL1]; omega
    rw [← hL1] at hD
    have HH := Aside0.mk (has_calls t1 39)
    have HF0 : Aside0 (t1.size < f ∧ acc.length + 1 + t1.size ≤ 40000 ∧ t1.size ≤ 40000) := ⟨by omega⟩
    have HNM := Aside0.mk hnm
    obtain ⟨b, hbh⟩ : ∃ b, decide ((L t1).head? = some 39) = b := ⟨_, rfl⟩
    have HHb : Aside0 (∀ W', Calls Tryd.prog 28 #[.string t1, .string ⟨#[39]⟩] W' fun e w' => e = .returned (.bool b) ∧ W' = w') := ⟨fun W' => by have := HH.out W'; rwa [show decide ((L t1).head? = some ((39 : UInt8).toNat : Int)) = b from hbh] at this⟩
    have HDD := Aside0.mk hD
    clear hk hal hnm hs hD ht hr hrl h91 hdec HC1 hc91 ht1 hL1 hz1 HH
    go_wp2_with (go_at_call 27; refine (HC1'.out _).mono ?_; rintro e w3 ⟨rfl, rfl⟩; refine Hid.out ?_)
    refine Lib.hid ?_
    clear HC1' b0 b1
    go_upto_region 7 with (fail)
    generalize hg : World.alloc W _ = W1
    have BK : Aside0 (W1.heap[W.heap.size]? = some (.cells #[.bool true, .string ⟨#[]⟩, .int .i64 0] 26 (0, 0))) := ⟨by subst hg; exact blk_new _ _⟩
    have HO1 : Aside0 (W1.ownsRow w.heap.size 26 3 vo acc.length (sc acc)) := ⟨by subst hg; exact HO.out.alloc _⟩
    have HB1 : Aside0 (Below w.heap.size w W1) := ⟨by subst hg; exact below_alloc HB.out _⟩
    have HNE : Aside0 (∀ k, vo.ownBlock = some k → k ≠ W.heap.size) := ⟨fun k hk => by have := (HO.out.lt k hk).2; omega⟩
    have GE : Aside0 (w.heap.size ≤ W.heap.size) := ⟨HB.out.size⟩
    clear hg HO HB
    generalize W.heap.size = gb at *
    have d0 : W1.cell? ⟨gb, 0, none⟩ = some (.bool true) := (blk_cell BK.out 0).trans rfl
    have d1 : W1.cell? ⟨gb, 1, none⟩ = some (.string ⟨#[]⟩) := (blk_cell BK.out 1).trans rfl
    have d2 : W1.cell? ⟨gb, 2, none⟩ = some (.int .i64 0) := (blk_cell BK.out 2).trans rfl
    have z0 := blk_frozen BK.out 0
    have z1 := blk_frozen BK.out 1
    have z2 := blk_frozen BK.out 2
    cases b with
    | true =>
      have hh := of_decide_eq_true hbh
      have hne1 : 1 ≤ t1.size := by
        rw [← L_len]
        cases hl : L t1 with
        | nil => rw [hl] at hh; cases hh
        | cons a b => simp
      obtain ⟨nmv, n, hpv⟩ : ∃ nmv n, plainV (t1.size + 1) ((L t1).drop 1) [] 1 = (nmv, n) := ⟨_, _, rfl⟩
      have hbd := plainV_bounds (t1.size + 1) ((L t1).drop 1) [] 1
      rw [hpv, List.length_drop, L_len] at hbd
      simp only [List.length_nil] at hbd
      have hD := HDD.out
      rw [if_pos hh, L_len, hpv] at hD
      have HD9 := Aside0.mk hD
      have HNB : Aside0 (n ≤ t1.size ∧ nmv.length ≤ 40000) := ⟨by have := HF0.out; omega⟩
      have HPL := Aside0.mk (plain_calls t1 hne1 HF0.out.2.2 tp1 p1 W1 (hcell_below2 HB1.out HE1.out))
      rw [hpv] at HPL
      obtain ⟨nmb, hnmb⟩ : ∃ nmb : ByteArray, ⟨nmv.toArray⟩ = nmb := ⟨_, rfl⟩
      simp only [hnmb] at HPL HD9
      have HNX : Aside0 (nmb.size ≤ 40000) := ⟨by rw [← hnmb]; have := HNB.out.2; simp [ByteArray.size]; exact this⟩
      clear hh hne1 hpv hbd hD hbh hnmb
      go_wp2_with (go_at_call 28; refine (HHb.out _).mono ?_; rintro e w3 ⟨rfl, rfl⟩; refine Hid.out ?_)
      refine Lib.hid ?_
      go_wp2_with (fail)
      go_at_call 29
      refine HPL.out.mono ?_
      rintro e w3 ⟨rfl, hb⟩
      have BK3 := Aside0.mk ((hb.block _ (blk_lt BK.out)).trans BK.out)
      have HO3 : Aside0 (w3.ownsRow w.heap.size 26 3 vo acc.length (sc acc)) := ⟨own_below HO1.out hb⟩
      have HB3 := Aside0.mk (below_step HB1.out hb)
      clear hb HO1 HB1 BK d0 d1 d2 z0 z1 z2
      have d0 : w3.cell? ⟨gb, 0, none⟩ = some (.bool true) := (blk_cell BK3.out 0).trans rfl
      have d1 : w3.cell? ⟨gb, 1, none⟩ = some (.string ⟨#[]⟩) := (blk_cell BK3.out 1).trans rfl
      have d2 : w3.cell? ⟨gb, 2, none⟩ = some (.int .i64 0) := (blk_cell BK3.out 2).trans rfl
      have z0 := blk_frozen BK3.out 0
      have z1 := blk_frozen BK3.out 1
      have z2 := blk_frozen BK3.out 2
      go_upto_region 12 with (fail)
      generalize hg : World.setCell w3 _ _ = W4
      have BK4 : Aside0 (W4.heap[gb]? = some (.cells #[.bool true, .string nmb, .int .i64 0] 26 (0, 0))) := ⟨by subst hg; exact blk_set BK3.out _ _⟩
      have HO4 : Aside0 (W4.ownsRow w.heap.size 26 3 vo acc.length (sc acc)) := ⟨by subst hg; exact own_set HO3.out HNE.out _⟩
      have HB4 : Aside0 (Below w.heap.size w W4) := ⟨by subst hg; exact below_set HB3.out GE.out⟩
      clear hg HO3 HB3 BK3 d0 d1 d2 z0 z1 z2
      have d0 : W4.cell? ⟨gb, 0, none⟩ = some (.bool true) := (blk_cell BK4.out 0).trans rfl
      have d1 : W4.cell? ⟨gb, 1, none⟩ = some (.string nmb) := (blk_cell BK4.out 1).trans rfl
      have d2 : W4.cell? ⟨gb, 2, none⟩ = some (.int .i64 0) := (blk_cell BK4.out 2).trans rfl
      go_wp2_with (at_builtin; refine wpList_append_own _ rfl _ _ 22 rfl w.heap.size 26 j0 stepZ 3 32 Tryd.underlying22 hj hy0 hy1 hy2 rfl (by decide) _ _ _ rfl (HO4.out.alloc _) ⟨W4.heap.size, 0, none⟩ 1 1 (sc1 ⟨true, nmb, 0⟩) rfl rfl (step_cells _ ⟨true, nmb, 0⟩) ?c2 ?c3 ?c4 ?c5 ?_)
      case c2 => exact sc_one _
      case c3 => have := HF0.out; unfold maxLen; omega
      case c4 => have := HF0.out; omega
      case c5 => have := HB4.out.size; simp; omega
      intro v' w5 hown' hgrow _
      have HO5 := Aside0.mk (steps_snoc hown')
      have HB5 := Aside0.mk (grown_below3 (below_alloc HB4.out _) (by have := HB4.out.size; simp; omega) (HO4.out.alloc _) hgrow)
      clear hown' hgrow d0 d1 d2 HO4 HB4
      have o1 : (n : Int) ≤ (t1.size : Int) := by have := HNB.out; omega
      have o2 : n ≤ t1.size := HNB.out.1
      have o3 : (0 : Int) ≤ (n : Int) := by omega
      have HC2 := Aside0.mk (cut_calls (t1.extract n t1.size) 93)
      have hL2 : L (t1.extract n t1.size) = (L t1).drop n := Num.ext_L t1 n
      obtain ⟨t2, ht2⟩ : ∃ t2, t1.extract n t1.size = t2 := ⟨_, rfl⟩
      rw [ht2] at HC2 hL2
      have hz2 : t2.size ≤ t1.size := by rw [← ht2, ByteArray.size_extract]; omega
      obtain ⟨b2, hb2⟩ : ∃ b2, decide ((L t2).head? = some 93) = b2 := ⟨_, rfl⟩
      have HC2' : Aside0 (∀ W', Calls Tryd.prog 27 #[.string t2, .string ⟨#[93]⟩] W' fun e w' => e = .returned (.tuple #[.string (cutT 93 t2), .bool b2]) ∧ W' = w') := ⟨fun W' => by have := HC2.out W'; rwa [show decide ((L t2).head? = some ((93 : UInt8).toNat : Int)) = b2 from hb2] at this⟩
      have hzc := cut_size 93 t2
      have HF9 : Aside0 ((cutT 93 t2).size < f ∧ acc.length + 1 + (cutT 93 t2).size ≤ 40000) := ⟨by have := HF0.out; omega⟩
      have HREL : Aside0 ((b2 = true → loopV f (L (cutT 93 t2)) (acc ++ [⟨true, nmb, 0⟩]) = RL) ∧ (b2 = false → RL = none)) := ⟨by
        have hD := HD9.out
        rw [← hL2] at hD
        constructor
        · intro h
          rw [h] at hb2
          have h2 := of_decide_eq_true hb2
          rw [if_neg (fun e => e h2)] at hD
          rw [cut_L 93 t2 h2, hL2, List.drop_drop]
          exact hD
        · intro h
          rw [h] at hb2
          have h2 := of_decide_eq_false hb2
          rw [if_pos h2] at hD
          exact hD.symm⟩
      clear HC2 hL2 hz2 hb2 hzc
      go_wp2_with (fail)
      go_at_call 27
      try rw [ht2]
      refine (HC2'.out _).mono ?_
      rintro e w6 ⟨rfl, rfl⟩
      go_wp2_with (fail)
      go_roundg f
      case measure => omega
      case rel =>
        have h9 := HF9.out
        exact ⟨acc ++ [⟨true, nmb, 0⟩], cutT 93 t2, b2, _, _, rfl, rfl, rfl, rfl, ⟨h9.1, by rw [List.length_append]; simp; omega, fun x hx => by rcases List.mem_append.1 hx with hx | hx; exact HNM.out x hx; rw [List.mem_singleton.1 hx]; exact HNX.out⟩, HREL, HO5, HB5⟩
    | false =>
      have hh := of_decide_eq_false hbh
      obtain ⟨hmx, hix⟩ := idx_max t1
      obtain ⟨n, hn⟩ : ∃ n, idx93 (L t1) 0 = n := ⟨_, rfl⟩
      rw [hn] at hmx hix
      have hD := HDD.out
      rw [if_neg hh, hn] at hD
      have hX : b8 ((L t1).take n) = (t1.extract 0 n).data.toList := by rw [bytes_L, Num.take_L]; rfl
      rw [hX] at hD
      obtain ⟨x2, hx2⟩ : ∃ x2, atoiV (t1.extract 0 n).data.toList = x2 := ⟨_, rfl⟩
      rw [hx2] at hD
      have HD9 := Aside0.mk hD
      have HNB : Aside0 (n ≤ t1.size ∧ True) := ⟨hix, trivial⟩
      have HNX : Aside0 ((⟨#[]⟩ : ByteArray).size ≤ 40000) := ⟨by decide⟩
      have HIB := Aside0.mk (fun W' => Tryd.strings_IndexByte t1 93 W')
      have HAT := Aside0.mk (fun W' h2 h3 => atoi_calls (t1.extract 0 n) (by have := HF0.out; rw [ByteArray.size_extract]; omega) tp1 tp2 p1 p2 W' h2 h3)
      rw [hx2] at HAT
      have hc93 : (93 : Int).toNat.toUInt8 = 93 := by decide
      rw [hc93] at HIB
      obtain ⟨ib, hib⟩ : ∃ ib, Lib.indexByte t1.data.toList 93 = ib := ⟨_, rfl⟩
      rw [hib] at HIB hmx
      have hmy : (if ib < 0 then (0 : Int) else ib) = (n : Int) := by rw [← hmx]; split <;> omega
      clear hmx
      have o1 : (n : Int) ≤ (t1.size : Int) := by omega
      have o2 : n ≤ t1.size := hix
      have o3 : (0 : Int) ≤ (n : Int) := by omega
      clear hh hn hD hX hx2 hbh hix hc93 hib
      go_wp2_with (go_at_call 28; refine (HHb.out _).mono ?_; rintro e w3 ⟨rfl, rfl⟩; refine Hid.out ?_)
      refine Lib.hid ?_
      go_upto_region 10 with (fail)
      generalize hg : World.setCell W1 _ _ = W2
      have BK2 : Aside0 (W2.heap[gb]? = some (.cells #[.bool false, .string ⟨#[]⟩, .int .i64 0] 26 (0, 0))) := ⟨by subst hg; exact blk_set BK.out _ _⟩
      have HO2 : Aside0 (W2.ownsRow w.heap.size 26 3 vo acc.length (sc acc)) := ⟨by subst hg; exact own_set HO1.out HNE.out _⟩
      have HB2 : Aside0 (Below w.heap.size w W2) := ⟨by subst hg; exact below_set HB1.out GE.out⟩
      clear hg HO1 HB1 BK d0 d1 d2 z0 z1 z2
      go_wp2_with (go_at_call 30; refine (HIB.out _).mono ?_; rintro e w3 ⟨rfl, hw3⟩; subst hw3; refine Hid.out ?_)
      refine Lib.hid ?_
      go_upto_region 11 with (fail)
      try rw [hmy]
      try rw [hmy]
      go_wp2_with (fail)
      go_at_call 31
      refine (HAT.out _ (hcell_below2 HB2.out HE1.out) (hcell_below2 HB2.out HE2.out)).mono ?_
      rintro e w3 ⟨⟨er, rfl⟩, hb⟩
      have BK3 := Aside0.mk ((hb.block _ (blk_lt BK2.out)).trans BK2.out)
      have HO3 : Aside0 (w3.ownsRow w.heap.size 26 3 vo acc.length (sc acc)) := ⟨own_below HO2.out hb⟩
      have HB3 := Aside0.mk (below_step HB2.out hb)
      clear hb HO2 HB2 BK2 o1 o2 o3
      have d0 : w3.cell? ⟨gb, 0, none⟩ = some (.bool false) := (blk_cell BK3.out 0).trans rfl
      have d1 : w3.cell? ⟨gb, 1, none⟩ = some (.string ⟨#[]⟩) := (blk_cell BK3.out 1).trans rfl
      have d2 : w3.cell? ⟨gb, 2, none⟩ = some (.int .i64 0) := (blk_cell BK3.out 2).trans rfl
      have z0 := blk_frozen BK3.out 0
      have z1 := blk_frozen BK3.out 1
      have z2 := blk_frozen BK3.out 2
      go_upto_region 12 with (fail)
      generalize hg : World.setCell w3 _ _ = W4
      have BK4 : Aside0 (W4.heap[gb]? = some (.cells #[.bool false, .string ⟨#[]⟩, .int .i64 x2] 26 (0, 0))) := ⟨by subst hg; exact blk_set BK3.out _ _⟩
      have HO4 : Aside0 (W4.ownsRow w.heap.size 26 3 vo acc.length (sc acc)) := ⟨by subst hg; exact own_set HO3.out HNE.out _⟩
      have HB4 : Aside0 (Below w.heap.size w W4) := ⟨by subst hg; exact below_set HB3.out GE.out⟩
      clear hg HO3 HB3 BK3 d0 d1 d2 z0 z1 z2
      have d0 : W4.cell? ⟨gb, 0, none⟩ = some (.bool false) := (blk_cell BK4.out 0).trans rfl
      have d1 : W4.cell? ⟨gb, 1, none⟩ = some (.string ⟨#[]⟩) := (blk_cell BK4.out 1).trans rfl
      have d2 : W4.cell? ⟨gb, 2, none⟩ = some (.int .i64 x2) := (blk_cell BK4.out 2).trans rfl
      go_wp2_with (at_builtin; refine wpList_append_own _ rfl _ _ 22 rfl w.heap.size 26 j0 stepZ 3 32 Tryd.underlying22 hj hy0 hy1 hy2 rfl (by decide) _ _ _ rfl (HO4.out.alloc _) ⟨W4.heap.size, 0, none⟩ 1 1 (sc1 ⟨false, ⟨#[]⟩, x2⟩) rfl rfl (step_cells _ ⟨false, ⟨#[]⟩, x2⟩) ?c2 ?c3 ?c4 ?c5 ?_)
      case c2 => exact sc_one _
      case c3 => have := HF0.out; unfold maxLen; omega
      case c4 => have := HF0.out; omega
      case c5 => have := HB4.out.size; simp; omega
      intro v' w5 hown' hgrow _
      have HO5 := Aside0.mk (steps_snoc hown')
      have HB5 := Aside0.mk (grown_below3 (below_alloc HB4.out _) (by have := HB4.out.size; simp; omega) (HO4.out.alloc _) hgrow)
      clear hown' hgrow d0 d1 d2 HO4 HB4
      have o1 : (n : Int) ≤ (t1.size : Int) := by have := HNB.out; omega
      have o2 : n ≤ t1.size := HNB.out.1
      have o3 : (0 : Int) ≤ (n : Int) := by omega
      have HC2 := Aside0.mk (cut_calls (t1.extract n t1.size) 93)
      have hL2 : L (t1.extract n t1.size) = (L t1).drop n := Num.ext_L t1 n
      obtain ⟨t2, ht2⟩ : ∃ t2, t1.extract n t1.size = t2 := ⟨_, rfl⟩
      rw [ht2] at HC2 hL2
      have hz2 : t2.size ≤ t1.size := by rw [← ht2, ByteArray.size_extract]; omega
      obtain ⟨b2, hb2⟩ : ∃ b2, decide ((L t2).head? = some 93) = b2 := ⟨_, rfl⟩
      have HC2' : Aside0 (∀ W', Calls Tryd.prog 27 #[.string t2, .string ⟨#[93]⟩] W' fun e w' => e = .returned (.tuple #[.string (cutT 93 t2), .bool b2]) ∧ W' = w') := ⟨fun W' => by have := HC2.out W'; rwa [show decide ((L t2).head? = some ((93 : UInt8).toNat : Int)) = b2 from hb2] at this⟩
      have hzc := cut_size 93 t2
      have HF9 : Aside0 ((cutT 93 t2).size < f ∧ acc.length + 1 + (cutT 93 t2).size ≤ 40000) := ⟨by have := HF0.out; omega⟩
      have HREL : Aside0 ((b2 = true → loopV f (L (cutT 93 t2)) (acc ++ [⟨false, ⟨#[]⟩, x2⟩]) = RL) ∧ (b2 = false → RL = none)) := ⟨by
        have hD := HD9.out
        rw [← hL2] at hD
        constructor
        · intro h
          rw [h] at hb2
          have h2 := of_decide_eq_true hb2
          rw [if_neg (fun e => e h2)] at hD
          rw [cut_L 93 t2 h2, hL2, List.drop_drop]
          exact hD
        · intro h
          rw [h] at hb2
          have h2 := of_decide_eq_false hb2
          rw [if_pos h2] at hD
          exact hD.symm⟩
      clear HC2 hL2 hz2 hb2 hzc
      go_wp2_with (fail)
      go_at_call 27
      try rw [ht2]
      refine (HC2'.out _).mono ?_
      rintro e w6 ⟨rfl, rfl⟩
      go_wp2_with (fail)
      go_roundg f
      case measure => omega
      case rel =>
        have h9 := HF9.out
        exact ⟨acc ++ [⟨false, ⟨#[]⟩, x2⟩], cutT 93 t2, b2, _, _, rfl, rfl, rfl, rfl, ⟨h9.1, by rw [List.length_append]; simp; omega, fun x hx => by rcases List.mem_append.1 hx with hx | hx; exact HNM.out x hx; rw [List.mem_singleton.1 hx]; exact HNX.out⟩, HREL, HO5, HB5⟩
end Go.Proofs.YthfhefkacmepkaaDoor.PS
namespace Go.Proofs.YthfhefkacmepkaaDoor.PS
open Go.RowKit Go.Proofs.YthfhefkacmepkaaDoorW.PrintWords Go.Lib
open Go.Proofs.YthfhefkacmepkaaDoor.PPathPuts Go.Proofs.YthfhefkacmepkaaDoor.Beg Go.Proofs.YthfhefkacmepkaaDoor.Bld Go.Proofs.YthfhefkacmepkaaDoor.PB Go.Proofs.YthfhefkacmepkaaDoor.PP
open Go.Proofs.YthfhefkacmepkaaDoor.Num (L L_len L_range)
set_option linter.unusedVariables false
set_option linter.unusedSimpArgs false
theorem loopV_names : ∀ (f : Nat) (l : List Int) (out r : List S26), l.length ≤ 40000 → (∀ x ∈ out, x.f1.size ≤ 40000) → loopV f l out = some r → ∀ x ∈ r, x.f1.size ≤ 40000
  | 0, _, _, _, _, _, h => by cases h
  | f + 1, [], out, r, _, ho, h => by
    obtain rfl := Option.some.inj h
    exact ho
  | f + 1, c :: q, out, r, hl, ho, h => by
    rw [loopV_cons] at h
    by_cases h3 : c ≠ 91
    · rw [if_pos h3] at h; cases h
    rw [if_neg h3] at h
    have hq : q.length ≤ 39999 := by simp at hl; omega
    by_cases h4 : q.head? = some 39
    · rw [if_pos h4] at h
      split at h
      · cases h
      · refine loopV_names f _ _ r (by rw [List.length_drop]; omega) (fun x hx => ?_) h
        rcases List.mem_append.1 hx with hx | hx
        · exact ho x hx
        · rw [List.mem_singleton.1 hx]
          have := (plainV_bounds (q.length + 1) (q.drop 1) [] 1).2
          rw [List.length_drop] at this
          simp only [List.length_nil] at this
          show (⟨(plainV (q.length + 1) (q.drop 1) [] 1).1.toArray⟩ : ByteArray).size ≤ 40000
          rw [size_list]
          omega
    · rw [if_neg h4] at h
      split at h
      · cases h
      · refine loopV_names f _ _ r (by rw [List.length_drop]; omega) (fun x hx => ?_) h
        rcases List.mem_append.1 hx with hx | hx
        · exact ho x hx
        · rw [List.mem_singleton.1 hx]; exact (show (⟨#[]⟩ : ByteArray).size ≤ 40000 by decide)
theorem outs_len (l : List S26) : l.length ≤ (outs l).length := by
  induction l with
  | nil => simp
  | cons x l ih =>
    unfold outs at *
    rw [List.flatMap_cons, List.length_append]
    have : 1 ≤ (stepOut x).length := by unfold stepOut; simp
    simp only [List.length_cons]
    omega
theorem top_of (s : ByteArray) (hs : s.size ≤ 40000) {m : List S26} (h : parseTop s = some m) : s = ⟨(pathOf m).toArray⟩ ∧ m.all rightV = true ∧ (∀ x ∈ m, x.f1.size ≤ 40000) ∧ m.length ≤ 40000 := by
  unfold parseTop at h
  by_cases h1 : 0 < s.size ∧ bt s 0 = 36
  · rw [if_pos h1] at h
    obtain ⟨r, hr, hl⟩ := L_split s h1.1
    have hd : (L s).drop 1 = r := by rw [hr]; rfl
    rw [hd] at h
    obtain ⟨k1, k2, k3, k4⟩ := parseV_tells _ r m (fun x hx => L_range s x (by rw [hr]; simp [hx])) (by omega) h
    refine ⟨L_inj ?_, k1, k3, by omega⟩
    rw [hr, h1.2, k2, path_of k1, L_mk]
    rfl
  · rw [if_neg h1] at h; cases h
theorem loop_of (m : List S26) (hr : m.all rightV = true) (hn : ∀ x ∈ m, x.f1.size ≤ 40000) (s : ByteArray) (hs : s = ⟨(pathOf m).toArray⟩) : loopTop s = some m ∧ parseTop s = some m := by
  have hL : L s = 36 :: ints (outs m) := by rw [hs, L_mk, path_of hr]; rfl
  have hz : s.size = (outs m).length + 1 := by rw [← L_len, hL]; simp [ints]
  have hl := outs_len m
  constructor
  · unfold loopTop
    rw [if_pos (by rw [hL]; rfl), hL, List.drop_succ_cons, List.drop_zero, loopV_out m _ [] hr hn (by omega)]
    rfl
  · unfold parseTop
    have hb : bt s 0 = 36 := Num.bt0 hL
    rw [if_pos ⟨by omega, hb⟩, hL, List.drop_succ_cons, List.drop_zero, parseV_out m _ hr hn (by omega)]
theorem answers (s : ByteArray) (hs : s.size ≤ 40000) : checkV s (loopTop s) = parseTop s := by
  cases hp : parseTop s with
  | some m =>
    obtain ⟨h1, h2, h3, _⟩ := top_of s hs hp
    rw [(loop_of m h2 h3 s h1).1, checkV_some, if_pos h1.symm]
  | none =>
    cases hl : loopTop s with
    | none => rfl
    | some l =>
      rw [checkV_some]
      by_cases he : (⟨(pathOf l).toArray⟩ : ByteArray) = s
      · exfalso
        have h36 : (L s).head? = some 36 := by
          unfold loopTop at hl
          by_cases h : (L s).head? = some 36
          · exact h
          · rw [if_neg h] at hl; cases hl
        have hnm : ∀ x ∈ l, x.f1.size ≤ 40000 := by
          unfold loopTop at hl
          rw [if_pos h36] at hl
          exact loopV_names _ _ _ l (by rw [List.length_drop, L_len]; omega) (by simp) hl
        have hr : l.all rightV = true := by
          by_cases h : l.all rightV = true
          · exact h
          · exfalso
            have : pathOf l = [] := by unfold pathOf; rw [if_neg h]
            rw [← he, this, L_mk] at h36
            cases h36
        have := (loop_of l hr hnm s he.symm).2
        rw [hp] at this
        cases this
      · rw [if_neg he]
end Go.Proofs.YthfhefkacmepkaaDoor.PS
namespace Go.Proofs.YthfhefkacmepkaaDoor.PS
open Go.RowKit Go.Proofs.YthfhefkacmepkaaDoorW.PrintWords Go.Proofs.YthfhefkacmepkaaDoorW.PrintLast Go.Proofs.YthfhefkacmepkaaDoorW.PrintMore
open Go.Proofs.YthfhefkacmepkaaDoor.PPathPuts Go.Proofs.YthfhefkacmepkaaDoor.Beg Go.Proofs.YthfhefkacmepkaaDoor.Bld Go.Proofs.YthfhefkacmepkaaDoor.PB Go.Proofs.YthfhefkacmepkaaDoor.PP
attribute [local go_sem] max2_int min2_int max_two min_two max_three min_three max_four min_four
set_option linter.unusedVariables false
set_option linter.unusedSimpArgs false
theorem take_ne {l m : List S26} (h : l.length = m.length) : ∀ i, i ≤ l.length → l.take i = m.take i → i = l.length → l = m := by
  intro i hi he hl
  rw [hl, List.take_length] at he
  rw [he, h, List.take_length]
set_option maxHeartbeats 8000000 in
set_option maxRecDepth 100000 in
theorem same_calls (A0 A1 : Option Addr) (c0 c1 : Nat) (l m : List S26) (w : World) (hC0 : Kd.C k26 w A0 l.length l) (hc0 : l.length ≤ c0) (hC1 : Kd.C k26 w A1 m.length m) (hc1 : m.length ≤ c1) :
    ∃ b : Bool, (b = true ↔ l = m) ∧ Calls Tryd.prog 16 #[.slice A0 l.length c0, .slice A1 m.length c1] w fun e w' => e = .returned (.bool b) ∧ Below w.heap.size w w' := by
  have hu26 := Tryd.underlying26
  by_cases hlen : l.length = m.length
  rotate_left
  · refine ⟨false, ⟨fun h => (by cases h), fun h => absurd (by rw [h]) hlen⟩, ?_⟩
    have e1 : ((l.length : Int) != (m.length : Int)) = true := bne_iff_ne.2 (by omega)
    have e2 : ((l.length : Int) == (m.length : Int)) = false := beq_eq_false_iff_ne.2 (by omega)
    have e3 : decide ((l.length : Int) = (m.length : Int)) = false := decide_eq_false (by omega)
    have e4 : (l.length == m.length) = false := beq_eq_false_iff_ne.2 hlen
    have e5 : decide (l.length = m.length) = false := decide_eq_false hlen
    clear hC0 hc0 hC1 hc1 hlen
    go_enter Tryd.func16, Tryd.ntmps16
    go_wp2_with (fail)
    go_ret
    exact ⟨rfl, Below.refl _ _⟩
  obtain ⟨b, hb⟩ : ∃ b : Bool, (b = true ↔ l = m) := by
    by_cases h : l = m
    · exact ⟨true, ⟨fun _ => h, fun _ => rfl⟩⟩
    · exact ⟨false, ⟨fun h2 => (by cases h2), fun h2 => absurd h2 h⟩⟩
  refine ⟨b, hb, ?_⟩
  have HBB := Aside0.mk hb
  clear hb
  have HC0 := Aside0.mk hC0
  have HC1 := Aside0.mk hC1
  have HL := Aside0.mk hlen
  obtain ⟨n, hn⟩ : ∃ n, l.length = n := ⟨_, rfl⟩
  have hm : m.length = n := by omega
  rw [hn] at HC0
  rw [hm] at HC1
  have hCl := hC0.2.1
  have HN := Aside0.mk (And.intro hn hm)
  rw [hn] at hC0 hc0 hCl ⊢
  rw [hm] at hC1 hc1 ⊢
  have HM : Aside0 (n ≤ maxLen) := ⟨hCl⟩
  clear hC0 hc0 hC1 hc1 hlen hm hCl hn
  go_enter Tryd.func16, Tryd.ntmps16
  go_wp2_with (fail)
  go_loopg [13] n (fun kq v13 w' => ∃ (i : Nat) (W : World), W = w' ∧ v13 = .int .i64 (i : Int) ∧ Aside0 (i + kq = n) ∧ Aside0 (l.take i = m.take i) ∧ Aside0 (Below w.heap.size w w'))
  case atStart => exact ⟨0, _, rfl, rfl, ⟨by omega⟩, ⟨by simp⟩, ⟨by first | exact Below.refl _ _ | exact (Below.refl _ _).drew⟩⟩
  case round =>
    obtain ⟨i, W, rfl, rfl, HK, HT, HB⟩ := hrel
    have hk := HK.out
    obtain ⟨hn, hm⟩ := HN.out
    have hmx := HM.out
    unfold maxLen at hmx
    cases gk with
    | zero =>
      have hlm : l = m := take_ne (by omega) i (by omega) HT.out (by omega)
      have E : Aside0 (b = true) := ⟨HBB.out.2 hlm⟩
      have c1 : decide ((i : Int) < (n : Int)) = false := by simp; omega
      have c1n : decide (i < n) = false := by simp; omega
      clear hk hn hm hlm hmx
      go_wp2_with (fail)
      go_ret
      rw [E.out]
      exact ⟨rfl, by first | exact HB.out | exact HB.out.drew⟩
    | succ d =>
      have hi : i < l.length := by omega
      have hi2 : i < m.length := by omega
      have hts := take_snoc l i hi
      have hts2 := take_snoc m i hi2
      obtain ⟨ad, eA, h0, h1, h2⟩ := at_T26 HC0.out (i : Int) (by omega) (by omega)
      obtain ⟨ad2, eA2, k0, k1, k2⟩ := at_T26 HC1.out (i : Int) (by omega) (by omega)
      subst eA
      subst eA2
      replace h0 := (HB.out.cell (World.block_lt_of_cell? w _ h0)).trans h0
      replace h1 := (HB.out.cell (World.block_lt_of_cell? w _ h1)).trans h1
      replace h2 := (HB.out.cell (World.block_lt_of_cell? w _ h2)).trans h2
      replace k0 := (HB.out.cell (World.block_lt_of_cell? w _ k0)).trans k0
      replace k1 := (HB.out.cell (World.block_lt_of_cell? w _ k1)).trans k1
      replace k2 := (HB.out.cell (World.block_lt_of_cell? w _ k2)).trans k2
      have hne : rd_T26 l i ≠ rd_T26 m i → l ≠ m := fun h e => h (by rw [e])
      generalize rd_T26 l i = x at *
      generalize rd_T26 m i = y at *
      obtain ⟨x0, x1, x2⟩ := x
      obtain ⟨y0, y1, y2⟩ := y
      simp only [Int.toNat_natCast] at h0 h1 h2 k0 k1 k2
      have c1 : decide ((i : Int) < (n : Int)) = true := by simp; omega
      have c1n : decide (i < n) = true := by simp; omega
      have c2 : (0 : Int) ≤ (i : Int) := by omega
      have c3 : (i : Int) < (n : Int) := by omega
      have c3n := eq_true (show i < n by omega)
      have W3 : Aside0 (wrap64 ((i : Int) + 1) = (i : Int) + 1) := ⟨by unfold wrap64; omega⟩
      by_cases hxy : (⟨x0, x1, x2⟩ : S26) = ⟨y0, y1, y2⟩
      · obtain ⟨rfl, rfl, rfl⟩ := S26.mk.inj hxy
        have HT2 : Aside0 (l.take (i + 1) = m.take (i + 1)) := ⟨by rw [hts, hts2, HT.out]⟩
        clear hk hn hm hmx hi hi2 hts hts2 hne hxy
        go_upto_region 6 with (fail)
        repeat (go_quiet (fail); try go_wp2_with (fail))
        go_roundg d
        case measure => omega
        case rel => exact ⟨i + 1, _, rfl, by rw [W3.out]; simp, ⟨by have := HK.out; omega⟩, HT2, ⟨pw_below_drewN HB.out _⟩⟩
      · have hlm := hne hxy
        have E : Aside0 (b = false) := ⟨Bool.eq_false_iff.2 (fun h => hlm (HBB.out.1 h))⟩
        by_cases e0 : x0 = y0
        · subst e0
          by_cases e1 : x1 = y1
          · subst e1
            have e2 : x2 ≠ y2 := fun h => hxy (by rw [h])
            have f1 : (x2 == y2) = false := beq_eq_false_iff_ne.2 e2
            have f2 : (x2 != y2) = true := bne_iff_ne.2 e2
            have f3 : decide (x2 = y2) = false := decide_eq_false e2
            clear hk hn hm hmx hi hi2 hts hts2 hne hlm hxy e2
            go_upto_region 6 with (fail)
            repeat (go_quiet (fail); try go_wp2_with (fail))
            go_ret
            rw [E.out]
            exact ⟨rfl, pw_below_drewN HB.out _⟩
          · have f1 : (x1.toList == y1.toList) = false := beq_eq_false_iff_ne.2 (fun h => e1 (toList_inj.1 h))
            have f2 : (x1.toList != y1.toList) = true := bne_iff_ne.2 (fun h => e1 (toList_inj.1 h))
            clear hk hn hm hmx hi hi2 hts hts2 hne hlm hxy e1
            go_upto_region 6 with (fail)
            repeat (go_quiet (fail); try go_wp2_with (fail))
            go_ret
            rw [E.out]
            exact ⟨rfl, pw_below_drewN HB.out _⟩
        · have f1 : (x0 == y0) = false := beq_eq_false_iff_ne.2 e0
          have f2 : (x0 != y0) = true := bne_iff_ne.2 e0
          clear hk hn hm hmx hi hi2 hts hts2 hne hlm hxy e0
          go_upto_region 6 with (fail)
          repeat (go_quiet (fail); try go_wp2_with (fail))
          go_ret
          rw [E.out]
          exact ⟨rfl, pw_below_drewN HB.out _⟩
end Go.Proofs.YthfhefkacmepkaaDoor.PS
namespace Go.Proofs.YthfhefkacmepkaaDoor.PS
open Go.RowKit Go.Proofs.YthfhefkacmepkaaDoorW.PrintWords Go.Proofs.YthfhefkacmepkaaDoorW.PrintLast Go.Proofs.YthfhefkacmepkaaDoorW.PrintMore
open Go.Proofs.YthfhefkacmepkaaDoor.PPathPuts Go.Proofs.YthfhefkacmepkaaDoor.Beg Go.Proofs.YthfhefkacmepkaaDoor.Bld Go.Proofs.YthfhefkacmepkaaDoor.PB Go.Proofs.YthfhefkacmepkaaDoor.PP
attribute [local go_sem] max2_int min2_int max_two min_two max_three min_three max_four min_four
set_option linter.unusedVariables false
set_option linter.unusedSimpArgs false
theorem same_true (A0 A1 : Option Addr) (c0 c1 : Nat) (l : List S26) (w : World) (hC0 : Kd.C k26 w A0 l.length l) (hc0 : l.length ≤ c0) (hC1 : Kd.C k26 w A1 l.length l) (hc1 : l.length ≤ c1) :
    Calls Tryd.prog 16 #[.slice A0 l.length c0, .slice A1 l.length c1] w fun e w' => e = .returned (.bool true) ∧ Below w.heap.size w w' := by
  obtain ⟨b, hb, h⟩ := same_calls A0 A1 c0 c1 l l w hC0 hc0 hC1 hc1
  obtain rfl := hb.2 rfl
  exact h
theorem Errs.below {w W : World} (h : Errs w) (hb : Below w.heap.size w W) : Errs W := by
  obtain ⟨⟨a, b, h1⟩, ⟨c, d, h2⟩⟩ := h
  exact ⟨⟨a, b, hcell_below2 hb h1⟩, ⟨c, d, hcell_below2 hb h2⟩⟩
end Go.Proofs.YthfhefkacmepkaaDoor.PS
namespace Go.Proofs.YthfhefkacmepkaaDoor.Opens
open Go.RowKit Go.Lib
theorem gSyn : Tryd.prog.globalNamed "strconv.ErrSyntax" = some 1 := by kernel_rfl
theorem gSynType : (Tryd.prog.globals[1]?).map (·.type) = some 43 := by kernel_rfl
theorem gRan : Tryd.prog.globalNamed "strconv.ErrRange" = some 2 := by kernel_rfl
theorem gRanType : (Tryd.prog.globals[2]?).map (·.type) = some 43 := by kernel_rfl
theorem und218 : Tryd.prog.underlying 106 = some (.pointer 108) := by kernel_rfl
theorem cel220 : Tryd.prog.cellsOf 108 = 1 := by kernel_rfl
theorem cel9 : Tryd.prog.cellsOf 9 = 1 := by kernel_rfl
theorem star : "*" ++ "errors.errorString" = "*errors.errorString" := by decide
theorem row218 (u : TypeId) (h : Tryd.prog.typeName? 3 u = some "*errors.errorString") : u = 106 :=
  typeName_ptr_named (nm := "errors.errorString") (by rw [star]; kernel_rfl) (by kernel_rfl) (by decide) u (by rw [star]; exact h)
theorem errs_of {W : World} {r r2 : List (String × DataW Unit)} (h1 : laidMet Tryd.prog (("strconv.ErrRange", Rows.laid_strconv_ErrRange) :: r) W) (h2 : laidMet Tryd.prog (("strconv.ErrSyntax", Rows.laid_strconv_ErrSyntax) :: r2) W) : PS.Errs W := by
  obtain ⟨a, s, hv, -, -, -⟩ := laid_sentinel h2 gSyn gSynType Tryd.underlying43 row218 und218 Tryd.underlying108 rfl rfl Tryd.underlying9 cel220 cel9
  obtain ⟨a3, s3, hv3, -, -, -⟩ := laid_sentinel h1 gRan gRanType Tryd.underlying43 row218 und218 Tryd.underlying108 rfl rfl Tryd.underlying9 cel220 cel9
  refine ⟨⟨_, _, by have h0 := World.var?_cell gSyn hv 0; simpa using h0⟩, ⟨_, _, by have h0 := World.var?_cell gRan hv3 0; simpa using h0⟩⟩
theorem tab_of {W : World} {r : List (String × DataW Unit)} (h : laidMet Tryd.prog (("internal/strconv.uint64pow10", Rows.laid_internal_strconv_uint64pow10) :: r) W) : TabIs Tryd.prog W "internal/strconv.uint64pow10" .u64 pow10Tab := by
  obtain ⟨ps, hl, _⟩ := h
  obtain ⟨g', t', cs, fuel, p, q, hg', ht', hvar, hd, _, _⟩ := hl
  obtain rfl := Option.some.inj (gPow.symm.trans hg')
  obtain rfl := Option.some.inj (gPowType.symm.trans ht')
  rw [pow_data] at hd
  unfold TabIs
  rw [hvar, ← cells_of_tab und209 und169 cel169 cel209 hd]
end Go.Proofs.YthfhefkacmepkaaDoor.Opens
