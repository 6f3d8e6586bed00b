/- path.Put, walked. Conditions: names of at most 1000 bytes, at most 1000 steps. -/
import Derived.Test.YthfhefkacmepkaaDoorPRight
import Derived.Test.YthfhefkacmepkaaDoorPName
import Derived.Lib.AppendIntMem
import Derived.Lib.ItoaLen
namespace Go.Proofs.YthfhefkacmepkaaDoor.PP
open Go.RowKit Go.Proofs.YthfhefkacmepkaaDoorW.PrintWords Go.Proofs.YthfhefkacmepkaaDoorW.PrintLast Go.Proofs.YthfhefkacmepkaaDoorW.PrintMore
open Go.Proofs.YthfhefkacmepkaaDoor.PPathPuts Go.Proofs.YthfhefkacmepkaaDoor.Beg Go.Proofs.YthfhefkacmepkaaDoor.Bld Go.Proofs.YthfhefkacmepkaaDoor.PR
attribute [local go_sem] max2_int min2_int max_two min_two max_three min_three max_four min_four
set_option linter.unusedVariables false
set_option linter.unusedSimpArgs false
def rightV (x : S26) : Bool := (riffleref13_Right.f (x.f1.size + 100) x.f0 x.f1 x.f2 == some true)
def stepOut (x : S26) : List UInt8 := 91 :: ((if x.f0 = true then putOf x.f1 else Lib.itoa x.f2) ++ [93])
def pathOf (l : List S26) : List UInt8 := if l.all rightV = true then 36 :: l.flatMap stepOut else []
structure Small (l : List S26) : Prop where
  len : l.length ≤ 40000
  each : ∀ x ∈ l, x.f1.size ≤ 40000
theorem right_v (x : S26) (h : x.f1.size ≤ 40000) : (∀ w, Calls Tryd.prog 8 #[.agg #[.bool x.f0, .string x.f1, .int .i64 x.f2]] w fun e w' => e = .returned (.bool (rightV x)) ∧ Below w.heap.size w w') ∧ (∀ w, Calls Tryd.prog 9 #[.agg #[.bool x.f0, .string x.f1, .int .i64 x.f2]] w fun e w' => e = .returned (.bool (rightV x)) ∧ Below w.heap.size w w') ∧ (rightV x = true → x.f0 = false → 0 ≤ x.f2 ∧ x.f2 ≤ 9007199254740991) := by
  obtain ⟨v, h1, h2, h3⟩ := right_calls x.f0 x.f1 x.f2 (by omega)
  have e : rightV x = v := by unfold rightV; rw [h2]; cases v <;> rfl
  rw [e]
  exact ⟨h1, fun w => riffleref13_Right.calls _ _ _ _ _ w h2, h3⟩
theorem putFrom_le (s : ByteArray) : ∀ (f pos : Nat), (putFrom s f pos).length ≤ 6 * f
  | 0, _ => by simp [putFrom]
  | f + 1, pos => by
    unfold putFrom
    split
    · have := putFrom_le s f (pos + (Utf8.decode s pos).2)
      have := PS.runeOut_le (Utf8.decode s pos).1
      rw [List.length_append]; omega
    · simp
theorem stepOut_le (x : S26) (h : x.f1.size ≤ 40000) (hr : x.f0 = false → -9223372036854775808 ≤ x.f2 ∧ x.f2 ≤ 9223372036854775807) : (stepOut x).length ≤ 240100 := by
  unfold stepOut
  split
  · have := putFrom_le x.f1 x.f1.size 0
    simp [putOf]; omega
  · rename_i h0
    have h1 := hr (Bool.eq_false_iff.mpr h0)
    have := Lib.itoa_length_le x.f2 h1.1 h1.2
    simp; omega
theorem rd_mem (l : List S26) (i : Nat) (h : i < l.length) : l[i]? = some (rd_T26 l i) ∧ rd_T26 l i ∈ l := by
  have e : rd_T26 l i = l[i] := by unfold rd_T26; rw [Int.toNat_natCast, List.getD_eq_getElem?_getD, List.getElem?_eq_getElem h]; rfl
  rw [e]
  exact ⟨List.getElem?_eq_getElem h, List.getElem_mem h⟩
theorem take_snoc (l : List S26) (i : Nat) (h : i < l.length) : l.take (i + 1) = l.take i ++ [rd_T26 l i] := by
  rw [List.take_add_one, (rd_mem l i h).1]; rfl
theorem cat3 (nm : ByteArray) : Lib.strCells ((⟨#[91]⟩ : ByteArray) ++ nm ++ ⟨#[93]⟩) = Lib.byteCells (91 :: (nm.data.toList ++ [93])) ∧ ((⟨#[91]⟩ : ByteArray) ++ nm ++ ⟨#[93]⟩).size = nm.size + 2 := by
  have h : ((⟨#[91]⟩ : ByteArray) ++ nm ++ ⟨#[93]⟩).data.toList = 91 :: (nm.data.toList ++ [93]) := by
    simp [ByteArray.data_append]
  constructor
  · have : ∀ t : ByteArray, Lib.strCells t = Lib.byteCells t.data.toList := fun t => by simp [Lib.strCells, Lib.byteCells]
    rw [this, h]
  · have h2 := congrArg List.length h
    simp only [Array.length_toList, List.length_cons, List.length_append, List.length_nil] at h2
    exact h2
theorem size_list (l : List UInt8) : (⟨l.toArray⟩ : ByteArray).size = l.length := by simp [ByteArray.size]
set_option maxHeartbeats 2000000 in
set_option maxRecDepth 100000 in
theorem put_calls (A : Option Addr) (c : Nat) (l : List S26) (w : World) (hC : Kd.C k26 w A l.length l) (hc : l.length ≤ c) (hsm : Small l) (htab : Lib.TabIs Tryd.prog w "internal/strconv.uint64pow10" .u64 Lib.pow10Tab) :
    Calls Tryd.prog 10 #[.slice A l.length c] w fun e w' => e = .returned (.string ⟨(pathOf l).toArray⟩) ∧ Below w.heap.size w w' := by
  have hu26 := Tryd.underlying26
  have HCC := Aside0.mk hC
  have HSM := Aside0.mk hsm
  have HT := Aside0.mk (Lib.tabBelow_of_tabIs htab)
  clear hC hc hsm htab
  go_enter Tryd.func10, Tryd.ntmps10
  go_wp2_with (go_at_call 19; refine (byte_calls w.heap.size w.heap.size [] 36 _ (Lib.fresh_isBuilder 41 5 w) (by simp) (by simp)).mono ?_)
  rintro e w1 ⟨rfl, hI1, hb1, hk1⟩
  have HB1 := Aside0.mk (((Below.refl _ w).alloc (Nat.le_refl _) _).trans hb1)
  have HI1 := Aside0.mk hI1
  clear hI1 hb1 hk1
  go_wp2_with (fail)
  go_loopg [9] l.length (fun kq v9 w' => ∃ (i : Nat) (acc : List UInt8) (W : World), W = w' ∧ v9 = .int .i64 (i : Int) ∧ Aside0 (i + kq = l.length) ∧ Aside0 (Lib.BuilderAt 41 5 w.heap.size w.heap.size (.pointer (some ⟨w.heap.size, 0, none⟩)) (Lib.byteCells acc) w') ∧ Aside0 (Below w.heap.size w w') ∧ Aside0 (acc = 36 :: (l.take i).flatMap stepOut ∧ (l.take i).all rightV = true ∧ acc.length ≤ 1 + 240100 * i))
  case atStart => exact ⟨0, [36], _, rfl, rfl, ⟨by omega⟩, HI1, HB1, ⟨by simp, by simp, by simp⟩⟩
  case round =>
    clear HI1 HB1
    obtain ⟨i, acc, W, rfl, rfl, HK, HI, HB, HA⟩ := hrel
    have hk := HK.out
    have hlen := HSM.out.len
    cases gk with
    | zero =>
      have c1 : decide ((i : Int) < (l.length : Int)) = false := by simp; omega
      have c1n : decide (i < l.length) = false := by simp; omega
      have hil : i = l.length := by omega
      have HIL := Aside0.mk hil
      clear hk hlen hil
      go_wp2_with (fail)
      go_at_call 22
      refine (Tryd.Builder_String_any w.heap.size w.heap.size acc _ (Or.inr HI.out) HB.out.size).mono ?_
      rintro e w2 ⟨rfl, b2⟩
      have HB2 := Aside0.mk (HB.out.trans b2)
      clear b2
      go_wp2_with (fail)
      go_ret
      refine ⟨?_, HB2.out⟩
      have h1 := HA.out.1
      have h2 := HA.out.2.1
      rw [HIL.out, List.take_length] at h1 h2
      unfold pathOf
      rw [if_pos h2, h1]
      rfl
    | succ d =>
      have hi : i < l.length := by omega
      obtain ⟨hx, hmem⟩ := rd_mem l i hi
      have hts := take_snoc l i hi
      have hsz := HSM.out.each _ hmem
      obtain ⟨ad, eA, h0, h1, h2⟩ := at_T26 HCC.out (i : Int) (by omega) (by omega)
      cases eA
      replace h0 := (HB.out.cell (World.block_lt_of_cell? w _ h0)).trans h0
      replace h1 := (HB.out.cell (World.block_lt_of_cell? w _ h1)).trans h1
      replace h2 := (HB.out.cell (World.block_lt_of_cell? w _ h2)).trans h2
      have hrv := right_v _ hsz
      have hname := fun W' => name_calls (rd_T26 l i).f1 W' (by omega)
      have hso := stepOut_le (rd_T26 l i) hsz
      generalize rd_T26 l i = x at *
      obtain ⟨x0, x1, x2⟩ := x
      simp only [Int.toNat_natCast] at h0 h1 h2
      simp only at hsz hrv hname hso
      have HR := Aside0.mk hrv
      have HNM := Aside0.mk hname
      have HSO := Aside0.mk hso
      have HTS := Aside0.mk hts
      have HSZ := Aside0.mk hsz
      have HMEM := Aside0.mk hmem
      have c1 : decide ((i : Int) < (l.length : Int)) = true := by simp; omega
      have c1n : decide (i < l.length) = true := by simp; omega
      have c2 : (0 : Int) ≤ (i : Int) := by omega
      have c3 : (i : Int) < (l.length : Int) := by omega
      have c3n := eq_true hi
      have i3 : wrap64 ((i : Int) + 1) = (i : Int) + 1 := by unfold wrap64; omega
      have I8 : Aside0 (acc.length ≤ 9700000000) := ⟨by have := HA.out.2.2; omega⟩
      clear hk hlen hi hx hmem hts hsz hrv hname hso
      go_upto_region 6 with (fail)
      generalize hg : World.alloc W _ = W1
      have BK : Aside0 (W1.heap[W.heap.size]? = some (.cells #[.bool x0, .string x1, .int .i64 x2] 26 (0, 0))) := ⟨by subst hg; exact blk_new _ _⟩
      have HI1 : Aside0 (Lib.BuilderAt 41 5 w.heap.size w.heap.size (.pointer (some ⟨w.heap.size, 0, none⟩)) (Lib.byteCells acc) W1) := ⟨by subst hg; exact at_alloc HI.out _⟩
      have HB1 : Aside0 (Below w.heap.size w W1) := ⟨by subst hg; exact below_alloc HB.out _⟩
      clear hg HI HB h0 h1 h2
      generalize W.heap.size = gb at *
      have d0 : W1.cell? ⟨gb, 0, none⟩ = some (.bool x0) := (blk_cell BK.out 0).trans rfl
      have d1 : W1.cell? ⟨gb, 1, none⟩ = some (.string x1) := (blk_cell BK.out 1).trans rfl
      have d2 : W1.cell? ⟨gb, 2, none⟩ = some (.int .i64 x2) := (blk_cell BK.out 2).trans rfl
      go_wp2_with (fail)
      go_at_call 8
      refine (HR.out.1 _).mono ?_
      rintro e w2 ⟨rfl, hb⟩
      have BK2 := Aside0.mk ((hb.block _ (blk_lt BK.out)).trans BK.out)
      have HI2 := Aside0.mk (at_below HI1.out hb)
      have HB2 := Aside0.mk (below_step HB1.out hb)
      clear hb d0 d1 d2
      obtain ⟨v, hv⟩ : ∃ v, rightV ⟨x0, x1, x2⟩ = v := ⟨_, rfl⟩
      rw [hv]
      have HV := Aside0.mk hv
      clear hv
      have d0 : w2.cell? ⟨gb, 0, none⟩ = some (.bool x0) := (blk_cell BK2.out 0).trans rfl
      have d1 : w2.cell? ⟨gb, 1, none⟩ = some (.string x1) := (blk_cell BK2.out 1).trans rfl
      have d2 : w2.cell? ⟨gb, 2, none⟩ = some (.int .i64 x2) := (blk_cell BK2.out 2).trans rfl
      cases v with
      | false =>
        have hno : ¬ l.all rightV = true := fun h => by
          have := List.all_eq_true.1 h _ HMEM.out
          rw [HV.out] at this; cases this
        have HNO := Aside0.mk (show pathOf l = [] by unfold pathOf; rw [if_neg hno])
        clear hno
        go_wp2_with (fail)
        go_ret
        rw [HNO.out]
        exact ⟨rfl, HB2.out⟩
      | true =>
        cases x0 with
        | true =>
          go_wp2_with (fail)
          go_at_call 12
          refine (HNM.out _).mono ?_
          rintro e w3 ⟨rfl, hb⟩
          have HI3 := Aside0.mk (at_below HI2.out hb)
          have HB3 := Aside0.mk (below_step HB2.out hb)
          clear hb d0 d1 d2
          obtain ⟨nm, hnm⟩ : ∃ nm : ByteArray, nm = ⟨(putOf x1).toArray⟩ := ⟨_, rfl⟩
          rw [← hnm]
          have HNE := Aside0.mk (show nm.data.toList = (if true = true then putOf x1 else Lib.itoa x2) by rw [hnm]; rfl)
          have HNL := Aside0.mk (show nm.size ≤ 240100 by have := putFrom_le x1 x1.size 0; have := HSZ.out; rw [hnm, size_list]; unfold putOf; simp only [List.length_cons, List.length_append, List.length_nil]; omega)
          clear hnm
          have hnl := HNL.out
          have f1 : (1 : Nat) + nm.size ≤ 9223372036854775807 := by omega
          have f1' : nm.size + 1 ≤ 9223372036854775807 := by omega
          have f2 : (1 : Nat) + nm.size + 1 ≤ 9223372036854775807 := by omega
          have f3 : ¬ 9223372036854775807 < 1 + nm.size + 1 := by omega
          have f4 : ¬ 9223372036854775807 < 1 + nm.size := by omega
          clear hnl
          go_wp2_with (fail)
          clear f1 f1' f2 f3 f4
          obtain ⟨hs1, hs2⟩ := cat3 nm
          generalize hst : (⟨#[91]⟩ : ByteArray) ++ nm ++ ⟨#[93]⟩ = st at hs1 hs2 ⊢
          clear hst
          go_at_call 20
          refine (string_calls w.heap.size w.heap.size (Lib.byteCells acc) st _ (Or.inr HI3.out) (by rw [Lib.byteCells_length, hs2]; have := I8.out; have := HNL.out; omega) HB3.out.size).mono ?_
          rintro e w4 ⟨rfl, hI4, hb4, _⟩
          rw [hs1, HNE.out, ← Lib.byteCells_append] at hI4
          have HI4 := Aside0.mk hI4
          have HB4 := Aside0.mk (HB3.out.trans hb4)
          clear hI4 hb4 hs1 hs2
          go_wp2_with (fail)
          go_roundg d
          case measure => omega
          case rel =>
            have hk := HK.out
            have ha := HA.out
            refine ⟨i + 1, acc ++ stepOut ⟨true, x1, x2⟩, _, rfl, by simp [i3], ⟨by omega⟩, HI4, HB4, ⟨?_, ?_, ?_⟩⟩
            · rw [HTS.out, ha.1]; simp
            · rw [HTS.out, List.all_append, ha.2.1]; simp [HV.out]
            · have := HSO.out (fun h => by cases h)
              rw [List.length_append]; omega
        | false =>
          have hrng := HR.out.2.2 HV.out rfl
          have HRNG := Aside0.mk hrng
          go_wp2_with (fail)
          go_at_call 21
          refine (Tryd.strconv_Itoa x2 (by omega) (by omega) _ (HT.out.on HB2.out).here).mono ?_
          rintro e w3 ⟨rfl, kk, os, rfl⟩
          have hb := Lib.below_grow w2.heap.size w2 (Nat.le_refl _) kk os
          generalize Sort.grow (w2.drewN kk) os = w3 at *
          have HI3 := Aside0.mk (at_below HI2.out hb)
          have HB3 := Aside0.mk (below_step HB2.out hb)
          clear hb d0 d1 d2
          obtain ⟨nm, hnm⟩ : ∃ nm : ByteArray, nm = ⟨(Lib.itoa x2).toArray⟩ := ⟨_, rfl⟩
          rw [← hnm]
          have HNE := Aside0.mk (show nm.data.toList = (if false = true then putOf x1 else Lib.itoa x2) by rw [hnm]; rfl)
          have HNL := Aside0.mk (show nm.size ≤ 240100 by have := Lib.itoa_length_le x2 (by omega) (by omega); rw [hnm, size_list]; omega)
          clear hnm hrng
          have hnl := HNL.out
          have f1 : (1 : Nat) + nm.size ≤ 9223372036854775807 := by omega
          have f1' : nm.size + 1 ≤ 9223372036854775807 := by omega
          have f2 : (1 : Nat) + nm.size + 1 ≤ 9223372036854775807 := by omega
          have f3 : ¬ 9223372036854775807 < 1 + nm.size + 1 := by omega
          have f4 : ¬ 9223372036854775807 < 1 + nm.size := by omega
          clear hnl
          go_wp2_with (fail)
          clear f1 f1' f2 f3 f4
          obtain ⟨hs1, hs2⟩ := cat3 nm
          generalize hst : (⟨#[91]⟩ : ByteArray) ++ nm ++ ⟨#[93]⟩ = st at hs1 hs2 ⊢
          clear hst
          go_at_call 20
          refine (string_calls w.heap.size w.heap.size (Lib.byteCells acc) st _ (Or.inr HI3.out) (by rw [Lib.byteCells_length, hs2]; have := I8.out; have := HNL.out; omega) HB3.out.size).mono ?_
          rintro e w4 ⟨rfl, hI4, hb4, _⟩
          rw [hs1, HNE.out, ← Lib.byteCells_append] at hI4
          have HI4 := Aside0.mk hI4
          have HB4 := Aside0.mk (HB3.out.trans hb4)
          clear hI4 hb4 hs1 hs2
          go_wp2_with (fail)
          go_roundg d
          case measure => omega
          case rel =>
            have hk := HK.out
            have ha := HA.out
            refine ⟨i + 1, acc ++ stepOut ⟨false, x1, x2⟩, _, rfl, by simp [i3], ⟨by omega⟩, HI4, HB4, ⟨?_, ?_, ?_⟩⟩
            · rw [HTS.out, ha.1]; simp
            · rw [HTS.out, List.all_append, ha.2.1]; simp [HV.out]
            · have := HSO.out (fun _ => by have := HRNG.out; omega)
              rw [List.length_append]; omega
end Go.Proofs.YthfhefkacmepkaaDoor.PP
