/- riffleref13.Put, walked; it is path.Put. Conditions: names of at most 1000 bytes, at most 1000 steps. -/
import Derived.Test.YthfhefkacmepkaaDoorPPut
import Derived.Test.YthfhefkacmepkaaDoorPPathPutsx5
namespace Go.Proofs.YthfhefkacmepkaaDoor.PP
open Go.RowKit Go.Proofs.YthfhefkacmepkaaDoorW.PrintWords Go.Proofs.YthfhefkacmepkaaDoorW.PrintLast Go.Proofs.YthfhefkacmepkaaDoorW.PrintMore
open Go.Proofs.YthfhefkacmepkaaDoor.PPathPuts Go.Proofs.YthfhefkacmepkaaDoor.Beg Go.Proofs.YthfhefkacmepkaaDoor.Bld Go.Proofs.YthfhefkacmepkaaDoor.PR
attribute [local go_sem] max2_int min2_int max_two min_two max_three min_three max_four min_four
set_option linter.unusedVariables false
set_option linter.unusedSimpArgs false
theorem str_one (n : Nat) (h : n < 10) : strOfNums [(wrap64 (48 + (n : Int))) % 256] = ⟨[UInt8.ofNat (48 + n)].toArray⟩ := by
  have : ∀ k : Fin 10, strOfNums [(wrap64 (48 + ((k.val : Nat) : Int))) % 256] = ⟨[UInt8.ofNat (48 + k.val)].toArray⟩ := by decide +kernel
  exact this ⟨n, h⟩
theorem digits_eq : ∀ (k n : Nat), k ≤ 30 → n < 10 ^ (k + 1) → n ≤ 9007199254740991 → riffleref13_digits.f (k + 1) (n : Int) = some ⟨(Lib.decDigits n).toArray⟩ ∧ (Lib.decDigits n).length ≤ k + 1
  | k, n, hk, h, hn => by
    unfold riffleref13_digits.f
    by_cases h10 : n < 10
    · rw [if_pos (by omega), str_one n h10, Lib.decDigits_one h10]
      exact ⟨rfl, by simp⟩
    · rw [if_neg (by omega)]
      cases k with
      | zero => exact absurd h (by simp; omega)
      | succ k =>
        have e1 : wrap64 (Int.tdiv (n : Int) 10) = ((n / 10 : Nat) : Int) := by
          rw [Int.tdiv_eq_ediv_of_nonneg (by omega)]; unfold wrap64; omega
        have e2 : Int.tmod (n : Int) 10 = ((n % 10 : Nat) : Int) := by
          rw [Int.tmod_eq_emod_of_nonneg (by omega)]; omega
        have hd : n / 10 < 10 ^ (k + 1) := by rw [Nat.pow_succ] at h; omega
        have hm : n % 10 < 10 ^ (k + 1) := by have : 10 ≤ 10 ^ (k + 1) := by rw [Nat.pow_succ]; have := Nat.one_le_two_pow (n := 0); have h1 : 1 ≤ 10 ^ k := Nat.one_le_pow _ _ (by omega); omega
                                              omega
        obtain ⟨i1, i2⟩ := digits_eq k (n / 10) (by omega) hd (by omega)
        obtain ⟨j1, j2⟩ := digits_eq k (n % 10) (by omega) hm (by omega)
        rw [e1, e2, i1, j1]
        simp only [Option.bind_some]
        have hl : Lib.decDigits n = Lib.decDigits (n / 10) ++ [UInt8.ofNat (48 + n % 10)] := by
          conv => lhs; rw [Lib.decDigits, dif_neg h10]
        rw [Lib.decDigits_one (by omega : n % 10 < 10)] at j2 ⊢
        have hsz : ∀ l : List UInt8, (⟨l.toArray⟩ : ByteArray).size = l.length := fun l => by simp [ByteArray.size]
        rw [if_pos (by rw [hsz, hsz]; simp; omega), hl]
        refine ⟨?_, by rw [List.length_append]; simp; omega⟩
        congr 1
        all_goals (apply ByteArray.ext; simp [ByteArray.data_append])
theorem digits_calls (x : Int) (h0 : 0 ≤ x) (h1 : x ≤ 9007199254740991) (w : World) : Calls Tryd.prog 23 #[.int .i64 x] w fun e w' => e = .returned (.string ⟨(Lib.itoa x).toArray⟩) ∧ Below w.heap.size w w' := by
  refine riffleref13_digits.calls (16 + 1) x _ w ?_
  have h := (digits_eq 16 x.toNat (by omega) (by omega) (by omega)).1
  rw [show ((x.toNat : Nat) : Int) = x by omega] at h
  rw [h]
  unfold Lib.itoa
  rw [if_neg (by omega)]
theorem cat_data (sa nm : ByteArray) : (sa ++ ((⟨#[91]⟩ : ByteArray) ++ nm ++ ⟨#[93]⟩)).data.toList = sa.data.toList ++ (91 :: (nm.data.toList ++ [93])) := by
  simp [ByteArray.data_append]
set_option maxHeartbeats 2000000 in
set_option maxRecDepth 100000 in
theorem rput_calls (A : Option Addr) (c : Nat) (l : List S26) (w : World) (hC : Kd.C k26 w A l.length l) (hc : l.length ≤ c) (hsm : Small l) :
    Calls Tryd.prog 11 #[.slice A l.length c] w fun e w' => e = .returned (.string ⟨(pathOf l).toArray⟩) ∧ Below w.heap.size w w' := by
  have hu26 := Tryd.underlying26
  have HCC := Aside0.mk hC
  have HSM := Aside0.mk hsm
  clear hC hc hsm
  go_enter Tryd.func11, Tryd.ntmps11
  go_wp2_with (fail)
  go_loopg [3, 8] l.length (fun kq v3 v8 w' => ∃ (i : Nat) (sa : ByteArray) (W : World), W = w' ∧ v3 = .string sa ∧ v8 = .int .i64 (i : Int) ∧ Aside0 (i + kq = l.length) ∧ Aside0 (Below w.heap.size w w') ∧ Aside0 (sa.data.toList = 36 :: (l.take i).flatMap stepOut ∧ (l.take i).all rightV = true ∧ sa.size ≤ 1 + 240110 * i))
  case atStart => exact ⟨0, ⟨#[36]⟩, _, rfl, rfl, rfl, ⟨by omega⟩, ⟨Below.refl _ _⟩, ⟨by simp, by simp, by decide⟩⟩
  case round =>
    obtain ⟨i, sa, W, rfl, rfl, rfl, HK, HB, HA⟩ := hrel
    have hk := HK.out
    have hlen := HSM.out.len
    cases gk with
    | zero =>
      have c1 : decide ((i : Int) < (l.length : Int)) = false := by simp; omega
      have c1n : decide (i < l.length) = false := by simp; omega
      have hil : i = l.length := by omega
      have HIL := Aside0.mk hil
      clear hk hlen hil
      go_wp2_with (fail)
      go_ret
      refine ⟨?_, HB.out⟩
      have h1 := HA.out.1
      have h2 := HA.out.2.1
      rw [HIL.out, List.take_length] at h1 h2
      unfold pathOf
      rw [if_pos h2, ← h1]
      rfl
    | succ d =>
      have hi : i < l.length := by omega
      obtain ⟨hx, hmem⟩ := rd_mem l i hi
      have hts := take_snoc l i hi
      have hsz := HSM.out.each _ hmem
      obtain ⟨ad, eA, h0, h1, h2⟩ := at_T26 HCC.out (i : Int) (by omega) (by omega)
      cases eA
      replace h0 := (HB.out.cell (World.block_lt_of_cell? w _ h0)).trans h0
      replace h1 := (HB.out.cell (World.block_lt_of_cell? w _ h1)).trans h1
      replace h2 := (HB.out.cell (World.block_lt_of_cell? w _ h2)).trans h2
      have hrv := right_v _ hsz
      have hname := fun W' => PS.rname_calls (rd_T26 l i).f1 W' (by omega)
      have hso := stepOut_le (rd_T26 l i) hsz
      generalize rd_T26 l i = x at *
      obtain ⟨x0, x1, x2⟩ := x
      simp only [Int.toNat_natCast] at h0 h1 h2
      simp only at hsz hrv hname hso
      have HR := Aside0.mk hrv
      have HNM := Aside0.mk hname
      have HSO := Aside0.mk hso
      have HTS := Aside0.mk hts
      have HSZ := Aside0.mk hsz
      have HMEM := Aside0.mk hmem
      have c1 : decide ((i : Int) < (l.length : Int)) = true := by simp; omega
      have c1n : decide (i < l.length) = true := by simp; omega
      have c2 : (0 : Int) ≤ (i : Int) := by omega
      have c3 : (i : Int) < (l.length : Int) := by omega
      have c3n := eq_true hi
      have i3 : wrap64 ((i : Int) + 1) = (i : Int) + 1 := by unfold wrap64; omega
      have I8 : Aside0 (sa.size ≤ 9700000000) := ⟨by have := HA.out.2.2; omega⟩
      clear hk hlen hi hx hmem hts hsz hrv hname hso
      go_upto_region 5 with (fail)
      generalize hg : World.alloc W _ = W1
      have BK : Aside0 (W1.heap[W.heap.size]? = some (.cells #[.bool x0, .string x1, .int .i64 x2] 26 (0, 0))) := ⟨by subst hg; exact blk_new _ _⟩
      have HB1 : Aside0 (Below w.heap.size w W1) := ⟨by subst hg; exact below_alloc HB.out _⟩
      clear hg HB h0 h1 h2
      generalize W.heap.size = gb at *
      have d0 : W1.cell? ⟨gb, 0, none⟩ = some (.bool x0) := (blk_cell BK.out 0).trans rfl
      have d1 : W1.cell? ⟨gb, 1, none⟩ = some (.string x1) := (blk_cell BK.out 1).trans rfl
      have d2 : W1.cell? ⟨gb, 2, none⟩ = some (.int .i64 x2) := (blk_cell BK.out 2).trans rfl
      go_wp2_with (fail)
      go_at_call 9
      refine (HR.out.2.1 _).mono ?_
      rintro e w2 ⟨rfl, hb⟩
      have BK2 := Aside0.mk ((hb.block _ (blk_lt BK.out)).trans BK.out)
      have HB2 := Aside0.mk (below_step HB1.out hb)
      clear hb d0 d1 d2
      obtain ⟨v, hv⟩ : ∃ v, rightV ⟨x0, x1, x2⟩ = v := ⟨_, rfl⟩
      rw [hv]
      have HV := Aside0.mk hv
      clear hv
      have d0 : w2.cell? ⟨gb, 0, none⟩ = some (.bool x0) := (blk_cell BK2.out 0).trans rfl
      have d1 : w2.cell? ⟨gb, 1, none⟩ = some (.string x1) := (blk_cell BK2.out 1).trans rfl
      have d2 : w2.cell? ⟨gb, 2, none⟩ = some (.int .i64 x2) := (blk_cell BK2.out 2).trans rfl
      cases v with
      | false =>
        have hno : ¬ l.all rightV = true := fun h => by
          have := List.all_eq_true.1 h _ HMEM.out
          rw [HV.out] at this; cases this
        have HNO := Aside0.mk (show pathOf l = [] by unfold pathOf; rw [if_neg hno])
        clear hno
        go_wp2_with (fail)
        go_ret
        rw [HNO.out]
        exact ⟨rfl, HB2.out⟩
      | true =>
        cases x0 with
        | true =>
          go_wp2_with (fail)
          go_at_call 13
          refine (HNM.out _).mono ?_
          rintro e w3 ⟨rfl, hb⟩
          have HB3 := Aside0.mk (below_step HB2.out hb)
          clear hb d0 d1 d2
          obtain ⟨nm, hnm⟩ : ∃ nm : ByteArray, nm = ⟨(putOf x1).toArray⟩ := ⟨_, rfl⟩
          rw [← hnm]
          have HNE := Aside0.mk (show nm.data.toList = (if true = true then putOf x1 else Lib.itoa x2) by rw [hnm]; rfl)
          have HNL := Aside0.mk (show nm.size ≤ 240100 by have := putFrom_le x1 x1.size 0; have := HSZ.out; rw [hnm, size_list]; unfold putOf; simp only [List.length_cons, List.length_append, List.length_nil]; omega)
          clear hnm
          have hnl := HNL.out
          have h8 := I8.out
          have f1 : (1 : Nat) + nm.size ≤ 9223372036854775807 := by omega
          have f2 : (1 : Nat) + nm.size + 1 ≤ 9223372036854775807 := by omega
          have f3 : ¬ 9223372036854775807 < 1 + nm.size + 1 := by omega
          have f4 : ¬ 9223372036854775807 < 1 + nm.size := by omega
          have f5 : sa.size + (1 + nm.size + 1) ≤ 9223372036854775807 := by omega
          have f6 : ¬ 9223372036854775807 < sa.size + (1 + nm.size + 1) := by omega
          clear hnl h8
          have hcd := cat_data sa nm
          have hcs : (sa ++ ((⟨#[91]⟩ : ByteArray) ++ nm ++ ⟨#[93]⟩)).size = sa.size + (nm.size + 2) := by
            have := congrArg List.length hcd
            simp only [Array.length_toList, List.length_append, List.length_cons, List.length_nil] at this
            exact this
          have HCD := Aside0.mk hcd
          have HCS := Aside0.mk hcs
          clear hcd hcs
          go_wp2_with (fail)
          clear f1 f2 f3 f4 f5 f6
          go_roundg d
          case measure => omega
          case rel =>
            have hk := HK.out
            have ha := HA.out
            have hn2 := HNL.out
            refine ⟨i + 1, sa ++ ((⟨#[91]⟩ : ByteArray) ++ nm ++ ⟨#[93]⟩), _, rfl, rfl, by simp [i3], ⟨by omega⟩, HB3, ⟨?_, ?_, ?_⟩⟩
            · rw [HCD.out, HTS.out, ha.1, HNE.out]; simp [stepOut]
            · rw [HTS.out, List.all_append, ha.2.1]; simp [HV.out]
            · rw [HCS.out]; omega
        | false =>
          have hrng := HR.out.2.2 HV.out rfl
          have HRNG := Aside0.mk hrng
          go_wp2_with (fail)
          go_at_call 23
          refine (digits_calls x2 hrng.1 hrng.2 _).mono ?_
          rintro e w3 ⟨rfl, hb⟩
          have HB3 := Aside0.mk (below_step HB2.out hb)
          clear hb d0 d1 d2
          obtain ⟨nm, hnm⟩ : ∃ nm : ByteArray, nm = ⟨(Lib.itoa x2).toArray⟩ := ⟨_, rfl⟩
          rw [← hnm]
          have HNE := Aside0.mk (show nm.data.toList = (if false = true then putOf x1 else Lib.itoa x2) by rw [hnm]; rfl)
          have HNL := Aside0.mk (show nm.size ≤ 240100 by have := Lib.itoa_length_le x2 (by omega) (by omega); rw [hnm, size_list]; omega)
          clear hnm hrng
          have hnl := HNL.out
          have h8 := I8.out
          have f1 : (1 : Nat) + nm.size ≤ 9223372036854775807 := by omega
          have f2 : (1 : Nat) + nm.size + 1 ≤ 9223372036854775807 := by omega
          have f3 : ¬ 9223372036854775807 < 1 + nm.size + 1 := by omega
          have f4 : ¬ 9223372036854775807 < 1 + nm.size := by omega
          have f5 : sa.size + (1 + nm.size + 1) ≤ 9223372036854775807 := by omega
          have f6 : ¬ 9223372036854775807 < sa.size + (1 + nm.size + 1) := by omega
          clear hnl h8
          have hcd := cat_data sa nm
          have hcs : (sa ++ ((⟨#[91]⟩ : ByteArray) ++ nm ++ ⟨#[93]⟩)).size = sa.size + (nm.size + 2) := by
            have := congrArg List.length hcd
            simp only [Array.length_toList, List.length_append, List.length_cons, List.length_nil] at this
            exact this
          have HCD := Aside0.mk hcd
          have HCS := Aside0.mk hcs
          clear hcd hcs
          go_wp2_with (fail)
          clear f1 f2 f3 f4 f5 f6
          go_roundg d
          case measure => omega
          case rel =>
            have hk := HK.out
            have ha := HA.out
            have hn2 := HNL.out
            refine ⟨i + 1, sa ++ ((⟨#[91]⟩ : ByteArray) ++ nm ++ ⟨#[93]⟩), _, rfl, rfl, by simp [i3], ⟨by omega⟩, HB3, ⟨?_, ?_, ?_⟩⟩
            · rw [HCD.out, HTS.out, ha.1, HNE.out]; simp [stepOut]
            · rw [HTS.out, List.all_append, ha.2.1]; simp [HV.out]
            · rw [HCS.out]; omega
end Go.Proofs.YthfhefkacmepkaaDoor.PP
