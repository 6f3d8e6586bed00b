/- The walk of the law PathPuts. Conditions: the table of powers of ten reads as it is laid. -/
import Derived.Test.YtlhpflicchchlaaDoorPLaw0
namespace Go.Proofs.YtlhpflicchchlaaDoor.PP
open Go.RowKit Go.Proofs.YtlhpflicchchlaaDoorW.PrintWords Go.Proofs.YtlhpflicchchlaaDoorW.PrintLast Go.Proofs.YtlhpflicchchlaaDoorW.PrintMore
open Go.Proofs.YtlhpflicchchlaaDoor.PPathPuts Go.Proofs.YtlhpflicchchlaaDoor.Beg Go.Proofs.YtlhpflicchchlaaDoor.Bld Go.Proofs.YtlhpflicchchlaaDoor.PR Go.Proofs.YtlhpflicchchlaaDoor.GR
attribute [local go_sem] max2_int min2_int max_two min_two max_three min_three max_four min_four
set_option linter.unusedVariables false
set_option linter.unusedSimpArgs false
theorem two_C (w : World) : Kd.C k26 (w.alloc (.cells #[.bool true, .string ⟨#[97, 39, 98]⟩, .int .i64 0, .bool false, .string ⟨#[]⟩, .int .i64 0] 26)) (some ⟨w.heap.size, 0, none⟩) two.length two := by
  refine ⟨rfl, by decide, fun _ => ⟨_, rfl, fun j p hj => ?_⟩⟩
  match j, hj with
  | 0, hj =>
    obtain rfl : (⟨true, ⟨#[97, 39, 98]⟩, 0⟩ : S26) = p := by simpa [two] using hj
    refine ⟨_, rfl, k26_mk _ _, fun i u hu => ?_⟩
    match i, hu with
    | 0, hu => obtain rfl := Option.some.inj hu; exact (blk_cell (heap_alloc_new w _) 0).trans rfl
    | 1, hu => obtain rfl := Option.some.inj hu; exact (blk_cell (heap_alloc_new w _) 1).trans rfl
    | 2, hu => obtain rfl := Option.some.inj hu; exact (blk_cell (heap_alloc_new w _) 2).trans rfl
    | i + 3, hu => simp at hu
  | 1, hj =>
    obtain rfl : (⟨false, ⟨#[]⟩, 0⟩ : S26) = p := by simpa [two] using hj
    refine ⟨_, rfl, k26_mk _ _, fun i u hu => ?_⟩
    match i, hu with
    | 0, hu => obtain rfl := Option.some.inj hu; exact (blk_cell (heap_alloc_new w _) 3).trans rfl
    | 1, hu => obtain rfl := Option.some.inj hu; exact (blk_cell (heap_alloc_new w _) 4).trans rfl
    | 2, hu => obtain rfl := Option.some.inj hu; exact (blk_cell (heap_alloc_new w _) 5).trans rfl
    | i + 3, hu => simp at hu
  | j + 2, hj => simp [two] at hj
set_option maxHeartbeats 2000000 in
set_option maxRecDepth 100000 in
theorem alive (w : World) (htab : Lib.TabIs Tryd.prog w "internal/strconv.uint64pow10" .u64 Lib.pow10Tab) : Calls Tryd.prog 11 #[] w fun e w' => e = .returned (.bool true) ∧ Below w.heap.size w w' := by
  have HT := Aside0.mk (Lib.tabBelow_of_tabIs htab)
  have hu26 := Tryd.underlying26
  clear htab
  go_enter Tryd.func11, Tryd.ntmps11
  go_wp2_with (fail)
  go_at_call 15
  refine (put_calls (some ⟨w.heap.size, 0, none⟩) 2 two _ (two_C w) (Nat.le_refl _) two_small (HT.out.on (below_alloc (Below.refl _ _) _)).here).mono ?_
  rintro e w2 ⟨rfl, hb⟩
  have HB := Aside0.mk (below_step (below_alloc (Below.refl _ _) _) hb)
  clear hb
  rw [two_path]
  go_wp2_with (fail)
  go_ret
  exact ⟨by first | rfl | simp, HB.out⟩
set_option maxHeartbeats 4000000 in
set_option maxRecDepth 100000 in
theorem walk (A : Option Addr) (n c : Nat) (l : List S26) (name : ByteArray) (w : World) (hC : Kd.C k26 w A n l) (hc : n ≤ c) (hsz : ∀ x ∈ l, x.f1.size ≤ 140737488355328) (htab : Lib.TabIs Tryd.prog w "internal/strconv.uint64pow10" .u64 Lib.pow10Tab) :
    Calls Tryd.prog 3 #[.slice A n c, .string name] w fun e w' => e = .returned (.bool true) ∧ Below w.heap.size w w' := by
  obtain rfl : n = l.length := hC.1.symm
  have HT := Aside0.mk (Lib.tabBelow_of_tabIs htab)
  have hu26 := Tryd.underlying26
  have HAL := Aside0.mk (alive w htab)
  have HCC := Aside0.mk hC
  have HC := Aside0.mk hc
  have HSZ := Aside0.mk hsz
  clear hC hc hsz htab
  go_enter Tryd.func3, Tryd.ntmps3
  go_wp2_with (fail)
  go_at_call 11
  refine HAL.out.mono ?_
  rintro e w1 ⟨rfl, hb⟩
  have HB1 := Aside0.mk hb
  clear hb
  obtain ⟨r, hr, hcall⟩ := great_calls A c l w1 (Kd.C_below HCC.out HB1.out) HC.out HSZ.out
  have HRS := Aside0.mk hr
  have HCL := Aside0.mk hcall
  clear hr hcall
  cases r with
  | true =>
    go_wp2_with (fail)
    go_at_call 12
    refine HCL.out.mono ?_
    rintro e w2 ⟨rfl, hb⟩
    have HB2 := Aside0.mk (below_step HB1.out hb)
    clear hb
    go_wp2_with (fail)
    go_ret
    exact ⟨rfl, HB2.out⟩
  | false =>
    have HSM := Aside0.mk (HRS.out rfl)
    go_wp2_with (fail)
    go_at_call 12
    refine HCL.out.mono ?_
    rintro e w2 ⟨rfl, hb⟩
    have HB2 := Aside0.mk (below_step HB1.out hb)
    clear hb
    by_cases hbig : (1000 : Int) < (name.size : Int)
    · have z1 : decide ((1000 : Int) < (name.size : Int)) = true := decide_eq_true hbig
      have z2 : decide (1000 < name.size) = true := decide_eq_true (by omega)
      clear hbig
      go_wp2_with (fail)
      go_ret
      exact ⟨rfl, HB2.out⟩
    have z1 : decide ((1000 : Int) < (name.size : Int)) = false := decide_eq_false hbig
    have z2 : decide (1000 < name.size) = false := decide_eq_false (by omega)
    have HNS : Aside0 (name.size ≤ 1000) := ⟨by omega⟩
    clear hbig
    go_wp2_with (fail)
    go_loopg [18] l.length (fun kq v18 w' => ∃ (i : Nat) (W : World), W = w' ∧ v18 = .int .i64 (i : Int) ∧ Aside0 (i + kq = l.length) ∧ Aside0 (Below w.heap.size w w'))
    case atStart => exact ⟨0, _, rfl, rfl, ⟨by omega⟩, HB2⟩
    case round =>
      clear HB1 HB2
      obtain ⟨i, W, rfl, rfl, HK, HB⟩ := hrel
      have hk := HK.out
      have hlen := HSM.out.len
      cases gk with
      | zero =>
        have c1 : decide ((i : Int) < (l.length : Int)) = false := by simp; omega
        have c1n : decide (i < l.length) = false := by simp; omega
        clear hk hlen
        go_wp2_with (fail)
        go_at_call 15
        refine (put_calls A c l _ (Kd.C_below HCC.out HB.out) HC.out HSM.out (HT.out.on HB.out).here).mono ?_
        rintro e w3 ⟨rfl, hb⟩
        have HB3 := Aside0.mk (below_step HB.out hb)
        clear hb
        go_wp2_with (fail)
        go_at_call 16
        refine (rput_calls A c l _ (Kd.C_below HCC.out HB3.out) HC.out HSM.out).mono ?_
        rintro e w4 ⟨rfl, hb⟩
        have HB4 := Aside0.mk (below_step HB3.out hb)
        clear hb
        go_wp2_with (fail)
        go_at_call 17
        refine (name_calls name _ (by have := HNS.out; omega)).mono ?_
        rintro e w5 ⟨rfl, hb⟩
        have HB5 := Aside0.mk (below_step HB4.out hb)
        clear hb
        go_wp2_with (fail)
        go_at_call 18
        refine (PS.rname_calls name _ (by have := HNS.out; omega)).mono ?_
        rintro e w6 ⟨rfl, hb⟩
        have HB6 := Aside0.mk (below_step HB5.out hb)
        clear hb
        go_wp2_with (fail)
        go_ret
        exact ⟨by first | rfl | simp, HB6.out⟩
      | succ d =>
      have hi : i < l.length := by omega
      obtain ⟨hx, hmem⟩ := rd_mem l i hi
      have hsz := HSM.out.each _ hmem
      obtain ⟨ad, eA, h0, h1, h2⟩ := at_T26 HCC.out (i : Int) (by omega) (by omega)
      cases eA
      replace h0 := (HB.out.cell (World.block_lt_of_cell? w _ h0)).trans h0
      replace h1 := (HB.out.cell (World.block_lt_of_cell? w _ h1)).trans h1
      replace h2 := (HB.out.cell (World.block_lt_of_cell? w _ h2)).trans h2
      have hrv := right_v _ hsz
      generalize rd_T26 l i = x at *
      obtain ⟨x0, x1, x2⟩ := x
      simp only [Int.toNat_natCast] at h0 h1 h2
      simp only at hsz hrv
      have HR := Aside0.mk hrv
      have c1 : decide ((i : Int) < (l.length : Int)) = true := by simp; omega
      have c1n : decide (i < l.length) = true := by simp; omega
      have c2 : (0 : Int) ≤ (i : Int) := by omega
      have c3 : (i : Int) < (l.length : Int) := by omega
      have c3n := eq_true hi
      have i3 : wrap64 ((i : Int) + 1) = (i : Int) + 1 := by unfold wrap64; omega
      clear hk hlen hi hx hmem hsz hrv
      go_upto_region 8 with (fail)
      generalize hg : World.alloc W _ = W1
      have BKD : Aside0 (W1.drew.heap[W.heap.size]? = some (.cells #[.bool x0, .string x1, .int .i64 x2] 26 (0, 0))) := ⟨by subst hg; exact blk_new _ _⟩
      have HBD : Aside0 (Below w.heap.size w W1.drew) := ⟨by subst hg; exact (below_alloc HB.out _).drew⟩
      clear hg HB h0 h1 h2
      generalize W.heap.size = gb at *
      refine start_ (n := 5) (S := fun w' => w'.cell? ⟨gb, 0, none⟩ = some (.bool x0) ∧ w'.cell? ⟨gb, 1, none⟩ = some (.string x1) ∧ w'.cell? ⟨gb, 2, none⟩ = some (.int .i64 x2)) (ds := []) #[false, false, false, false, false] (by kernel_rfl) rfl rfl ⟨((blk_cell BKD.out 0).trans rfl), ((blk_cell BKD.out 1).trans rfl), ((blk_cell BKD.out 2).trans rfl)⟩ (fun hHeld => ?_)
      generalize hwd_ : W1.drew = wD at BKD HBD hHeld ⊢
      clear hwd_
      refine take_ (i := 0) (N := some 22) (v := ?_) (a' := ?_) #[true, false, false, false, false] rfl rfl (by kernel_rfl) (fun _ _ _ h => h) (Or.inl ⟨by rfl, ?_⟩) hHeld ?_ ?_
      rotate_left
      · rintro w' ⟨s0, s1, s2⟩
        go_simp
        with_reducible rfl
      rotate_left
      · simp only [Act.put, List.setIfInBounds_toArray, List.set_cons_zero, List.set_cons_succ, i64_w, i32_w]
        rfl
      refine take_ (i := 2) (N := some 24) (v := ?_) (a' := ?_) #[true, false, true, false, false] rfl rfl (by kernel_rfl) (fun _ _ _ h => h) (Or.inl ⟨by rfl, ?_⟩) hHeld ?_ ?_
      rotate_left
      · rintro w' ⟨s0, s1, s2⟩
        go_simp
        with_reducible rfl
      rotate_left
      · simp only [Act.put, List.setIfInBounds_toArray, List.set_cons_zero, List.set_cons_succ, i64_w, i32_w]
        rfl
      refine one_ (i := 1) (N := some 23) #[true, true, true, false, false] rfl rfl (by kernel_rfl) (by decide) (fun K hK => ?_)
      refine goes_ Tryd.func13 (by kernel_rfl) rfl #[.agg #[.bool x0, .string x1, .int .i64 x2]] (by rfl) rfl rfl (by simp only [List.map_toArray, List.map_cons, List.map_nil]; rfl) ?_
      with_reducible refine (HR.out.1 _).mono ?_
      rintro e w5 ⟨rfl, hb⟩
      refine ⟨_, rfl, ?_⟩
      have BK5 := Aside0.mk ((hb.block _ (blk_lt BKD.out)).trans BKD.out)
      have HB5 := Aside0.mk (below_step HBD.out hb)
      clear hb
      refine hK.out _ _ ⟨((blk_cell BK5.out 0).trans rfl), ((blk_cell BK5.out 1).trans rfl), ((blk_cell BK5.out 2).trans rfl)⟩ (fun hHeld => ?_)
      clear hK K
      refine norm_ (a' := ?_) ?_ ?_
      rotate_left
      · show Act.put _ (some 23) _ = _
        simp only [Act.put, List.setIfInBounds_toArray, List.set_cons_zero, List.set_cons_succ, i64_w, i32_w]
        rfl
      refine one_ (i := 3) (N := some 25) #[true, true, true, true, false] rfl rfl (by kernel_rfl) (by decide) (fun K hK => ?_)
      refine goes_ Tryd.func14 (by kernel_rfl) rfl #[.agg #[.bool x0, .string x1, .int .i64 x2]] (by rfl) rfl rfl (by simp only [List.map_toArray, List.map_cons, List.map_nil]; rfl) ?_
      with_reducible refine (HR.out.2.1 _).mono ?_
      rintro e w6 ⟨rfl, hb⟩
      refine ⟨_, rfl, ?_⟩
      have BK6 := Aside0.mk ((hb.block _ (blk_lt BK5.out)).trans BK5.out)
      have HB6 := Aside0.mk (below_step HB5.out hb)
      clear hb
      refine hK.out _ _ ⟨((blk_cell BK6.out 0).trans rfl), ((blk_cell BK6.out 1).trans rfl), ((blk_cell BK6.out 2).trans rfl)⟩ (fun hHeld => ?_)
      clear hK K
      refine norm_ (a' := ?_) ?_ ?_
      rotate_left
      · show Act.put _ (some 25) _ = _
        simp only [Act.put, List.setIfInBounds_toArray, List.set_cons_zero, List.set_cons_succ, i64_w, i32_w]
        rfl
      refine pure_ (i := 4) (N := some 26) (v := ?_) (a' := ?_) #[true, true, true, true, true] rfl rfl (by kernel_rfl) (fun _ _ _ h => h) (Or.inl ⟨by rfl, ?_⟩) ?_ ?_
      rotate_left
      · intro w'
        go_simp
        with_reducible rfl
      rotate_left
      · simp only [Act.put, List.setIfInBounds_toArray, List.set_cons_zero, List.set_cons_succ, i64_w, i32_w]
        rfl
      refine done_ (by kernel_rfl) ?_
      go_wp2_with (fail)
      go_roundg d
      case measure => omega
      case rel => exact ⟨i + 1, _, rfl, by simp [i3], ⟨by have := HK.out; omega⟩, HB6⟩
end Go.Proofs.YtlhpflicchchlaaDoor.PP
