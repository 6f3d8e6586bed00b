/- The walk of the law SliceHangs over the contracts of what it calls: it returns true. Conditions: none but that the numbers are of 64 bits. -/
import Derived.Test.YtjfoppmpiklfiaaSlH2
import Derived.Test.YtjfoppmpiklfiaaSlH3
import Derived.Test.YtjfoppmpiklfiaaSlicePureH
import Derived.Test.YtjfoppmpiklfiaaListed
import Derived.Deep.RegionHeld3
namespace Go.Proofs.Ytjfoppmpiklfiaa.HangsW
open Go.RowKit Go.Proofs.Ytjfoppmpiklfiaa.PureH Go.Proofs.Ytjfoppmpiklfiaa.SlH Go.Proofs.YtjfoppmpiklfiaaW.PrintWords Go.Proofs.YtjfoppmpiklfiaaW.PrintLast Go.Proofs.YtjfoppmpiklfiaaW.PrintMore

theorem cells8 {w : World} {g : Nat} {t : TypeId} {v0 v1 v2 v3 v4 v5 v6 v7 : Value} (h : w.heap[g]? = some (.cells #[v0, v1, v2, v3, v4, v5, v6, v7] t (0, 0))) :
    w.cell? ⟨g, 0, none⟩ = some v0 ∧ w.cell? ⟨g, 1, none⟩ = some v1 ∧ w.cell? ⟨g, 2, none⟩ = some v2 ∧ w.cell? ⟨g, 3, none⟩ = some v3 ∧ w.cell? ⟨g, 4, none⟩ = some v4 ∧ w.cell? ⟨g, 5, none⟩ = some v5 ∧ w.cell? ⟨g, 6, none⟩ = some v6 ∧ w.cell? ⟨g, 7, none⟩ = some v7 :=
  ⟨(blk_cell h 0).trans rfl, (blk_cell h 1).trans rfl, (blk_cell h 2).trans rfl, (blk_cell h 3).trans rfl, (blk_cell h 4).trans rfl, (blk_cell h 5).trans rfl, (blk_cell h 6).trans rfl, (blk_cell h 7).trans rfl⟩
set_option maxHeartbeats 4000000 in
theorem w0 (a0 : Int) (a1 : ByteArray) (a2 a3 a4 : Int) (a5 a6 : Bool) (a7 i m o : Int) (w : World) (r : Bool) (hal : rifflelaw12_sliceAlive.f 40 = some true) (hr : riffleref12_Right.f 40 a0 a1 a2 a3 a4 a5 a6 a7 = some r)
    (hrr : r = true → InR a2 ∧ InR a3 ∧ InR a4 ∧ InR a7) (hv : Bool) (hh : slice_Hangs.f a0 a1 a2 a3 a4 a5 a6 a7 = some hv) :
    Calls Try.prog 12 #[.agg #[.int .i64 a0, .string a1, .int .i64 a2, .int .i64 a3, .int .i64 a4, .bool a5, .bool a6, .int .i64 a7], .int .i64 i, .agg #[.int .i64 m, .int .i64 o]] w fun e w' => e = .returned (.bool true) ∧ Below w.heap.size w w' := by
  have hal := Aside0.mk hal
  have hr := Aside0.mk hr
  have hh := Aside0.mk hh
  have hrr := Aside0.mk hrr
  go_enter Try.func12, Try.ntmps12
  go_wp2_with fail
  generalize hg : World.alloc (World.alloc w _) _ = w1
  have HB : Aside0 (Below w.heap.size w w1) := ⟨by subst hg; exact ((Below.refl _ _).alloc (Nat.le_refl _) _).alloc (by simp) _⟩
  have K1 : Aside0 (w1.heap[w.heap.size]? = some (.cells #[.int .i64 a0, .string a1, .int .i64 a2, .int .i64 a3, .int .i64 a4, .bool a5, .bool a6, .int .i64 a7] 53)) := ⟨by subst hg; exact blk_alloc (blk_new _ _) _⟩
  have K2 : Aside0 (w1.heap[w.heap.size + 1]? = some (.cells #[.int .i64 m, .int .i64 o] 65)) := ⟨by subst hg; have := blk_new (w.alloc (.cells #[.int .i64 a0, .string a1, .int .i64 a2, .int .i64 a3, .int .i64 a4, .bool a5, .bool a6, .int .i64 a7] 53)) (.cells #[.int .i64 m, .int .i64 o] 65); simpa using this⟩
  clear hg
  have c20 := (blk_cell K2.out 0).trans rfl
  have c21 := (blk_cell K2.out 1).trans rfl
  go_quiet (fail)
  clear c20 c21
  go_wp2_with fail
  refine (rifflelaw12_sliceAlive.calls 40 true _ hal.out).mono ?_
  rintro e w2 ⟨rfl, hb⟩
  replace HB := Aside0.mk (below_step (pw_below_drewN HB.out _) hb)
  replace K1 := Aside0.mk (blk_below (blk_drewN K1.out _) hb)
  clear hb K2
  have c10 := (blk_cell K1.out 0).trans rfl
  have c11 := (blk_cell K1.out 1).trans rfl
  have c12 := (blk_cell K1.out 2).trans rfl
  have c13 := (blk_cell K1.out 3).trans rfl
  have c14 := (blk_cell K1.out 4).trans rfl
  have c15 := (blk_cell K1.out 5).trans rfl
  have c16 := (blk_cell K1.out 6).trans rfl
  have c17 := (blk_cell K1.out 7).trans rfl
  go_wp2_with fail
  refine (riffleref12_Right.calls 40 _ _ _ _ _ _ _ _ r _ hr.out).mono ?_
  rintro e w3 ⟨rfl, hb⟩
  replace HB := Aside0.mk (below_step HB.out hb)
  replace K1 := Aside0.mk (blk_below K1.out hb)
  clear hb  c10 c11 c12 c13 c14 c15 c16 c17
  cases r with
  | false => 
    go_wp2_with fail
    go_ret
    exact ⟨rfl, HB.out⟩
  | true =>
    have c10 := (blk_cell K1.out 0).trans rfl
    have c11 := (blk_cell K1.out 1).trans rfl
    have c12 := (blk_cell K1.out 2).trans rfl
    have c13 := (blk_cell K1.out 3).trans rfl
    have c14 := (blk_cell K1.out 4).trans rfl
    have c15 := (blk_cell K1.out 5).trans rfl
    have c16 := (blk_cell K1.out 6).trans rfl
    have c17 := (blk_cell K1.out 7).trans rfl
    by_cases hin : 0 ≤ m ∧ m ≤ 1099511627776 ∧ 0 ≤ o ∧ o ≤ 1099511627776 ∧ 0 ≤ i ∧ i < m
    rotate_left
    · have hin := Aside0.mk hin
      go_wp2_with fail
      all_goals first | (go_ret; exact ⟨rfl, HB.out⟩) | (exfalso; have := hin.out; omega)
    obtain ⟨e1, e2, e3, e4, e5, e6⟩ := hin
    obtain ⟨r1, r2, r3, r4⟩ := hrr.out rfl
    have hm : InM m := ⟨e1, by omega⟩
    have hmo : InM (m + o) := ⟨by omega, by omega⟩
    have z0 : InR 0 := ⟨by omega, by omega⟩
    have zi : InR i := ⟨by omega, by omega⟩
    have zm : InR (-1) := ⟨by omega, by omega⟩
    have B1 := Aside0.mk (has_eq (k := 40) (kd := a0) (n := a1) (ix := a2) (st := a3) (en := a4) (hs := a5) (he := a6) (sd := a7) (by omega) r1 r2 r3 hm e5 e6)
    have B2 := Aside0.mk (has_eq (k := 40) (kd := a0) (n := a1) (ix := a2) (st := a3) (en := a4) (hs := a5) (he := a6) (sd := a7) (by omega) r1 r2 r3 hmo e5 (by omega))
    have C1 : Aside0 (slice_Has.f 40 3 ⟨#[]⟩ 0 0 0 false false 1 i m = some true) := ⟨by rw [has_eq (by omega) z0 z0 z0 hm e5 e6, on_all e5 e6]⟩
    have C2 : Aside0 (slice_Has.f 40 3 ⟨#[]⟩ 0 0 0 false false (-1) i m = some true) := ⟨by rw [has_eq (by omega) z0 z0 z0 hm e5 e6, back_all e5 e6]⟩
    have C3 : Aside0 (slice_Has.f 40 2 ⟨#[]⟩ (-1) 0 0 false false 0 i m = some (decide (i = m - 1))) := ⟨by rw [has_eq (by omega) zm z0 z0 hm e5 e6, last_is]⟩
    have C4 : Aside0 (slice_Has.f 40 2 ⟨#[]⟩ i 0 0 false false 0 i m = some true) := ⟨by rw [has_eq (by omega) zi z0 z0 hm e5 e6, that_is e5]⟩
    have ea : wrap64 (m + o) = m + o := by unfold wrap64; omega
    have eb : IntKind.i64.wrap (m + o) = m + o := IntWalk.i64_in _ (by omega)
    have ec : wrap64 (m - 1) = m - 1 := by unfold wrap64; omega
    have ed : IntKind.i64.wrap (m - 1) = m - 1 := IntWalk.i64_in _ (by omega)
    have HS := Aside0.mk (fun h => has_same (kd := a0) (n := a1) (ix := a2) (st := a3) (en := a4) (hs := a5) (he := a6) (sd := a7) (m := m) (o := o) (i := i) h e5 e6 e3)
    clear r1 r2 r3 r4 hm hmo z0 zi zm
    go_wp2_with fail
    cases hv with
    | true =>
      refine Listed.wp_region_listed (G := [3]) (by kernel_rfl) (by kernel_rfl) ?_
      go_wp2_with fail
      refine (slice_Hangs.calls _ _ _ _ _ _ _ _ true _ hh.out).mono ?_
      rintro e w4 ⟨rfl, hb⟩
      have HB4 := Aside0.mk (below_step (below_drew HB.out) hb)
      have K4 := Aside0.mk (blk_below (blk_drew K1.out) hb)
      clear hb c10 c11 c12 c13 c14 c15 c16 c17
      go_wp2_with fail
      refine Listed.fin_intro (by kernel_rfl) ?_
      go_wp2_with fail
      generalize hg : World.alloc (World.alloc (World.alloc w4 _) _) _ = w5
      have HB5 : Aside0 (Below w.heap.size w w5) := ⟨by subst hg; exact below_alloc (below_alloc (below_alloc HB4.out _) _) _⟩
      have L2 : Aside0 (w5.heap[w4.heap.size + 1]? = some (.cells #[.int .i64 3, .string ⟨#[]⟩, .int .i64 0, .int .i64 0, .int .i64 0, .bool false, .bool false, .int .i64 (-1)] 53)) := ⟨by
        subst hg
        have := blk_alloc (blk_new (w4.alloc (.cells #[.int .i64 3, .string ⟨#[]⟩, .int .i64 0, .int .i64 0, .int .i64 0, .bool false, .bool false, .int .i64 1] 53)) (.cells #[.int .i64 3, .string ⟨#[]⟩, .int .i64 0, .int .i64 0, .int .i64 0, .bool false, .bool false, .int .i64 (-1)] 53)) (.cells #[.int .i64 2, .string ⟨#[]⟩, .int .i64 (-1), .int .i64 0, .int .i64 0, .bool false, .bool false, .int .i64 0] 53)
        simpa using this⟩
      have L3 : Aside0 (w5.heap[w4.heap.size + 2]? = some (.cells #[.int .i64 2, .string ⟨#[]⟩, .int .i64 (-1), .int .i64 0, .int .i64 0, .bool false, .bool false, .int .i64 0] 53)) := ⟨by
        subst hg
        have := blk_new ((w4.alloc (.cells #[.int .i64 3, .string ⟨#[]⟩, .int .i64 0, .int .i64 0, .int .i64 0, .bool false, .bool false, .int .i64 1] 53)).alloc (.cells #[.int .i64 3, .string ⟨#[]⟩, .int .i64 0, .int .i64 0, .int .i64 0, .bool false, .bool false, .int .i64 (-1)] 53)) (.cells #[.int .i64 2, .string ⟨#[]⟩, .int .i64 (-1), .int .i64 0, .int .i64 0, .bool false, .bool false, .int .i64 0] 53)
        simpa using this⟩
      clear hg HB4
      refine (slice_Has.calls 40 _ _ _ _ _ _ _ _ _ _ true _ C1.out).mono ?_
      rintro e w6 ⟨rfl, hb⟩
      replace HB5 := Aside0.mk (below_step HB5.out hb)
      replace L2 := Aside0.mk (blk_below L2.out hb)
      replace L3 := Aside0.mk (blk_below L3.out hb)
      clear hb
      obtain ⟨l0, l1, l2, l3, l4, l5, l6, l7⟩ := cells8 L2.out
      go_wp2_with fail
      refine (slice_Has.calls 40 _ _ _ _ _ _ _ _ _ _ true _ C2.out).mono ?_
      rintro e w7 ⟨rfl, hb⟩
      replace HB5 := Aside0.mk (below_step HB5.out hb)
      replace L3 := Aside0.mk (blk_below L3.out hb)
      clear hb l0 l1 l2 l3 l4 l5 l6 l7 L2
      obtain ⟨l0, l1, l2, l3, l4, l5, l6, l7⟩ := cells8 L3.out
      go_wp2_with fail
      refine (slice_Has.calls 40 _ _ _ _ _ _ _ _ _ _ _ _ C3.out).mono ?_
      rintro e w8 ⟨rfl, hb⟩
      replace HB5 := Aside0.mk (below_step HB5.out hb)
      clear hb l0 l1 l2 l3 l4 l5 l6 l7 L3
      by_cases hl : i = m - 1
      all_goals
        first | have q1 : decide (i = m - 1) = true := decide_eq_true hl | have q1 : decide (i = m - 1) = false := decide_eq_false hl
        first | have q2 : (i == m - 1) = true := by simp [hl]; done | have q2 : (i == m - 1) = false := by simp [hl]; done
        rw [q1]
        clear hl
        go_wp2_with fail
        refine (slice_Has.calls 40 _ _ _ _ _ _ _ _ _ _ true _ C4.out).mono ?_
        rintro e w9 ⟨rfl, hb⟩
        replace HB5 := Aside0.mk (below_step HB5.out hb)
        clear hb
        go_wp2_with fail
        go_ret
        exact ⟨by first | rfl | (simp; done), HB5.out⟩
    | false =>
      have g1 := Aside0.mk (B1.out)
      have g2 : Aside0 (slice_Has.f 40 a0 a1 a2 a3 a4 a5 a6 a7 i (m + o) = some (has a0 a2 a3 a4 a5 a6 a7 i m)) := ⟨by rw [B2.out, HS.out hh.out]⟩
      clear B1 B2 HS
      generalize has a0 a2 a3 a4 a5 a6 a7 i m = b1 at *
      go_region_held3 (fun w' => w'.cell? ⟨w.heap.size, 0, none⟩ = some (.int .i64 a0) ∧ w'.cell? ⟨w.heap.size, 1, none⟩ = some (.string a1) ∧ w'.cell? ⟨w.heap.size, 2, none⟩ = some (.int .i64 a2) ∧ w'.cell? ⟨w.heap.size, 3, none⟩ = some (.int .i64 a3) ∧ w'.cell? ⟨w.heap.size, 4, none⟩ = some (.int .i64 a4) ∧ w'.cell? ⟨w.heap.size, 5, none⟩ = some (.bool a5) ∧ w'.cell? ⟨w.heap.size, 6, none⟩ = some (.bool a6) ∧ w'.cell? ⟨w.heap.size, 7, none⟩ = some (.int .i64 a7)) (first | exact cells8 (blk_drew K1.out) | exact cells8 K6.out | exact cells8 K5.out | exact cells8 K4.out | fail) (first | (go_at_call 53; refine (slice_Hangs.calls _ _ _ _ _ _ _ _ false _ hh.out).mono ?_; rintro e w4 ⟨rfl, hb⟩; have HB4 := Aside0.mk (below_step (below_drew HB.out) hb); have K4 := Aside0.mk (blk_below (blk_drew K1.out) hb); clear hb) | (go_at_call 46; ((with_reducible refine (slice_Has.calls 40 _ _ _ _ _ _ _ _ _ _ b1 _ g1.out).mono ?_); rintro e w5 ⟨rfl, hb⟩; have HB5 := Aside0.mk (below_step HB4.out hb); have K5 := Aside0.mk (blk_below K4.out hb); clear hb)) | (go_at_call 46; ((with_reducible refine (slice_Has.calls 40 _ _ _ _ _ _ _ _ _ _ b1 _ g2.out).mono ?_); rintro e w6 ⟨rfl, hb⟩; have HB6 := Aside0.mk (below_step HB5.out hb); have K6 := Aside0.mk (blk_below K5.out hb); clear hb)) | fail)
      clear c10 c11 c12 c13 c14 c15 c16 c17
      clear HB HB4 HB5 K4 K5 K6
      cases b1
      all_goals
        go_wp2_with fail
        generalize hg : World.alloc (World.alloc (World.alloc w6 _) _) _ = w5
        have HB5 : Aside0 (Below w.heap.size w w5) := ⟨by subst hg; exact below_alloc (below_alloc (below_alloc HB6.out _) _) _⟩
        have L2 : Aside0 (w5.heap[w6.heap.size + 1]? = some (.cells #[.int .i64 3, .string ⟨#[]⟩, .int .i64 0, .int .i64 0, .int .i64 0, .bool false, .bool false, .int .i64 (-1)] 53)) := ⟨by
          subst hg
          have := blk_alloc (blk_new (w6.alloc (.cells #[.int .i64 3, .string ⟨#[]⟩, .int .i64 0, .int .i64 0, .int .i64 0, .bool false, .bool false, .int .i64 1] 53)) (.cells #[.int .i64 3, .string ⟨#[]⟩, .int .i64 0, .int .i64 0, .int .i64 0, .bool false, .bool false, .int .i64 (-1)] 53)) (.cells #[.int .i64 2, .string ⟨#[]⟩, .int .i64 (-1), .int .i64 0, .int .i64 0, .bool false, .bool false, .int .i64 0] 53)
          simpa using this⟩
        have L3 : Aside0 (w5.heap[w6.heap.size + 2]? = some (.cells #[.int .i64 2, .string ⟨#[]⟩, .int .i64 (-1), .int .i64 0, .int .i64 0, .bool false, .bool false, .int .i64 0] 53)) := ⟨by
          subst hg
          have := blk_new ((w6.alloc (.cells #[.int .i64 3, .string ⟨#[]⟩, .int .i64 0, .int .i64 0, .int .i64 0, .bool false, .bool false, .int .i64 1] 53)).alloc (.cells #[.int .i64 3, .string ⟨#[]⟩, .int .i64 0, .int .i64 0, .int .i64 0, .bool false, .bool false, .int .i64 (-1)] 53)) (.cells #[.int .i64 2, .string ⟨#[]⟩, .int .i64 (-1), .int .i64 0, .int .i64 0, .bool false, .bool false, .int .i64 0] 53)
          simpa using this⟩
        clear hg HB6
        refine (slice_Has.calls 40 _ _ _ _ _ _ _ _ _ _ true _ C1.out).mono ?_
        rintro e w6 ⟨rfl, hb⟩
        replace HB5 := Aside0.mk (below_step HB5.out hb)
        replace L2 := Aside0.mk (blk_below L2.out hb)
        replace L3 := Aside0.mk (blk_below L3.out hb)
        clear hb
        obtain ⟨l0, l1, l2, l3, l4, l5, l6, l7⟩ := cells8 L2.out
        go_wp2_with fail
        refine (slice_Has.calls 40 _ _ _ _ _ _ _ _ _ _ true _ C2.out).mono ?_
        rintro e w7 ⟨rfl, hb⟩
        replace HB5 := Aside0.mk (below_step HB5.out hb)
        replace L3 := Aside0.mk (blk_below L3.out hb)
        clear hb l0 l1 l2 l3 l4 l5 l6 l7 L2
        obtain ⟨l0, l1, l2, l3, l4, l5, l6, l7⟩ := cells8 L3.out
        go_wp2_with fail
        refine (slice_Has.calls 40 _ _ _ _ _ _ _ _ _ _ _ _ C3.out).mono ?_
        rintro e w8 ⟨rfl, hb⟩
        replace HB5 := Aside0.mk (below_step HB5.out hb)
        clear hb l0 l1 l2 l3 l4 l5 l6 l7 L3
        by_cases hl : i = m - 1
        all_goals
          first | have q1 : decide (i = m - 1) = true := decide_eq_true hl | have q1 : decide (i = m - 1) = false := decide_eq_false hl
          first | have q2 : (i == m - 1) = true := by simp [hl]; done | have q2 : (i == m - 1) = false := by simp [hl]; done
          rw [q1]
          clear hl
          go_wp2_with fail
          refine (slice_Has.calls 40 _ _ _ _ _ _ _ _ _ _ true _ C4.out).mono ?_
          rintro e w9 ⟨rfl, hb⟩
          replace HB5 := Aside0.mk (below_step HB5.out hb)
          clear hb
          go_wp2_with fail
          go_ret
          exact ⟨by first | rfl | (simp; done), HB5.out⟩
theorem hangs_walk (a0 : Int) (a1 : ByteArray) (a2 a3 a4 : Int) (a5 a6 : Bool) (a7 i m o : Int) (_ : a1.size ≤ maxLen) (_ : (Lit.int .i64 a0).wf = true) (_ : (Lit.int .i64 a2).wf = true) (_ : (Lit.int .i64 a3).wf = true) (_ : (Lit.int .i64 a4).wf = true) (_ : (Lit.int .i64 a7).wf = true) (_ : (Lit.int .i64 i).wf = true) (_ : (Lit.int .i64 m).wf = true) (_ : (Lit.int .i64 o).wf = true) (w : World) :
    Calls Try.prog 12 #[.agg #[.int .i64 a0, .string a1, .int .i64 a2, .int .i64 a3, .int .i64 a4, .bool a5, .bool a6, .int .i64 a7], .int .i64 i, .agg #[.int .i64 m, .int .i64 o]] w fun e w' => e = .returned (.bool true) ∧ Below w.heap.size w w' := by
  obtain ⟨r, hr, hrr⟩ := right_some (kd := a0) (n := a1) (ix := a2) (st := a3) (en := a4) (hs := a5) (he := a6) (sd := a7) 40 (by omega)
  obtain ⟨hv, hh⟩ := hangs_some (kd := a0) (n := a1) (ix := a2) (st := a3) (en := a4) (hs := a5) (he := a6) (sd := a7)
  exact w0 a0 a1 a2 a3 a4 a5 a6 a7 i m o w r alive_so hr hrr hv hh
end Go.Proofs.Ytjfoppmpiklfiaa.HangsW
