/- The closures of the laws over the book of things; acts that came in. Conditions: none. -/
import Derived.Test.YtjfoppmpiklfiabBookG
import Derived.Test.YtjfoppmpiklfiabStays
namespace Go.Proofs.Ytjfoppmpiklfiab.BookW
open Go.RowKit Go.Proofs.YtjfoppmpiklfiabW.PrintWords Go.Proofs.YtjfoppmpiklfiabW.PrintLast Go.Proofs.YtjfoppmpiklfiabW.PrintMore Go.Proofs.Ytjfoppmpiklfiab.PTruthRuns Go.Proofs.Ytjfoppmpiklfiab.Truth
set_option linter.unusedVariables false
set_option linter.unusedSimpArgs false
def pickAt (ids : List Int) (x : Int) : Int := ids.getD ((x.tmod ids.length + ids.length).tmod ids.length).toNat 0
theorem pickAt_mem (ids : List Int) (x : Int) (h : 0 < ids.length) : 0 ≤ (x.tmod ids.length + ids.length).tmod ids.length ∧ (x.tmod ids.length + ids.length).tmod ids.length < ids.length ∧ 0 ≤ x.tmod ids.length + ids.length ∧ x.tmod ids.length + ids.length < 2 * ids.length ∧ pickAt ids x ∈ ids := by
  have hn : (0 : Int) < ids.length := by omega
  have h1 := Int.tmod_lt_of_pos x hn
  have h2 : -(ids.length : Int) < x.tmod ids.length := by
    by_cases hx : 0 ≤ x
    · have := Int.tmod_nonneg (ids.length : Int) hx; omega
    · have h := Int.tmod_lt_of_pos (-x) hn
      have h2 := Int.neg_tmod (-x) (ids.length : Int)
      rw [Int.neg_neg] at h2
      omega
  have h3 : 0 ≤ x.tmod ids.length + ids.length := by omega
  have h4 := Int.tmod_nonneg (ids.length : Int) h3
  have h5 := Int.tmod_lt_of_pos (x.tmod ids.length + ids.length) hn
  refine ⟨h4, h5, h3, by omega, ?_⟩
  unfold pickAt
  rw [List.getD_eq_getElem?_getD, List.getElem?_eq_getElem (by omega)]
  exact List.getElem_mem _
set_option maxHeartbeats 4000000 in
set_option maxRecDepth 100000 in
theorem pick_calls (gt : Nat) (A : Option Addr) (c : Nat) (ids : List Int) (x : Int) (w : World) (hc : w.cell? ⟨gt, 0, none⟩ = some (.slice A ids.length c)) (hr : Kd.C (Kd.int .i64) w A ids.length ids) (hn : 0 < ids.length) (hl : ids.length < 1000000) :
    Calls Try.prog 33 #[.int .i64 x, .pointer (some ⟨gt, 0, none⟩)] w fun e w' => e = .returned (.int .i64 (pickAt ids x)) ∧ w' = w.drew := by
  obtain ⟨p1, p2, p3, p4, _⟩ := pickAt_mem ids x hn
  obtain ⟨j, hj⟩ : ∃ j, j = (x.tmod ids.length + ids.length).tmod ids.length := ⟨_, rfl⟩
  obtain ⟨ad, rfl, hcell⟩ := (Kd.reads_of_C (enc := Value.int .i64) (d := (0 : Int)) (h1 := fun _ => rfl) hr).at_ j (by omega) (by omega)
  have hv : rdOf 0 ids j = pickAt ids x := by unfold rdOf pickAt; rw [hj]
  rw [hv] at hcell
  obtain ⟨n, hnn⟩ : ∃ n, n = ids.length := ⟨_, rfl⟩
  rw [← hnn] at hc hj p1 p2 p3 p4
  obtain ⟨v, hvv⟩ : ∃ v, v = pickAt ids x := ⟨_, rfl⟩
  rw [← hvv] at hcell ⊢
  obtain ⟨r1, hr1⟩ : ∃ r, r = x.tmod (n : Int) := ⟨_, rfl⟩
  rw [← hr1] at hj p1 p2 p3 p4
  obtain ⟨r2, hr2⟩ : ∃ r, r = r1 + (n : Int) := ⟨_, rfl⟩
  rw [← hr2] at hj p1 p2 p3 p4
  have e1 : x.tmod (n : Int) = r1 := hr1.symm
  have e2 : IntKind.i64.wrap (r1 + (n : Int)) = r2 := by rw [← hr2]; exact Go.IntWalk.i64_in _ (by omega)
  have e3 : r2.tmod (n : Int) = j := hj.symm
  have q0 : ((n : Int) == 0) = false := by simp; omega
  have q1 : ¬ n = 0 := by omega
  rw [← hj] at p1 p2
  have C0 := Aside0.mk hc
  have CE := Aside0.mk hcell
  clear hr hn hl hv hnn hvv hr1 hr2 hj p3 p4 hc hcell
  replace p1 := eq_true p1
  replace p2 := eq_true p2
  go_enter Try.func33, Try.ntmps33
  go_upto_region 1 with (fail)
  refine start_ (n := 14) (S := fun w' => w'.cell? ⟨gt, 0, none⟩ = some (.slice (some ad) n c) ∧ w'.cell? (ad.add j.toNat) = some (.int .i64 v)) (ds := []) #[false, false, false, false, false, false, false, false, false, false, false, false, false, false] (by kernel_rfl) rfl rfl ⟨C0.out, CE.out⟩ (fun hHeld => ?_)
  refine pure_ (i := 1) (N := some 5) (v := ?_) (a' := ?_) #[false, true, false, false, false, false, false, false, false, false, false, false, false, false] rfl rfl (by kernel_rfl) (fun _ _ _ h => h) (Or.inl ⟨by rfl, ?_⟩) ?_ ?_
  rotate_left
  · intro w'
    go_simp
    with_reducible rfl
  rotate_left
  · simp only [Act.put, List.setIfInBounds_toArray, List.set_cons_zero, List.set_cons_succ, i64_w, i32_w]
    rfl
  refine take_ (i := 0) (N := some 4) (v := ?_) (a' := ?_) #[true, true, false, false, false, false, false, false, false, false, false, false, false, false] rfl rfl (by kernel_rfl) (fun _ _ _ h => h) (Or.inl ⟨by rfl, ?_⟩) hHeld ?_ ?_
  rotate_left
  · rintro w' ⟨s0, s1⟩
    go_simp
    with_reducible rfl
  rotate_left
  · simp only [Act.put, List.setIfInBounds_toArray, List.set_cons_zero, List.set_cons_succ, i64_w, i32_w]
    rfl
  refine take_ (i := 2) (N := some 6) (v := ?_) (a' := ?_) #[true, true, true, false, false, false, false, false, false, false, false, false, false, false] rfl rfl (by kernel_rfl) (fun _ _ _ h => h) (Or.inl ⟨by rfl, ?_⟩) hHeld ?_ ?_
  rotate_left
  · rintro w' ⟨s0, s1⟩
    go_simp
    with_reducible rfl
  rotate_left
  · simp only [Act.put, List.setIfInBounds_toArray, List.set_cons_zero, List.set_cons_succ, i64_w, i32_w]
    rfl
  refine pure_ (i := 3) (N := some 7) (v := ?_) (a' := ?_) #[true, true, true, true, false, false, false, false, false, false, false, false, false, false] rfl rfl (by kernel_rfl) (fun _ _ _ h => h) (Or.inl ⟨by rfl, ?_⟩) ?_ ?_
  rotate_left
  · intro w'
    go_simp
    with_reducible rfl
  rotate_left
  · simp only [Act.put, List.setIfInBounds_toArray, List.set_cons_zero, List.set_cons_succ, i64_w, i32_w]
    rfl
  refine pure_ (i := 4) (N := some 8) (v := ?_) (a' := ?_) #[true, true, true, true, true, false, false, false, false, false, false, false, false, false] rfl rfl (by kernel_rfl) (fun _ _ _ h => h) (Or.inl ⟨by rfl, ?_⟩) ?_ ?_
  rotate_left
  · intro w'
    go_simp
    with_reducible rfl
  rotate_left
  · simp only [Act.put, List.setIfInBounds_toArray, List.set_cons_zero, List.set_cons_succ, i64_w, i32_w]
    rfl
  refine take_ (i := 5) (N := some 9) (v := ?_) (a' := ?_) #[true, true, true, true, true, true, false, false, false, false, false, false, false, false] rfl rfl (by kernel_rfl) (fun _ _ _ h => h) (Or.inl ⟨by rfl, ?_⟩) hHeld ?_ ?_
  rotate_left
  · rintro w' ⟨s0, s1⟩
    go_simp
    with_reducible rfl
  rotate_left
  · simp only [Act.put, List.setIfInBounds_toArray, List.set_cons_zero, List.set_cons_succ, i64_w, i32_w]
    rfl
  refine pure_ (i := 6) (N := some 10) (v := ?_) (a' := ?_) #[true, true, true, true, true, true, true, false, false, false, false, false, false, false] rfl rfl (by kernel_rfl) (fun _ _ _ h => h) (Or.inl ⟨by rfl, ?_⟩) ?_ ?_
  rotate_left
  · intro w'
    go_simp
    with_reducible rfl
  rotate_left
  · simp only [Act.put, List.setIfInBounds_toArray, List.set_cons_zero, List.set_cons_succ, i64_w, i32_w]
    rfl
  refine pure_ (i := 7) (N := some 11) (v := ?_) (a' := ?_) #[true, true, true, true, true, true, true, true, false, false, false, false, false, false] rfl rfl (by kernel_rfl) (fun _ _ _ h => h) (Or.inl ⟨by rfl, ?_⟩) ?_ ?_
  rotate_left
  · intro w'
    go_simp
    with_reducible rfl
  rotate_left
  · simp only [Act.put, List.setIfInBounds_toArray, List.set_cons_zero, List.set_cons_succ, i64_w, i32_w]
    rfl
  refine take_ (i := 8) (N := some 12) (v := ?_) (a' := ?_) #[true, true, true, true, true, true, true, true, true, false, false, false, false, false] rfl rfl (by kernel_rfl) (fun _ _ _ h => h) (Or.inl ⟨by rfl, ?_⟩) hHeld ?_ ?_
  rotate_left
  · rintro w' ⟨s0, s1⟩
    go_simp
    with_reducible rfl
  rotate_left
  · simp only [Act.put, List.setIfInBounds_toArray, List.set_cons_zero, List.set_cons_succ, i64_w, i32_w]
    rfl
  refine pure_ (i := 9) (N := some 13) (v := ?_) (a' := ?_) #[true, true, true, true, true, true, true, true, true, true, false, false, false, false] rfl rfl (by kernel_rfl) (fun _ _ _ h => h) (Or.inl ⟨by rfl, ?_⟩) ?_ ?_
  rotate_left
  · intro w'
    go_simp
    with_reducible rfl
  rotate_left
  · simp only [Act.put, List.setIfInBounds_toArray, List.set_cons_zero, List.set_cons_succ, i64_w, i32_w]
    rfl
  refine pure_ (i := 10) (N := some 14) (v := ?_) (a' := ?_) #[true, true, true, true, true, true, true, true, true, true, true, false, false, false] rfl rfl (by kernel_rfl) (fun _ _ _ h => h) (Or.inl ⟨by rfl, ?_⟩) ?_ ?_
  rotate_left
  · intro w'
    go_simp
    with_reducible rfl
  rotate_left
  · simp only [Act.put, List.setIfInBounds_toArray, List.set_cons_zero, List.set_cons_succ, i64_w, i32_w]
    rfl
  refine pure_ (i := 11) (N := some 15) (v := ?_) (a' := ?_) #[true, true, true, true, true, true, true, true, true, true, true, true, false, false] rfl rfl (by kernel_rfl) (fun _ _ _ h => h) (Or.inl ⟨by rfl, ?_⟩) ?_ ?_
  rotate_left
  · intro w'
    go_simp
    with_reducible rfl
  rotate_left
  · simp only [Act.put, List.setIfInBounds_toArray, List.set_cons_zero, List.set_cons_succ, i64_w, i32_w]
    rfl
  refine take_ (i := 12) (N := some 16) (v := ?_) (a' := ?_) #[true, true, true, true, true, true, true, true, true, true, true, true, true, false] rfl rfl (by kernel_rfl) (fun _ _ _ h => h) (Or.inl ⟨by rfl, ?_⟩) hHeld ?_ ?_
  rotate_left
  · rintro w' ⟨s0, s1⟩
    go_simp
    with_reducible rfl
  rotate_left
  · simp only [Act.put, List.setIfInBounds_toArray, List.set_cons_zero, List.set_cons_succ, i64_w, i32_w]
    rfl
  refine pure_ (i := 13) (N := some 3) (v := ?_) (a' := ?_) #[true, true, true, true, true, true, true, true, true, true, true, true, true, true] rfl rfl (by kernel_rfl) (fun _ _ _ h => h) (Or.inl ⟨by rfl, ?_⟩) ?_ ?_
  rotate_left
  · intro w'
    go_simp
    with_reducible rfl
  rotate_left
  · simp only [Act.put, List.setIfInBounds_toArray, List.set_cons_zero, List.set_cons_succ, i64_w, i32_w]
    rfl
  refine done_ (by kernel_rfl) ?_
  go_wp2_with fail
  go_ret
  exact ⟨rfl, rfl⟩
end Go.Proofs.Ytjfoppmpiklfiab.BookW
