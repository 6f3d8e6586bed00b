/- The law TruthRuns: whatever is made and set: each thing's value at each time. Conditions: none. -/
import Derived.Test.YtjfoppmpiklfiabBookR
import Derived.Test.YtjfoppmpiklfiabDocs3
import Derived.Test.YtjfoppmpiklfiabPTruthRunsx2
namespace Go.Proofs.Ytjfoppmpiklfiab.BookW
open Go.RowKit Go.Proofs.YtjfoppmpiklfiabW.PrintWords Go.Proofs.YtjfoppmpiklfiabW.PrintLast Go.Proofs.YtjfoppmpiklfiabW.PrintMore Go.Proofs.Ytjfoppmpiklfiab.PTruthRuns Go.Proofs.Ytjfoppmpiklfiab.Truth
set_option linter.unusedVariables false
set_option linter.unusedSimpArgs false
/-- What the law lays ahead of its loop. -/
theorem run_start {w W : World} {g : Nat} (hI : IsB w W g (fun _ => True) newL) (hB : Below w.heap.size w W) (W1 : World)
    (hW : W1 = ((W.alloc (.cells #[.int .i64 0, .int .i64 1] 3)).alloc (.cells #[.slice (some ⟨W.heap.size, 0, none⟩) 2 2] 42)).alloc (.cells #[.int .i64 0, .slice none 0 0, .int .i64 0, .int .i64 1, .slice none 0 0, .int .i64 0] 51)) :
    Run w W1 g (W.heap.size + 1) (.slice (some ⟨W.heap.size, 0, none⟩) 2 2) (.slice (some ⟨W.heap.size, 0, none⟩) 2 2) (.slice (some ⟨W.heap.size + 1 + 1, 0, none⟩) 2 2) newL [0, 1] [⟨0, [], 0⟩, ⟨1, [], 0⟩] (fun _ _ => True) := by
  obtain ⟨Wa, hWa⟩ : ∃ Wa, Wa = W.alloc (.cells #[.int .i64 0, .int .i64 1] 3) := ⟨_, rfl⟩
  obtain ⟨Wb, hWb⟩ : ∃ Wb, Wb = Wa.alloc (.cells #[.slice (some ⟨W.heap.size, 0, none⟩) 2 2] 42) := ⟨_, rfl⟩
  rw [← hWa, ← hWb] at hW
  have ha : Wa.heap.size = W.heap.size + 1 := by rw [hWa]; simp
  have hb : Wb.heap.size = W.heap.size + 2 := by rw [hWb]; simp; omega
  have h1 : W1.heap.size = W.heap.size + 3 := by rw [hW]; simp; omega
  have bab : Below Wa.heap.size Wa Wb := by rw [hWb]; exact below_alloc (Below.refl _ _) _
  have bb1 : Below Wb.heap.size Wb W1 := by rw [hW]; exact below_alloc (Below.refl _ _) _
  have b0a : Below W.heap.size W Wa := by rw [hWa]; exact below_alloc (Below.refl _ _) _
  have ba1 : Below Wa.heap.size Wa W1 := below_step bab bb1
  have b01 : Below W.heap.size W W1 := below_step b0a ba1
  have hle := hB.size
  have hgl := hI.lt
  have ho := own_lit_of (enc := fun z : Int => Value.int .i64 z) W w.heap.size 3 [0, 1] hle (by decide)
  have hoA : Wa.ownsRow w.heap.size 3 1 (.slice (some ⟨W.heap.size, 0, none⟩) 2 2) 2 (encs (fun z : Int => Value.int .i64 z) [0, 1]) := by rw [hWa]; exact ho
  have ov : ∀ k, (Value.slice (some ⟨W.heap.size, 0, none⟩) 2 2).ownBlock = some k → k = W.heap.size := fun k hk => by
    have : W.heap.size = k := by simpa [Value.ownBlock] using hk
    exact this.symm
  have ol : ∀ k, (Value.slice (some ⟨W.heap.size + 1 + 1, 0, none⟩) 2 2).ownBlock = some k → k = W.heap.size + 2 := fun k hk => by
    have : W.heap.size + 1 + 1 = k := by simpa [Value.ownBlock] using hk
    omega
  refine ⟨fun k => k = W.heap.size + 2, fun _ => False, (hI.bound.below b01).mono (fun k hk => ⟨by have := hk.2; omega, fun he => by have := ov k he.symm; have := hk.2; omega, fun he => by have := hk.2; omega, fun hf => hf⟩), ?_, by omega, ?_, ?_, fun k hk => ⟨by omega, by omega, by omega, fun hf => hf⟩, fun k hk => hk.elim, fun _ _ _ _ => trivial, below_step hB b01⟩
  · have hc : Wb.heap[W.heap.size + 1]? = some (.cells #[.slice (some ⟨W.heap.size, 0, none⟩) 2 2] 42 (0, 0)) := by rw [hWb, ← ha]; exact heap_alloc_new Wa _
    exact blk_below hc bb1
  · exact Kd.R_below (Kd.R_of_own (ok := fun k => k ≠ g ∧ k ≠ W.heap.size + 1 ∧ ¬ (k = W.heap.size + 2) ∧ ¬ False) hoA (fun k hk => by have := ov k hk; exact ⟨by omega, by omega, by omega, fun hf => hf⟩)) ba1
  · have hl := World.ownsRow_lit (base := w.heap.size) (e := 51) (size := 3) Wb #[.int .i64 0, .slice none 0 0, .int .i64 0, .int .i64 1, .slice none 0 0, .int .i64 0] 2 (by omega) (by decide) (by rfl)
    rw [hb] at hl
    refine ⟨fun k hk => ol k hk, [.int .i64 0, .slice none 0 0, .int .i64 0, .int .i64 1, .slice none 0 0, .int .i64 0], by rw [hW]; exact hl, rfl, fun j p hj => ?_⟩
    match j, hj with
    | 0, hj =>
      have hp : (⟨0, [], 0⟩ : S51) = p := by simpa using hj
      subst hp
      exact k51_mkM W1 _ _ ⟨0, [], 0⟩ (Kd.R_nil _ _ _ _ _)
    | 1, hj =>
      have hp : (⟨1, [], 0⟩ : S51) = p := by simpa using hj
      subst hp
      exact k51_mkM W1 _ _ ⟨1, [], 0⟩ (Kd.R_nil _ _ _ _ _)
    | j + 2, hj => simp at hj
theorem info51 : (Try.prog.info? 51).map (fun i => (i.zero, i.size, i.bytes)) = some (some (.agg #[.int .i64 0, .slice none 0 0, .int .i64 0]), 3, 40) := by kernel_rfl
set_option maxHeartbeats 4000000 in
set_option maxRecDepth 100000 in
theorem runs_out (A0 : Option Addr) (n0 c0 : Nat) (w : World) (h : 40 < n0) :
    Calls Try.prog 10 #[.slice A0 n0 c0] w fun e w' => e = .returned (.bool true) ∧ Below w.heap.size w w' := by
  have q0 : decide ((n0 : Int) > 40) = true := by simp; omega
  clear h
  go_enter Try.func10, Try.ntmps10
  go_wp2_with (first | (go_at_call 29; refine (alive_calls w).mono ?_; rintro e w1 ⟨rfl, hb⟩; have HB := Aside0.mk hb; clear hb))
  go_ret
  exact ⟨rfl, HB.out⟩

set_option maxHeartbeats 16000000 in
set_option maxRecDepth 100000 in
theorem runs_main (A0 : Option Addr) (n0 c0 : Nat) (acts : List S45) (w : World)
    (hr0 : Kd.C k45 w A0 n0 acts) (h0 : n0 ≤ 40) :
    Calls Try.prog 10 #[.slice A0 n0 c0] w fun e w' => e = .returned (.bool true) ∧ Below w.heap.size w w' := by
  have q0 : decide ((n0 : Int) > 40) = false := by simp; omega
  have HR0 := Aside0.mk hr0
  have HN0 := Aside0.mk h0
  have hmf : ∀ (fn : Fn) (first cap : Array Value) (W : World), (Instr.makeFunc fn first cap).run Try.prog W = .ok (.func fn first cap) W := fun _ _ _ _ => rfl
  clear hr0 h0
  go_enter Try.func10, Try.ntmps10
  go_upto_region 5 with (first | (go_at_call 29; refine (alive_calls w).mono ?_; rintro e w1 ⟨rfl, hb⟩; have HB := Aside0.mk hb; clear hb))
  have HNew := Aside0.mk (new_calls w w1 HB.out (fun _ => True) (fun _ _ => trivial))
  go_upto_region 8 with (first | (go_at_call 30; refine HNew.out.mono ?_; rintro e w2 ⟨rfl, hI, hb, -⟩; have HI := Aside0.mk hI; have HB2 := Aside0.mk (below_step HB.out hb); clear hI hb HNew))
  generalize w1.heap.size + 1 = g at HI ⊢
  go_upto_region 9 with (first | (go_at_call 31; refine (no_calls _ w2).mono ?_; rintro e w3 ⟨rfl, rfl⟩) | (go_at_call 32; refine (yes_calls _ w2).mono ?_; rintro e w3 ⟨rfl, rfl⟩))
  go_upto_region 10 with (fail)
  have HS := Aside0.mk (run_start HI.out HB2.out _ rfl)
  generalize hW0 : World.alloc _ _ = W0 at HS ⊢
  generalize hvl : Value.slice (some ⟨w2.heap.size + 1 + 1, 0, none⟩) 2 2 = vl0 at HS ⊢
  generalize hgt : w2.heap.size + 1 = gt at HS ⊢
  generalize hvt : Value.slice (some ⟨w2.heap.size, 0, none⟩) 2 2 = vt0 at HS ⊢
  clear hW0 hgt hvl hvt q0 HB HB2 HI
  go_wp2_with fail
  clear hmf
  go_loopg [5, 34] n0 (fun kq v5 v34 w' => ∃ (i : Nat) (L : List T) (ids : List Int) (l : List S51) (vt : Value), Aside0 (kq + i = n0) ∧ v34 = .int .i64 (i : Int) ∧ Aside0 (Run w w' g gt vt vt v5 L ids l (fun _ _ => True)) ∧ Aside0 (Doc L ids l) ∧ Aside0 (L.length ≤ 2 + 11 * i ∧ ids.length ≤ 2 + i ∧ ∀ t ∈ l, t.f1.length ≤ 10))
  case atStart => exact ⟨0, newL, [0, 1], _, _, ⟨by omega⟩, rfl, HS, ⟨newL_doc⟩, ⟨by decide, by decide, fun t ht => by
    rcases List.mem_cons.1 ht with rfl | ht
    · simp
    · rw [List.mem_singleton.1 ht]; simp⟩⟩
  case round =>
    clear HS
    obtain ⟨i, L, ids, l, vt, hi, rfl, HS, HD, HLen⟩ := hrel
    by_cases c3 : i < n0
    · obtain ⟨z, hz⟩ : ∃ z : Int, z = (i : Int) := ⟨_, rfl⟩
      have p0 : 0 ≤ z := by omega
      have p1 : z < (n0 : Int) := by omega
      obtain ⟨ad, A3, c3', rfl, hx0, hx1, hx2, hx3, hx4, hl3, hC3⟩ := at_T45 HR0.out z p0 p1
      replace hx0 := pw_cell_below HS.out.below hx0
      replace hx1 := pw_cell_below HS.out.below hx1
      replace hx2 := pw_cell_below HS.out.below hx2
      replace hx3 := pw_cell_below HS.out.below hx3
      replace hx4 := pw_cell_below HS.out.below hx4
      obtain ⟨act, hact⟩ : ∃ a, a = rd45 acts z := ⟨_, rfl⟩
      rw [← hact] at hx0 hx1 hx2 hx3 hx4 hl3 hC3
      obtain ⟨xs, hxs⟩ : ∃ xs, xs = act.f3 := ⟨_, rfl⟩
      rw [← hxs] at hx3 hl3 hC3
      obtain ⟨m, hm⟩ : ∃ m, m = xs.length := ⟨_, rfl⟩
      rw [← hm] at hx3 hl3 hC3
      obtain ⟨ki, hki⟩ : ∃ k, k = act.f0 := ⟨_, rfl⟩
      obtain ⟨xi, hxi⟩ : ∃ k, k = act.f1 := ⟨_, rfl⟩
      obtain ⟨yi, hyi⟩ : ∃ k, k = act.f2 := ⟨_, rfl⟩
      obtain ⟨bi, hbi⟩ : ∃ k, k = act.f4 := ⟨_, rfl⟩
      rw [← hki] at hx0
      rw [← hxi] at hx1
      rw [← hyi] at hx2
      rw [← hbi] at hx4
      have HC3 := Aside0.mk hC3
      have HM := Aside0.mk hm
      have Z1 := Aside0.mk (show z + 1 = ((i + 1 : Nat) : Int) by omega)
      have ZB := Aside0.mk (show 0 ≤ z ∧ z < 1000 by have := HN0.out; omega)
      have C3 := Aside0.mk c3
      have q3 : decide (z < (n0 : Int)) = true := decide_eq_true p1
      rw [← hz]
      clear hl3 hC3 hm hki hxi hyi hbi hz c3 hxs hact
      replace p0 := eq_true p0
      replace p1 := eq_true p1
      go_upto_region 14 with (fail)
      have HGA := Aside0.mk (heap_alloc_new wr (.cells #[.int .i64 ki, .int .i64 xi, .int .i64 yi, .slice A3 m c3', .bool bi] 45))
      have hba := below_alloc (Below.refl wr.heap.size wr) (.cells #[.int .i64 ki, .int .i64 xi, .int .i64 yi, .slice A3 m c3', .bool bi] 45)
      have HSA := Aside0.mk ((HS.out.tmp (Y := fun W' _ => W'.heap[wr.heap.size]? = some (.cells #[.int .i64 ki, .int .i64 xi, .int .i64 yi, .slice A3 m c3', .bool bi] 45 (0, 0))) hba (fun V _ hV => Keep.blk HGA.out (hV _ (Nat.le_refl _) (by simp)))).imp (fun _ _ h => h.2))
      generalize hwA : World.alloc wr _ = wA at HGA HSA ⊢
      generalize wr.heap.size = ga at HGA HSA ⊢
      have ca0 := (blk_cell HGA.out 0).trans rfl
      have ca3 := (blk_cell HGA.out 3).trans rfl
      clear hwA hba HS hx0 hx1 hx2 hx3 hx4 p0 p1 q3
      by_cases h10 : 10 < m
      · have q4 : decide ((m : Int) > 10) = true := by simp; omega
        have q5 : decide (10 < m) = true := by simp; omega
        clear h10
        go_wp2_with fail
        go_ret
        exact ⟨rfl, HSA.out.below⟩
      · have q4 : decide ((m : Int) > 10) = false := by simp; omega
        have q5 : decide (10 < m) = false := by simp; omega
        have H10 := Aside0.mk (show m ≤ 10 by omega)
        clear h10
        have HLn := Aside0.mk HSA.out.len_
        have hlb : (0 : Int) ≤ (L.length : Int) ∧ (L.length : Int) < 1000000 := by have := HLen.out; have := HN0.out; have := C3.out; omega
        obtain ⟨nL, hnL⟩ : ∃ n : Int, n = (L.length : Int) := ⟨_, rfl⟩
        rw [← hnL] at HLn hlb
        have lb0 := hlb.1
        have lb1 := hlb.2
        have HNL := Aside0.mk hnL
        clear hlb hnL
        go_upto_block 2 with (first | (go_at_call 40; refine HLn.out.mono ?_; rintro e w4 ⟨rfl, rfl⟩))
        clear q4 q5 ca0 ca3
        go_cut [5, 9, 10, 12] (fun v5 v9 v10 v12 wc => ∃ (L1 : List T) (ids1 : List Int) (l1 : List S51) (vt1 : Value) (mo : Int), v9 = .int .i64 mo ∧ Aside0 (Run w wc g gt vt1 vt1 v5 L1 ids1 l1 (fun _ _ => True)) ∧ Aside0 (Doc L1 ids1 l1) ∧ Aside0 ((L1.length : Int) ≤ mo ∧ L1.length ≤ 2 + 11 * (i + 1) ∧ ids1.length ≤ 2 + (i + 1) ∧ ∀ t ∈ l1, t.f1.length ≤ 10))
        case first =>
          have HBN := Aside0.mk (show L.length < 1000000 - 100 ∧ ids.length < 1000 ∧ l.length < 1000 by have := HLen.out; have := HN0.out; have := C3.out; have := HD.out.len; omega)
          by_cases hk0 : ki = 0
          · as_aux_lemma =>
            have k0 : (ki == 0) = true := by simp [hk0]
            have HDn := Aside0.mk HD.out.var
            clear hk0 HLn
            go_upto_region 19 with (fail)
            clear k0
            have n0_ := Aside0.mk (HSA.out.drew.imp (Y := fun _ _ => True) (fun _ _ _ => trivial))
            clear HSA HGA
            have HS := n0_
            clear n0_
            generalize hvl : u5 = vl at HS ⊢
            clear hvl
            refine start_ (n := 11) (S := fun w' => w'.cell? ⟨gt, 0, none⟩ = some vt) (ds := [8, 9]) #[false, false, false, false, false, false, false, false, false, false, false] (by kernel_rfl) rfl rfl ((HS.out.cell0)) (fun hHeld => ?_)
            generalize hwd_ : wA.drew = wD at HS hHeld ⊢
            clear hwd_
            refine pure_ (i := 1) (N := some 50) (v := ?_) (a' := ?_) #[false, true, false, false, false, false, false, false, false, false, false] rfl rfl (by kernel_rfl) (fun _ _ _ h => h) (Or.inl ⟨by rfl, ?_⟩) ?_ ?_
            rotate_left
            · intro w'
              go_simp
              with_reducible rfl
            rotate_left
            · simp only [Act.put, List.setIfInBounds_toArray, List.set_cons_zero, List.set_cons_succ, i64_w, i32_w]
              rfl
            refine pure_ (i := 5) (N := some 54) (v := ?_) (a' := ?_) #[false, true, false, false, false, true, false, false, false, false, false] rfl rfl (by kernel_rfl) (fun _ _ _ h => h) (Or.inl ⟨by rfl, ?_⟩) ?_ ?_
            rotate_left
            · intro w'
              go_simp
              with_reducible rfl
            rotate_left
            · simp only [Act.put, List.setIfInBounds_toArray, List.set_cons_zero, List.set_cons_succ, i64_w, i32_w]
              rfl
            refine pure_ (i := 6) (N := some 55) (v := ?_) (a' := ?_) #[false, true, false, false, false, true, true, false, false, false, false] rfl rfl (by kernel_rfl) (fun _ _ _ h => h) (Or.inl ⟨by rfl, ?_⟩) ?_ ?_
            rotate_left
            · intro w'
              go_simp
              with_reducible rfl
            rotate_left
            · simp only [Act.put, List.setIfInBounds_toArray, List.set_cons_zero, List.set_cons_succ, i64_w, i32_w]
              rfl
            refine take_ (i := 0) (N := some 49) (v := ?_) (a' := ?_) #[true, true, false, false, false, true, true, false, false, false, false] rfl rfl (by kernel_rfl) (fun _ _ _ h => h) (Or.inl ⟨by rfl, ?_⟩) hHeld ?_ ?_
            rotate_left
            · intro w' s0
              go_simp
              with_reducible rfl
            rotate_left
            · simp only [Act.put, List.setIfInBounds_toArray, List.set_cons_zero, List.set_cons_succ, i64_w, i32_w]
              rfl
            refine join_ (σ := Nat × Value × Nat) 3 #[true, true, true, true, true, true, true, true, false, false, false] (fun s_ => [(51, .int .i64 (L.length : Int)), (52, .slice (some ⟨s_.1, 0, none⟩) 1 1), (53, s_.2.1), (56, .slice (some ⟨s_.2.2, 0, none⟩) 1 1)]) (fun s_ w' => (w'.cell? ⟨gt, 0, none⟩ = some vt) ∧ Run w w' g gt vt s_.2.1 vl (mkVar L) (ids ++ [(L.length : Int)]) l (fun W' V' => (True) ∧ (TX w.heap.size s_.2.2 ⟨2, [], 0⟩ W' V'))) ?_ ?_
            rotate_left
            · intro hJ2_3_4_7
              refine join_ (σ := Nat × Value) 4 #[true, true, true, true, true, true, true, false, false, false, false] (fun s_ => [(51, .int .i64 (L.length : Int)), (52, .slice (some ⟨s_.1, 0, none⟩) 1 1), (53, s_.2)]) (fun s_ w' => (w'.cell? ⟨gt, 0, none⟩ = some vt) ∧ Run w w' g gt vt s_.2 vl (mkVar L) (ids ++ [(L.length : Int)]) l (fun W' V' => True)) ?_ ?_
              rotate_left
              · intro hJ2_3_4
                refine join_ (σ := Nat × Nat) 4 #[true, true, true, true, false, true, true, true, false, false, false] (fun s_ => [(51, .int .i64 (L.length : Int)), (52, .slice (some ⟨s_.1, 0, none⟩) 1 1), (56, .slice (some ⟨s_.2, 0, none⟩) 1 1)]) (fun s_ w' => (w'.cell? ⟨gt, 0, none⟩ = some vt) ∧ Run w w' g gt vt vt vl (mkVar L) ids l (fun W' V' => ((True) ∧ (Kd.C (Kd.int .i64) W' (some ⟨s_.1, 0, none⟩) 1 [(L.length : Int)])) ∧ (TX w.heap.size s_.2 ⟨2, [], 0⟩ W' V'))) ?_ ?_
                rotate_left
                · intro hJ2_3_7
                  refine join_ (σ := Nat) 5 #[true, true, true, true, false, true, true, false, false, false, false] (fun s_ => [(51, .int .i64 (L.length : Int)), (52, .slice (some ⟨s_, 0, none⟩) 1 1)]) (fun s_ w' => (w'.cell? ⟨gt, 0, none⟩ = some vt) ∧ Run w w' g gt vt vt vl (mkVar L) ids l (fun W' V' => (True) ∧ (Kd.C (Kd.int .i64) W' (some ⟨s_, 0, none⟩) 1 [(L.length : Int)]))) ?_ ?_
                  rotate_left
                  · intro hJ2_3
                    refine join_ (σ := Nat) 5 #[true, true, true, false, false, true, true, true, false, false, false] (fun s_ => [(51, .int .i64 (L.length : Int)), (56, .slice (some ⟨s_, 0, none⟩) 1 1)]) (fun s_ w' => (w'.cell? ⟨gt, 0, none⟩ = some vt) ∧ Run w w' g gt vt vt vl (mkVar L) ids l (fun W' V' => (True) ∧ (TX w.heap.size s_ ⟨2, [], 0⟩ W' V'))) ?_ ?_
                    rotate_left
                    · intro hJ2_7
                      refine join_ (σ := Unit) 6 #[true, true, true, false, false, true, true, false, false, false, false] (fun s_ => [(51, .int .i64 (L.length : Int))]) (fun s_ w' => (w'.cell? ⟨gt, 0, none⟩ = some vt) ∧ Run w w' g gt vt vt vl (mkVar L) ids l (fun W' V' => True)) ?_ ?_
                      rotate_left
                      · intro hJ2
                        refine join_ (σ := Nat) 6 #[true, true, false, false, false, true, true, true, false, false, false] (fun s_ => [(56, .slice (some ⟨s_, 0, none⟩) 1 1)]) (fun s_ w' => (w'.cell? ⟨gt, 0, none⟩ = some vt) ∧ Run w w' g gt vt vt vl L ids l (fun W' V' => (True) ∧ (TX w.heap.size s_ ⟨2, [], 0⟩ W' V'))) ?_ ?_
                        rotate_left
                        · intro hJ7
                          refine two_ (i := 2) (j := 7) (Ni := some 51) (Nj := some 56) #[true, true, true, false, false, true, true, false, false, false, false] #[true, true, false, false, false, true, true, true, false, false, false] rfl rfl rfl rfl (by kernel_rfl) (by decide) (by decide) (fun K hK => ?_) (fun K hK => ?_)
                          · skip
                            refine goes_ Try.func34 (by kernel_rfl) rfl #[.pointer (some ⟨g, 0, none⟩)] (by rfl) rfl rfl (by simp only [List.map_toArray, List.map_cons, List.map_nil]; rfl) ?_
                            with_reducible refine ((HS.out.var_ (by have := HBN.out; omega))).mono ?_
                            rintro e w9 ⟨rfl, hR⟩
                            refine ⟨_, rfl, ?_⟩
                            have n0_ := Aside0.mk hR
                            clear hR
                            clear HS
                            have HS := n0_
                            clear n0_
                            refine hK.out _ _ (HS.out.cell0) (fun hHeld => ?_)
                            clear hK K
                            refine norm_ (a' := ?_) ?_ ?_
                            rotate_left
                            · show Act.put _ (some 51) _ = _
                              simp only [Act.put, List.setIfInBounds_toArray, List.set_cons_zero, List.set_cons_succ, i64_w, i32_w]
                              rfl
                            exact norm_ (by first | (simp only [putAll, Act.put, List.setIfInBounds_toArray, List.set_cons_zero, List.set_cons_succ]; done) | (simp only [putAll, Act.put, List.setIfInBounds_toArray, List.set_cons_zero, List.set_cons_succ]; rfl)) (hJ2 () _ ⟨hHeld, HS.out.imp (fun _ _ h => h)⟩)
                          · skip
                            refine value_ (w1 := ?_) (v := ?_) (by rfl) rfl ?_ ?_
                            rotate_left 2
                            · go_simp
                              constructor
                              · rfl
                              · rfl
                            have n0_ := Aside0.mk (HS.out.thing 2 [] 0 (.slice none 0 0) (fun _ _ _ => Kd.R_nil _ _ _ _ _))
                            clear HS
                            have HS := n0_
                            clear n0_
                            refine hK.out _ _ (HS.out.cell0) (fun hHeld => ?_)
                            clear hK K
                            refine norm_ (a' := ?_) ?_ ?_
                            rotate_left
                            · show Act.put _ (some 56) _ = _
                              simp only [Act.put, List.setIfInBounds_toArray, List.set_cons_zero, List.set_cons_succ, i64_w, i32_w]
                              rfl
                            exact norm_ (by first | (simp only [putAll, Act.put, List.setIfInBounds_toArray, List.set_cons_zero, List.set_cons_succ]; done) | (simp only [putAll, Act.put, List.setIfInBounds_toArray, List.set_cons_zero, List.set_cons_succ]; rfl)) (hJ7 wD.heap.size _ ⟨hHeld, HS.out.imp (fun _ _ h => ⟨h.1, h.2⟩)⟩)
                        · skip
                          rintro b56 wN7 ⟨hS_, hR_⟩
                          clear HS
                          have HS : Aside0 (Run w wN7 g gt vt vt vl L ids l (fun W' V' => (True) ∧ (TX w.heap.size b56 ⟨2, [], 0⟩ W' V'))) := ⟨hR_⟩
                          clear hR_
                          have hHeld : wN7.cell? ⟨gt, 0, none⟩ = some vt := hS_
                          clear hS_
                          refine norm_ (a' := ?_) ?_ ?_
                          rotate_left
                          · simp only [putAll, Act.put, List.setIfInBounds_toArray, List.set_cons_zero, List.set_cons_succ]
                            rfl
                          refine one_ (i := 2) (N := some 51) #[true, true, true, false, false, true, true, true, false, false, false] rfl rfl (by kernel_rfl) (by decide) (fun K hK => ?_)
                          refine goes_ Try.func34 (by kernel_rfl) rfl #[.pointer (some ⟨g, 0, none⟩)] (by rfl) rfl rfl (by simp only [List.map_toArray, List.map_cons, List.map_nil]; rfl) ?_
                          with_reducible refine ((HS.out.var_ (by have := HBN.out; omega))).mono ?_
                          rintro e w9 ⟨rfl, hR⟩
                          refine ⟨_, rfl, ?_⟩
                          have n0_ := Aside0.mk hR
                          clear hR
                          clear HS
                          have HS := n0_
                          clear n0_
                          refine hK.out _ _ (HS.out.cell0) (fun hHeld => ?_)
                          clear hK K
                          refine norm_ (a' := ?_) ?_ ?_
                          rotate_left
                          · show Act.put _ (some 51) _ = _
                            simp only [Act.put, List.setIfInBounds_toArray, List.set_cons_zero, List.set_cons_succ, i64_w, i32_w]
                            rfl
                          exact norm_ (by first | (simp only [putAll, Act.put, List.setIfInBounds_toArray, List.set_cons_zero, List.set_cons_succ]; done) | (simp only [putAll, Act.put, List.setIfInBounds_toArray, List.set_cons_zero, List.set_cons_succ]; rfl)) (hJ2_7 b56 _ ⟨hHeld, HS.out.imp (fun _ _ h => ⟨h.1, h.2⟩)⟩)
                      · skip
                        rintro _ wN2 ⟨hS_, hR_⟩
                        clear HS
                        have HS : Aside0 (Run w wN2 g gt vt vt vl (mkVar L) ids l (fun W' V' => True)) := ⟨hR_⟩
                        clear hR_
                        have hHeld : wN2.cell? ⟨gt, 0, none⟩ = some vt := hS_
                        clear hS_
                        refine norm_ (a' := ?_) ?_ ?_
                        rotate_left
                        · simp only [putAll, Act.put, List.setIfInBounds_toArray, List.set_cons_zero, List.set_cons_succ]
                          rfl
                        refine two_ (i := 3) (j := 7) (Ni := some 52) (Nj := some 56) #[true, true, true, true, false, true, true, false, false, false, false] #[true, true, true, false, false, true, true, true, false, false, false] rfl rfl rfl rfl (by kernel_rfl) (by decide) (by decide) (fun K hK => ?_) (fun K hK => ?_)
                        · skip
                          refine value_ (w1 := ?_) (v := ?_) (by rfl) rfl ?_ ?_
                          rotate_left 2
                          · go_simp
                            constructor
                            · rfl
                            · rfl
                          have n0_ := Aside0.mk (HS.out.one (L.length : Int))
                          clear HS
                          have HS := n0_
                          clear n0_
                          refine hK.out _ _ (HS.out.cell0) (fun hHeld => ?_)
                          clear hK K
                          refine norm_ (a' := ?_) ?_ ?_
                          rotate_left
                          · show Act.put _ (some 52) _ = _
                            simp only [Act.put, List.setIfInBounds_toArray, List.set_cons_zero, List.set_cons_succ, i64_w, i32_w]
                            rfl
                          exact norm_ (by first | (simp only [putAll, Act.put, List.setIfInBounds_toArray, List.set_cons_zero, List.set_cons_succ]; done) | (simp only [putAll, Act.put, List.setIfInBounds_toArray, List.set_cons_zero, List.set_cons_succ]; rfl)) (hJ2_3 wN2.heap.size _ ⟨hHeld, HS.out.imp (fun _ _ h => ⟨h.1, h.2⟩)⟩)
                        · skip
                          refine value_ (w1 := ?_) (v := ?_) (by rfl) rfl ?_ ?_
                          rotate_left 2
                          · go_simp
                            constructor
                            · rfl
                            · rfl
                          have n0_ := Aside0.mk (HS.out.thing 2 [] 0 (.slice none 0 0) (fun _ _ _ => Kd.R_nil _ _ _ _ _))
                          clear HS
                          have HS := n0_
                          clear n0_
                          refine hK.out _ _ (HS.out.cell0) (fun hHeld => ?_)
                          clear hK K
                          refine norm_ (a' := ?_) ?_ ?_
                          rotate_left
                          · show Act.put _ (some 56) _ = _
                            simp only [Act.put, List.setIfInBounds_toArray, List.set_cons_zero, List.set_cons_succ, i64_w, i32_w]
                            rfl
                          exact norm_ (by first | (simp only [putAll, Act.put, List.setIfInBounds_toArray, List.set_cons_zero, List.set_cons_succ]; done) | (simp only [putAll, Act.put, List.setIfInBounds_toArray, List.set_cons_zero, List.set_cons_succ]; rfl)) (hJ2_7 wN2.heap.size _ ⟨hHeld, HS.out.imp (fun _ _ h => ⟨h.1, h.2⟩)⟩)
                    · skip
                      rintro b56 wN2_7 ⟨hS_, hR_⟩
                      clear HS
                      have HS : Aside0 (Run w wN2_7 g gt vt vt vl (mkVar L) ids l (fun W' V' => (True) ∧ (TX w.heap.size b56 ⟨2, [], 0⟩ W' V'))) := ⟨hR_⟩
                      clear hR_
                      have hHeld : wN2_7.cell? ⟨gt, 0, none⟩ = some vt := hS_
                      clear hS_
                      refine norm_ (a' := ?_) ?_ ?_
                      rotate_left
                      · simp only [putAll, Act.put, List.setIfInBounds_toArray, List.set_cons_zero, List.set_cons_succ]
                        rfl
                      refine one_ (i := 3) (N := some 52) #[true, true, true, true, false, true, true, true, false, false, false] rfl rfl (by kernel_rfl) (by decide) (fun K hK => ?_)
                      refine value_ (w1 := ?_) (v := ?_) (by rfl) rfl ?_ ?_
                      rotate_left 2
                      · go_simp
                        constructor
                        · rfl
                        · rfl
                      have n0_ := Aside0.mk (HS.out.one (L.length : Int))
                      clear HS
                      have HS := n0_
                      clear n0_
                      refine hK.out _ _ (HS.out.cell0) (fun hHeld => ?_)
                      clear hK K
                      refine norm_ (a' := ?_) ?_ ?_
                      rotate_left
                      · show Act.put _ (some 52) _ = _
                        simp only [Act.put, List.setIfInBounds_toArray, List.set_cons_zero, List.set_cons_succ, i64_w, i32_w]
                        rfl
                      exact norm_ (by first | (simp only [putAll, Act.put, List.setIfInBounds_toArray, List.set_cons_zero, List.set_cons_succ]; done) | (simp only [putAll, Act.put, List.setIfInBounds_toArray, List.set_cons_zero, List.set_cons_succ]; rfl)) (hJ2_3_7 (wN2_7.heap.size, b56) _ ⟨hHeld, HS.out.imp (fun _ _ h => ⟨⟨h.1.1, h.2⟩, h.1.2⟩)⟩)
                  · skip
                    rintro b52 wN2_3 ⟨hS_, hR_⟩
                    clear HS
                    have HS : Aside0 (Run w wN2_3 g gt vt vt vl (mkVar L) ids l (fun W' V' => (True) ∧ (Kd.C (Kd.int .i64) W' (some ⟨b52, 0, none⟩) 1 [(L.length : Int)]))) := ⟨hR_⟩
                    clear hR_
                    have hHeld : wN2_3.cell? ⟨gt, 0, none⟩ = some vt := hS_
                    clear hS_
                    refine norm_ (a' := ?_) ?_ ?_
                    rotate_left
                    · simp only [putAll, Act.put, List.setIfInBounds_toArray, List.set_cons_zero, List.set_cons_succ]
                      rfl
                    refine two_ (i := 4) (j := 7) (Ni := some 53) (Nj := some 56) #[true, true, true, true, true, true, true, false, false, false, false] #[true, true, true, true, false, true, true, true, false, false, false] rfl rfl rfl rfl (by kernel_rfl) (by decide) (by decide) (fun K hK => ?_) (fun K hK => ?_)
                    · skip
                      obtain ⟨U, V, hS⟩ := HS.out
                      refine Kd.R_append_rows_step (Kd.int .i64) (w0 := w) w.heap.size (by rfl) (.tmp 49) (.tmp 52) 42 3 (.int .i64 0) 8 rfl Try.underlying42 info3 rfl (by decide) (by decide) vt ids [(L.length : Int)] _ 1 1 (fun k => k ≠ g ∧ k ≠ gt ∧ ¬ U k ∧ ¬ V k) (fun _ => False) rfl rfl hS.things (hS.keep.now.2) (fun _ _ h => h) (fun _ h => h.elim) (fun k hk => ⟨by have := hS.book.lt; omega, by have := hS.gtlt; omega, (hS.fresh k hk).2.2⟩) hS.below hS.below.size (by have := HBN.out; omega) ?_
                      intro v53 wX hR hB hgr hat
                      have n0_ := Aside0.mk (show Run w wX g gt vt v53 vl _ _ l _ from ⟨U, V, hS.pushed hR hB hgr hat⟩)
                      clear hR hB hgr hat hS
                      clear HS
                      have HS := n0_
                      clear n0_
                      refine hK.out _ _ (HS.out.cell0) (fun hHeld => ?_)
                      clear hK K
                      refine norm_ (a' := ?_) ?_ ?_
                      rotate_left
                      · show Act.put _ (some 53) _ = _
                        simp only [Act.put, List.setIfInBounds_toArray, List.set_cons_zero, List.set_cons_succ, i64_w, i32_w]
                        rfl
                      exact norm_ (by first | (simp only [putAll, Act.put, List.setIfInBounds_toArray, List.set_cons_zero, List.set_cons_succ]; done) | (simp only [putAll, Act.put, List.setIfInBounds_toArray, List.set_cons_zero, List.set_cons_succ]; rfl)) (hJ2_3_4 (b52, v53) _ ⟨hHeld, HS.out.imp (fun _ _ h => h.1)⟩)
                    · skip
                      refine value_ (w1 := ?_) (v := ?_) (by rfl) rfl ?_ ?_
                      rotate_left 2
                      · go_simp
                        constructor
                        · rfl
                        · rfl
                      have n0_ := Aside0.mk (HS.out.thing 2 [] 0 (.slice none 0 0) (fun _ _ _ => Kd.R_nil _ _ _ _ _))
                      clear HS
                      have HS := n0_
                      clear n0_
                      refine hK.out _ _ (HS.out.cell0) (fun hHeld => ?_)
                      clear hK K
                      refine norm_ (a' := ?_) ?_ ?_
                      rotate_left
                      · show Act.put _ (some 56) _ = _
                        simp only [Act.put, List.setIfInBounds_toArray, List.set_cons_zero, List.set_cons_succ, i64_w, i32_w]
                        rfl
                      exact norm_ (by first | (simp only [putAll, Act.put, List.setIfInBounds_toArray, List.set_cons_zero, List.set_cons_succ]; done) | (simp only [putAll, Act.put, List.setIfInBounds_toArray, List.set_cons_zero, List.set_cons_succ]; rfl)) (hJ2_3_7 (b52, wN2_3.heap.size) _ ⟨hHeld, HS.out.imp (fun _ _ h => ⟨⟨h.1.1, h.1.2⟩, h.2⟩)⟩)
                · skip
                  rintro ⟨b52, b56⟩ wN2_3_7 ⟨hS_, hR_⟩
                  clear HS
                  have HS : Aside0 (Run w wN2_3_7 g gt vt vt vl (mkVar L) ids l (fun W' V' => ((True) ∧ (Kd.C (Kd.int .i64) W' (some ⟨b52, 0, none⟩) 1 [(L.length : Int)])) ∧ (TX w.heap.size b56 ⟨2, [], 0⟩ W' V'))) := ⟨hR_⟩
                  clear hR_
                  have hHeld : wN2_3_7.cell? ⟨gt, 0, none⟩ = some vt := hS_
                  clear hS_
                  refine norm_ (a' := ?_) ?_ ?_
                  rotate_left
                  · simp only [putAll, Act.put, List.setIfInBounds_toArray, List.set_cons_zero, List.set_cons_succ]
                    rfl
                  refine one_ (i := 4) (N := some 53) #[true, true, true, true, true, true, true, true, false, false, false] rfl rfl (by kernel_rfl) (by decide) (fun K hK => ?_)
                  obtain ⟨U, V, hS⟩ := HS.out
                  refine Kd.R_append_rows_step (Kd.int .i64) (w0 := w) w.heap.size (by rfl) (.tmp 49) (.tmp 52) 42 3 (.int .i64 0) 8 rfl Try.underlying42 info3 rfl (by decide) (by decide) vt ids [(L.length : Int)] _ 1 1 (fun k => k ≠ g ∧ k ≠ gt ∧ ¬ U k ∧ ¬ V k) (fun _ => False) rfl rfl hS.things (hS.keep.now.1.2) (fun _ _ h => h) (fun _ h => h.elim) (fun k hk => ⟨by have := hS.book.lt; omega, by have := hS.gtlt; omega, (hS.fresh k hk).2.2⟩) hS.below hS.below.size (by have := HBN.out; omega) ?_
                  intro v53 wX hR hB hgr hat
                  have n0_ := Aside0.mk (show Run w wX g gt vt v53 vl _ _ l _ from ⟨U, V, hS.pushed hR hB hgr hat⟩)
                  clear hR hB hgr hat hS
                  clear HS
                  have HS := n0_
                  clear n0_
                  refine hK.out _ _ (HS.out.cell0) (fun hHeld => ?_)
                  clear hK K
                  refine norm_ (a' := ?_) ?_ ?_
                  rotate_left
                  · show Act.put _ (some 53) _ = _
                    simp only [Act.put, List.setIfInBounds_toArray, List.set_cons_zero, List.set_cons_succ, i64_w, i32_w]
                    rfl
                  exact norm_ (by first | (simp only [putAll, Act.put, List.setIfInBounds_toArray, List.set_cons_zero, List.set_cons_succ]; done) | (simp only [putAll, Act.put, List.setIfInBounds_toArray, List.set_cons_zero, List.set_cons_succ]; rfl)) (hJ2_3_4_7 (b52, v53, b56) _ ⟨hHeld, HS.out.imp (fun _ _ h => ⟨h.1.1, h.2⟩)⟩)
              · skip
                rintro ⟨b52, v53⟩ wN2_3_4 ⟨hS_, hR_⟩
                clear HS
                have HS : Aside0 (Run w wN2_3_4 g gt vt v53 vl (mkVar L) (ids ++ [(L.length : Int)]) l (fun W' V' => True)) := ⟨hR_⟩
                clear hR_
                have hHeld : wN2_3_4.cell? ⟨gt, 0, none⟩ = some vt := hS_
                clear hS_
                refine norm_ (a' := ?_) ?_ ?_
                rotate_left
                · simp only [putAll, Act.put, List.setIfInBounds_toArray, List.set_cons_zero, List.set_cons_succ]
                  rfl
                refine one_ (i := 7) (N := some 56) #[true, true, true, true, true, true, true, true, false, false, false] rfl rfl (by kernel_rfl) (by decide) (fun K hK => ?_)
                refine value_ (w1 := ?_) (v := ?_) (by rfl) rfl ?_ ?_
                rotate_left 2
                · go_simp
                  constructor
                  · rfl
                  · rfl
                have n0_ := Aside0.mk (HS.out.thing 2 [] 0 (.slice none 0 0) (fun _ _ _ => Kd.R_nil _ _ _ _ _))
                clear HS
                have HS := n0_
                clear n0_
                refine hK.out _ _ (HS.out.cell0) (fun hHeld => ?_)
                clear hK K
                refine norm_ (a' := ?_) ?_ ?_
                rotate_left
                · show Act.put _ (some 56) _ = _
                  simp only [Act.put, List.setIfInBounds_toArray, List.set_cons_zero, List.set_cons_succ, i64_w, i32_w]
                  rfl
                exact norm_ (by first | (simp only [putAll, Act.put, List.setIfInBounds_toArray, List.set_cons_zero, List.set_cons_succ]; done) | (simp only [putAll, Act.put, List.setIfInBounds_toArray, List.set_cons_zero, List.set_cons_succ]; rfl)) (hJ2_3_4_7 (b52, v53, wN2_3_4.heap.size) _ ⟨hHeld, HS.out.imp (fun _ _ h => ⟨h.1, h.2⟩)⟩)
            rintro ⟨b52, v53, b56⟩ wN2_3_4_7 ⟨hS_, hR_⟩
            clear HS
            have HS : Aside0 (Run w wN2_3_4_7 g gt vt v53 vl (mkVar L) (ids ++ [(L.length : Int)]) l (fun W' V' => (True) ∧ (TX w.heap.size b56 ⟨2, [], 0⟩ W' V'))) := ⟨hR_⟩
            clear hR_
            have hHeld : wN2_3_4_7.cell? ⟨gt, 0, none⟩ = some vt := hS_
            clear hS_
            refine norm_ (a' := ?_) ?_ ?_
            rotate_left
            · simp only [putAll, Act.put, List.setIfInBounds_toArray, List.set_cons_zero, List.set_cons_succ]
              rfl
            refine last_ (i := 8) (N := some 57) #[true, true, true, true, true, true, true, true, true, false, false] rfl rfl (by kernel_rfl) (by decide) (fun K hK => ?_)
            obtain ⟨U, V, hS⟩ := HS.out
            refine Kd.R_append_rows_step k51 (w0 := w) w.heap.size (by rfl) (.tmp 54) (.tmp 56) 52 51 (.agg #[.int .i64 0, .slice none 0 0, .int .i64 0]) 40 rfl Try.underlying52 info51 rfl (by decide) (by decide) vl l [⟨2, [], 0⟩] _ 1 1 (fun k => U k ∨ V k ∨ _ ≤ k) V rfl rfl (Kd.R_mono hS.row (fun k hk => .inl hk)) (TX.reads (hS.keep.now.2)) (fun _ _ h => h) (fun k hk => ⟨.inr (.inl hk), fun he => (hS.hU k (hS.row.1 k he.symm)).2.2.2 hk⟩) (fun k hk => .inr (.inr hk)) hS.below hS.below.size (by have := HBN.out; omega) ?_
            intro v57 wX hR hB hgr hat
            have n0_ := Aside0.mk (show Run w wX g gt vt _ v57 _ _ _ _ from ⟨_, _, hS.rowed hR hB hgr⟩)
            clear hR hB hgr hat hS
            clear HS
            have HS := n0_
            clear n0_
            obtain ⟨A53, c53, e53, -, -⟩ := HS.out.thingsC
            subst e53
            generalize hm1_ : List.length (_ ++ [_]) = m53 at HS ⊢
            clear hm1_
            have hcg := HS.out.cell0
            have hz1 := blk_frozen HS.out.cell 0
            refine hK.out _ _ ?_
            clear hK K
            refine norm_ (a' := ?_) ?_ ?_
            rotate_left
            · show Act.put _ (some 57) _ = _
              simp only [Act.put, List.setIfInBounds_toArray, List.set_cons_zero, List.set_cons_succ, i64_w, i32_w]
              rfl
            refine last_ (i := 9) (N := none) #[true, true, true, true, true, true, true, true, true, true, false] rfl rfl (by kernel_rfl) (by decide) (fun K hK => ?_)
            refine skip_ (w1 := ?_) (by rfl) rfl ?_ ?_
            rotate_left
            · go_simp
              rfl
            refine hK.out _ _ ?_
            clear hK K
            refine pure_ (i := 10) (N := some 5) (v := ?_) (a' := ?_) #[true, true, true, true, true, true, true, true, true, true, true] rfl rfl (by kernel_rfl) (fun _ _ _ h => h) (Or.inl ⟨by rfl, ?_⟩) ?_ ?_
            rotate_left
            · intro w'
              go_simp
              with_reducible rfl
            rotate_left
            · simp only [Act.put, List.setIfInBounds_toArray, List.set_cons_zero, List.set_cons_succ, i64_w, i32_w]
              rfl
            refine done_ (by kernel_rfl) ?_
            have HS2 := Aside0.mk HS.out.stored
            generalize hwX : World.setCell _ _ _ = wX at HS2 ⊢
            clear hwX hcg hz1 HS
            have HLn2 := Aside0.mk HS2.out.len_
            rw [show (((mkVar L).length : Nat) : Int) = nL + 1 by rw [HNL.out]; simp [mkVar]] at HLn2
            have r0 : (nL + 1 != nL + 1) = false := by simp
            go_wp2_with (first | (go_at_call 40; refine HLn2.out.mono ?_; rintro e w9 ⟨rfl, rfl⟩))
            go_meet
            case rel => exact ⟨_, _, _, _, _, rfl, HS2, HDn, ⟨lens_more HLen.out (by simp [mkVar]) (by rw [HNL.out]; simp [mkVar]) (by simp)⟩⟩
          · have k0 : (ki == 0) = false := by simp [hk0]
            by_cases hk1 : ki = 1
            · as_aux_lemma =>
              have k1 : (ki == 1) = true := by simp [hk1]
              obtain ⟨r1, hr1⟩ : ∃ r, r = idAt ids ids.length xi := ⟨_, rfl⟩
              obtain ⟨r2, hr2⟩ : ∃ r, r = idAt ids ids.length yi := ⟨_, rfl⟩
              obtain ⟨LT, hLT⟩ : ∃ q, q = two L 2 r1 r2 := ⟨_, rfl⟩
              have HDn := Aside0.mk (HD.out.and_ xi yi (two_ge HD.out.inv (.inl rfl) (idAt_ge HD.out _ (Nat.le_of_eq rfl) xi) (idAt_ge HD.out _ (Nat.le_of_eq rfl) yi)))
              rw [← HD.out.len, ← hr1, ← hr2, ← hLT] at HDn
              have HR1 := Aside0.mk hr1.symm
              have HR2 := Aside0.mk hr2.symm
              have HLT := Aside0.mk hLT.symm
              have HInv := Aside0.mk HD.out.inv
              have he39 := fun (args : Array Value) (W : World) => enters_ (P := Try.prog) Try.func39 (by kernel_rfl) rfl args W
              have HE39 := Aside0.mk he39
              clear hk0 hk1 hr1 hr2 hLT HLn he39
              go_upto_region 23 with (fail)
              clear k0 k1
              have HS := Aside0.mk HSA.out.drew
              clear HSA HGA
              generalize hvl : u5 = vl at HS ⊢
              clear hvl
              refine start_ (n := 24) (S := fun w' => w'.cell? ⟨gt, 0, none⟩ = some vt ∧ w'.cell? ⟨ga, 1, none⟩ = some (.int .i64 xi) ∧ w'.cell? ⟨ga, 2, none⟩ = some (.int .i64 yi)) (ds := [21, 22]) #[false, false, false, false, false, false, false, false, false, false, false, false, false, false, false, false, false, false, false, false, false, false, false, false] (by kernel_rfl) rfl rfl ⟨HS.out.cell0, (HS.out.now (fun _ h => (blk_cell (h) 1).trans rfl)), (HS.out.now (fun _ h => (blk_cell (h) 2).trans rfl))⟩ (fun hHeld => ?_)
              generalize hwd_ : wA.drew = wD at HS hHeld ⊢
              clear hwd_
              refine pure_ (i := 1) (N := some 65) (v := ?_) (a' := ?_) #[false, true, false, false, false, false, false, false, false, false, false, false, false, false, false, false, false, false, false, false, false, false, false, false] rfl rfl (by kernel_rfl) (fun _ _ _ h => h) (Or.inl ⟨by rfl, ?_⟩) ?_ ?_
              rotate_left
              · intro w'
                go_simp
                with_reducible rfl
              rotate_left
              · simp only [Act.put, List.setIfInBounds_toArray, List.set_cons_zero, List.set_cons_succ, i64_w, i32_w]
                rfl
              refine pure_ (i := 2) (N := some 66) (v := ?_) (a' := ?_) #[false, true, true, false, false, false, false, false, false, false, false, false, false, false, false, false, false, false, false, false, false, false, false, false] rfl rfl (by kernel_rfl) (fun _ _ _ h => h) (Or.inl ⟨by rfl, ?_⟩) ?_ ?_
              rotate_left
              · intro w'
                go_simp
                with_reducible rfl
              rotate_left
              · simp only [Act.put, List.setIfInBounds_toArray, List.set_cons_zero, List.set_cons_succ, i64_w, i32_w]
                rfl
              refine pure_ (i := 3) (N := some 67) (v := ?_) (a' := ?_) #[false, true, true, true, false, false, false, false, false, false, false, false, false, false, false, false, false, false, false, false, false, false, false, false] rfl rfl (by kernel_rfl) (fun _ _ _ h => h) (Or.inl ⟨by rfl, ?_⟩) ?_ ?_
              rotate_left
              · intro w'
                go_simp
                with_reducible rfl
              rotate_left
              · simp only [Act.put, List.setIfInBounds_toArray, List.set_cons_zero, List.set_cons_succ, i64_w, i32_w]
                rfl
              refine pure_ (i := 6) (N := some 70) (v := ?_) (a' := ?_) #[false, true, true, true, false, false, true, false, false, false, false, false, false, false, false, false, false, false, false, false, false, false, false, false] rfl rfl (by kernel_rfl) (fun _ _ _ h => h) (Or.inl ⟨by rfl, ?_⟩) ?_ ?_
              rotate_left
              · intro w'
                go_simp
                with_reducible rfl
              rotate_left
              · simp only [Act.put, List.setIfInBounds_toArray, List.set_cons_zero, List.set_cons_succ, i64_w, i32_w]
                rfl
              refine pure_ (i := 7) (N := some 71) (v := ?_) (a' := ?_) #[false, true, true, true, false, false, true, true, false, false, false, false, false, false, false, false, false, false, false, false, false, false, false, false] rfl rfl (by kernel_rfl) (fun _ _ _ h => h) (Or.inl ⟨by rfl, ?_⟩) ?_ ?_
              rotate_left
              · intro w'
                go_simp
                with_reducible rfl
              rotate_left
              · simp only [Act.put, List.setIfInBounds_toArray, List.set_cons_zero, List.set_cons_succ, i64_w, i32_w]
                rfl
              refine pure_ (i := 13) (N := some 77) (v := ?_) (a' := ?_) #[false, true, true, true, false, false, true, true, false, false, false, false, false, true, false, false, false, false, false, false, false, false, false, false] rfl rfl (by kernel_rfl) (fun _ _ _ h => h) (Or.inl ⟨by rfl, ?_⟩) ?_ ?_
              rotate_left
              · intro w'
                go_simp
                with_reducible rfl
              rotate_left
              · simp only [Act.put, List.setIfInBounds_toArray, List.set_cons_zero, List.set_cons_succ, i64_w, i32_w]
                rfl
              refine pure_ (i := 14) (N := some 78) (v := ?_) (a' := ?_) #[false, true, true, true, false, false, true, true, false, false, false, false, false, true, true, false, false, false, false, false, false, false, false, false] rfl rfl (by kernel_rfl) (fun _ _ _ h => h) (Or.inl ⟨by rfl, ?_⟩) ?_ ?_
              rotate_left
              · intro w'
                go_simp
                with_reducible rfl
              rotate_left
              · simp only [Act.put, List.setIfInBounds_toArray, List.set_cons_zero, List.set_cons_succ, i64_w, i32_w]
                rfl
              refine pure_ (i := 16) (N := some 80) (v := ?_) (a' := ?_) #[false, true, true, true, false, false, true, true, false, false, false, false, false, true, true, false, true, false, false, false, false, false, false, false] rfl rfl (by kernel_rfl) (fun _ _ _ h => h) (Or.inl ⟨by rfl, ?_⟩) ?_ ?_
              rotate_left
              · intro w'
                go_simp
                with_reducible rfl
              rotate_left
              · simp only [Act.put, List.setIfInBounds_toArray, List.set_cons_zero, List.set_cons_succ, i64_w, i32_w]
                rfl
              refine take_ (i := 0) (N := some 64) (v := ?_) (a' := ?_) #[true, true, true, true, false, false, true, true, false, false, false, false, false, true, true, false, true, false, false, false, false, false, false, false] rfl rfl (by kernel_rfl) (fun _ _ _ h => h) (Or.inl ⟨by rfl, ?_⟩) hHeld ?_ ?_
              rotate_left
              · rintro w' ⟨s0, s1, s2⟩
                go_simp
                with_reducible rfl
              rotate_left
              · simp only [Act.put, List.setIfInBounds_toArray, List.set_cons_zero, List.set_cons_succ, i64_w, i32_w]
                rfl
              refine take_ (i := 4) (N := some 68) (v := ?_) (a' := ?_) #[true, true, true, true, true, false, true, true, false, false, false, false, false, true, true, false, true, false, false, false, false, false, false, false] rfl rfl (by kernel_rfl) (fun _ _ _ h => h) (Or.inl ⟨by rfl, ?_⟩) hHeld ?_ ?_
              rotate_left
              · rintro w' ⟨s0, s1, s2⟩
                go_simp
                with_reducible rfl
              rotate_left
              · simp only [Act.put, List.setIfInBounds_toArray, List.set_cons_zero, List.set_cons_succ, i64_w, i32_w]
                rfl
              refine take_ (i := 8) (N := some 72) (v := ?_) (a' := ?_) #[true, true, true, true, true, false, true, true, true, false, false, false, false, true, true, false, true, false, false, false, false, false, false, false] rfl rfl (by kernel_rfl) (fun _ _ _ h => h) (Or.inl ⟨by rfl, ?_⟩) hHeld ?_ ?_
              rotate_left
              · rintro w' ⟨s0, s1, s2⟩
                go_simp
                with_reducible rfl
              rotate_left
              · simp only [Act.put, List.setIfInBounds_toArray, List.set_cons_zero, List.set_cons_succ, i64_w, i32_w]
                rfl
              refine take_ (i := 15) (N := some 79) (v := ?_) (a' := ?_) #[true, true, true, true, true, false, true, true, true, false, false, false, false, true, true, true, true, false, false, false, false, false, false, false] rfl rfl (by kernel_rfl) (fun _ _ _ h => h) (Or.inl ⟨by rfl, ?_⟩) hHeld ?_ ?_
              rotate_left
              · rintro w' ⟨s0, s1, s2⟩
                go_simp
                with_reducible rfl
              rotate_left
              · simp only [Act.put, List.setIfInBounds_toArray, List.set_cons_zero, List.set_cons_succ, i64_w, i32_w]
                rfl
              refine take_ (i := 17) (N := some 81) (v := ?_) (a' := ?_) #[true, true, true, true, true, false, true, true, true, false, false, false, false, true, true, true, true, true, false, false, false, false, false, false] rfl rfl (by kernel_rfl) (fun _ _ _ h => h) (Or.inl ⟨by rfl, ?_⟩) hHeld ?_ ?_
              rotate_left
              · rintro w' ⟨s0, s1, s2⟩
                go_simp
                with_reducible rfl
              rotate_left
              · simp only [Act.put, List.setIfInBounds_toArray, List.set_cons_zero, List.set_cons_succ, i64_w, i32_w]
                rfl
              refine join_ (σ := Nat × Value × Nat × Nat) 3 #[true, true, true, true, true, true, true, true, true, true, true, true, true, true, true, true, true, true, true, true, true, false, false, false] (fun s_ => [(69, .int .i64 r1), (73, .int .i64 r2), (74, .int .i64 LT.2), (75, .slice (some ⟨s_.1, 0, none⟩) 1 1), (76, s_.2.1), (82, .slice (some ⟨s_.2.2.1, 0, none⟩) 2 2), (84, .slice (some ⟨s_.2.2.2, 0, none⟩) 1 1), (83, .agg #[.int .i64 3, .slice (some ⟨s_.2.2.1, 0, none⟩) 2 2, .int .i64 0])]) (fun s_ w' => (w'.cell? ⟨gt, 0, none⟩ = some vt ∧ w'.cell? ⟨ga, 1, none⟩ = some (.int .i64 xi) ∧ w'.cell? ⟨ga, 2, none⟩ = some (.int .i64 yi)) ∧ Run w w' g gt vt s_.2.1 vl LT.1 (ids ++ [LT.2]) l (fun W' V' => (W'.heap[ga]? = some (.cells #[.int .i64 ki, .int .i64 xi, .int .i64 yi, .slice A3 m c3', .bool bi] 45 (0, 0))) ∧ (TX w.heap.size s_.2.2.2 ⟨3, [xi, yi], 0⟩ W' V'))) ?_ ?_
              rotate_left
              · intro hJ5_9_10_11_12_18_20
                refine join_ (σ := Nat × Value × Nat) 4 #[true, true, true, true, true, true, true, true, true, true, true, true, true, true, true, true, true, true, true, true, false, false, false, false] (fun s_ => [(69, .int .i64 r1), (73, .int .i64 r2), (74, .int .i64 LT.2), (75, .slice (some ⟨s_.1, 0, none⟩) 1 1), (76, s_.2.1), (82, .slice (some ⟨s_.2.2, 0, none⟩) 2 2), (83, .agg #[.int .i64 3, .slice (some ⟨s_.2.2, 0, none⟩) 2 2, .int .i64 0])]) (fun s_ w' => (w'.cell? ⟨gt, 0, none⟩ = some vt ∧ w'.cell? ⟨ga, 1, none⟩ = some (.int .i64 xi) ∧ w'.cell? ⟨ga, 2, none⟩ = some (.int .i64 yi)) ∧ Run w w' g gt vt s_.2.1 vl LT.1 (ids ++ [LT.2]) l (fun W' V' => (W'.heap[ga]? = some (.cells #[.int .i64 ki, .int .i64 xi, .int .i64 yi, .slice A3 m c3', .bool bi] 45 (0, 0))) ∧ ((Kd.int .i64).R 3 W' w.heap.size V' (.slice (some ⟨s_.2.2, 0, none⟩) 2 2) [xi, yi]))) ?_ ?_
                rotate_left
                · intro hJ5_9_10_11_12_18
                  refine join_ (σ := Nat × Nat × Nat) 4 #[true, true, true, true, true, true, true, true, true, true, true, true, false, true, true, true, true, true, true, true, true, false, false, false] (fun s_ => [(69, .int .i64 r1), (73, .int .i64 r2), (74, .int .i64 LT.2), (75, .slice (some ⟨s_.1, 0, none⟩) 1 1), (82, .slice (some ⟨s_.2.1, 0, none⟩) 2 2), (84, .slice (some ⟨s_.2.2, 0, none⟩) 1 1), (83, .agg #[.int .i64 3, .slice (some ⟨s_.2.1, 0, none⟩) 2 2, .int .i64 0])]) (fun s_ w' => (w'.cell? ⟨gt, 0, none⟩ = some vt ∧ w'.cell? ⟨ga, 1, none⟩ = some (.int .i64 xi) ∧ w'.cell? ⟨ga, 2, none⟩ = some (.int .i64 yi)) ∧ Run w w' g gt vt vt vl LT.1 ids l (fun W' V' => ((W'.heap[ga]? = some (.cells #[.int .i64 ki, .int .i64 xi, .int .i64 yi, .slice A3 m c3', .bool bi] 45 (0, 0))) ∧ (Kd.C (Kd.int .i64) W' (some ⟨s_.1, 0, none⟩) 1 [LT.2])) ∧ (TX w.heap.size s_.2.2 ⟨3, [xi, yi], 0⟩ W' V'))) ?_ ?_
                  rotate_left
                  · intro hJ5_9_10_11_18_20
                    refine join_ (σ := Nat × Value) 6 #[true, true, true, true, true, true, true, true, true, true, true, true, true, true, true, true, true, true, false, false, false, false, false, false] (fun s_ => [(69, .int .i64 r1), (73, .int .i64 r2), (74, .int .i64 LT.2), (75, .slice (some ⟨s_.1, 0, none⟩) 1 1), (76, s_.2)]) (fun s_ w' => (w'.cell? ⟨gt, 0, none⟩ = some vt ∧ w'.cell? ⟨ga, 1, none⟩ = some (.int .i64 xi) ∧ w'.cell? ⟨ga, 2, none⟩ = some (.int .i64 yi)) ∧ Run w w' g gt vt s_.2 vl LT.1 (ids ++ [LT.2]) l (fun W' V' => W'.heap[ga]? = some (.cells #[.int .i64 ki, .int .i64 xi, .int .i64 yi, .slice A3 m c3', .bool bi] 45 (0, 0)))) ?_ ?_
                    rotate_left
                    · intro hJ5_9_10_11_12
                      refine join_ (σ := Nat × Nat) 5 #[true, true, true, true, true, true, true, true, true, true, true, true, false, true, true, true, true, true, true, true, false, false, false, false] (fun s_ => [(69, .int .i64 r1), (73, .int .i64 r2), (74, .int .i64 LT.2), (75, .slice (some ⟨s_.1, 0, none⟩) 1 1), (82, .slice (some ⟨s_.2, 0, none⟩) 2 2), (83, .agg #[.int .i64 3, .slice (some ⟨s_.2, 0, none⟩) 2 2, .int .i64 0])]) (fun s_ w' => (w'.cell? ⟨gt, 0, none⟩ = some vt ∧ w'.cell? ⟨ga, 1, none⟩ = some (.int .i64 xi) ∧ w'.cell? ⟨ga, 2, none⟩ = some (.int .i64 yi)) ∧ Run w w' g gt vt vt vl LT.1 ids l (fun W' V' => ((W'.heap[ga]? = some (.cells #[.int .i64 ki, .int .i64 xi, .int .i64 yi, .slice A3 m c3', .bool bi] 45 (0, 0))) ∧ (Kd.C (Kd.int .i64) W' (some ⟨s_.1, 0, none⟩) 1 [LT.2])) ∧ ((Kd.int .i64).R 3 W' w.heap.size V' (.slice (some ⟨s_.2, 0, none⟩) 2 2) [xi, yi]))) ?_ ?_
                      rotate_left
                      · intro hJ5_9_10_11_18
                        refine join_ (σ := Nat × Nat) 5 #[true, true, true, true, true, true, true, true, true, true, true, false, false, true, true, true, true, true, true, true, true, false, false, false] (fun s_ => [(69, .int .i64 r1), (73, .int .i64 r2), (74, .int .i64 LT.2), (82, .slice (some ⟨s_.1, 0, none⟩) 2 2), (84, .slice (some ⟨s_.2, 0, none⟩) 1 1), (83, .agg #[.int .i64 3, .slice (some ⟨s_.1, 0, none⟩) 2 2, .int .i64 0])]) (fun s_ w' => (w'.cell? ⟨gt, 0, none⟩ = some vt ∧ w'.cell? ⟨ga, 1, none⟩ = some (.int .i64 xi) ∧ w'.cell? ⟨ga, 2, none⟩ = some (.int .i64 yi)) ∧ Run w w' g gt vt vt vl LT.1 ids l (fun W' V' => (W'.heap[ga]? = some (.cells #[.int .i64 ki, .int .i64 xi, .int .i64 yi, .slice A3 m c3', .bool bi] 45 (0, 0))) ∧ (TX w.heap.size s_.2 ⟨3, [xi, yi], 0⟩ W' V'))) ?_ ?_
                        rotate_left
                        · intro hJ5_9_10_18_20
                          refine join_ (σ := Nat) 7 #[true, true, true, true, true, true, true, true, true, true, true, true, false, true, true, true, true, true, false, false, false, false, false, false] (fun s_ => [(69, .int .i64 r1), (73, .int .i64 r2), (74, .int .i64 LT.2), (75, .slice (some ⟨s_, 0, none⟩) 1 1)]) (fun s_ w' => (w'.cell? ⟨gt, 0, none⟩ = some vt ∧ w'.cell? ⟨ga, 1, none⟩ = some (.int .i64 xi) ∧ w'.cell? ⟨ga, 2, none⟩ = some (.int .i64 yi)) ∧ Run w w' g gt vt vt vl LT.1 ids l (fun W' V' => (W'.heap[ga]? = some (.cells #[.int .i64 ki, .int .i64 xi, .int .i64 yi, .slice A3 m c3', .bool bi] 45 (0, 0))) ∧ (Kd.C (Kd.int .i64) W' (some ⟨s_, 0, none⟩) 1 [LT.2]))) ?_ ?_
                          rotate_left
                          · intro hJ5_9_10_11
                            refine join_ (σ := Nat) 6 #[true, true, true, true, true, true, true, true, true, true, true, false, false, true, true, true, true, true, true, true, false, false, false, false] (fun s_ => [(69, .int .i64 r1), (73, .int .i64 r2), (74, .int .i64 LT.2), (82, .slice (some ⟨s_, 0, none⟩) 2 2), (83, .agg #[.int .i64 3, .slice (some ⟨s_, 0, none⟩) 2 2, .int .i64 0])]) (fun s_ w' => (w'.cell? ⟨gt, 0, none⟩ = some vt ∧ w'.cell? ⟨ga, 1, none⟩ = some (.int .i64 xi) ∧ w'.cell? ⟨ga, 2, none⟩ = some (.int .i64 yi)) ∧ Run w w' g gt vt vt vl LT.1 ids l (fun W' V' => (W'.heap[ga]? = some (.cells #[.int .i64 ki, .int .i64 xi, .int .i64 yi, .slice A3 m c3', .bool bi] 45 (0, 0))) ∧ ((Kd.int .i64).R 3 W' w.heap.size V' (.slice (some ⟨s_, 0, none⟩) 2 2) [xi, yi]))) ?_ ?_
                            rotate_left
                            · intro hJ5_9_10_18
                              refine join_ (σ := Nat × Nat) 6 #[true, true, true, true, true, true, true, true, true, true, false, false, false, true, true, true, true, true, true, true, true, false, false, false] (fun s_ => [(69, .int .i64 r1), (73, .int .i64 r2), (82, .slice (some ⟨s_.1, 0, none⟩) 2 2), (84, .slice (some ⟨s_.2, 0, none⟩) 1 1), (83, .agg #[.int .i64 3, .slice (some ⟨s_.1, 0, none⟩) 2 2, .int .i64 0])]) (fun s_ w' => (w'.cell? ⟨gt, 0, none⟩ = some vt ∧ w'.cell? ⟨ga, 1, none⟩ = some (.int .i64 xi) ∧ w'.cell? ⟨ga, 2, none⟩ = some (.int .i64 yi)) ∧ Run w w' g gt vt vt vl L ids l (fun W' V' => (W'.heap[ga]? = some (.cells #[.int .i64 ki, .int .i64 xi, .int .i64 yi, .slice A3 m c3', .bool bi] 45 (0, 0))) ∧ (TX w.heap.size s_.2 ⟨3, [xi, yi], 0⟩ W' V'))) ?_ ?_
                              rotate_left
                              · intro hJ5_9_18_20
                                refine join_ (σ := Unit) 8 #[true, true, true, true, true, true, true, true, true, true, true, false, false, true, true, true, true, true, false, false, false, false, false, false] (fun s_ => [(69, .int .i64 r1), (73, .int .i64 r2), (74, .int .i64 LT.2)]) (fun s_ w' => (w'.cell? ⟨gt, 0, none⟩ = some vt ∧ w'.cell? ⟨ga, 1, none⟩ = some (.int .i64 xi) ∧ w'.cell? ⟨ga, 2, none⟩ = some (.int .i64 yi)) ∧ Run w w' g gt vt vt vl LT.1 ids l (fun W' V' => W'.heap[ga]? = some (.cells #[.int .i64 ki, .int .i64 xi, .int .i64 yi, .slice A3 m c3', .bool bi] 45 (0, 0)))) ?_ ?_
                                rotate_left
                                · intro hJ5_9_10
                                  refine join_ (σ := Nat) 7 #[true, true, true, true, true, true, true, true, true, true, false, false, false, true, true, true, true, true, true, true, false, false, false, false] (fun s_ => [(69, .int .i64 r1), (73, .int .i64 r2), (82, .slice (some ⟨s_, 0, none⟩) 2 2), (83, .agg #[.int .i64 3, .slice (some ⟨s_, 0, none⟩) 2 2, .int .i64 0])]) (fun s_ w' => (w'.cell? ⟨gt, 0, none⟩ = some vt ∧ w'.cell? ⟨ga, 1, none⟩ = some (.int .i64 xi) ∧ w'.cell? ⟨ga, 2, none⟩ = some (.int .i64 yi)) ∧ Run w w' g gt vt vt vl L ids l (fun W' V' => (W'.heap[ga]? = some (.cells #[.int .i64 ki, .int .i64 xi, .int .i64 yi, .slice A3 m c3', .bool bi] 45 (0, 0))) ∧ ((Kd.int .i64).R 3 W' w.heap.size V' (.slice (some ⟨s_, 0, none⟩) 2 2) [xi, yi]))) ?_ ?_
                                  rotate_left
                                  · intro hJ5_9_18
                                    refine join_ (σ := Nat × Nat) 7 #[true, true, true, true, true, true, true, true, true, false, false, false, false, true, true, true, true, true, true, true, true, false, false, false] (fun s_ => [(69, .int .i64 r1), (82, .slice (some ⟨s_.1, 0, none⟩) 2 2), (84, .slice (some ⟨s_.2, 0, none⟩) 1 1), (83, .agg #[.int .i64 3, .slice (some ⟨s_.1, 0, none⟩) 2 2, .int .i64 0])]) (fun s_ w' => (w'.cell? ⟨gt, 0, none⟩ = some vt ∧ w'.cell? ⟨ga, 1, none⟩ = some (.int .i64 xi) ∧ w'.cell? ⟨ga, 2, none⟩ = some (.int .i64 yi)) ∧ Run w w' g gt vt vt vl L ids l (fun W' V' => (W'.heap[ga]? = some (.cells #[.int .i64 ki, .int .i64 xi, .int .i64 yi, .slice A3 m c3', .bool bi] 45 (0, 0))) ∧ (TX w.heap.size s_.2 ⟨3, [xi, yi], 0⟩ W' V'))) ?_ ?_
                                    rotate_left
                                    · intro hJ5_18_20
                                      refine join_ (σ := Unit) 9 #[true, true, true, true, true, true, true, true, true, true, false, false, false, true, true, true, true, true, false, false, false, false, false, false] (fun s_ => [(69, .int .i64 r1), (73, .int .i64 r2)]) (fun s_ w' => (w'.cell? ⟨gt, 0, none⟩ = some vt ∧ w'.cell? ⟨ga, 1, none⟩ = some (.int .i64 xi) ∧ w'.cell? ⟨ga, 2, none⟩ = some (.int .i64 yi)) ∧ Run w w' g gt vt vt vl L ids l (fun W' V' => W'.heap[ga]? = some (.cells #[.int .i64 ki, .int .i64 xi, .int .i64 yi, .slice A3 m c3', .bool bi] 45 (0, 0)))) ?_ ?_
                                      rotate_left
                                      · intro hJ5_9
                                        refine join_ (σ := Nat) 8 #[true, true, true, true, true, true, true, true, true, false, false, false, false, true, true, true, true, true, true, true, false, false, false, false] (fun s_ => [(69, .int .i64 r1), (82, .slice (some ⟨s_, 0, none⟩) 2 2), (83, .agg #[.int .i64 3, .slice (some ⟨s_, 0, none⟩) 2 2, .int .i64 0])]) (fun s_ w' => (w'.cell? ⟨gt, 0, none⟩ = some vt ∧ w'.cell? ⟨ga, 1, none⟩ = some (.int .i64 xi) ∧ w'.cell? ⟨ga, 2, none⟩ = some (.int .i64 yi)) ∧ Run w w' g gt vt vt vl L ids l (fun W' V' => (W'.heap[ga]? = some (.cells #[.int .i64 ki, .int .i64 xi, .int .i64 yi, .slice A3 m c3', .bool bi] 45 (0, 0))) ∧ ((Kd.int .i64).R 3 W' w.heap.size V' (.slice (some ⟨s_, 0, none⟩) 2 2) [xi, yi]))) ?_ ?_
                                        rotate_left
                                        · intro hJ5_18
                                          refine join_ (σ := Nat × Nat) 8 #[true, true, true, true, true, false, true, true, true, false, false, false, false, true, true, true, true, true, true, true, true, false, false, false] (fun s_ => [(82, .slice (some ⟨s_.1, 0, none⟩) 2 2), (84, .slice (some ⟨s_.2, 0, none⟩) 1 1), (83, .agg #[.int .i64 3, .slice (some ⟨s_.1, 0, none⟩) 2 2, .int .i64 0])]) (fun s_ w' => (w'.cell? ⟨gt, 0, none⟩ = some vt ∧ w'.cell? ⟨ga, 1, none⟩ = some (.int .i64 xi) ∧ w'.cell? ⟨ga, 2, none⟩ = some (.int .i64 yi)) ∧ Run w w' g gt vt vt vl L ids l (fun W' V' => (W'.heap[ga]? = some (.cells #[.int .i64 ki, .int .i64 xi, .int .i64 yi, .slice A3 m c3', .bool bi] 45 (0, 0))) ∧ (TX w.heap.size s_.2 ⟨3, [xi, yi], 0⟩ W' V'))) ?_ ?_
                                          rotate_left
                                          · intro hJ18_20
                                            refine join_ (σ := Unit) 10 #[true, true, true, true, true, true, true, true, true, false, false, false, false, true, true, true, true, true, false, false, false, false, false, false] (fun s_ => [(69, .int .i64 r1)]) (fun s_ w' => (w'.cell? ⟨gt, 0, none⟩ = some vt ∧ w'.cell? ⟨ga, 1, none⟩ = some (.int .i64 xi) ∧ w'.cell? ⟨ga, 2, none⟩ = some (.int .i64 yi)) ∧ Run w w' g gt vt vt vl L ids l (fun W' V' => W'.heap[ga]? = some (.cells #[.int .i64 ki, .int .i64 xi, .int .i64 yi, .slice A3 m c3', .bool bi] 45 (0, 0)))) ?_ ?_
                                            rotate_left
                                            · intro hJ5
                                              refine join_ (σ := Nat) 9 #[true, true, true, true, true, false, true, true, true, false, false, false, false, true, true, true, true, true, true, true, false, false, false, false] (fun s_ => [(82, .slice (some ⟨s_, 0, none⟩) 2 2), (83, .agg #[.int .i64 3, .slice (some ⟨s_, 0, none⟩) 2 2, .int .i64 0])]) (fun s_ w' => (w'.cell? ⟨gt, 0, none⟩ = some vt ∧ w'.cell? ⟨ga, 1, none⟩ = some (.int .i64 xi) ∧ w'.cell? ⟨ga, 2, none⟩ = some (.int .i64 yi)) ∧ Run w w' g gt vt vt vl L ids l (fun W' V' => (W'.heap[ga]? = some (.cells #[.int .i64 ki, .int .i64 xi, .int .i64 yi, .slice A3 m c3', .bool bi] 45 (0, 0))) ∧ ((Kd.int .i64).R 3 W' w.heap.size V' (.slice (some ⟨s_, 0, none⟩) 2 2) [xi, yi]))) ?_ ?_
                                              rotate_left
                                              · intro hJ18
                                                refine two_ (i := 5) (j := 18) (Ni := some 69) (Nj := some 82) #[true, true, true, true, true, true, true, true, true, false, false, false, false, true, true, true, true, true, false, false, false, false, false, false] #[true, true, true, true, true, false, true, true, true, false, false, false, false, true, true, true, true, true, true, false, false, false, false, false] rfl rfl rfl rfl (by kernel_rfl) (by decide) (by decide) (fun K hK => ?_) (fun K hK => ?_)
                                                · skip
                                                  refine call_ 39 #[.int .i64 xi, .pointer (some ⟨gt, 0, none⟩)] (by rfl) rfl (by have he_ := HE39.out; unfold execOp; simp [resolve, Deferred.ofValue, invoke, Act.eval, he_]) ?_
                                                  with_reducible refine (HS.out.at_ xi HR1.out).mono ?_
                                                  rintro e w3 ⟨rfl, rfl⟩
                                                  refine ⟨_, rfl, ?_⟩
                                                  refine hK.out _ _ ⟨HS.out.cell0, (HS.out.now (fun _ h => (blk_cell (h) 1).trans rfl)), (HS.out.now (fun _ h => (blk_cell (h) 2).trans rfl))⟩ (fun hHeld => ?_)
                                                  clear hK K
                                                  refine norm_ (a' := ?_) ?_ ?_
                                                  rotate_left
                                                  · show Act.put _ (some 69) _ = _
                                                    simp only [Act.put, List.setIfInBounds_toArray, List.set_cons_zero, List.set_cons_succ, i64_w, i32_w]
                                                    rfl
                                                  exact norm_ (by first | (simp only [putAll, Act.put, List.setIfInBounds_toArray, List.set_cons_zero, List.set_cons_succ]; done) | (simp only [putAll, Act.put, List.setIfInBounds_toArray, List.set_cons_zero, List.set_cons_succ]; rfl)) (hJ5 () _ ⟨hHeld, HS.out.imp (fun _ _ h => h)⟩)
                                                · skip
                                                  refine value_ (w1 := ?_) (v := ?_) (by rfl) rfl ?_ ?_
                                                  rotate_left 2
                                                  · go_simp
                                                    constructor
                                                    · rfl
                                                    · rfl
                                                  have n0_ := Aside0.mk (HS.out.pair xi yi)
                                                  clear HS
                                                  have HS := n0_
                                                  clear n0_
                                                  refine hK.out _ _ ⟨HS.out.cell0, (HS.out.now (fun _ h => (blk_cell (h.1) 1).trans rfl)), (HS.out.now (fun _ h => (blk_cell (h.1) 2).trans rfl))⟩ (fun hHeld => ?_)
                                                  clear hK K
                                                  refine norm_ (a' := ?_) ?_ ?_
                                                  rotate_left
                                                  · show Act.put _ (some 82) _ = _
                                                    simp only [Act.put, List.setIfInBounds_toArray, List.set_cons_zero, List.set_cons_succ, i64_w, i32_w]
                                                    rfl
                                                  refine pure_ (i := 19) (N := some 83) (v := ?_) (a' := ?_) #[true, true, true, true, true, false, true, true, true, false, false, false, false, true, true, true, true, true, true, true, false, false, false, false] rfl rfl (by kernel_rfl) (fun _ _ _ h => h) (Or.inl ⟨by rfl, ?_⟩) ?_ ?_
                                                  rotate_left
                                                  · intro w'
                                                    go_simp
                                                    with_reducible rfl
                                                  rotate_left
                                                  · simp only [Act.put, List.setIfInBounds_toArray, List.set_cons_zero, List.set_cons_succ, i64_w, i32_w]
                                                    rfl
                                                  exact norm_ (by first | (simp only [putAll, Act.put, List.setIfInBounds_toArray, List.set_cons_zero, List.set_cons_succ]; done) | (simp only [putAll, Act.put, List.setIfInBounds_toArray, List.set_cons_zero, List.set_cons_succ]; rfl)) (hJ18 wD.heap.size _ ⟨hHeld, HS.out.imp (fun _ _ h => ⟨h.1, h.2⟩)⟩)
                                              · skip
                                                rintro b82 wN18 ⟨hS_, hR_⟩
                                                clear HS
                                                have HS : Aside0 (Run w wN18 g gt vt vt vl L ids l (fun W' V' => (W'.heap[ga]? = some (.cells #[.int .i64 ki, .int .i64 xi, .int .i64 yi, .slice A3 m c3', .bool bi] 45 (0, 0))) ∧ ((Kd.int .i64).R 3 W' w.heap.size V' (.slice (some ⟨b82, 0, none⟩) 2 2) [xi, yi]))) := ⟨hR_⟩
                                                clear hR_
                                                have hHeld : wN18.cell? ⟨gt, 0, none⟩ = some vt ∧ wN18.cell? ⟨ga, 1, none⟩ = some (.int .i64 xi) ∧ wN18.cell? ⟨ga, 2, none⟩ = some (.int .i64 yi) := hS_
                                                clear hS_
                                                refine norm_ (a' := ?_) ?_ ?_
                                                rotate_left
                                                · simp only [putAll, Act.put, List.setIfInBounds_toArray, List.set_cons_zero, List.set_cons_succ]
                                                  rfl
                                                refine two_ (i := 5) (j := 20) (Ni := some 69) (Nj := some 84) #[true, true, true, true, true, true, true, true, true, false, false, false, false, true, true, true, true, true, true, true, false, false, false, false] #[true, true, true, true, true, false, true, true, true, false, false, false, false, true, true, true, true, true, true, true, true, false, false, false] rfl rfl rfl rfl (by kernel_rfl) (by decide) (by decide) (fun K hK => ?_) (fun K hK => ?_)
                                                · skip
                                                  refine call_ 39 #[.int .i64 xi, .pointer (some ⟨gt, 0, none⟩)] (by rfl) rfl (by have he_ := HE39.out; unfold execOp; simp [resolve, Deferred.ofValue, invoke, Act.eval, he_]) ?_
                                                  with_reducible refine (HS.out.at_ xi HR1.out).mono ?_
                                                  rintro e w3 ⟨rfl, rfl⟩
                                                  refine ⟨_, rfl, ?_⟩
                                                  refine hK.out _ _ ⟨HS.out.cell0, (HS.out.now (fun _ h => (blk_cell (h.1) 1).trans rfl)), (HS.out.now (fun _ h => (blk_cell (h.1) 2).trans rfl))⟩ (fun hHeld => ?_)
                                                  clear hK K
                                                  refine norm_ (a' := ?_) ?_ ?_
                                                  rotate_left
                                                  · show Act.put _ (some 69) _ = _
                                                    simp only [Act.put, List.setIfInBounds_toArray, List.set_cons_zero, List.set_cons_succ, i64_w, i32_w]
                                                    rfl
                                                  exact norm_ (by first | (simp only [putAll, Act.put, List.setIfInBounds_toArray, List.set_cons_zero, List.set_cons_succ]; done) | (simp only [putAll, Act.put, List.setIfInBounds_toArray, List.set_cons_zero, List.set_cons_succ]; rfl)) (hJ5_18 b82 _ ⟨hHeld, HS.out.imp (fun _ _ h => ⟨h.1, h.2⟩)⟩)
                                                · skip
                                                  refine value_ (w1 := ?_) (v := ?_) (by rfl) rfl ?_ ?_
                                                  rotate_left 2
                                                  · go_simp
                                                    constructor
                                                    · rfl
                                                    · rfl
                                                  have n0_ := Aside0.mk (HS.out.thing 3 [xi, yi] 0 (.slice (some ⟨b82, 0, none⟩) 2 2) (fun _ _ h => h.2))
                                                  clear HS
                                                  have HS := n0_
                                                  clear n0_
                                                  refine hK.out _ _ ⟨HS.out.cell0, (HS.out.now (fun _ h => (blk_cell (h.1.1) 1).trans rfl)), (HS.out.now (fun _ h => (blk_cell (h.1.1) 2).trans rfl))⟩ (fun hHeld => ?_)
                                                  clear hK K
                                                  refine norm_ (a' := ?_) ?_ ?_
                                                  rotate_left
                                                  · show Act.put _ (some 84) _ = _
                                                    simp only [Act.put, List.setIfInBounds_toArray, List.set_cons_zero, List.set_cons_succ, i64_w, i32_w]
                                                    rfl
                                                  exact norm_ (by first | (simp only [putAll, Act.put, List.setIfInBounds_toArray, List.set_cons_zero, List.set_cons_succ]; done) | (simp only [putAll, Act.put, List.setIfInBounds_toArray, List.set_cons_zero, List.set_cons_succ]; rfl)) (hJ18_20 (b82, wN18.heap.size) _ ⟨hHeld, HS.out.imp (fun _ _ h => ⟨h.1.1, h.2⟩)⟩)
                                            · skip
                                              rintro _ wN5 ⟨hS_, hR_⟩
                                              clear HS
                                              have HS : Aside0 (Run w wN5 g gt vt vt vl L ids l (fun W' V' => W'.heap[ga]? = some (.cells #[.int .i64 ki, .int .i64 xi, .int .i64 yi, .slice A3 m c3', .bool bi] 45 (0, 0)))) := ⟨hR_⟩
                                              clear hR_
                                              have hHeld : wN5.cell? ⟨gt, 0, none⟩ = some vt ∧ wN5.cell? ⟨ga, 1, none⟩ = some (.int .i64 xi) ∧ wN5.cell? ⟨ga, 2, none⟩ = some (.int .i64 yi) := hS_
                                              clear hS_
                                              refine norm_ (a' := ?_) ?_ ?_
                                              rotate_left
                                              · simp only [putAll, Act.put, List.setIfInBounds_toArray, List.set_cons_zero, List.set_cons_succ]
                                                rfl
                                              refine two_ (i := 9) (j := 18) (Ni := some 73) (Nj := some 82) #[true, true, true, true, true, true, true, true, true, true, false, false, false, true, true, true, true, true, false, false, false, false, false, false] #[true, true, true, true, true, true, true, true, true, false, false, false, false, true, true, true, true, true, true, false, false, false, false, false] rfl rfl rfl rfl (by kernel_rfl) (by decide) (by decide) (fun K hK => ?_) (fun K hK => ?_)
                                              · skip
                                                refine call_ 39 #[.int .i64 yi, .pointer (some ⟨gt, 0, none⟩)] (by rfl) rfl (by have he_ := HE39.out; unfold execOp; simp [resolve, Deferred.ofValue, invoke, Act.eval, he_]) ?_
                                                with_reducible refine (HS.out.at_ yi HR2.out).mono ?_
                                                rintro e w3 ⟨rfl, rfl⟩
                                                refine ⟨_, rfl, ?_⟩
                                                refine hK.out _ _ ⟨HS.out.cell0, (HS.out.now (fun _ h => (blk_cell (h) 1).trans rfl)), (HS.out.now (fun _ h => (blk_cell (h) 2).trans rfl))⟩ (fun hHeld => ?_)
                                                clear hK K
                                                refine norm_ (a' := ?_) ?_ ?_
                                                rotate_left
                                                · show Act.put _ (some 73) _ = _
                                                  simp only [Act.put, List.setIfInBounds_toArray, List.set_cons_zero, List.set_cons_succ, i64_w, i32_w]
                                                  rfl
                                                exact norm_ (by first | (simp only [putAll, Act.put, List.setIfInBounds_toArray, List.set_cons_zero, List.set_cons_succ]; done) | (simp only [putAll, Act.put, List.setIfInBounds_toArray, List.set_cons_zero, List.set_cons_succ]; rfl)) (hJ5_9 () _ ⟨hHeld, HS.out.imp (fun _ _ h => h)⟩)
                                              · skip
                                                refine value_ (w1 := ?_) (v := ?_) (by rfl) rfl ?_ ?_
                                                rotate_left 2
                                                · go_simp
                                                  constructor
                                                  · rfl
                                                  · rfl
                                                have n0_ := Aside0.mk (HS.out.pair xi yi)
                                                clear HS
                                                have HS := n0_
                                                clear n0_
                                                refine hK.out _ _ ⟨HS.out.cell0, (HS.out.now (fun _ h => (blk_cell (h.1) 1).trans rfl)), (HS.out.now (fun _ h => (blk_cell (h.1) 2).trans rfl))⟩ (fun hHeld => ?_)
                                                clear hK K
                                                refine norm_ (a' := ?_) ?_ ?_
                                                rotate_left
                                                · show Act.put _ (some 82) _ = _
                                                  simp only [Act.put, List.setIfInBounds_toArray, List.set_cons_zero, List.set_cons_succ, i64_w, i32_w]
                                                  rfl
                                                refine pure_ (i := 19) (N := some 83) (v := ?_) (a' := ?_) #[true, true, true, true, true, true, true, true, true, false, false, false, false, true, true, true, true, true, true, true, false, false, false, false] rfl rfl (by kernel_rfl) (fun _ _ _ h => h) (Or.inl ⟨by rfl, ?_⟩) ?_ ?_
                                                rotate_left
                                                · intro w'
                                                  go_simp
                                                  with_reducible rfl
                                                rotate_left
                                                · simp only [Act.put, List.setIfInBounds_toArray, List.set_cons_zero, List.set_cons_succ, i64_w, i32_w]
                                                  rfl
                                                exact norm_ (by first | (simp only [putAll, Act.put, List.setIfInBounds_toArray, List.set_cons_zero, List.set_cons_succ]; done) | (simp only [putAll, Act.put, List.setIfInBounds_toArray, List.set_cons_zero, List.set_cons_succ]; rfl)) (hJ5_18 wN5.heap.size _ ⟨hHeld, HS.out.imp (fun _ _ h => ⟨h.1, h.2⟩)⟩)
                                          · skip
                                            rintro ⟨b82, b84⟩ wN18_20 ⟨hS_, hR_⟩
                                            clear HS
                                            have HS : Aside0 (Run w wN18_20 g gt vt vt vl L ids l (fun W' V' => (W'.heap[ga]? = some (.cells #[.int .i64 ki, .int .i64 xi, .int .i64 yi, .slice A3 m c3', .bool bi] 45 (0, 0))) ∧ (TX w.heap.size b84 ⟨3, [xi, yi], 0⟩ W' V'))) := ⟨hR_⟩
                                            clear hR_
                                            have hHeld : wN18_20.cell? ⟨gt, 0, none⟩ = some vt ∧ wN18_20.cell? ⟨ga, 1, none⟩ = some (.int .i64 xi) ∧ wN18_20.cell? ⟨ga, 2, none⟩ = some (.int .i64 yi) := hS_
                                            clear hS_
                                            refine norm_ (a' := ?_) ?_ ?_
                                            rotate_left
                                            · simp only [putAll, Act.put, List.setIfInBounds_toArray, List.set_cons_zero, List.set_cons_succ]
                                              rfl
                                            refine one_ (i := 5) (N := some 69) #[true, true, true, true, true, true, true, true, true, false, false, false, false, true, true, true, true, true, true, true, true, false, false, false] rfl rfl (by kernel_rfl) (by decide) (fun K hK => ?_)
                                            refine call_ 39 #[.int .i64 xi, .pointer (some ⟨gt, 0, none⟩)] (by rfl) rfl (by have he_ := HE39.out; unfold execOp; simp [resolve, Deferred.ofValue, invoke, Act.eval, he_]) ?_
                                            with_reducible refine (HS.out.at_ xi HR1.out).mono ?_
                                            rintro e w3 ⟨rfl, rfl⟩
                                            refine ⟨_, rfl, ?_⟩
                                            refine hK.out _ _ ⟨HS.out.cell0, (HS.out.now (fun _ h => (blk_cell (h.1) 1).trans rfl)), (HS.out.now (fun _ h => (blk_cell (h.1) 2).trans rfl))⟩ (fun hHeld => ?_)
                                            clear hK K
                                            refine norm_ (a' := ?_) ?_ ?_
                                            rotate_left
                                            · show Act.put _ (some 69) _ = _
                                              simp only [Act.put, List.setIfInBounds_toArray, List.set_cons_zero, List.set_cons_succ, i64_w, i32_w]
                                              rfl
                                            exact norm_ (by first | (simp only [putAll, Act.put, List.setIfInBounds_toArray, List.set_cons_zero, List.set_cons_succ]; done) | (simp only [putAll, Act.put, List.setIfInBounds_toArray, List.set_cons_zero, List.set_cons_succ]; rfl)) (hJ5_18_20 (b82, b84) _ ⟨hHeld, HS.out.imp (fun _ _ h => ⟨h.1, h.2⟩)⟩)
                                        · skip
                                          rintro b82 wN5_18 ⟨hS_, hR_⟩
                                          clear HS
                                          have HS : Aside0 (Run w wN5_18 g gt vt vt vl L ids l (fun W' V' => (W'.heap[ga]? = some (.cells #[.int .i64 ki, .int .i64 xi, .int .i64 yi, .slice A3 m c3', .bool bi] 45 (0, 0))) ∧ ((Kd.int .i64).R 3 W' w.heap.size V' (.slice (some ⟨b82, 0, none⟩) 2 2) [xi, yi]))) := ⟨hR_⟩
                                          clear hR_
                                          have hHeld : wN5_18.cell? ⟨gt, 0, none⟩ = some vt ∧ wN5_18.cell? ⟨ga, 1, none⟩ = some (.int .i64 xi) ∧ wN5_18.cell? ⟨ga, 2, none⟩ = some (.int .i64 yi) := hS_
                                          clear hS_
                                          refine norm_ (a' := ?_) ?_ ?_
                                          rotate_left
                                          · simp only [putAll, Act.put, List.setIfInBounds_toArray, List.set_cons_zero, List.set_cons_succ]
                                            rfl
                                          refine two_ (i := 9) (j := 20) (Ni := some 73) (Nj := some 84) #[true, true, true, true, true, true, true, true, true, true, false, false, false, true, true, true, true, true, true, true, false, false, false, false] #[true, true, true, true, true, true, true, true, true, false, false, false, false, true, true, true, true, true, true, true, true, false, false, false] rfl rfl rfl rfl (by kernel_rfl) (by decide) (by decide) (fun K hK => ?_) (fun K hK => ?_)
                                          · skip
                                            refine call_ 39 #[.int .i64 yi, .pointer (some ⟨gt, 0, none⟩)] (by rfl) rfl (by have he_ := HE39.out; unfold execOp; simp [resolve, Deferred.ofValue, invoke, Act.eval, he_]) ?_
                                            with_reducible refine (HS.out.at_ yi HR2.out).mono ?_
                                            rintro e w3 ⟨rfl, rfl⟩
                                            refine ⟨_, rfl, ?_⟩
                                            refine hK.out _ _ ⟨HS.out.cell0, (HS.out.now (fun _ h => (blk_cell (h.1) 1).trans rfl)), (HS.out.now (fun _ h => (blk_cell (h.1) 2).trans rfl))⟩ (fun hHeld => ?_)
                                            clear hK K
                                            refine norm_ (a' := ?_) ?_ ?_
                                            rotate_left
                                            · show Act.put _ (some 73) _ = _
                                              simp only [Act.put, List.setIfInBounds_toArray, List.set_cons_zero, List.set_cons_succ, i64_w, i32_w]
                                              rfl
                                            exact norm_ (by first | (simp only [putAll, Act.put, List.setIfInBounds_toArray, List.set_cons_zero, List.set_cons_succ]; done) | (simp only [putAll, Act.put, List.setIfInBounds_toArray, List.set_cons_zero, List.set_cons_succ]; rfl)) (hJ5_9_18 b82 _ ⟨hHeld, HS.out.imp (fun _ _ h => ⟨h.1, h.2⟩)⟩)
                                          · skip
                                            refine value_ (w1 := ?_) (v := ?_) (by rfl) rfl ?_ ?_
                                            rotate_left 2
                                            · go_simp
                                              constructor
                                              · rfl
                                              · rfl
                                            have n0_ := Aside0.mk (HS.out.thing 3 [xi, yi] 0 (.slice (some ⟨b82, 0, none⟩) 2 2) (fun _ _ h => h.2))
                                            clear HS
                                            have HS := n0_
                                            clear n0_
                                            refine hK.out _ _ ⟨HS.out.cell0, (HS.out.now (fun _ h => (blk_cell (h.1.1) 1).trans rfl)), (HS.out.now (fun _ h => (blk_cell (h.1.1) 2).trans rfl))⟩ (fun hHeld => ?_)
                                            clear hK K
                                            refine norm_ (a' := ?_) ?_ ?_
                                            rotate_left
                                            · show Act.put _ (some 84) _ = _
                                              simp only [Act.put, List.setIfInBounds_toArray, List.set_cons_zero, List.set_cons_succ, i64_w, i32_w]
                                              rfl
                                            exact norm_ (by first | (simp only [putAll, Act.put, List.setIfInBounds_toArray, List.set_cons_zero, List.set_cons_succ]; done) | (simp only [putAll, Act.put, List.setIfInBounds_toArray, List.set_cons_zero, List.set_cons_succ]; rfl)) (hJ5_18_20 (b82, wN5_18.heap.size) _ ⟨hHeld, HS.out.imp (fun _ _ h => ⟨h.1.1, h.2⟩)⟩)
                                      · skip
                                        rintro _ wN5_9 ⟨hS_, hR_⟩
                                        clear HS
                                        have HS : Aside0 (Run w wN5_9 g gt vt vt vl L ids l (fun W' V' => W'.heap[ga]? = some (.cells #[.int .i64 ki, .int .i64 xi, .int .i64 yi, .slice A3 m c3', .bool bi] 45 (0, 0)))) := ⟨hR_⟩
                                        clear hR_
                                        have hHeld : wN5_9.cell? ⟨gt, 0, none⟩ = some vt ∧ wN5_9.cell? ⟨ga, 1, none⟩ = some (.int .i64 xi) ∧ wN5_9.cell? ⟨ga, 2, none⟩ = some (.int .i64 yi) := hS_
                                        clear hS_
                                        refine norm_ (a' := ?_) ?_ ?_
                                        rotate_left
                                        · simp only [putAll, Act.put, List.setIfInBounds_toArray, List.set_cons_zero, List.set_cons_succ]
                                          rfl
                                        refine two_ (i := 10) (j := 18) (Ni := some 74) (Nj := some 82) #[true, true, true, true, true, true, true, true, true, true, true, false, false, true, true, true, true, true, false, false, false, false, false, false] #[true, true, true, true, true, true, true, true, true, true, false, false, false, true, true, true, true, true, true, false, false, false, false, false] rfl rfl rfl rfl (by kernel_rfl) (by decide) (by decide) (fun K hK => ?_) (fun K hK => ?_)
                                        · skip
                                          refine goes_ Try.func35 (by kernel_rfl) rfl #[.pointer (some ⟨g, 0, none⟩), .int .i64 r1, .int .i64 r2] (by rfl) rfl rfl (by simp only [List.map_toArray, List.map_cons, List.map_nil]; rfl) ?_
                                          with_reducible refine ((HS.out.and2 (by have := HBN.out; omega) HInv.out r1 r2 HLT.out)).mono ?_
                                          rintro e w9 ⟨rfl, hR⟩
                                          refine ⟨_, rfl, ?_⟩
                                          have n0_ := Aside0.mk hR
                                          clear hR
                                          clear HS
                                          have HS := n0_
                                          clear n0_
                                          refine hK.out _ _ ⟨HS.out.cell0, (HS.out.now (fun _ h => (blk_cell (h) 1).trans rfl)), (HS.out.now (fun _ h => (blk_cell (h) 2).trans rfl))⟩ (fun hHeld => ?_)
                                          clear hK K
                                          refine norm_ (a' := ?_) ?_ ?_
                                          rotate_left
                                          · show Act.put _ (some 74) _ = _
                                            simp only [Act.put, List.setIfInBounds_toArray, List.set_cons_zero, List.set_cons_succ, i64_w, i32_w]
                                            rfl
                                          exact norm_ (by first | (simp only [putAll, Act.put, List.setIfInBounds_toArray, List.set_cons_zero, List.set_cons_succ]; done) | (simp only [putAll, Act.put, List.setIfInBounds_toArray, List.set_cons_zero, List.set_cons_succ]; rfl)) (hJ5_9_10 () _ ⟨hHeld, HS.out.imp (fun _ _ h => h)⟩)
                                        · skip
                                          refine value_ (w1 := ?_) (v := ?_) (by rfl) rfl ?_ ?_
                                          rotate_left 2
                                          · go_simp
                                            constructor
                                            · rfl
                                            · rfl
                                          have n0_ := Aside0.mk (HS.out.pair xi yi)
                                          clear HS
                                          have HS := n0_
                                          clear n0_
                                          refine hK.out _ _ ⟨HS.out.cell0, (HS.out.now (fun _ h => (blk_cell (h.1) 1).trans rfl)), (HS.out.now (fun _ h => (blk_cell (h.1) 2).trans rfl))⟩ (fun hHeld => ?_)
                                          clear hK K
                                          refine norm_ (a' := ?_) ?_ ?_
                                          rotate_left
                                          · show Act.put _ (some 82) _ = _
                                            simp only [Act.put, List.setIfInBounds_toArray, List.set_cons_zero, List.set_cons_succ, i64_w, i32_w]
                                            rfl
                                          refine pure_ (i := 19) (N := some 83) (v := ?_) (a' := ?_) #[true, true, true, true, true, true, true, true, true, true, false, false, false, true, true, true, true, true, true, true, false, false, false, false] rfl rfl (by kernel_rfl) (fun _ _ _ h => h) (Or.inl ⟨by rfl, ?_⟩) ?_ ?_
                                          rotate_left
                                          · intro w'
                                            go_simp
                                            with_reducible rfl
                                          rotate_left
                                          · simp only [Act.put, List.setIfInBounds_toArray, List.set_cons_zero, List.set_cons_succ, i64_w, i32_w]
                                            rfl
                                          exact norm_ (by first | (simp only [putAll, Act.put, List.setIfInBounds_toArray, List.set_cons_zero, List.set_cons_succ]; done) | (simp only [putAll, Act.put, List.setIfInBounds_toArray, List.set_cons_zero, List.set_cons_succ]; rfl)) (hJ5_9_18 wN5_9.heap.size _ ⟨hHeld, HS.out.imp (fun _ _ h => ⟨h.1, h.2⟩)⟩)
                                    · skip
                                      rintro ⟨b82, b84⟩ wN5_18_20 ⟨hS_, hR_⟩
                                      clear HS
                                      have HS : Aside0 (Run w wN5_18_20 g gt vt vt vl L ids l (fun W' V' => (W'.heap[ga]? = some (.cells #[.int .i64 ki, .int .i64 xi, .int .i64 yi, .slice A3 m c3', .bool bi] 45 (0, 0))) ∧ (TX w.heap.size b84 ⟨3, [xi, yi], 0⟩ W' V'))) := ⟨hR_⟩
                                      clear hR_
                                      have hHeld : wN5_18_20.cell? ⟨gt, 0, none⟩ = some vt ∧ wN5_18_20.cell? ⟨ga, 1, none⟩ = some (.int .i64 xi) ∧ wN5_18_20.cell? ⟨ga, 2, none⟩ = some (.int .i64 yi) := hS_
                                      clear hS_
                                      refine norm_ (a' := ?_) ?_ ?_
                                      rotate_left
                                      · simp only [putAll, Act.put, List.setIfInBounds_toArray, List.set_cons_zero, List.set_cons_succ]
                                        rfl
                                      refine one_ (i := 9) (N := some 73) #[true, true, true, true, true, true, true, true, true, true, false, false, false, true, true, true, true, true, true, true, true, false, false, false] rfl rfl (by kernel_rfl) (by decide) (fun K hK => ?_)
                                      refine call_ 39 #[.int .i64 yi, .pointer (some ⟨gt, 0, none⟩)] (by rfl) rfl (by have he_ := HE39.out; unfold execOp; simp [resolve, Deferred.ofValue, invoke, Act.eval, he_]) ?_
                                      with_reducible refine (HS.out.at_ yi HR2.out).mono ?_
                                      rintro e w3 ⟨rfl, rfl⟩
                                      refine ⟨_, rfl, ?_⟩
                                      refine hK.out _ _ ⟨HS.out.cell0, (HS.out.now (fun _ h => (blk_cell (h.1) 1).trans rfl)), (HS.out.now (fun _ h => (blk_cell (h.1) 2).trans rfl))⟩ (fun hHeld => ?_)
                                      clear hK K
                                      refine norm_ (a' := ?_) ?_ ?_
                                      rotate_left
                                      · show Act.put _ (some 73) _ = _
                                        simp only [Act.put, List.setIfInBounds_toArray, List.set_cons_zero, List.set_cons_succ, i64_w, i32_w]
                                        rfl
                                      exact norm_ (by first | (simp only [putAll, Act.put, List.setIfInBounds_toArray, List.set_cons_zero, List.set_cons_succ]; done) | (simp only [putAll, Act.put, List.setIfInBounds_toArray, List.set_cons_zero, List.set_cons_succ]; rfl)) (hJ5_9_18_20 (b82, b84) _ ⟨hHeld, HS.out.imp (fun _ _ h => ⟨h.1, h.2⟩)⟩)
                                  · skip
                                    rintro b82 wN5_9_18 ⟨hS_, hR_⟩
                                    clear HS
                                    have HS : Aside0 (Run w wN5_9_18 g gt vt vt vl L ids l (fun W' V' => (W'.heap[ga]? = some (.cells #[.int .i64 ki, .int .i64 xi, .int .i64 yi, .slice A3 m c3', .bool bi] 45 (0, 0))) ∧ ((Kd.int .i64).R 3 W' w.heap.size V' (.slice (some ⟨b82, 0, none⟩) 2 2) [xi, yi]))) := ⟨hR_⟩
                                    clear hR_
                                    have hHeld : wN5_9_18.cell? ⟨gt, 0, none⟩ = some vt ∧ wN5_9_18.cell? ⟨ga, 1, none⟩ = some (.int .i64 xi) ∧ wN5_9_18.cell? ⟨ga, 2, none⟩ = some (.int .i64 yi) := hS_
                                    clear hS_
                                    refine norm_ (a' := ?_) ?_ ?_
                                    rotate_left
                                    · simp only [putAll, Act.put, List.setIfInBounds_toArray, List.set_cons_zero, List.set_cons_succ]
                                      rfl
                                    refine two_ (i := 10) (j := 20) (Ni := some 74) (Nj := some 84) #[true, true, true, true, true, true, true, true, true, true, true, false, false, true, true, true, true, true, true, true, false, false, false, false] #[true, true, true, true, true, true, true, true, true, true, false, false, false, true, true, true, true, true, true, true, true, false, false, false] rfl rfl rfl rfl (by kernel_rfl) (by decide) (by decide) (fun K hK => ?_) (fun K hK => ?_)
                                    · skip
                                      refine goes_ Try.func35 (by kernel_rfl) rfl #[.pointer (some ⟨g, 0, none⟩), .int .i64 r1, .int .i64 r2] (by rfl) rfl rfl (by simp only [List.map_toArray, List.map_cons, List.map_nil]; rfl) ?_
                                      with_reducible refine ((HS.out.and2 (by have := HBN.out; omega) HInv.out r1 r2 HLT.out)).mono ?_
                                      rintro e w9 ⟨rfl, hR⟩
                                      refine ⟨_, rfl, ?_⟩
                                      have n0_ := Aside0.mk hR
                                      clear hR
                                      clear HS
                                      have HS := n0_
                                      clear n0_
                                      refine hK.out _ _ ⟨HS.out.cell0, (HS.out.now (fun _ h => (blk_cell (h.1) 1).trans rfl)), (HS.out.now (fun _ h => (blk_cell (h.1) 2).trans rfl))⟩ (fun hHeld => ?_)
                                      clear hK K
                                      refine norm_ (a' := ?_) ?_ ?_
                                      rotate_left
                                      · show Act.put _ (some 74) _ = _
                                        simp only [Act.put, List.setIfInBounds_toArray, List.set_cons_zero, List.set_cons_succ, i64_w, i32_w]
                                        rfl
                                      exact norm_ (by first | (simp only [putAll, Act.put, List.setIfInBounds_toArray, List.set_cons_zero, List.set_cons_succ]; done) | (simp only [putAll, Act.put, List.setIfInBounds_toArray, List.set_cons_zero, List.set_cons_succ]; rfl)) (hJ5_9_10_18 b82 _ ⟨hHeld, HS.out.imp (fun _ _ h => ⟨h.1, h.2⟩)⟩)
                                    · skip
                                      refine value_ (w1 := ?_) (v := ?_) (by rfl) rfl ?_ ?_
                                      rotate_left 2
                                      · go_simp
                                        constructor
                                        · rfl
                                        · rfl
                                      have n0_ := Aside0.mk (HS.out.thing 3 [xi, yi] 0 (.slice (some ⟨b82, 0, none⟩) 2 2) (fun _ _ h => h.2))
                                      clear HS
                                      have HS := n0_
                                      clear n0_
                                      refine hK.out _ _ ⟨HS.out.cell0, (HS.out.now (fun _ h => (blk_cell (h.1.1) 1).trans rfl)), (HS.out.now (fun _ h => (blk_cell (h.1.1) 2).trans rfl))⟩ (fun hHeld => ?_)
                                      clear hK K
                                      refine norm_ (a' := ?_) ?_ ?_
                                      rotate_left
                                      · show Act.put _ (some 84) _ = _
                                        simp only [Act.put, List.setIfInBounds_toArray, List.set_cons_zero, List.set_cons_succ, i64_w, i32_w]
                                        rfl
                                      exact norm_ (by first | (simp only [putAll, Act.put, List.setIfInBounds_toArray, List.set_cons_zero, List.set_cons_succ]; done) | (simp only [putAll, Act.put, List.setIfInBounds_toArray, List.set_cons_zero, List.set_cons_succ]; rfl)) (hJ5_9_18_20 (b82, wN5_9_18.heap.size) _ ⟨hHeld, HS.out.imp (fun _ _ h => ⟨h.1.1, h.2⟩)⟩)
                                · skip
                                  rintro _ wN5_9_10 ⟨hS_, hR_⟩
                                  clear HS
                                  have HS : Aside0 (Run w wN5_9_10 g gt vt vt vl LT.1 ids l (fun W' V' => W'.heap[ga]? = some (.cells #[.int .i64 ki, .int .i64 xi, .int .i64 yi, .slice A3 m c3', .bool bi] 45 (0, 0)))) := ⟨hR_⟩
                                  clear hR_
                                  have hHeld : wN5_9_10.cell? ⟨gt, 0, none⟩ = some vt ∧ wN5_9_10.cell? ⟨ga, 1, none⟩ = some (.int .i64 xi) ∧ wN5_9_10.cell? ⟨ga, 2, none⟩ = some (.int .i64 yi) := hS_
                                  clear hS_
                                  refine norm_ (a' := ?_) ?_ ?_
                                  rotate_left
                                  · simp only [putAll, Act.put, List.setIfInBounds_toArray, List.set_cons_zero, List.set_cons_succ]
                                    rfl
                                  refine two_ (i := 11) (j := 18) (Ni := some 75) (Nj := some 82) #[true, true, true, true, true, true, true, true, true, true, true, true, false, true, true, true, true, true, false, false, false, false, false, false] #[true, true, true, true, true, true, true, true, true, true, true, false, false, true, true, true, true, true, true, false, false, false, false, false] rfl rfl rfl rfl (by kernel_rfl) (by decide) (by decide) (fun K hK => ?_) (fun K hK => ?_)
                                  · skip
                                    refine value_ (w1 := ?_) (v := ?_) (by rfl) rfl ?_ ?_
                                    rotate_left 2
                                    · go_simp
                                      constructor
                                      · rfl
                                      · rfl
                                    have n0_ := Aside0.mk (HS.out.one LT.2)
                                    clear HS
                                    have HS := n0_
                                    clear n0_
                                    refine hK.out _ _ ⟨HS.out.cell0, (HS.out.now (fun _ h => (blk_cell (h.1) 1).trans rfl)), (HS.out.now (fun _ h => (blk_cell (h.1) 2).trans rfl))⟩ (fun hHeld => ?_)
                                    clear hK K
                                    refine norm_ (a' := ?_) ?_ ?_
                                    rotate_left
                                    · show Act.put _ (some 75) _ = _
                                      simp only [Act.put, List.setIfInBounds_toArray, List.set_cons_zero, List.set_cons_succ, i64_w, i32_w]
                                      rfl
                                    exact norm_ (by first | (simp only [putAll, Act.put, List.setIfInBounds_toArray, List.set_cons_zero, List.set_cons_succ]; done) | (simp only [putAll, Act.put, List.setIfInBounds_toArray, List.set_cons_zero, List.set_cons_succ]; rfl)) (hJ5_9_10_11 wN5_9_10.heap.size _ ⟨hHeld, HS.out.imp (fun _ _ h => ⟨h.1, h.2⟩)⟩)
                                  · skip
                                    refine value_ (w1 := ?_) (v := ?_) (by rfl) rfl ?_ ?_
                                    rotate_left 2
                                    · go_simp
                                      constructor
                                      · rfl
                                      · rfl
                                    have n0_ := Aside0.mk (HS.out.pair xi yi)
                                    clear HS
                                    have HS := n0_
                                    clear n0_
                                    refine hK.out _ _ ⟨HS.out.cell0, (HS.out.now (fun _ h => (blk_cell (h.1) 1).trans rfl)), (HS.out.now (fun _ h => (blk_cell (h.1) 2).trans rfl))⟩ (fun hHeld => ?_)
                                    clear hK K
                                    refine norm_ (a' := ?_) ?_ ?_
                                    rotate_left
                                    · show Act.put _ (some 82) _ = _
                                      simp only [Act.put, List.setIfInBounds_toArray, List.set_cons_zero, List.set_cons_succ, i64_w, i32_w]
                                      rfl
                                    refine pure_ (i := 19) (N := some 83) (v := ?_) (a' := ?_) #[true, true, true, true, true, true, true, true, true, true, true, false, false, true, true, true, true, true, true, true, false, false, false, false] rfl rfl (by kernel_rfl) (fun _ _ _ h => h) (Or.inl ⟨by rfl, ?_⟩) ?_ ?_
                                    rotate_left
                                    · intro w'
                                      go_simp
                                      with_reducible rfl
                                    rotate_left
                                    · simp only [Act.put, List.setIfInBounds_toArray, List.set_cons_zero, List.set_cons_succ, i64_w, i32_w]
                                      rfl
                                    exact norm_ (by first | (simp only [putAll, Act.put, List.setIfInBounds_toArray, List.set_cons_zero, List.set_cons_succ]; done) | (simp only [putAll, Act.put, List.setIfInBounds_toArray, List.set_cons_zero, List.set_cons_succ]; rfl)) (hJ5_9_10_18 wN5_9_10.heap.size _ ⟨hHeld, HS.out.imp (fun _ _ h => ⟨h.1, h.2⟩)⟩)
                              · skip
                                rintro ⟨b82, b84⟩ wN5_9_18_20 ⟨hS_, hR_⟩
                                clear HS
                                have HS : Aside0 (Run w wN5_9_18_20 g gt vt vt vl L ids l (fun W' V' => (W'.heap[ga]? = some (.cells #[.int .i64 ki, .int .i64 xi, .int .i64 yi, .slice A3 m c3', .bool bi] 45 (0, 0))) ∧ (TX w.heap.size b84 ⟨3, [xi, yi], 0⟩ W' V'))) := ⟨hR_⟩
                                clear hR_
                                have hHeld : wN5_9_18_20.cell? ⟨gt, 0, none⟩ = some vt ∧ wN5_9_18_20.cell? ⟨ga, 1, none⟩ = some (.int .i64 xi) ∧ wN5_9_18_20.cell? ⟨ga, 2, none⟩ = some (.int .i64 yi) := hS_
                                clear hS_
                                refine norm_ (a' := ?_) ?_ ?_
                                rotate_left
                                · simp only [putAll, Act.put, List.setIfInBounds_toArray, List.set_cons_zero, List.set_cons_succ]
                                  rfl
                                refine one_ (i := 10) (N := some 74) #[true, true, true, true, true, true, true, true, true, true, true, false, false, true, true, true, true, true, true, true, true, false, false, false] rfl rfl (by kernel_rfl) (by decide) (fun K hK => ?_)
                                refine goes_ Try.func35 (by kernel_rfl) rfl #[.pointer (some ⟨g, 0, none⟩), .int .i64 r1, .int .i64 r2] (by rfl) rfl rfl (by simp only [List.map_toArray, List.map_cons, List.map_nil]; rfl) ?_
                                with_reducible refine ((HS.out.and2 (by have := HBN.out; omega) HInv.out r1 r2 HLT.out)).mono ?_
                                rintro e w9 ⟨rfl, hR⟩
                                refine ⟨_, rfl, ?_⟩
                                have n0_ := Aside0.mk hR
                                clear hR
                                clear HS
                                have HS := n0_
                                clear n0_
                                refine hK.out _ _ ⟨HS.out.cell0, (HS.out.now (fun _ h => (blk_cell (h.1) 1).trans rfl)), (HS.out.now (fun _ h => (blk_cell (h.1) 2).trans rfl))⟩ (fun hHeld => ?_)
                                clear hK K
                                refine norm_ (a' := ?_) ?_ ?_
                                rotate_left
                                · show Act.put _ (some 74) _ = _
                                  simp only [Act.put, List.setIfInBounds_toArray, List.set_cons_zero, List.set_cons_succ, i64_w, i32_w]
                                  rfl
                                exact norm_ (by first | (simp only [putAll, Act.put, List.setIfInBounds_toArray, List.set_cons_zero, List.set_cons_succ]; done) | (simp only [putAll, Act.put, List.setIfInBounds_toArray, List.set_cons_zero, List.set_cons_succ]; rfl)) (hJ5_9_10_18_20 (b82, b84) _ ⟨hHeld, HS.out.imp (fun _ _ h => ⟨h.1, h.2⟩)⟩)
                            · skip
                              rintro b82 wN5_9_10_18 ⟨hS_, hR_⟩
                              clear HS
                              have HS : Aside0 (Run w wN5_9_10_18 g gt vt vt vl LT.1 ids l (fun W' V' => (W'.heap[ga]? = some (.cells #[.int .i64 ki, .int .i64 xi, .int .i64 yi, .slice A3 m c3', .bool bi] 45 (0, 0))) ∧ ((Kd.int .i64).R 3 W' w.heap.size V' (.slice (some ⟨b82, 0, none⟩) 2 2) [xi, yi]))) := ⟨hR_⟩
                              clear hR_
                              have hHeld : wN5_9_10_18.cell? ⟨gt, 0, none⟩ = some vt ∧ wN5_9_10_18.cell? ⟨ga, 1, none⟩ = some (.int .i64 xi) ∧ wN5_9_10_18.cell? ⟨ga, 2, none⟩ = some (.int .i64 yi) := hS_
                              clear hS_
                              refine norm_ (a' := ?_) ?_ ?_
                              rotate_left
                              · simp only [putAll, Act.put, List.setIfInBounds_toArray, List.set_cons_zero, List.set_cons_succ]
                                rfl
                              refine two_ (i := 11) (j := 20) (Ni := some 75) (Nj := some 84) #[true, true, true, true, true, true, true, true, true, true, true, true, false, true, true, true, true, true, true, true, false, false, false, false] #[true, true, true, true, true, true, true, true, true, true, true, false, false, true, true, true, true, true, true, true, true, false, false, false] rfl rfl rfl rfl (by kernel_rfl) (by decide) (by decide) (fun K hK => ?_) (fun K hK => ?_)
                              · skip
                                refine value_ (w1 := ?_) (v := ?_) (by rfl) rfl ?_ ?_
                                rotate_left 2
                                · go_simp
                                  constructor
                                  · rfl
                                  · rfl
                                have n0_ := Aside0.mk (HS.out.one LT.2)
                                clear HS
                                have HS := n0_
                                clear n0_
                                refine hK.out _ _ ⟨HS.out.cell0, (HS.out.now (fun _ h => (blk_cell (h.1.1) 1).trans rfl)), (HS.out.now (fun _ h => (blk_cell (h.1.1) 2).trans rfl))⟩ (fun hHeld => ?_)
                                clear hK K
                                refine norm_ (a' := ?_) ?_ ?_
                                rotate_left
                                · show Act.put _ (some 75) _ = _
                                  simp only [Act.put, List.setIfInBounds_toArray, List.set_cons_zero, List.set_cons_succ, i64_w, i32_w]
                                  rfl
                                exact norm_ (by first | (simp only [putAll, Act.put, List.setIfInBounds_toArray, List.set_cons_zero, List.set_cons_succ]; done) | (simp only [putAll, Act.put, List.setIfInBounds_toArray, List.set_cons_zero, List.set_cons_succ]; rfl)) (hJ5_9_10_11_18 (wN5_9_10_18.heap.size, b82) _ ⟨hHeld, HS.out.imp (fun _ _ h => ⟨⟨h.1.1, h.2⟩, h.1.2⟩)⟩)
                              · skip
                                refine value_ (w1 := ?_) (v := ?_) (by rfl) rfl ?_ ?_
                                rotate_left 2
                                · go_simp
                                  constructor
                                  · rfl
                                  · rfl
                                have n0_ := Aside0.mk (HS.out.thing 3 [xi, yi] 0 (.slice (some ⟨b82, 0, none⟩) 2 2) (fun _ _ h => h.2))
                                clear HS
                                have HS := n0_
                                clear n0_
                                refine hK.out _ _ ⟨HS.out.cell0, (HS.out.now (fun _ h => (blk_cell (h.1.1) 1).trans rfl)), (HS.out.now (fun _ h => (blk_cell (h.1.1) 2).trans rfl))⟩ (fun hHeld => ?_)
                                clear hK K
                                refine norm_ (a' := ?_) ?_ ?_
                                rotate_left
                                · show Act.put _ (some 84) _ = _
                                  simp only [Act.put, List.setIfInBounds_toArray, List.set_cons_zero, List.set_cons_succ, i64_w, i32_w]
                                  rfl
                                exact norm_ (by first | (simp only [putAll, Act.put, List.setIfInBounds_toArray, List.set_cons_zero, List.set_cons_succ]; done) | (simp only [putAll, Act.put, List.setIfInBounds_toArray, List.set_cons_zero, List.set_cons_succ]; rfl)) (hJ5_9_10_18_20 (b82, wN5_9_10_18.heap.size) _ ⟨hHeld, HS.out.imp (fun _ _ h => ⟨h.1.1, h.2⟩)⟩)
                          · skip
                            rintro b75 wN5_9_10_11 ⟨hS_, hR_⟩
                            clear HS
                            have HS : Aside0 (Run w wN5_9_10_11 g gt vt vt vl LT.1 ids l (fun W' V' => (W'.heap[ga]? = some (.cells #[.int .i64 ki, .int .i64 xi, .int .i64 yi, .slice A3 m c3', .bool bi] 45 (0, 0))) ∧ (Kd.C (Kd.int .i64) W' (some ⟨b75, 0, none⟩) 1 [LT.2]))) := ⟨hR_⟩
                            clear hR_
                            have hHeld : wN5_9_10_11.cell? ⟨gt, 0, none⟩ = some vt ∧ wN5_9_10_11.cell? ⟨ga, 1, none⟩ = some (.int .i64 xi) ∧ wN5_9_10_11.cell? ⟨ga, 2, none⟩ = some (.int .i64 yi) := hS_
                            clear hS_
                            refine norm_ (a' := ?_) ?_ ?_
                            rotate_left
                            · simp only [putAll, Act.put, List.setIfInBounds_toArray, List.set_cons_zero, List.set_cons_succ]
                              rfl
                            refine two_ (i := 12) (j := 18) (Ni := some 76) (Nj := some 82) #[true, true, true, true, true, true, true, true, true, true, true, true, true, true, true, true, true, true, false, false, false, false, false, false] #[true, true, true, true, true, true, true, true, true, true, true, true, false, true, true, true, true, true, true, false, false, false, false, false] rfl rfl rfl rfl (by kernel_rfl) (by decide) (by decide) (fun K hK => ?_) (fun K hK => ?_)
                            · skip
                              obtain ⟨U, V, hS⟩ := HS.out
                              refine Kd.R_append_rows_step (Kd.int .i64) (w0 := w) w.heap.size (by rfl) (.tmp 64) (.tmp 75) 42 3 (.int .i64 0) 8 rfl Try.underlying42 info3 rfl (by decide) (by decide) vt ids [LT.2] _ 1 1 (fun k => k ≠ g ∧ k ≠ gt ∧ ¬ U k ∧ ¬ V k) (fun _ => False) rfl rfl hS.things (hS.keep.now.2) (fun _ _ h => h) (fun _ h => h.elim) (fun k hk => ⟨by have := hS.book.lt; omega, by have := hS.gtlt; omega, (hS.fresh k hk).2.2⟩) hS.below hS.below.size (by have := HBN.out; omega) ?_
                              intro v53 wX hR hB hgr hat
                              have n0_ := Aside0.mk (show Run w wX g gt vt v53 vl _ _ l _ from ⟨U, V, hS.pushed hR hB hgr hat⟩)
                              clear hR hB hgr hat hS
                              clear HS
                              have HS := n0_
                              clear n0_
                              refine hK.out _ _ ⟨HS.out.cell0, (HS.out.now (fun _ h => (blk_cell (h.1) 1).trans rfl)), (HS.out.now (fun _ h => (blk_cell (h.1) 2).trans rfl))⟩ (fun hHeld => ?_)
                              clear hK K
                              refine norm_ (a' := ?_) ?_ ?_
                              rotate_left
                              · show Act.put _ (some 76) _ = _
                                simp only [Act.put, List.setIfInBounds_toArray, List.set_cons_zero, List.set_cons_succ, i64_w, i32_w]
                                rfl
                              exact norm_ (by first | (simp only [putAll, Act.put, List.setIfInBounds_toArray, List.set_cons_zero, List.set_cons_succ]; done) | (simp only [putAll, Act.put, List.setIfInBounds_toArray, List.set_cons_zero, List.set_cons_succ]; rfl)) (hJ5_9_10_11_12 (b75, v53) _ ⟨hHeld, HS.out.imp (fun _ _ h => h.1)⟩)
                            · skip
                              refine value_ (w1 := ?_) (v := ?_) (by rfl) rfl ?_ ?_
                              rotate_left 2
                              · go_simp
                                constructor
                                · rfl
                                · rfl
                              have n0_ := Aside0.mk (HS.out.pair xi yi)
                              clear HS
                              have HS := n0_
                              clear n0_
                              refine hK.out _ _ ⟨HS.out.cell0, (HS.out.now (fun _ h => (blk_cell (h.1.1) 1).trans rfl)), (HS.out.now (fun _ h => (blk_cell (h.1.1) 2).trans rfl))⟩ (fun hHeld => ?_)
                              clear hK K
                              refine norm_ (a' := ?_) ?_ ?_
                              rotate_left
                              · show Act.put _ (some 82) _ = _
                                simp only [Act.put, List.setIfInBounds_toArray, List.set_cons_zero, List.set_cons_succ, i64_w, i32_w]
                                rfl
                              refine pure_ (i := 19) (N := some 83) (v := ?_) (a' := ?_) #[true, true, true, true, true, true, true, true, true, true, true, true, false, true, true, true, true, true, true, true, false, false, false, false] rfl rfl (by kernel_rfl) (fun _ _ _ h => h) (Or.inl ⟨by rfl, ?_⟩) ?_ ?_
                              rotate_left
                              · intro w'
                                go_simp
                                with_reducible rfl
                              rotate_left
                              · simp only [Act.put, List.setIfInBounds_toArray, List.set_cons_zero, List.set_cons_succ, i64_w, i32_w]
                                rfl
                              exact norm_ (by first | (simp only [putAll, Act.put, List.setIfInBounds_toArray, List.set_cons_zero, List.set_cons_succ]; done) | (simp only [putAll, Act.put, List.setIfInBounds_toArray, List.set_cons_zero, List.set_cons_succ]; rfl)) (hJ5_9_10_11_18 (b75, wN5_9_10_11.heap.size) _ ⟨hHeld, HS.out.imp (fun _ _ h => ⟨⟨h.1.1, h.1.2⟩, h.2⟩)⟩)
                        · skip
                          rintro ⟨b82, b84⟩ wN5_9_10_18_20 ⟨hS_, hR_⟩
                          clear HS
                          have HS : Aside0 (Run w wN5_9_10_18_20 g gt vt vt vl LT.1 ids l (fun W' V' => (W'.heap[ga]? = some (.cells #[.int .i64 ki, .int .i64 xi, .int .i64 yi, .slice A3 m c3', .bool bi] 45 (0, 0))) ∧ (TX w.heap.size b84 ⟨3, [xi, yi], 0⟩ W' V'))) := ⟨hR_⟩
                          clear hR_
                          have hHeld : wN5_9_10_18_20.cell? ⟨gt, 0, none⟩ = some vt ∧ wN5_9_10_18_20.cell? ⟨ga, 1, none⟩ = some (.int .i64 xi) ∧ wN5_9_10_18_20.cell? ⟨ga, 2, none⟩ = some (.int .i64 yi) := hS_
                          clear hS_
                          refine norm_ (a' := ?_) ?_ ?_
                          rotate_left
                          · simp only [putAll, Act.put, List.setIfInBounds_toArray, List.set_cons_zero, List.set_cons_succ]
                            rfl
                          refine one_ (i := 11) (N := some 75) #[true, true, true, true, true, true, true, true, true, true, true, true, false, true, true, true, true, true, true, true, true, false, false, false] rfl rfl (by kernel_rfl) (by decide) (fun K hK => ?_)
                          refine value_ (w1 := ?_) (v := ?_) (by rfl) rfl ?_ ?_
                          rotate_left 2
                          · go_simp
                            constructor
                            · rfl
                            · rfl
                          have n0_ := Aside0.mk (HS.out.one LT.2)
                          clear HS
                          have HS := n0_
                          clear n0_
                          refine hK.out _ _ ⟨HS.out.cell0, (HS.out.now (fun _ h => (blk_cell (h.1.1) 1).trans rfl)), (HS.out.now (fun _ h => (blk_cell (h.1.1) 2).trans rfl))⟩ (fun hHeld => ?_)
                          clear hK K
                          refine norm_ (a' := ?_) ?_ ?_
                          rotate_left
                          · show Act.put _ (some 75) _ = _
                            simp only [Act.put, List.setIfInBounds_toArray, List.set_cons_zero, List.set_cons_succ, i64_w, i32_w]
                            rfl
                          exact norm_ (by first | (simp only [putAll, Act.put, List.setIfInBounds_toArray, List.set_cons_zero, List.set_cons_succ]; done) | (simp only [putAll, Act.put, List.setIfInBounds_toArray, List.set_cons_zero, List.set_cons_succ]; rfl)) (hJ5_9_10_11_18_20 (wN5_9_10_18_20.heap.size, b82, b84) _ ⟨hHeld, HS.out.imp (fun _ _ h => ⟨⟨h.1.1, h.2⟩, h.1.2⟩)⟩)
                      · skip
                        rintro ⟨b75, b82⟩ wN5_9_10_11_18 ⟨hS_, hR_⟩
                        clear HS
                        have HS : Aside0 (Run w wN5_9_10_11_18 g gt vt vt vl LT.1 ids l (fun W' V' => ((W'.heap[ga]? = some (.cells #[.int .i64 ki, .int .i64 xi, .int .i64 yi, .slice A3 m c3', .bool bi] 45 (0, 0))) ∧ (Kd.C (Kd.int .i64) W' (some ⟨b75, 0, none⟩) 1 [LT.2])) ∧ ((Kd.int .i64).R 3 W' w.heap.size V' (.slice (some ⟨b82, 0, none⟩) 2 2) [xi, yi]))) := ⟨hR_⟩
                        clear hR_
                        have hHeld : wN5_9_10_11_18.cell? ⟨gt, 0, none⟩ = some vt ∧ wN5_9_10_11_18.cell? ⟨ga, 1, none⟩ = some (.int .i64 xi) ∧ wN5_9_10_11_18.cell? ⟨ga, 2, none⟩ = some (.int .i64 yi) := hS_
                        clear hS_
                        refine norm_ (a' := ?_) ?_ ?_
                        rotate_left
                        · simp only [putAll, Act.put, List.setIfInBounds_toArray, List.set_cons_zero, List.set_cons_succ]
                          rfl
                        refine two_ (i := 12) (j := 20) (Ni := some 76) (Nj := some 84) #[true, true, true, true, true, true, true, true, true, true, true, true, true, true, true, true, true, true, true, true, false, false, false, false] #[true, true, true, true, true, true, true, true, true, true, true, true, false, true, true, true, true, true, true, true, true, false, false, false] rfl rfl rfl rfl (by kernel_rfl) (by decide) (by decide) (fun K hK => ?_) (fun K hK => ?_)
                        · skip
                          obtain ⟨U, V, hS⟩ := HS.out
                          refine Kd.R_append_rows_step (Kd.int .i64) (w0 := w) w.heap.size (by rfl) (.tmp 64) (.tmp 75) 42 3 (.int .i64 0) 8 rfl Try.underlying42 info3 rfl (by decide) (by decide) vt ids [LT.2] _ 1 1 (fun k => k ≠ g ∧ k ≠ gt ∧ ¬ U k ∧ ¬ V k) (fun _ => False) rfl rfl hS.things (hS.keep.now.1.2) (fun _ _ h => h) (fun _ h => h.elim) (fun k hk => ⟨by have := hS.book.lt; omega, by have := hS.gtlt; omega, (hS.fresh k hk).2.2⟩) hS.below hS.below.size (by have := HBN.out; omega) ?_
                          intro v53 wX hR hB hgr hat
                          have n0_ := Aside0.mk (show Run w wX g gt vt v53 vl _ _ l _ from ⟨U, V, hS.pushed hR hB hgr hat⟩)
                          clear hR hB hgr hat hS
                          clear HS
                          have HS := n0_
                          clear n0_
                          refine hK.out _ _ ⟨HS.out.cell0, (HS.out.now (fun _ h => (blk_cell (h.1.1) 1).trans rfl)), (HS.out.now (fun _ h => (blk_cell (h.1.1) 2).trans rfl))⟩ (fun hHeld => ?_)
                          clear hK K
                          refine norm_ (a' := ?_) ?_ ?_
                          rotate_left
                          · show Act.put _ (some 76) _ = _
                            simp only [Act.put, List.setIfInBounds_toArray, List.set_cons_zero, List.set_cons_succ, i64_w, i32_w]
                            rfl
                          exact norm_ (by first | (simp only [putAll, Act.put, List.setIfInBounds_toArray, List.set_cons_zero, List.set_cons_succ]; done) | (simp only [putAll, Act.put, List.setIfInBounds_toArray, List.set_cons_zero, List.set_cons_succ]; rfl)) (hJ5_9_10_11_12_18 (b75, v53, b82) _ ⟨hHeld, HS.out.imp (fun _ _ h => ⟨h.1.1, h.2⟩)⟩)
                        · skip
                          refine value_ (w1 := ?_) (v := ?_) (by rfl) rfl ?_ ?_
                          rotate_left 2
                          · go_simp
                            constructor
                            · rfl
                            · rfl
                          have n0_ := Aside0.mk (HS.out.thing 3 [xi, yi] 0 (.slice (some ⟨b82, 0, none⟩) 2 2) (fun _ _ h => h.2))
                          clear HS
                          have HS := n0_
                          clear n0_
                          refine hK.out _ _ ⟨HS.out.cell0, (HS.out.now (fun _ h => (blk_cell (h.1.1.1) 1).trans rfl)), (HS.out.now (fun _ h => (blk_cell (h.1.1.1) 2).trans rfl))⟩ (fun hHeld => ?_)
                          clear hK K
                          refine norm_ (a' := ?_) ?_ ?_
                          rotate_left
                          · show Act.put _ (some 84) _ = _
                            simp only [Act.put, List.setIfInBounds_toArray, List.set_cons_zero, List.set_cons_succ, i64_w, i32_w]
                            rfl
                          exact norm_ (by first | (simp only [putAll, Act.put, List.setIfInBounds_toArray, List.set_cons_zero, List.set_cons_succ]; done) | (simp only [putAll, Act.put, List.setIfInBounds_toArray, List.set_cons_zero, List.set_cons_succ]; rfl)) (hJ5_9_10_11_18_20 (b75, b82, wN5_9_10_11_18.heap.size) _ ⟨hHeld, HS.out.imp (fun _ _ h => ⟨⟨h.1.1.1, h.1.1.2⟩, h.2⟩)⟩)
                    · skip
                      rintro ⟨b75, v53⟩ wN5_9_10_11_12 ⟨hS_, hR_⟩
                      clear HS
                      have HS : Aside0 (Run w wN5_9_10_11_12 g gt vt v53 vl LT.1 (ids ++ [LT.2]) l (fun W' V' => W'.heap[ga]? = some (.cells #[.int .i64 ki, .int .i64 xi, .int .i64 yi, .slice A3 m c3', .bool bi] 45 (0, 0)))) := ⟨hR_⟩
                      clear hR_
                      have hHeld : wN5_9_10_11_12.cell? ⟨gt, 0, none⟩ = some vt ∧ wN5_9_10_11_12.cell? ⟨ga, 1, none⟩ = some (.int .i64 xi) ∧ wN5_9_10_11_12.cell? ⟨ga, 2, none⟩ = some (.int .i64 yi) := hS_
                      clear hS_
                      refine norm_ (a' := ?_) ?_ ?_
                      rotate_left
                      · simp only [putAll, Act.put, List.setIfInBounds_toArray, List.set_cons_zero, List.set_cons_succ]
                        rfl
                      refine one_ (i := 18) (N := some 82) #[true, true, true, true, true, true, true, true, true, true, true, true, true, true, true, true, true, true, true, false, false, false, false, false] rfl rfl (by kernel_rfl) (by decide) (fun K hK => ?_)
                      refine value_ (w1 := ?_) (v := ?_) (by rfl) rfl ?_ ?_
                      rotate_left 2
                      · go_simp
                        constructor
                        · rfl
                        · rfl
                      have n0_ := Aside0.mk (HS.out.pair xi yi)
                      clear HS
                      have HS := n0_
                      clear n0_
                      refine hK.out _ _ ⟨HS.out.cell0, (HS.out.now (fun _ h => (blk_cell (h.1) 1).trans rfl)), (HS.out.now (fun _ h => (blk_cell (h.1) 2).trans rfl))⟩ (fun hHeld => ?_)
                      clear hK K
                      refine norm_ (a' := ?_) ?_ ?_
                      rotate_left
                      · show Act.put _ (some 82) _ = _
                        simp only [Act.put, List.setIfInBounds_toArray, List.set_cons_zero, List.set_cons_succ, i64_w, i32_w]
                        rfl
                      refine pure_ (i := 19) (N := some 83) (v := ?_) (a' := ?_) #[true, true, true, true, true, true, true, true, true, true, true, true, true, true, true, true, true, true, true, true, false, false, false, false] rfl rfl (by kernel_rfl) (fun _ _ _ h => h) (Or.inl ⟨by rfl, ?_⟩) ?_ ?_
                      rotate_left
                      · intro w'
                        go_simp
                        with_reducible rfl
                      rotate_left
                      · simp only [Act.put, List.setIfInBounds_toArray, List.set_cons_zero, List.set_cons_succ, i64_w, i32_w]
                        rfl
                      exact norm_ (by first | (simp only [putAll, Act.put, List.setIfInBounds_toArray, List.set_cons_zero, List.set_cons_succ]; done) | (simp only [putAll, Act.put, List.setIfInBounds_toArray, List.set_cons_zero, List.set_cons_succ]; rfl)) (hJ5_9_10_11_12_18 (b75, v53, wN5_9_10_11_12.heap.size) _ ⟨hHeld, HS.out.imp (fun _ _ h => ⟨h.1, h.2⟩)⟩)
                  · skip
                    rintro ⟨b75, b82, b84⟩ wN5_9_10_11_18_20 ⟨hS_, hR_⟩
                    clear HS
                    have HS : Aside0 (Run w wN5_9_10_11_18_20 g gt vt vt vl LT.1 ids l (fun W' V' => ((W'.heap[ga]? = some (.cells #[.int .i64 ki, .int .i64 xi, .int .i64 yi, .slice A3 m c3', .bool bi] 45 (0, 0))) ∧ (Kd.C (Kd.int .i64) W' (some ⟨b75, 0, none⟩) 1 [LT.2])) ∧ (TX w.heap.size b84 ⟨3, [xi, yi], 0⟩ W' V'))) := ⟨hR_⟩
                    clear hR_
                    have hHeld : wN5_9_10_11_18_20.cell? ⟨gt, 0, none⟩ = some vt ∧ wN5_9_10_11_18_20.cell? ⟨ga, 1, none⟩ = some (.int .i64 xi) ∧ wN5_9_10_11_18_20.cell? ⟨ga, 2, none⟩ = some (.int .i64 yi) := hS_
                    clear hS_
                    refine norm_ (a' := ?_) ?_ ?_
                    rotate_left
                    · simp only [putAll, Act.put, List.setIfInBounds_toArray, List.set_cons_zero, List.set_cons_succ]
                      rfl
                    refine one_ (i := 12) (N := some 76) #[true, true, true, true, true, true, true, true, true, true, true, true, true, true, true, true, true, true, true, true, true, false, false, false] rfl rfl (by kernel_rfl) (by decide) (fun K hK => ?_)
                    obtain ⟨U, V, hS⟩ := HS.out
                    refine Kd.R_append_rows_step (Kd.int .i64) (w0 := w) w.heap.size (by rfl) (.tmp 64) (.tmp 75) 42 3 (.int .i64 0) 8 rfl Try.underlying42 info3 rfl (by decide) (by decide) vt ids [LT.2] _ 1 1 (fun k => k ≠ g ∧ k ≠ gt ∧ ¬ U k ∧ ¬ V k) (fun _ => False) rfl rfl hS.things (hS.keep.now.1.2) (fun _ _ h => h) (fun _ h => h.elim) (fun k hk => ⟨by have := hS.book.lt; omega, by have := hS.gtlt; omega, (hS.fresh k hk).2.2⟩) hS.below hS.below.size (by have := HBN.out; omega) ?_
                    intro v53 wX hR hB hgr hat
                    have n0_ := Aside0.mk (show Run w wX g gt vt v53 vl _ _ l _ from ⟨U, V, hS.pushed hR hB hgr hat⟩)
                    clear hR hB hgr hat hS
                    clear HS
                    have HS := n0_
                    clear n0_
                    refine hK.out _ _ ⟨HS.out.cell0, (HS.out.now (fun _ h => (blk_cell (h.1.1) 1).trans rfl)), (HS.out.now (fun _ h => (blk_cell (h.1.1) 2).trans rfl))⟩ (fun hHeld => ?_)
                    clear hK K
                    refine norm_ (a' := ?_) ?_ ?_
                    rotate_left
                    · show Act.put _ (some 76) _ = _
                      simp only [Act.put, List.setIfInBounds_toArray, List.set_cons_zero, List.set_cons_succ, i64_w, i32_w]
                      rfl
                    exact norm_ (by first | (simp only [putAll, Act.put, List.setIfInBounds_toArray, List.set_cons_zero, List.set_cons_succ]; done) | (simp only [putAll, Act.put, List.setIfInBounds_toArray, List.set_cons_zero, List.set_cons_succ]; rfl)) (hJ5_9_10_11_12_18_20 (b75, v53, b82, b84) _ ⟨hHeld, HS.out.imp (fun _ _ h => ⟨h.1.1, h.2⟩)⟩)
                · skip
                  rintro ⟨b75, v53, b82⟩ wN5_9_10_11_12_18 ⟨hS_, hR_⟩
                  clear HS
                  have HS : Aside0 (Run w wN5_9_10_11_12_18 g gt vt v53 vl LT.1 (ids ++ [LT.2]) l (fun W' V' => (W'.heap[ga]? = some (.cells #[.int .i64 ki, .int .i64 xi, .int .i64 yi, .slice A3 m c3', .bool bi] 45 (0, 0))) ∧ ((Kd.int .i64).R 3 W' w.heap.size V' (.slice (some ⟨b82, 0, none⟩) 2 2) [xi, yi]))) := ⟨hR_⟩
                  clear hR_
                  have hHeld : wN5_9_10_11_12_18.cell? ⟨gt, 0, none⟩ = some vt ∧ wN5_9_10_11_12_18.cell? ⟨ga, 1, none⟩ = some (.int .i64 xi) ∧ wN5_9_10_11_12_18.cell? ⟨ga, 2, none⟩ = some (.int .i64 yi) := hS_
                  clear hS_
                  refine norm_ (a' := ?_) ?_ ?_
                  rotate_left
                  · simp only [putAll, Act.put, List.setIfInBounds_toArray, List.set_cons_zero, List.set_cons_succ]
                    rfl
                  refine one_ (i := 20) (N := some 84) #[true, true, true, true, true, true, true, true, true, true, true, true, true, true, true, true, true, true, true, true, true, false, false, false] rfl rfl (by kernel_rfl) (by decide) (fun K hK => ?_)
                  refine value_ (w1 := ?_) (v := ?_) (by rfl) rfl ?_ ?_
                  rotate_left 2
                  · go_simp
                    constructor
                    · rfl
                    · rfl
                  have n0_ := Aside0.mk (HS.out.thing 3 [xi, yi] 0 (.slice (some ⟨b82, 0, none⟩) 2 2) (fun _ _ h => h.2))
                  clear HS
                  have HS := n0_
                  clear n0_
                  refine hK.out _ _ ⟨HS.out.cell0, (HS.out.now (fun _ h => (blk_cell (h.1.1) 1).trans rfl)), (HS.out.now (fun _ h => (blk_cell (h.1.1) 2).trans rfl))⟩ (fun hHeld => ?_)
                  clear hK K
                  refine norm_ (a' := ?_) ?_ ?_
                  rotate_left
                  · show Act.put _ (some 84) _ = _
                    simp only [Act.put, List.setIfInBounds_toArray, List.set_cons_zero, List.set_cons_succ, i64_w, i32_w]
                    rfl
                  exact norm_ (by first | (simp only [putAll, Act.put, List.setIfInBounds_toArray, List.set_cons_zero, List.set_cons_succ]; done) | (simp only [putAll, Act.put, List.setIfInBounds_toArray, List.set_cons_zero, List.set_cons_succ]; rfl)) (hJ5_9_10_11_12_18_20 (b75, v53, b82, wN5_9_10_11_12_18.heap.size) _ ⟨hHeld, HS.out.imp (fun _ _ h => ⟨h.1.1, h.2⟩)⟩)
              rintro ⟨b75, v53, b82, b84⟩ wN5_9_10_11_12_18_20 ⟨hS_, hR_⟩
              clear HS
              have HS : Aside0 (Run w wN5_9_10_11_12_18_20 g gt vt v53 vl LT.1 (ids ++ [LT.2]) l (fun W' V' => (W'.heap[ga]? = some (.cells #[.int .i64 ki, .int .i64 xi, .int .i64 yi, .slice A3 m c3', .bool bi] 45 (0, 0))) ∧ (TX w.heap.size b84 ⟨3, [xi, yi], 0⟩ W' V'))) := ⟨hR_⟩
              clear hR_
              have hHeld : wN5_9_10_11_12_18_20.cell? ⟨gt, 0, none⟩ = some vt ∧ wN5_9_10_11_12_18_20.cell? ⟨ga, 1, none⟩ = some (.int .i64 xi) ∧ wN5_9_10_11_12_18_20.cell? ⟨ga, 2, none⟩ = some (.int .i64 yi) := hS_
              clear hS_
              refine norm_ (a' := ?_) ?_ ?_
              rotate_left
              · simp only [putAll, Act.put, List.setIfInBounds_toArray, List.set_cons_zero, List.set_cons_succ]
                rfl
              refine last_ (i := 21) (N := some 85) #[true, true, true, true, true, true, true, true, true, true, true, true, true, true, true, true, true, true, true, true, true, true, false, false] rfl rfl (by kernel_rfl) (by decide) (fun K hK => ?_)
              obtain ⟨U, V, hS⟩ := HS.out
              refine Kd.R_append_rows_step k51 (w0 := w) w.heap.size (by rfl) (.tmp 77) (.tmp 84) 52 51 (.agg #[.int .i64 0, .slice none 0 0, .int .i64 0]) 40 rfl Try.underlying52 info51 rfl (by decide) (by decide) vl l [⟨3, [xi, yi], 0⟩] _ 1 1 (fun k => U k ∨ V k ∨ _ ≤ k) V rfl rfl (Kd.R_mono hS.row (fun k hk => .inl hk)) (TX.reads (hS.keep.now.2)) (fun _ _ h => h) (fun k hk => ⟨.inr (.inl hk), fun he => (hS.hU k (hS.row.1 k he.symm)).2.2.2 hk⟩) (fun k hk => .inr (.inr hk)) hS.below hS.below.size (by have := HBN.out; omega) ?_
              intro v57 wX hR hB hgr hat
              have n0_ := Aside0.mk (show Run w wX g gt vt _ v57 _ _ _ _ from ⟨_, _, hS.rowed hR hB hgr⟩)
              clear hR hB hgr hat hS
              clear HS
              have HS := n0_
              clear n0_
              obtain ⟨A53, c53, e53, -, -⟩ := HS.out.thingsC
              subst e53
              generalize hm1_ : List.length (_ ++ [_]) = m53 at HS ⊢
              clear hm1_
              have hcg := HS.out.cell0
              have hz1 := blk_frozen HS.out.cell 0
              refine hK.out _ _ ?_
              clear hK K
              refine norm_ (a' := ?_) ?_ ?_
              rotate_left
              · show Act.put _ (some 85) _ = _
                simp only [Act.put, List.setIfInBounds_toArray, List.set_cons_zero, List.set_cons_succ, i64_w, i32_w]
                rfl
              refine last_ (i := 22) (N := none) #[true, true, true, true, true, true, true, true, true, true, true, true, true, true, true, true, true, true, true, true, true, true, true, false] rfl rfl (by kernel_rfl) (by decide) (fun K hK => ?_)
              refine skip_ (w1 := ?_) (by rfl) rfl ?_ ?_
              rotate_left
              · go_simp
                rfl
              refine hK.out _ _ ?_
              clear hK K
              refine pure_ (i := 23) (N := some 5) (v := ?_) (a' := ?_) #[true, true, true, true, true, true, true, true, true, true, true, true, true, true, true, true, true, true, true, true, true, true, true, true] rfl rfl (by kernel_rfl) (fun _ _ _ h => h) (Or.inl ⟨by rfl, ?_⟩) ?_ ?_
              rotate_left
              · intro w'
                go_simp
                with_reducible rfl
              rotate_left
              · simp only [Act.put, List.setIfInBounds_toArray, List.set_cons_zero, List.set_cons_succ, i64_w, i32_w]
                rfl
              refine done_ (by kernel_rfl) ?_
              have HS2 := Aside0.mk HS.out.stored
              generalize hwX : World.setCell _ _ _ = wX at HS2 ⊢
              clear hwX hcg hz1 HS HE39
              go_wp2_with fail
              go_meet
              case rel => exact ⟨_, _, _, _, _, rfl, HS2, HDn, ⟨lens_more HLen.out (by have := two_len L 2 r1 r2; rw [HLT.out] at this; omega) (by have := two_len L 2 r1 r2; rw [HLT.out] at this; rw [HNL.out]; omega) (by simp)⟩⟩
            · have k1 : (ki == 1) = false := by simp [hk1]
              by_cases hk2 : ki = 2
              · as_aux_lemma =>
                have k2 : (ki == 2) = true := by simp [hk2]
                have he39 := fun (args : Array Value) (W : World) => enters_ (P := Try.prog) Try.func39 (by kernel_rfl) rfl args W
                have HE39 := Aside0.mk he39
                have HO0 := Aside0.mk (show (Kd.int .i64).R 3 (wA.alloc (.cells #[] 3)) wA.heap.size (fun _ => True) (.slice (some ⟨wA.heap.size, 0, none⟩) 0 0) [] from Kd.R_of_own (own_lit_of (enc := fun z : Int => Value.int .i64 z) wA wA.heap.size 3 [] (Nat.le_refl _) (by decide)) (fun _ _ => trivial))
                have HB0 := Aside0.mk (below_alloc (Below.refl wA.heap.size wA) (.cells #[] 3))
                clear hk0 hk1 hk2 HLn he39
                go_upto_region 26 with (fail)
                generalize hwB : World.alloc wA _ = wB at HO0 HB0 ⊢
                generalize hvo : Value.slice (some ⟨wA.heap.size, 0, none⟩) 0 0 = vo0 at HO0 ⊢
                have hgb := blk_below HGA.out HB0.out
                clear hwB hvo k0 k1 k2
                have ca3 : wB.cell? ⟨ga, 3, none⟩ = some (.slice A3 m c3') := (blk_cell hgb 3).trans rfl
                clear hgb
                go_wp2_with fail
                clear ca3
                go_loopg [10, 92] m (fun kq v10 v92 w' => ∃ j : Nat, Aside0 (kq + j = m) ∧ v92 = .int .i64 (j : Int) ∧ Aside0 ((Kd.int .i64).R 3 w' wA.heap.size (fun _ => True) v10 ((xs.take j).map (idAt ids ids.length))) ∧ Aside0 (Below wA.heap.size wA w'))
                case atStart => exact ⟨0, ⟨by omega⟩, rfl, ⟨by simpa using HO0.out⟩, HB0⟩
                case round =>
                  clear HO0 HB0
                  obtain ⟨j, hj, rfl, HO, HBo⟩ := hrel
                  by_cases c5 : j < m
                  · obtain ⟨y, hy⟩ : ∃ y : Int, y = (j : Int) := ⟨_, rfl⟩
                    have y0 : 0 ≤ y := by omega
                    have y1 : y < (m : Int) := by omega
                    obtain ⟨ad5, rfl, hcell⟩ := (Kd.reads_of_C (enc := Value.int .i64) (d := (0 : Int)) (h1 := fun _ => rfl) (Kd.C_below HC3.out (HSA.out.below_ HBo.out).below)).at_ y y0 y1
                    have hjl : j < xs.length := by have := HM.out; omega
                    obtain ⟨x, hx⟩ : ∃ x, x = rdOf 0 xs y := ⟨_, rfl⟩
                    have hxs : (xs.take (j + 1)).map (idAt ids ids.length) = (xs.take j).map (idAt ids ids.length) ++ [idAt ids ids.length x] := by
                      rw [List.take_succ_eq_append_getElem hjl, List.map_append, hx, hy]
                      unfold rdOf
                      rw [Int.toNat_natCast, List.getD_eq_getElem?_getD, List.getElem?_eq_getElem hjl]
                      rfl
                    rw [← hx] at hcell
                    obtain ⟨px, hpx⟩ : ∃ p, p = idAt ids ids.length x := ⟨_, rfl⟩
                    have HPk := Aside0.mk ((HSA.out.below_ HBo.out).at_ x hpx.symm)
                    rw [← hpx] at hxs
                    have HXS := Aside0.mk hxs
                    have Y1 := Aside0.mk (show y + 1 = ((j + 1 : Nat) : Int) by omega)
                    have YB := Aside0.mk (show 0 ≤ y ∧ y < 100 by have := H10.out; omega)
                    have C5 := Aside0.mk c5
                    have q5 : decide (y < (m : Int)) = true := decide_eq_true y1
                    have hln : Aside0 ((((xs.take j).map (idAt ids ids.length)).length + 1) * 8 ≤ 140737488355328) := ⟨by have := H10.out; rw [List.length_map, List.length_take]; omega⟩
                    rw [← hy]
                    clear hxs hpx hx hjl c5 hy
                    replace y0 := eq_true y0
                    replace y1 := eq_true y1
                    go_wp2_with (first | (go_at_call 39; refine HPk.out.mono ?_; rintro e w6 ⟨rfl, rfl⟩) | (at_builtin; refine Kd.R_append (Kd.int .i64) (w0 := wA) wA.heap.size rfl (.tmp 96) (.tmp 100) 42 3 (.int .i64 0) 8 rfl Try.underlying42 info3 rfl (by decide) (by decide) _ ((xs.take j).map (idAt ids ids.length)) px [.int .i64 px] (fun _ => True) (fun _ => False) rfl rfl rfl (fun _ h => h.elim) (fun _ _ => trivial) HO.out HBo.out HBo.out.size hln.out ?_; intro v1 w7 hR hB hgr hat; have HO7 := Aside0.mk hR; have HB7 := Aside0.mk hB; clear hR hB hgr hat hcell q5 y0 y1; have y0 := YB.out.1; have y1 := YB.out.2))
                    go_roundg (m - (j + 1))
                    case measure => have := hj.out; have := C5.out; omega
                    case rel => exact ⟨j + 1, ⟨by have := C5.out; omega⟩, by rw [Y1.out], ⟨by rw [HXS.out]; exact HO7.out⟩, HB7⟩
                  · have hjm : j = xs.length := by have := hj.out; have := HM.out; omega
                    have q5 : decide ((j : Int) < (m : Int)) = false := by simp; omega
                    obtain ⟨ps, hps⟩ : ∃ ps, ps = xs.map (idAt ids ids.length) := ⟨_, rfl⟩
                    have HO2 : Aside0 ((Kd.int .i64).R 3 wr wA.heap.size (fun _ => True) u10 ps) := ⟨by have h := HO.out; rw [hjm, List.take_length, ← hps] at h; exact h⟩
                    have hpl : ps.length = m := by rw [hps, List.length_map]; exact HM.out.symm
                    have HDl := HD.out.len
                    have hid : ∀ x ∈ ps, x < L.length := fun x hx => by
                      rw [hps] at hx
                      obtain ⟨a, _, rfl⟩ := List.mem_map.1 hx
                      exact HD.out.idAt_lt _ (Nat.le_of_eq HDl) a
                    have HIdx := Aside0.mk hid
                    obtain ⟨LT, hLT⟩ : ∃ q, q = orAll L 0 ps := ⟨_, rfl⟩
                    have HDn := Aside0.mk (HD.out.or_ xs (orAll_ge _ L 0 HD.out.inv (Int.le_refl _) (by have := HD.out.inv.two_; omega) (fun x hx => by
                      obtain ⟨a, _, rfl⟩ := List.mem_map.1 hx
                      exact ⟨idAt_ge HD.out _ (Nat.le_refl _) a, HD.out.idAt_lt _ (Nat.le_refl _) a⟩)))
                    rw [← HDl, ← hps, ← hLT] at HDn
                    have HLT := Aside0.mk hLT.symm
                    have HPl := Aside0.mk hpl
                    have HInv := Aside0.mk HD.out.inv
                    have hwl := HSA.out.below.size
                    have HS2 := Aside0.mk (HSA.out.tmp (Y := fun W' V' => (Kd.int .i64).R 3 W' w.heap.size V' u10 ps) HBo.out (fun V _ hV => Keep.row (Kd.R_mono (Kd.R_lower (Kd.R_bound HO2.out) hwl) (fun k hk => hV k hk.2.1 hk.2.2.1))))
                    obtain ⟨Ao, co, eo, -, -⟩ := Kd.R_reads HO2.out
                    rw [hpl] at eo
                    subst eo
                    have ca3 : wr.cell? ⟨ga, 3, none⟩ = some (.slice A3 m c3') := (blk_cell (blk_below HGA.out HBo.out) 3).trans rfl
                    have hm0 : (0 : Int) ≤ (m : Int) ∧ (m : Int) ≤ 10 := by have := H10.out; omega
                    obtain ⟨mz, hmz⟩ : ∃ q : Int, q = (m : Int) := ⟨_, rfl⟩
                    obtain ⟨y, hy⟩ : ∃ y : Int, y = (j : Int) := ⟨_, rfl⟩
                    rw [← hy] at q5 ⊢
                    have m0 := hm0.1
                    have m1 := hm0.2
                    have HMb := Aside0.mk (show m ≤ 10 by omega)
                    clear hjm hps hpl hid hLT HDl hwl c5 hj hy HO HO2 hm0 hmz
                    go_upto_region 31 with (fail)
                    clear q5
                    go_upto_region 32 with (fail)
                    have HS := Aside0.mk HS2.out.drew
                    clear HSA HGA HS2 HBo ca3 HE39 H10 m0 m1
                    generalize hvl : u5 = vl at HS ⊢
                    clear hvl
                    refine start_ (n := 16) (S := fun w' => w'.cell? ⟨gt, 0, none⟩ = some vt ∧ w'.cell? ⟨ga, 3, none⟩ = some (.slice A3 m c3')) (ds := [10, 12, 13, 14]) #[false, false, false, false, false, false, false, false, false, false, false, false, false, false, false, false] (by kernel_rfl) rfl rfl ⟨HS.out.cell0, (HS.out.now (fun _ h => (blk_cell (h.1) 3).trans rfl))⟩ (fun hHeld => ?_)
                    generalize hwd_ : wr.drew = wD at HS hHeld ⊢
                    clear hwd_
                    refine pure_ (i := 1) (N := some 109) (v := ?_) (a' := ?_) #[false, true, false, false, false, false, false, false, false, false, false, false, false, false, false, false] rfl rfl (by kernel_rfl) (fun _ _ _ h => h) (Or.inl ⟨by rfl, ?_⟩) ?_ ?_
                    rotate_left
                    · intro w'
                      go_simp
                      with_reducible rfl
                    rotate_left
                    · simp only [Act.put, List.setIfInBounds_toArray, List.set_cons_zero, List.set_cons_succ, i64_w, i32_w]
                      rfl
                    refine pure_ (i := 2) (N := some 110) (v := ?_) (a' := ?_) #[false, true, true, false, false, false, false, false, false, false, false, false, false, false, false, false] rfl rfl (by kernel_rfl) (fun _ _ _ h => h) (Or.inl ⟨by rfl, ?_⟩) ?_ ?_
                    rotate_left
                    · intro w'
                      go_simp
                      with_reducible rfl
                    rotate_left
                    · simp only [Act.put, List.setIfInBounds_toArray, List.set_cons_zero, List.set_cons_succ, i64_w, i32_w]
                      rfl
                    refine pure_ (i := 6) (N := some 114) (v := ?_) (a' := ?_) #[false, true, true, false, false, false, true, false, false, false, false, false, false, false, false, false] rfl rfl (by kernel_rfl) (fun _ _ _ h => h) (Or.inl ⟨by rfl, ?_⟩) ?_ ?_
                    rotate_left
                    · intro w'
                      go_simp
                      with_reducible rfl
                    rotate_left
                    · simp only [Act.put, List.setIfInBounds_toArray, List.set_cons_zero, List.set_cons_succ, i64_w, i32_w]
                      rfl
                    refine pure_ (i := 8) (N := some 116) (v := ?_) (a' := ?_) #[false, true, true, false, false, false, true, false, true, false, false, false, false, false, false, false] rfl rfl (by kernel_rfl) (fun _ _ _ h => h) (Or.inl ⟨by rfl, ?_⟩) ?_ ?_
                    rotate_left
                    · intro w'
                      go_simp
                      with_reducible rfl
                    rotate_left
                    · simp only [Act.put, List.setIfInBounds_toArray, List.set_cons_zero, List.set_cons_succ, i64_w, i32_w]
                      rfl
                    refine take_ (i := 0) (N := some 108) (v := ?_) (a' := ?_) #[true, true, true, false, false, false, true, false, true, false, false, false, false, false, false, false] rfl rfl (by kernel_rfl) (fun _ _ _ h => h) (Or.inl ⟨by rfl, ?_⟩) hHeld ?_ ?_
                    rotate_left
                    · rintro w' ⟨s0, s1⟩
                      go_simp
                      with_reducible rfl
                    rotate_left
                    · simp only [Act.put, List.setIfInBounds_toArray, List.set_cons_zero, List.set_cons_succ, i64_w, i32_w]
                      rfl
                    refine take_ (i := 9) (N := some 117) (v := ?_) (a' := ?_) #[true, true, true, false, false, false, true, false, true, true, false, false, false, false, false, false] rfl rfl (by kernel_rfl) (fun _ _ _ h => h) (Or.inl ⟨by rfl, ?_⟩) hHeld ?_ ?_
                    rotate_left
                    · rintro w' ⟨s0, s1⟩
                      go_simp
                      with_reducible rfl
                    rotate_left
                    · simp only [Act.put, List.setIfInBounds_toArray, List.set_cons_zero, List.set_cons_succ, i64_w, i32_w]
                      rfl
                    refine join_ (σ := Nat × Value × Nat) 6 #[true, true, true, true, true, true, true, true, true, true, false, false, false, false, false, false] (fun s_ => [(111, .int .i64 LT.2), (112, .slice (some ⟨s_.1, 0, none⟩) 1 1), (113, s_.2.1), (115, .slice (some ⟨s_.2.2, 0, none⟩) 0 0)]) (fun s_ w' => (w'.cell? ⟨gt, 0, none⟩ = some vt ∧ w'.cell? ⟨ga, 3, none⟩ = some (.slice A3 m c3')) ∧ Run w w' g gt vt s_.2.1 vl LT.1 (ids ++ [LT.2]) l (fun W' V' => ((W'.heap[ga]? = some (.cells #[.int .i64 ki, .int .i64 xi, .int .i64 yi, .slice A3 m c3', .bool bi] 45 (0, 0))) ∧ ((Kd.int .i64).R 3 W' w.heap.size V' (.slice Ao m co) ps)) ∧ ((Kd.int .i64).R 3 W' w.heap.size V' (.slice (some ⟨s_.2.2, 0, none⟩) 0 0) []))) ?_ ?_
                    rotate_left
                    · intro hJ3_4_5_7
                      refine join_ (σ := Nat × Value) 7 #[true, true, true, true, true, true, true, false, true, true, false, false, false, false, false, false] (fun s_ => [(111, .int .i64 LT.2), (112, .slice (some ⟨s_.1, 0, none⟩) 1 1), (113, s_.2)]) (fun s_ w' => (w'.cell? ⟨gt, 0, none⟩ = some vt ∧ w'.cell? ⟨ga, 3, none⟩ = some (.slice A3 m c3')) ∧ Run w w' g gt vt s_.2 vl LT.1 (ids ++ [LT.2]) l (fun W' V' => (W'.heap[ga]? = some (.cells #[.int .i64 ki, .int .i64 xi, .int .i64 yi, .slice A3 m c3', .bool bi] 45 (0, 0))) ∧ ((Kd.int .i64).R 3 W' w.heap.size V' (.slice Ao m co) ps))) ?_ ?_
                      rotate_left
                      · intro hJ3_4_5
                        refine join_ (σ := Nat × Nat) 7 #[true, true, true, true, true, false, true, true, true, true, false, false, false, false, false, false] (fun s_ => [(111, .int .i64 LT.2), (112, .slice (some ⟨s_.1, 0, none⟩) 1 1), (115, .slice (some ⟨s_.2, 0, none⟩) 0 0)]) (fun s_ w' => (w'.cell? ⟨gt, 0, none⟩ = some vt ∧ w'.cell? ⟨ga, 3, none⟩ = some (.slice A3 m c3')) ∧ Run w w' g gt vt vt vl LT.1 ids l (fun W' V' => (((W'.heap[ga]? = some (.cells #[.int .i64 ki, .int .i64 xi, .int .i64 yi, .slice A3 m c3', .bool bi] 45 (0, 0))) ∧ ((Kd.int .i64).R 3 W' w.heap.size V' (.slice Ao m co) ps)) ∧ (Kd.C (Kd.int .i64) W' (some ⟨s_.1, 0, none⟩) 1 [LT.2])) ∧ ((Kd.int .i64).R 3 W' w.heap.size V' (.slice (some ⟨s_.2, 0, none⟩) 0 0) []))) ?_ ?_
                        rotate_left
                        · intro hJ3_4_7
                          refine join_ (σ := Nat) 8 #[true, true, true, true, true, false, true, false, true, true, false, false, false, false, false, false] (fun s_ => [(111, .int .i64 LT.2), (112, .slice (some ⟨s_, 0, none⟩) 1 1)]) (fun s_ w' => (w'.cell? ⟨gt, 0, none⟩ = some vt ∧ w'.cell? ⟨ga, 3, none⟩ = some (.slice A3 m c3')) ∧ Run w w' g gt vt vt vl LT.1 ids l (fun W' V' => ((W'.heap[ga]? = some (.cells #[.int .i64 ki, .int .i64 xi, .int .i64 yi, .slice A3 m c3', .bool bi] 45 (0, 0))) ∧ ((Kd.int .i64).R 3 W' w.heap.size V' (.slice Ao m co) ps)) ∧ (Kd.C (Kd.int .i64) W' (some ⟨s_, 0, none⟩) 1 [LT.2]))) ?_ ?_
                          rotate_left
                          · intro hJ3_4
                            refine join_ (σ := Nat) 8 #[true, true, true, true, false, false, true, true, true, true, false, false, false, false, false, false] (fun s_ => [(111, .int .i64 LT.2), (115, .slice (some ⟨s_, 0, none⟩) 0 0)]) (fun s_ w' => (w'.cell? ⟨gt, 0, none⟩ = some vt ∧ w'.cell? ⟨ga, 3, none⟩ = some (.slice A3 m c3')) ∧ Run w w' g gt vt vt vl LT.1 ids l (fun W' V' => ((W'.heap[ga]? = some (.cells #[.int .i64 ki, .int .i64 xi, .int .i64 yi, .slice A3 m c3', .bool bi] 45 (0, 0))) ∧ ((Kd.int .i64).R 3 W' w.heap.size V' (.slice Ao m co) ps)) ∧ ((Kd.int .i64).R 3 W' w.heap.size V' (.slice (some ⟨s_, 0, none⟩) 0 0) []))) ?_ ?_
                            rotate_left
                            · intro hJ3_7
                              refine join_ (σ := Unit) 9 #[true, true, true, true, false, false, true, false, true, true, false, false, false, false, false, false] (fun s_ => [(111, .int .i64 LT.2)]) (fun s_ w' => (w'.cell? ⟨gt, 0, none⟩ = some vt ∧ w'.cell? ⟨ga, 3, none⟩ = some (.slice A3 m c3')) ∧ Run w w' g gt vt vt vl LT.1 ids l (fun W' V' => (W'.heap[ga]? = some (.cells #[.int .i64 ki, .int .i64 xi, .int .i64 yi, .slice A3 m c3', .bool bi] 45 (0, 0))) ∧ ((Kd.int .i64).R 3 W' w.heap.size V' (.slice Ao m co) ps))) ?_ ?_
                              rotate_left
                              · intro hJ3
                                refine join_ (σ := Nat) 9 #[true, true, true, false, false, false, true, true, true, true, false, false, false, false, false, false] (fun s_ => [(115, .slice (some ⟨s_, 0, none⟩) 0 0)]) (fun s_ w' => (w'.cell? ⟨gt, 0, none⟩ = some vt ∧ w'.cell? ⟨ga, 3, none⟩ = some (.slice A3 m c3')) ∧ Run w w' g gt vt vt vl L ids l (fun W' V' => ((W'.heap[ga]? = some (.cells #[.int .i64 ki, .int .i64 xi, .int .i64 yi, .slice A3 m c3', .bool bi] 45 (0, 0))) ∧ ((Kd.int .i64).R 3 W' w.heap.size V' (.slice Ao m co) ps)) ∧ ((Kd.int .i64).R 3 W' w.heap.size V' (.slice (some ⟨s_, 0, none⟩) 0 0) []))) ?_ ?_
                                rotate_left
                                · intro hJ7
                                  refine two_ (i := 3) (j := 7) (Ni := some 111) (Nj := some 115) #[true, true, true, true, false, false, true, false, true, true, false, false, false, false, false, false] #[true, true, true, false, false, false, true, true, true, true, false, false, false, false, false, false] rfl rfl rfl rfl (by kernel_rfl) (by decide) (by decide) (fun K hK => ?_) (fun K hK => ?_)
                                  · skip
                                    refine goes_ Try.func36 (by kernel_rfl) rfl #[.pointer (some ⟨g, 0, none⟩), .slice Ao m co] (by rfl) rfl rfl (by simp only [List.map_toArray, List.map_cons, List.map_nil]; rfl) ?_
                                    with_reducible refine ((HS.out.or2 (by have := HBN.out; have := HMb.out; omega) HInv.out (fun _ _ h => (by have h2 := (Kd.R_reads' (h.2)).2.2; rw [HPl.out] at h2; exact h2)) HIdx.out HLT.out)).mono ?_
                                    rintro e w9 ⟨rfl, hR⟩
                                    refine ⟨_, rfl, ?_⟩
                                    have n0_ := Aside0.mk hR
                                    clear hR
                                    clear HS
                                    have HS := n0_
                                    clear n0_
                                    refine hK.out _ _ ⟨HS.out.cell0, (HS.out.now (fun _ h => (blk_cell (h.1) 3).trans rfl))⟩ (fun hHeld => ?_)
                                    clear hK K
                                    refine norm_ (a' := ?_) ?_ ?_
                                    rotate_left
                                    · show Act.put _ (some 111) _ = _
                                      simp only [Act.put, List.setIfInBounds_toArray, List.set_cons_zero, List.set_cons_succ, i64_w, i32_w]
                                      rfl
                                    exact norm_ (by first | (simp only [putAll, Act.put, List.setIfInBounds_toArray, List.set_cons_zero, List.set_cons_succ]; done) | (simp only [putAll, Act.put, List.setIfInBounds_toArray, List.set_cons_zero, List.set_cons_succ]; rfl)) (hJ3 () _ ⟨hHeld, HS.out.imp (fun _ _ h => h)⟩)
                                  · skip
                                    refine value_ (w1 := ?_) (v := ?_) (by rfl) rfl ?_ ?_
                                    rotate_left 2
                                    · go_simp
                                      constructor
                                      · rfl
                                      · rfl
                                    have n0_ := Aside0.mk HS.out.empty_
                                    clear HS
                                    have HS := n0_
                                    clear n0_
                                    refine hK.out _ _ ⟨HS.out.cell0, (HS.out.now (fun _ h => (blk_cell (h.1.1) 3).trans rfl))⟩ (fun hHeld => ?_)
                                    clear hK K
                                    refine norm_ (a' := ?_) ?_ ?_
                                    rotate_left
                                    · show Act.put _ (some 115) _ = _
                                      simp only [Act.put, List.setIfInBounds_toArray, List.set_cons_zero, List.set_cons_succ, i64_w, i32_w]
                                      rfl
                                    exact norm_ (by first | (simp only [putAll, Act.put, List.setIfInBounds_toArray, List.set_cons_zero, List.set_cons_succ]; done) | (simp only [putAll, Act.put, List.setIfInBounds_toArray, List.set_cons_zero, List.set_cons_succ]; rfl)) (hJ7 wD.heap.size _ ⟨hHeld, HS.out.imp (fun _ _ h => ⟨h.1, h.2⟩)⟩)
                                · skip
                                  rintro b115 wN7 ⟨hS_, hR_⟩
                                  clear HS
                                  have HS : Aside0 (Run w wN7 g gt vt vt vl L ids l (fun W' V' => ((W'.heap[ga]? = some (.cells #[.int .i64 ki, .int .i64 xi, .int .i64 yi, .slice A3 m c3', .bool bi] 45 (0, 0))) ∧ ((Kd.int .i64).R 3 W' w.heap.size V' (.slice Ao m co) ps)) ∧ ((Kd.int .i64).R 3 W' w.heap.size V' (.slice (some ⟨b115, 0, none⟩) 0 0) []))) := ⟨hR_⟩
                                  clear hR_
                                  have hHeld : wN7.cell? ⟨gt, 0, none⟩ = some vt ∧ wN7.cell? ⟨ga, 3, none⟩ = some (.slice A3 m c3') := hS_
                                  clear hS_
                                  refine norm_ (a' := ?_) ?_ ?_
                                  rotate_left
                                  · simp only [putAll, Act.put, List.setIfInBounds_toArray, List.set_cons_zero, List.set_cons_succ]
                                    rfl
                                  refine one_ (i := 3) (N := some 111) #[true, true, true, true, false, false, true, true, true, true, false, false, false, false, false, false] rfl rfl (by kernel_rfl) (by decide) (fun K hK => ?_)
                                  refine goes_ Try.func36 (by kernel_rfl) rfl #[.pointer (some ⟨g, 0, none⟩), .slice Ao m co] (by rfl) rfl rfl (by simp only [List.map_toArray, List.map_cons, List.map_nil]; rfl) ?_
                                  with_reducible refine ((HS.out.or2 (by have := HBN.out; have := HMb.out; omega) HInv.out (fun _ _ h => (by have h2 := (Kd.R_reads' (h.1.2)).2.2; rw [HPl.out] at h2; exact h2)) HIdx.out HLT.out)).mono ?_
                                  rintro e w9 ⟨rfl, hR⟩
                                  refine ⟨_, rfl, ?_⟩
                                  have n0_ := Aside0.mk hR
                                  clear hR
                                  clear HS
                                  have HS := n0_
                                  clear n0_
                                  refine hK.out _ _ ⟨HS.out.cell0, (HS.out.now (fun _ h => (blk_cell (h.1.1) 3).trans rfl))⟩ (fun hHeld => ?_)
                                  clear hK K
                                  refine norm_ (a' := ?_) ?_ ?_
                                  rotate_left
                                  · show Act.put _ (some 111) _ = _
                                    simp only [Act.put, List.setIfInBounds_toArray, List.set_cons_zero, List.set_cons_succ, i64_w, i32_w]
                                    rfl
                                  exact norm_ (by first | (simp only [putAll, Act.put, List.setIfInBounds_toArray, List.set_cons_zero, List.set_cons_succ]; done) | (simp only [putAll, Act.put, List.setIfInBounds_toArray, List.set_cons_zero, List.set_cons_succ]; rfl)) (hJ3_7 b115 _ ⟨hHeld, HS.out.imp (fun _ _ h => ⟨h.1, h.2⟩)⟩)
                              · skip
                                rintro _ wN3 ⟨hS_, hR_⟩
                                clear HS
                                have HS : Aside0 (Run w wN3 g gt vt vt vl LT.1 ids l (fun W' V' => (W'.heap[ga]? = some (.cells #[.int .i64 ki, .int .i64 xi, .int .i64 yi, .slice A3 m c3', .bool bi] 45 (0, 0))) ∧ ((Kd.int .i64).R 3 W' w.heap.size V' (.slice Ao m co) ps))) := ⟨hR_⟩
                                clear hR_
                                have hHeld : wN3.cell? ⟨gt, 0, none⟩ = some vt ∧ wN3.cell? ⟨ga, 3, none⟩ = some (.slice A3 m c3') := hS_
                                clear hS_
                                refine norm_ (a' := ?_) ?_ ?_
                                rotate_left
                                · simp only [putAll, Act.put, List.setIfInBounds_toArray, List.set_cons_zero, List.set_cons_succ]
                                  rfl
                                refine two_ (i := 4) (j := 7) (Ni := some 112) (Nj := some 115) #[true, true, true, true, true, false, true, false, true, true, false, false, false, false, false, false] #[true, true, true, true, false, false, true, true, true, true, false, false, false, false, false, false] rfl rfl rfl rfl (by kernel_rfl) (by decide) (by decide) (fun K hK => ?_) (fun K hK => ?_)
                                · skip
                                  refine value_ (w1 := ?_) (v := ?_) (by rfl) rfl ?_ ?_
                                  rotate_left 2
                                  · go_simp
                                    constructor
                                    · rfl
                                    · rfl
                                  have n0_ := Aside0.mk (HS.out.one LT.2)
                                  clear HS
                                  have HS := n0_
                                  clear n0_
                                  refine hK.out _ _ ⟨HS.out.cell0, (HS.out.now (fun _ h => (blk_cell (h.1.1) 3).trans rfl))⟩ (fun hHeld => ?_)
                                  clear hK K
                                  refine norm_ (a' := ?_) ?_ ?_
                                  rotate_left
                                  · show Act.put _ (some 112) _ = _
                                    simp only [Act.put, List.setIfInBounds_toArray, List.set_cons_zero, List.set_cons_succ, i64_w, i32_w]
                                    rfl
                                  exact norm_ (by first | (simp only [putAll, Act.put, List.setIfInBounds_toArray, List.set_cons_zero, List.set_cons_succ]; done) | (simp only [putAll, Act.put, List.setIfInBounds_toArray, List.set_cons_zero, List.set_cons_succ]; rfl)) (hJ3_4 wN3.heap.size _ ⟨hHeld, HS.out.imp (fun _ _ h => ⟨h.1, h.2⟩)⟩)
                                · skip
                                  refine value_ (w1 := ?_) (v := ?_) (by rfl) rfl ?_ ?_
                                  rotate_left 2
                                  · go_simp
                                    constructor
                                    · rfl
                                    · rfl
                                  have n0_ := Aside0.mk HS.out.empty_
                                  clear HS
                                  have HS := n0_
                                  clear n0_
                                  refine hK.out _ _ ⟨HS.out.cell0, (HS.out.now (fun _ h => (blk_cell (h.1.1) 3).trans rfl))⟩ (fun hHeld => ?_)
                                  clear hK K
                                  refine norm_ (a' := ?_) ?_ ?_
                                  rotate_left
                                  · show Act.put _ (some 115) _ = _
                                    simp only [Act.put, List.setIfInBounds_toArray, List.set_cons_zero, List.set_cons_succ, i64_w, i32_w]
                                    rfl
                                  exact norm_ (by first | (simp only [putAll, Act.put, List.setIfInBounds_toArray, List.set_cons_zero, List.set_cons_succ]; done) | (simp only [putAll, Act.put, List.setIfInBounds_toArray, List.set_cons_zero, List.set_cons_succ]; rfl)) (hJ3_7 wN3.heap.size _ ⟨hHeld, HS.out.imp (fun _ _ h => ⟨h.1, h.2⟩)⟩)
                            · skip
                              rintro b115 wN3_7 ⟨hS_, hR_⟩
                              clear HS
                              have HS : Aside0 (Run w wN3_7 g gt vt vt vl LT.1 ids l (fun W' V' => ((W'.heap[ga]? = some (.cells #[.int .i64 ki, .int .i64 xi, .int .i64 yi, .slice A3 m c3', .bool bi] 45 (0, 0))) ∧ ((Kd.int .i64).R 3 W' w.heap.size V' (.slice Ao m co) ps)) ∧ ((Kd.int .i64).R 3 W' w.heap.size V' (.slice (some ⟨b115, 0, none⟩) 0 0) []))) := ⟨hR_⟩
                              clear hR_
                              have hHeld : wN3_7.cell? ⟨gt, 0, none⟩ = some vt ∧ wN3_7.cell? ⟨ga, 3, none⟩ = some (.slice A3 m c3') := hS_
                              clear hS_
                              refine norm_ (a' := ?_) ?_ ?_
                              rotate_left
                              · simp only [putAll, Act.put, List.setIfInBounds_toArray, List.set_cons_zero, List.set_cons_succ]
                                rfl
                              refine one_ (i := 4) (N := some 112) #[true, true, true, true, true, false, true, true, true, true, false, false, false, false, false, false] rfl rfl (by kernel_rfl) (by decide) (fun K hK => ?_)
                              refine value_ (w1 := ?_) (v := ?_) (by rfl) rfl ?_ ?_
                              rotate_left 2
                              · go_simp
                                constructor
                                · rfl
                                · rfl
                              have n0_ := Aside0.mk (HS.out.one LT.2)
                              clear HS
                              have HS := n0_
                              clear n0_
                              refine hK.out _ _ ⟨HS.out.cell0, (HS.out.now (fun _ h => (blk_cell (h.1.1.1) 3).trans rfl))⟩ (fun hHeld => ?_)
                              clear hK K
                              refine norm_ (a' := ?_) ?_ ?_
                              rotate_left
                              · show Act.put _ (some 112) _ = _
                                simp only [Act.put, List.setIfInBounds_toArray, List.set_cons_zero, List.set_cons_succ, i64_w, i32_w]
                                rfl
                              exact norm_ (by first | (simp only [putAll, Act.put, List.setIfInBounds_toArray, List.set_cons_zero, List.set_cons_succ]; done) | (simp only [putAll, Act.put, List.setIfInBounds_toArray, List.set_cons_zero, List.set_cons_succ]; rfl)) (hJ3_4_7 (wN3_7.heap.size, b115) _ ⟨hHeld, HS.out.imp (fun _ _ h => ⟨⟨h.1.1, h.2⟩, h.1.2⟩)⟩)
                          · skip
                            rintro b112 wN3_4 ⟨hS_, hR_⟩
                            clear HS
                            have HS : Aside0 (Run w wN3_4 g gt vt vt vl LT.1 ids l (fun W' V' => ((W'.heap[ga]? = some (.cells #[.int .i64 ki, .int .i64 xi, .int .i64 yi, .slice A3 m c3', .bool bi] 45 (0, 0))) ∧ ((Kd.int .i64).R 3 W' w.heap.size V' (.slice Ao m co) ps)) ∧ (Kd.C (Kd.int .i64) W' (some ⟨b112, 0, none⟩) 1 [LT.2]))) := ⟨hR_⟩
                            clear hR_
                            have hHeld : wN3_4.cell? ⟨gt, 0, none⟩ = some vt ∧ wN3_4.cell? ⟨ga, 3, none⟩ = some (.slice A3 m c3') := hS_
                            clear hS_
                            refine norm_ (a' := ?_) ?_ ?_
                            rotate_left
                            · simp only [putAll, Act.put, List.setIfInBounds_toArray, List.set_cons_zero, List.set_cons_succ]
                              rfl
                            refine two_ (i := 5) (j := 7) (Ni := some 113) (Nj := some 115) #[true, true, true, true, true, true, true, false, true, true, false, false, false, false, false, false] #[true, true, true, true, true, false, true, true, true, true, false, false, false, false, false, false] rfl rfl rfl rfl (by kernel_rfl) (by decide) (by decide) (fun K hK => ?_) (fun K hK => ?_)
                            · skip
                              obtain ⟨U, V, hS⟩ := HS.out
                              refine Kd.R_append_rows_step (Kd.int .i64) (w0 := w) w.heap.size (by rfl) (.tmp 108) (.tmp 112) 42 3 (.int .i64 0) 8 rfl Try.underlying42 info3 rfl (by decide) (by decide) vt ids [LT.2] _ 1 1 (fun k => k ≠ g ∧ k ≠ gt ∧ ¬ U k ∧ ¬ V k) (fun _ => False) rfl rfl hS.things (hS.keep.now.2) (fun _ _ h => h) (fun _ h => h.elim) (fun k hk => ⟨by have := hS.book.lt; omega, by have := hS.gtlt; omega, (hS.fresh k hk).2.2⟩) hS.below hS.below.size (by have := HBN.out; omega) ?_
                              intro v53 wX hR hB hgr hat
                              have n0_ := Aside0.mk (show Run w wX g gt vt v53 vl _ _ l _ from ⟨U, V, hS.pushed hR hB hgr hat⟩)
                              clear hR hB hgr hat hS
                              clear HS
                              have HS := n0_
                              clear n0_
                              refine hK.out _ _ ⟨HS.out.cell0, (HS.out.now (fun _ h => (blk_cell (h.1.1) 3).trans rfl))⟩ (fun hHeld => ?_)
                              clear hK K
                              refine norm_ (a' := ?_) ?_ ?_
                              rotate_left
                              · show Act.put _ (some 113) _ = _
                                simp only [Act.put, List.setIfInBounds_toArray, List.set_cons_zero, List.set_cons_succ, i64_w, i32_w]
                                rfl
                              exact norm_ (by first | (simp only [putAll, Act.put, List.setIfInBounds_toArray, List.set_cons_zero, List.set_cons_succ]; done) | (simp only [putAll, Act.put, List.setIfInBounds_toArray, List.set_cons_zero, List.set_cons_succ]; rfl)) (hJ3_4_5 (b112, v53) _ ⟨hHeld, HS.out.imp (fun _ _ h => h.1)⟩)
                            · skip
                              refine value_ (w1 := ?_) (v := ?_) (by rfl) rfl ?_ ?_
                              rotate_left 2
                              · go_simp
                                constructor
                                · rfl
                                · rfl
                              have n0_ := Aside0.mk HS.out.empty_
                              clear HS
                              have HS := n0_
                              clear n0_
                              refine hK.out _ _ ⟨HS.out.cell0, (HS.out.now (fun _ h => (blk_cell (h.1.1.1) 3).trans rfl))⟩ (fun hHeld => ?_)
                              clear hK K
                              refine norm_ (a' := ?_) ?_ ?_
                              rotate_left
                              · show Act.put _ (some 115) _ = _
                                simp only [Act.put, List.setIfInBounds_toArray, List.set_cons_zero, List.set_cons_succ, i64_w, i32_w]
                                rfl
                              exact norm_ (by first | (simp only [putAll, Act.put, List.setIfInBounds_toArray, List.set_cons_zero, List.set_cons_succ]; done) | (simp only [putAll, Act.put, List.setIfInBounds_toArray, List.set_cons_zero, List.set_cons_succ]; rfl)) (hJ3_4_7 (b112, wN3_4.heap.size) _ ⟨hHeld, HS.out.imp (fun _ _ h => ⟨⟨h.1.1, h.1.2⟩, h.2⟩)⟩)
                        · skip
                          rintro ⟨b112, b115⟩ wN3_4_7 ⟨hS_, hR_⟩
                          clear HS
                          have HS : Aside0 (Run w wN3_4_7 g gt vt vt vl LT.1 ids l (fun W' V' => (((W'.heap[ga]? = some (.cells #[.int .i64 ki, .int .i64 xi, .int .i64 yi, .slice A3 m c3', .bool bi] 45 (0, 0))) ∧ ((Kd.int .i64).R 3 W' w.heap.size V' (.slice Ao m co) ps)) ∧ (Kd.C (Kd.int .i64) W' (some ⟨b112, 0, none⟩) 1 [LT.2])) ∧ ((Kd.int .i64).R 3 W' w.heap.size V' (.slice (some ⟨b115, 0, none⟩) 0 0) []))) := ⟨hR_⟩
                          clear hR_
                          have hHeld : wN3_4_7.cell? ⟨gt, 0, none⟩ = some vt ∧ wN3_4_7.cell? ⟨ga, 3, none⟩ = some (.slice A3 m c3') := hS_
                          clear hS_
                          refine norm_ (a' := ?_) ?_ ?_
                          rotate_left
                          · simp only [putAll, Act.put, List.setIfInBounds_toArray, List.set_cons_zero, List.set_cons_succ]
                            rfl
                          refine one_ (i := 5) (N := some 113) #[true, true, true, true, true, true, true, true, true, true, false, false, false, false, false, false] rfl rfl (by kernel_rfl) (by decide) (fun K hK => ?_)
                          obtain ⟨U, V, hS⟩ := HS.out
                          refine Kd.R_append_rows_step (Kd.int .i64) (w0 := w) w.heap.size (by rfl) (.tmp 108) (.tmp 112) 42 3 (.int .i64 0) 8 rfl Try.underlying42 info3 rfl (by decide) (by decide) vt ids [LT.2] _ 1 1 (fun k => k ≠ g ∧ k ≠ gt ∧ ¬ U k ∧ ¬ V k) (fun _ => False) rfl rfl hS.things (hS.keep.now.1.2) (fun _ _ h => h) (fun _ h => h.elim) (fun k hk => ⟨by have := hS.book.lt; omega, by have := hS.gtlt; omega, (hS.fresh k hk).2.2⟩) hS.below hS.below.size (by have := HBN.out; omega) ?_
                          intro v53 wX hR hB hgr hat
                          have n0_ := Aside0.mk (show Run w wX g gt vt v53 vl _ _ l _ from ⟨U, V, hS.pushed hR hB hgr hat⟩)
                          clear hR hB hgr hat hS
                          clear HS
                          have HS := n0_
                          clear n0_
                          refine hK.out _ _ ⟨HS.out.cell0, (HS.out.now (fun _ h => (blk_cell (h.1.1.1) 3).trans rfl))⟩ (fun hHeld => ?_)
                          clear hK K
                          refine norm_ (a' := ?_) ?_ ?_
                          rotate_left
                          · show Act.put _ (some 113) _ = _
                            simp only [Act.put, List.setIfInBounds_toArray, List.set_cons_zero, List.set_cons_succ, i64_w, i32_w]
                            rfl
                          exact norm_ (by first | (simp only [putAll, Act.put, List.setIfInBounds_toArray, List.set_cons_zero, List.set_cons_succ]; done) | (simp only [putAll, Act.put, List.setIfInBounds_toArray, List.set_cons_zero, List.set_cons_succ]; rfl)) (hJ3_4_5_7 (b112, v53, b115) _ ⟨hHeld, HS.out.imp (fun _ _ h => ⟨h.1.1, h.2⟩)⟩)
                      · skip
                        rintro ⟨b112, v53⟩ wN3_4_5 ⟨hS_, hR_⟩
                        clear HS
                        have HS : Aside0 (Run w wN3_4_5 g gt vt v53 vl LT.1 (ids ++ [LT.2]) l (fun W' V' => (W'.heap[ga]? = some (.cells #[.int .i64 ki, .int .i64 xi, .int .i64 yi, .slice A3 m c3', .bool bi] 45 (0, 0))) ∧ ((Kd.int .i64).R 3 W' w.heap.size V' (.slice Ao m co) ps))) := ⟨hR_⟩
                        clear hR_
                        have hHeld : wN3_4_5.cell? ⟨gt, 0, none⟩ = some vt ∧ wN3_4_5.cell? ⟨ga, 3, none⟩ = some (.slice A3 m c3') := hS_
                        clear hS_
                        refine norm_ (a' := ?_) ?_ ?_
                        rotate_left
                        · simp only [putAll, Act.put, List.setIfInBounds_toArray, List.set_cons_zero, List.set_cons_succ]
                          rfl
                        refine one_ (i := 7) (N := some 115) #[true, true, true, true, true, true, true, true, true, true, false, false, false, false, false, false] rfl rfl (by kernel_rfl) (by decide) (fun K hK => ?_)
                        refine value_ (w1 := ?_) (v := ?_) (by rfl) rfl ?_ ?_
                        rotate_left 2
                        · go_simp
                          constructor
                          · rfl
                          · rfl
                        have n0_ := Aside0.mk HS.out.empty_
                        clear HS
                        have HS := n0_
                        clear n0_
                        refine hK.out _ _ ⟨HS.out.cell0, (HS.out.now (fun _ h => (blk_cell (h.1.1) 3).trans rfl))⟩ (fun hHeld => ?_)
                        clear hK K
                        refine norm_ (a' := ?_) ?_ ?_
                        rotate_left
                        · show Act.put _ (some 115) _ = _
                          simp only [Act.put, List.setIfInBounds_toArray, List.set_cons_zero, List.set_cons_succ, i64_w, i32_w]
                          rfl
                        exact norm_ (by first | (simp only [putAll, Act.put, List.setIfInBounds_toArray, List.set_cons_zero, List.set_cons_succ]; done) | (simp only [putAll, Act.put, List.setIfInBounds_toArray, List.set_cons_zero, List.set_cons_succ]; rfl)) (hJ3_4_5_7 (b112, v53, wN3_4_5.heap.size) _ ⟨hHeld, HS.out.imp (fun _ _ h => ⟨h.1, h.2⟩)⟩)
                    rintro ⟨b112, v53, b115⟩ wN3_4_5_7 ⟨hS_, hR_⟩
                    clear HS
                    have HS : Aside0 (Run w wN3_4_5_7 g gt vt v53 vl LT.1 (ids ++ [LT.2]) l (fun W' V' => ((W'.heap[ga]? = some (.cells #[.int .i64 ki, .int .i64 xi, .int .i64 yi, .slice A3 m c3', .bool bi] 45 (0, 0))) ∧ ((Kd.int .i64).R 3 W' w.heap.size V' (.slice Ao m co) ps)) ∧ ((Kd.int .i64).R 3 W' w.heap.size V' (.slice (some ⟨b115, 0, none⟩) 0 0) []))) := ⟨hR_⟩
                    clear hR_
                    have hHeld : wN3_4_5_7.cell? ⟨gt, 0, none⟩ = some vt ∧ wN3_4_5_7.cell? ⟨ga, 3, none⟩ = some (.slice A3 m c3') := hS_
                    clear hS_
                    refine norm_ (a' := ?_) ?_ ?_
                    rotate_left
                    · simp only [putAll, Act.put, List.setIfInBounds_toArray, List.set_cons_zero, List.set_cons_succ]
                      rfl
                    refine last_ (i := 10) (N := some 118) #[true, true, true, true, true, true, true, true, true, true, true, false, false, false, false, false] rfl rfl (by kernel_rfl) (by decide) (fun K hK => ?_)
                    obtain ⟨U, V, hS⟩ := HS.out
                    refine Kd.R_append_rows_step (Kd.int .i64) (w0 := w) w.heap.size (by rfl) (.tmp 115) (.tmp 117) 42 3 (.int .i64 0) 8 rfl Try.underlying42 info3 rfl (by decide) (by decide) (.slice (some ⟨b115, 0, none⟩) 0 0) [] xs _ m c3' (fun k => V k ∨ _ ≤ k) (fun _ => False) rfl rfl (Kd.R_mono hS.keep.now.2 (fun k hk => .inl hk)) (Kd.C_below HC3.out hS.below) (fun _ _ h => h) (fun _ h => h.elim) (fun k hk => .inr hk) hS.below hS.below.size (by have := HMb.out; simp only [List.length_nil]; omega) ?_
                    intro v118 wY hR hB hgr hat
                    have n0_ := Aside0.mk (show Run w wY g gt vt v53 vl _ _ l _ from ⟨U, _, hS.grew hS.keep.now.2.1 hR hB hgr⟩)
                    obtain ⟨A118, c118, e118⟩ := Kd.R_slice hR
                    clear hR hB hgr hat hS
                    subst e118
                    clear HS
                    have HS := n0_
                    clear n0_
                    generalize hm1_ : List.length (_ ++ xs) = m118 at HS ⊢
                    clear hm1_
                    refine hK.out _ _ ?_
                    clear hK K
                    refine norm_ (a' := ?_) ?_ ?_
                    rotate_left
                    · show Act.put _ (some 118) _ = _
                      simp only [Act.put, List.setIfInBounds_toArray, List.set_cons_zero, List.set_cons_succ, i64_w, i32_w]
                      rfl
                    refine pure_ (i := 11) (N := some 119) (v := ?_) (a' := ?_) #[true, true, true, true, true, true, true, true, true, true, true, true, false, false, false, false] rfl rfl (by kernel_rfl) (fun _ _ _ h => h) (Or.inl ⟨by rfl, ?_⟩) ?_ ?_
                    rotate_left
                    · intro w'
                      go_simp
                      with_reducible rfl
                    rotate_left
                    · simp only [Act.put, List.setIfInBounds_toArray, List.set_cons_zero, List.set_cons_succ, i64_w, i32_w]
                      rfl
                    refine last_ (i := 12) (N := some 120) #[true, true, true, true, true, true, true, true, true, true, true, true, true, false, false, false] rfl rfl (by kernel_rfl) (by decide) (fun K hK => ?_)
                    refine value_ (w1 := ?_) (v := ?_) (by rfl) rfl ?_ ?_
                    rotate_left 2
                    · go_simp
                      constructor
                      · rfl
                      · rfl
                    have n0_ := Aside0.mk (HS.out.thing 4 xs 0 (.slice A118 m118 c118) (fun _ _ h => h))
                    clear HS
                    have HS := n0_
                    clear n0_
                    refine hK.out _ _ ?_
                    clear hK K
                    refine norm_ (a' := ?_) ?_ ?_
                    rotate_left
                    · show Act.put _ (some 120) _ = _
                      simp only [Act.put, List.setIfInBounds_toArray, List.set_cons_zero, List.set_cons_succ, i64_w, i32_w]
                      rfl
                    refine last_ (i := 13) (N := some 121) #[true, true, true, true, true, true, true, true, true, true, true, true, true, true, false, false] rfl rfl (by kernel_rfl) (by decide) (fun K hK => ?_)
                    obtain ⟨U, V, hS⟩ := HS.out
                    refine Kd.R_append_rows_step k51 (w0 := w) w.heap.size (by rfl) (.tmp 114) (.tmp 120) 52 51 (.agg #[.int .i64 0, .slice none 0 0, .int .i64 0]) 40 rfl Try.underlying52 info51 rfl (by decide) (by decide) vl l [⟨4, xs, 0⟩] _ 1 1 (fun k => U k ∨ V k ∨ _ ≤ k) V rfl rfl (Kd.R_mono hS.row (fun k hk => .inl hk)) (TX.reads (hS.keep.now.2)) (fun _ _ h => h) (fun k hk => ⟨.inr (.inl hk), fun he => (hS.hU k (hS.row.1 k he.symm)).2.2.2 hk⟩) (fun k hk => .inr (.inr hk)) hS.below hS.below.size (by have := HBN.out; omega) ?_
                    intro v57 wX hR hB hgr hat
                    have n0_ := Aside0.mk (show Run w wX g gt vt _ v57 _ _ _ _ from ⟨_, _, hS.rowed hR hB hgr⟩)
                    clear hR hB hgr hat hS
                    clear HS
                    have HS := n0_
                    clear n0_
                    obtain ⟨A53, c53, e53, -, -⟩ := HS.out.thingsC
                    subst e53
                    generalize hm1_ : List.length (_ ++ [_]) = m53 at HS ⊢
                    clear hm1_
                    have hcg := HS.out.cell0
                    have hz1 := blk_frozen HS.out.cell 0
                    refine hK.out _ _ ?_
                    clear hK K
                    refine norm_ (a' := ?_) ?_ ?_
                    rotate_left
                    · show Act.put _ (some 121) _ = _
                      simp only [Act.put, List.setIfInBounds_toArray, List.set_cons_zero, List.set_cons_succ, i64_w, i32_w]
                      rfl
                    refine last_ (i := 14) (N := none) #[true, true, true, true, true, true, true, true, true, true, true, true, true, true, true, false] rfl rfl (by kernel_rfl) (by decide) (fun K hK => ?_)
                    refine skip_ (w1 := ?_) (by rfl) rfl ?_ ?_
                    rotate_left
                    · go_simp
                      rfl
                    refine hK.out _ _ ?_
                    clear hK K
                    refine pure_ (i := 15) (N := some 5) (v := ?_) (a' := ?_) #[true, true, true, true, true, true, true, true, true, true, true, true, true, true, true, true] rfl rfl (by kernel_rfl) (fun _ _ _ h => h) (Or.inl ⟨by rfl, ?_⟩) ?_ ?_
                    rotate_left
                    · intro w'
                      go_simp
                      with_reducible rfl
                    rotate_left
                    · simp only [Act.put, List.setIfInBounds_toArray, List.set_cons_zero, List.set_cons_succ, i64_w, i32_w]
                      rfl
                    refine done_ (by kernel_rfl) ?_
                    have HS3 := Aside0.mk HS.out.stored
                    generalize hwX : World.setCell _ _ _ = wX at HS3 ⊢
                    clear hwX hcg hz1 HS
                    go_wp2_with fail
                    go_meet
                    case rel => exact ⟨_, _, _, _, _, rfl, HS3, HDn, ⟨lens_more HLen.out (by have := orAll_len ps L 0; have := HMb.out; rw [HLT.out, HPl.out] at *; omega) (by have := orAll_len ps L 0; rw [HLT.out, HPl.out] at this; rw [HNL.out]; omega) (by show xs.length ≤ 10; have := HMb.out; have := HM.out; omega)⟩⟩
              · have k2 : (ki == 2) = false := by simp [hk2]
                have HSk := Aside0.mk (HSA.out.imp (Y := fun _ _ => True) (fun _ _ _ => trivial))
                by_cases hk3 : ki = 3
                · have k3 : (ki == 3) = true := by simp [hk3]
                  obtain ⟨b, c, el⟩ := HSA.out.rowF (by have := HD.out.some_; omega)
                  subst el
                  obtain ⟨nl, hnl⟩ : ∃ n, n = l.length := ⟨_, rfl⟩
                  rw [← hnl] at HSA HSk ⊢
                  have HNl := Aside0.mk hnl
                  have ca1 := (blk_cell HGA.out 1).trans rfl
                  clear hk0 hk1 hk2 hk3 HLn hnl
                  by_cases hx : 0 ≤ xi ∧ xi < (nl : Int)
                  · have hc := HSA.out.lcell xi hx.1 hx.2
                    obtain ⟨f0v, hf0⟩ : ∃ f, f = (l.getD xi.toNat z51).f0 := ⟨_, rfl⟩
                    obtain ⟨f2v, hf2⟩ : ∃ f, f = (l.getD xi.toNat z51).f2 := ⟨_, rfl⟩
                    rw [← hf0, ← hf2] at hc
                    have hc0 := hc.1
                    have y0 : decide (xi ≥ 0) = true := by simp; omega
                    have y1 : decide (xi < (nl : Int)) = true := decide_eq_true hx.2
                    have y2 : decide (0 ≤ xi) = true := by simp; omega
                    have p0 := eq_true hx.1
                    have p1 := eq_true hx.2
                    have HX := Aside0.mk hx
                    have HF0 := Aside0.mk hf0
                    have HF2 := Aside0.mk hf2
                    clear hc hx hf0 hf2
                    by_cases h2 : f0v = 2
                    · have z2 : (f0v == 2) = true := by simp [h2]
                      have H2 := Aside0.mk h2
                      have hxl : xi.toNat < l.length := by have := HX.out; have := HNl.out; omega
                      obtain ⟨r1, hr1⟩ : ∃ r, r = idAt ids ids.length xi := ⟨_, rfl⟩
                      have hr1' : r1 = ids.getD xi.toNat 0 := by
                        have h1 := HX.out
                        have h2 := HNl.out
                        have h3 := HD.out.len
                        rw [hr1]
                        unfold idAt
                        rw [if_pos (by omega)]
                      have hidr := HD.out.id hxl
                      rw [← hr1'] at hidr
                      have HXl := Aside0.mk hxl
                      have HR1 := Aside0.mk hr1.symm
                      have HRid := Aside0.mk hidr
                      have HInv := Aside0.mk HD.out.inv
                      have h2' : (l.getD xi.toNat z51).f0 = 2 := HF0.out ▸ h2
                      have he39 := fun (args : Array Value) (W : World) => enters_ (P := Try.prog) Try.func39 (by kernel_rfl) rfl args W
                      have HE39 := Aside0.mk he39
                      have ca4 := (blk_cell HGA.out 4).trans rfl
                      by_cases h0 : f2v = 0
                      · have z0 : (f2v == 0) = true := by simp [h0]
                        have h0' : (l.getD xi.toNat z51).f2 = 0 := HF2.out ▸ h0
                        have hm := HD.out.free hxl h2' h0'
                        rw [← hr1'] at hm
                        have HM1 := Aside0.mk hm
                        cases bi
                        · as_aux_lemma =>
                          obtain ⟨L', hp, hlen, hdn⟩ := HD.out.set_ hxl h2' h0' false
                          rw [← hr1'] at hp
                          have HP := Aside0.mk hp
                          have HDn := Aside0.mk hdn
                          have HLl := Aside0.mk hlen
                          clear hp hlen hdn hm h0' h0 h2 h2' hr1 hr1' hidr hxl he39
                          go_upto_region 35 with (fail)
                          have HS := Aside0.mk HSA.out.drew
                          clear z2 HSA
                          refine start_ (n := 16) (S := fun w' => w'.cell? ⟨ga, 1, none⟩ = some (.int .i64 xi) ∧ w'.cell? ⟨ga, 4, none⟩ = some (.bool false) ∧ w'.cell? ⟨b, xi.toNat * 3 + 2, none⟩ = some (.int .i64 f2v)) (ds := []) #[false, false, false, false, false, false, false, false, false, false, false, false, false, false, false, false] (by kernel_rfl) rfl rfl ⟨(HS.out.now (fun _ h => (blk_cell h 1).trans rfl)), (HS.out.now (fun _ h => (blk_cell h 4).trans rfl)), (by have hl := HS.out.lcell xi HX.out.1 HX.out.2; rw [← HF2.out] at hl; exact hl.2.1)⟩ (fun hHeld => ?_)
                          generalize hwd_ : wA.drew = wD at HS hHeld ⊢
                          clear hwd_
                          refine pure_ (i := 0) (N := some 143) (v := ?_) (a' := ?_) #[true, false, false, false, false, false, false, false, false, false, false, false, false, false, false, false] rfl rfl (by kernel_rfl) (fun _ _ _ h => h) (Or.inl ⟨by rfl, ?_⟩) ?_ ?_
                          rotate_left
                          · intro w'
                            go_simp
                            with_reducible rfl
                          rotate_left
                          · simp only [Act.put, List.setIfInBounds_toArray, List.set_cons_zero, List.set_cons_succ, i64_w, i32_w]
                            rfl
                          refine pure_ (i := 1) (N := some 144) (v := ?_) (a' := ?_) #[true, true, false, false, false, false, false, false, false, false, false, false, false, false, false, false] rfl rfl (by kernel_rfl) (fun _ _ _ h => h) (Or.inl ⟨by rfl, ?_⟩) ?_ ?_
                          rotate_left
                          · intro w'
                            go_simp
                            with_reducible rfl
                          rotate_left
                          · simp only [Act.put, List.setIfInBounds_toArray, List.set_cons_zero, List.set_cons_succ, i64_w, i32_w]
                            rfl
                          refine pure_ (i := 2) (N := some 145) (v := ?_) (a' := ?_) #[true, true, true, false, false, false, false, false, false, false, false, false, false, false, false, false] rfl rfl (by kernel_rfl) (fun _ _ _ h => h) (Or.inl ⟨by rfl, ?_⟩) ?_ ?_
                          rotate_left
                          · intro w'
                            go_simp
                            with_reducible rfl
                          rotate_left
                          · simp only [Act.put, List.setIfInBounds_toArray, List.set_cons_zero, List.set_cons_succ, i64_w, i32_w]
                            rfl
                          refine pure_ (i := 5) (N := some 148) (v := ?_) (a' := ?_) #[true, true, true, false, false, true, false, false, false, false, false, false, false, false, false, false] rfl rfl (by kernel_rfl) (fun _ _ _ h => h) (Or.inl ⟨by rfl, ?_⟩) ?_ ?_
                          rotate_left
                          · intro w'
                            go_simp
                            with_reducible rfl
                          rotate_left
                          · simp only [Act.put, List.setIfInBounds_toArray, List.set_cons_zero, List.set_cons_succ, i64_w, i32_w]
                            rfl
                          refine pure_ (i := 8) (N := some 151) (v := ?_) (a' := ?_) #[true, true, true, false, false, true, false, false, true, false, false, false, false, false, false, false] rfl rfl (by kernel_rfl) (fun _ _ _ h => h) (Or.inl ⟨by rfl, ?_⟩) ?_ ?_
                          rotate_left
                          · intro w'
                            go_simp
                            with_reducible rfl
                          rotate_left
                          · simp only [Act.put, List.setIfInBounds_toArray, List.set_cons_zero, List.set_cons_succ, i64_w, i32_w]
                            rfl
                          refine pure_ (i := 9) (N := some 152) (v := ?_) (a' := ?_) #[true, true, true, false, false, true, false, false, true, true, false, false, false, false, false, false] rfl rfl (by kernel_rfl) (fun _ _ _ h => h) (Or.inl ⟨by rfl, ?_⟩) ?_ ?_
                          rotate_left
                          · intro w'
                            go_simp
                            with_reducible rfl
                          rotate_left
                          · simp only [Act.put, List.setIfInBounds_toArray, List.set_cons_zero, List.set_cons_succ, i64_w, i32_w]
                            rfl
                          refine take_ (i := 3) (N := some 146) (v := ?_) (a' := ?_) #[true, true, true, true, false, true, false, false, true, true, false, false, false, false, false, false] rfl rfl (by kernel_rfl) (fun _ _ _ h => h) (Or.inl ⟨by rfl, ?_⟩) hHeld ?_ ?_
                          rotate_left
                          · rintro w' ⟨s0, s1, s2⟩
                            go_simp
                            with_reducible rfl
                          rotate_left
                          · simp only [Act.put, List.setIfInBounds_toArray, List.set_cons_zero, List.set_cons_succ, i64_w, i32_w]
                            rfl
                          refine take_ (i := 6) (N := some 149) (v := ?_) (a' := ?_) #[true, true, true, true, false, true, true, false, true, true, false, false, false, false, false, false] rfl rfl (by kernel_rfl) (fun _ _ _ h => h) (Or.inl ⟨by rfl, ?_⟩) hHeld ?_ ?_
                          rotate_left
                          · rintro w' ⟨s0, s1, s2⟩
                            go_simp
                            with_reducible rfl
                          rotate_left
                          · simp only [Act.put, List.setIfInBounds_toArray, List.set_cons_zero, List.set_cons_succ, i64_w, i32_w]
                            rfl
                          refine take_ (i := 10) (N := some 153) (v := ?_) (a' := ?_) #[true, true, true, true, false, true, true, false, true, true, true, false, false, false, false, false] rfl rfl (by kernel_rfl) (fun _ _ _ h => h) (Or.inl ⟨by rfl, ?_⟩) hHeld ?_ ?_
                          rotate_left
                          · rintro w' ⟨s0, s1, s2⟩
                            go_simp
                            with_reducible rfl
                          rotate_left
                          · simp only [Act.put, List.setIfInBounds_toArray, List.set_cons_zero, List.set_cons_succ, i64_w, i32_w]
                            rfl
                          refine pure_ (i := 11) (N := some 154) (v := ?_) (a' := ?_) #[true, true, true, true, false, true, true, false, true, true, true, true, false, false, false, false] rfl rfl (by kernel_rfl) (fun _ _ _ h => h) (Or.inl ⟨by rfl, ?_⟩) ?_ ?_
                          rotate_left
                          · intro w'
                            go_simp
                            with_reducible rfl
                          rotate_left
                          · simp only [Act.put, List.setIfInBounds_toArray, List.set_cons_zero, List.set_cons_succ, i64_w, i32_w]
                            rfl
                          refine pure_ (i := 12) (N := some 155) (v := ?_) (a' := ?_) #[true, true, true, true, false, true, true, false, true, true, true, true, true, false, false, false] rfl rfl (by kernel_rfl) (fun _ _ _ h => h) (Or.inl ⟨by rfl, ?_⟩) ?_ ?_
                          rotate_left
                          · intro w'
                            go_simp
                            with_reducible rfl
                          rotate_left
                          · simp only [Act.put, List.setIfInBounds_toArray, List.set_cons_zero, List.set_cons_succ, i64_w, i32_w]
                            rfl
                          refine take_ (i := 13) (N := some 156) (v := ?_) (a' := ?_) #[true, true, true, true, false, true, true, false, true, true, true, true, true, true, false, false] rfl rfl (by kernel_rfl) (fun _ _ _ h => h) (Or.inl ⟨by rfl, ?_⟩) hHeld ?_ ?_
                          rotate_left
                          · rintro w' ⟨s0, s1, s2⟩
                            go_simp
                            with_reducible rfl
                          rotate_left
                          · simp only [Act.put, List.setIfInBounds_toArray, List.set_cons_zero, List.set_cons_succ, i64_w, i32_w]
                            rfl
                          refine pure_ (i := 14) (N := some 157) (v := ?_) (a' := ?_) #[true, true, true, true, false, true, true, false, true, true, true, true, true, true, true, false] rfl rfl (by kernel_rfl) (fun _ _ _ h => h) (Or.inl ⟨by rfl, ?_⟩) ?_ ?_
                          rotate_left
                          · intro w'
                            go_simp
                            with_reducible rfl
                          rotate_left
                          · simp only [Act.put, List.setIfInBounds_toArray, List.set_cons_zero, List.set_cons_succ, i64_w, i32_w]
                            rfl
                          refine one_ (i := 4) (N := some 147) #[true, true, true, true, true, true, true, false, true, true, true, true, true, true, true, false] rfl rfl (by kernel_rfl) (by decide) (fun K hK => ?_)
                          refine call_ 39 #[.int .i64 xi, .pointer (some ⟨gt, 0, none⟩)] (by rfl) rfl (by have he_ := HE39.out; unfold execOp; simp [resolve, Deferred.ofValue, invoke, Act.eval, he_]) ?_
                          with_reducible refine (HS.out.at_ xi HR1.out).mono ?_
                          rintro e w3 ⟨rfl, rfl⟩
                          refine ⟨_, rfl, ?_⟩
                          refine hK.out _ _ ⟨(HS.out.now (fun _ h => (blk_cell h 1).trans rfl)), (HS.out.now (fun _ h => (blk_cell h 4).trans rfl)), (by have hl := HS.out.lcell xi HX.out.1 HX.out.2; rw [← HF2.out] at hl; exact hl.2.1)⟩ (fun hHeld => ?_)
                          clear hK K
                          refine norm_ (a' := ?_) ?_ ?_
                          rotate_left
                          · show Act.put _ (some 147) _ = _
                            simp only [Act.put, List.setIfInBounds_toArray, List.set_cons_zero, List.set_cons_succ, i64_w, i32_w]
                            rfl
                          refine one_ (i := 7) (N := some 150) #[true, true, true, true, true, true, true, true, true, true, true, true, true, true, true, false] rfl rfl (by kernel_rfl) (by decide) (fun K hK => ?_)
                          refine goes_ Try.func37 (by kernel_rfl) rfl #[.pointer (some ⟨g, 0, none⟩), .int .i64 r1, .bool false] (by rfl) rfl rfl (by simp only [List.map_toArray, List.map_cons, List.map_nil]; rfl) ?_
                          with_reducible refine ((HS.out.set_ (by have := HBN.out; omega) HInv.out HRid.out.1 HRid.out.2 HM1.out HP.out)).mono ?_
                          rintro e w9 ⟨rfl, hR⟩
                          refine ⟨_, rfl, ?_⟩
                          have n0_ := Aside0.mk hR
                          clear hR
                          clear HS
                          have HS := n0_
                          clear n0_
                          refine hK.out _ _ ⟨(HS.out.now (fun _ h => (blk_cell h 1).trans rfl)), (HS.out.now (fun _ h => (blk_cell h 4).trans rfl)), (by have hl := HS.out.lcell xi HX.out.1 HX.out.2; rw [← HF2.out] at hl; exact hl.2.1)⟩ (fun hHeld => ?_)
                          clear hK K
                          refine norm_ (a' := ?_) ?_ ?_
                          rotate_left
                          · show Act.put _ (some 150) _ = _
                            simp only [Act.put, List.setIfInBounds_toArray, List.set_cons_zero, List.set_cons_succ, i64_w, i32_w]
                            rfl
                          refine pure_ (i := 15) (N := some 158) (v := ?_) (a' := ?_) #[true, true, true, true, true, true, true, true, true, true, true, true, true, true, true, true] rfl rfl (by kernel_rfl) (fun _ _ _ h => h) (Or.inl ⟨by rfl, ?_⟩) ?_ ?_
                          rotate_left
                          · intro w'
                            go_simp
                            with_reducible rfl
                          rotate_left
                          · simp only [Act.put, List.setIfInBounds_toArray, List.set_cons_zero, List.set_cons_succ, i64_w, i32_w]
                            rfl
                          refine done_ (by kernel_rfl) ?_
                          have hl := HS.out.lcell xi HX.out.1 HX.out.2
                          rw [← HF2.out] at hl
                          have hc2 := hl.2.1
                          have hfz := hl.2.2
                          have hc1 : _ = some (Value.int .i64 xi) := HS.out.now (fun _ h => (blk_cell h 1).trans rfl)
                          have hc4 : _ = some (Value.bool false) := HS.out.now (fun _ h => (blk_cell h 4).trans rfl)
                          have HS2 := Aside0.mk ((HS.out.putl xi HX.out.1 HX.out.2 2).imp (Y := fun _ _ => True) (fun _ _ _ => trivial))
                          clear hl ca1 ca4 hc0 HGA
                          go_wp2_with fail
                          go_meet
                          case rel => exact ⟨_, _, _, _, _, rfl, HS2, HDn, ⟨by rw [HNL.out]; exact lens_set HLen.out HLl.out HXl.out⟩⟩
                        · as_aux_lemma =>
                          obtain ⟨L', hp, hlen, hdn⟩ := HD.out.set_ hxl h2' h0' true
                          rw [← hr1'] at hp
                          have HP := Aside0.mk hp
                          have HDn := Aside0.mk hdn
                          have HLl := Aside0.mk hlen
                          clear hp hlen hdn hm h0' h0 h2 h2' hr1 hr1' hidr hxl he39
                          go_upto_region 35 with (fail)
                          have HS := Aside0.mk HSA.out.drew
                          clear z2 HSA
                          refine start_ (n := 16) (S := fun w' => w'.cell? ⟨ga, 1, none⟩ = some (.int .i64 xi) ∧ w'.cell? ⟨ga, 4, none⟩ = some (.bool true) ∧ w'.cell? ⟨b, xi.toNat * 3 + 2, none⟩ = some (.int .i64 f2v)) (ds := []) #[false, false, false, false, false, false, false, false, false, false, false, false, false, false, false, false] (by kernel_rfl) rfl rfl ⟨(HS.out.now (fun _ h => (blk_cell h 1).trans rfl)), (HS.out.now (fun _ h => (blk_cell h 4).trans rfl)), (by have hl := HS.out.lcell xi HX.out.1 HX.out.2; rw [← HF2.out] at hl; exact hl.2.1)⟩ (fun hHeld => ?_)
                          generalize hwd_ : wA.drew = wD at HS hHeld ⊢
                          clear hwd_
                          refine pure_ (i := 0) (N := some 143) (v := ?_) (a' := ?_) #[true, false, false, false, false, false, false, false, false, false, false, false, false, false, false, false] rfl rfl (by kernel_rfl) (fun _ _ _ h => h) (Or.inl ⟨by rfl, ?_⟩) ?_ ?_
                          rotate_left
                          · intro w'
                            go_simp
                            with_reducible rfl
                          rotate_left
                          · simp only [Act.put, List.setIfInBounds_toArray, List.set_cons_zero, List.set_cons_succ, i64_w, i32_w]
                            rfl
                          refine pure_ (i := 1) (N := some 144) (v := ?_) (a' := ?_) #[true, true, false, false, false, false, false, false, false, false, false, false, false, false, false, false] rfl rfl (by kernel_rfl) (fun _ _ _ h => h) (Or.inl ⟨by rfl, ?_⟩) ?_ ?_
                          rotate_left
                          · intro w'
                            go_simp
                            with_reducible rfl
                          rotate_left
                          · simp only [Act.put, List.setIfInBounds_toArray, List.set_cons_zero, List.set_cons_succ, i64_w, i32_w]
                            rfl
                          refine pure_ (i := 2) (N := some 145) (v := ?_) (a' := ?_) #[true, true, true, false, false, false, false, false, false, false, false, false, false, false, false, false] rfl rfl (by kernel_rfl) (fun _ _ _ h => h) (Or.inl ⟨by rfl, ?_⟩) ?_ ?_
                          rotate_left
                          · intro w'
                            go_simp
                            with_reducible rfl
                          rotate_left
                          · simp only [Act.put, List.setIfInBounds_toArray, List.set_cons_zero, List.set_cons_succ, i64_w, i32_w]
                            rfl
                          refine pure_ (i := 5) (N := some 148) (v := ?_) (a' := ?_) #[true, true, true, false, false, true, false, false, false, false, false, false, false, false, false, false] rfl rfl (by kernel_rfl) (fun _ _ _ h => h) (Or.inl ⟨by rfl, ?_⟩) ?_ ?_
                          rotate_left
                          · intro w'
                            go_simp
                            with_reducible rfl
                          rotate_left
                          · simp only [Act.put, List.setIfInBounds_toArray, List.set_cons_zero, List.set_cons_succ, i64_w, i32_w]
                            rfl
                          refine pure_ (i := 8) (N := some 151) (v := ?_) (a' := ?_) #[true, true, true, false, false, true, false, false, true, false, false, false, false, false, false, false] rfl rfl (by kernel_rfl) (fun _ _ _ h => h) (Or.inl ⟨by rfl, ?_⟩) ?_ ?_
                          rotate_left
                          · intro w'
                            go_simp
                            with_reducible rfl
                          rotate_left
                          · simp only [Act.put, List.setIfInBounds_toArray, List.set_cons_zero, List.set_cons_succ, i64_w, i32_w]
                            rfl
                          refine pure_ (i := 9) (N := some 152) (v := ?_) (a' := ?_) #[true, true, true, false, false, true, false, false, true, true, false, false, false, false, false, false] rfl rfl (by kernel_rfl) (fun _ _ _ h => h) (Or.inl ⟨by rfl, ?_⟩) ?_ ?_
                          rotate_left
                          · intro w'
                            go_simp
                            with_reducible rfl
                          rotate_left
                          · simp only [Act.put, List.setIfInBounds_toArray, List.set_cons_zero, List.set_cons_succ, i64_w, i32_w]
                            rfl
                          refine take_ (i := 3) (N := some 146) (v := ?_) (a' := ?_) #[true, true, true, true, false, true, false, false, true, true, false, false, false, false, false, false] rfl rfl (by kernel_rfl) (fun _ _ _ h => h) (Or.inl ⟨by rfl, ?_⟩) hHeld ?_ ?_
                          rotate_left
                          · rintro w' ⟨s0, s1, s2⟩
                            go_simp
                            with_reducible rfl
                          rotate_left
                          · simp only [Act.put, List.setIfInBounds_toArray, List.set_cons_zero, List.set_cons_succ, i64_w, i32_w]
                            rfl
                          refine take_ (i := 6) (N := some 149) (v := ?_) (a' := ?_) #[true, true, true, true, false, true, true, false, true, true, false, false, false, false, false, false] rfl rfl (by kernel_rfl) (fun _ _ _ h => h) (Or.inl ⟨by rfl, ?_⟩) hHeld ?_ ?_
                          rotate_left
                          · rintro w' ⟨s0, s1, s2⟩
                            go_simp
                            with_reducible rfl
                          rotate_left
                          · simp only [Act.put, List.setIfInBounds_toArray, List.set_cons_zero, List.set_cons_succ, i64_w, i32_w]
                            rfl
                          refine take_ (i := 10) (N := some 153) (v := ?_) (a' := ?_) #[true, true, true, true, false, true, true, false, true, true, true, false, false, false, false, false] rfl rfl (by kernel_rfl) (fun _ _ _ h => h) (Or.inl ⟨by rfl, ?_⟩) hHeld ?_ ?_
                          rotate_left
                          · rintro w' ⟨s0, s1, s2⟩
                            go_simp
                            with_reducible rfl
                          rotate_left
                          · simp only [Act.put, List.setIfInBounds_toArray, List.set_cons_zero, List.set_cons_succ, i64_w, i32_w]
                            rfl
                          refine pure_ (i := 11) (N := some 154) (v := ?_) (a' := ?_) #[true, true, true, true, false, true, true, false, true, true, true, true, false, false, false, false] rfl rfl (by kernel_rfl) (fun _ _ _ h => h) (Or.inl ⟨by rfl, ?_⟩) ?_ ?_
                          rotate_left
                          · intro w'
                            go_simp
                            with_reducible rfl
                          rotate_left
                          · simp only [Act.put, List.setIfInBounds_toArray, List.set_cons_zero, List.set_cons_succ, i64_w, i32_w]
                            rfl
                          refine pure_ (i := 12) (N := some 155) (v := ?_) (a' := ?_) #[true, true, true, true, false, true, true, false, true, true, true, true, true, false, false, false] rfl rfl (by kernel_rfl) (fun _ _ _ h => h) (Or.inl ⟨by rfl, ?_⟩) ?_ ?_
                          rotate_left
                          · intro w'
                            go_simp
                            with_reducible rfl
                          rotate_left
                          · simp only [Act.put, List.setIfInBounds_toArray, List.set_cons_zero, List.set_cons_succ, i64_w, i32_w]
                            rfl
                          refine take_ (i := 13) (N := some 156) (v := ?_) (a' := ?_) #[true, true, true, true, false, true, true, false, true, true, true, true, true, true, false, false] rfl rfl (by kernel_rfl) (fun _ _ _ h => h) (Or.inl ⟨by rfl, ?_⟩) hHeld ?_ ?_
                          rotate_left
                          · rintro w' ⟨s0, s1, s2⟩
                            go_simp
                            with_reducible rfl
                          rotate_left
                          · simp only [Act.put, List.setIfInBounds_toArray, List.set_cons_zero, List.set_cons_succ, i64_w, i32_w]
                            rfl
                          refine pure_ (i := 14) (N := some 157) (v := ?_) (a' := ?_) #[true, true, true, true, false, true, true, false, true, true, true, true, true, true, true, false] rfl rfl (by kernel_rfl) (fun _ _ _ h => h) (Or.inl ⟨by rfl, ?_⟩) ?_ ?_
                          rotate_left
                          · intro w'
                            go_simp
                            with_reducible rfl
                          rotate_left
                          · simp only [Act.put, List.setIfInBounds_toArray, List.set_cons_zero, List.set_cons_succ, i64_w, i32_w]
                            rfl
                          refine one_ (i := 4) (N := some 147) #[true, true, true, true, true, true, true, false, true, true, true, true, true, true, true, false] rfl rfl (by kernel_rfl) (by decide) (fun K hK => ?_)
                          refine call_ 39 #[.int .i64 xi, .pointer (some ⟨gt, 0, none⟩)] (by rfl) rfl (by have he_ := HE39.out; unfold execOp; simp [resolve, Deferred.ofValue, invoke, Act.eval, he_]) ?_
                          with_reducible refine (HS.out.at_ xi HR1.out).mono ?_
                          rintro e w3 ⟨rfl, rfl⟩
                          refine ⟨_, rfl, ?_⟩
                          refine hK.out _ _ ⟨(HS.out.now (fun _ h => (blk_cell h 1).trans rfl)), (HS.out.now (fun _ h => (blk_cell h 4).trans rfl)), (by have hl := HS.out.lcell xi HX.out.1 HX.out.2; rw [← HF2.out] at hl; exact hl.2.1)⟩ (fun hHeld => ?_)
                          clear hK K
                          refine norm_ (a' := ?_) ?_ ?_
                          rotate_left
                          · show Act.put _ (some 147) _ = _
                            simp only [Act.put, List.setIfInBounds_toArray, List.set_cons_zero, List.set_cons_succ, i64_w, i32_w]
                            rfl
                          refine one_ (i := 7) (N := some 150) #[true, true, true, true, true, true, true, true, true, true, true, true, true, true, true, false] rfl rfl (by kernel_rfl) (by decide) (fun K hK => ?_)
                          refine goes_ Try.func37 (by kernel_rfl) rfl #[.pointer (some ⟨g, 0, none⟩), .int .i64 r1, .bool true] (by rfl) rfl rfl (by simp only [List.map_toArray, List.map_cons, List.map_nil]; rfl) ?_
                          with_reducible refine ((HS.out.set_ (by have := HBN.out; omega) HInv.out HRid.out.1 HRid.out.2 HM1.out HP.out)).mono ?_
                          rintro e w9 ⟨rfl, hR⟩
                          refine ⟨_, rfl, ?_⟩
                          have n0_ := Aside0.mk hR
                          clear hR
                          clear HS
                          have HS := n0_
                          clear n0_
                          refine hK.out _ _ ⟨(HS.out.now (fun _ h => (blk_cell h 1).trans rfl)), (HS.out.now (fun _ h => (blk_cell h 4).trans rfl)), (by have hl := HS.out.lcell xi HX.out.1 HX.out.2; rw [← HF2.out] at hl; exact hl.2.1)⟩ (fun hHeld => ?_)
                          clear hK K
                          refine norm_ (a' := ?_) ?_ ?_
                          rotate_left
                          · show Act.put _ (some 150) _ = _
                            simp only [Act.put, List.setIfInBounds_toArray, List.set_cons_zero, List.set_cons_succ, i64_w, i32_w]
                            rfl
                          refine pure_ (i := 15) (N := some 158) (v := ?_) (a' := ?_) #[true, true, true, true, true, true, true, true, true, true, true, true, true, true, true, true] rfl rfl (by kernel_rfl) (fun _ _ _ h => h) (Or.inl ⟨by rfl, ?_⟩) ?_ ?_
                          rotate_left
                          · intro w'
                            go_simp
                            with_reducible rfl
                          rotate_left
                          · simp only [Act.put, List.setIfInBounds_toArray, List.set_cons_zero, List.set_cons_succ, i64_w, i32_w]
                            rfl
                          refine done_ (by kernel_rfl) ?_
                          have hl := HS.out.lcell xi HX.out.1 HX.out.2
                          rw [← HF2.out] at hl
                          have hc2 := hl.2.1
                          have hfz := hl.2.2
                          have hc1 : _ = some (Value.int .i64 xi) := HS.out.now (fun _ h => (blk_cell h 1).trans rfl)
                          have hc4 : _ = some (Value.bool true) := HS.out.now (fun _ h => (blk_cell h 4).trans rfl)
                          have HS2 := Aside0.mk ((HS.out.putl xi HX.out.1 HX.out.2 1).imp (Y := fun _ _ => True) (fun _ _ _ => trivial))
                          clear hl ca1 ca4 hc0 HGA
                          go_wp2_with fail
                          go_meet
                          case rel => exact ⟨_, _, _, _, _, rfl, HS2, HDn, ⟨by rw [HNL.out]; exact lens_set HLen.out HLl.out HXl.out⟩⟩
                      · as_aux_lemma =>
                        have z0 : (f2v == 0) = false := by simp [h0]
                        have h0' : (l.getD xi.toNat z51).f2 ≠ 0 := fun h => h0 (HF2.out.trans h)
                        have hcs := HD.out.bound_ hxl h2' h0'
                        rw [← hr1'] at hcs
                        have HCS := Aside0.mk hcs
                        clear hcs h0' h0 h2 h2' hr1 hr1' hidr hxl he39
                        go_upto_region 35 with (fail)
                        have HS := Aside0.mk HSA.out.drew
                        clear z2 HSA
                        refine start_ (n := 16) (S := fun w' => w'.cell? ⟨ga, 1, none⟩ = some (.int .i64 xi) ∧ w'.cell? ⟨ga, 4, none⟩ = some (.bool bi) ∧ w'.cell? ⟨b, xi.toNat * 3 + 2, none⟩ = some (.int .i64 f2v)) (ds := []) #[false, false, false, false, false, false, false, false, false, false, false, false, false, false, false, false] (by kernel_rfl) rfl rfl ⟨(HS.out.now (fun _ h => (blk_cell h 1).trans rfl)), (HS.out.now (fun _ h => (blk_cell h 4).trans rfl)), (by have hl := HS.out.lcell xi HX.out.1 HX.out.2; rw [← HF2.out] at hl; exact hl.2.1)⟩ (fun hHeld => ?_)
                        generalize hwd_ : wA.drew = wD at HS hHeld ⊢
                        clear hwd_
                        refine pure_ (i := 0) (N := some 143) (v := ?_) (a' := ?_) #[true, false, false, false, false, false, false, false, false, false, false, false, false, false, false, false] rfl rfl (by kernel_rfl) (fun _ _ _ h => h) (Or.inl ⟨by rfl, ?_⟩) ?_ ?_
                        rotate_left
                        · intro w'
                          go_simp
                          with_reducible rfl
                        rotate_left
                        · simp only [Act.put, List.setIfInBounds_toArray, List.set_cons_zero, List.set_cons_succ, i64_w, i32_w]
                          rfl
                        refine pure_ (i := 1) (N := some 144) (v := ?_) (a' := ?_) #[true, true, false, false, false, false, false, false, false, false, false, false, false, false, false, false] rfl rfl (by kernel_rfl) (fun _ _ _ h => h) (Or.inl ⟨by rfl, ?_⟩) ?_ ?_
                        rotate_left
                        · intro w'
                          go_simp
                          with_reducible rfl
                        rotate_left
                        · simp only [Act.put, List.setIfInBounds_toArray, List.set_cons_zero, List.set_cons_succ, i64_w, i32_w]
                          rfl
                        refine pure_ (i := 2) (N := some 145) (v := ?_) (a' := ?_) #[true, true, true, false, false, false, false, false, false, false, false, false, false, false, false, false] rfl rfl (by kernel_rfl) (fun _ _ _ h => h) (Or.inl ⟨by rfl, ?_⟩) ?_ ?_
                        rotate_left
                        · intro w'
                          go_simp
                          with_reducible rfl
                        rotate_left
                        · simp only [Act.put, List.setIfInBounds_toArray, List.set_cons_zero, List.set_cons_succ, i64_w, i32_w]
                          rfl
                        refine pure_ (i := 5) (N := some 148) (v := ?_) (a' := ?_) #[true, true, true, false, false, true, false, false, false, false, false, false, false, false, false, false] rfl rfl (by kernel_rfl) (fun _ _ _ h => h) (Or.inl ⟨by rfl, ?_⟩) ?_ ?_
                        rotate_left
                        · intro w'
                          go_simp
                          with_reducible rfl
                        rotate_left
                        · simp only [Act.put, List.setIfInBounds_toArray, List.set_cons_zero, List.set_cons_succ, i64_w, i32_w]
                          rfl
                        refine pure_ (i := 8) (N := some 151) (v := ?_) (a' := ?_) #[true, true, true, false, false, true, false, false, true, false, false, false, false, false, false, false] rfl rfl (by kernel_rfl) (fun _ _ _ h => h) (Or.inl ⟨by rfl, ?_⟩) ?_ ?_
                        rotate_left
                        · intro w'
                          go_simp
                          with_reducible rfl
                        rotate_left
                        · simp only [Act.put, List.setIfInBounds_toArray, List.set_cons_zero, List.set_cons_succ, i64_w, i32_w]
                          rfl
                        refine pure_ (i := 9) (N := some 152) (v := ?_) (a' := ?_) #[true, true, true, false, false, true, false, false, true, true, false, false, false, false, false, false] rfl rfl (by kernel_rfl) (fun _ _ _ h => h) (Or.inl ⟨by rfl, ?_⟩) ?_ ?_
                        rotate_left
                        · intro w'
                          go_simp
                          with_reducible rfl
                        rotate_left
                        · simp only [Act.put, List.setIfInBounds_toArray, List.set_cons_zero, List.set_cons_succ, i64_w, i32_w]
                          rfl
                        refine take_ (i := 3) (N := some 146) (v := ?_) (a' := ?_) #[true, true, true, true, false, true, false, false, true, true, false, false, false, false, false, false] rfl rfl (by kernel_rfl) (fun _ _ _ h => h) (Or.inl ⟨by rfl, ?_⟩) hHeld ?_ ?_
                        rotate_left
                        · rintro w' ⟨s0, s1, s2⟩
                          go_simp
                          with_reducible rfl
                        rotate_left
                        · simp only [Act.put, List.setIfInBounds_toArray, List.set_cons_zero, List.set_cons_succ, i64_w, i32_w]
                          rfl
                        refine take_ (i := 6) (N := some 149) (v := ?_) (a' := ?_) #[true, true, true, true, false, true, true, false, true, true, false, false, false, false, false, false] rfl rfl (by kernel_rfl) (fun _ _ _ h => h) (Or.inl ⟨by rfl, ?_⟩) hHeld ?_ ?_
                        rotate_left
                        · rintro w' ⟨s0, s1, s2⟩
                          go_simp
                          with_reducible rfl
                        rotate_left
                        · simp only [Act.put, List.setIfInBounds_toArray, List.set_cons_zero, List.set_cons_succ, i64_w, i32_w]
                          rfl
                        refine take_ (i := 10) (N := some 153) (v := ?_) (a' := ?_) #[true, true, true, true, false, true, true, false, true, true, true, false, false, false, false, false] rfl rfl (by kernel_rfl) (fun _ _ _ h => h) (Or.inl ⟨by rfl, ?_⟩) hHeld ?_ ?_
                        rotate_left
                        · rintro w' ⟨s0, s1, s2⟩
                          go_simp
                          with_reducible rfl
                        rotate_left
                        · simp only [Act.put, List.setIfInBounds_toArray, List.set_cons_zero, List.set_cons_succ, i64_w, i32_w]
                          rfl
                        refine pure_ (i := 11) (N := some 154) (v := ?_) (a' := ?_) #[true, true, true, true, false, true, true, false, true, true, true, true, false, false, false, false] rfl rfl (by kernel_rfl) (fun _ _ _ h => h) (Or.inl ⟨by rfl, ?_⟩) ?_ ?_
                        rotate_left
                        · intro w'
                          go_simp
                          with_reducible rfl
                        rotate_left
                        · simp only [Act.put, List.setIfInBounds_toArray, List.set_cons_zero, List.set_cons_succ, i64_w, i32_w]
                          rfl
                        refine pure_ (i := 12) (N := some 155) (v := ?_) (a' := ?_) #[true, true, true, true, false, true, true, false, true, true, true, true, true, false, false, false] rfl rfl (by kernel_rfl) (fun _ _ _ h => h) (Or.inl ⟨by rfl, ?_⟩) ?_ ?_
                        rotate_left
                        · intro w'
                          go_simp
                          with_reducible rfl
                        rotate_left
                        · simp only [Act.put, List.setIfInBounds_toArray, List.set_cons_zero, List.set_cons_succ, i64_w, i32_w]
                          rfl
                        refine take_ (i := 13) (N := some 156) (v := ?_) (a' := ?_) #[true, true, true, true, false, true, true, false, true, true, true, true, true, true, false, false] rfl rfl (by kernel_rfl) (fun _ _ _ h => h) (Or.inl ⟨by rfl, ?_⟩) hHeld ?_ ?_
                        rotate_left
                        · rintro w' ⟨s0, s1, s2⟩
                          go_simp
                          with_reducible rfl
                        rotate_left
                        · simp only [Act.put, List.setIfInBounds_toArray, List.set_cons_zero, List.set_cons_succ, i64_w, i32_w]
                          rfl
                        refine pure_ (i := 14) (N := some 157) (v := ?_) (a' := ?_) #[true, true, true, true, false, true, true, false, true, true, true, true, true, true, true, false] rfl rfl (by kernel_rfl) (fun _ _ _ h => h) (Or.inl ⟨by rfl, ?_⟩) ?_ ?_
                        rotate_left
                        · intro w'
                          go_simp
                          with_reducible rfl
                        rotate_left
                        · simp only [Act.put, List.setIfInBounds_toArray, List.set_cons_zero, List.set_cons_succ, i64_w, i32_w]
                          rfl
                        refine one_ (i := 4) (N := some 147) #[true, true, true, true, true, true, true, false, true, true, true, true, true, true, true, false] rfl rfl (by kernel_rfl) (by decide) (fun K hK => ?_)
                        refine call_ 39 #[.int .i64 xi, .pointer (some ⟨gt, 0, none⟩)] (by rfl) rfl (by have he_ := HE39.out; unfold execOp; simp [resolve, Deferred.ofValue, invoke, Act.eval, he_]) ?_
                        with_reducible refine (HS.out.at_ xi HR1.out).mono ?_
                        rintro e w3 ⟨rfl, rfl⟩
                        refine ⟨_, rfl, ?_⟩
                        refine hK.out _ _ ⟨(HS.out.now (fun _ h => (blk_cell h 1).trans rfl)), (HS.out.now (fun _ h => (blk_cell h 4).trans rfl)), (by have hl := HS.out.lcell xi HX.out.1 HX.out.2; rw [← HF2.out] at hl; exact hl.2.1)⟩ (fun hHeld => ?_)
                        clear hK K
                        refine norm_ (a' := ?_) ?_ ?_
                        rotate_left
                        · show Act.put _ (some 147) _ = _
                          simp only [Act.put, List.setIfInBounds_toArray, List.set_cons_zero, List.set_cons_succ, i64_w, i32_w]
                          rfl
                        refine one_ (i := 7) (N := some 150) #[true, true, true, true, true, true, true, true, true, true, true, true, true, true, true, false] rfl rfl (by kernel_rfl) (by decide) (fun K hK => ?_)
                        refine goes_ Try.func37 (by kernel_rfl) rfl #[.pointer (some ⟨g, 0, none⟩), .int .i64 r1, .bool bi] (by rfl) rfl rfl (by simp only [List.map_toArray, List.map_cons, List.map_nil]; rfl) ?_
                        with_reducible refine ((HS.out.no_ r1 bi HCS.out)).mono ?_
                        rintro e w9 ⟨rfl, rfl⟩
                        refine ⟨_, rfl, ?_⟩
                        refine hK.out _ _ ⟨(HS.out.now (fun _ h => (blk_cell h 1).trans rfl)), (HS.out.now (fun _ h => (blk_cell h 4).trans rfl)), (by have hl := HS.out.lcell xi HX.out.1 HX.out.2; rw [← HF2.out] at hl; exact hl.2.1)⟩ (fun hHeld => ?_)
                        clear hK K
                        refine norm_ (a' := ?_) ?_ ?_
                        rotate_left
                        · show Act.put _ (some 150) _ = _
                          simp only [Act.put, List.setIfInBounds_toArray, List.set_cons_zero, List.set_cons_succ, i64_w, i32_w]
                          rfl
                        refine pure_ (i := 15) (N := some 158) (v := ?_) (a' := ?_) #[true, true, true, true, true, true, true, true, true, true, true, true, true, true, true, true] rfl rfl (by kernel_rfl) (fun _ _ _ h => h) (Or.inl ⟨by rfl, ?_⟩) ?_ ?_
                        rotate_left
                        · intro w'
                          go_simp
                          with_reducible rfl
                        rotate_left
                        · simp only [Act.put, List.setIfInBounds_toArray, List.set_cons_zero, List.set_cons_succ, i64_w, i32_w]
                          rfl
                        refine done_ (by kernel_rfl) ?_
                        have hl := HS.out.lcell xi HX.out.1 HX.out.2
                        rw [← HF2.out] at hl
                        have hc2 := hl.2.1
                        have hc1 : _ = some (Value.int .i64 xi) := HS.out.now (fun _ h => (blk_cell h 1).trans rfl)
                        clear hl ca1 ca4 hc0 HGA
                        go_wp2_with fail
                        go_meet
                        case rel => exact ⟨_, _, _, _, _, rfl, ⟨HS.out.imp (Y := fun _ _ => True) (fun _ _ _ => trivial)⟩, HD, ⟨by rw [HNL.out]; exact lens_same HLen.out⟩⟩
                    · have z2 : (f0v == 2) = false := by simp [h2]
                      clear h2
                      go_wp2_with fail
                      go_meet
                      case rel => exact ⟨_, _, _, _, _, rfl, HSk, HD, ⟨by rw [HNL.out]; exact lens_same HLen.out⟩⟩
                  · by_cases hx0 : 0 ≤ xi
                    · have y0 : decide (xi ≥ 0) = true := by simp; omega
                      have y2 : decide (0 ≤ xi) = true := by simp; omega
                      have y1 : decide (xi < (nl : Int)) = false := by simp; omega
                      clear hx hx0
                      go_wp2_with fail
                      go_meet
                      case rel => exact ⟨_, _, _, _, _, rfl, HSk, HD, ⟨by rw [HNL.out]; exact lens_same HLen.out⟩⟩
                    · have y0 : decide (xi ≥ 0) = false := by simp; omega
                      have y2 : decide (0 ≤ xi) = false := by simp; omega
                      clear hx hx0
                      go_wp2_with fail
                      go_meet
                      case rel => exact ⟨_, _, _, _, _, rfl, HSk, HD, ⟨by rw [HNL.out]; exact lens_same HLen.out⟩⟩
                · have k3 : (ki == 3) = false := by simp [hk3]
                  clear hk0 hk1 hk2 hk3 HLn
                  go_wp2_with fail
                  go_meet
                  case rel => exact ⟨_, _, _, _, _, rfl, HSk, HD, ⟨by rw [HNL.out]; exact lens_same HLen.out⟩⟩
        case rest =>
          as_aux_lemma =>
          obtain ⟨L1, ids1, l1, vt1, mo, rfl, HS, HD1, HL1⟩ := hcut
          clear HSA HLn HLen HD HM HGA HNL H10 lb0 lb1
          have HLn1 := Aside0.mk HS.out.len_
          have q4 : decide ((L1.length : Int) > mo) = false := by have := HL1.out.1; simp; omega
          have q5 : decide (mo < (L1.length : Int)) = false := by have := HL1.out.1; simp; omega
          obtain ⟨nL1, hnL1⟩ : ∃ n : Int, n = (L1.length : Int) := ⟨_, rfl⟩
          obtain ⟨Al, cl, el, hcl, hCl⟩ := HS.out.rowC
          subst el
          have hval := values_f l1 (by have := HL1.out; have := HD1.out.len; have := HN0.out; have := C3.out; omega) (fun t ht => by have := HL1.out.2.2.2 t ht; omega)
          rw [HD1.out.values] at hval
          obtain ⟨vs, hvs⟩ : ∃ vs, vs = ids1.map fun y => ((valT L1 y : Nat) : Int) := ⟨_, rfl⟩
          rw [← hvs] at hval
          have HVs := Aside0.mk hvs
          have HV := Aside0.mk (riffleref18_Values.calls 10000 Al cl l1 vs wc hCl hcl hval)
          obtain ⟨nl, hnl⟩ : ∃ n, n = l1.length := ⟨_, rfl⟩
          have HNl := Aside0.mk hnl
          rw [← hnL1] at HLn1 q4 q5
          rw [← hnl] at HV ⊢
          clear hval hvs hCl hcl hnL1 hnl
          go_upto_region 43 with (first | (go_at_call 40; refine HLn1.out.mono ?_; rintro e w4 ⟨rfl, rfl⟩))
          clear q4 q5 HLn1
          go_upto_block 5 with (first | (go_at_call 41; refine HV.out.mono ?_; rintro e w5 ⟨v5, rfl, hR, hB⟩; obtain ⟨Av, cv, rfl⟩ := Kd.R_slice hR; have HCv := Aside0.mk (Kd.R_reads' hR).2.2; have HS5 := Aside0.mk (HS.out.below_ hB); clear hR hB HV))
          clear HS
          obtain ⟨N, hN⟩ : ∃ N, N = vs.length := ⟨_, rfl⟩
          have HNid := Aside0.mk (show N = ids1.length by rw [hN, HVs.out, List.length_map])
          have HNb := Aside0.mk (show N < 1000 by have := HL1.out; have := HNid.out; have := HN0.out; have := C3.out; omega)
          rw [← hN] at HCv ⊢
          rw [← HNl.out] at HS5
          clear hN
          go_wp2_with fail
          go_loopg [194] N (fun kq v194 w' => ∃ k : Nat, Aside0 (kq + k = N) ∧ v194 = .int .i64 (k : Int) ∧ Aside0 (Run w w' g gt vt1 vt1 (.slice Al nl cl) L1 ids1 l1 (fun _ _ => True)) ∧ Aside0 (Kd.C (Kd.int .i64) w' Av N vs))
          case atStart => exact ⟨0, ⟨by omega⟩, rfl, HS5, HCv⟩
          case round =>
            clear HS5 HCv
            obtain ⟨k, hk, rfl, H6, HC6⟩ := hrel
            by_cases c7 : k < N
            · obtain ⟨t, ht⟩ : ∃ t : Int, t = (k : Int) := ⟨_, rfl⟩
              have t0 : 0 ≤ t := by omega
              have t1 : t < (N : Int) := by omega
              obtain ⟨At, ct, et, -, hrow⟩ := H6.out.thingsC
              rw [← HNid.out] at et hrow
              obtain ⟨adt, rfl, hcell⟩ := (Kd.reads_of_C (enc := Value.int .i64) (d := (0 : Int)) (h1 := fun _ => rfl) hrow).at_ t t0 t1
              obtain ⟨adv, rfl, hcv⟩ := (Kd.reads_of_C (enc := Value.int .i64) (d := (0 : Int)) (h1 := fun _ => rfl) HC6.out).at_ t t0 t1
              obtain ⟨x7, hx7⟩ : ∃ x, x = rdOf 0 ids1 t := ⟨_, rfl⟩
              have hv7 : rdOf 0 vs t = (valT L1 x7 : Nat) := by
                have hlt : t.toNat < ids1.length := by rw [← HNid.out]; omega
                rw [HVs.out, hx7]
                unfold rdOf
                rw [List.getD_eq_getElem?_getD, List.getElem?_map, List.getD_eq_getElem?_getD, List.getElem?_eq_getElem hlt]
                rfl
              rw [← hx7] at hcell
              rw [hv7] at hcv
              have HV := Aside0.mk (H6.out.value_ x7)
              obtain ⟨v7, hv7'⟩ : ∃ v : Int, v = (valT L1 x7 : Nat) := ⟨_, rfl⟩
              rw [← hv7'] at HV hcv
              have hgt := H6.out.cell0
              rw [et] at hgt
              have q7 : decide (t < (N : Int)) = true := decide_eq_true t1
              have r1 : (v7 != v7) = false := by simp
              have T1 := Aside0.mk (show t + 1 = ((k + 1 : Nat) : Int) by omega)
              have TB := Aside0.mk (show 0 ≤ t ∧ t < 1000 by have := HNb.out; omega)
              have C7 := Aside0.mk c7
              rw [← ht]
              clear hrow hx7 hv7 hv7' ht c7 et
              replace t0 := eq_true t0
              replace t1 := eq_true t1
              go_upto_region 48 with (first | (go_at_call 38; refine HV.out.mono ?_; rintro e w9 ⟨rfl, rfl⟩))
              clear hcell hcv hgt q7 r1 t0 t1 HV
              have tb1 := TB.out.1
              have tb2 := TB.out.2
              go_wp2_with fail
              go_roundg (N - (k + 1))
              case measure => have := hk.out; have := C7.out; omega
              case rel => exact ⟨k + 1, ⟨by have := C7.out; omega⟩, by rw [T1.out], H6, HC6⟩
            · have q7 : decide ((k : Int) < (N : Int)) = false := by simp; omega
              obtain ⟨t, ht⟩ : ∃ t : Int, t = (k : Int) := ⟨_, rfl⟩
              rw [← ht] at q7 ⊢
              have z0 := ZB.out.1
              have z1 := ZB.out.2
              clear c7 hk ht
              go_wp2_with fail
              go_roundg (n0 - (i + 1))
              case measure => have := hi.out; have := C3.out; omega
              case rel => exact ⟨i + 1, L1, ids1, l1, vt1, ⟨by have := C3.out; omega⟩, by rw [Z1.out], H6, HD1, ⟨HL1.out.2⟩⟩
    · as_aux_lemma =>
      have q3 : decide ((i : Int) < (n0 : Int)) = false := by simp; omega
      obtain ⟨z, hz⟩ : ∃ z : Int, z = (i : Int) := ⟨_, rfl⟩
      rw [← hz] at q3 ⊢
      have HLn := Aside0.mk HS.out.len_
      have HV1 := Aside0.mk (HS.out.value_ (-1))
      have HV2 := Aside0.mk (HS.out.value_ (L.length : Int))
      have hcs := canSet_no HD.out.inv
      have HN1 := Aside0.mk (HS.out.no_ 0 true hcs.1)
      have HN2 := Aside0.mk (HS.out.no_ 1 false hcs.2.1)
      have HN3 := Aside0.mk (HS.out.no_ (-1) true hcs.2.2.1)
      have HN4 := Aside0.mk (HS.out.no_ (L.length : Int) true hcs.2.2.2)
      rw [(valT_ends L).1, show ((2 : Nat) : Int) = 2 from rfl] at HV1
      rw [(valT_ends L).2, show ((2 : Nat) : Int) = 2 from rfl] at HV2
      obtain ⟨nL, hnL⟩ : ∃ n : Int, n = (L.length : Int) := ⟨_, rfl⟩
      rw [← hnL] at HLn HV2 HN4
      clear c3 hz hcs hnL
      go_upto_region 50 with (fail)
      clear q3
      go_wp2_with (fail)
      go_at_call 38; refine HV1.out.mono ?_; rintro e w4 ⟨rfl, rfl⟩
      go_wp2_with (fail)
      go_at_call 40; refine HLn.out.mono ?_; rintro e w4 ⟨rfl, rfl⟩
      go_wp2_with (fail)
      go_at_call 38; refine HV2.out.mono ?_; rintro e w4 ⟨rfl, rfl⟩
      go_wp2_with (fail)
      go_at_call 31; refine (no_calls _ _).mono ?_; rintro e w4 ⟨rfl, rfl⟩
      go_wp2_with (fail)
      go_at_call 37; refine HN1.out.mono ?_; rintro e w4 ⟨rfl, rfl⟩
      go_wp2_with (fail)
      go_at_call 32; refine (yes_calls _ _).mono ?_; rintro e w4 ⟨rfl, rfl⟩
      go_wp2_with (fail)
      go_at_call 37; refine HN2.out.mono ?_; rintro e w4 ⟨rfl, rfl⟩
      go_wp2_with (fail)
      go_at_call 37; refine HN3.out.mono ?_; rintro e w4 ⟨rfl, rfl⟩
      go_wp2_with (fail)
      go_at_call 40; refine HLn.out.mono ?_; rintro e w4 ⟨rfl, rfl⟩
      go_wp2_with (fail)
      go_at_call 37; refine HN4.out.mono ?_; rintro e w4 ⟨rfl, rfl⟩
      go_wp2_with (fail)
      go_ret
      exact ⟨rfl, HS.out.below⟩

theorem runs_walk (a0 : Option Addr) (len0 cap0 : Nat) (z0 : List S45) (w : World) (w0 : Kd.C k45 w a0 len0 z0) :
    Calls Try.prog 10 #[.slice a0 len0 cap0] w fun e w' => e = .returned (.bool true) ∧ Below w.heap.size w w' := by
  by_cases h : 40 < len0
  · exact runs_out _ _ _ w h
  · exact runs_main _ _ _ z0 w w0 (by omega)
end Go.Proofs.Ytjfoppmpiklfiab.BookW
