/- The law TruthStays: what is known stays as it is; as soon as all variables are set, all is known. Conditions: none. -/
import Derived.Test.YtjfoppmpiklfiabBookI
namespace Go.Proofs.Ytjfoppmpiklfiab.BookW
open Go.RowKit Go.Proofs.YtjfoppmpiklfiabW.PrintWords Go.Proofs.YtjfoppmpiklfiabW.PrintLast Go.Proofs.YtjfoppmpiklfiabW.PrintMore Go.Proofs.Ytjfoppmpiklfiab.PTruthRuns Go.Proofs.Ytjfoppmpiklfiab.Truth
set_option linter.unusedVariables false
set_option linter.unusedSimpArgs false
theorem newL_stay : Stay newL [0, 1] [] := by
  refine ⟨newL_inv, by decide, fun x hx => ?_, fun x hx => (by cases hx), List.nodup_nil, fun k hk h1 => ?_⟩
  · simp at hx
    have : newL.length = 2 := rfl
    omega
  · have : newL.length = 2 := rfl
    match k, hk, h1 with
    | 0, _, h1 => cases h1
    | 1, _, h1 => cases h1
    | k + 2, hk, _ => omega
/-- The three blocks that a law lays ahead of its loop. -/
theorem law_start {w W : World} {g : Nat} (hI : IsB w W g (fun _ => True) newL) (hB : Below w.heap.size w W) (W1 : World)
    (hW : W1 = ((W.alloc (.cells #[.int .i64 0, .int .i64 1] 3)).alloc (.cells #[] 3)).alloc (.cells #[.slice (some ⟨W.heap.size, 0, none⟩) 2 2] 42)) :
    LawSt w W1 g (W.heap.size + 2) (.slice (some ⟨W.heap.size, 0, none⟩) 2 2) (.slice (some ⟨W.heap.size + 1, 0, none⟩) 0 0) newL [0, 1] [] := by
  obtain ⟨Wa, hWa⟩ : ∃ Wa, Wa = W.alloc (.cells #[.int .i64 0, .int .i64 1] 3) := ⟨_, rfl⟩
  obtain ⟨Wb, hWb⟩ : ∃ Wb, Wb = Wa.alloc (.cells #[] 3) := ⟨_, rfl⟩
  rw [← hWa, ← hWb] at hW
  have ha : Wa.heap.size = W.heap.size + 1 := by rw [hWa]; simp
  have hb : Wb.heap.size = W.heap.size + 2 := by rw [hWb]; simp; omega
  have bab : Below Wa.heap.size Wa Wb := by rw [hWb]; exact below_alloc (Below.refl _ _) _
  have bb1 : Below Wb.heap.size Wb W1 := by rw [hW]; exact below_alloc (Below.refl _ _) _
  have b0a : Below W.heap.size W Wa := by rw [hWa]; exact below_alloc (Below.refl _ _) _
  have ba1 : Below Wa.heap.size Wa W1 := below_step bab bb1
  have b01 : Below W.heap.size W W1 := below_step b0a ba1
  have hle := hB.size
  have ho := own_lit_of (enc := fun z : Int => Value.int .i64 z) W w.heap.size 3 [0, 1] hle (by decide)
  have hoA : Wa.ownsRow w.heap.size 3 1 (.slice (some ⟨W.heap.size, 0, none⟩) 2 2) 2 (encs (fun z : Int => Value.int .i64 z) [0, 1]) := by rw [hWa]; exact ho
  have hob := own_lit_of (enc := fun z : Int => Value.int .i64 z) Wa w.heap.size 3 [] (by omega) (by decide)
  have hoB : Wb.ownsRow w.heap.size 3 1 (.slice (some ⟨W.heap.size + 1, 0, none⟩) 0 0) 0 [] := by rw [hWb, ← ha]; exact hob
  have hgl := hI.lt
  have ov : ∀ k, (Value.slice (some ⟨W.heap.size, 0, none⟩) 2 2).ownBlock = some k → k = W.heap.size := fun k hk => by
    have : W.heap.size = k := by simpa [Value.ownBlock] using hk
    exact this.symm
  have ow : ∀ k, (Value.slice (some ⟨W.heap.size + 1, 0, none⟩) 0 0).ownBlock = some k → k = W.heap.size + 1 := fun k hk => by
    have : W.heap.size + 1 = k := by simpa [Value.ownBlock] using hk
    exact this.symm
  refine ⟨(hI.bound.below b01).mono (fun k hk => ⟨by have := hk.2; omega, fun he => by have := ov k he.symm; have := hk.2; omega, fun he => by have := ow k he.symm; have := hk.2; omega⟩), ?_, by omega, ?_, ?_, below_step hB b01⟩
  · rw [hW, ← hb]; exact heap_alloc_new Wb _
  · exact Kd.R_below (Kd.R_of_own (ok := fun k => k ≠ g ∧ k ≠ W.heap.size + 2 ∧ some k ≠ (Value.slice (some ⟨W.heap.size + 1, 0, none⟩) 0 0).ownBlock) hoA (fun k hk => by have := ov k hk; exact ⟨by omega, by omega, fun he => by have := ow k he.symm; omega⟩)) ba1
  · exact Kd.R_below (Kd.R_of_own (ok := fun k => k ≠ g ∧ k ≠ W.heap.size + 2) (xs := []) hoB (fun k hk => by have := ow k hk; exact ⟨by omega, by omega⟩)) bb1
/-- A new number's row, beside what a law keeps. -/
theorem LawSt.tmp {w W : World} {g gt : Nat} {vt vv : Value} {L : List T} {ids vars : List Int} (h : LawSt w W g gt vt vv L ids vars) (x : Int) :
    Kd.F (Kd.int .i64) (W.alloc (.cells #[.int .i64 x] 3)) (fun k => k = W.heap.size) (some ⟨W.heap.size, 0, none⟩) 1 [x] ∧ some W.heap.size ≠ vt.ownBlock ∧ some W.heap.size ≠ vv.ownBlock := by
  refine ⟨?_, fun he => by have := Kd.R_lt h.things _ he.symm; omega, fun he => by have := Kd.R_lt h.row _ he.symm; omega⟩
  have h1 : (Kd.int .i64).R 3 (W.alloc (.cells #[.int .i64 x] 3)) W.heap.size (fun _ => True) (.slice (some ⟨W.heap.size, 0, none⟩) 1 1) [x] := Kd.R_of_own (own_lit_of (enc := fun z : Int => Value.int .i64 z) W W.heap.size 3 [x] (Nat.le_refl _) (by simp)) (fun _ _ => trivial)
  refine Kd.F_mono (Kd.R_F (Kd.R_tight Eint h1)) (fun k hk => ?_)
  have : W.heap.size = k := by simpa [Value.ownBlock] using hk.symm
  exact this.symm
theorem LawSt.row' {w W : World} {g gt : Nat} {vt vv : Value} {L : List T} {ids vars : List Int} (h : LawSt w W g gt vt vv L ids vars) : (Kd.int .i64).R 3 W w.heap.size (fun k => k ≠ g ∧ k ≠ gt ∧ some k ≠ vt.ownBlock) vv vars :=
  Kd.R_mono (Kd.R_tight Eint h.row) (fun k hk => ⟨(h.row.1 k hk.symm).1, (h.row.1 k hk.symm).2, fun he => (h.things.1 k he.symm).2.2 hk⟩)
/-- Behind the things: what is asked of them, one by one. -/
structure Law2 (w W : World) (g gt : Nat) (vt vv : Value) (bw c N : Nat) (L : List T) (ids vars was : List Int) : Prop where
  st : LawSt w W g gt vt vv L ids vars
  book2 : IsB w W g (fun k => Away gt vt vv k ∧ k ≠ bw) L
  was : (Kd.int .i64).R 3 W w.heap.size (fun k => k = bw) (.slice (some ⟨bw, 0, none⟩) N c) was
  apart : bw ≠ g ∧ Away gt vt vv bw
section
variable {w W W1 : World} {g gt bw c N : Nat} {vt vv : Value} {L L1 : List T} {ids vars was : List Int}
theorem Law2.lt (h : Law2 w W g gt vt vv bw c N L ids vars was) : bw < W.heap.size := Kd.R_lt h.was bw (by simp [Value.ownBlock])
theorem Law2.fresh (h : Law2 w W g gt vt vv bw c N L ids vars was) (k : Nat) (hk : W.heap.size ≤ k) : Away gt vt vv k ∧ k ≠ bw := ⟨h.st.fresh k hk, by have := h.lt; omega⟩
theorem Law2.call (h : Law2 w W g gt vt vv bw c N L ids vars was) (hb : IsB w W1 g (fun k => Away gt vt vv k ∧ k ≠ bw) L1) (hB : Below w.heap.size w W1) (hk : KeepB g (fun k => Away gt vt vv k ∧ k ≠ bw) W W1) : Law2 w W1 g gt vt vv bw c N L1 ids vars was :=
  ⟨h.st.call (fun k hk => hk.1) hb hB hk, hb, Kd.R_step h.was (fun k ho hlt => hk.2 k hlt (by rw [ho]; exact h.apart.1) (fun hp => hp.2 ho)), h.apart⟩
theorem Law2.put (h : Law2 w W g gt vt vv bw c N L ids vars was) (m : Int) (x : Int) : Law2 w (W.setCell ⟨bw, m.toNat, none⟩ (.int .i64 x)) g gt vt vv bw c N L ids vars (was.set m.toNat x) := by
  obtain ⟨a, b⟩ := Kd.R_putg h.was m x
  have hfar : ∀ k, k ≠ bw → (W.setCell ⟨bw, m.toNat, none⟩ (.int .i64 x)).heap[k]? = W.heap[k]? := fun k hk => Below.heap_setCell W ⟨bw, m.toNat, none⟩ _ k hk
  have hB : Below w.heap.size w (W.setCell ⟨bw, m.toNat, none⟩ (.int .i64 x)) := below_set h.st.below (Kd.R_base h.was bw (by simp [Value.ownBlock]))
  have hb2 : IsB w (W.setCell ⟨bw, m.toNat, none⟩ (.int .i64 x)) g (fun k => Away gt vt vv k ∧ k ≠ bw) L := h.book2.step (hfar g h.apart.1.symm) (fun k hk _ => hfar k hk.2)
  have hap := h.apart.2
  refine ⟨⟨hb2.mono (fun k hk => hk.1), (hfar gt hap.1.symm).trans h.st.cell, h.st.gtb, ?_, ?_, hB⟩, hb2, a, h.apart⟩
  · exact Kd.R_grown2 h.st.things Eint b (fun k hk => by injection hk with hk; rw [← hk]; exact hap.2.1)
  · exact Kd.R_grown2 h.st.row Eint b (fun k hk => by injection hk with hk; rw [← hk]; exact hap.2.2)
theorem Law2.start {v1 : Value} (h : LawSt w W g gt vt vv L ids vars) (hR : (Kd.int .i64).R 3 W1 W.heap.size (fun _ => True) v1 was) (hbel : Below W.heap.size W W1) (hn : 0 < was.length) : ∃ bw c, v1 = .slice (some ⟨bw, 0, none⟩) was.length c ∧ Law2 w W1 g gt vt vv bw c was.length L ids vars was := by
  obtain ⟨bw, c, e, hb, hlt, _⟩ := Kd.R_form hR hn
  have h1 := h.below_ hbel
  have hle := h.below.size
  have hap : Away gt vt vv bw := h.fresh bw hb
  refine ⟨bw, c, e, h1, h.book.beside hbel hb, ?_, by have := h.book.lt; omega, hap⟩
  rw [e] at hR
  refine Kd.R_lower (Kd.R_mono (Kd.R_tight Eint hR) (fun k hk => ?_)) (show w.heap.size ≤ W.heap.size from hle)
  have : bw = k := by simpa [Value.ownBlock] using hk.symm
  exact this.symm
end
set_option maxHeartbeats 4000000 in
set_option maxRecDepth 100000 in
theorem stays_out (A0 : Option Addr) (n0 c0 : Nat) (A1 : Option Addr) (n1 c1 : Nat) (w : World) (h : 40 < n0 ∨ (n0 ≤ 40 ∧ 100 < n1)) :
    Calls Try.prog 9 #[.slice A0 n0 c0, .slice A1 n1 c1] w fun e w' => e = .returned (.bool true) ∧ Below w.heap.size w w' := by
  rcases h with h | ⟨h, h1⟩
  · have q0 : decide ((n0 : Int) > 40) = true := by simp; omega
    clear h
    go_enter Try.func9, Try.ntmps9
    go_wp2_with (first | (go_at_call 29; refine (alive_calls w).mono ?_; rintro e w1 ⟨rfl, hb⟩; have HB := Aside0.mk hb; clear hb))
    go_ret
    exact ⟨rfl, HB.out⟩
  · have q0 : decide ((n0 : Int) > 40) = false := by simp; omega
    have q1 : decide ((n1 : Int) > 100) = true := by simp; omega
    clear h h1
    go_enter Try.func9, Try.ntmps9
    go_wp2_with (first | (go_at_call 29; refine (alive_calls w).mono ?_; rintro e w1 ⟨rfl, hb⟩; have HB := Aside0.mk hb; clear hb))
    go_ret
    exact ⟨rfl, HB.out⟩

set_option maxHeartbeats 16000000 in
set_option maxRecDepth 100000 in
theorem stays_main (A0 : Option Addr) (n0 c0 : Nat) (acts : List S45) (A1 : Option Addr) (n1 c1 : Nat) (ys : List Bool) (w : World)
    (hr0 : Kd.C k45 w A0 n0 acts) (hr1 : ReadsOf Value.bool false w A1 n1 ys) (h0 : n0 ≤ 40) (h1 : n1 ≤ 100) :
    Calls Try.prog 9 #[.slice A0 n0 c0, .slice A1 n1 c1] w fun e w' => e = .returned (.bool true) ∧ Below w.heap.size w w' := by
  have q0 : decide ((n0 : Int) > 40) = false := by simp; omega
  have q1 : decide ((n1 : Int) > 100) = false := by simp; omega
  have HR0 := Aside0.mk hr0
  have HR1 := Aside0.mk hr1
  have HN0 := Aside0.mk h0
  have HN1 := Aside0.mk h1
  have HLA := Aside0.mk hr0.1
  have hmf : ∀ (fn : Fn) (first cap : Array Value) (W : World), (Instr.makeFunc fn first cap).run Try.prog W = .ok (.func fn first cap) W := fun _ _ _ _ => rfl
  clear hr0 hr1 h0 h1
  go_enter Try.func9, Try.ntmps9
  go_upto_region 5 with (first | (go_at_call 29; refine (alive_calls w).mono ?_; rintro e w1 ⟨rfl, hb⟩; have HB := Aside0.mk hb; clear hb))
  have HNew := Aside0.mk (new_calls w w1 HB.out (fun _ => True) (fun _ _ => trivial))
  go_upto_region 8 with (first | (go_at_call 30; refine HNew.out.mono ?_; rintro e w2 ⟨rfl, hI, hb, -⟩; have HI := Aside0.mk hI; have HB2 := Aside0.mk (below_step HB.out hb); clear hI hb HNew))
  generalize w1.heap.size + 1 = g at HI ⊢
  go_upto_region 9 with (first | (go_at_call 31; refine (no_calls _ w2).mono ?_; rintro e w3 ⟨rfl, rfl⟩) | (go_at_call 32; refine (yes_calls _ w2).mono ?_; rintro e w3 ⟨rfl, rfl⟩))
  have HS := Aside0.mk (law_start HI.out HB2.out _ rfl)
  generalize hW0 : World.alloc _ _ = W0 at HS ⊢
  generalize hgt : w2.heap.size + 2 = gt at HS ⊢
  generalize hvv : Value.slice (some ⟨w2.heap.size + 1, 0, none⟩) 0 0 = vv0 at HS ⊢
  clear hW0 hgt hvv q0 q1 HB HB2 HI
  go_wp2_with fail
  clear hmf
  go_loopg [7, 45] n0 (fun kq v7 v45 w' => ∃ (i : Nat) (L : List T) (ids vars : List Int) (vt : Value), Aside0 (kq + i = n0) ∧ v45 = .int .i64 (i : Int) ∧ Aside0 (LawSt w w' g gt vt v7 L ids vars) ∧ Aside0 (Stay L ids vars) ∧ Aside0 (L.length ≤ 2 + 11 * i ∧ ids.length = 2 + i ∧ vars.length ≤ i))
  case atStart => exact ⟨0, newL, [0, 1], [], _, ⟨by omega⟩, rfl, HS, ⟨newL_stay⟩, ⟨by decide⟩⟩
  case round =>
    clear HS
    obtain ⟨i, L, ids, vars, vt, hi, rfl, HS, HSt, HLen⟩ := hrel
    by_cases c3 : i < n0
    · obtain ⟨z, hz⟩ : ∃ z : Int, z = (i : Int) := ⟨_, rfl⟩
      have p0 : 0 ≤ z := by omega
      have p1 : z < (n0 : Int) := by omega
      obtain ⟨ad, A3, c3', rfl, hx0, hx1, hx2, hx3, hx4, hl3, hC3⟩ := at_T45 (Kd.C_below HR0.out HS.out.below) z p0 p1
      obtain ⟨act, hact⟩ : ∃ a, a = rd45 acts z := ⟨_, rfl⟩
      rw [← hact] at hx0 hx1 hx2 hx3 hx4 hl3 hC3
      obtain ⟨m, hm⟩ : ∃ m, m = act.f3.length := ⟨_, rfl⟩
      rw [← hm] at hx3 hl3 hC3
      obtain ⟨ki, hki⟩ : ∃ k, k = act.f0 := ⟨_, rfl⟩
      obtain ⟨xi, hxi⟩ : ∃ k, k = act.f1 := ⟨_, rfl⟩
      obtain ⟨yi, hyi⟩ : ∃ k, k = act.f2 := ⟨_, rfl⟩
      obtain ⟨bi, hbi⟩ : ∃ k, k = act.f4 := ⟨_, rfl⟩
      rw [← hki] at hx0
      rw [← hxi] at hx1
      rw [← hyi] at hx2
      rw [← hbi] at hx4
      have HC3 := Aside0.mk hC3
      have HM := Aside0.mk hm
      have Z1 := Aside0.mk (show z + 1 = ((i + 1 : Nat) : Int) by omega)
      have ZB := Aside0.mk (show 0 ≤ z ∧ z < 1000 by have := HN0.out; omega)
      have C3 := Aside0.mk c3
      have q3 : decide (z < (n0 : Int)) = true := decide_eq_true p1
      rw [← hz]
      clear hl3 hC3 hm hki hxi hyi hbi hz c3
      replace p0 := eq_true p0
      replace p1 := eq_true p1
      go_upto_region 13 with (fail)
      have HGA := Aside0.mk (heap_alloc_new wr (.cells #[.int .i64 ki, .int .i64 xi, .int .i64 yi, .slice A3 m c3', .bool bi] 45))
      have hba := below_alloc (Below.refl wr.heap.size wr) (.cells #[.int .i64 ki, .int .i64 xi, .int .i64 yi, .slice A3 m c3', .bool bi] 45)
      have HSA := Aside0.mk (HS.out.below_ hba)
      have HIA := Aside0.mk (HS.out.book.beside (b := wr.heap.size) hba (Nat.le_refl _))
      have HCA := Aside0.mk (Kd.C_below HC3.out hba)
      have HGne := Aside0.mk (show wr.heap.size ≠ g ∧ wr.heap.size ≠ gt by have h1 := HS.out.book.lt; have h2 := HS.out.gtlt; omega)
      generalize hwA : World.alloc wr _ = wA at HGA HSA HIA HCA ⊢
      generalize wr.heap.size = ga at HGA HIA HGne ⊢
      have ca0 := (blk_cell HGA.out 0).trans rfl
      have ca1 := (blk_cell HGA.out 1).trans rfl
      have ca2 := (blk_cell HGA.out 2).trans rfl
      have ca3 := (blk_cell HGA.out 3).trans rfl
      clear hwA hba HC3 hx0 hx1 hx2 hx3 hx4 p0 p1 q3
      by_cases h10 : 10 < m
      · have q4 : decide ((m : Int) > 10) = true := by simp; omega
        have q5 : decide (10 < m) = true := by simp; omega
        clear h10
        go_wp2_with fail
        go_ret
        exact ⟨rfl, HSA.out.below⟩
      · have q4 : decide ((m : Int) > 10) = false := by simp; omega
        have q5 : decide (10 < m) = false := by simp; omega
        have H10 := Aside0.mk (show m ≤ 10 by omega)
        clear h10
        go_upto_region 15 with (fail)
        clear q4 q5
        by_cases hk : ki = 0 ∨ ki = 3
        · obtain ⟨At, ct, et, -⟩ := HSA.out.thingsF
          subst et
          have hLl : L.length < 1000000 := by have := HLen.out; have := HN0.out; have := C3.out; omega
          have HVar := Aside0.mk (var_calls g _ L w wA HSA.out.book HSA.out.fresh HSA.out.below hLl)
          have HStay := Aside0.mk HSt.out.var
          have HInv := Aside0.mk (inv_var HSt.out.inv)
          obtain ⟨nx, hnx⟩ : ∃ n : Int, n = (L.length : Int) := ⟨_, rfl⟩
          obtain ⟨LV, hLV⟩ : ∃ q, q = mkVar L := ⟨_, rfl⟩
          have HLVl := Aside0.mk (show LV.length = L.length + 1 by rw [hLV]; simp [mkVar])
          rw [← hnx, ← hLV] at HVar HStay
          obtain ⟨N, hN⟩ : ∃ N, N = ids.length := ⟨_, rfl⟩
          have HNN := Aside0.mk hN
          have HB2 := Aside0.mk (show ids.length < 1000 ∧ vars.length < 1000 by have := HLen.out; have := HN0.out; have := C3.out; omega)
          have hkk : ((ki == 0) = true) ∨ ((ki == 0) = false ∧ (ki == 3) = true) := by
            rcases hk with h | h
            · left; simp [h]
            · right; simp [h]
          clear hk hnx hLV hN hLl
          rcases hkk with k0 | ⟨k0, k3⟩
          · go_upto_region 26 with (first | (go_at_call 34; refine HVar.out.mono ?_; rintro e w4 ⟨rfl, hI4, hB4, hK4⟩; have HS := Aside0.mk ((HSA.out.call (fun k hk => hk) hI4 hB4 hK4).drew); clear hI4 hB4 hK4))
            have CGT := Aside0.mk (show w4.drew.cell? ⟨gt, 0, none⟩ = some (.slice At N ct) by rw [HNN.out]; exact (blk_cell HS.out.cell 0).trans rfl)
            clear HSA HIA HGA HCA HGne HVar HM ca0 ca1 ca2 ca3 k0
            refine start_ (n := 10) (S := fun w' => w'.cell? ⟨gt, 0, none⟩ = some (.slice At N ct)) (ds := [7, 9]) #[false, false, false, false, false, false, false, false, false, false] (by kernel_rfl) rfl rfl (CGT.out) (fun hHeld => ?_)
            generalize hwd_ : w4.drew = wD at HS CGT hHeld ⊢
            clear hwd_
            refine pure_ (i := 0) (N := some 81) (v := ?_) (a' := ?_) #[true, false, false, false, false, false, false, false, false, false] rfl rfl (by kernel_rfl) (fun _ _ _ h => h) (Or.inl ⟨by rfl, ?_⟩) ?_ ?_
            rotate_left
            · intro w'
              go_simp
              with_reducible rfl
            rotate_left
            · simp only [Act.put, List.setIfInBounds_toArray, List.set_cons_zero, List.set_cons_succ, i64_w, i32_w]
              rfl
            refine pure_ (i := 1) (N := some 82) (v := ?_) (a' := ?_) #[true, true, false, false, false, false, false, false, false, false] rfl rfl (by kernel_rfl) (fun _ _ _ h => h) (Or.inl ⟨by rfl, ?_⟩) ?_ ?_
            rotate_left
            · intro w'
              go_simp
              with_reducible rfl
            rotate_left
            · simp only [Act.put, List.setIfInBounds_toArray, List.set_cons_zero, List.set_cons_succ, i64_w, i32_w]
              rfl
            refine pure_ (i := 5) (N := some 86) (v := ?_) (a' := ?_) #[true, true, false, false, false, true, false, false, false, false] rfl rfl (by kernel_rfl) (fun _ _ _ h => h) (Or.inl ⟨by rfl, ?_⟩) ?_ ?_
            rotate_left
            · intro w'
              go_simp
              with_reducible rfl
            rotate_left
            · simp only [Act.put, List.setIfInBounds_toArray, List.set_cons_zero, List.set_cons_succ, i64_w, i32_w]
              rfl
            refine take_ (i := 4) (N := some 85) (v := ?_) (a' := ?_) #[true, true, false, false, true, true, false, false, false, false] rfl rfl (by kernel_rfl) (fun _ _ _ h => h) (Or.inl ⟨by rfl, ?_⟩) hHeld ?_ ?_
            rotate_left
            · intro w' s0
              go_simp
              with_reducible rfl
            rotate_left
            · simp only [Act.put, List.setIfInBounds_toArray, List.set_cons_zero, List.set_cons_succ, i64_w, i32_w]
              rfl
            refine join_ (σ := Value × Value × Value) 3 #[true, true, true, true, true, true, true, false, false, false] (fun s => [(83, s.1), (84, s.2.1), (87, s.2.2)]) (fun s w' => LawSt w w' g gt (.slice At ids.length ct) s.2.1 LV ids (vars ++ [nx]) ∧ ∃ b : Nat, s.2.2 = .slice (some ⟨b, 0, none⟩) 1 1 ∧ Kd.F (Kd.int .i64) w' (fun k => k = b) (some ⟨b, 0, none⟩) 1 [nx] ∧ some b ≠ (Value.slice At ids.length ct).ownBlock) ?_ ?_
            rotate_left
            · intro hCont
              refine two_ (i := 2) (j := 6) (Ni := some 83) (Nj := some 87) #[true, true, true, false, true, true, false, false, false, false] #[true, true, false, false, true, true, true, false, false, false] rfl rfl rfl rfl (by kernel_rfl) (by decide) (by decide) (fun K hK => ?_) (fun K hK => ?_)
              · skip
                refine value_ (w1 := ?_) (v := ?_) (by rfl) rfl ?_ ?_
                rotate_left 2
                · go_simp
                  constructor
                  · rfl
                  · rfl
                have n0_ := Aside0.mk (HS.out.below_ (below_alloc (Below.refl _ _) (.cells #[.int .i64 nx] 3)))
                have HT83 := Aside0.mk (HS.out.tmp nx)
                clear HS
                have HS := n0_
                clear n0_
                generalize hw_ : World.alloc wD _ = wF2 at HS HT83 ⊢
                clear hw_
                have hcg : wF2.cell? ⟨gt, 0, none⟩ = some (.slice At N ct) := by rw [HNN.out]; exact (blk_cell HS.out.cell 0).trans rfl
                refine hK.out _ _ (hcg) (fun hHeld => ?_)
                clear hK K
                refine norm_ (a' := ?_) ?_ ?_
                rotate_left
                · show Act.put _ (some 83) _ = _
                  simp only [Act.put, List.setIfInBounds_toArray, List.set_cons_zero, List.set_cons_succ, i64_w, i32_w]
                  rfl
                refine two_ (i := 3) (j := 6) (Ni := some 84) (Nj := some 87) #[true, true, true, true, true, true, false, false, false, false] #[true, true, true, false, true, true, true, false, false, false] rfl rfl rfl rfl (by kernel_rfl) (by decide) (by decide) (fun K hK => ?_) (fun K hK => ?_)
                · skip
                  have hcv_ := trivial
                  refine Kd.R_append_rows_step (Kd.int .i64) (w0 := w) w.heap.size (by rfl) (.tmp 81) (.tmp 83) 42 3 (.int .i64 0) 8 rfl Try.underlying42 info3 rfl (by decide) (by decide) u7 vars [nx] _ 1 1 (fun k => k ≠ g ∧ k ≠ gt ∧ some k ≠ (.slice At ids.length ct : Value).ownBlock) (fun _ => False) rfl rfl HS.out.row' (Kd.F_now HT83.out.1) (fun _ _ h => h) (fun _ h => h.elim) (fun k hk => ⟨by have := HS.out.book.lt; omega, by have := HS.out.gtlt; omega, fun he => by have := Kd.R_lt HS.out.things k he.symm; omega⟩) HS.out.below HS.out.below.size (by have := HB2.out; omega) ?_
                  intro v84 wF23 hR hB hgr hat
                  have n0_ := Aside0.mk (HS.out.rowed hR hB hgr hat)
                  clear HS hR hB hgr hat
                  have HS := n0_
                  clear n0_
                  have hcg : wF23.cell? ⟨gt, 0, none⟩ = some (.slice At N ct) := by rw [HNN.out]; exact (blk_cell HS.out.cell 0).trans rfl
                  refine hK.out _ _ (hcg) (fun hHeld => ?_)
                  clear hK K
                  refine norm_ (a' := ?_) ?_ ?_
                  rotate_left
                  · show Act.put _ (some 84) _ = _
                    simp only [Act.put, List.setIfInBounds_toArray, List.set_cons_zero, List.set_cons_succ, i64_w, i32_w]
                    rfl
                  refine one_ (i := 6) (N := some 87) #[true, true, true, true, true, true, true, false, false, false] rfl rfl (by kernel_rfl) (by decide) (fun K hK => ?_)
                  refine value_ (w1 := ?_) (v := ?_) (by rfl) rfl ?_ ?_
                  rotate_left 2
                  · go_simp
                    constructor
                    · rfl
                    · rfl
                  have n0_ := Aside0.mk (HS.out.below_ (below_alloc (Below.refl _ _) (.cells #[.int .i64 nx] 3)))
                  have HT87 := Aside0.mk (HS.out.tmp nx)
                  clear HS
                  have HS := n0_
                  clear n0_
                  generalize hw_ : World.alloc wF23 _ = wF236 at HS HT87 ⊢
                  clear hw_
                  have hcg : wF236.cell? ⟨gt, 0, none⟩ = some (.slice At N ct) := by rw [HNN.out]; exact (blk_cell HS.out.cell 0).trans rfl
                  refine hK.out _ _ (hcg) (fun hHeld => ?_)
                  clear hK K
                  refine norm_ (a' := ?_) ?_ ?_
                  rotate_left
                  · show Act.put _ (some 87) _ = _
                    simp only [Act.put, List.setIfInBounds_toArray, List.set_cons_zero, List.set_cons_succ, i64_w, i32_w]
                    rfl
                  exact norm_ (by simp only [putAll, Act.put, List.setIfInBounds_toArray, List.set_cons_zero, List.set_cons_succ]) (hCont (.slice (some ⟨wD.heap.size, 0, none⟩) 1 1, v84, .slice (some ⟨wF23.heap.size, 0, none⟩) 1 1) _ ⟨HS.out, _, rfl, HT87.out.1, HT87.out.2.1⟩)
                · skip
                  refine value_ (w1 := ?_) (v := ?_) (by rfl) rfl ?_ ?_
                  rotate_left 2
                  · go_simp
                    constructor
                    · rfl
                    · rfl
                  have n0_ := Aside0.mk (HS.out.below_ (below_alloc (Below.refl _ _) (.cells #[.int .i64 nx] 3)))
                  have HT87 := Aside0.mk (HS.out.tmp nx)
                  have n2_ := Aside0.mk (And.intro (Kd.F_alloc HT83.out.1 (.cells #[.int .i64 nx] 3)) HT83.out.2)
                  clear HT83
                  have HT83 := n2_
                  clear n2_
                  clear HS
                  have HS := n0_
                  clear n0_
                  generalize hw_ : World.alloc wF2 _ = wF26 at HS HT87 HT83 ⊢
                  clear hw_
                  have hcg : wF26.cell? ⟨gt, 0, none⟩ = some (.slice At N ct) := by rw [HNN.out]; exact (blk_cell HS.out.cell 0).trans rfl
                  refine hK.out _ _ (hcg) (fun hHeld => ?_)
                  clear hK K
                  refine norm_ (a' := ?_) ?_ ?_
                  rotate_left
                  · show Act.put _ (some 87) _ = _
                    simp only [Act.put, List.setIfInBounds_toArray, List.set_cons_zero, List.set_cons_succ, i64_w, i32_w]
                    rfl
                  refine one_ (i := 3) (N := some 84) #[true, true, true, true, true, true, true, false, false, false] rfl rfl (by kernel_rfl) (by decide) (fun K hK => ?_)
                  have hcv_ := trivial
                  refine Kd.R_append_rows_step (Kd.int .i64) (w0 := w) w.heap.size (by rfl) (.tmp 81) (.tmp 83) 42 3 (.int .i64 0) 8 rfl Try.underlying42 info3 rfl (by decide) (by decide) u7 vars [nx] _ 1 1 (fun k => k ≠ g ∧ k ≠ gt ∧ some k ≠ (.slice At ids.length ct : Value).ownBlock) (fun _ => False) rfl rfl HS.out.row' (Kd.F_now HT83.out.1) (fun _ _ h => h) (fun _ h => h.elim) (fun k hk => ⟨by have := HS.out.book.lt; omega, by have := HS.out.gtlt; omega, fun he => by have := Kd.R_lt HS.out.things k he.symm; omega⟩) HS.out.below HS.out.below.size (by have := HB2.out; omega) ?_
                  intro v84 wF263 hR hB hgr hat
                  have n0_ := Aside0.mk (HS.out.rowed hR hB hgr hat)
                  have n2_ := Aside0.mk (And.intro (Kd.F_grown HT87.out.1 hgr (fun k hk => by rw [hk]; exact HT87.out.2.2)) HT87.out.2)
                  clear HT87
                  have HT87 := n2_
                  clear n2_
                  clear HS hR hB hgr hat
                  have HS := n0_
                  clear n0_
                  have hcg : wF263.cell? ⟨gt, 0, none⟩ = some (.slice At N ct) := by rw [HNN.out]; exact (blk_cell HS.out.cell 0).trans rfl
                  refine hK.out _ _ (hcg) (fun hHeld => ?_)
                  clear hK K
                  refine norm_ (a' := ?_) ?_ ?_
                  rotate_left
                  · show Act.put _ (some 84) _ = _
                    simp only [Act.put, List.setIfInBounds_toArray, List.set_cons_zero, List.set_cons_succ, i64_w, i32_w]
                    rfl
                  exact norm_ (by simp only [putAll, Act.put, List.setIfInBounds_toArray, List.set_cons_zero, List.set_cons_succ]) (hCont (.slice (some ⟨wD.heap.size, 0, none⟩) 1 1, v84, .slice (some ⟨wF2.heap.size, 0, none⟩) 1 1) _ ⟨HS.out, _, rfl, HT87.out.1, HT87.out.2.1⟩)
              · skip
                refine value_ (w1 := ?_) (v := ?_) (by rfl) rfl ?_ ?_
                rotate_left 2
                · go_simp
                  constructor
                  · rfl
                  · rfl
                have n0_ := Aside0.mk (HS.out.below_ (below_alloc (Below.refl _ _) (.cells #[.int .i64 nx] 3)))
                have HT87 := Aside0.mk (HS.out.tmp nx)
                clear HS
                have HS := n0_
                clear n0_
                generalize hw_ : World.alloc wD _ = wF6 at HS HT87 ⊢
                clear hw_
                have hcg : wF6.cell? ⟨gt, 0, none⟩ = some (.slice At N ct) := by rw [HNN.out]; exact (blk_cell HS.out.cell 0).trans rfl
                refine hK.out _ _ (hcg) (fun hHeld => ?_)
                clear hK K
                refine norm_ (a' := ?_) ?_ ?_
                rotate_left
                · show Act.put _ (some 87) _ = _
                  simp only [Act.put, List.setIfInBounds_toArray, List.set_cons_zero, List.set_cons_succ, i64_w, i32_w]
                  rfl
                refine one_ (i := 2) (N := some 83) #[true, true, true, false, true, true, true, false, false, false] rfl rfl (by kernel_rfl) (by decide) (fun K hK => ?_)
                refine value_ (w1 := ?_) (v := ?_) (by rfl) rfl ?_ ?_
                rotate_left 2
                · go_simp
                  constructor
                  · rfl
                  · rfl
                have n0_ := Aside0.mk (HS.out.below_ (below_alloc (Below.refl _ _) (.cells #[.int .i64 nx] 3)))
                have HT83 := Aside0.mk (HS.out.tmp nx)
                have n2_ := Aside0.mk (And.intro (Kd.F_alloc HT87.out.1 (.cells #[.int .i64 nx] 3)) HT87.out.2)
                clear HT87
                have HT87 := n2_
                clear n2_
                clear HS
                have HS := n0_
                clear n0_
                generalize hw_ : World.alloc wF6 _ = wF62 at HS HT83 HT87 ⊢
                clear hw_
                have hcg : wF62.cell? ⟨gt, 0, none⟩ = some (.slice At N ct) := by rw [HNN.out]; exact (blk_cell HS.out.cell 0).trans rfl
                refine hK.out _ _ (hcg) (fun hHeld => ?_)
                clear hK K
                refine norm_ (a' := ?_) ?_ ?_
                rotate_left
                · show Act.put _ (some 83) _ = _
                  simp only [Act.put, List.setIfInBounds_toArray, List.set_cons_zero, List.set_cons_succ, i64_w, i32_w]
                  rfl
                refine one_ (i := 3) (N := some 84) #[true, true, true, true, true, true, true, false, false, false] rfl rfl (by kernel_rfl) (by decide) (fun K hK => ?_)
                have hcv_ := trivial
                refine Kd.R_append_rows_step (Kd.int .i64) (w0 := w) w.heap.size (by rfl) (.tmp 81) (.tmp 83) 42 3 (.int .i64 0) 8 rfl Try.underlying42 info3 rfl (by decide) (by decide) u7 vars [nx] _ 1 1 (fun k => k ≠ g ∧ k ≠ gt ∧ some k ≠ (.slice At ids.length ct : Value).ownBlock) (fun _ => False) rfl rfl HS.out.row' (Kd.F_now HT83.out.1) (fun _ _ h => h) (fun _ h => h.elim) (fun k hk => ⟨by have := HS.out.book.lt; omega, by have := HS.out.gtlt; omega, fun he => by have := Kd.R_lt HS.out.things k he.symm; omega⟩) HS.out.below HS.out.below.size (by have := HB2.out; omega) ?_
                intro v84 wF623 hR hB hgr hat
                have n0_ := Aside0.mk (HS.out.rowed hR hB hgr hat)
                have n2_ := Aside0.mk (And.intro (Kd.F_grown HT87.out.1 hgr (fun k hk => by rw [hk]; exact HT87.out.2.2)) HT87.out.2)
                clear HT87
                have HT87 := n2_
                clear n2_
                clear HS hR hB hgr hat
                have HS := n0_
                clear n0_
                have hcg : wF623.cell? ⟨gt, 0, none⟩ = some (.slice At N ct) := by rw [HNN.out]; exact (blk_cell HS.out.cell 0).trans rfl
                refine hK.out _ _ (hcg) (fun hHeld => ?_)
                clear hK K
                refine norm_ (a' := ?_) ?_ ?_
                rotate_left
                · show Act.put _ (some 84) _ = _
                  simp only [Act.put, List.setIfInBounds_toArray, List.set_cons_zero, List.set_cons_succ, i64_w, i32_w]
                  rfl
                exact norm_ (by simp only [putAll, Act.put, List.setIfInBounds_toArray, List.set_cons_zero, List.set_cons_succ]) (hCont (.slice (some ⟨wF6.heap.size, 0, none⟩) 1 1, v84, .slice (some ⟨wD.heap.size, 0, none⟩) 1 1) _ ⟨HS.out, _, rfl, HT87.out.1, HT87.out.2.1⟩)
            rintro ⟨v83, v84, v87⟩ w6 ⟨hLS, b87, e87, hF87, hn87⟩
            dsimp only at hLS e87
            subst e87
            clear HS
            have HS := Aside0.mk hLS
            have HT87 := Aside0.mk (And.intro hF87 hn87)
            have hHeld : w6.cell? ⟨gt, 0, none⟩ = some (.slice At N ct) := by rw [HNN.out]; exact (blk_cell hLS.cell 0).trans rfl
            clear hLS hF87 hn87
            refine norm_ (a' := ?_) ?_ ?_
            rotate_left
            · simp only [putAll, Act.put, List.setIfInBounds_toArray, List.set_cons_zero, List.set_cons_succ]
              rfl
            refine last_ (i := 7) (N := some 88) #[true, true, true, true, true, true, true, true, false, false] rfl rfl (by kernel_rfl) (by decide) (fun K hK => ?_)
            rw [HNN.out]
            refine Kd.R_append_rows_step (Kd.int .i64) (w0 := w) w.heap.size (by rfl) (.tmp 85) (.tmp 87) 42 3 (.int .i64 0) 8 rfl Try.underlying42 info3 rfl (by decide) (by decide) (.slice At ids.length ct) ids [nx] _ 1 1 (fun k => k ≠ g ∧ k ≠ gt ∧ some k ≠ (v84 : Value).ownBlock) (fun _ => False) rfl rfl HS.out.things (Kd.F_now HT87.out.1) (fun _ _ h => h) (fun _ h => h.elim) (fun k hk => ⟨by have := HS.out.book.lt; omega, by have := HS.out.gtlt; omega, fun he => by have := Kd.R_lt HS.out.row k he.symm; omega⟩) HS.out.below HS.out.below.size (by have := HB2.out; omega) ?_
            intro v88 w7 hR hB hgr hat
            have hc5 := blk_grown HS.out.cell hgr (fun he => (HS.out.things.1 gt he.symm).2.1 rfl)
            have hcg := (blk_cell hc5 0).trans rfl
            have hz5 := blk_frozen hc5 0
            have HLS := Aside0.mk (HS.out.pushed hR hB hgr hat)
            obtain ⟨A1, cc1, he1⟩ := Kd.R_slice hR
            obtain ⟨m1, hm1⟩ : ∃ m1, m1 = (ids ++ [nx]).length := ⟨_, rfl⟩
            rw [← hm1] at he1
            subst he1
            clear hm1 hR hB hgr hat hc5
            refine hK.out _ _ ?_
            clear hK K
            refine norm_ (a' := ?_) ?_ ?_
            rotate_left
            · show Act.put _ (some 88) _ = _
              simp only [Act.put, List.setIfInBounds_toArray, List.set_cons_zero, List.set_cons_succ, i64_w, i32_w]
              rfl
            refine pure_ (i := 8) (N := some 7) (v := ?_) (a' := ?_) #[true, true, true, true, true, true, true, true, true, false] rfl rfl (by kernel_rfl) (fun _ _ _ h => h) (Or.inl ⟨by rfl, ?_⟩) ?_ ?_
            rotate_left
            · intro w'
              go_simp
              with_reducible rfl
            rotate_left
            · simp only [Act.put, List.setIfInBounds_toArray, List.set_cons_zero, List.set_cons_succ, i64_w, i32_w]
              rfl
            refine last_ (i := 9) (N := none) #[true, true, true, true, true, true, true, true, true, true] rfl rfl (by kernel_rfl) (by decide) (fun K hK => ?_)
            refine skip_ (w1 := ?_) (by rfl) rfl ?_ ?_
            rotate_left
            · go_simp
              rfl
            refine hK.out _ _ ?_
            clear hK K
            refine done_ (by kernel_rfl) ?_
            generalize hwX : World.setCell _ _ _ = wX at HLS ⊢
            clear hwX hcg hz5 CGT HS HT87
            have z0 := ZB.out.1
            have z1 := ZB.out.2
            go_wp2_with fail
            go_roundg (n0 - (i + 1))
            case measure => have := hi.out; have := C3.out; omega
            case rel => exact ⟨i + 1, LV, ids ++ [nx], vars ++ [nx], _, ⟨by have := C3.out; omega⟩, by rw [Z1.out], HLS, HStay, ⟨by have h1 := HLVl.out; have h2 := HLen.out; rw [List.length_append, List.length_singleton, List.length_append, List.length_singleton]; omega⟩⟩
          · go_upto_region 26 with (first | (go_at_call 34; refine HVar.out.mono ?_; rintro e w4 ⟨rfl, hI4, hB4, hK4⟩; have HS := Aside0.mk ((HSA.out.call (fun k hk => hk) hI4 hB4 hK4).drew); clear hI4 hB4 hK4))
            have CGT := Aside0.mk (show w4.drew.cell? ⟨gt, 0, none⟩ = some (.slice At N ct) by rw [HNN.out]; exact (blk_cell HS.out.cell 0).trans rfl)
            clear HSA HIA HGA HCA HGne HVar HM ca0 ca1 ca2 ca3 k0 k3
            refine start_ (n := 10) (S := fun w' => w'.cell? ⟨gt, 0, none⟩ = some (.slice At N ct)) (ds := [7, 9]) #[false, false, false, false, false, false, false, false, false, false] (by kernel_rfl) rfl rfl (CGT.out) (fun hHeld => ?_)
            generalize hwd_ : w4.drew = wD at HS CGT hHeld ⊢
            clear hwd_
            refine pure_ (i := 0) (N := some 81) (v := ?_) (a' := ?_) #[true, false, false, false, false, false, false, false, false, false] rfl rfl (by kernel_rfl) (fun _ _ _ h => h) (Or.inl ⟨by rfl, ?_⟩) ?_ ?_
            rotate_left
            · intro w'
              go_simp
              with_reducible rfl
            rotate_left
            · simp only [Act.put, List.setIfInBounds_toArray, List.set_cons_zero, List.set_cons_succ, i64_w, i32_w]
              rfl
            refine pure_ (i := 1) (N := some 82) (v := ?_) (a' := ?_) #[true, true, false, false, false, false, false, false, false, false] rfl rfl (by kernel_rfl) (fun _ _ _ h => h) (Or.inl ⟨by rfl, ?_⟩) ?_ ?_
            rotate_left
            · intro w'
              go_simp
              with_reducible rfl
            rotate_left
            · simp only [Act.put, List.setIfInBounds_toArray, List.set_cons_zero, List.set_cons_succ, i64_w, i32_w]
              rfl
            refine pure_ (i := 5) (N := some 86) (v := ?_) (a' := ?_) #[true, true, false, false, false, true, false, false, false, false] rfl rfl (by kernel_rfl) (fun _ _ _ h => h) (Or.inl ⟨by rfl, ?_⟩) ?_ ?_
            rotate_left
            · intro w'
              go_simp
              with_reducible rfl
            rotate_left
            · simp only [Act.put, List.setIfInBounds_toArray, List.set_cons_zero, List.set_cons_succ, i64_w, i32_w]
              rfl
            refine take_ (i := 4) (N := some 85) (v := ?_) (a' := ?_) #[true, true, false, false, true, true, false, false, false, false] rfl rfl (by kernel_rfl) (fun _ _ _ h => h) (Or.inl ⟨by rfl, ?_⟩) hHeld ?_ ?_
            rotate_left
            · intro w' s0
              go_simp
              with_reducible rfl
            rotate_left
            · simp only [Act.put, List.setIfInBounds_toArray, List.set_cons_zero, List.set_cons_succ, i64_w, i32_w]
              rfl
            refine join_ (σ := Value × Value × Value) 3 #[true, true, true, true, true, true, true, false, false, false] (fun s => [(83, s.1), (84, s.2.1), (87, s.2.2)]) (fun s w' => LawSt w w' g gt (.slice At ids.length ct) s.2.1 LV ids (vars ++ [nx]) ∧ ∃ b : Nat, s.2.2 = .slice (some ⟨b, 0, none⟩) 1 1 ∧ Kd.F (Kd.int .i64) w' (fun k => k = b) (some ⟨b, 0, none⟩) 1 [nx] ∧ some b ≠ (Value.slice At ids.length ct).ownBlock) ?_ ?_
            rotate_left
            · intro hCont
              refine two_ (i := 2) (j := 6) (Ni := some 83) (Nj := some 87) #[true, true, true, false, true, true, false, false, false, false] #[true, true, false, false, true, true, true, false, false, false] rfl rfl rfl rfl (by kernel_rfl) (by decide) (by decide) (fun K hK => ?_) (fun K hK => ?_)
              · skip
                refine value_ (w1 := ?_) (v := ?_) (by rfl) rfl ?_ ?_
                rotate_left 2
                · go_simp
                  constructor
                  · rfl
                  · rfl
                have n0_ := Aside0.mk (HS.out.below_ (below_alloc (Below.refl _ _) (.cells #[.int .i64 nx] 3)))
                have HT83 := Aside0.mk (HS.out.tmp nx)
                clear HS
                have HS := n0_
                clear n0_
                generalize hw_ : World.alloc wD _ = wF2 at HS HT83 ⊢
                clear hw_
                have hcg : wF2.cell? ⟨gt, 0, none⟩ = some (.slice At N ct) := by rw [HNN.out]; exact (blk_cell HS.out.cell 0).trans rfl
                refine hK.out _ _ (hcg) (fun hHeld => ?_)
                clear hK K
                refine norm_ (a' := ?_) ?_ ?_
                rotate_left
                · show Act.put _ (some 83) _ = _
                  simp only [Act.put, List.setIfInBounds_toArray, List.set_cons_zero, List.set_cons_succ, i64_w, i32_w]
                  rfl
                refine two_ (i := 3) (j := 6) (Ni := some 84) (Nj := some 87) #[true, true, true, true, true, true, false, false, false, false] #[true, true, true, false, true, true, true, false, false, false] rfl rfl rfl rfl (by kernel_rfl) (by decide) (by decide) (fun K hK => ?_) (fun K hK => ?_)
                · skip
                  have hcv_ := trivial
                  refine Kd.R_append_rows_step (Kd.int .i64) (w0 := w) w.heap.size (by rfl) (.tmp 81) (.tmp 83) 42 3 (.int .i64 0) 8 rfl Try.underlying42 info3 rfl (by decide) (by decide) u7 vars [nx] _ 1 1 (fun k => k ≠ g ∧ k ≠ gt ∧ some k ≠ (.slice At ids.length ct : Value).ownBlock) (fun _ => False) rfl rfl HS.out.row' (Kd.F_now HT83.out.1) (fun _ _ h => h) (fun _ h => h.elim) (fun k hk => ⟨by have := HS.out.book.lt; omega, by have := HS.out.gtlt; omega, fun he => by have := Kd.R_lt HS.out.things k he.symm; omega⟩) HS.out.below HS.out.below.size (by have := HB2.out; omega) ?_
                  intro v84 wF23 hR hB hgr hat
                  have n0_ := Aside0.mk (HS.out.rowed hR hB hgr hat)
                  clear HS hR hB hgr hat
                  have HS := n0_
                  clear n0_
                  have hcg : wF23.cell? ⟨gt, 0, none⟩ = some (.slice At N ct) := by rw [HNN.out]; exact (blk_cell HS.out.cell 0).trans rfl
                  refine hK.out _ _ (hcg) (fun hHeld => ?_)
                  clear hK K
                  refine norm_ (a' := ?_) ?_ ?_
                  rotate_left
                  · show Act.put _ (some 84) _ = _
                    simp only [Act.put, List.setIfInBounds_toArray, List.set_cons_zero, List.set_cons_succ, i64_w, i32_w]
                    rfl
                  refine one_ (i := 6) (N := some 87) #[true, true, true, true, true, true, true, false, false, false] rfl rfl (by kernel_rfl) (by decide) (fun K hK => ?_)
                  refine value_ (w1 := ?_) (v := ?_) (by rfl) rfl ?_ ?_
                  rotate_left 2
                  · go_simp
                    constructor
                    · rfl
                    · rfl
                  have n0_ := Aside0.mk (HS.out.below_ (below_alloc (Below.refl _ _) (.cells #[.int .i64 nx] 3)))
                  have HT87 := Aside0.mk (HS.out.tmp nx)
                  clear HS
                  have HS := n0_
                  clear n0_
                  generalize hw_ : World.alloc wF23 _ = wF236 at HS HT87 ⊢
                  clear hw_
                  have hcg : wF236.cell? ⟨gt, 0, none⟩ = some (.slice At N ct) := by rw [HNN.out]; exact (blk_cell HS.out.cell 0).trans rfl
                  refine hK.out _ _ (hcg) (fun hHeld => ?_)
                  clear hK K
                  refine norm_ (a' := ?_) ?_ ?_
                  rotate_left
                  · show Act.put _ (some 87) _ = _
                    simp only [Act.put, List.setIfInBounds_toArray, List.set_cons_zero, List.set_cons_succ, i64_w, i32_w]
                    rfl
                  exact norm_ (by simp only [putAll, Act.put, List.setIfInBounds_toArray, List.set_cons_zero, List.set_cons_succ]) (hCont (.slice (some ⟨wD.heap.size, 0, none⟩) 1 1, v84, .slice (some ⟨wF23.heap.size, 0, none⟩) 1 1) _ ⟨HS.out, _, rfl, HT87.out.1, HT87.out.2.1⟩)
                · skip
                  refine value_ (w1 := ?_) (v := ?_) (by rfl) rfl ?_ ?_
                  rotate_left 2
                  · go_simp
                    constructor
                    · rfl
                    · rfl
                  have n0_ := Aside0.mk (HS.out.below_ (below_alloc (Below.refl _ _) (.cells #[.int .i64 nx] 3)))
                  have HT87 := Aside0.mk (HS.out.tmp nx)
                  have n2_ := Aside0.mk (And.intro (Kd.F_alloc HT83.out.1 (.cells #[.int .i64 nx] 3)) HT83.out.2)
                  clear HT83
                  have HT83 := n2_
                  clear n2_
                  clear HS
                  have HS := n0_
                  clear n0_
                  generalize hw_ : World.alloc wF2 _ = wF26 at HS HT87 HT83 ⊢
                  clear hw_
                  have hcg : wF26.cell? ⟨gt, 0, none⟩ = some (.slice At N ct) := by rw [HNN.out]; exact (blk_cell HS.out.cell 0).trans rfl
                  refine hK.out _ _ (hcg) (fun hHeld => ?_)
                  clear hK K
                  refine norm_ (a' := ?_) ?_ ?_
                  rotate_left
                  · show Act.put _ (some 87) _ = _
                    simp only [Act.put, List.setIfInBounds_toArray, List.set_cons_zero, List.set_cons_succ, i64_w, i32_w]
                    rfl
                  refine one_ (i := 3) (N := some 84) #[true, true, true, true, true, true, true, false, false, false] rfl rfl (by kernel_rfl) (by decide) (fun K hK => ?_)
                  have hcv_ := trivial
                  refine Kd.R_append_rows_step (Kd.int .i64) (w0 := w) w.heap.size (by rfl) (.tmp 81) (.tmp 83) 42 3 (.int .i64 0) 8 rfl Try.underlying42 info3 rfl (by decide) (by decide) u7 vars [nx] _ 1 1 (fun k => k ≠ g ∧ k ≠ gt ∧ some k ≠ (.slice At ids.length ct : Value).ownBlock) (fun _ => False) rfl rfl HS.out.row' (Kd.F_now HT83.out.1) (fun _ _ h => h) (fun _ h => h.elim) (fun k hk => ⟨by have := HS.out.book.lt; omega, by have := HS.out.gtlt; omega, fun he => by have := Kd.R_lt HS.out.things k he.symm; omega⟩) HS.out.below HS.out.below.size (by have := HB2.out; omega) ?_
                  intro v84 wF263 hR hB hgr hat
                  have n0_ := Aside0.mk (HS.out.rowed hR hB hgr hat)
                  have n2_ := Aside0.mk (And.intro (Kd.F_grown HT87.out.1 hgr (fun k hk => by rw [hk]; exact HT87.out.2.2)) HT87.out.2)
                  clear HT87
                  have HT87 := n2_
                  clear n2_
                  clear HS hR hB hgr hat
                  have HS := n0_
                  clear n0_
                  have hcg : wF263.cell? ⟨gt, 0, none⟩ = some (.slice At N ct) := by rw [HNN.out]; exact (blk_cell HS.out.cell 0).trans rfl
                  refine hK.out _ _ (hcg) (fun hHeld => ?_)
                  clear hK K
                  refine norm_ (a' := ?_) ?_ ?_
                  rotate_left
                  · show Act.put _ (some 84) _ = _
                    simp only [Act.put, List.setIfInBounds_toArray, List.set_cons_zero, List.set_cons_succ, i64_w, i32_w]
                    rfl
                  exact norm_ (by simp only [putAll, Act.put, List.setIfInBounds_toArray, List.set_cons_zero, List.set_cons_succ]) (hCont (.slice (some ⟨wD.heap.size, 0, none⟩) 1 1, v84, .slice (some ⟨wF2.heap.size, 0, none⟩) 1 1) _ ⟨HS.out, _, rfl, HT87.out.1, HT87.out.2.1⟩)
              · skip
                refine value_ (w1 := ?_) (v := ?_) (by rfl) rfl ?_ ?_
                rotate_left 2
                · go_simp
                  constructor
                  · rfl
                  · rfl
                have n0_ := Aside0.mk (HS.out.below_ (below_alloc (Below.refl _ _) (.cells #[.int .i64 nx] 3)))
                have HT87 := Aside0.mk (HS.out.tmp nx)
                clear HS
                have HS := n0_
                clear n0_
                generalize hw_ : World.alloc wD _ = wF6 at HS HT87 ⊢
                clear hw_
                have hcg : wF6.cell? ⟨gt, 0, none⟩ = some (.slice At N ct) := by rw [HNN.out]; exact (blk_cell HS.out.cell 0).trans rfl
                refine hK.out _ _ (hcg) (fun hHeld => ?_)
                clear hK K
                refine norm_ (a' := ?_) ?_ ?_
                rotate_left
                · show Act.put _ (some 87) _ = _
                  simp only [Act.put, List.setIfInBounds_toArray, List.set_cons_zero, List.set_cons_succ, i64_w, i32_w]
                  rfl
                refine one_ (i := 2) (N := some 83) #[true, true, true, false, true, true, true, false, false, false] rfl rfl (by kernel_rfl) (by decide) (fun K hK => ?_)
                refine value_ (w1 := ?_) (v := ?_) (by rfl) rfl ?_ ?_
                rotate_left 2
                · go_simp
                  constructor
                  · rfl
                  · rfl
                have n0_ := Aside0.mk (HS.out.below_ (below_alloc (Below.refl _ _) (.cells #[.int .i64 nx] 3)))
                have HT83 := Aside0.mk (HS.out.tmp nx)
                have n2_ := Aside0.mk (And.intro (Kd.F_alloc HT87.out.1 (.cells #[.int .i64 nx] 3)) HT87.out.2)
                clear HT87
                have HT87 := n2_
                clear n2_
                clear HS
                have HS := n0_
                clear n0_
                generalize hw_ : World.alloc wF6 _ = wF62 at HS HT83 HT87 ⊢
                clear hw_
                have hcg : wF62.cell? ⟨gt, 0, none⟩ = some (.slice At N ct) := by rw [HNN.out]; exact (blk_cell HS.out.cell 0).trans rfl
                refine hK.out _ _ (hcg) (fun hHeld => ?_)
                clear hK K
                refine norm_ (a' := ?_) ?_ ?_
                rotate_left
                · show Act.put _ (some 83) _ = _
                  simp only [Act.put, List.setIfInBounds_toArray, List.set_cons_zero, List.set_cons_succ, i64_w, i32_w]
                  rfl
                refine one_ (i := 3) (N := some 84) #[true, true, true, true, true, true, true, false, false, false] rfl rfl (by kernel_rfl) (by decide) (fun K hK => ?_)
                have hcv_ := trivial
                refine Kd.R_append_rows_step (Kd.int .i64) (w0 := w) w.heap.size (by rfl) (.tmp 81) (.tmp 83) 42 3 (.int .i64 0) 8 rfl Try.underlying42 info3 rfl (by decide) (by decide) u7 vars [nx] _ 1 1 (fun k => k ≠ g ∧ k ≠ gt ∧ some k ≠ (.slice At ids.length ct : Value).ownBlock) (fun _ => False) rfl rfl HS.out.row' (Kd.F_now HT83.out.1) (fun _ _ h => h) (fun _ h => h.elim) (fun k hk => ⟨by have := HS.out.book.lt; omega, by have := HS.out.gtlt; omega, fun he => by have := Kd.R_lt HS.out.things k he.symm; omega⟩) HS.out.below HS.out.below.size (by have := HB2.out; omega) ?_
                intro v84 wF623 hR hB hgr hat
                have n0_ := Aside0.mk (HS.out.rowed hR hB hgr hat)
                have n2_ := Aside0.mk (And.intro (Kd.F_grown HT87.out.1 hgr (fun k hk => by rw [hk]; exact HT87.out.2.2)) HT87.out.2)
                clear HT87
                have HT87 := n2_
                clear n2_
                clear HS hR hB hgr hat
                have HS := n0_
                clear n0_
                have hcg : wF623.cell? ⟨gt, 0, none⟩ = some (.slice At N ct) := by rw [HNN.out]; exact (blk_cell HS.out.cell 0).trans rfl
                refine hK.out _ _ (hcg) (fun hHeld => ?_)
                clear hK K
                refine norm_ (a' := ?_) ?_ ?_
                rotate_left
                · show Act.put _ (some 84) _ = _
                  simp only [Act.put, List.setIfInBounds_toArray, List.set_cons_zero, List.set_cons_succ, i64_w, i32_w]
                  rfl
                exact norm_ (by simp only [putAll, Act.put, List.setIfInBounds_toArray, List.set_cons_zero, List.set_cons_succ]) (hCont (.slice (some ⟨wF6.heap.size, 0, none⟩) 1 1, v84, .slice (some ⟨wD.heap.size, 0, none⟩) 1 1) _ ⟨HS.out, _, rfl, HT87.out.1, HT87.out.2.1⟩)
            rintro ⟨v83, v84, v87⟩ w6 ⟨hLS, b87, e87, hF87, hn87⟩
            dsimp only at hLS e87
            subst e87
            clear HS
            have HS := Aside0.mk hLS
            have HT87 := Aside0.mk (And.intro hF87 hn87)
            have hHeld : w6.cell? ⟨gt, 0, none⟩ = some (.slice At N ct) := by rw [HNN.out]; exact (blk_cell hLS.cell 0).trans rfl
            clear hLS hF87 hn87
            refine norm_ (a' := ?_) ?_ ?_
            rotate_left
            · simp only [putAll, Act.put, List.setIfInBounds_toArray, List.set_cons_zero, List.set_cons_succ]
              rfl
            refine last_ (i := 7) (N := some 88) #[true, true, true, true, true, true, true, true, false, false] rfl rfl (by kernel_rfl) (by decide) (fun K hK => ?_)
            rw [HNN.out]
            refine Kd.R_append_rows_step (Kd.int .i64) (w0 := w) w.heap.size (by rfl) (.tmp 85) (.tmp 87) 42 3 (.int .i64 0) 8 rfl Try.underlying42 info3 rfl (by decide) (by decide) (.slice At ids.length ct) ids [nx] _ 1 1 (fun k => k ≠ g ∧ k ≠ gt ∧ some k ≠ (v84 : Value).ownBlock) (fun _ => False) rfl rfl HS.out.things (Kd.F_now HT87.out.1) (fun _ _ h => h) (fun _ h => h.elim) (fun k hk => ⟨by have := HS.out.book.lt; omega, by have := HS.out.gtlt; omega, fun he => by have := Kd.R_lt HS.out.row k he.symm; omega⟩) HS.out.below HS.out.below.size (by have := HB2.out; omega) ?_
            intro v88 w7 hR hB hgr hat
            have hc5 := blk_grown HS.out.cell hgr (fun he => (HS.out.things.1 gt he.symm).2.1 rfl)
            have hcg := (blk_cell hc5 0).trans rfl
            have hz5 := blk_frozen hc5 0
            have HLS := Aside0.mk (HS.out.pushed hR hB hgr hat)
            obtain ⟨A1, cc1, he1⟩ := Kd.R_slice hR
            obtain ⟨m1, hm1⟩ : ∃ m1, m1 = (ids ++ [nx]).length := ⟨_, rfl⟩
            rw [← hm1] at he1
            subst he1
            clear hm1 hR hB hgr hat hc5
            refine hK.out _ _ ?_
            clear hK K
            refine norm_ (a' := ?_) ?_ ?_
            rotate_left
            · show Act.put _ (some 88) _ = _
              simp only [Act.put, List.setIfInBounds_toArray, List.set_cons_zero, List.set_cons_succ, i64_w, i32_w]
              rfl
            refine pure_ (i := 8) (N := some 7) (v := ?_) (a' := ?_) #[true, true, true, true, true, true, true, true, true, false] rfl rfl (by kernel_rfl) (fun _ _ _ h => h) (Or.inl ⟨by rfl, ?_⟩) ?_ ?_
            rotate_left
            · intro w'
              go_simp
              with_reducible rfl
            rotate_left
            · simp only [Act.put, List.setIfInBounds_toArray, List.set_cons_zero, List.set_cons_succ, i64_w, i32_w]
              rfl
            refine last_ (i := 9) (N := none) #[true, true, true, true, true, true, true, true, true, true] rfl rfl (by kernel_rfl) (by decide) (fun K hK => ?_)
            refine skip_ (w1 := ?_) (by rfl) rfl ?_ ?_
            rotate_left
            · go_simp
              rfl
            refine hK.out _ _ ?_
            clear hK K
            refine done_ (by kernel_rfl) ?_
            generalize hwX : World.setCell _ _ _ = wX at HLS ⊢
            clear hwX hcg hz5 CGT HS HT87
            have z0 := ZB.out.1
            have z1 := ZB.out.2
            go_wp2_with fail
            go_roundg (n0 - (i + 1))
            case measure => have := hi.out; have := C3.out; omega
            case rel => exact ⟨i + 1, LV, ids ++ [nx], vars ++ [nx], _, ⟨by have := C3.out; omega⟩, by rw [Z1.out], HLS, HStay, ⟨by have h1 := HLVl.out; have h2 := HLen.out; rw [List.length_append, List.length_singleton, List.length_append, List.length_singleton]; omega⟩⟩
        · have k0 : (ki == 0) = false := by simp; omega
          have k3 : (ki == 3) = false := by simp; omega
          by_cases hk1 : ki = 1
          · have k1 : (ki == 1) = true := by simp; omega
            have hids : 0 < ids.length := HSt.out.some_
            obtain ⟨At, ct, et, hCt⟩ := HSA.out.drew.thingsF
            subst et
            have hpx := (pickAt_mem ids xi hids).2.2.2.2
            have hpy := (pickAt_mem ids yi hids).2.2.2.2
            have hilt : ids.length < 1000000 := by have := HLen.out; have := HN0.out; have := C3.out; omega
            have HP1 := Aside0.mk (pick_calls gt At ct ids xi wA.drew ((blk_cell HSA.out.drew.cell 0).trans rfl) hCt hids hilt)
            have HP2 := Aside0.mk (pick_calls gt At ct ids yi wA.drew.drew ((blk_cell HSA.out.drew.drew.cell 0).trans rfl) hCt hids hilt)
            have hL := HSt.out.inv
            have hLl : L.length < 1000000 := by have := HLen.out; have := HN0.out; have := C3.out; omega
            have HAnd := Aside0.mk (and_calls g _ L (pickAt ids xi) (pickAt ids yi) w wA.drew.drew.drew HIA.out.drew.drew.drew (fun k hk => ⟨HSA.out.drew.drew.drew.fresh k hk, fun he => by have h1 := blk_lt HGA.out; have h2 : wA.heap.size ≤ k := hk; omega⟩) HSA.out.drew.drew.drew.below hLl hL)
            have HStay := Aside0.mk (HSt.out.and_ hpx hpy)
            have hti := two_inv hL (.inl rfl : (2 : Nat) = 2 ∨ 2 = 3) (HSt.out.hids _ hpx).2 (HSt.out.hids _ hpy).2
            have HTl := Aside0.mk hti.2.2.2.2
            obtain ⟨r1, hr1⟩ : ∃ r, r = pickAt ids xi := ⟨_, rfl⟩
            obtain ⟨r2, hr2⟩ : ∃ r, r = pickAt ids yi := ⟨_, rfl⟩
            obtain ⟨LT, hLT⟩ : ∃ q, q = two L 2 r1 r2 := ⟨_, rfl⟩
            obtain ⟨nr, hnr⟩ : ∃ q, q = LT.2 := ⟨_, rfl⟩
            rw [← hr1] at HP1 HAnd HStay HTl
            rw [← hr2] at HP2 HAnd HStay HTl
            rw [← hLT] at HAnd HStay HTl
            rw [← hnr] at HAnd HStay
            obtain ⟨N, hN⟩ : ∃ N, N = ids.length := ⟨_, rfl⟩
            have cgt : wA.drew.cell? ⟨gt, 0, none⟩ = some (.slice At N ct) := by rw [hN]; exact (blk_cell HSA.out.drew.cell 0).trans rfl
            have CGT := Aside0.mk cgt
            have CX := Aside0.mk (show wA.drew.cell? ⟨ga, 1, none⟩ = some (.int .i64 xi) from ca1)
            have CY := Aside0.mk (show wA.drew.cell? ⟨ga, 2, none⟩ = some (.int .i64 yi) from ca2)
            have HNN := Aside0.mk hN
            have he33 := fun (args : Array Value) (W : World) => enters_ (P := Try.prog) Try.func33 (by kernel_rfl) rfl args W
            have HE33 := Aside0.mk he33
            clear hk hk1 hids hpx hpy hilt hL hLl hti hr1 hr2 hLT hnr hN cgt hCt he33
            go_upto_region 28 with (fail)
            clear k0 k3 k1
            refine start_ (n := 14) (S := fun w' => w'.cell? ⟨gt, 0, none⟩ = some (.slice At N ct) ∧ w'.cell? ⟨ga, 1, none⟩ = some (.int .i64 xi) ∧ w'.cell? ⟨ga, 2, none⟩ = some (.int .i64 yi)) (ds := [12, 13]) #[false, false, false, false, false, false, false, false, false, false, false, false, false, false] (by kernel_rfl) rfl rfl ⟨CGT.out, CX.out, CY.out⟩ (fun hHeld => ?_)
            refine pure_ (i := 1) (N := some 92) (v := ?_) (a' := ?_) #[false, true, false, false, false, false, false, false, false, false, false, false, false, false] rfl rfl (by kernel_rfl) (fun _ _ _ h => h) (Or.inl ⟨by rfl, ?_⟩) ?_ ?_
            rotate_left
            · intro w'
              go_simp
              with_reducible rfl
            rotate_left
            · simp only [Act.put, List.setIfInBounds_toArray, List.set_cons_zero, List.set_cons_succ, i64_w, i32_w]
              rfl
            refine pure_ (i := 2) (N := some 93) (v := ?_) (a' := ?_) #[false, true, true, false, false, false, false, false, false, false, false, false, false, false] rfl rfl (by kernel_rfl) (fun _ _ _ h => h) (Or.inl ⟨by rfl, ?_⟩) ?_ ?_
            rotate_left
            · intro w'
              go_simp
              with_reducible rfl
            rotate_left
            · simp only [Act.put, List.setIfInBounds_toArray, List.set_cons_zero, List.set_cons_succ, i64_w, i32_w]
              rfl
            refine pure_ (i := 3) (N := some 94) (v := ?_) (a' := ?_) #[false, true, true, true, false, false, false, false, false, false, false, false, false, false] rfl rfl (by kernel_rfl) (fun _ _ _ h => h) (Or.inl ⟨by rfl, ?_⟩) ?_ ?_
            rotate_left
            · intro w'
              go_simp
              with_reducible rfl
            rotate_left
            · simp only [Act.put, List.setIfInBounds_toArray, List.set_cons_zero, List.set_cons_succ, i64_w, i32_w]
              rfl
            refine pure_ (i := 6) (N := some 97) (v := ?_) (a' := ?_) #[false, true, true, true, false, false, true, false, false, false, false, false, false, false] rfl rfl (by kernel_rfl) (fun _ _ _ h => h) (Or.inl ⟨by rfl, ?_⟩) ?_ ?_
            rotate_left
            · intro w'
              go_simp
              with_reducible rfl
            rotate_left
            · simp only [Act.put, List.setIfInBounds_toArray, List.set_cons_zero, List.set_cons_succ, i64_w, i32_w]
              rfl
            refine pure_ (i := 7) (N := some 98) (v := ?_) (a' := ?_) #[false, true, true, true, false, false, true, true, false, false, false, false, false, false] rfl rfl (by kernel_rfl) (fun _ _ _ h => h) (Or.inl ⟨by rfl, ?_⟩) ?_ ?_
            rotate_left
            · intro w'
              go_simp
              with_reducible rfl
            rotate_left
            · simp only [Act.put, List.setIfInBounds_toArray, List.set_cons_zero, List.set_cons_succ, i64_w, i32_w]
              rfl
            refine take_ (i := 0) (N := some 91) (v := ?_) (a' := ?_) #[true, true, true, true, false, false, true, true, false, false, false, false, false, false] rfl rfl (by kernel_rfl) (fun _ _ _ h => h) (Or.inl ⟨by rfl, ?_⟩) hHeld ?_ ?_
            rotate_left
            · rintro w' ⟨s0, s1, s2⟩
              go_simp
              with_reducible rfl
            rotate_left
            · simp only [Act.put, List.setIfInBounds_toArray, List.set_cons_zero, List.set_cons_succ, i64_w, i32_w]
              rfl
            refine take_ (i := 4) (N := some 95) (v := ?_) (a' := ?_) #[true, true, true, true, true, false, true, true, false, false, false, false, false, false] rfl rfl (by kernel_rfl) (fun _ _ _ h => h) (Or.inl ⟨by rfl, ?_⟩) hHeld ?_ ?_
            rotate_left
            · rintro w' ⟨s0, s1, s2⟩
              go_simp
              with_reducible rfl
            rotate_left
            · simp only [Act.put, List.setIfInBounds_toArray, List.set_cons_zero, List.set_cons_succ, i64_w, i32_w]
              rfl
            refine take_ (i := 8) (N := some 99) (v := ?_) (a' := ?_) #[true, true, true, true, true, false, true, true, true, false, false, false, false, false] rfl rfl (by kernel_rfl) (fun _ _ _ h => h) (Or.inl ⟨by rfl, ?_⟩) hHeld ?_ ?_
            rotate_left
            · rintro w' ⟨s0, s1, s2⟩
              go_simp
              with_reducible rfl
            rotate_left
            · simp only [Act.put, List.setIfInBounds_toArray, List.set_cons_zero, List.set_cons_succ, i64_w, i32_w]
              rfl
            refine one_ (i := 5) (N := some 96) #[true, true, true, true, true, true, true, true, true, false, false, false, false, false] rfl rfl (by kernel_rfl) (by decide) (fun K hK => ?_)
            refine call_ 33 #[.int .i64 xi, .pointer (some ⟨gt, 0, none⟩)] (by rfl) rfl (by have he_ := HE33.out; unfold execOp; simp [resolve, Deferred.ofValue, invoke, Act.eval, he_]) ?_
            with_reducible refine (HP1.out).mono ?_
            rintro e w3 ⟨rfl, rfl⟩
            refine ⟨_, rfl, ?_⟩
            refine hK.out _ _ ⟨CGT.out, CX.out, CY.out⟩ (fun hHeld => ?_)
            clear hK K
            refine norm_ (a' := ?_) ?_ ?_
            rotate_left
            · show Act.put _ (some 96) _ = _
              simp only [Act.put, List.setIfInBounds_toArray, List.set_cons_zero, List.set_cons_succ, i64_w, i32_w]
              rfl
            refine one_ (i := 9) (N := some 100) #[true, true, true, true, true, true, true, true, true, true, false, false, false, false] rfl rfl (by kernel_rfl) (by decide) (fun K hK => ?_)
            refine call_ 33 #[.int .i64 yi, .pointer (some ⟨gt, 0, none⟩)] (by rfl) rfl (by have he_ := HE33.out; unfold execOp; simp [resolve, Deferred.ofValue, invoke, Act.eval, he_]) ?_
            with_reducible refine (HP2.out).mono ?_
            rintro e w3 ⟨rfl, rfl⟩
            refine ⟨_, rfl, ?_⟩
            refine hK.out _ _ ⟨CGT.out, CX.out, CY.out⟩ (fun hHeld => ?_)
            clear hK K
            refine norm_ (a' := ?_) ?_ ?_
            rotate_left
            · show Act.put _ (some 100) _ = _
              simp only [Act.put, List.setIfInBounds_toArray, List.set_cons_zero, List.set_cons_succ, i64_w, i32_w]
              rfl
            refine one_ (i := 10) (N := some 101) #[true, true, true, true, true, true, true, true, true, true, true, false, false, false] rfl rfl (by kernel_rfl) (by decide) (fun K hK => ?_)
            refine goes_ Try.func35 (by kernel_rfl) rfl #[.pointer (some ⟨g, 0, none⟩), .int .i64 r1, .int .i64 r2] (by rfl) rfl rfl (by simp only [List.map_toArray, List.map_cons, List.map_nil]; rfl) ?_
            with_reducible refine (HAnd.out).mono ?_
            rintro e w4 ⟨rfl, hI4, hB4, hK4⟩
            refine ⟨_, rfl, ?_⟩
            have HS4 := Aside0.mk (HSA.out.drew.drew.drew.call (fun k hk => hk.1) hI4 hB4 hK4)
            have hga4 := (hK4.2 ga (blk_lt HGA.out) HGne.out.1 (fun hp => hp.2 rfl)).trans (show wA.drew.drew.drew.heap[ga]? = _ from HGA.out)
            have cgt4 : w4.cell? ⟨gt, 0, none⟩ = some (.slice At N ct) := by rw [HNN.out]; exact (blk_cell HS4.out.cell 0).trans rfl
            have cx4 := (blk_cell hga4 1).trans rfl
            have cy4 := (blk_cell hga4 2).trans rfl
            clear hI4 hB4 hK4 hga4
            refine hK.out _ _ ⟨cgt4, cx4, cy4⟩ (fun hHeld => ?_)
            clear hK K
            refine norm_ (a' := ?_) ?_ ?_
            rotate_left
            · show Act.put _ (some 101) _ = _
              simp only [Act.put, List.setIfInBounds_toArray, List.set_cons_zero, List.set_cons_succ, i64_w, i32_w]
              rfl
            refine one_ (i := 11) (N := some 102) #[true, true, true, true, true, true, true, true, true, true, true, true, false, false] rfl rfl (by kernel_rfl) (by decide) (fun K hK => ?_)
            refine value_ (w1 := ?_) (v := ?_) (by rfl) rfl ?_ ?_
            rotate_left 2
            · go_simp
              constructor
              · rfl
              · rfl
            refine hK.out _ _ ⟨(pw_cell_below (below_alloc (Below.refl _ _) _) cgt4), (pw_cell_below (below_alloc (Below.refl _ _) _) cx4), (pw_cell_below (below_alloc (Below.refl _ _) _) cy4)⟩ (fun hHeld => ?_)
            clear hK K
            refine norm_ (a' := ?_) ?_ ?_
            rotate_left
            · show Act.put _ (some 102) _ = _
              simp only [Act.put, List.setIfInBounds_toArray, List.set_cons_zero, List.set_cons_succ, i64_w, i32_w]
              rfl
            refine last_ (i := 12) (N := some 103) #[true, true, true, true, true, true, true, true, true, true, true, true, true, false] rfl rfl (by kernel_rfl) (by decide) (fun K hK => ?_)
            rw [HNN.out]
            refine Kd.R_append_step (Kd.int .i64) (w0 := w) w.heap.size (by rfl) (.tmp 91) (.tmp 102) 42 3 (.int .i64 0) 8 rfl Try.underlying42 info3 rfl (by decide) (by decide) (.slice At ids.length ct) ids nr [.int .i64 nr] (fun k => k ≠ g ∧ k ≠ gt ∧ some k ≠ (u7 : Value).ownBlock) (fun _ => False) rfl rfl rfl (fun _ h => h.elim) (fun k hk => ⟨by have := HS4.out.book.lt; omega, by have := HS4.out.gtlt; omega, fun he => by have := Kd.R_lt HS4.out.row k he.symm; omega⟩) HS4.out.things HS4.out.below HS4.out.below.size (by have := HLen.out; have := HN0.out; have := C3.out; omega) ?_
            intro v1 w5 hR hB hgr hat
            have hc5 := blk_grown HS4.out.cell hgr (fun he => (HS4.out.things.1 gt he.symm).2.1 rfl)
            have hcgt := (blk_cell hc5 0).trans rfl
            have hz1 := blk_frozen hc5 0
            have HS5 := HS4
            obtain ⟨A1, cc1, he1⟩ := Kd.R_slice hR
            obtain ⟨m1, hm1⟩ : ∃ m1, m1 = (ids ++ [nr]).length := ⟨_, rfl⟩
            rw [← hm1] at he1
            subst he1
            have HR1 := Aside0.mk hR
            have HB1 := Aside0.mk hB
            have HG1 := Aside0.mk hgr
            have HAt := Aside0.mk hat
            clear hR hB hgr hat hm1
            refine hK.out _ _ ?_
            clear hK K
            refine norm_ (a' := ?_) ?_ ?_
            rotate_left
            · show Act.put _ (some 103) _ = _
              simp only [Act.put, List.setIfInBounds_toArray, List.set_cons_zero, List.set_cons_succ, i64_w, i32_w]
              rfl
            refine last_ (i := 13) (N := none) #[true, true, true, true, true, true, true, true, true, true, true, true, true, true] rfl rfl (by kernel_rfl) (by decide) (fun K hK => ?_)
            refine skip_ (w1 := ?_) (by rfl) rfl ?_ ?_
            rotate_left
            · go_simp
              rfl
            refine hK.out _ _ ?_
            clear hK K
            refine done_ (by kernel_rfl) ?_
            have HPu := Aside0.mk (HS5.out.pushed HR1.out HB1.out HG1.out HAt.out)
            generalize hwX : World.setCell _ _ _ = wX at HPu ⊢
            clear hwX ca0 ca1 ca2 ca3 HS5 HR1 HB1 HG1 HAt HSA HIA HGA HCA HGne CGT CX CY HP1 HP2 HAnd HE33 HM H10 hcgt hz1 
            have z0 := ZB.out.1
            have z1 := ZB.out.2
            go_wp2_with fail
            go_roundg (n0 - (i + 1))
            case measure => have := hi.out; have := C3.out; omega
            case rel => exact ⟨i + 1, LT.1, ids ++ [nr], vars, _, ⟨by have := C3.out; omega⟩, by rw [Z1.out], HPu, HStay, ⟨by have h1 := HTl.out; have h2 := HLen.out; rw [List.length_append, List.length_singleton]; omega⟩⟩
          · have k1 : (ki == 1) = false := by simp; omega
            have hids : 0 < ids.length := HSt.out.some_
            obtain ⟨At, ct, et, -⟩ := HSA.out.thingsF
            subst et
            have hilt : ids.length < 1000000 := by have := HLen.out; have := HN0.out; have := C3.out; omega
            have HIds := Aside0.mk (And.intro hids hilt)
            have he33 := fun (args : Array Value) (W : World) => enters_ (P := Try.prog) Try.func33 (by kernel_rfl) rfl args W
            have HE33 := Aside0.mk he33
            have HSz := Aside0.mk (show wA.heap.size ≤ wA.heap.size from Nat.le_refl _)
            obtain ⟨xs, hxs⟩ : ∃ xs, xs = act.f3 := ⟨_, rfl⟩
            rw [← hxs] at HCA HM
            have HO0 := Aside0.mk (show (Kd.int .i64).R 3 (wA.alloc (.cells #[] 3)) wA.heap.size (fun _ => True) (.slice (some ⟨wA.heap.size, 0, none⟩) 0 0) [] from Kd.R_of_own (own_lit_of (enc := fun z : Int => Value.int .i64 z) wA wA.heap.size 3 [] (Nat.le_refl _) (by decide)) (fun _ _ => trivial))
            have HB0 := Aside0.mk (below_alloc (Below.refl wA.heap.size wA) (.cells #[] 3))
            have hga1 : wA.heap.size ≠ ga := by have := blk_lt HGA.out; omega
            have hga2 : ga ≠ wA.heap.size := by have := blk_lt HGA.out; omega
            clear hk hk1 hids hilt he33 hxs
            go_upto_region 17 with (fail)
            generalize hwB : World.alloc wA _ = wB at HO0 HB0 ⊢
            generalize hvo : Value.slice (some ⟨wA.heap.size, 0, none⟩) 0 0 = vo0 at HO0 ⊢
            have hgb := blk_below HGA.out HB0.out
            clear hwB hvo k0 k3 k1 ca0 ca1 ca2 ca3 hga1 hga2
            have ca3 : wB.cell? ⟨ga, 3, none⟩ = some (.slice A3 m c3') := (blk_cell hgb 3).trans rfl
            clear hgb
            go_wp2_with fail
            clear ca3
            go_loopg [12, 59] m (fun kq v12 v59 w' => ∃ j : Nat, Aside0 (kq + j = m) ∧ v59 = .int .i64 (j : Int) ∧ Aside0 ((Kd.int .i64).R 3 w' wA.heap.size (fun _ => True) v12 ((xs.take j).map (pickAt ids))) ∧ Aside0 (Below wA.heap.size wA w'))
            case atStart => exact ⟨0, ⟨by omega⟩, rfl, ⟨by simpa using HO0.out⟩, HB0⟩
            case round =>
              clear HO0 HB0
              obtain ⟨j, hj, rfl, HO, HBo⟩ := hrel
              by_cases c5 : j < m
              · obtain ⟨y, hy⟩ : ∃ y : Int, y = (j : Int) := ⟨_, rfl⟩
                have y0 : 0 ≤ y := by omega
                have y1 : y < (m : Int) := by omega
                obtain ⟨ad5, rfl, hcell⟩ := (Kd.reads_of_C (enc := Value.int .i64) (d := (0 : Int)) (h1 := fun _ => rfl) (Kd.C_below HCA.out HBo.out)).at_ y y0 y1
                have hjl : j < xs.length := by have := HM.out; omega
                obtain ⟨x, hx⟩ : ∃ x, x = rdOf 0 xs y := ⟨_, rfl⟩
                have hxs : (xs.take (j + 1)).map (pickAt ids) = (xs.take j).map (pickAt ids) ++ [pickAt ids x] := by
                  rw [List.take_succ_eq_append_getElem hjl, List.map_append, hx, hy]
                  unfold rdOf
                  rw [Int.toNat_natCast, List.getD_eq_getElem?_getD, List.getElem?_eq_getElem hjl]
                  rfl
                rw [← hx] at hcell
                have HSo := HSA.out.below_ HBo.out
                obtain ⟨At2, ct2, et2, hCt⟩ := HSo.thingsF
                injection et2 with e1 e2 e3
                subst e1
                subst e3
                have HPk := Aside0.mk (pick_calls gt At ct ids x wr (by have := (blk_cell HSo.cell 0).trans rfl; exact this) hCt HIds.out.1 HIds.out.2)
                obtain ⟨px, hpx⟩ : ∃ p, p = pickAt ids x := ⟨_, rfl⟩
                rw [← hpx] at HPk hxs
                have HXS := Aside0.mk hxs
                have Y1 := Aside0.mk (show y + 1 = ((j + 1 : Nat) : Int) by omega)
                have YB := Aside0.mk (show 0 ≤ y ∧ y < 100 by have := H10.out; omega)
                have C5 := Aside0.mk c5
                have q5 : decide (y < (m : Int)) = true := decide_eq_true y1
                have hln : Aside0 ((((xs.take j).map (pickAt ids)).length + 1) * 8 ≤ 140737488355328) := ⟨by have := H10.out; rw [List.length_map, List.length_take]; omega⟩
                rw [← hy]
                clear hxs hpx hx hjl hCt HSo c5 hy
                have Y00 := Aside0.mk y0
                replace y0 := eq_true y0
                replace y1 := eq_true y1
                go_wp2_with (first | (go_at_call 33; refine HPk.out.mono ?_; rintro e w6 ⟨rfl, rfl⟩) | (at_builtin; refine Kd.R_append (Kd.int .i64) (w0 := wA) wA.heap.size rfl (.tmp 63) (.tmp 67) 42 3 (.int .i64 0) 8 rfl Try.underlying42 info3 rfl (by decide) (by decide) _ ((xs.take j).map (pickAt ids)) px [.int .i64 px] (fun _ => True) (fun _ => False) rfl rfl rfl (fun _ h => h.elim) (fun _ _ => trivial) (Kd.R_drew HO.out) (below_drew HBo.out) (below_drew HBo.out).size hln.out ?_; intro v1 w7 hR hB hgr hat; have HO7 := Aside0.mk hR; have HB7 := Aside0.mk hB; clear hR hB hgr hat hcell q5 y0 y1; have y0 := YB.out.1; have y1 := YB.out.2))
                go_roundg (m - (j + 1))
                case measure => have := hj.out; have := C5.out; omega
                case rel => exact ⟨j + 1, ⟨by have := C5.out; omega⟩, by rw [Y1.out], ⟨by rw [HXS.out]; exact HO7.out⟩, HB7⟩
              · have hjm : j = xs.length := by have := hj.out; have := HM.out; omega
                have q5 : decide ((j : Int) < (m : Int)) = false := by simp; omega
                obtain ⟨ps, hps⟩ : ∃ ps, ps = xs.map (pickAt ids) := ⟨_, rfl⟩
                have HO2 : Aside0 ((Kd.int .i64).R 3 wr wA.heap.size (fun _ => True) u12 ps) := ⟨by have h := HO.out; rw [hjm, List.take_length, ← hps] at h; exact h⟩
                have hpm : ∀ x ∈ ps, x ∈ ids := fun x hx => by
                  rw [hps] at hx
                  obtain ⟨a, _, rfl⟩ := List.mem_map.1 hx
                  exact (pickAt_mem ids a HIds.out.1).2.2.2.2
                have hpl : ps.length = m := by rw [hps, List.length_map]; exact HM.out.symm
                have HS2 := Aside0.mk ((HSA.out.below_ HBo.out).drew)
                obtain ⟨Ao, co, eo, _, hCo⟩ := Kd.R_reads HO2.out
                have hob := Kd.R_base HO2.out
                have hFo : Kd.F (Kd.int .i64) wr.drew (fun k => some k = u12.ownBlock) Ao ps.length ps := by
                  have h := Kd.R_tight Eint HO2.out
                  rw [eo] at h ⊢
                  exact Kd.F_drew (Kd.R_F h)
                have hI2 : IsB w wr.drew g (fun k => Away gt (.slice At ids.length ct) u7 k ∧ some k ≠ u12.ownBlock) L := ((HSA.out.book.bound.below HBo.out).drew).mono (fun k hk => ⟨hk.1, fun he => by have := hob k he.symm; have := hk.2; omega⟩)
                have holt := Kd.R_lt HO2.out
                have hL := HSt.out.inv
                have hLl : L.length + m < 1000000 := by have := HLen.out; have := HN0.out; have := C3.out; have := H10.out; omega
                have hgno : some g ≠ u12.ownBlock := fun he => by have := hob g he.symm; have := HSA.out.book.lt; omega
                have HOr := Aside0.mk (or_calls g _ L Ao ps.length co ps w wr.drew hI2 (fun k hk => ⟨HS2.out.fresh k hk, fun he => by have h1 := holt k he.symm; have h2 : wr.heap.size ≤ k := hk; omega⟩) HS2.out.below (by rw [hpl]; exact hLl) hL (Kd.F_mono hFo (fun k hk => ⟨fun he => hgno (by rw [← he]; exact hk), fun h => h.2 hk⟩)) (fun x hx => (HSt.out.hids x (hpm x hx)).2))
                have HStay := Aside0.mk (HSt.out.or_ hpm)
                have HTl := Aside0.mk (orAll_inv ps L 0 hL (by have := hL.two_; omega) (fun x hx => (HSt.out.hids x (hpm x hx)).2)).2.2.2.2
                obtain ⟨LT, hLT⟩ : ∃ q, q = orAll L 0 ps := ⟨_, rfl⟩
                obtain ⟨nr, hnr⟩ : ∃ q, q = LT.2 := ⟨_, rfl⟩
                rw [← hLT] at HOr HStay HTl
                rw [← hnr] at HOr HStay
                have HPl := Aside0.mk hpl
                have heo := eo
                rw [hpl] at heo HOr
                subst heo
                obtain ⟨N, hN⟩ : ∃ N, N = ids.length := ⟨_, rfl⟩
                have cgt : wr.drew.cell? ⟨gt, 0, none⟩ = some (.slice At N ct) := by rw [hN]; exact (blk_cell HS2.out.cell 0).trans rfl
                have CGT := Aside0.mk cgt
                have HNN := Aside0.mk hN
                obtain ⟨y, hy⟩ : ∃ y : Int, y = (j : Int) := ⟨_, rfl⟩
                rw [← hy] at q5 ⊢
                clear hjm hps hpm hpl hCo hob hFo hI2 holt hL hLl hgno hLT hnr hN cgt c5 hj hy eo HO HO2
                go_upto_region 22 with (fail)
                clear q5
                refine start_ (n := 7) (S := fun w' => w'.cell? ⟨gt, 0, none⟩ = some (.slice At N ct)) (ds := [5, 6]) #[false, false, false, false, false, false, false] (by kernel_rfl) rfl rfl (CGT.out) (fun hHeld => ?_)
                refine pure_ (i := 1) (N := some 71) (v := ?_) (a' := ?_) #[false, true, false, false, false, false, false] rfl rfl (by kernel_rfl) (fun _ _ _ h => h) (Or.inl ⟨by rfl, ?_⟩) ?_ ?_
                rotate_left
                · intro w'
                  go_simp
                  with_reducible rfl
                rotate_left
                · simp only [Act.put, List.setIfInBounds_toArray, List.set_cons_zero, List.set_cons_succ, i64_w, i32_w]
                  rfl
                refine pure_ (i := 2) (N := some 72) (v := ?_) (a' := ?_) #[false, true, true, false, false, false, false] rfl rfl (by kernel_rfl) (fun _ _ _ h => h) (Or.inl ⟨by rfl, ?_⟩) ?_ ?_
                rotate_left
                · intro w'
                  go_simp
                  with_reducible rfl
                rotate_left
                · simp only [Act.put, List.setIfInBounds_toArray, List.set_cons_zero, List.set_cons_succ, i64_w, i32_w]
                  rfl
                refine take_ (i := 0) (N := some 70) (v := ?_) (a' := ?_) #[true, true, true, false, false, false, false] rfl rfl (by kernel_rfl) (fun _ _ _ h => h) (Or.inl ⟨by rfl, ?_⟩) hHeld ?_ ?_
                rotate_left
                · intro w' s0
                  go_simp
                  with_reducible rfl
                rotate_left
                · simp only [Act.put, List.setIfInBounds_toArray, List.set_cons_zero, List.set_cons_succ, i64_w, i32_w]
                  rfl
                refine one_ (i := 3) (N := some 73) #[true, true, true, true, false, false, false] rfl rfl (by kernel_rfl) (by decide) (fun K hK => ?_)
                refine goes_ Try.func36 (by kernel_rfl) rfl #[.pointer (some ⟨g, 0, none⟩), .slice Ao m co] (by rfl) rfl rfl (by simp only [List.map_toArray, List.map_cons, List.map_nil]; rfl) ?_
                with_reducible refine (HOr.out).mono ?_
                rintro e w4 ⟨rfl, hI4, hB4, hK4⟩
                refine ⟨_, rfl, ?_⟩
                have HS4 := Aside0.mk (HS2.out.call (fun k hk => hk.1) hI4 hB4 hK4)
                have cgt4 : w4.cell? ⟨gt, 0, none⟩ = some (.slice At N ct) := by rw [HNN.out]; exact (blk_cell HS4.out.cell 0).trans rfl
                clear hI4 hB4 hK4
                refine hK.out _ _ (cgt4) (fun hHeld => ?_)
                clear hK K
                refine norm_ (a' := ?_) ?_ ?_
                rotate_left
                · show Act.put _ (some 73) _ = _
                  simp only [Act.put, List.setIfInBounds_toArray, List.set_cons_zero, List.set_cons_succ, i64_w, i32_w]
                  rfl
                refine one_ (i := 4) (N := some 74) #[true, true, true, true, true, false, false] rfl rfl (by kernel_rfl) (by decide) (fun K hK => ?_)
                refine value_ (w1 := ?_) (v := ?_) (by rfl) rfl ?_ ?_
                rotate_left 2
                · go_simp
                  constructor
                  · rfl
                  · rfl
                refine hK.out _ _ ((pw_cell_below (below_alloc (Below.refl _ _) _) cgt4)) (fun hHeld => ?_)
                clear hK K
                refine norm_ (a' := ?_) ?_ ?_
                rotate_left
                · show Act.put _ (some 74) _ = _
                  simp only [Act.put, List.setIfInBounds_toArray, List.set_cons_zero, List.set_cons_succ, i64_w, i32_w]
                  rfl
                refine last_ (i := 5) (N := some 75) #[true, true, true, true, true, true, false] rfl rfl (by kernel_rfl) (by decide) (fun K hK => ?_)
                rw [HNN.out]
                refine Kd.R_append_step (Kd.int .i64) (w0 := w) w.heap.size (by rfl) (.tmp 70) (.tmp 74) 42 3 (.int .i64 0) 8 rfl Try.underlying42 info3 rfl (by decide) (by decide) (.slice At ids.length ct) ids nr [.int .i64 nr] (fun k => k ≠ g ∧ k ≠ gt ∧ some k ≠ (u7 : Value).ownBlock) (fun _ => False) rfl rfl rfl (fun _ h => h.elim) (fun k hk => ⟨by have := HS4.out.book.lt; omega, by have := HS4.out.gtlt; omega, fun he => by have := Kd.R_lt HS4.out.row k he.symm; omega⟩) HS4.out.things HS4.out.below HS4.out.below.size (by have := HLen.out; have := HN0.out; have := C3.out; omega) ?_
                intro v1 w5 hR hB hgr hat
                have hc5 := blk_grown HS4.out.cell hgr (fun he => (HS4.out.things.1 gt he.symm).2.1 rfl)
                have hcgt := (blk_cell hc5 0).trans rfl
                have hz1 := blk_frozen hc5 0
                have HS5 := HS4
                obtain ⟨A1, cc1, he1⟩ := Kd.R_slice hR
                obtain ⟨m1, hm1⟩ : ∃ m1, m1 = (ids ++ [nr]).length := ⟨_, rfl⟩
                rw [← hm1] at he1
                subst he1
                have HR1 := Aside0.mk hR
                have HB1 := Aside0.mk hB
                have HG1 := Aside0.mk hgr
                have HAt := Aside0.mk hat
                clear hR hB hgr hat hm1
                refine hK.out _ _ ?_
                clear hK K
                refine norm_ (a' := ?_) ?_ ?_
                rotate_left
                · show Act.put _ (some 75) _ = _
                  simp only [Act.put, List.setIfInBounds_toArray, List.set_cons_zero, List.set_cons_succ, i64_w, i32_w]
                  rfl
                refine last_ (i := 6) (N := none) #[true, true, true, true, true, true, true] rfl rfl (by kernel_rfl) (by decide) (fun K hK => ?_)
                refine skip_ (w1 := ?_) (by rfl) rfl ?_ ?_
                rotate_left
                · go_simp
                  rfl
                refine hK.out _ _ ?_
                clear hK K
                refine done_ (by kernel_rfl) ?_
                have HPu := Aside0.mk (HS5.out.pushed HR1.out HB1.out HG1.out HAt.out)
                generalize hwX : World.setCell _ _ _ = wX at HPu ⊢
                clear hwX HS5 HR1 HB1 HG1 HAt HSA HIA HGA HCA HGne CGT HE33 hcgt hz1 HS2 HOr HBo
                have z0 := ZB.out.1
                have z1 := ZB.out.2
                go_wp2_with fail
                go_roundg (n0 - (i + 1))
                case measure => have := hi.out; have := C3.out; omega
                case rel => exact ⟨i + 1, LT.1, ids ++ [nr], vars, _, ⟨by have := C3.out; omega⟩, by rw [Z1.out], HPu, HStay, ⟨by have h1 := HTl.out; have h2 := HLen.out; have h3 := H10.out; have h4 := HPl.out; rw [List.length_append, List.length_singleton]; omega⟩⟩
    · obtain ⟨At, ct, et, -⟩ := HS.out.thingsF
      subst et
      obtain ⟨Av, cv, ev, -, -⟩ := Kd.R_reads HS.out.row
      subst ev
      obtain ⟨N, hN⟩ : ∃ N, N = ids.length := ⟨_, rfl⟩
      obtain ⟨nv, hnv⟩ : ∃ n, n = vars.length := ⟨_, rfl⟩
      have q3 : decide ((i : Int) < (n0 : Int)) = false := by simp; omega
      have cgt : wr.cell? ⟨gt, 0, none⟩ = some (.slice At N ct) := by rw [hN]; exact (blk_cell HS.out.cell 0).trans rfl
      have HN := Aside0.mk hN
      have HNV := Aside0.mk hnv
      have HI9 := Aside0.mk (show i ≤ 40 by have := hi.out; have := HN0.out; omega)
      have HNb := Aside0.mk (show 0 < N ∧ N < 1000 ∧ nv < 1000 ∧ L.length < 100000 by have h1 := HLen.out; have h2 := HN0.out; have h3 := HI9.out; omega)
      have n0' := HNb.out.1
      have n1' := HNb.out.2.1
      have n2' : 0 ≤ (N : Int) := by omega
      obtain ⟨z, hz⟩ : ∃ z : Int, z = (i : Int) := ⟨_, rfl⟩
      rw [← hz] at q3 ⊢
      rw [← hnv]
      clear c3 hi hN hnv hz
      go_upto_region 31 with (first | (at_make; refine Kd.R_make (Kd.int .i64) (w0 := wr) wr.heap.size 3 rfl rfl 42 (.tmp 106) (.tmp 106) rfl (N : Int) rfl rfl Try.underlying42 (.int .i64 0) 8 info3 rfl (by decide) (by decide) (0 : Int) (ok := fun _ => True) (okp := fun _ => False) rfl (fun _ _ => trivial) trivial (by omega) (by omega) (Below.refl _ _) (Nat.le_refl _) ?_; intro v1 w1 hR hB hgr hat; have HR2 := Aside0.mk hR; have HG2 := Aside0.mk hB; clear hR hB hgr hat))
      have hst := Law2.start HS.out HR2.out HG2.out (by rw [List.length_replicate]; omega)
      rw [List.length_replicate, Int.toNat_natCast] at hst
      obtain ⟨bw, cw, e1, hL2⟩ := hst
      subst e1
      have H2 := Aside0.mk hL2
      have HWas := Aside0.mk (show Was L ids (List.replicate N 0) by rw [HN.out]; exact Was.zeros L ids)
      have HIds := Aside0.mk (fun x (hx : x ∈ ids) => HSt.out.hids x hx)
      obtain ⟨NL, hNL⟩ : ∃ n, n = L.length := ⟨_, rfl⟩
      have HNL := Aside0.mk hNL
      have HNLb := Aside0.mk (show NL < 100000 by rw [hNL]; exact HNb.out.2.2.2)
      clear hL2 HR2 HG2 cgt n0' n1' n2' q3 hNL HS
      go_wp2_with fail
      go_loopg [110] nv (fun kq v110 w' => ∃ (j : Nat) (L2 : List T) (was : List Int), Aside0 (kq + j = nv) ∧ v110 = .int .i64 (j : Int) ∧ Aside0 (Law2 w w' g gt (.slice At ids.length ct) (.slice Av vars.length cv) bw cw N L2 ids vars was) ∧ Aside0 (Stay L2 ids (vars.drop j)) ∧ Aside0 (Was L2 ids was) ∧ Aside0 (L2.length = NL))
      case atStart => exact ⟨0, L, _, ⟨by omega⟩, rfl, H2, ⟨by simpa using HSt.out⟩, HWas, ⟨HNL.out.symm⟩⟩
      case round =>
        clear H2 HWas HSt HLen
        obtain ⟨j, L2, was, hj, rfl, H2, HSt, HWas, HL2⟩ := hrel
        by_cases c5 : j < nv
        · obtain ⟨y, hy⟩ : ∃ y : Int, y = (j : Int) := ⟨_, rfl⟩
          have y0 : 0 ≤ y := by omega
          have y1 : y < (nv : Int) := by omega
          have hrow := (Kd.R_reads' H2.out.st.row).2.2
          rw [← HNV.out] at hrow
          obtain ⟨adv, rfl, hcell⟩ := (Kd.reads_of_C (enc := Value.int .i64) (d := (0 : Int)) (h1 := fun _ => rfl) hrow).at_ y y0 y1
          have hjl : j < vars.length := by have := HNV.out; omega
          obtain ⟨x, hx⟩ : ∃ x, x = rdOf 0 vars y := ⟨_, rfl⟩
          have hdr : vars.drop j = x :: vars.drop (j + 1) := by
            rw [hx, hy]
            have := drop_one vars j hjl
            exact this
          rw [← hx] at hcell
          have hst2 := HSt.out
          rw [hdr] at hst2
          have hv := hst2.hvars x (List.mem_cons_self)
          obtain ⟨bq, hbq⟩ : ∃ b : Bool, b = (if j < n1 then ys.getD j false else false) := ⟨_, rfl⟩
          obtain ⟨L3, hp3, hs3, hstep3, hl3⟩ := hst2.set_ bq (L2.length + 2) (by omega)
          have hset := set_calls g _ L2 x bq L3 (L2.length + 2) w wr H2.out.book2 H2.out.fresh H2.out.st.below (by have := HL2.out; have := HNLb.out; omega) hst2.inv hv.1 hv.2.1 hv.2.2 hp3
          have HSet := Aside0.mk hset
          have HS3 := Aside0.mk hs3
          have HW3 := Aside0.mk (HWas.out.step hstep3 hst2.hids)
          have HL3 := Aside0.mk (show L3.length = NL by rw [hl3]; exact HL2.out)
          have Y1 := Aside0.mk (show y + 1 = ((j + 1 : Nat) : Int) by omega)
          have YB := Aside0.mk (show 0 ≤ y ∧ y < 1000 by have := HNb.out; omega)
          have C5 := Aside0.mk c5
          have q5 : decide (y < (nv : Int)) = true := decide_eq_true y1
          have hbf : (y < (n1 : Int) ∧ ∃ ad1, A1 = some ad1 ∧ wr.cell? (ad1.add y.toNat) = some (.bool bq)) ∨ (¬ y < (n1 : Int) ∧ bq = false) := by
            by_cases c6 : j < n1
            · left
              obtain ⟨ad1, e1, hc1⟩ := (HR1.out.below H2.out.st.below).at_ y y0 (by omega)
              refine ⟨by omega, ad1, e1, ?_⟩
              rw [hc1, hbq, if_pos c6, hy]
              unfold rdOf
              rw [Int.toNat_natCast]
            · right
              exact ⟨by omega, by rw [hbq, if_neg c6]⟩
          rw [← hy]
          have Y00 := Aside0.mk y0
          clear hrow hjl hx hdr hst2 hv hbq hp3 hs3 hstep3 hl3 hset c5 hy HSt HWas
          replace y0 := eq_true y0
          replace y1 := eq_true y1
          rcases hbf with ⟨c6, ad1, rfl, hcb⟩ | ⟨c6, rfl⟩
          · have q6 : decide (y < (n1 : Int)) = true := decide_eq_true c6
            replace c6 := eq_true c6
            go_upto_region 36 with (first | (go_at_call 37; refine HSet.out.mono ?_; rintro e w5 ⟨rfl, hI5, hB5, hK5⟩; have H5 := Aside0.mk (H2.out.call hI5 hB5 hK5); clear hI5 hB5 hK5))
            clear q5 q6 y0 y1 hcell hcb c6 H2 HSet
            have cgt : w5.cell? ⟨gt, 0, none⟩ = some (.slice At N ct) := by rw [HN.out]; exact (blk_cell H5.out.st.cell 0).trans rfl
            go_wp2_with fail
            clear cgt
            go_loopg [131] N (fun kq v131 w' => ∃ (k : Nat) (was2 : List Int), Aside0 (kq + k = N) ∧ v131 = .int .i64 (k : Int) ∧ Aside0 (Law2 w w' g gt (.slice At ids.length ct) (.slice (some adv) vars.length cv) bw cw N L3 ids vars was2) ∧ Aside0 (Was L3 ids was2))
            case atStart => exact ⟨0, was, ⟨by omega⟩, rfl, H5, HW3⟩
            case round =>
              clear H5 HW3
              obtain ⟨k, was2, hk, rfl, H6, HW6⟩ := hrel
              by_cases c7 : k < N
              · obtain ⟨t, ht⟩ : ∃ t : Int, t = (k : Int) := ⟨_, rfl⟩
                have t0 : 0 ≤ t := by omega
                have t1 : t < (N : Int) := by omega
                have hrow := (Kd.R_reads' H6.out.st.things).2.2
                rw [← HN.out] at hrow
                obtain ⟨adt, rfl, hcell⟩ := (Kd.reads_of_C (enc := Value.int .i64) (d := (0 : Int)) (h1 := fun _ => rfl) hrow).at_ t t0 t1
                obtain ⟨x7, hx7⟩ : ∃ x, x = rdOf 0 ids t := ⟨_, rfl⟩
                rw [← hx7] at hcell
                have HV := Aside0.mk (value_calls g _ L3 x7 w wr H6.out.book2)
                obtain ⟨v7, hv7⟩ : ∃ v : Int, v = (valT L3 x7 : Nat) := ⟨_, rfl⟩
                rw [← hv7] at HV
                obtain ⟨hcw, hzw⟩ := Kd.R_celln (0 : Int) H6.out.was t t0 t1
                obtain ⟨wv, hwv⟩ : ∃ x, x = rdOf 0 was2 t := ⟨_, rfl⟩
                rw [← hwv] at hcw
                have hkl : k < ids.length := by have := HN.out; omega
                have hx7' : ids.getD k 0 = x7 := by rw [hx7, ht]; unfold rdOf; rw [Int.toNat_natCast]
                have hwv' : was2.getD k 0 = wv := by rw [hwv, ht]; unfold rdOf; rw [Int.toNat_natCast]
                have hcmp : wv ≠ 0 → wv = v7 := fun h => by
                  have := HW6.out.2 k hkl (by rw [hwv']; exact h)
                  rw [hwv', hx7'] at this
                  rw [this, hv7]
                have hput := HW6.out.put k hkl
                rw [hx7', ← hv7] at hput
                have HPut := Aside0.mk hput
                have HLaw := Aside0.mk (H6.out.put t v7)
                rw [show t.toNat = k by omega] at HLaw
                have q7 : decide (t < (N : Int)) = true := decide_eq_true t1
                have T1 := Aside0.mk (show t + 1 = ((k + 1 : Nat) : Int) by omega)
                have TB := Aside0.mk (show 0 ≤ t ∧ t < 1000 by have := HNb.out; omega)
                have TK := Aside0.mk (show t.toNat = k by omega)
                have C7 := Aside0.mk c7
                have hw0 : (wv != 0) = false ∨ ((wv != 0) = true ∧ (v7 != wv) = false) := by
                  by_cases e : wv = 0
                  · left; simp [e]
                  · right; exact ⟨by simp [e], by rw [hcmp e]; simp⟩
                rw [← ht]
                clear hrow hx7 hv7 hwv hkl hx7' hwv' hcmp hput ht c7
                replace t0 := eq_true t0
                replace t1 := eq_true t1
                have tb1 := TB.out.1
                have tb2 := TB.out.2
                rcases hw0 with r0 | ⟨r0, r1⟩
                · go_upto_region 43 with (first | (go_at_call 38; refine HV.out.mono ?_; rintro e w9 ⟨rfl, rfl⟩))
                  rw [← TK.out] at HLaw
                  generalize hwX : World.setCell _ _ _ = wX at HLaw ⊢
                  clear hwX hcell hcw hzw q7 r0 t0 t1 HV
                  rw [TK.out] at HLaw
                  go_wp2_with fail
                  go_roundg (N - (k + 1))
                  case measure => have := hk.out; have := C7.out; omega
                  case rel => exact ⟨k + 1, _, ⟨by have := C7.out; omega⟩, by rw [T1.out], HLaw, HPut⟩
                · go_upto_region 43 with (first | (go_at_call 38; refine HV.out.mono ?_; rintro e w9 ⟨rfl, rfl⟩))
                  rw [← TK.out] at HLaw
                  generalize hwX : World.setCell _ _ _ = wX at HLaw ⊢
                  clear hwX hcell hcw hzw q7 r0 r1 t0 t1 HV
                  rw [TK.out] at HLaw
                  go_wp2_with fail
                  go_roundg (N - (k + 1))
                  case measure => have := hk.out; have := C7.out; omega
                  case rel => exact ⟨k + 1, _, ⟨by have := C7.out; omega⟩, by rw [T1.out], HLaw, HPut⟩
              · have q7 : decide ((k : Int) < (N : Int)) = false := by simp; omega
                obtain ⟨t, ht⟩ : ∃ t : Int, t = (k : Int) := ⟨_, rfl⟩
                rw [← ht] at q7 ⊢
                have yb1 := YB.out.1
                have yb2 := YB.out.2
                clear c7 hk ht
                go_wp2_with fail
                go_roundg (nv - (j + 1))
                case measure => have := hj.out; have := C5.out; omega
                case rel => exact ⟨j + 1, L3, was2, ⟨by have := C5.out; omega⟩, by rw [Y1.out], H6, HS3, HW6, HL3⟩
          · have q6 : decide (y < (n1 : Int)) = false := decide_eq_false c6
            have hcb : True := trivial
            clear c6
            have c6 : True := trivial
            go_upto_region 36 with (first | (go_at_call 37; refine HSet.out.mono ?_; rintro e w5 ⟨rfl, hI5, hB5, hK5⟩; have H5 := Aside0.mk (H2.out.call hI5 hB5 hK5); clear hI5 hB5 hK5))
            clear q5 q6 y0 y1 hcell hcb c6 H2 HSet
            have cgt : w5.cell? ⟨gt, 0, none⟩ = some (.slice At N ct) := by rw [HN.out]; exact (blk_cell H5.out.st.cell 0).trans rfl
            go_wp2_with fail
            clear cgt
            go_loopg [131] N (fun kq v131 w' => ∃ (k : Nat) (was2 : List Int), Aside0 (kq + k = N) ∧ v131 = .int .i64 (k : Int) ∧ Aside0 (Law2 w w' g gt (.slice At ids.length ct) (.slice (some adv) vars.length cv) bw cw N L3 ids vars was2) ∧ Aside0 (Was L3 ids was2))
            case atStart => exact ⟨0, was, ⟨by omega⟩, rfl, H5, HW3⟩
            case round =>
              clear H5 HW3
              obtain ⟨k, was2, hk, rfl, H6, HW6⟩ := hrel
              by_cases c7 : k < N
              · obtain ⟨t, ht⟩ : ∃ t : Int, t = (k : Int) := ⟨_, rfl⟩
                have t0 : 0 ≤ t := by omega
                have t1 : t < (N : Int) := by omega
                have hrow := (Kd.R_reads' H6.out.st.things).2.2
                rw [← HN.out] at hrow
                obtain ⟨adt, rfl, hcell⟩ := (Kd.reads_of_C (enc := Value.int .i64) (d := (0 : Int)) (h1 := fun _ => rfl) hrow).at_ t t0 t1
                obtain ⟨x7, hx7⟩ : ∃ x, x = rdOf 0 ids t := ⟨_, rfl⟩
                rw [← hx7] at hcell
                have HV := Aside0.mk (value_calls g _ L3 x7 w wr H6.out.book2)
                obtain ⟨v7, hv7⟩ : ∃ v : Int, v = (valT L3 x7 : Nat) := ⟨_, rfl⟩
                rw [← hv7] at HV
                obtain ⟨hcw, hzw⟩ := Kd.R_celln (0 : Int) H6.out.was t t0 t1
                obtain ⟨wv, hwv⟩ : ∃ x, x = rdOf 0 was2 t := ⟨_, rfl⟩
                rw [← hwv] at hcw
                have hkl : k < ids.length := by have := HN.out; omega
                have hx7' : ids.getD k 0 = x7 := by rw [hx7, ht]; unfold rdOf; rw [Int.toNat_natCast]
                have hwv' : was2.getD k 0 = wv := by rw [hwv, ht]; unfold rdOf; rw [Int.toNat_natCast]
                have hcmp : wv ≠ 0 → wv = v7 := fun h => by
                  have := HW6.out.2 k hkl (by rw [hwv']; exact h)
                  rw [hwv', hx7'] at this
                  rw [this, hv7]
                have hput := HW6.out.put k hkl
                rw [hx7', ← hv7] at hput
                have HPut := Aside0.mk hput
                have HLaw := Aside0.mk (H6.out.put t v7)
                rw [show t.toNat = k by omega] at HLaw
                have q7 : decide (t < (N : Int)) = true := decide_eq_true t1
                have T1 := Aside0.mk (show t + 1 = ((k + 1 : Nat) : Int) by omega)
                have TB := Aside0.mk (show 0 ≤ t ∧ t < 1000 by have := HNb.out; omega)
                have TK := Aside0.mk (show t.toNat = k by omega)
                have C7 := Aside0.mk c7
                have hw0 : (wv != 0) = false ∨ ((wv != 0) = true ∧ (v7 != wv) = false) := by
                  by_cases e : wv = 0
                  · left; simp [e]
                  · right; exact ⟨by simp [e], by rw [hcmp e]; simp⟩
                rw [← ht]
                clear hrow hx7 hv7 hwv hkl hx7' hwv' hcmp hput ht c7
                replace t0 := eq_true t0
                replace t1 := eq_true t1
                have tb1 := TB.out.1
                have tb2 := TB.out.2
                rcases hw0 with r0 | ⟨r0, r1⟩
                · go_upto_region 43 with (first | (go_at_call 38; refine HV.out.mono ?_; rintro e w9 ⟨rfl, rfl⟩))
                  rw [← TK.out] at HLaw
                  generalize hwX : World.setCell _ _ _ = wX at HLaw ⊢
                  clear hwX hcell hcw hzw q7 r0 t0 t1 HV
                  rw [TK.out] at HLaw
                  go_wp2_with fail
                  go_roundg (N - (k + 1))
                  case measure => have := hk.out; have := C7.out; omega
                  case rel => exact ⟨k + 1, _, ⟨by have := C7.out; omega⟩, by rw [T1.out], HLaw, HPut⟩
                · go_upto_region 43 with (first | (go_at_call 38; refine HV.out.mono ?_; rintro e w9 ⟨rfl, rfl⟩))
                  rw [← TK.out] at HLaw
                  generalize hwX : World.setCell _ _ _ = wX at HLaw ⊢
                  clear hwX hcell hcw hzw q7 r0 r1 t0 t1 HV
                  rw [TK.out] at HLaw
                  go_wp2_with fail
                  go_roundg (N - (k + 1))
                  case measure => have := hk.out; have := C7.out; omega
                  case rel => exact ⟨k + 1, _, ⟨by have := C7.out; omega⟩, by rw [T1.out], HLaw, HPut⟩
              · have q7 : decide ((k : Int) < (N : Int)) = false := by simp; omega
                obtain ⟨t, ht⟩ : ∃ t : Int, t = (k : Int) := ⟨_, rfl⟩
                rw [← ht] at q7 ⊢
                have yb1 := YB.out.1
                have yb2 := YB.out.2
                clear c7 hk ht
                go_wp2_with fail
                go_roundg (nv - (j + 1))
                case measure => have := hj.out; have := C5.out; omega
                case rel => exact ⟨j + 1, L3, was2, ⟨by have := C5.out; omega⟩, by rw [Y1.out], H6, HS3, HW6, HL3⟩
        · have hjm : j = vars.length := by have := hj.out; have := HNV.out; omega
          have q5 : decide ((j : Int) < (nv : Int)) = false := by simp; omega
          have hst2 := HSt.out
          rw [hjm, List.drop_length] at hst2
          have HKn := Aside0.mk hst2.known
          have cgt : wr.cell? ⟨gt, 0, none⟩ = some (.slice At N ct) := by rw [HN.out]; exact (blk_cell H2.out.st.cell 0).trans rfl
          obtain ⟨y, hy⟩ : ∃ y : Int, y = (j : Int) := ⟨_, rfl⟩
          rw [← hy] at q5 ⊢
          clear hjm hst2 hy c5 hj HSt HWas
          go_wp2_with fail
          clear cgt q5
          go_loopg [160] N (fun kq v160 w' => ∃ k : Nat, Aside0 (kq + k = N) ∧ v160 = .int .i64 (k : Int) ∧ Aside0 (wr = w'))
          case atStart => exact ⟨0, ⟨by omega⟩, rfl, ⟨rfl⟩⟩
          case round =>
            obtain ⟨k, hk, rfl, hw9⟩ := hrel
            obtain rfl := hw9.out
            by_cases c7 : k < N
            · obtain ⟨t, ht⟩ : ∃ t : Int, t = (k : Int) := ⟨_, rfl⟩
              have t0 : 0 ≤ t := by omega
              have t1 : t < (N : Int) := by omega
              have hrow := (Kd.R_reads' H2.out.st.things).2.2
              rw [← HN.out] at hrow
              obtain ⟨adt, rfl, hcell⟩ := (Kd.reads_of_C (enc := Value.int .i64) (d := (0 : Int)) (h1 := fun _ => rfl) hrow).at_ t t0 t1
              obtain ⟨x, hx⟩ : ∃ x, x = rdOf 0 ids t := ⟨_, rfl⟩
              have hxm : x ∈ ids := by
                rw [hx, ht]
                unfold rdOf
                rw [Int.toNat_natCast, List.getD_eq_getElem?_getD, List.getElem?_eq_getElem (by have := HN.out; omega)]
                exact List.getElem_mem _
              rw [← hx] at hcell
              have HV := Aside0.mk (value_calls g _ L2 x w wr H2.out.book2)
              obtain ⟨vv9, hvv9⟩ : ∃ v : Int, v = (valT L2 x : Nat) := ⟨_, rfl⟩
              have hne : (vv9 == 0) = false := by have := HKn.out x hxm; simp; omega
              rw [← hvv9] at HV
              have q7 : decide (t < (N : Int)) = true := decide_eq_true t1
              have T1 := Aside0.mk (show t + 1 = ((k + 1 : Nat) : Int) by omega)
              have TB := Aside0.mk (show 0 ≤ t ∧ t < 1000 by have := HNb.out; omega)
              have C7 := Aside0.mk c7
              rw [← ht]
              clear hrow hx hxm hvv9 ht c7
              replace t0 := eq_true t0
              replace t1 := eq_true t1
              have tb1 := TB.out.1
              have tb2 := TB.out.2
              go_wp2_with (first | (go_at_call 38; refine HV.out.mono ?_; rintro e w9 ⟨rfl, rfl⟩))
              go_roundg (N - (k + 1))
              case measure => have := hk.out; have := C7.out; omega
              case rel => exact ⟨k + 1, ⟨by have := C7.out; omega⟩, by rw [T1.out], ⟨rfl⟩⟩
            · have q7 : decide ((k : Int) < (N : Int)) = false := by simp; omega
              obtain ⟨t, ht⟩ : ∃ t : Int, t = (k : Int) := ⟨_, rfl⟩
              rw [← ht] at q7 ⊢
              clear c7 hk ht
              go_wp2_with fail
              go_ret
              exact ⟨rfl, H2.out.st.below⟩

theorem stays_walk (a0 : Option Addr) (len0 cap0 : Nat) (z0 : List S45) (a1 : Option Addr) (len1 cap1 : Nat) (z1 : List Bool) (w : World) (w0 : Kd.C k45 w a0 len0 z0) (w1 : ReadsOf Value.bool false w a1 len1 z1) :
    Calls Try.prog 9 #[.slice a0 len0 cap0, .slice a1 len1 cap1] w fun e w' => e = .returned (.bool true) ∧ Below w.heap.size w w' := by
  by_cases h : 40 < len0 ∨ (len0 ≤ 40 ∧ 100 < len1)
  · exact stays_out _ _ _ _ _ _ w h
  · exact stays_main _ _ _ z0 _ _ _ z1 w w0 w1 (by omega) (by omega)

end Go.Proofs.Ytjfoppmpiklfiab.BookW
