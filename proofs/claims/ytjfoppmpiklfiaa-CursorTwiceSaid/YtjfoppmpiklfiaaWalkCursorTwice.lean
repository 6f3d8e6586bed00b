/- Chunks that are cut again, and joined, are the bytes; a strip of chunks is one of the bytes. Conditions: none. -/
import Derived.Test.YtjfoppmpiklfiaaPCursorCutsx1
import Derived.Test.YtjfoppmpiklfiaaCutsPure
import Derived.Test.YtjfoppmpiklfiaaStrip
namespace Go.Proofs.Ytjfoppmpiklfiaa.TwiceW
open Go.RowKit Go.Proofs.YtjfoppmpiklfiaaW.PrintWords Go.Proofs.YtjfoppmpiklfiaaW.PrintLast Go.Proofs.YtjfoppmpiklfiaaW.PrintMore Go.Proofs.Ytjfoppmpiklfiaa.PCursorCuts Go.Proofs.Ytjfoppmpiklfiaa.CutsPure Go.Proofs.Ytjfoppmpiklfiaa.StripW
set_option linter.unusedVariables false
set_option linter.unusedSimpArgs false
/-- Neither the strip's block nor its bytes'. -/
def Off (g : Nat) (v : Value) (k : Nat) : Prop := k ≠ g ∧ some k ≠ v.ownBlock
theorem F_add {α : Type} {d : Kd α} {W W' : World} {g : Nat} {v v' : Value} {A : Option Addr} {n : Nat} {xs : List α} (h : Kd.F d W (Off g v) A n xs) (hk : KeepP g v W W') (hat : v'.ownBlock = v.ownBlock ∨ ∃ b, v'.ownBlock = some b ∧ W.heap.size ≤ b) : Kd.F d W' (Off g v') A n xs := by
  refine Kd.F_mono (Kd.F_step (Kd.F_bound h) (fun k hk1 hlt => hk.2 k hlt hk1.1.1 (fun he => hk1.1.2 he.symm))) (fun k hk1 => ⟨hk1.1.1, fun he => ?_⟩)
  rcases hat with h1 | ⟨b, h1, h2⟩
  · exact hk1.1.2 (by rw [← h1]; exact he)
  · rw [h1] at he
    injection he with he
    have := hk1.2
    omega
theorem F_drawn {α : Type} {d : Kd α} {W : World} {g : Nat} {v : Value} {A : Option Addr} {n : Nat} {xs : List α} (h : Kd.F d W (Off g v) A n xs) : Kd.F d W.drew (Off g v) A n xs := Kd.F_drew h
theorem F_fresh {α : Type} {d : Kd α} {e : TypeId} {w0 W W' : World} {g : Nat} {a : Int} {v : Value} {l : List Int} {A : Option Addr} {n c : Nat} {xs : List α} {ok : Nat → Prop} (hI : IsT w0 W g a v l) (h : Kd.S d e W' W.heap.size ok (.slice A n c) xs) (ho : ∀ k, ok k → W.heap.size ≤ k) : Kd.F d W' (Off g v) A n xs := by
  refine Kd.F_mono (Kd.S_F h) (fun k hk => ⟨?_, fun he => ?_⟩)
  · have := ho k hk
    have := blk_lt hI.1
    omega
  · have h1 := ho k hk
    have h2 := own_lt hI.2.1 k he.symm
    omega
theorem cuts_sub : ∀ (ss b : List Int), ∀ c ∈ cuts b ss, c.length ≤ b.length
  | [], b, c, h => by
    unfold cuts at h
    split at h
    · simp at h; subst h; exact Nat.le_refl _
    · cases h
  | s :: ss, b, c, h => by
    unfold cuts at h
    rcases List.mem_cons.1 h with rfl | h
    · simp; omega
    · have := cuts_sub ss _ c h
      rw [List.length_drop] at this
      omega
theorem take_flat (ls : List (List Int)) (i : Nat) (h : i < ls.length) : (ls.take (i + 1)).flatten = (ls.take i).flatten ++ ls.getD i [] := by
  rw [List.take_succ_eq_append_getElem h, List.flatten_append, List.getD_eq_getElem?_getD, List.getElem?_eq_getElem h]
  simp
theorem flat_le (ls : List (List Int)) (i : Nat) : (ls.take i).flatten.length ≤ ls.flatten.length := by
  have : ls.flatten = (ls.take i).flatten ++ (ls.drop i).flatten := by rw [← List.flatten_append, List.take_append_drop]
  rw [this, List.length_append]
  omega
theorem getD_mem {ls : List (List Int)} {i : Nat} (h : i < ls.length) : ls.getD i [] ∈ ls := by
  rw [List.getD_eq_getElem?_getD, List.getElem?_eq_getElem h]
  exact List.getElem_mem _
theorem at_F {W : World} {ok : Nat → Prop} {A : Option Addr} {n : Nat} {xs : List (List Int)} (h : Kd.F (Kd.slice 5 (Kd.int .u8)) W ok A n xs) (z : Int) (h0 : 0 ≤ z) (h1 : z < n) :
    ∃ ad A1 c1, A = some ad ∧ W.cell? (ad.add z.toNat) = some (.slice A1 (xs.getD z.toNat []).length c1) ∧ (xs.getD z.toNat []).length ≤ c1 ∧ Kd.F (Kd.int .u8) W ok A1 (xs.getD z.toNat []).length (xs.getD z.toNat []) := by
  obtain ⟨ad, cs, e, hcl, hK, hcell, _⟩ := Kd.F_get h ([] : List Int) z h0 h1
  obtain ⟨A1, c1, rfl, hle, hF⟩ := Kd.FK_slice_open hK
  refine ⟨ad, A1, c1, e, ?_, hle, hF⟩
  have h := hcell 0 _ rfl
  rw [show z.toNat * (Kd.slice 5 (Kd.int .u8)).sz + 0 = z.toNat from by show z.toNat * 1 + 0 = _; omega] at h
  exact h
set_option maxHeartbeats 8000000 in
set_option maxRecDepth 100000 in
theorem twice_main (A0 : Option Addr) (n0 c0 : Nat) (b : List Int) (A1 : Option Addr) (n1 c1 : Nat) (ss : List Int) (A2 : Option Addr) (n2 c2 : Nat) (ag : List Int) (w : World)
    (hr0 : Kd.C (Kd.int .u8) w A0 n0 b) (hr1 : Kd.C (Kd.int .i64) w A1 n1 ss) (hr2 : Kd.C (Kd.int .i64) w A2 n2 ag) (hc0 : n0 ≤ c0) (hc1 : n1 ≤ c1) (hc2 : n2 ≤ c2) (h0 : n0 ≤ 1000) (h1 : n1 ≤ 100) (h2 : n2 ≤ 100) :
    Calls Try.prog 5 #[.slice A0 n0 c0, .slice A1 n1 c1, .slice A2 n2 c2] w fun e w' => e = .returned (.bool true) ∧ Below w.heap.size w w' := by
  obtain rfl : b.length = n0 := hr0.1
  obtain rfl : ss.length = n1 := hr1.1
  obtain rfl : ag.length = n2 := hr2.1
  have q0 : decide ((b.length : Int) > 1000) = false := by simp; omega
  have q1 : decide ((ss.length : Int) > 100) = false := by simp; omega
  have q2 : decide ((ag.length : Int) > 100) = false := by simp; omega
  have HR0 := Aside0.mk hr0
  have HR1 := Aside0.mk hr1
  have HR2 := Aside0.mk hr2
  have HC := Aside0.mk (And.intro hc0 (And.intro hc1 hc2))
  have HL := Aside0.mk (And.intro h0 (And.intro h1 h2))
  clear hr0 hr1 hr2 hc0 hc1 hc2 h0 h1 h2
  obtain ⟨C, hC⟩ : ∃ C, C = cuts b ss := ⟨_, rfl⟩
  have HCf := Aside0.mk (show cursor_Cut.f 1000 b ss = some C by rw [hC]; have := HL.out; exact cut_f b ss (by omega) (by omega) 1000 (by omega))
  have HCl := Aside0.mk (show C.length ≤ 101 by have := cuts_len ss b; have := HL.out; rw [hC]; omega)
  have HCs := Aside0.mk (show ∀ c ∈ C, c.length ≤ 1000 by intro c hc; have := cuts_sub ss b c (by rw [← hC]; exact hc); have := HL.out; omega)
  have HCb := Aside0.mk (show C.flatten = b by rw [hC, cuts_flat])
  clear hC
  have HB := Aside0.mk (Below.refl w.heap.size w)
  go_enter Try.func5, Try.ntmps5
  go_upto_region 3 with (first | (go_at_call 22; refine (rifflelaw03_cursorAlive.calls true w rfl).mono ?_; rintro e w1 ⟨rfl, hb⟩; have n0_ := Aside0.mk (below_step HB.out hb); clear HB; have HB := n0_; clear n0_ hb))
  go_upto_region 6 with (first | (go_at_call 23; refine (new_calls 0 w w1 HB.out (by decide)).mono ?_; rintro e w2 ⟨rfl, hI, hb⟩; have HI := Aside0.mk hI; have n0_ := Aside0.mk (below_step HB.out hb); clear HB; have HB := n0_; clear n0_ hb hI))
  generalize hgg : w1.heap.size = g at HI ⊢
  clear hgg q0 q1 q2
  go_upto_region 9 with (fail)
  have hcut := (cursor_Cut.calls 1000 (fun k => k < w2.heap.size) A0 c0 b A1 c1 ss C w2 (Kd.V_mk HC.out.1 (Kd.C_F (Kd.heap_int .u8) (Kd.C_below HR0.out HB.out))) (Kd.C_below HR1.out HB.out) HC.out.2.1 HCf.out)
  have HCut := Aside0.mk hcut
  clear hcut
  go_wp2_with (first | (go_at_call 24; refine HCut.out.mono ?_; rintro e w3 ⟨v0, rfl, hS, hb⟩; obtain ⟨AC, cC, rfl⟩ := Kd.S_slice hS; have HF := Aside0.mk (F_fresh HI.out hS (fun k hk => hk)); have n0_ := Aside0.mk (below_step HB.out hb); have n1_ := Aside0.mk (HI.out.below hb); clear HB HI; have HB := n0_; have HI := n1_; clear n0_ n1_ hb hS HCut))
  generalize hnC : C.length = nC at HF ⊢
  have HnC := Aside0.mk hnC
  clear hnC
  go_loopg [8, 37] nC (fun kq v8 v37 w' => ∃ (i : Nat) (v : Value) (x : Int), Aside0 (kq + i = nC) ∧ v8 = .int .i64 x ∧ Aside0 (x = ((C.take i).flatten.length : Nat)) ∧ v37 = .int .i64 (i : Int) ∧ Aside0 (IsT w w' g 0 v (C.take i).flatten) ∧ Aside0 (Kd.F (Kd.slice 5 (Kd.int .u8)) w' (Off g v) AC nC C) ∧ Aside0 (Below w.heap.size w w'))
  case atStart => exact ⟨0, _, 0, ⟨by omega⟩, rfl, ⟨by simp⟩, rfl, ⟨by simpa using HI.out⟩, HF, HB⟩
  case round =>
    clear HI HF HB
    obtain ⟨i, v, x, hi, rfl, hx, rfl, HI, HF, HB⟩ := hrel
    by_cases c3 : i < nC
    · obtain ⟨z, hz⟩ : ∃ z : Int, z = (i : Int) := ⟨_, rfl⟩
      have p1 : 0 ≤ z := by omega
      have p2 : z < (nC : Int) := by omega
      obtain ⟨ad, A1, c1, rfl, hcell, hle, hF1⟩ := at_F HF.out z p1 p2
      have hzi : z.toNat = i := by omega
      obtain ⟨ch, hch⟩ : ∃ ch, ch = C.getD i [] := ⟨_, rfl⟩
      have hcm : ch ∈ C := by rw [hch]; exact getD_mem (by rw [HnC.out]; exact c3)
      have hcl : ch.length ≤ 1000 := HCs.out ch hcm
      rw [show C.getD z.toNat [] = ch by rw [hzi, hch]] at hcell hle hF1
      obtain ⟨D, hD⟩ : ∃ D, D = cuts ch ag := ⟨_, rfl⟩
      have HDf := Aside0.mk (show cursor_Cut.f 1000 ch ag = some D by rw [hD]; have := HL.out; exact cut_f ch ag (by omega) (by omega) 1000 (by omega))
      have HDl := Aside0.mk (show D.length ≤ 101 by have := cuts_len ag ch; have := HL.out; rw [hD]; omega)
      have HDb := Aside0.mk (show D.flatten = ch by rw [hD, cuts_flat])
      have HNext := Aside0.mk (show (C.take (i + 1)).flatten = (C.take i).flatten ++ ch by rw [hch]; exact take_flat C i (by rw [HnC.out]; exact c3))
      obtain ⟨P, hP⟩ : ∃ P, P = (C.take i).flatten := ⟨_, rfl⟩
      rw [← hP] at hx HI HNext
      have HPl := Aside0.mk (show P.length ≤ 1000 by have h1 := flat_le C i; rw [HCb.out, ← hP] at h1; have := HL.out; omega)
      have HF1 := Aside0.mk hF1
      have HLe := Aside0.mk hle
      have HChl := Aside0.mk hcl
      have HZ := Aside0.mk hz
      have C3 := Aside0.mk c3
      obtain ⟨m, hm⟩ : ∃ m, m = ch.length := ⟨_, rfl⟩
      have hcut := (cursor_Cut.calls 1000 (fun k => Off g v k) A1 c1 ch A2 c2 ag D wr (Kd.V_mk hle hF1) (Kd.C_below HR2.out HB.out) HC.out.2.2 HDf.out)
      rw [← hm] at hcell hcut
      have HCut := Aside0.mk hcut
      have HM := Aside0.mk hm
      have q3 : decide (z < (nC : Int)) = true := decide_eq_true p2
      rw [← hz]
      clear hcut hF1 hle hcl hcm hch hzi hz c3 hD hP hm
      replace p1 := eq_true p1
      replace p2 := eq_true p2
      go_wp2_with (first | (go_at_call 24; refine HCut.out.mono ?_; rintro e w4 ⟨v1, rfl, hS, hb⟩; obtain ⟨AD, cD, rfl⟩ := Kd.S_slice hS; have HFD := Aside0.mk (F_fresh HI.out hS (fun k hk => hk)); have n0_ := Aside0.mk (below_step HB.out hb); have n1_ := Aside0.mk (HI.out.below hb); have n2_ := Aside0.mk (Kd.F_below HF.out hb); clear HB HI HF; have HB := n0_; have HI := n1_; have HF := n2_; clear n0_ n1_ n2_ hb hS HCut))
      generalize hnD : D.length = nD at HFD ⊢
      have HnD := Aside0.mk hnD
      clear hnD p1 p2 q3 hcell
      go_loopg [8, 45] nD (fun kq v8 v45 w' => ∃ (j : Nat) (u : Value) (y : Int), Aside0 (kq + j = nD) ∧ v8 = .int .i64 y ∧ Aside0 (y = ((P ++ (D.take j).flatten).length : Nat)) ∧ v45 = .int .i64 (j : Int) ∧ Aside0 (IsT w w' g 0 u (P ++ (D.take j).flatten)) ∧ Aside0 (Kd.F (Kd.slice 5 (Kd.int .u8)) w' (Off g u) (some ad) nC C) ∧ Aside0 (Kd.F (Kd.slice 5 (Kd.int .u8)) w' (Off g u) AD nD D) ∧ Aside0 (Below w.heap.size w w'))
      case atStart => exact ⟨0, v, x, ⟨by omega⟩, rfl, ⟨by simpa using hx.out⟩, rfl, ⟨by simpa using HI.out⟩, HF, HFD, HB⟩
      case round =>
        clear HI HF HB HFD hx HF1 HLe
        obtain ⟨j, u, y, hj, rfl, hy, rfl, HI, HF, HFD, HB⟩ := hrel
        by_cases c5 : j < nD
        · obtain ⟨t, ht⟩ : ∃ t : Int, t = (j : Int) := ⟨_, rfl⟩
          have p1 : 0 ≤ t := by omega
          have p2 : t < (nD : Int) := by omega
          obtain ⟨ad, A3, c3, rfl, hcell, hle, hF1⟩ := at_F HFD.out t p1 p2
          have htj : t.toNat = j := by omega
          obtain ⟨d, hd⟩ : ∃ d, d = D.getD j [] := ⟨_, rfl⟩
          rw [show D.getD t.toNat [] = d by rw [htj, hd]] at hcell hle hF1
          have hnx : (D.take (j + 1)).flatten = (D.take j).flatten ++ d := by rw [hd]; exact take_flat D j (by rw [HnD.out]; exact c5)
          have HNx := Aside0.mk (show P ++ (D.take (j + 1)).flatten = (P ++ (D.take j).flatten) ++ d by rw [hnx, List.append_assoc])
          obtain ⟨Q, hQ⟩ : ∃ Q, Q = P ++ (D.take j).flatten := ⟨_, rfl⟩
          have hql : (Q ++ d).length ≤ 2000 := by
            rw [hQ, ← HNx.out, List.length_append]
            have h1 := flat_le D (j + 1)
            rw [HDb.out] at h1
            have := HPl.out
            have := HChl.out
            omega
          rw [← hQ] at hy HI HNx
          obtain ⟨m2, hm2⟩ : ∃ m2, m2 = d.length := ⟨_, rfl⟩
          rw [List.length_append, ← hm2] at hql
          rw [← hm2] at hcell hF1
          have hadd := add_calls g 0 u Q d A3 m2 c3 w wr HI.out HB.out (Kd.F_now hF1) (by omega)
          have HAdd := Aside0.mk hadd
          have y0 : 0 ≤ y := by have := hy.out; omega
          have y1 : y ≤ 2000 := by have := hy.out; omega
          have y2 : m2 ≤ 2000 := by omega
          have HY := Aside0.mk (show y + (m2 : Int) = ((Q ++ d).length : Nat) by have := hy.out; rw [List.length_append, ← hm2]; omega)
          have T1 := Aside0.mk (show t + 1 = ((j + 1 : Nat) : Int) by omega)
          have t1 : t < 1000 := by have := HnD.out; have := HDl.out; omega
          have C5 := Aside0.mk c5
          have q3 : decide (t < (nD : Int)) = true := decide_eq_true p2
          rw [← ht]
          clear hadd hF1 hle htj hd hnx hQ hql hm2 ht c5
          have P1 := Aside0.mk p1
          replace p1 := eq_true p1
          replace p2 := eq_true p2
          go_upto_region 16 with (first | (go_at_call 25; refine HAdd.out.mono ?_; rintro e w5 ⟨rfl, u', hI, hb, hk, hat⟩; have n0_ := Aside0.mk (F_add HF.out hk hat); have n1_ := Aside0.mk (F_add HFD.out hk hat); clear HF HFD HB HI HAdd; have HF := n0_; have HFD := n1_; have HI := Aside0.mk hI; have HB := Aside0.mk hb; clear n0_ n1_ hI hb hk hat))
          clear p1 p2 q3 hcell
          have p1 := P1.out
          go_wp2_with fail
          go_roundg (nD - (j + 1))
          case measure => have := hj.out; have := C5.out; omega
          case rel => exact ⟨j + 1, u', y + m2, ⟨by have := C5.out; omega⟩, rfl, ⟨by rw [HNx.out]; exact HY.out⟩, by rw [T1.out], ⟨by rw [HNx.out]; exact HI.out⟩, HF, HFD, HB⟩
        · have hjn : j = D.length := by have := hj.out; have := HnD.out; omega
          have hall : (D.take j).flatten = ch := by rw [hjn, List.take_length, HDb.out]
          rw [hall] at hy HI
          have hto := to_calls g 0 u (P ++ ch) w wr HI.out (by omega) (by omega) (by rw [List.length_append]; have := HPl.out; have := HChl.out; omega) y (by have := hy.out; omega)
          have HTo := Aside0.mk hto
          have q3 : decide ((j : Int) < (nD : Int)) = false := by simp; omega
          obtain ⟨t, ht⟩ : ∃ t : Int, t = (j : Int) := ⟨_, rfl⟩
          have HX := Aside0.mk (show y = ((C.take (i + 1)).flatten.length : Nat) by rw [HNext.out]; exact hy.out)
          have HI2 := Aside0.mk (show IsT w wr g 0 u (C.take (i + 1)).flatten by rw [HNext.out]; exact HI.out)
          have Z1 := Aside0.mk (show z + 1 = ((i + 1 : Nat) : Int) by have := HZ.out; omega)
          have z0 : 0 ≤ z := by have := HZ.out; omega
          have z1 : z < 1000 := by have := HZ.out; have := C3.out; have := HnC.out; have := HCl.out; omega
          have yy : (y != y) = false := by simp
          rw [← ht] at q3 ⊢
          clear hto hjn hall c5 ht hj HI hy
          go_wp2_with (first | (go_at_call 26; refine HTo.out.mono ?_; rintro e w6 ⟨rfl, rfl⟩))
          go_roundg (nC - (i + 1))
          case measure => have := hi.out; have := C3.out; omega
          case rel => exact ⟨i + 1, u, y, ⟨by have := C3.out; omega⟩, rfl, HX, by rw [Z1.out], ⟨HI2.out.drew⟩, ⟨F_drawn HF.out⟩, ⟨below_drew HB.out⟩⟩
    · have hin : i = C.length := by have := hi.out; have := HnC.out; omega
      have hall : (C.take i).flatten = b := by rw [hin, List.take_length, HCb.out]
      rw [hall] at hx HI
      have hbl := HL.out.1
      have hget := get_all g v b w wr HI.out (by omega) (b.length : Int) rfl
      have HGet := Aside0.mk hget
      obtain ⟨z, hz⟩ : ∃ z : Int, z = (i : Int) := ⟨_, rfl⟩
      have q3 : decide (z < (nC : Int)) = false := by simp; omega
      have HBL := Aside0.mk hbl
      rw [← hz]
      clear hget hin hall c3 hz hi hx hbl HF
      go_upto_region 22 with (first | (go_at_call 27; refine HGet.out.mono ?_; rintro e w5 ⟨rfl, hd⟩; have I5 := Aside0.mk (HI.out.below hd.below); have n0_ := Aside0.mk (below_step HB.out hd.below); clear HB HI HGet hd; have HB := n0_; clear n0_))
      have hcv := Kd.C_string (P := Try.prog) (c := c0) Try.underlying22 Try.underlying5 Try.underlying9 (Kd.C_below HR0.out HB.out)
      have HDrop := Aside0.mk (drop_calls g 0 v b b.length w w5 I5.out HB.out (by omega) (by omega) (by have := HBL.out; omega) (Nat.le_refl _) (b.length : Int) (by omega))
      clear I5 q3
      go_wp2_with (first | (go_at_call 28; refine HDrop.out.mono ?_; rintro e w7 ⟨rfl, v7, hI, hb, -⟩; have HFrom := Aside0.mk (from_calls g _ v7 _ w w7 hI); have HLen := Aside0.mk (len_calls g _ v7 _ w w7 hI); have B7 := Aside0.mk hb; clear hI hb HDrop) | (go_at_call 29; refine HLen.out.mono ?_; rintro e w8 ⟨rfl, rfl⟩) | (go_at_call 30; refine HFrom.out.mono ?_; rintro e w8 ⟨rfl, rfl⟩))
      go_ret
      exact ⟨by simp, B7.out⟩
set_option maxHeartbeats 4000000 in
set_option maxRecDepth 100000 in
theorem twice_out (A0 : Option Addr) (n0 c0 : Nat) (A1 : Option Addr) (n1 c1 : Nat) (A2 : Option Addr) (n2 c2 : Nat) (w : World) (h : 1000 < n0 ∨ (n0 ≤ 1000 ∧ 100 < n1) ∨ (n0 ≤ 1000 ∧ n1 ≤ 100 ∧ 100 < n2)) :
    Calls Try.prog 5 #[.slice A0 n0 c0, .slice A1 n1 c1, .slice A2 n2 c2] w fun e w' => e = .returned (.bool true) ∧ Below w.heap.size w w' := by
  have HB := Aside0.mk (Below.refl w.heap.size w)
  rcases h with h | ⟨h, h1⟩ | ⟨h, h1, h2⟩
  · have q0 : decide ((n0 : Int) > 1000) = true := by simp; omega
    clear h
    go_enter Try.func5, Try.ntmps5
    go_wp2_with (first | (go_at_call 22; refine (rifflelaw03_cursorAlive.calls true w rfl).mono ?_; rintro e w1 ⟨rfl, hb⟩; have n0_ := Aside0.mk (below_step HB.out hb); clear HB; have HB := n0_; clear n0_ hb))
    go_ret
    exact ⟨rfl, HB.out⟩
  · have q0 : decide ((n0 : Int) > 1000) = false := by simp; omega
    have q1 : decide ((n1 : Int) > 100) = true := by simp; omega
    clear h h1
    go_enter Try.func5, Try.ntmps5
    go_wp2_with (first | (go_at_call 22; refine (rifflelaw03_cursorAlive.calls true w rfl).mono ?_; rintro e w1 ⟨rfl, hb⟩; have n0_ := Aside0.mk (below_step HB.out hb); clear HB; have HB := n0_; clear n0_ hb))
    go_ret
    exact ⟨rfl, HB.out⟩
  · have q0 : decide ((n0 : Int) > 1000) = false := by simp; omega
    have q1 : decide ((n1 : Int) > 100) = false := by simp; omega
    have q2 : decide ((n2 : Int) > 100) = true := by simp; omega
    clear h h1 h2
    go_enter Try.func5, Try.ntmps5
    go_wp2_with (first | (go_at_call 22; refine (rifflelaw03_cursorAlive.calls true w rfl).mono ?_; rintro e w1 ⟨rfl, hb⟩; have n0_ := Aside0.mk (below_step HB.out hb); clear HB; have HB := n0_; clear n0_ hb))
    go_ret
    exact ⟨rfl, HB.out⟩
def IsRow (k : IntKind) (w : World) (a : Option Addr) (len cap : Nat) (zs : List Int) : Prop :=
  (a = none ∧ len = 0 ∧ cap = 0 ∧ zs = []) ∨
  ∃ x, a = some x ∧ len ≤ cap ∧ cap ≤ maxLen ∧ zs.length = cap ∧ (∀ i, i < zs.length → w.cell? (x.add i) = some (.int k (zs.getD i 0))) ∧ ∀ n ∈ zs, (Lit.int k n).wf = true
theorem twice_walk (a0 : Option Addr) (len0 cap0 : Nat) (z0 : List Int) (a1 : Option Addr) (len1 cap1 : Nat) (z1 : List Int) (a2 : Option Addr) (len2 cap2 : Nat) (z2 : List Int) (w : World)
    (w0 : IsRow .u8 w a0 len0 cap0 z0) (y0 : len0 * 1 ≤ 140737488351232) (w1 : IsRow .i64 w a1 len1 cap1 z1) (y1 : len1 * 8 ≤ 140737488351232) (w2 : IsRow .i64 w a2 len2 cap2 z2) (y2 : len2 * 8 ≤ 140737488351232) :
    Calls Try.prog 5 #[.slice a0 len0 cap0, .slice a1 len1 cap1, .slice a2 len2 cap2] w fun e w' => e = .returned (.bool true) ∧ Below w.heap.size w w' := by
  by_cases h : 1000 < len0 ∨ (len0 ≤ 1000 ∧ 100 < len1) ∨ (len0 ≤ 1000 ∧ len1 ≤ 100 ∧ 100 < len2)
  · exact twice_out _ _ _ _ _ _ _ _ _ w h
  · obtain ⟨l0, rfl, hr0, _, _, hc0⟩ := ReadsInt.ofRowC w0
    obtain ⟨l1, rfl, hr1, _, _, hc1⟩ := ReadsInt.ofRowC w1
    obtain ⟨l2, rfl, hr2, _, _, hc2⟩ := ReadsInt.ofRowC w2
    exact twice_main _ _ _ l0 _ _ _ l1 _ _ _ l2 w (Kd.C_of_reads (d := (0 : Int)) (h1 := fun _ => rfl) hr0) (Kd.C_of_reads (d := (0 : Int)) (h1 := fun _ => rfl) hr1) (Kd.C_of_reads (d := (0 : Int)) (h1 := fun _ => rfl) hr2) hc0 hc1 hc2 (by omega) (by omega) (by omega)
end Go.Proofs.Ytjfoppmpiklfiaa.TwiceW
