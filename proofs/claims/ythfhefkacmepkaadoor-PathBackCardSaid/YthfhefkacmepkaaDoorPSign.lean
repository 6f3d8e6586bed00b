/- riffleref13.sign, walked. Conditions: a text of at most 2^40 bytes that is not empty. -/
import Derived.Test.YthfhefkacmepkaaDoorWhole
import Derived.Test.YthfhefkacmepkaaDoorPPathPutsx5
import Derived.Laws.IdiomStrings
import Derived.Test.YthfhefkacmepkaaDoorPutW
import Derived.IntWalk
namespace Go.Proofs.YthfhefkacmepkaaDoor.PS
open Go.RowKit Go.Proofs.YthfhefkacmepkaaDoorW.PrintWords Go.Proofs.YthfhefkacmepkaaDoorW.PrintLast Go.Proofs.YthfhefkacmepkaaDoorW.PrintMore
open Go.Proofs.YthfhefkacmepkaaDoor.PPathPuts Go.Proofs.YthfhefkacmepkaaDoor.Beg Go.Proofs.YthfhefkacmepkaaDoor.Bld
open Go.Proofs.YthfhefkacmepkaaDoor.Num (L L_len L_range)
attribute [local go_sem] max2_int min2_int max_two min_two max_three min_three max_four min_four
set_option linter.unusedVariables false
set_option linter.unusedSimpArgs false
theorem beg_calls (t : ByteArray) (w : World) : Calls Tryd.prog 36 #[.string t] w fun e w' => e = .returned (.tuple #[.bool (beg (L t)).1, .bool (beg (L t)).2.1, .int .i64 (beg (L t)).2.2]) ∧ Below w.heap.size w w' :=
  riffleref02_Begins.calls 40 t _ _ _ w (begins_eq 40 (by omega) t)
def lF : List Int := [8, 9, 10, 12, 13, 39, 92]
def lT : List Int := [98, 116, 110, 102, 114, 39, 92]
def cF : Array Value := #[.int .u8 8, .int .u8 9, .int .u8 10, .int .u8 12, .int .u8 13, .int .u8 39, .int .u8 92]
def cT : Array Value := #[.int .u8 98, .int .u8 116, .int .u8 110, .int .u8 102, .int .u8 114, .int .u8 39, .int .u8 92]
set_option maxHeartbeats 8000000 in
set_option maxRecDepth 100000 in
theorem letters_calls (w : World) : Calls Tryd.prog 41 #[] w fun e w' => e = .returned (.tuple #[.slice (some ⟨w.heap.size, 0, none⟩) 7 7, .slice (some ⟨w.heap.size + 1, 0, none⟩) 7 7]) ∧ w'.heap[w.heap.size]? = some (.cells cF 5 (0, 0)) ∧ w'.heap[w.heap.size + 1]? = some (.cells cT 5 (0, 0)) ∧ Below w.heap.size w w' := by
  go_enter Tryd.func41, Tryd.ntmps41
  go_wp2
  go_ret2
  refine ⟨?_, ?_, ?_, below_alloc (below_alloc (Below.refl _ _) _) _⟩
  · simp
  · rw [Lib.alloc_old _ _ _ (by simp)]; exact heap_alloc_new w _
  · have := heap_alloc_new (w.alloc (.cells cF 5)) (.cells cT 5)
    simpa [cF, cT] using this
theorem rlower_calls (k : Nat) (hk : k < 16) (w : World) : Calls Tryd.prog 42 #[.int .i64 (k : Int)] w fun e w' => e = .returned (.int .u8 ((hexOf k).toNat : Int)) ∧ Below w.heap.size w w' := by
  refine (riffleref01_Lower.calls 3 (k : Int) ((hexOf k).toNat : Int) w ?_).mono (fun e w' h => ⟨h.1, ?_⟩)
  · have : ∀ k : Fin 16, riffleref01_Lower.f 3 ((k.val : Nat) : Int) = some ((hexOf k.val).toNat : Int) := by decide +kernel
    exact this ⟨k, hk⟩
  · obtain ⟨n, rfl⟩ := h.2
    exact pw_below_drewN (Below.refl _ _) n
/-- The bytes of v's cells, to be read. -/
def Reads (W : World) (v : Value) (bs : List UInt8) : Prop := ∃ ad cap, v = .slice (some ad) bs.length cap ∧ ∀ (j : Nat) u, (Lib.byteCells bs)[j]? = some u → W.cell? (ad.add j) = some u
def pf (c : Int) : List Int → List Int → Option Int
  | x :: xs, y :: ys => if c = x then some y else pf c xs ys
  | _, _ => none
def sgn (t : ByteArray) : List UInt8 × Nat :=
  let N := lenOf (L t)
  if N = 0 then ([239, 191, 189], 1)
  else if N = 1 then (match pf (bt t 0) lF lT with
    | some y => ([92, y.toNat.toUInt8], 1)
    | none => if bt t 0 < 32 then ([92, 117, 48, 48, hexOf ((bt t 0).toNat / 16), hexOf ((bt t 0).toNat % 16)], 1) else ((t.extract 0 1).data.toList, 1))
  else ((t.extract 0 N).data.toList, N)
theorem reads_lit (W : World) (bs : List UInt8) (cs : Array Value) (h : cs.toList = Lib.byteCells bs) (n : Nat) (hn : n = bs.length) : Reads (W.alloc (.cells cs 5)) (.slice (some ⟨W.heap.size, 0, none⟩) n n) bs := by
  subst hn
  refine ⟨_, _, rfl, fun j u hj => ?_⟩
  rw [show (⟨W.heap.size, 0, none⟩ : Addr).add j = ⟨W.heap.size, j, none⟩ by cases j <;> simp [Addr.add]]
  refine (blk_cell (heap_alloc_new W _) j).trans ?_
  rw [← h, Array.getElem?_toList] at hj
  exact hj
theorem reads_conv (W : World) (s : ByteArray) (cap n : Nat) (o : Nat × Nat) (hn : s.size = n) : Reads (W.alloc (.cells (bytesRow s cap) 5 o)) (.slice (some ⟨W.heap.size, 0, none⟩) n cap) s.data.toList := by
  subst hn
  refine ⟨⟨W.heap.size, 0, none⟩, cap, rfl, fun j u hj => ?_⟩
  rw [show (⟨W.heap.size, 0, none⟩ : Addr).add j = ⟨W.heap.size, j, none⟩ by cases j <;> simp [Addr.add]]
  rw [World.cell?_alloc_mark]
  have hlt : j < s.data.size := by
    have := (List.getElem?_eq_some_iff.1 hj).1
    simpa [Lib.byteCells] using this
  rw [bytesRow_at s cap j hlt]
  have : (Lib.byteCells s.data.toList)[j]? = some (.int .u8 (s.data[j].toNat : Int)) := by simp [Lib.byteCells]; exact ⟨s.data[j], Array.getElem?_eq_getElem hlt, rfl⟩
  rw [this] at hj
  exact hj
theorem toByte (E : Int) (h0 : 0 ≤ E) (h1 : E < 256) : ((E.toNat.toUInt8).toNat : Int) = E := by
  rw [show (E.toNat.toUInt8).toNat = E.toNat % 256 from UInt8.toNat_ofNat']
  omega
theorem ext_size (s : ByteArray) (m : Nat) (h : m ≤ s.size) : (s.extract 0 m).size = m := by
  rw [ByteArray.size_extract]; omega
theorem cells_e (E : Int) (h0 : 0 ≤ E) (h1 : E < 256) : [Value.int .u8 92, .int .u8 E] = Lib.byteCells [92, E.toNat.toUInt8] := by
  have h := toByte E h0 h1
  show _ = [Value.int .u8 92, Value.int .u8 ((E.toNat.toUInt8).toNat : Int)]
  rw [h]
theorem low_facts (c : Int) (h0 : 0 ≤ c) (h1 : c < 32) : ∃ k a b : Nat, c = (k : Int) ∧ a = k / 16 ∧ b = k % 16 ∧ a < 16 ∧ b < 16 ∧ Int.tdiv (k : Int) 16 = (a : Int) ∧ Int.tmod (k : Int) 16 = (b : Int) ∧ wrap64 (a : Int) = (a : Int) ∧ wrap64 (k : Int) = (k : Int) := by
  refine ⟨c.toNat, c.toNat / 16, c.toNat % 16, by omega, rfl, rfl, by omega, by omega, ?_, ?_, by unfold wrap64; omega, by unfold wrap64; omega⟩
  · rw [Int.tdiv_eq_ediv_of_nonneg (by omega)]; omega
  · rw [Int.tmod_eq_emod_of_nonneg (by omega)]; omega
theorem sgn_0 {t : ByteArray} (h : lenOf (L t) = 0) : sgn t = ([239, 191, 189], 1) := by unfold sgn; simp only [h, if_true]
theorem sgn_find {t : ByteArray} {c y : Int} (h : lenOf (L t) = 1) (hc : bt t 0 = c) (hp : pf c lF lT = some y) : sgn t = ([92, y.toNat.toUInt8], 1) := by
  unfold sgn; simp only [h, hc, hp]; rfl
theorem sgn_low {t : ByteArray} {c : Int} (h : lenOf (L t) = 1) (hc : bt t 0 = c) (hp : pf c lF lT = none) (hl : c < 32) : sgn t = ([92, 117, 48, 48, hexOf (c.toNat / 16), hexOf (c.toNat % 16)], 1) := by
  unfold sgn; simp only [h, hc, hp, if_pos hl]; rfl
theorem sgn_plain {t : ByteArray} {c : Int} (h : lenOf (L t) = 1) (hc : bt t 0 = c) (hp : pf c lF lT = none) (hl : ¬ c < 32) : sgn t = ((t.extract 0 1).data.toList, 1) := by
  unfold sgn; simp only [h, hc, hp, if_neg hl]; rfl
theorem sgn_more {t : ByteArray} {N : Nat} (h : lenOf (L t) = N) (h0 : N ≠ 0) (h1 : N ≠ 1) : sgn t = ((t.extract 0 N).data.toList, N) := by
  unfold sgn; simp only [h, if_neg h0, if_neg h1]
theorem lT_range : ∀ y ∈ lT, 0 ≤ y ∧ y < 256 := by decide
set_option maxHeartbeats 16000000 in
set_option maxRecDepth 100000 in
theorem sign_calls (t : ByteArray) (h0 : 0 < t.size) (hs : t.size ≤ 1099511627776) (w : World) :
    Calls Tryd.prog 26 #[.string t] w fun e w' => (∃ v, e = .returned (.tuple #[v, .int .i64 (sgn t).2]) ∧ Reads w' v (sgn t).1) ∧ Below w.heap.size w w' := by
  obtain ⟨N, hN⟩ : ∃ N, lenOf (L t) = N := ⟨_, rfl⟩
  have hr := L_range t
  have h4 := lenOf_four hr
  have hNs : N ≤ t.size := by
    by_cases h : N = 0
    · omega
    · have := (lenGo_whole (L t) (L t).length 1 (by have h5 : lenOf (L t) = lenGo (L t) (L t).length 1 := rfl; omega)).2
      rw [L_len] at this
      have h5 : lenOf (L t) = lenGo (L t) (L t).length 1 := rfl
      rw [L_len] at h5
      omega
  rw [hN] at h4
  have HN := Aside0.mk hN
  have HS := Aside0.mk hs
  have H0 := Aside0.mk h0
  have H4 := Aside0.mk (And.intro h4 hNs)
  clear hN hr h4 hNs hs h0
  go_enter Tryd.func26, Tryd.ntmps26
  go_upto_block 0 with (fail)
  go_cut [4] (fun v4 wc => v4 = .int .i64 (N : Int) ∧ Aside0 (Below w.heap.size w wc))
  case first =>
    go_wp2_with (fail)
    go_loopg [4, 5] 5 (fun kq v4 v5 w' => ∃ (i n : Nat), v4 = .int .i64 (n : Int) ∧ v5 = .int .i64 (i : Int) ∧ Aside0 (1 ≤ i ∧ i + kq = 6 ∧ n = if N < i then N else 0) ∧ Aside0 (Below w.heap.size w w'))
    case atStart => exact ⟨1, 0, rfl, rfl, ⟨by omega, by omega, by split <;> omega⟩, ⟨Below.refl _ _⟩⟩
    case round =>
      obtain ⟨i, n, rfl, rfl, HI, HB⟩ := hrel
      obtain ⟨hi1, hik, hn⟩ := HI.out
      have h4 := H4.out
      have hs := HS.out
      by_cases hend : t.size < i ∨ 4 < i
      · have hnN : n = N := by rw [hn]; split <;> omega
        subst hnN
        by_cases hsz : i ≤ t.size
        · have d1 : decide ((i : Int) ≤ (t.size : Int)) = true := by simp; omega
          have d1n : decide (i ≤ t.size) = true := by simp; omega
          have d2 : decide ((i : Int) ≤ 4) = false := by simp; omega
          have d2n : decide (i ≤ 4) = false := by simp; omega
          clear hi1 hik hn hend hsz h4 hs
          go_wp2_with (fail)
          go_meet
          case rel => exact ⟨rfl, HB⟩
        · have d1 : decide ((i : Int) ≤ (t.size : Int)) = false := by simp; omega
          have d1n : decide (i ≤ t.size) = false := by simp; omega
          clear hi1 hik hn hend hsz h4 hs
          go_wp2_with (fail)
          go_meet
          case rel => exact ⟨rfl, HB⟩
      · obtain ⟨f, rfl⟩ : ∃ f, gk = f + 1 := ⟨gk - 1, by omega⟩
        have d1 : decide ((i : Int) ≤ (t.size : Int)) = true := by simp; omega
        have d1n : decide (i ≤ t.size) = true := by simp; omega
        have d2 : decide ((i : Int) ≤ 4) = true := by simp; omega
        have d2n : decide (i ≤ 4) = true := by simp; omega
        have i1 : (0 : Int) ≤ (i : Int) := by omega
        have i2 : (i : Int) ≤ (t.size : Int) := by omega
        have i2n : i ≤ t.size := by omega
        have i3 : wrap64 ((i : Int) + 1) = (i : Int) + 1 := by unfold wrap64; omega
        have HW := Aside0.mk (beg_calls (t.extract 0 i))
        have hL : L (t.extract 0 i) = (L t).take i := Num.take_L t i
        rw [hL] at HW
        have hwi : (beg ((L t).take i)).2.1 = true ↔ i = N := by rw [whole_iff (L_range t) hi1 (by rw [L_len]; omega), HN.out]
        obtain ⟨b2, hb2⟩ : ∃ b, (beg ((L t).take i)).2.1 = b := ⟨_, rfl⟩
        rw [hb2] at HW hwi
        have HWI := Aside0.mk hwi
        have HII := Aside0.mk (And.intro hi1 (And.intro hik hn))
        clear hi1 hik hend h4 hs hL hwi hb2
        go_wp2_with (fail)
        go_at_call 36
        refine (HW.out _).mono ?_
        rintro e w3 ⟨rfl, hb⟩
        have HB3 := Aside0.mk (below_step HB.out hb)
        clear hb HB
        cases b2 with
        | true =>
          have hiN := HWI.out.1 rfl
          subst hiN
          have hn0 : n = 0 := by rw [hn]; split <;> omega
          subst hn0
          clear hn
          go_wp2_with (fail)
          go_roundg f
          case measure => omega
          case rel => exact ⟨i + 1, i, rfl, by simp [i3], ⟨by omega, by have := HII.out; omega, by rw [if_pos (by omega)]⟩, HB3⟩
        | false =>
          have hiN : i ≠ N := fun e => by have := HWI.out.2 e; cases this
          clear hn
          go_wp2_with (fail)
          go_roundg f
          case measure => omega
          case rel => exact ⟨i + 1, n, rfl, by simp [i3], ⟨by omega, by have := HII.out; omega, by rw [HII.out.2.2]; split <;> split <;> omega⟩, HB3⟩
  case rest =>
    obtain ⟨rfl, HB⟩ := hcut
    by_cases hN0 : N = 0
    · subst hN0
      have E1 := Aside0.mk (sgn_0 HN.out)
      go_wp2_with (fail)
      go_ret2
      rw [E1.out]
      exact ⟨⟨_, rfl, reads_lit _ _ _ rfl _ rfl⟩, below_alloc HB.out _⟩
    have n1 : ((N : Int) == 0) = false := by simp; exact hN0
    have n2 : decide ((N : Int) = 0) = false := by simp; exact hN0
    have n3 : decide (N = 0) = false := by simp; exact hN0
    have hx : ∀ h : 0 < t.size, ((t[0]'h).toNat : Int) = bt t 0 := bt_at t 0
    have hcr := bt_ok t 0
    obtain ⟨c, hc⟩ : ∃ c, bt t 0 = c := ⟨_, rfl⟩
    rw [hc] at hcr
    simp only [hc] at hx
    have HC := Aside0.mk hc
    have HCR := Aside0.mk hcr
    have q3 := eq_true H0.out
    have q4 : (0 : Int) < (t.size : Int) := by have := H0.out; omega
    have HN0 := Aside0.mk hN0
    clear hc hcr hN0
    go_wp2_with (fail)
    go_at_call 41
    refine (letters_calls _).mono ?_
    rintro e wl ⟨rfl, hA, hB, hb⟩
    have HA := Aside0.mk hA
    have HBk := Aside0.mk hB
    have HB1 := Aside0.mk (below_step HB.out hb)
    clear hA hB hb HB
    generalize wc.heap.size = ga at *
    by_cases hN1 : N = 1
    · subst hN1
      go_wp2_with (fail)
      go_loopg [46] 7 (fun kq v46 w' => ∃ (j : Nat) (W : World), W = w' ∧ v46 = .int .i64 (j : Int) ∧ Aside0 (j + kq = 7) ∧ Aside0 (pf c (lF.drop j) (lT.drop j) = pf c lF lT) ∧ Aside0 (Below w.heap.size w w') ∧ Aside0 (w'.heap[ga]? = some (.cells cF 5 (0, 0))) ∧ Aside0 (w'.heap[ga + 1]? = some (.cells cT 5 (0, 0))))
      case atStart => exact ⟨0, _, rfl, rfl, ⟨by omega⟩, ⟨rfl⟩, HB1, HA, HBk⟩
      case round =>
        clear HA HBk HB1
        obtain ⟨j, W, rfl, rfl, HJ, HP, HB, HA, HBk⟩ := hrel
        have hj := HJ.out
        by_cases h7 : j = 7
        · subst h7
          have hnone : pf c lF lT = none := by rw [← HP.out]; rfl
          have HNO := Aside0.mk hnone
          clear hj hnone
          by_cases hlow : c < 32
          · have l1 : decide (c < 32) = true := by simp; exact hlow
            have HLW := Aside0.mk hlow
            obtain ⟨k, a, b, rfl, ha, hb, ha16, hb16, e1, e2, e3, e4⟩ := low_facts c HCR.out.1 hlow
            have HA1 := Aside0.mk (rlower_calls a ha16)
            have HA2 := Aside0.mk (rlower_calls b hb16)
            have HAB := Aside0.mk (And.intro ha hb)
            clear ha hb hlow ha16 hb16
            go_upto_region 18 with (fail)
            have HB2 : Aside0 (Below w.heap.size w W.drew) := ⟨HB.out.drew⟩
            clear HB
            refine start_ (n := 13) (S := fun w' => True) (ds := []) #[false, false, false, false, false, false, false, false, false, false, false, false, false] (by kernel_rfl) rfl rfl trivial (fun hHeld => ?_)
            generalize hwd_ : W.drew = wD at HB2 hHeld ⊢
            clear hwd_
            refine pure_ (i := 0) (N := some 72) (v := ?_) (a' := ?_) #[true, false, false, false, false, false, false, false, false, false, false, false, false] rfl rfl (by kernel_rfl) (fun _ _ _ h => h) (Or.inl ⟨by rfl, ?_⟩) ?_ ?_
            rotate_left
            · intro w'
              go_simp
              with_reducible rfl
            rotate_left
            · simp only [Act.put, List.setIfInBounds_toArray, List.set_cons_zero, List.set_cons_succ, i64_w, i32_w]
              rfl
            refine pure_ (i := 5) (N := some 77) (v := ?_) (a' := ?_) #[true, false, false, false, false, true, false, false, false, false, false, false, false] rfl rfl (by kernel_rfl) (fun _ _ _ h => h) (Or.inl ⟨by rfl, ?_⟩) ?_ ?_
            rotate_left
            · intro w'
              go_simp
              with_reducible rfl
            rotate_left
            · simp only [Act.put, List.setIfInBounds_toArray, List.set_cons_zero, List.set_cons_succ, i64_w, i32_w]
              rfl
            refine take_ (i := 1) (N := some 73) (v := ?_) (a' := ?_) #[true, true, false, false, false, true, false, false, false, false, false, false, false] rfl rfl (by kernel_rfl) (fun _ _ _ h => h) (Or.inl ⟨by rfl, ?_⟩) hHeld ?_ ?_
            rotate_left
            · intro w' _
              go_simp
              with_reducible rfl
            rotate_left
            · simp only [Act.put, List.setIfInBounds_toArray, List.set_cons_zero, List.set_cons_succ, i64_w, i32_w]
              rfl
            refine pure_ (i := 2) (N := some 74) (v := ?_) (a' := ?_) #[true, true, true, false, false, true, false, false, false, false, false, false, false] rfl rfl (by kernel_rfl) (fun _ _ _ h => h) (Or.inl ⟨by rfl, ?_⟩) ?_ ?_
            rotate_left
            · intro w'
              go_simp
              with_reducible rfl
            rotate_left
            · simp only [Act.put, List.setIfInBounds_toArray, List.set_cons_zero, List.set_cons_succ, i64_w, i32_w]
              rfl
            refine pure_ (i := 3) (N := some 75) (v := ?_) (a' := ?_) #[true, true, true, true, false, true, false, false, false, false, false, false, false] rfl rfl (by kernel_rfl) (fun _ _ _ h => h) (Or.inl ⟨by rfl, ?_⟩) ?_ ?_
            rotate_left
            · intro w'
              go_simp
              with_reducible rfl
            rotate_left
            · simp only [Act.put, List.setIfInBounds_toArray, List.set_cons_zero, List.set_cons_succ, i64_w, i32_w]
              rfl
            refine take_ (i := 6) (N := some 78) (v := ?_) (a' := ?_) #[true, true, true, true, false, true, true, false, false, false, false, false, false] rfl rfl (by kernel_rfl) (fun _ _ _ h => h) (Or.inl ⟨by rfl, ?_⟩) hHeld ?_ ?_
            rotate_left
            · intro w' _
              go_simp
              with_reducible rfl
            rotate_left
            · simp only [Act.put, List.setIfInBounds_toArray, List.set_cons_zero, List.set_cons_succ, i64_w, i32_w]
              rfl
            refine pure_ (i := 7) (N := some 79) (v := ?_) (a' := ?_) #[true, true, true, true, false, true, true, true, false, false, false, false, false] rfl rfl (by kernel_rfl) (fun _ _ _ h => h) (Or.inl ⟨by rfl, ?_⟩) ?_ ?_
            rotate_left
            · intro w'
              go_simp
              with_reducible rfl
            rotate_left
            · simp only [Act.put, List.setIfInBounds_toArray, List.set_cons_zero, List.set_cons_succ, i64_w, i32_w]
              rfl
            refine pure_ (i := 8) (N := some 80) (v := ?_) (a' := ?_) #[true, true, true, true, false, true, true, true, true, false, false, false, false] rfl rfl (by kernel_rfl) (fun _ _ _ h => h) (Or.inl ⟨by rfl, ?_⟩) ?_ ?_
            rotate_left
            · intro w'
              go_simp
              with_reducible rfl
            rotate_left
            · simp only [Act.put, List.setIfInBounds_toArray, List.set_cons_zero, List.set_cons_succ, i64_w, i32_w]
              rfl
            refine one_ (i := 4) (N := some 76) #[true, true, true, true, true, true, true, true, true, false, false, false, false] rfl rfl (by kernel_rfl) (by decide) (fun K hK => ?_)
            refine goes_ Tryd.func42 (by kernel_rfl) rfl #[.int .i64 (a : Int)] (by rfl) rfl rfl (by simp only [List.map_toArray, List.map_cons, List.map_nil]; first | rfl | (go_simp; done) | (go_simp; rfl) | (simp [*]; done)) ?_
            with_reducible refine (HA1.out _).mono ?_
            rintro e w5 ⟨rfl, hb⟩
            refine ⟨_, rfl, ?_⟩
            have HB5 := Aside0.mk (below_step HB2.out hb)
            clear hb
            refine hK.out _ _ trivial (fun hHeld => ?_)
            clear hK K
            refine norm_ (a' := ?_) ?_ ?_
            rotate_left
            · show Act.put _ (some 76) _ = _
              simp only [Act.put, List.setIfInBounds_toArray, List.set_cons_zero, List.set_cons_succ, i64_w, i32_w]
              rfl
            refine one_ (i := 9) (N := some 81) #[true, true, true, true, true, true, true, true, true, true, false, false, false] rfl rfl (by kernel_rfl) (by decide) (fun K hK => ?_)
            refine goes_ Tryd.func42 (by kernel_rfl) rfl #[.int .i64 (b : Int)] (by rfl) rfl rfl (by simp only [List.map_toArray, List.map_cons, List.map_nil]; first | rfl | (go_simp; done) | (go_simp; rfl) | (simp [*]; done)) ?_
            with_reducible refine (HA2.out _).mono ?_
            rintro e w6 ⟨rfl, hb⟩
            refine ⟨_, rfl, ?_⟩
            have HB6 := Aside0.mk (below_step HB5.out hb)
            clear hb
            refine hK.out _ _ trivial (fun hHeld => ?_)
            clear hK K
            refine norm_ (a' := ?_) ?_ ?_
            rotate_left
            · show Act.put _ (some 81) _ = _
              simp only [Act.put, List.setIfInBounds_toArray, List.set_cons_zero, List.set_cons_succ, i64_w, i32_w]
              rfl
            refine one_ (i := 10) (N := some 82) #[true, true, true, true, true, true, true, true, true, true, true, false, false] rfl rfl (by kernel_rfl) (by decide) (fun K hK => ?_)
            refine value_ (w1 := ?_) (v := ?_) (by rfl) rfl ?_ ?_
            rotate_left 2
            · go_simp
              constructor
              · rfl
              · rfl
            refine hK.out _ _ trivial (fun hHeld => ?_)
            clear hK K
            refine norm_ (a' := ?_) ?_ ?_
            rotate_left
            · show Act.put _ (some 82) _ = _
              simp only [Act.put, List.setIfInBounds_toArray, List.set_cons_zero, List.set_cons_succ, i64_w, i32_w]
              rfl
            refine pure_ (i := 11) (N := some 2) (v := ?_) (a' := ?_) #[true, true, true, true, true, true, true, true, true, true, true, true, false] rfl rfl (by kernel_rfl) (fun _ _ _ h => h) (Or.inl ⟨by rfl, ?_⟩) ?_ ?_
            rotate_left
            · intro w'
              go_simp
              with_reducible rfl
            rotate_left
            · simp only [Act.put, List.setIfInBounds_toArray, List.set_cons_zero, List.set_cons_succ, i64_w, i32_w]
              rfl
            refine pure_ (i := 12) (N := some 3) (v := ?_) (a' := ?_) #[true, true, true, true, true, true, true, true, true, true, true, true, true] rfl rfl (by kernel_rfl) (fun _ _ _ h => h) (Or.inl ⟨by rfl, ?_⟩) ?_ ?_
            rotate_left
            · intro w'
              go_simp
              with_reducible rfl
            rotate_left
            · simp only [Act.put, List.setIfInBounds_toArray, List.set_cons_zero, List.set_cons_succ, i64_w, i32_w]
              rfl
            refine done_ (by kernel_rfl) ?_
            go_wp2_with (fail)
            go_ret2
            rw [sgn_low HN.out HC.out HNO.out HLW.out]
            refine ⟨⟨_, rfl, ?_⟩, below_alloc HB6.out _⟩
            have := reads_lit w6 [92, 117, 48, 48, hexOf a, hexOf b] #[.int .u8 92, .int .u8 117, .int .u8 48, .int .u8 48, .int .u8 ((hexOf a).toNat : Int), .int .u8 ((hexOf b).toNat : Int)] rfl 6 rfl
            simp only [Int.toNat_natCast]
            rw [← HAB.out.1, ← HAB.out.2]
            exact this
          · have l1 : decide (c < 32) = false := by simp; omega
            have HLW := Aside0.mk hlow
            have m1 : (1 : Int) ≤ (t.size : Int) := by have := H0.out; omega
            have m1n : 1 ≤ t.size := by have := H0.out; omega
            have hcv := fun W' => run_bytes_of_string (P := Tryd.prog) W' 9 39 5 (t.extract 0 1) Tryd.underlying9 Tryd.underlying39 Tryd.underlying5
            clear hlow
            go_wp2_with (fail)
            go_ret2
            rw [sgn_plain HN.out HC.out HNO.out (by have := HLW.out; omega)]
            refine ⟨⟨_, rfl, reads_conv _ _ _ _ _ (ext_size t 1 H0.out)⟩, ?_⟩
            first | exact below_alloc HB.out _ | exact below_alloc HB.out.drew _
        · obtain ⟨f, rfl⟩ : ∃ f, gk = f + 1 := ⟨gk - 1, by omega⟩
          obtain ⟨x, hx7⟩ : ∃ x, lF[j]? = some x := ⟨lF[j]'(by simp [lF]; omega), List.getElem?_eq_getElem _⟩
          obtain ⟨y, hy7⟩ : ∃ x, lT[j]? = some x := ⟨lT[j]'(by simp [lT]; omega), List.getElem?_eq_getElem _⟩
          have hyr := lT_range y (List.mem_of_getElem? hy7)
          have hdF : lF.drop j = x :: lF.drop (j + 1) := by
            rw [List.drop_eq_getElem_cons (by simp [lF]; omega)]
            congr 1
            rw [List.getElem?_eq_getElem (by simp [lF]; omega)] at hx7
            exact Option.some.inj hx7
          have hdT : lT.drop j = y :: lT.drop (j + 1) := by
            rw [List.drop_eq_getElem_cons (by simp [lT]; omega)]
            congr 1
            rw [List.getElem?_eq_getElem (by simp [lT]; omega)] at hy7
            exact Option.some.inj hy7
          have hcF : W.cell? ⟨ga, j, none⟩ = some (.int .u8 x) := by
            refine (blk_cell HA.out j).trans ?_
            have : (lF.map (Value.int .u8))[j]? = some (.int .u8 x) := by rw [List.getElem?_map, hx7]; rfl
            simpa [lF, cF] using this
          have hcT : W.cell? ⟨ga + 1, j, none⟩ = some (.int .u8 y) := by
            refine (blk_cell HBk.out j).trans ?_
            have : (lT.map (Value.int .u8))[j]? = some (.int .u8 y) := by rw [List.getElem?_map, hy7]; rfl
            simpa [lT, cT] using this
          have m1 : (j : Int) < 7 := by omega
          have m2 : decide ((j : Int) < 7) = true := by simp; omega
          have m2n : decide (j < 7) = true := by simp; omega
          have m3 : (0 : Int) ≤ (j : Int) := by omega
          have m4 : j < 7 := by omega
          have m6 : wrap64 ((j : Int) + 1) = (j : Int) + 1 := by unfold wrap64; omega
          rw [hdF, hdT] at HP
          have HYR := Aside0.mk hyr
          clear hx7 hy7 hdF hdT hj h7 hyr
          by_cases he : c = x
          · have l1 : (c == x) = true := by simp; exact he
            have l2 : decide (c = x) = true := by simp; exact he
            have HPF := Aside0.mk (show pf c lF lT = some y by rw [← HP.out]; unfold pf; rw [if_pos he])
            clear he
            go_wp2_with (fail)
            go_ret2
            rw [sgn_find HN.out HC.out HPF.out]
            exact ⟨⟨_, rfl, reads_lit _ _ #[.int .u8 92, .int .u8 y] (cells_e y HYR.out.1 HYR.out.2) 2 rfl⟩, below_alloc HB.out _⟩
          · have l1 : (c == x) = false := by simp; exact he
            have l2 : decide (c = x) = false := by simp; exact he
            have HPF := Aside0.mk (show pf c (lF.drop (j + 1)) (lT.drop (j + 1)) = pf c lF lT by rw [← HP.out]; conv => rhs; unfold pf; rw [if_neg he])
            clear he
            go_wp2_with (fail)
            go_roundg f
            case measure => omega
            case rel => exact ⟨j + 1, _, rfl, by simp [m6], ⟨by have := HJ.out; omega⟩, HPF, HB, HA, HBk⟩
    · have l1 : ((N : Int) == 1) = false := by simp; omega
      have l2 : decide ((N : Int) = 1) = false := by simp; omega
      have l3 : decide (N = 1) = false := by simp; exact hN1
      have HN1 := Aside0.mk hN1
      clear hN1
      go_wp2_with (fail)
      go_loopg [46] 7 (fun kq v46 w' => ∃ (j : Nat) (W : World), W = w' ∧ v46 = .int .i64 (j : Int) ∧ Aside0 (j + kq = 7) ∧ Aside0 (Below w.heap.size w w') ∧ Aside0 (w'.heap[ga]? = some (.cells cF 5 (0, 0))))
      case atStart => exact ⟨0, _, rfl, rfl, ⟨by omega⟩, HB1, HA⟩
      case round =>
        clear HA HBk HB1
        obtain ⟨j, W, rfl, rfl, HJ, HB, HA⟩ := hrel
        have hj := HJ.out
        by_cases h7 : j = 7
        · subst h7
          have m1 : (N : Int) ≤ (t.size : Int) := by have := H4.out; omega
          have m1n : N ≤ t.size := by have := H4.out; omega
          have m0 : (0 : Int) ≤ (N : Int) := by omega
          have hcv := fun W' => run_bytes_of_string (P := Tryd.prog) W' 9 39 5 (t.extract 0 N) Tryd.underlying9 Tryd.underlying39 Tryd.underlying5
          clear hj
          go_wp2_with (fail)
          go_ret2
          rw [sgn_more HN.out HN0.out HN1.out]
          refine ⟨⟨_, rfl, reads_conv _ _ _ _ _ (ext_size t N H4.out.2)⟩, ?_⟩
          first | exact below_alloc HB.out _ | exact below_alloc HB.out.drew _
        · obtain ⟨f, rfl⟩ : ∃ f, gk = f + 1 := ⟨gk - 1, by omega⟩
          obtain ⟨x, hx7⟩ : ∃ x, lF[j]? = some x := ⟨lF[j]'(by simp [lF]; omega), List.getElem?_eq_getElem _⟩
          have hcF : W.cell? ⟨ga, j, none⟩ = some (.int .u8 x) := by
            refine (blk_cell HA.out j).trans ?_
            have : (lF.map (Value.int .u8))[j]? = some (.int .u8 x) := by rw [List.getElem?_map, hx7]; rfl
            simpa [lF, cF] using this
          have m1 : (j : Int) < 7 := by omega
          have m2 : decide ((j : Int) < 7) = true := by simp; omega
          have m2n : decide (j < 7) = true := by simp; omega
          have m3 : (0 : Int) ≤ (j : Int) := by omega
          have m4 : j < 7 := by omega
          have m6 : wrap64 ((j : Int) + 1) = (j : Int) + 1 := by unfold wrap64; omega
          clear hx7 hj h7
          go_wp2_with (fail)
          go_roundg f
          case measure => omega
          case rel => exact ⟨j + 1, _, rfl, by simp [m6], ⟨by have := HJ.out; omega⟩, HB, HA⟩
end Go.Proofs.YthfhefkacmepkaaDoor.PS
