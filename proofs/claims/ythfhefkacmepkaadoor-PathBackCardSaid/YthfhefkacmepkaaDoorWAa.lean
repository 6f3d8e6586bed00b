/- riffleref13.one and riffleref13.number, walked; rows of steps. Conditions: texts of at most 2^40 bytes. -/
import Derived.Test.YthfhefkacmepkaaDoorPBa
import Derived.Test.YthfhefkacmepkaaDoorListedB
import Derived.Test.YthfhefkacmepkaaDoorPPathPutsx0
namespace Go.Proofs.YthfhefkacmepkaaDoor.PS
open Go.RowKit Go.Proofs.YthfhefkacmepkaaDoorW.PrintWords Go.Proofs.YthfhefkacmepkaaDoorW.PrintLast Go.Proofs.YthfhefkacmepkaaDoorW.PrintMore
open Go.Proofs.YthfhefkacmepkaaDoor.PPathPuts Go.Proofs.YthfhefkacmepkaaDoor.Beg Go.Proofs.YthfhefkacmepkaaDoor.Bld Go.Proofs.YthfhefkacmepkaaDoor.PB
open Go.Proofs.YthfhefkacmepkaaDoor.Num (L L_len L_range)
attribute [local go_sem] max2_int min2_int max_two min_two max_three min_three max_four min_four
set_option linter.unusedVariables false
set_option linter.unusedSimpArgs false
theorem L_split (t : ByteArray) (h0 : 0 < t.size) : ∃ r, L t = bt t 0 :: r ∧ r.length + 1 = t.size := by
  have hl := L_len t
  cases h : L t with
  | nil => rw [h] at hl; simp at hl; omega
  | cons c r =>
    rw [h] at hl
    exact ⟨r, by rw [Num.bt0 h], by simpa using hl⟩
theorem L_split2 (t : ByteArray) (h0 : 2 ≤ t.size) : ∃ q, L t = bt t 0 :: bt t 1 :: q ∧ q.length + 2 = t.size := by
  have hl := L_len t
  match h : L t with
  | [] => rw [h] at hl; simp at hl; omega
  | [c] => rw [h] at hl; simp at hl; omega
  | c :: d :: q =>
    rw [h] at hl
    refine ⟨q, ?_, by simpa using hl⟩
    rw [Num.bt0 h, show bt t 1 = d from Num.bt_L t 1 d (by rw [h]; rfl)]
theorem one_sgn : ∀ c : Fin 32, sgn ⟨#[c.val.toUInt8]⟩ = (runeOut c.val, 1) := by decide +kernel
theorem conv_one (W : World) (c : Nat) (hc : c < 256) : (convert 39 9 (.slice (some ⟨W.heap.size, 0, none⟩) 1 1)).run Tryd.prog (W.alloc (.cells #[.int .u8 (c : Int)] 5)) = .ok (.string ⟨#[c.toUInt8]⟩) (W.alloc (.cells #[.int .u8 (c : Int)] 5)) := by
  have e : ((c.toUInt8).toNat : Int) = (c : Int) := by
    rw [show (c.toUInt8).toNat = c % 256 from UInt8.toNat_ofNat']; omega
  have := run_convert_bytes_back (P := Tryd.prog) (W.alloc (.cells #[.int .u8 (c : Int)] 5)) 39 9 5 ⟨W.heap.size, 0, none⟩ 1 [c.toUInt8] Tryd.underlying39 Tryd.underlying5 Tryd.underlying9 (by
      intro j hj
      match j, hj with
      | 0, _ => 
        refine (blk_cell (heap_alloc_new W _) 0).trans ?_
        show some (Value.int .u8 (c : Int)) = some (.int .u8 ((c.toUInt8).toNat : Int))
        rw [e])
  exact this
theorem reads_text {W : World} {v : Value} {bs : List UInt8} (h : Reads W v bs) : (convert 39 9 v).run Tryd.prog W = .ok (.string ⟨bs.toArray⟩) W := by
  obtain ⟨ad, cap, rfl, hc⟩ := h
  refine run_convert_bytes_back (P := Tryd.prog) W 39 9 5 ad cap bs Tryd.underlying39 Tryd.underlying5 Tryd.underlying9 (fun j hj => ?_)
  exact hc j _ (by simp [Lib.byteCells, hj])
theorem Reads.below {W W' : World} {v : Value} {bs : List UInt8} (h : Reads W v bs) (hb : Below W.heap.size W W') : Reads W' v bs := by
  obtain ⟨ad, cap, rfl, hc⟩ := h
  exact ⟨ad, cap, rfl, fun j u hj => (hb.cell (World.block_lt_of_cell? W _ (hc j u hj))).trans (hc j u hj)⟩
theorem one_none {t : ByteArray} {c : Int} (h0 : 0 < t.size) (hc : bt t 0 = c) (h : c = 39 ∨ c < 32) : oneV (L t) = ([], 0) := by
  obtain ⟨r, hr, _⟩ := L_split t h0
  rw [hr, hc, oneV_cons, if_pos h]
theorem one_plain {t : ByteArray} {c : Int} (h0 : 0 < t.size) (hc : bt t 0 = c) (h : ¬ (c = 39 ∨ c < 32)) (h92 : c ≠ 92) : oneV (L t) = if lenOf (L t) = 0 then ([], 0) else ((t.extract 0 (lenOf (L t))).data.toList, lenOf (L t)) := by
  obtain ⟨r, hr, _⟩ := L_split t h0
  rw [bytes_L, Num.take_L]
  rw [hr, hc, oneV_cons, if_neg h, if_pos h92]
  rfl
set_option maxHeartbeats 16000000 in
set_option maxRecDepth 100000 in
theorem one_first (t : ByteArray) (h0 : 0 < t.size) (hs : t.size ≤ 1099511627776) (hc39 : bt t 0 = 39 ∨ bt t 0 < 32) (w : World) :
    Calls Tryd.prog 33 #[.string t] w fun e w' => (∃ v, e = .returned (.tuple #[v, .int .i64 (((oneV (L t)).2 : Nat) : Int)]) ∧ ((oneV (L t)).2 ≠ 0 → Reads w' v (oneV (L t)).1)) ∧ Below w.heap.size w w' := by
  have E := Aside0.mk (one_none h0 rfl hc39)
  have hx : ∀ h : 0 < t.size, ((t[0]'h).toNat : Int) = bt t 0 := bt_at t 0
  have hcr := bt_ok t 0
  obtain ⟨c, hc⟩ : ∃ c, bt t 0 = c := ⟨_, rfl⟩
  rw [hc] at hcr hc39
  simp only [hc] at hx
  have q3 := eq_true h0
  have q4 : (0 : Int) < (t.size : Int) := by omega
  clear hc hcr hs h0
  by_cases h39 : c = 39
  · have l1 : (c == 39) = true := by simp; exact h39
    have l2 : decide (c = 39) = true := by simp; exact h39
    clear h39 hc39
    go_enter Tryd.func33, Tryd.ntmps33
    go_wp2_with (fail)
    go_ret2
    rw [E.out]
    exact ⟨⟨_, rfl, fun h => absurd rfl h⟩, by first | exact Below.refl _ _ | exact (Below.refl _ _).drew⟩
  · have l1 : (c == 39) = false := by simp; exact h39
    have l2 : decide (c = 39) = false := by simp; exact h39
    have l3 : decide (c < 32) = true := by simp; omega
    clear h39 hc39
    go_enter Tryd.func33, Tryd.ntmps33
    go_wp2_with (fail)
    go_ret2
    rw [E.out]
    exact ⟨⟨_, rfl, fun h => absurd rfl h⟩, by first | exact Below.refl _ _ | exact (Below.refl _ _).drew⟩
set_option maxHeartbeats 16000000 in
set_option maxRecDepth 100000 in
theorem one_second (t : ByteArray) (h0 : 0 < t.size) (hs : t.size ≤ 1099511627776) (hc39 : ¬ (bt t 0 = 39 ∨ bt t 0 < 32)) (hc92 : bt t 0 ≠ 92) (w : World) :
    Calls Tryd.prog 33 #[.string t] w fun e w' => (∃ v, e = .returned (.tuple #[v, .int .i64 (((oneV (L t)).2 : Nat) : Int)]) ∧ ((oneV (L t)).2 ≠ 0 → Reads w' v (oneV (L t)).1)) ∧ Below w.heap.size w w' := by
  have hE := one_plain h0 rfl hc39 hc92
  obtain ⟨N, hN⟩ : ∃ N, lenOf (L t) = N := ⟨_, rfl⟩
  have h4 := lenOf_four (L_range t)
  have hNs : N ≤ t.size := by
    by_cases h : N = 0
    · omega
    · have := (lenGo_whole (L t) (L t).length 1 (by have h5 : lenOf (L t) = lenGo (L t) (L t).length 1 := rfl; omega)).2
      rw [L_len] at this
      have h5 : lenOf (L t) = lenGo (L t) (L t).length 1 := rfl
      rw [L_len] at h5
      omega
  rw [hN] at h4 hE
  have E := Aside0.mk hE
  have HN := Aside0.mk hN
  have H4 := Aside0.mk (And.intro h4 hNs)
  have HS := Aside0.mk hs
  have H0 := Aside0.mk h0
  have hx : ∀ h : 0 < t.size, ((t[0]'h).toNat : Int) = bt t 0 := bt_at t 0
  obtain ⟨c, hc⟩ : ∃ c, bt t 0 = c := ⟨_, rfl⟩
  rw [hc] at hc39 hc92
  simp only [hc] at hx
  have q3 := eq_true h0
  have q4 : (0 : Int) < (t.size : Int) := by omega
  have l1 : (c == 39) = false := by simp; omega
  have l2 : decide (c = 39) = false := by simp; omega
  have l3 : decide (c < 32) = false := by simp; omega
  have l4 : (c != 92) = true := by simp; omega
  have l5 : (c == 92) = false := by simp; omega
  have l6 : decide (c = 92) = false := by simp; omega
  clear hc hN h4 hNs hs h0 hc39 hc92 hE
  go_enter Tryd.func33, Tryd.ntmps33
  go_wp2_with (fail)
  go_loopg [4] 5 (fun kq v4 w' => ∃ (i : Nat), v4 = .int .i64 (i : Int) ∧ Aside0 (1 ≤ i ∧ i + kq = 6 ∧ (N ≠ 0 → i ≤ N)) ∧ Aside0 (Below w.heap.size w w'))
  case atStart => exact ⟨1, rfl, ⟨by omega, by omega, by omega⟩, ⟨by first | exact Below.refl _ _ | exact (Below.refl _ _).drew⟩⟩
  case round =>
    obtain ⟨i, rfl, HI, HB⟩ := hrel
    obtain ⟨hi1, hik, hin⟩ := HI.out
    have h4 := H4.out
    have hs := HS.out
    by_cases hend : t.size < i ∨ 4 < i
    · have hN0 : N = 0 := by omega
      subst hN0
      have E0 : Aside0 (oneV (L t) = ([], 0)) := ⟨by have := E.out; rwa [if_pos rfl] at this⟩
      by_cases hsz : i ≤ t.size
      · have d1 : decide ((i : Int) ≤ (t.size : Int)) = true := by simp; omega
        have d1n : decide (i ≤ t.size) = true := by simp; omega
        have d2 : decide ((i : Int) ≤ 4) = false := by simp; omega
        have d2n : decide (i ≤ 4) = false := by simp; omega
        clear hi1 hik hin hend hsz h4 hs
        go_wp2_with (fail)
        go_ret2
        rw [E0.out]
        exact ⟨⟨_, rfl, fun h => absurd rfl h⟩, HB.out⟩
      · have d1 : decide ((i : Int) ≤ (t.size : Int)) = false := by simp; omega
        have d1n : decide (i ≤ t.size) = false := by simp; omega
        clear hi1 hik hin hend hsz h4 hs
        go_wp2_with (fail)
        go_ret2
        rw [E0.out]
        exact ⟨⟨_, rfl, fun h => absurd rfl h⟩, HB.out⟩
    · obtain ⟨f, rfl⟩ : ∃ f, gk = f + 1 := ⟨gk - 1, by omega⟩
      have d1 : decide ((i : Int) ≤ (t.size : Int)) = true := by simp; omega
      have d1n : decide (i ≤ t.size) = true := by simp; omega
      have d2 : decide ((i : Int) ≤ 4) = true := by simp; omega
      have d2n : decide (i ≤ 4) = true := by simp; omega
      have i1 : (0 : Int) ≤ (i : Int) := by omega
      have i2 : (i : Int) ≤ (t.size : Int) := by omega
      have i2n : i ≤ t.size := by omega
      have i3 : wrap64 ((i : Int) + 1) = (i : Int) + 1 := by unfold wrap64; omega
      have HW := Aside0.mk (beg_calls (t.extract 0 i))
      have hL : L (t.extract 0 i) = (L t).take i := Num.take_L t i
      rw [hL] at HW
      have hwi : (beg ((L t).take i)).2.1 = true ↔ i = N := by rw [whole_iff (L_range t) hi1 (by rw [L_len]; omega), HN.out]
      obtain ⟨b2, hb2⟩ : ∃ b, (beg ((L t).take i)).2.1 = b := ⟨_, rfl⟩
      rw [hb2] at HW hwi
      have HWI := Aside0.mk hwi
      have HII := Aside0.mk (And.intro hi1 (And.intro hik hin))
      have HIZ := Aside0.mk i2n
      clear hi1 hik hin hend h4 hs hL hwi hb2
      go_wp2_with (fail)
      go_at_call 36
      refine (HW.out _).mono ?_
      rintro e w3 ⟨rfl, hb⟩
      have HB3 := Aside0.mk (below_step HB.out hb)
      clear hb HB
      cases b2 with
      | true =>
        have hiN := HWI.out.1 rfl
        subst hiN
        have hne : ¬ i = 0 := by have := HII.out; omega
        have E0 : Aside0 (oneV (L t) = ((t.extract 0 i).data.toList, i)) := ⟨by have := E.out; rwa [if_neg hne] at this⟩
        have hcv := fun W' => run_bytes_of_string (P := Tryd.prog) W' 9 39 5 (t.extract 0 i) Tryd.underlying9 Tryd.underlying39 Tryd.underlying5
        clear hne
        go_wp2_with (fail)
        go_ret2
        rw [E0.out]
        refine ⟨⟨_, rfl, fun _ => reads_conv _ _ _ _ _ (ext_size t i HIZ.out)⟩, ?_⟩
        first | exact below_alloc HB3.out _ | exact below_alloc HB3.out.drew _
      | false =>
        have hiN : i ≠ N := fun e => by have := HWI.out.2 e; cases this
        have HNE := Aside0.mk hiN
        clear hiN
        go_wp2_with (fail)
        go_roundg f
        case measure => omega
        case rel => exact ⟨i + 1, by simp [i3], ⟨by omega, by have := HII.out; omega, by have := HII.out; have := HNE.out; omega⟩, HB3⟩
end Go.Proofs.YthfhefkacmepkaaDoor.PS
namespace Go.Proofs.YthfhefkacmepkaaDoor.PS
open Go.RowKit Go.Proofs.YthfhefkacmepkaaDoorW.PrintWords Go.Proofs.YthfhefkacmepkaaDoorW.PrintLast Go.Proofs.YthfhefkacmepkaaDoorW.PrintMore
open Go.Proofs.YthfhefkacmepkaaDoor.PPathPuts Go.Proofs.YthfhefkacmepkaaDoor.Beg Go.Proofs.YthfhefkacmepkaaDoor.Bld Go.Proofs.YthfhefkacmepkaaDoor.PB
open Go.Proofs.YthfhefkacmepkaaDoor.Num (L L_len L_range)
attribute [local go_sem] max2_int min2_int max_two min_two max_three min_three max_four min_four
set_option linter.unusedVariables false
set_option linter.unusedSimpArgs false
theorem one_short {t : ByteArray} (h0 : t.size = 1) (hc : bt t 0 = 92) : oneV (L t) = ([], 0) := by
  obtain ⟨r, hr, hl⟩ := L_split t (by omega)
  have : r = [] := List.length_eq_zero_iff.1 (by omega)
  rw [hr, hc, this]; rfl
theorem one_let {t : ByteArray} {d y : Int} (h0 : 2 ≤ t.size) (hc : bt t 0 = 92) (hd : bt t 1 = d) (hp : pf d lT lF = some y) : oneV (L t) = ([y.toNat.toUInt8], 2) := by
  obtain ⟨q, hr, _⟩ := L_split2 t h0
  rw [hr, hc, hd, oneV_cons, if_neg (by simp), if_neg (by simp)]
  simp only [hp]
theorem one_low {t : ByteArray} {d : Int} (h0 : 2 ≤ t.size) (hc : bt t 0 = 92) (hd : bt t 1 = d) (hp : pf d lT lF = none) : oneV (L t) = low6 (decide (6 ≤ t.size)) (t.extract 0 6).data.toList 32 0 := by
  obtain ⟨q, hr, hl⟩ := L_split2 t h0
  rw [bytes_L, Num.take_L]
  rw [hr, hc, hd, oneV_cons, if_neg (by simp), if_neg (by simp)]
  simp only [hp, hl]
  rfl
theorem lF_range : ∀ y ∈ lF, 0 ≤ y ∧ y < 256 := by decide
theorem low6_yes {ok : Bool} {T : List UInt8} {f c : Nat} (h : (runeOut c).length = 6 ∧ ok = true ∧ T = runeOut c) : low6 ok T (f + 1) c = ([c.toUInt8], 6) := by rw [low6, if_pos h]
theorem low6_no {ok : Bool} {T : List UInt8} {f c : Nat} (h : ¬ ((runeOut c).length = 6 ∧ ok = true ∧ T = runeOut c)) : low6 ok T (f + 1) c = low6 ok T f (c + 1) := by rw [low6, if_neg h]
set_option maxHeartbeats 16000000 in
set_option maxRecDepth 100000 in
theorem one_third (t : ByteArray) (h0 : 0 < t.size) (hs : t.size ≤ 1099511627776) (hc92 : bt t 0 = 92) (w : World) :
    Calls Tryd.prog 33 #[.string t] w fun e w' => (∃ v, e = .returned (.tuple #[v, .int .i64 (((oneV (L t)).2 : Nat) : Int)]) ∧ ((oneV (L t)).2 ≠ 0 → Reads w' v (oneV (L t)).1)) ∧ Below w.heap.size w w' := by
  have HC := Aside0.mk hc92
  have HS := Aside0.mk hs
  have hx : ∀ h : 0 < t.size, ((t[0]'h).toNat : Int) = bt t 0 := bt_at t 0
  simp only [hc92] at hx
  have q3 := eq_true h0
  have q4 : (0 : Int) < (t.size : Int) := by omega
  by_cases h1 : t.size = 1
  · have E := Aside0.mk (one_short h1 hc92)
    have d1 : decide ((t.size : Int) < 2) = true := by simp; omega
    have d1n : decide (t.size < 2) = true := by simp; omega
    clear h1 hs h0 hc92
    go_enter Tryd.func33, Tryd.ntmps33
    go_wp2_with (fail)
    go_ret2
    rw [E.out]
    exact ⟨⟨_, rfl, fun h => absurd rfl h⟩, by first | exact Below.refl _ _ | exact (Below.refl _ _).drew⟩
  have h2 : 2 ≤ t.size := by omega
  have H2 := Aside0.mk h2
  have d1 : decide ((t.size : Int) < 2) = false := by simp; omega
  have d1n : decide (t.size < 2) = false := by simp; omega
  have hx1 : ∀ h : 1 < t.size, ((t[1]'h).toNat : Int) = bt t 1 := bt_at t 1
  have hdr := bt_ok t 1
  obtain ⟨d, hd⟩ : ∃ d, bt t 1 = d := ⟨_, rfl⟩
  rw [hd] at hdr
  simp only [hd] at hx1
  have HD := Aside0.mk hd
  have r3 := eq_true (show 1 < t.size by omega)
  have r4 : (1 : Int) < (t.size : Int) := by omega
  clear h1 h2 hs h0 hc92 hd hdr
  go_enter Tryd.func33, Tryd.ntmps33
  go_wp2_with (fail)
  go_at_call 41
  refine (letters_calls _).mono ?_
  rintro e wl ⟨rfl, hA, hB, hb⟩
  have HA := Aside0.mk hA
  have HBk := Aside0.mk hB
  have HB1 := Aside0.mk (below_step (by first | exact Below.refl w.heap.size w | exact (Below.refl w.heap.size w).drew) hb)
  clear hA hB hb
  go_wp2_with (fail)
  go_loopg [59] 7 (fun kq v59 w' => ∃ (j : Nat) (W : World), W = w' ∧ v59 = .int .i64 (j : Int) ∧ Aside0 (j + kq = 7) ∧ Aside0 (pf d (lT.drop j) (lF.drop j) = pf d lT lF) ∧ Aside0 (Below w.heap.size w w') ∧ Aside0 (w'.heap[w.heap.size]? = some (.cells cF 5 (0, 0))) ∧ Aside0 (w'.heap[w.heap.size + 1]? = some (.cells cT 5 (0, 0))))
  case atStart => exact ⟨0, _, rfl, rfl, ⟨by omega⟩, ⟨rfl⟩, HB1, HA, HBk⟩
  case round =>
    clear HA HBk HB1
    obtain ⟨j, W, rfl, rfl, HJ, HP, HB, HA, HBk⟩ := hrel
    have hj := HJ.out
    by_cases h7 : j = 7
    · subst h7
      have hnone : pf d lT lF = none := by rw [← HP.out]; rfl
      have E := Aside0.mk (one_low H2.out HC.out HD.out hnone)
      clear hj hnone
      go_wp2_with (fail)
      go_loopg [12] 32 (fun kq v12 w' => ∃ (k : Nat) (W : World), W = w' ∧ v12 = .int .i64 (k : Int) ∧ Aside0 (k + kq = 32) ∧ Aside0 (low6 (decide (6 ≤ t.size)) (t.extract 0 6).data.toList kq k = oneV (L t)) ∧ Aside0 (Below w.heap.size w w'))
      case atStart => exact ⟨0, _, rfl, rfl, ⟨by omega⟩, ⟨E.out.symm⟩, ⟨by first | exact HB.out | exact HB.out.drew⟩⟩
      case round =>
        clear HA HBk HB HP E
        obtain ⟨k, W, rfl, rfl, HK, HL, HB⟩ := hrel
        have hk := HK.out
        cases gk with
        | zero =>
          have hk32 : k = 32 := by omega
          subst hk32
          have E0 : Aside0 (oneV (L t) = ([], 0)) := ⟨HL.out.symm⟩
          clear hk
          go_wp2_with (fail)
          go_ret2
          rw [E0.out]
          exact ⟨⟨_, rfl, fun h => absurd rfl h⟩, by first | exact HB.out | exact HB.out.drew⟩
        | succ f =>
          have k1 : decide ((k : Int) < 32) = true := by simp; omega
          have k1n : decide (k < 32) = true := by simp; omega
          have k2 : (k : Int) % 256 = (k : Int) := by omega
          have k3 : wrap64 ((k : Int) + 1) = (k : Int) + 1 := by unfold wrap64; omega
          have k4 : IntKind.u8.wrap (k : Int) = (k : Int) := by simp [IntKind.wrap, IntKind.bits, IntKind.signed]; omega
          have hcv := fun W' => conv_one W' k (by omega)
          have hsg := sign_calls ⟨#[k.toUInt8]⟩ (show 0 < 1 by decide) (show 1 ≤ 1099511627776 by decide)
          have ho := one_sgn ⟨k, by omega⟩
          simp only at ho
          rw [ho] at hsg
          simp only at hsg
          have HSG := Aside0.mk hsg
          have HK9 : Aside0 (k < 32) := ⟨by omega⟩
          clear hk ho hsg
          go_wp2_with (fail)
          go_at_call 26
          refine (HSG.out _).mono ?_
          rintro e w3 ⟨⟨v, rfl, hrd⟩, hb⟩
          have HB3 := Aside0.mk (below_step (by repeat (first | exact HB.out | apply below_alloc | apply below_drew)) hb)
          have hcvb := reads_text hrd
          have hcvd : (convert 39 9 v).run Tryd.prog w3.drew = .ok (.string ⟨(runeOut k).toArray⟩) w3.drew := reads_text (hrd.below (Below.refl _ _).drew)
          obtain ⟨ad, cap, rfl, _⟩ := hrd
          obtain ⟨bs, hbs⟩ : ∃ bs, runeOut k = bs := ⟨_, rfl⟩
          rw [hbs] at hcvb hcvd ⊢
          have HBS := Aside0.mk hbs
          clear hb HB hcv hbs
          have HBD : Aside0 (Below w.heap.size w w3.drew) := ⟨HB3.out.drew⟩
          by_cases h6 : bs.length = 6
          · have e1 : ((bs.length : Int) == 6) = true := by simp; omega
            have e2 : decide ((bs.length : Int) = 6) = true := by simp; omega
            have e3 : decide (bs.length = 6) = true := by simp; omega
            by_cases hz : 6 ≤ t.size
            · have f1 : decide ((6 : Int) ≤ (t.size : Int)) = true := by simp; omega
              have f2 : decide (6 ≤ t.size) = true := by simp; omega
              have f3 : (6 : Int) ≤ (t.size : Int) := by omega
              have HZ := Aside0.mk hz
              have H6 := Aside0.mk h6
              clear h6
              by_cases heq : (t.extract 0 6).data.toList = bs
              · have g1 : ((t.extract 0 6).toList == bs) = true := by rw [ByteArray.toList_eq, heq]; simp
                have E : Aside0 (oneV (L t) = ([k.toUInt8], 6)) := ⟨by rw [← HL.out]; exact low6_yes ⟨by rw [HBS.out]; exact H6.out, f2, by rw [HBS.out]; exact heq⟩⟩
                clear heq
                go_upto_region 24 with (fail)
                refine ListedB.wp_region_listed (G := []) (by kernel_rfl) (by kernel_rfl) ?_
                go_wp2_with (fail)
                refine ListedB.fin_intro (by kernel_rfl) ?_
                go_wp2_with (fail)
                go_ret2
                rw [E.out]
                refine ⟨⟨_, rfl, fun _ => reads_lit _ _ #[.int .u8 (k : Int)] ?_ 1 rfl⟩, by first | exact below_alloc HB3.out _ | exact below_alloc HB3.out.drew _⟩
                have h := toByte (k : Int) (by omega) (by have := HK9.out; omega)
                rw [Int.toNat_natCast] at h
                show [Value.int .u8 (k : Int)] = [Value.int .u8 ((k.toUInt8).toNat : Int)]
                rw [h]
              · have g1 : ((t.extract 0 6).toList == bs) = false := by rw [ByteArray.toList_eq]; simpa using heq
                have E : Aside0 (low6 (decide (6 ≤ t.size)) (t.extract 0 6).data.toList f (k + 1) = oneV (L t)) := ⟨by rw [← HL.out]; exact (low6_no (fun e => heq (by rw [e.2.2, HBS.out]))).symm⟩
                clear heq
                go_upto_region 24 with (fail)
                refine ListedB.wp_region_listed (G := []) (by kernel_rfl) (by kernel_rfl) ?_
                go_wp2_with (fail)
                refine ListedB.fin_intro (by kernel_rfl) ?_
                go_wp2_with (fail)
                go_roundg f
                case measure => omega
                case rel => exact ⟨k + 1, _, rfl, by simp [k3], ⟨by have := HK.out; omega⟩, E, by first | exact HBD | exact HB3⟩
            · have f1 : decide ((6 : Int) ≤ (t.size : Int)) = false := by simp; omega
              have f2 : decide (6 ≤ t.size) = false := by simp; omega
              have E : Aside0 (low6 (decide (6 ≤ t.size)) (t.extract 0 6).data.toList f (k + 1) = oneV (L t)) := ⟨by rw [← HL.out]; exact (low6_no (fun e => by rw [f2] at e; cases e.2.1)).symm⟩
              clear h6 hz
              go_upto_region 24 with (fail)
              refine ListedB.wp_region_listed (G := [9, 10, 11, 12, 13]) (by kernel_rfl) (by kernel_rfl) ?_
              go_wp2_with (fail)
              refine ListedB.fin_intro (by kernel_rfl) ?_
              go_wp2_with (fail)
              go_roundg f
              case measure => omega
              case rel => exact ⟨k + 1, _, rfl, by simp [k3], ⟨by have := HK.out; omega⟩, E, by first | exact HBD | exact HB3⟩
          · have e1 : ((bs.length : Int) == 6) = false := by simp; omega
            have e2 : decide ((bs.length : Int) = 6) = false := by simp; omega
            have e3 : decide (bs.length = 6) = false := by simp; omega
            have E : Aside0 (low6 (decide (6 ≤ t.size)) (t.extract 0 6).data.toList f (k + 1) = oneV (L t)) := ⟨by rw [← HL.out]; exact (low6_no (fun e => h6 (by rw [← HBS.out]; exact e.1))).symm⟩
            clear h6
            go_upto_region 24 with (fail)
            refine ListedB.wp_region_listed (G := [4, 5, 6, 9, 10, 11, 12, 13]) (by kernel_rfl) (by kernel_rfl) ?_
            go_wp2_with (fail)
            refine ListedB.fin_intro (by kernel_rfl) ?_
            go_wp2_with (fail)
            go_roundg f
            case measure => omega
            case rel => exact ⟨k + 1, _, rfl, by simp [k3], ⟨by have := HK.out; omega⟩, E, by first | exact HBD | exact HB3⟩
    · obtain ⟨f, rfl⟩ : ∃ f, gk = f + 1 := ⟨gk - 1, by omega⟩
      obtain ⟨x, hx7⟩ : ∃ x, lT[j]? = some x := ⟨lT[j]'(by simp [lT]; omega), List.getElem?_eq_getElem _⟩
      obtain ⟨y, hy7⟩ : ∃ x, lF[j]? = some x := ⟨lF[j]'(by simp [lF]; omega), List.getElem?_eq_getElem _⟩
      have hyr := lF_range y (List.mem_of_getElem? hy7)
      have hdT : lT.drop j = x :: lT.drop (j + 1) := by
        rw [List.drop_eq_getElem_cons (by simp [lT]; omega)]
        congr 1
        rw [List.getElem?_eq_getElem (by simp [lT]; omega)] at hx7
        exact Option.some.inj hx7
      have hdF : lF.drop j = y :: lF.drop (j + 1) := by
        rw [List.drop_eq_getElem_cons (by simp [lF]; omega)]
        congr 1
        rw [List.getElem?_eq_getElem (by simp [lF]; omega)] at hy7
        exact Option.some.inj hy7
      have hcT : W.cell? ⟨w.heap.size + 1, j, none⟩ = some (.int .u8 x) := by
        refine (blk_cell HBk.out j).trans ?_
        have : (lT.map (Value.int .u8))[j]? = some (.int .u8 x) := by rw [List.getElem?_map, hx7]; rfl
        simpa [lT, cT] using this
      have hcF : W.cell? ⟨w.heap.size, j, none⟩ = some (.int .u8 y) := by
        refine (blk_cell HA.out j).trans ?_
        have : (lF.map (Value.int .u8))[j]? = some (.int .u8 y) := by rw [List.getElem?_map, hy7]; rfl
        simpa [lF, cF] using this
      have m1 : (j : Int) < 7 := by omega
      have m2 : decide ((j : Int) < 7) = true := by simp; omega
      have m2n : decide (j < 7) = true := by simp; omega
      have m3 : (0 : Int) ≤ (j : Int) := by omega
      have m4 : j < 7 := by omega
      have m6 : wrap64 ((j : Int) + 1) = (j : Int) + 1 := by unfold wrap64; omega
      rw [hdF, hdT] at HP
      have HYR := Aside0.mk hyr
      clear hx7 hy7 hdF hdT hj h7 hyr
      by_cases he : d = x
      · have l1 : (d == x) = true := by simp; exact he
        have l2 : decide (d = x) = true := by simp; exact he
        have E := Aside0.mk (one_let H2.out HC.out HD.out (show pf d lT lF = some y by rw [← HP.out]; unfold pf; rw [if_pos he]))
        clear he
        go_wp2_with (fail)
        go_ret2
        rw [E.out]
        refine ⟨⟨_, rfl, fun _ => reads_lit _ _ #[.int .u8 y] ?_ 1 rfl⟩, by first | exact below_alloc HB.out _ | exact below_alloc HB.out.drew _⟩
        have h := toByte y HYR.out.1 HYR.out.2
        show [Value.int .u8 y] = [Value.int .u8 ((y.toNat.toUInt8).toNat : Int)]
        rw [h]
      · have l1 : (d == x) = false := by simp; exact he
        have l2 : decide (d = x) = false := by simp; exact he
        have HPF := Aside0.mk (show pf d (lT.drop (j + 1)) (lF.drop (j + 1)) = pf d lT lF by rw [← HP.out]; conv => rhs; unfold pf; rw [if_neg he])
        clear he
        go_wp2_with (fail)
        go_roundg f
        case measure => omega
        case rel => exact ⟨j + 1, _, rfl, by simp [m6], ⟨by have := HJ.out; omega⟩, HPF, HB, HA, HBk⟩
theorem one_calls (t : ByteArray) (h0 : 0 < t.size) (hs : t.size ≤ 1099511627776) (w : World) :
    Calls Tryd.prog 33 #[.string t] w fun e w' => (∃ v, e = .returned (.tuple #[v, .int .i64 (((oneV (L t)).2 : Nat) : Int)]) ∧ ((oneV (L t)).2 ≠ 0 → Reads w' v (oneV (L t)).1)) ∧ Below w.heap.size w w' := by
  by_cases h1 : bt t 0 = 39 ∨ bt t 0 < 32
  · exact one_first t h0 hs h1 w
  by_cases h2 : bt t 0 = 92
  · exact one_third t h0 hs h2 w
  · exact one_second t h0 hs h1 h2 w
end Go.Proofs.YthfhefkacmepkaaDoor.PS
namespace Go.Proofs.YthfhefkacmepkaaDoor.NSm
open Go.RowKit Go.Proofs.YthfhefkacmepkaaDoor.PPathPuts Go.Proofs.YthfhefkacmepkaaDoorW.PrintWords Go.Proofs.YthfhefkacmepkaaDoorW.PrintLast Go.Proofs.YthfhefkacmepkaaDoorW.PrintMore
attribute [local go_sem] max2_int min2_int max_two min_two max_three min_three max_four min_four   -- for this text's walks alone
set_option linter.unusedVariables false
set_option linter.unusedSimpArgs false









/-! ### riffleref01_Digit: function 127 -/
def riffleref01_Digit.f (a0 : Int) : Option (Bool) := if a0 ≥ 48 then (some (decide (a0 ≤ 57))) else (some false)
set_option maxHeartbeats 8000000 in
set_option maxRecDepth 100000 in
theorem riffleref01_Digit.calls (a0 : Int) (r : Bool) (w : World) (h : riffleref01_Digit.f a0 = some r) :
    Calls Tryd.prog 50 #[.int .u8 a0] w fun e w' => e = .returned (.bool r) ∧ Drawn0 w w' := by
  have H : (if a0 ≥ 48 then (some (decide (a0 ≤ 57))) else (some false)) = some r := h
  clear h
  by_cases c2 : a0 ≥ 48
  · rw [if_pos c2] at H
    have c2b0 : decide (48 ≤ a0) = true := decide_eq_true c2
    clear c2
    obtain rfl := Option.some.inj H
    go_enter Tryd.func50, Tryd.ntmps50
    go_wp2
    go_ret
    exact ⟨by first | rfl | (simp; done) | (simp [*]; done), by repeat (first | exact Drawn0.refl _ | apply Drawn0.step)⟩
  · rw [if_neg c2] at H
    have c2b0 : decide (48 ≤ a0) = false := decide_eq_false c2
    clear c2
    obtain rfl := Option.some.inj H
    go_enter Tryd.func50, Tryd.ntmps50
    go_wp2
    go_ret
    exact ⟨by first | rfl | (simp; done) | (simp [*]; done), by repeat (first | exact Drawn0.refl _ | apply Drawn0.step)⟩

/-! ### strconv_lower: function 166 -/
def strconv_lower.f (a0 : Int) : Option (Int) := some (Go.bits .or .u8 a0 32)
set_option maxHeartbeats 8000000 in
set_option maxRecDepth 100000 in
theorem strconv_lower.calls (a0 : Int) (r : Int) (w : World) (h : strconv_lower.f a0 = some r) :
    Calls Tryd.prog 68 #[.int .u8 a0] w fun e w' => e = .returned (.int .u8 r) ∧ Drawn0 w w' := by
  have H : (some (Go.bits .or .u8 a0 32)) = some r := h
  clear h
  obtain rfl := Option.some.inj H
  go_enter Tryd.func68, Tryd.ntmps68
  go_wp2
  go_ret
  exact ⟨by first | rfl | (simp; done) | (simp [*]; done), by repeat (first | exact Drawn0.refl _ | apply Drawn0.step)⟩

end Go.Proofs.YthfhefkacmepkaaDoor.NSm
namespace Go.Proofs.YthfhefkacmepkaaDoor.PS
open Go.RowKit Go.Proofs.YthfhefkacmepkaaDoorW.PrintWords Go.Proofs.YthfhefkacmepkaaDoorW.PrintLast Go.Proofs.YthfhefkacmepkaaDoorW.PrintMore
open Go.Proofs.YthfhefkacmepkaaDoor.PPathPuts Go.Proofs.YthfhefkacmepkaaDoor.Beg Go.Proofs.YthfhefkacmepkaaDoor.Bld Go.Proofs.YthfhefkacmepkaaDoor.PB
open Go.Proofs.YthfhefkacmepkaaDoor.Num (L L_len L_range)
attribute [local go_sem] max2_int min2_int max_two min_two max_three min_three max_four min_four
set_option linter.unusedVariables false
set_option linter.unusedSimpArgs false
theorem digit_calls (c : Int) (w : World) : Calls Tryd.prog 50 #[.int .u8 c] w fun e w' => e = .returned (.bool (isD c)) ∧ Below w.heap.size w w' := by
  refine (NSm.riffleref01_Digit.calls c (isD c) w ?_).mono (fun e w' h => ⟨h.1, ?_⟩)
  · unfold NSm.riffleref01_Digit.f isD
    by_cases h : c ≥ 48
    · rw [if_pos h]
      congr 1
      have : (48 ≤ c ∧ c ≤ 57) ↔ c ≤ 57 := ⟨fun h => h.2, fun h2 => ⟨h, h2⟩⟩
      exact decide_eq_decide.2 this.symm
    · rw [if_neg h]
      congr 1
      symm
      exact decide_eq_false (fun e => h e.1)
  · obtain ⟨n, rfl⟩ := h.2
    exact pw_below_drewN (Below.refl _ _) n
theorem drop_at (t : ByteArray) (i : Nat) (h : i < t.size) : (L t).drop i = bt t (i : Int) :: (L t).drop (i + 1) := by
  have hl : i < (L t).length := by rw [L_len]; exact h
  rw [List.drop_eq_getElem_cons hl]
  congr 1
  exact (Num.bt_L t i _ (List.getElem?_eq_getElem hl)).symm
theorem drop_end (t : ByteArray) (i : Nat) (h : ¬ i < t.size) : (L t).drop i = [] := List.drop_eq_nil_of_le (by rw [L_len]; omega)
theorem digs_nil (f v : Nat) : digs f [] v = (v, 0) := by cases f <;> rfl
theorem digs_stop (f : Nat) (c : Int) (r : List Int) (v : Nat) (h : isD c = false) : digs f (c :: r) v = (v, 0) := by
  cases f with
  | zero => rfl
  | succ f => simp only [digs, h, Bool.false_eq_true, if_false]
theorem digs_go (f : Nat) (c : Int) (r : List Int) (v : Nat) (h : isD c = true) : digs (f + 1) (c :: r) v = ((digs f r (v * 10 + (c - 48).toNat)).1, (digs f r (v * 10 + (c - 48).toNat)).2 + 1) := by
  simp only [digs, h, if_true]
def numT (t : ByteArray) (n v : Nat) : Nat × Nat := if (1 < n ∧ bt t 0 = 48) ∨ 9007199254740991 < v ∨ (n < t.size ∧ isD (bt t (n : Int)) = true) then (0, 0) else (v, n)
theorem numV_at (t : ByteArray) {n v : Nat} (h : digs 16 (L t) 0 = (v, n)) : numV (L t) = numT t n v := by
  have hle := (digs_tells 16 (L t) 0).1
  rw [h, L_len] at hle
  simp only at hle
  unfold numV numT
  rw [h]
  simp only
  have e1 : (1 < n ∧ (L t).head? = some 48) ↔ (1 < n ∧ bt t 0 = 48) := by
    constructor
    · rintro ⟨h1, h2⟩
      obtain ⟨r, hr, _⟩ : ∃ r, L t = bt t 0 :: r ∧ True := ⟨_, by have := drop_at t 0 (by omega); simpa using this, trivial⟩
      rw [hr] at h2
      exact ⟨h1, by simpa using h2⟩
    · rintro ⟨h1, h2⟩
      obtain ⟨r, hr, _⟩ : ∃ r, L t = bt t 0 :: r ∧ True := ⟨_, by have := drop_at t 0 (by omega); simpa using this, trivial⟩
      rw [hr]
      exact ⟨h1, by simpa using h2⟩
  have e2 : ((L t).drop n).head?.any isD = true ↔ (n < t.size ∧ isD (bt t (n : Int)) = true) := by
    by_cases hn : n < t.size
    · rw [drop_at t n hn]; simp [hn]
    · rw [drop_end t n hn]; simp [hn]
  by_cases hc : (1 < n ∧ (L t).head? = some 48) ∨ 9007199254740991 < v ∨ ((L t).drop n).head?.any isD = true
  · rw [if_pos hc, if_pos (hc.imp e1.1 (Or.imp id e2.1))]
  · rw [if_neg hc, if_neg (fun h => hc (h.imp e1.2 (Or.imp id e2.2)))]
theorem pow_le15 (i : Nat) (h : i ≤ 15) : 10 ^ i ≤ 1000000000000000 := Nat.le_trans (Nat.pow_le_pow_right (by omega) h) (by decide)
set_option maxHeartbeats 16000000 in
set_option maxRecDepth 100000 in
theorem num_calls (t : ByteArray) (hs : t.size ≤ 1099511627776) (w : World) :
    Calls Tryd.prog 32 #[.string t] w fun e w' => e = .returned (.tuple #[.int .i64 ((numV (L t)).1 : Int), .int .i64 ((numV (L t)).2 : Int)]) ∧ Below w.heap.size w w' := by
  obtain ⟨V, N, hVN⟩ : ∃ V N, digs 16 (L t) 0 = (V, N) := ⟨_, _, rfl⟩
  have HVN := Aside0.mk hVN
  have HS := Aside0.mk hs
  have hE := numV_at t hVN
  have HE := Aside0.mk hE
  clear hVN hs hE
  go_enter Tryd.func32, Tryd.ntmps32
  go_upto_block 0 with (fail)
  go_cut [4, 5] (fun v4 v5 wc => v4 = .int .i64 (N : Int) ∧ v5 = .int .i64 (V : Int) ∧ Aside0 (Below w.heap.size w wc))
  case first =>
    go_wp2_with (fail)
    go_loopg [4, 5] 16 (fun kq v4 v5 w' => ∃ (i v : Nat) (W : World), W = w' ∧ v4 = .int .i64 (i : Int) ∧ v5 = .int .i64 (v : Int) ∧ Aside0 (i + kq = 16 ∧ i ≤ t.size ∧ v < 10 ^ i) ∧ Aside0 ((digs kq ((L t).drop i) v).1 = V ∧ (digs kq ((L t).drop i) v).2 + i = N) ∧ Aside0 (Below w.heap.size w w'))
    case atStart => exact ⟨0, 0, _, rfl, rfl, rfl, ⟨by omega, by omega, by decide⟩, ⟨by rw [List.drop_zero, HVN.out], by rw [List.drop_zero, HVN.out]; rfl⟩, ⟨by first | exact Below.refl _ _ | exact (Below.refl _ _).drew⟩⟩
    case round =>
      obtain ⟨i, v, W, rfl, rfl, rfl, HI, HD, HB⟩ := hrel
      obtain ⟨hik, his, hv⟩ := HI.out
      have hs := HS.out
      by_cases hi : i < t.size
      · have hdr := drop_at t i hi
        have hD := HD.out
        rw [hdr] at hD
        have HDC := Aside0.mk (digit_calls (bt t (i : Int)))
        have hx : ∀ h : i < t.size, ((t[i]'h).toNat : Int) = bt t (i : Int) := bt_at t (i : Int)
        have hcr := bt_ok t (i : Int)
        obtain ⟨c, hc⟩ : ∃ c, bt t (i : Int) = c := ⟨_, rfl⟩
        rw [hc] at hD HDC hcr hdr
        simp only [hc] at hx
        have d1 : decide ((i : Int) < (t.size : Int)) = true := by simp; omega
        have d1n : decide (i < t.size) = true := by simp; omega
        have i1 : (0 : Int) ≤ (i : Int) := by omega
        have i2 : (i : Int) < (t.size : Int) := by omega
        have i2n := eq_true hi
        obtain ⟨b, hb⟩ : ∃ b, isD c = b := ⟨_, rfl⟩
        rw [hb] at HDC
        cases b with
        | false =>
          rw [digs_stop _ _ _ _ hb] at hD
          simp only at hD
          obtain ⟨rfl, hn⟩ := hD
          have hn' : i = N := by omega
          subst hn'
          clear hn hik his hv hs hi hdr hcr hc hb
          go_wp2_with (fail)
          go_at_call 50
          refine (HDC.out _).mono ?_
          rintro e w3 ⟨rfl, hb⟩
          have HB3 := Aside0.mk (below_step HB.out hb)
          clear hb
          go_wp2_with (fail)
          go_meet
          case rel => exact ⟨rfl, rfl, HB3⟩
        | true =>
          have hcd := (isD_iff c).1 hb
          cases gk with
          | zero =>
            have hi16 : i = 16 := by omega
            subst hi16
            simp only [digs] at hD
            obtain ⟨rfl, hn⟩ := hD
            have hn' : 16 = N := by omega
            subst hn'
            clear hn hik his hv hs hi hdr hcr hc hb hcd
            go_wp2_with (fail)
            go_at_call 50
            refine (HDC.out _).mono ?_
            rintro e w3 ⟨rfl, hb⟩
            have HB3 := Aside0.mk (below_step HB.out hb)
            clear hb
            go_wp2_with (fail)
            go_meet
            case rel => exact ⟨rfl, rfl, HB3⟩
          | succ f =>
            rw [digs_go _ _ _ _ hb] at hD
            simp only at hD
            have HD2 := Aside0.mk hD
            have hp := pow_le15 i (by omega)
            have hvl : v < 1000000000000000 := Nat.lt_of_lt_of_le hv hp
            have j1 : decide ((i : Int) < 16) = true := by simp; omega
            have j1n : decide (i < 16) = true := by simp; omega
            have j2 : wrap64 ((v : Int) * 10) = (v : Int) * 10 := by unfold wrap64; omega
            have j3 : wrap64 c = c := by unfold wrap64; omega
            have j4 : wrap64 ((v : Int) * 10 + c) = (v : Int) * 10 + c := by unfold wrap64; omega
            have j5 : wrap64 ((v : Int) * 10 + c - 48) = ((v * 10 + (c - 48).toNat : Nat) : Int) := by unfold wrap64; omega
            have j6 : wrap64 ((i : Int) + 1) = (i : Int) + 1 := by unfold wrap64; omega
            have HN : Aside0 (v * 10 + (c - 48).toNat < 10 ^ (i + 1)) := ⟨by rw [Nat.pow_succ]; clear hp hvl j2 j3 j4 j5 j6; omega⟩
            have HIS : Aside0 (i + 1 ≤ t.size) := ⟨hi⟩
            clear hD hik his hv hs hi hdr hcr hc hb hcd hp hvl
            go_wp2_with (fail)
            go_at_call 50
            refine (HDC.out _).mono ?_
            rintro e w3 ⟨rfl, hb⟩
            have HB3 := Aside0.mk (below_step HB.out hb)
            clear hb
            go_wp2_with (fail)
            go_roundg f
            case measure => omega
            case rel => exact ⟨i + 1, v * 10 + (c - 48).toNat, _, rfl, by simp [j6], by simp only [j5], ⟨by have := HI.out; omega, HIS.out, HN.out⟩, ⟨HD2.out.1, by have := HD2.out.2; omega⟩, HB3⟩
      · have hD := HD.out
        rw [drop_end t i hi, digs_nil] at hD
        simp only at hD
        obtain ⟨rfl, hn⟩ := hD
        have hn' : i = N := by omega
        subst hn'
        have d1 : decide ((i : Int) < (t.size : Int)) = false := by simp; omega
        have d1n : decide (i < t.size) = false := by simp; omega
        clear hn hik his hv hs hi
        go_wp2_with (fail)
        go_meet
        case rel => exact ⟨rfl, rfl, HB⟩
  case rest =>
    obtain ⟨rfl, rfl, HB⟩ := hcut
    have hle := (digs_tells 16 (L t) 0)
    rw [HVN.out, L_len] at hle
    simp only at hle
    have hNs := hle.1
    have HNS := Aside0.mk hNs
    have hs := HS.out
    have hx : ∀ h : 0 < t.size, ((t[0]'h).toNat : Int) = bt t 0 := bt_at t 0
    obtain ⟨c, hc⟩ : ∃ c, bt t 0 = c := ⟨_, rfl⟩
    have HC := Aside0.mk hc
    simp only [hc] at hx
    clear hle hc
    by_cases h1 : 1 < N
    · have d1 : decide ((1 : Int) < (N : Int)) = true := by simp; omega
      have d1n : decide (1 < N) = true := by simp; omega
      have q3 := eq_true (show 0 < t.size by omega)
      have q4 : (0 : Int) < (t.size : Int) := by omega
      by_cases h48 : c = 48
      · have E : Aside0 (numV (L t) = (0, 0)) := ⟨by rw [HE.out]; unfold numT; rw [if_pos (.inl ⟨h1, HC.out.trans h48⟩)]⟩
        have l1 : (c == 48) = true := by simp; exact h48
        have l2 : decide (c = 48) = true := by simp; exact h48
        clear h1 h48 hNs hs
        go_wp2_with (fail)
        go_ret2
        rw [E.out]
        exact ⟨rfl, by first | exact HB.out | exact HB.out.drew⟩
      · have l1 : (c == 48) = false := by simp; exact h48
        have l2 : decide (c = 48) = false := by simp; exact h48
        have hnot : ¬ (1 < N ∧ bt t 0 = 48) := fun h => h48 (HC.out.symm.trans h.2)
        by_cases hV : 9007199254740991 < V
        · have e1 : decide ((9007199254740991 : Int) < (V : Int)) = true := by simp; omega
          have e1n : decide (9007199254740991 < V) = true := by simp; omega
          have E : Aside0 (numV (L t) = (0, 0)) := ⟨by rw [HE.out]; unfold numT; rw [if_pos (.inr (.inl hV))]⟩
          clear hV hNs hs hnot h1 h48
          go_wp2_with (fail)
          go_ret2
          rw [E.out]
          exact ⟨rfl, by first | exact HB.out | exact HB.out.drew⟩
        have e1 : decide ((9007199254740991 : Int) < (V : Int)) = false := by simp; omega
        have e1n : decide (9007199254740991 < V) = false := by simp; omega
        by_cases hN : N < t.size
        · have f1 : decide ((N : Int) < (t.size : Int)) = true := by simp; omega
          have f1n : decide (N < t.size) = true := by simp; omega
          have i1 : (0 : Int) ≤ (N : Int) := by omega
          have i2 : (N : Int) < (t.size : Int) := by omega
          have i2n := eq_true hN
          have HDC := Aside0.mk (digit_calls (bt t (N : Int)))
          have hxN : ∀ h : N < t.size, ((t[N]'h).toNat : Int) = bt t (N : Int) := bt_at t (N : Int)
          obtain ⟨b, hb⟩ : ∃ b, isD (bt t (N : Int)) = b := ⟨_, rfl⟩
          rw [hb] at HDC
          cases b with
          | true =>
            have E : Aside0 (numV (L t) = (0, 0)) := ⟨by rw [HE.out]; unfold numT; rw [if_pos (.inr (.inr ⟨hN, hb⟩))]⟩
            clear hV hN hb hNs hs hnot h1 h48
            go_wp2_with (fail)
            go_at_call 50
            refine (HDC.out _).mono ?_
            rintro e w3 ⟨rfl, hb⟩
            have HB3 := Aside0.mk (below_step HB.out hb)
            clear hb
            go_wp2_with (fail)
            go_ret2
            rw [E.out]
            exact ⟨rfl, by first | exact HB3.out | exact HB3.out.drew⟩
          | false =>
            have E : Aside0 (numV (L t) = (V, N)) := ⟨by rw [HE.out]; unfold numT; rw [if_neg (fun h => by rcases h with h | h | h; exact hnot h; exact hV h; rw [hb] at h; cases h.2)]⟩
            clear hV hN hb hNs hs hnot h1 h48
            go_wp2_with (fail)
            go_at_call 50
            refine (HDC.out _).mono ?_
            rintro e w3 ⟨rfl, hb⟩
            have HB3 := Aside0.mk (below_step HB.out hb)
            clear hb
            go_wp2_with (fail)
            go_ret2
            rw [E.out]
            exact ⟨rfl, by first | exact HB3.out | exact HB3.out.drew⟩
        · have f1 : decide ((N : Int) < (t.size : Int)) = false := by simp; omega
          have f1n : decide (N < t.size) = false := by simp; omega
          have E : Aside0 (numV (L t) = (V, N)) := ⟨by rw [HE.out]; unfold numT; rw [if_neg (fun h => by rcases h with h | h | h; exact hnot h; exact hV h; exact hN h.1)]⟩
          clear hV hN hNs hs hnot h1 h48
          go_wp2_with (fail)
          go_ret2
          rw [E.out]
          exact ⟨rfl, by first | exact HB.out | exact HB.out.drew⟩
    · have d1 : decide ((1 : Int) < (N : Int)) = false := by simp; omega
      have d1n : decide (1 < N) = false := by simp; omega
      have hnot : ¬ (1 < N ∧ bt t 0 = 48) := fun h => h1 h.1
      by_cases hV : 9007199254740991 < V
      · have e1 : decide ((9007199254740991 : Int) < (V : Int)) = true := by simp; omega
        have e1n : decide (9007199254740991 < V) = true := by simp; omega
        have E : Aside0 (numV (L t) = (0, 0)) := ⟨by rw [HE.out]; unfold numT; rw [if_pos (.inr (.inl hV))]⟩
        clear hV hNs hs hnot h1
        go_wp2_with (fail)
        go_ret2
        rw [E.out]
        exact ⟨rfl, by first | exact HB.out | exact HB.out.drew⟩
      have e1 : decide ((9007199254740991 : Int) < (V : Int)) = false := by simp; omega
      have e1n : decide (9007199254740991 < V) = false := by simp; omega
      by_cases hN : N < t.size
      · have f1 : decide ((N : Int) < (t.size : Int)) = true := by simp; omega
        have f1n : decide (N < t.size) = true := by simp; omega
        have i1 : (0 : Int) ≤ (N : Int) := by omega
        have i2 : (N : Int) < (t.size : Int) := by omega
        have i2n := eq_true hN
        have HDC := Aside0.mk (digit_calls (bt t (N : Int)))
        have hxN : ∀ h : N < t.size, ((t[N]'h).toNat : Int) = bt t (N : Int) := bt_at t (N : Int)
        obtain ⟨b, hb⟩ : ∃ b, isD (bt t (N : Int)) = b := ⟨_, rfl⟩
        rw [hb] at HDC
        cases b with
        | true =>
          have E : Aside0 (numV (L t) = (0, 0)) := ⟨by rw [HE.out]; unfold numT; rw [if_pos (.inr (.inr ⟨hN, hb⟩))]⟩
          clear hV hN hb hNs hs hnot h1
          go_wp2_with (fail)
          go_at_call 50
          refine (HDC.out _).mono ?_
          rintro e w3 ⟨rfl, hb⟩
          have HB3 := Aside0.mk (below_step HB.out hb)
          clear hb
          go_wp2_with (fail)
          go_ret2
          rw [E.out]
          exact ⟨rfl, by first | exact HB3.out | exact HB3.out.drew⟩
        | false =>
          have E : Aside0 (numV (L t) = (V, N)) := ⟨by rw [HE.out]; unfold numT; rw [if_neg (fun h => by rcases h with h | h | h; exact hnot h; exact hV h; rw [hb] at h; cases h.2)]⟩
          clear hV hN hb hNs hs hnot h1
          go_wp2_with (fail)
          go_at_call 50
          refine (HDC.out _).mono ?_
          rintro e w3 ⟨rfl, hb⟩
          have HB3 := Aside0.mk (below_step HB.out hb)
          clear hb
          go_wp2_with (fail)
          go_ret2
          rw [E.out]
          exact ⟨rfl, by first | exact HB3.out | exact HB3.out.drew⟩
      · have f1 : decide ((N : Int) < (t.size : Int)) = false := by simp; omega
        have f1n : decide (N < t.size) = false := by simp; omega
        have E : Aside0 (numV (L t) = (V, N)) := ⟨by rw [HE.out]; unfold numT; rw [if_neg (fun h => by rcases h with h | h | h; exact hnot h; exact hV h; exact hN h.1)]⟩
        clear hV hN hNs hs hnot h1
        go_wp2_with (fail)
        go_ret2
        rw [E.out]
        exact ⟨rfl, by first | exact HB.out | exact HB.out.drew⟩
end Go.Proofs.YthfhefkacmepkaaDoor.PS
namespace Go.Proofs.YthfhefkacmepkaaDoor.PS
open Go.RowKit Go.Proofs.YthfhefkacmepkaaDoorW.PrintWords Go.Proofs.YthfhefkacmepkaaDoorW.PrintLast Go.Proofs.YthfhefkacmepkaaDoorW.PrintMore
open Go.Proofs.YthfhefkacmepkaaDoor.PPathPuts Go.Proofs.YthfhefkacmepkaaDoor.Beg Go.Proofs.YthfhefkacmepkaaDoor.Bld Go.Proofs.YthfhefkacmepkaaDoor.PB
open Go.Proofs.YthfhefkacmepkaaDoor.Num (L L_len L_range)
set_option linter.unusedVariables false
set_option linter.unusedSimpArgs false
def stepZ : Value := .agg #[.bool false, .string ByteArray.empty, .int .i64 0]
theorem info26 : (Tryd.prog.info? 26).map (fun i => (i.zero, i.size, i.bytes)) = some (some stepZ, 3, 32) := by kernel_rfl
def sc1 (x : S26) : List Value := [.bool x.f0, .string x.f1, .int .i64 x.f2]
def sc (l : List S26) : List Value := l.flatMap sc1
theorem sc_len (l : List S26) : (sc l).length = l.length * 3 := by
  induction l with
  | nil => rfl
  | cons x l ih => unfold sc at *; rw [List.flatMap_cons, List.length_append, ih]; simp [sc1]; omega
theorem sc_snoc (l : List S26) (x : S26) : sc (l ++ [x]) = sc l ++ sc1 x := by unfold sc; simp
theorem sc_at (l : List S26) : ∀ (j i : Nat) (x : S26), l[j]? = some x → i < 3 → (sc l)[j * 3 + i]? = (sc1 x)[i]? := by
  induction l with
  | nil => intro j i x h; simp at h
  | cons y l ih =>
    intro j i x h hi
    have e : sc (y :: l) = sc1 y ++ sc l := by unfold sc; rw [List.flatMap_cons]
    rw [e]
    cases j with
    | zero =>
      obtain rfl : y = x := by simpa using h
      rw [List.getElem?_append_left (by simp [sc1]; omega)]
      simp
    | succ j =>
      have h2 : l[j]? = some x := by simpa using h
      rw [List.getElem?_append_right (by simp [sc1]; omega), show (j + 1) * 3 + i - (sc1 y).length = j * 3 + i by simp [sc1]; omega]
      exact ih j i x h2 hi
theorem sc_one (x : S26) : ∀ u ∈ sc1 x, u.oneCell' = true := by
  intro u hu
  simp only [sc1, List.mem_cons, List.not_mem_nil, or_false] at hu
  rcases hu with rfl | rfl | rfl <;> rfl
/-- What is known of a row of steps that a call hands back. -/
def StepsAt (w : World) (v : Value) (l : List S26) : Prop := ∃ A c, v = .slice A l.length c ∧ l.length ≤ c ∧ Kd.C k26 w A l.length l
theorem StepsAt.nil (w : World) : StepsAt w (.slice none 0 0) [] := ⟨none, 0, rfl, Nat.le_refl _, Kd.C_nil _ _⟩
theorem StepsAt.below {w w' : World} {v : Value} {l : List S26} (h : StepsAt w v l) (hb : Below w.heap.size w w') : StepsAt w' v l := by
  obtain ⟨A, c, h1, h2, h3⟩ := h
  exact ⟨A, c, h1, h2, Kd.C_below h3 hb⟩
theorem steps_of_own {w : World} {B : Nat} {v : Value} {l : List S26} (h : w.ownsRow B 26 3 v l.length (sc l)) (hm : l.length ≤ maxLen) : StepsAt w v l := by
  rcases h.2 with ⟨rfl, hn⟩ | ⟨g, cap, cur, rfl, hbg, hg, hnc, hc, hsz, hx⟩
  · obtain rfl := List.length_eq_zero_iff.1 hn
    exact StepsAt.nil w
  · refine ⟨some ⟨g, 0, none⟩, cap, rfl, hnc, rfl, hm, fun _ => ⟨_, rfl, fun j p hj => ?_⟩⟩
    refine ⟨sc1 p, rfl, k26_mk w p, fun i u hu => ?_⟩
    have hi : i < 3 := by
      have := (List.getElem?_eq_some_iff.1 hu).1
      simpa [sc1] using this
    have h1 := sc_at l j i p hj hi
    rw [hu, ← hx, List.getElem?_take] at h1
    have hjl := (List.getElem?_eq_some_iff.1 hj).1
    rw [if_pos (by omega), Array.getElem?_toList] at h1
    have e : (⟨g, 0, none⟩ : Addr).add (j * k26.sz + i) = ⟨g, j * 3 + i, none⟩ := by
      show (⟨g, 0, none⟩ : Addr).add (j * 3 + i) = _
      unfold Addr.add
      split
      · rename_i h0; rw [h0]
      · simp
    rw [e]
    exact (blk_cell hg (j * 3 + i)).trans h1
theorem own_ne {W : World} {B : Nat} {e1 e2 : TypeId} {n1 n2 m1 m2 : Nat} {v1 v2 : Value} {x1 x2 : List Value} (h1 : W.ownsRow B e1 n1 v1 m1 x1) (h2 : W.ownsRow B e2 n2 v2 m2 x2) (hne : e1 ≠ e2) : v1.ownBlock = none ∨ v1.ownBlock ≠ v2.ownBlock := by
  rcases h1.2 with ⟨rfl, _⟩ | ⟨g, cap, cur, rfl, _, hg, _⟩
  · exact .inl rfl
  · right
    rcases h2.2 with ⟨rfl, _⟩ | ⟨g2, cap2, cur2, rfl, _, hg2, _⟩
    · simp [Value.ownBlock]
    · simp only [Value.ownBlock, ne_eq, Option.some.injEq]
      intro e
      subst e
      rw [hg] at hg2
      simp only [Option.some.injEq, Obj.cells.injEq] at hg2
      exact hne hg2.2.1
theorem grown_below3 {w w1 w2 : World} {B : Nat} {e : TypeId} {sz : Nat} {v : Value} {n : Nat} {xs : List Value} (hb : Below B w w1) (hB : B ≤ w1.heap.size) (hown : w1.ownsRow B e sz v n xs) (hg : w1.grownBy w2 v.ownBlock) : Below B w w2 :=
  hb.grown hg hB (fun k hk => (hown.lt k hk).1)
theorem steps_snoc {W : World} {B : Nat} {v : Value} {acc : List S26} {x : S26} (h : W.ownsRow B 26 3 v (acc.length + 1) (sc acc ++ sc1 x)) : W.ownsRow B 26 3 v (acc ++ [x]).length (sc (acc ++ [x])) := by
  rw [List.length_append, sc_snoc]
  exact h
theorem step_cells (W : World) (x : S26) : ∀ (j : Nat) u, (sc1 x)[j]? = some u → (W.alloc (.cells #[.bool x.f0, .string x.f1, .int .i64 x.f2] 26)).cell? ((⟨W.heap.size, 0, none⟩ : Addr).add j) = some u := by
  intro j u hj
  rw [show (⟨W.heap.size, 0, none⟩ : Addr).add j = ⟨W.heap.size, j, none⟩ by cases j <;> simp [Addr.add]]
  exact (blk_cell (heap_alloc_new W _) j).trans (by simpa [sc1] using hj)
end Go.Proofs.YthfhefkacmepkaaDoor.PS
