/- riffleref06.Put, walked. Conditions: a text of at most 2^40 bytes. -/
import Derived.Test.YtlhpflicchchlaaDecL
import Derived.Test.YtlhpflicchchlaaPutW
import Derived.IntWalk
namespace Go.Proofs.Ytlhpflicchchlaa.RPut
open Go.RowKit Go.Proofs.YtlhpflicchchlaaW.PrintWords Go.Proofs.YtlhpflicchchlaaW.PrintLast Go.Proofs.YtlhpflicchchlaaW.PrintMore
open Go.Proofs.Ytlhpflicchchlaa.PQuotePuts Go.Proofs.Ytlhpflicchchlaa.Beg Go.Proofs.Ytlhpflicchchlaa.Bld
open Go.Proofs.Ytlhpflicchchlaa.Num (L L_len L_range)
attribute [local go_sem] max2_int min2_int max_two min_two max_three min_three max_four min_four
set_option linter.unusedVariables false
set_option linter.unusedSimpArgs false
theorem beg_calls (t : ByteArray) (w : World) : Calls Try.prog 27 #[.string t] w fun e w' => e = .returned (.tuple #[.bool (beg (L t)).1, .bool (beg (L t)).2.1, .int .i64 (beg (L t)).2.2]) ∧ Below w.heap.size w w' :=
  riffleref02_Begins.calls 40 t _ _ _ w (begins_eq 40 (by omega) t)
def lets : List Int := [34, 92, 98, 102, 110, 114, 116]
def letterOf (x : Int) : Int := if x = 34 then 34 else if x = 92 then 92 else if x = 98 then 8 else if x = 102 then 12 else if x = 110 then 10 else if x = 114 then 13 else 9
theorem letter_calls (x : Int) (h : x ∈ lets) (w : World) : Calls Try.prog 28 #[.int .u8 x] w fun e w' => e = .returned (.int .u8 (letterOf x)) ∧ Below w.heap.size w w' := by
  refine riffleref06_letter.calls 12 x _ w ?_
  have : ∀ y ∈ lets, riffleref06_letter.f 12 y = some (letterOf y) := by decide +kernel
  exact this x h
theorem rlower_calls (k : Nat) (hk : k < 16) (w : World) : Calls Try.prog 29 #[.int .i64 (k : Int)] w fun e w' => e = .returned (.int .u8 ((hexOf k).toNat : Int)) ∧ Below w.heap.size w w' := by
  refine (riffleref01_Lower.calls 3 (k : Int) ((hexOf k).toNat : Int) w ?_).mono (fun e w' h => ⟨h.1, ?_⟩)
  · have : ∀ k : Fin 16, riffleref01_Lower.f 3 ((k.val : Nat) : Int) = some ((hexOf k.val).toNat : Int) := by decide +kernel
    exact this ⟨k, hk⟩
  · obtain ⟨n, rfl⟩ := h.2
    exact pw_below_drewN (Below.refl _ _) n
/-- Which letter stands for c, as the loop finds it: behind the first j letters. -/
def eGo (c : Int) (one : Bool) : List Int → Int → Int
  | [], e => e
  | x :: r, e => eGo c one r (if one = true ∧ letterOf x = c then x else e)
def refSign (s : ByteArray) (pos : Nat) : List UInt8 :=
  let n := lenOf ((L s).drop pos)
  let c := bt s pos
  if n = 0 then [239, 191, 189]
  else if eGo c (n == 1) lets 0 ≠ 0 then [92, (eGo c (n == 1) lets 0).toNat.toUInt8]
  else if c < 32 then [92, 117, 48, 48, hexOf (c.toNat / 16), hexOf (c.toNat % 16)]
  else (s.extract pos (pos + n)).data.toList
def rputFrom (s : ByteArray) : Nat → Nat → List UInt8
  | 0, _ => []
  | f + 1, pos => if pos < s.size then refSign s pos ++ rputFrom s f (pos + max 1 (lenOf ((L s).drop pos))) else []
def rputOf (s : ByteArray) : List UInt8 := 34 :: (rputFrom s s.size 0 ++ [34])
theorem rput_step (s : ByteArray) (d pos N : Nat) (h : pos < s.size) (hN : lenOf ((L s).drop pos) = N) : rputFrom s (d + 1) pos = refSign s pos ++ rputFrom s d (pos + max 1 N) := by
  rw [rputFrom, if_pos h, hN]
theorem ref_0 {s : ByteArray} {pos : Nat} (hN : lenOf ((L s).drop pos) = 0) : refSign s pos = [239, 191, 189] := by
  unfold refSign; simp only [hN, if_true]
theorem ref_e {s : ByteArray} {pos N : Nat} {c E : Int} (hN : lenOf ((L s).drop pos) = N) (h0 : N ≠ 0) (hc : bt s pos = c) (hE : eGo c (N == 1) lets 0 = E) (h : E ≠ 0) : refSign s pos = [92, E.toNat.toUInt8] := by
  unfold refSign; simp only [hN, hc, hE]; rw [if_neg h0, if_pos h]
theorem ref_low {s : ByteArray} {pos N : Nat} {c : Int} (hN : lenOf ((L s).drop pos) = N) (h0 : N ≠ 0) (hc : bt s pos = c) (hE : eGo c (N == 1) lets 0 = 0) (h : c < 32) : refSign s pos = [92, 117, 48, 48, hexOf (c.toNat / 16), hexOf (c.toNat % 16)] := by
  unfold refSign; simp only [hN, hc, hE]; rw [if_neg h0, if_neg (by simp), if_pos h]
theorem ref_plain {s : ByteArray} {pos N : Nat} {c : Int} (hN : lenOf ((L s).drop pos) = N) (h0 : N ≠ 0) (hc : bt s pos = c) (hE : eGo c (N == 1) lets 0 = 0) (h : ¬ c < 32) : refSign s pos = (s.extract pos (pos + N)).data.toList := by
  unfold refSign; simp only [hN, hc, hE]; rw [if_neg h0, if_neg (by simp), if_neg h]
theorem eGo_range (c : Int) (one : Bool) : ∀ (l : List Int) (e : Int), (∀ x ∈ l, 0 ≤ x ∧ x < 256) → (0 ≤ e ∧ e < 256) → 0 ≤ eGo c one l e ∧ eGo c one l e < 256
  | [], e, _, he => he
  | x :: r, e, hl, he => by
    unfold eGo
    refine eGo_range c one r _ (fun y hy => hl y (by simp [hy])) ?_
    split
    · exact hl x (by simp)
    · exact he
theorem lets_range : ∀ x ∈ lets, 0 ≤ x ∧ x < 256 := by decide
theorem rput_end (s : ByteArray) (f pos : Nat) (h : ¬ pos < s.size) : rputFrom s f pos = [] := by
  cases f with
  | zero => rfl
  | succ f => simp [rputFrom, h]
theorem lenGo_le (l : List Int) : ∀ (f i : Nat), lenGo l f i ≤ l.length
  | 0, _ => Nat.zero_le _
  | f + 1, i => by
    unfold lenGo
    split
    · split
      · split
        · assumption
        · exact lenGo_le l f (i + 1)
      · exact Nat.zero_le _
    · exact Nat.zero_le _
theorem lenOf_le (s : ByteArray) (pos : Nat) : lenOf ((L s).drop pos) ≤ s.size - pos := by
  have h := lenGo_le ((L s).drop pos) ((L s).drop pos).length 1
  rw [List.length_drop, L_len] at h
  unfold lenOf
  rw [List.length_drop, L_len]
  exact h
theorem own_text {w : World} {B : Nat} {v : Value} {l : List UInt8} (h : w.ownsRow B 5 1 v l.length (Lib.byteCells l)) (h0 : 0 < l.length) : (convert 22 9 v).run Try.prog w = .ok (.string ⟨l.toArray⟩) w := by
  rcases h.2 with ⟨_, hn⟩ | ⟨g, cap, cur, rfl, hbg, hg, hnc, hc, hsz, hx⟩
  · omega
  · refine run_convert_bytes_back _ 22 9 5 ⟨g, 0, none⟩ cap l Try.underlying22 Try.underlying5 Try.underlying9 ?_
    intro j hj
    have h1 : (Lib.byteCells l)[j]? = some (.int .u8 (l[j].toNat : Int)) := by simp [Lib.byteCells, hj]
    rw [← hx, List.getElem?_take, if_pos (by omega), Array.getElem?_toList] at h1
    have h2 := (blk_cell hg j).trans h1
    rw [show (⟨g, 0, none⟩ : Addr).add j = ⟨g, j, none⟩ by cases j <;> simp [Addr.add]]
    exact h2
theorem toByte (E : Int) (h0 : 0 ≤ E) (h1 : E < 256) : ((E.toNat.toUInt8).toNat : Int) = E := by
  rw [show (E.toNat.toUInt8).toNat = E.toNat % 256 from UInt8.toNat_ofNat']
  omega
theorem cells_e (E : Int) (h0 : 0 ≤ E) (h1 : E < 256) : [Value.int .u8 92, .int .u8 E] = Lib.byteCells [92, E.toNat.toUInt8] := by
  have h := toByte E h0 h1
  show _ = [Value.int .u8 92, Value.int .u8 ((E.toNat.toUInt8).toNat : Int)]
  rw [h]
theorem low_facts (c : Int) (h0 : 0 ≤ c) (h1 : c < 32) : ∃ k a b : Nat, c = (k : Int) ∧ a = k / 16 ∧ b = k % 16 ∧ a < 16 ∧ b < 16 ∧ Int.tdiv (k : Int) 16 = (a : Int) ∧ Int.tmod (k : Int) 16 = (b : Int) ∧ wrap64 (a : Int) = (a : Int) ∧ wrap64 (k : Int) = (k : Int) := by
  refine ⟨c.toNat, c.toNat / 16, c.toNat % 16, by omega, rfl, rfl, by omega, by omega, ?_, ?_, by unfold wrap64; omega, by unfold wrap64; omega⟩
  · rw [Int.tdiv_eq_ediv_of_nonneg (by omega)]; omega
  · rw [Int.tmod_eq_emod_of_nonneg (by omega)]; omega
theorem sum_facts (pos N n : Nat) (h : n ≤ 1099511627776) (hp : pos < n) (hN : N ≤ n - pos) : ∃ m : Nat, m = pos + N ∧ wrap64 ((pos : Int) + (N : Int)) = (m : Int) ∧ IntKind.i64.wrap ((pos : Int) + (N : Int)) = (m : Int) ∧ (0 : Int) ≤ (pos : Int) ∧ (pos : Int) ≤ (m : Int) ∧ pos ≤ m ∧ (m : Int) ≤ (n : Int) ∧ m ≤ n ∧ (0 : Int) ≤ (m : Int) ∧ wrap64 (m : Int) = (m : Int) ∧ (pos : Int) + (N : Int) = (m : Int) :=
  ⟨pos + N, rfl, by unfold wrap64; omega, (IntWalk.i64_in _ (by omega)).trans (by omega), by omega, by omega, by omega, by omega, by omega, by omega, by unfold wrap64; omega, by omega⟩
theorem strCells_ext (t : ByteArray) : Lib.strCells t = Lib.byteCells t.data.toList := by
  simp [Lib.strCells, Lib.byteCells]
theorem ext_size (s : ByteArray) (pos m N : Nat) (hm : m = pos + N) (h : m ≤ s.size) : (s.extract pos m).size = N := by
  rw [ByteArray.size_extract]; omega
theorem max1 {N : Nat} (h : N ≠ 0) : max 1 N = N := by omega
theorem sub_take (s : ByteArray) (pos i j : Nat) (h : i = pos + j) : L (s.extract pos i) = ((L s).drop pos).take j := by
  rw [range_L, List.drop_take, h, show pos + j - pos = j by omega]
theorem own_first (w : World) (B : Nat) (hB : B ≤ w.heap.size) (c : Int) : (w.alloc (.cells #[.int .u8 c] 5)).ownsRow B 5 1 (.slice (some ⟨w.heap.size, 0, none⟩) 1 1) 1 [.int .u8 c] :=
  ⟨rfl, .inr ⟨w.heap.size, 1, #[.int .u8 c], rfl, hB, heap_alloc_new w _, by omega, by unfold maxLen; omega, rfl, rfl⟩⟩
theorem grown_below' {w w1 w2 : World} {B : Nat} {v : Value} {n : Nat} {xs : List Value} (hb : Below B w w1) (hB : B ≤ w1.heap.size) (hown : w1.ownsRow B 5 1 v n xs) (hg : w1.grownBy w2 v.ownBlock) : Below B w w2 :=
  hb.grown hg hB (fun k hk => (hown.lt k hk).1)
theorem own_below {w w' : World} {B n m : Nat} {e : TypeId} {v : Value} {xs : List Value} (h : w.ownsRow B e n v m xs) (hb : Below w.heap.size w w') : w'.ownsRow B e n v m xs := by
  refine ⟨h.1, ?_⟩
  rcases h.2 with hn | ⟨g, cap, cur, hv, hbg, hg, rest⟩
  · exact .inl hn
  · exact .inr ⟨g, cap, cur, hv, hbg, (hb.block g (Array.getElem?_eq_some_iff.1 hg).1).trans hg, rest⟩
theorem lit_cells (W : World) (news : List Value) : ∀ (j : Nat) u, news[j]? = some u → (W.alloc (.cells news.toArray 5)).cell? ((⟨W.heap.size, 0, none⟩ : Addr).add j) = some u := by
  intro j u hj
  rw [show (⟨W.heap.size, 0, none⟩ : Addr).add j = ⟨W.heap.size, j, none⟩ by cases j <;> simp [Addr.add]]
  exact (blk_cell (heap_alloc_new W _) j).trans (by simpa using hj)
theorem own_cells {W : World} {B k : Nat} {v : Value} {acc new : List UInt8} {cs : List Value} (h : W.ownsRow B 5 1 v (acc.length + k) (Lib.byteCells acc ++ cs)) (hc : cs = Lib.byteCells new) (hk : k = new.length) : W.ownsRow B 5 1 v (acc ++ new).length (Lib.byteCells (acc ++ new)) := by
  subst hc hk
  rw [List.length_append, Lib.byteCells_append]
  exact h
set_option maxHeartbeats 16000000 in
set_option maxRecDepth 100000 in
theorem rput_calls (s : ByteArray) (w : World) (hs : s.size ≤ 1099511627776) :
    Calls Try.prog 16 #[.string s] w fun e w' => e = .returned (.string ⟨(rputOf s).toArray⟩) ∧ Below w.heap.size w w' := by
  obtain ⟨i0, hi, hz0, hz1, hz2⟩ := info_parts Bld.info5
  go_enter Try.func16, Try.ntmps16
  go_wp2
  go_loopg [3, 4] s.size (fun kq v3 v4 w' => ∃ (pos : Nat) (acc : List UInt8) (vo : Value), vo = v3 ∧ v4 = .int .i64 pos ∧ Aside0 (w'.ownsRow w.heap.size 5 1 v3 acc.length (Lib.byteCells acc)) ∧ Aside0 (Below w.heap.size w w') ∧ Aside0 (acc ++ rputFrom s kq pos = 34 :: rputFrom s s.size 0) ∧ Aside0 (s.size ≤ pos + kq ∧ pos ≤ s.size ∧ 1 ≤ acc.length ∧ acc.length ≤ 6 * pos + 1))
  case atStart =>
    refine ⟨0, [34], _, rfl, rfl, ⟨own_first w w.heap.size (Nat.le_refl _) 34⟩, ⟨below_alloc (Below.refl _ _) _⟩, ⟨rfl⟩, ⟨by simp⟩⟩
  case round =>
    obtain ⟨pos, acc, vo, rfl, rfl, HO, HB, HA, HK⟩ := hrel
    obtain ⟨hk1, hk2, hk3, hk4⟩ := HK.out
    have HS0 := Aside0.mk hs
    by_cases hp : pos < s.size
    · obtain ⟨d, rfl⟩ : ∃ d, gk = d + 1 := ⟨gk - 1, by omega⟩
      obtain ⟨N, hN⟩ : ∃ N, lenOf ((L s).drop pos) = N := ⟨_, rfl⟩
      have hNle := lenOf_le s pos
      rw [hN] at hNle
      have HN := Aside0.mk hN
      have c1 : decide ((pos : Int) < (s.size : Int)) = true := by simp; omega
      have c1n : decide (pos < s.size) = true := by simp; omega
      have i7 : IntKind.i64.wrap ((pos : Int) + 1) = (pos : Int) + 1 := IntWalk.i64_in _ (by omega)
      have i3 : wrap64 ((pos : Int) + 1) = (pos : Int) + 1 := by unfold wrap64; omega
      have HS := Aside0.mk hs
      have HP := Aside0.mk hp
      have HL := Aside0.mk hNle
      clear hk1 hk2 hk3 hk4 hp hs hNle hN
      go_upto_block 2 with (fail)
      go_cut [5] (fun v5 wc => v5 = .int .i64 (N : Int) ∧ Aside0 (wc.ownsRow w.heap.size 5 1 vo acc.length (Lib.byteCells acc)) ∧ Aside0 (Below w.heap.size w wc))
      case first =>
        go_wp2_with (fail)
        go_loopg [5, 6] (s.size - pos) (fun kq v5 v6 w' => ∃ (j i n : Nat), v5 = .int .i64 (n : Int) ∧ v6 = .int .i64 (i : Int) ∧ Aside0 (i = pos + j ∧ 1 ≤ j ∧ ((n = 0 ∧ lenGo ((L s).drop pos) kq j = N ∧ j + kq = s.size - pos + 1) ∨ (n = N ∧ n ≠ 0 ∧ i ≤ s.size + 1))) ∧ Aside0 (w'.ownsRow w.heap.size 5 1 vo acc.length (Lib.byteCells acc)) ∧ Aside0 (Below w.heap.size w w'))
        case atStart =>
          have hp := HP.out
          refine ⟨1, pos + 1, 0, rfl, by simp, ⟨rfl, by omega, .inl ⟨rfl, ?_, by omega⟩⟩, HO, HB⟩
          have := HN.out
          unfold lenOf at this
          rwa [List.length_drop, L_len] at this
        case round =>
          clear HO HB
          obtain ⟨j, i, n, rfl, rfl, HJ, HO, HB⟩ := hrel
          obtain ⟨hi0, hj1, hJ⟩ := HJ.out
          have hs := HS.out
          have hp := HP.out
          have HW := beg_calls (s.extract pos i)
          rw [sub_take s pos i j hi0] at HW
          have i8 : IntKind.i64.wrap ((i : Int) + 1) = (i : Int) + 1 := IntWalk.i64_in _ (by omega)
          have i9 : wrap64 ((i : Int) + 1) = (i : Int) + 1 := by unfold wrap64; omega
          by_cases hn : n = 0
          · subst hn
            obtain ⟨hg, hjk⟩ : lenGo ((L s).drop pos) gk j = N ∧ j + gk = s.size - pos + 1 := by
              rcases hJ with h | h
              · exact h.2
              · exact absurd rfl h.2.1
            by_cases hk0 : gk = 0
            · subst hk0
              have d1 : decide ((i : Int) ≤ (s.size : Int)) = false := by simp; omega
              have d1n : decide (i ≤ s.size) = false := by simp; omega
              have hN0 : N = 0 := by rw [← hg]; rfl
              subst hN0
              clear hi0 hj1 hJ hs hp hg hjk HJ
              go_wp2_with (fail)
              go_meet
              case rel => exact ⟨rfl, HO, HB⟩
            · obtain ⟨f, rfl⟩ : ∃ f, gk = f + 1 := ⟨gk - 1, by omega⟩
              have d1 : decide ((i : Int) ≤ (s.size : Int)) = true := by simp; omega
              have d1n : decide (i ≤ s.size) = true := by simp; omega
              have i1 : (0 : Int) ≤ (pos : Int) := by omega
              have i2 : (pos : Int) ≤ (i : Int) := by omega
              have i2n : pos ≤ i := by omega
              have i4 : (i : Int) ≤ (s.size : Int) := by omega
              have i4n : i ≤ s.size := by omega
              have i5 : (0 : Int) ≤ (i : Int) := by omega
              have hjl : j ≤ ((L s).drop pos).length := by rw [List.length_drop, L_len]; omega
              have HX := Aside0.mk hjl
              have HG := Aside0.mk hg
              have HJK := Aside0.mk hjk
              have HI := Aside0.mk hi0
              have HJ1 := Aside0.mk hj1
              have HIS := Aside0.mk i4n
              obtain ⟨b1, hb1⟩ : ∃ b, (beg (((L s).drop pos).take j)).1 = b := ⟨_, rfl⟩
              obtain ⟨b2, hb2⟩ : ∃ b, (beg (((L s).drop pos).take j)).2.1 = b := ⟨_, rfl⟩
              rw [hb1, hb2] at HW
              have HW' := Aside0.mk HW
              have HB1 := Aside0.mk hb1
              have HB2 := Aside0.mk hb2
              clear hi0 hj1 hJ hs hp hg hjk HJ hk0 hjl HW hb1 hb2
              go_wp2_with (fail)
              go_at_call 27
              refine (HW'.out _).mono ?_
              rintro e w3 ⟨rfl, hb⟩
              have HO3 := Aside0.mk (own_below HO.out hb)
              have HB3 := Aside0.mk (below_step HB.out hb)
              clear hb HO HB
              cases b1 with
              | false =>
                have hN0 : N = 0 := by rw [← HG.out]; exact go_bad _ _ _ HB1.out
                subst hN0
                go_wp2_with (fail)
                go_meet
                case rel => exact ⟨rfl, HO3, HB3⟩
              | true =>
                cases b2 with
                | true =>
                  have hNj : N = j := by
                    rw [← HG.out]; unfold lenGo; rw [if_pos HX.out, if_pos HB1.out, if_pos HB2.out]
                  subst hNj
                  have q1 : i + 1 = pos + (N + 1) := by have := HI.out; omega
                  have q2 : 1 ≤ N + 1 := by omega
                  have q3 : N ≠ 0 := by have := HJ1.out; omega
                  have q4 : i + 1 ≤ s.size + 1 := by have := HIS.out; omega
                  have Q1 := Aside0.mk q1
                  have Q2 := Aside0.mk q2
                  have Q3 := Aside0.mk q3
                  have Q4 := Aside0.mk q4
                  clear q1 q2 q3 q4
                  have e1 : (i : Int) - (pos : Int) = (N : Int) := by have := HI.out; omega
                  have e2 : IntKind.i64.wrap ((i : Int) - (pos : Int)) = (N : Int) := by rw [e1]; exact IntWalk.i64_in _ (by have := HJK.out; have := HS.out; omega)
                  have e3 : wrap64 ((i : Int) - (pos : Int)) = (N : Int) := by rw [e1]; have := HJK.out; have := HS.out; unfold wrap64; omega
                  go_wp2_with (fail)
                  go_roundg f
                  case measure => omega
                  case rel =>
                    have e4 : wrap64 (N : Int) = (N : Int) := by have := HJK.out; have := HS.out; unfold wrap64; omega
                    exact ⟨N + 1, i + 1, N, by rw [e4], by simp, ⟨⟨Q1.out, Q2.out, .inr ⟨rfl, Q3.out, Q4.out⟩⟩⟩, HO3, HB3⟩
                | false =>
                  go_wp2_with (fail)
                  go_roundg f
                  case measure => omega
                  case rel =>
                    refine ⟨j + 1, i + 1, 0, rfl, by simp, ⟨by have := HI.out; omega, by omega, .inl ⟨rfl, ?_, by have := HJK.out; omega⟩⟩, HO3, HB3⟩
                    rw [← HG.out]
                    exact (by conv => rhs; unfold lenGo; rw [if_pos HX.out, if_pos HB1.out, if_neg (by rw [HB2.out]; simp)])
          · have hnN : n = N := by
              rcases hJ with h | h
              · exact absurd h.1 hn
              · exact h.1
            subst hnN
            have dn : ((n : Int) == 0) = false := by simp; exact hn
            have dn2 : decide ((n : Int) = 0) = false := by simp; exact hn
            have dn3 : decide (n = 0) = false := by simp; exact hn
            by_cases hle : i ≤ s.size
            · have d1 : decide ((i : Int) ≤ (s.size : Int)) = true := by simp; omega
              have d1n : decide (i ≤ s.size) = true := by simp; omega
              clear hi0 hj1 hJ hs hp HJ HW
              go_wp2_with (fail)
              go_meet
              case rel => exact ⟨rfl, HO, HB⟩
            · have d1 : decide ((i : Int) ≤ (s.size : Int)) = false := by simp; omega
              have d1n : decide (i ≤ s.size) = false := by simp; omega
              clear hi0 hj1 hJ hs hp HJ HW
              go_wp2_with (fail)
              go_meet
              case rel => exact ⟨rfl, HO, HB⟩
      case rest =>
        clear HO HB
        obtain ⟨rfl, HO, HB⟩ := hcut
        have hp := HP.out
        have hs := HS.out
        obtain ⟨hk1, hk2, hk3, hk4⟩ := HK.out
        have hx : ∀ h : pos < s.size, ((s[pos]'h).toNat : Int) = bt s pos := bt_at s pos
        have hcr := bt_ok s pos
        obtain ⟨c, hc⟩ : ∃ c, bt s pos = c := ⟨_, rfl⟩
        rw [hc] at hcr
        simp only [hc] at hx
        have HC := Aside0.mk hc
        have HCR := Aside0.mk hcr
        have q1 : (0 : Int) ≤ (pos : Int) := by omega
        have q2 : (pos : Int) < (s.size : Int) := by omega
        have q3 := eq_true hp
        have i8 : acc.length + 6 ≤ 140737488355328 := by omega
        have I8 := Aside0.mk i8
        clear hc hcr hk1 hk2 hk3 hk4 hs i8
        by_cases hN0 : N = 0
        · subst hN0
          clear hp
          go_wp2_with (at_builtin; refine wpList_append_own _ rfl _ _ 22 rfl w.heap.size 5 i0 (.int .u8 0) 1 1 Try.underlying22 hi hz0 hz1 hz2 rfl (by decide) _ _ _ rfl (HO.out.alloc _) ⟨wc.heap.size, 0, none⟩ 3 3 [.int .u8 239, .int .u8 191, .int .u8 189] rfl rfl (lit_cells _ _) ?c2 ?c3 ?c4 ?c5 ?_)
          case c2 => intro u hu; simp at hu; rcases hu with rfl | rfl | rfl <;> rfl
          case c3 => have := I8.out; unfold maxLen; omega
          case c4 => have := I8.out; omega
          case c5 => have := HB.out.size; simp; omega
          intro v' w2 hown' hgrow _
          have HO2 := Aside0.mk (own_cells (new := [239, 191, 189]) hown' (rfl) rfl)
          have HB2 := Aside0.mk (grown_below' (below_alloc HB.out _) (by have := HB.out.size; simp; omega) (HO.out.alloc _) hgrow)
          clear hown' hgrow
          (first | go_wp2_with (fail) | skip)
          go_roundg d
          case measure => omega
          case rel =>
            have hp := HP.out
            obtain ⟨hk1, hk2, hk3, hk4⟩ := HK.out
            have hle := HL.out
            
            refine ⟨pos + 1, acc ++ [239, 191, 189], _, rfl, by first | rfl | (simp; done) | (simp [*]; done), HO2, HB2, ⟨?_⟩, ⟨by omega, by omega, by first | (simp; done) | (simp; omega), ?_⟩⟩
            · rw [← HA.out, rput_step s d pos _ HP.out HN.out, ref_0 HN.out]
              simp
            · simp; omega
        · have HN0 := Aside0.mk hN0
          have n1 : ((N : Int) == 0) = false := by simp; exact hN0
          have n2 : decide ((N : Int) = 0) = false := by simp; exact hN0
          have n3 : decide (N = 0) = false := by simp; exact hN0
          obtain ⟨E, hE⟩ : ∃ E, eGo c (N == 1) lets 0 = E := ⟨_, rfl⟩
          have HE := Aside0.mk hE
          have HER := Aside0.mk (hE ▸ eGo_range c (N == 1) lets 0 lets_range (by omega) : 0 ≤ E ∧ E < 256)
          clear hN0 hE hp
          obtain ⟨m, hm, sf⟩ := sum_facts pos N s.size HS.out HP.out HL.out
          have Hm := Aside0.mk hm
          have SF := Aside0.mk sf
          clear hm sf
          go_upto_block 4 with (fail)
          go_cut [11] (fun v11 wc2 => v11 = .int .u8 E ∧ Aside0 (wc2.ownsRow w.heap.size 5 1 vo acc.length (Lib.byteCells acc)) ∧ Aside0 (Below w.heap.size w wc2))
          case first =>
            go_wp2_with (fail)
            have HB7 : Aside0 ((wc.alloc (.cells #[.int .u8 34, .int .u8 92, .int .u8 98, .int .u8 102, .int .u8 110, .int .u8 114, .int .u8 116] 5)).heap[wc.heap.size]? = some (.cells #[.int .u8 34, .int .u8 92, .int .u8 98, .int .u8 102, .int .u8 110, .int .u8 114, .int .u8 116] 5 (0, 0))) := ⟨heap_alloc_new wc _⟩
            go_loopg [11, 58] 7 (fun kq v11 v58 w' => ∃ (j : Nat) (e0 : Int) (W : World), W = w' ∧ v58 = .int .i64 (j : Int) ∧ v11 = .int .u8 e0 ∧ Aside0 (j + kq = 7) ∧ Aside0 (eGo c (N == 1) (lets.drop j) e0 = E) ∧ Aside0 (w'.ownsRow w.heap.size 5 1 vo acc.length (Lib.byteCells acc)) ∧ Aside0 (Below w.heap.size w w') ∧ Aside0 (w'.heap[wc.heap.size]? = some (.cells #[.int .u8 34, .int .u8 92, .int .u8 98, .int .u8 102, .int .u8 110, .int .u8 114, .int .u8 116] 5 (0, 0))))
            case atStart => exact ⟨0, 0, _, rfl, by simp, rfl, ⟨by omega⟩, HE, ⟨HO.out.alloc _⟩, ⟨below_alloc HB.out _⟩, HB7⟩
            case round =>
              clear HO HB HB7
              obtain ⟨j, e0, W, rfl, rfl, rfl, HJ, HG, HO, HB, HB7⟩ := hrel
              have hj := HJ.out
              by_cases h7 : j = 7
              · subst h7
                have hE0 : e0 = E := by have := HG.out; simpa [lets, eGo] using this
                subst hE0
                clear hj
                go_wp2_with (fail)
                go_meet
                case rel => exact ⟨rfl, HO, HB⟩
              · obtain ⟨f, rfl⟩ : ∃ f, gk = f + 1 := ⟨gk - 1, by omega⟩
                obtain ⟨x, hx7⟩ : ∃ x, lets[j]? = some x := ⟨lets[j]'(by simp [lets]; omega), List.getElem?_eq_getElem _⟩
                have hmem : x ∈ lets := List.mem_of_getElem? hx7
                have hdrop : lets.drop j = x :: lets.drop (j + 1) := by
                  rw [List.drop_eq_getElem_cons (by simp [lets]; omega)]
                  congr 1
                  rw [List.getElem?_eq_getElem (by simp [lets]; omega)] at hx7
                  exact Option.some.inj hx7
                have hcell : W.cell? ⟨wc.heap.size, j, none⟩ = some (.int .u8 x) := by
                  refine (blk_cell HB7.out j).trans ?_
                  have : (lets.map (Value.int .u8))[j]? = some (.int .u8 x) := by rw [List.getElem?_map, hx7]; rfl
                  simpa [lets] using this
                have m1 : (j : Int) < 7 := by omega
                have m2 : decide ((j : Int) < 7) = true := by simp; omega
                have m2n : decide (j < 7) = true := by simp; omega
                have m3 : (0 : Int) ≤ (j : Int) := by omega
                have m4 : j < 7 := by omega
                have m5 : IntKind.i64.wrap ((j : Int) + 1) = (j : Int) + 1 := IntWalk.i64_in _ (by omega)
                have m6 : wrap64 ((j : Int) + 1) = (j : Int) + 1 := by unfold wrap64; omega
                rw [hdrop] at HG
                have HLC := Aside0.mk (letter_calls x hmem)
                clear hx7 hmem hdrop hj h7
                by_cases hN1 : N = 1
                · subst hN1
                  go_wp2_with (fail)
                  go_at_call 28
                  refine (HLC.out _).mono ?_
                  rintro e w3 ⟨rfl, hb⟩
                  have HO3 := Aside0.mk (own_below HO.out hb)
                  have HB3 := Aside0.mk (below_step HB.out hb)
                  have HB73 := Aside0.mk ((hb.block _ (blk_lt HB7.out)).trans HB7.out)
                  clear hb HO HB HB7 hcell
                  by_cases hl : letterOf x = c
                  · have l1 : (letterOf x == c) = true := by simp; exact hl
                    have l2 : decide (letterOf x = c) = true := by simp; exact hl
                    have HG2 : Aside0 (eGo c (1 == 1) (lets.drop (j + 1)) x = E) := ⟨by have := HG.out; simpa [eGo, hl] using this⟩
                    go_wp2_with (fail)
                    go_roundg f
                    case measure => omega
                    case rel => exact ⟨j + 1, x, _, rfl, by simp, rfl, ⟨by have := HJ.out; omega⟩, HG2, HO3, HB3, HB73⟩
                  · have l1 : (letterOf x == c) = false := by simp; exact hl
                    have l2 : decide (letterOf x = c) = false := by simp; exact hl
                    have HG2 : Aside0 (eGo c (1 == 1) (lets.drop (j + 1)) e0 = E) := ⟨by have := HG.out; simpa [eGo, hl] using this⟩
                    go_wp2_with (fail)
                    go_roundg f
                    case measure => omega
                    case rel => exact ⟨j + 1, e0, _, rfl, by simp, rfl, ⟨by have := HJ.out; omega⟩, HG2, HO3, HB3, HB73⟩
                · have l1 : ((N : Int) == 1) = false := by simp; omega
                  have l2 : decide ((N : Int) = 1) = false := by simp; omega
                  have l3 : decide (N = 1) = false := by simp; omega
                  have HG2 : Aside0 (eGo c (N == 1) (lets.drop (j + 1)) e0 = E) := ⟨by have := HG.out; simpa [eGo, hN1] using this⟩
                  clear hN1
                  go_wp2_with (fail)
                  go_roundg f
                  case measure => omega
                  case rel => exact ⟨j + 1, e0, _, rfl, by simp, rfl, ⟨by have := HJ.out; omega⟩, HG2, HO, HB, HB7⟩
          case rest =>
            clear HO HB
            obtain ⟨rfl, HO, HB⟩ := hcut
            by_cases hE0 : E = 0
            · subst hE0
              by_cases hlow : c < 32
              · have l1 : decide (c < 32) = true := by simp; exact hlow
                obtain ⟨k, a, b, rfl, ha, hb, ha16, hb16, e1, e2, e3, e4⟩ := low_facts c HCR.out.1 hlow
                have HA1 := Aside0.mk (rlower_calls a ha16)
                have HA2 := Aside0.mk (rlower_calls b hb16)
                have HAB := Aside0.mk (And.intro ha hb)
                have HLW := Aside0.mk hlow
                clear ha hb hlow ha16 hb16
                go_wp2_with (fail)
                go_at_call 29
                refine (HA1.out _).mono ?_
                rintro e w3 ⟨rfl, hb⟩
                have HO3 := Aside0.mk (own_below HO.out hb)
                have HB3 := Aside0.mk (below_step HB.out hb)
                clear hb HO HB
                go_wp2_with (fail)
                go_at_call 29
                refine (HA2.out _).mono ?_
                rintro e w4 ⟨rfl, hb⟩
                have HO4 := Aside0.mk (own_below HO3.out hb)
                have HB4 := Aside0.mk (below_step HB3.out hb)
                clear hb HO3 HB3
                go_wp2_with (at_builtin; refine wpList_append_own _ rfl _ _ 22 rfl w.heap.size 5 i0 (.int .u8 0) 1 1 Try.underlying22 hi hz0 hz1 hz2 rfl (by decide) _ _ _ rfl (HO4.out.alloc _) ⟨w4.heap.size, 0, none⟩ 6 6 [.int .u8 92, .int .u8 117, .int .u8 48, .int .u8 48, .int .u8 ((hexOf a).toNat : Int), .int .u8 ((hexOf b).toNat : Int)] rfl rfl (lit_cells _ _) ?c2 ?c3 ?c4 ?c5 ?_)
                case c2 => intro u hu; simp at hu; rcases hu with rfl | rfl | rfl | rfl | rfl | rfl <;> rfl
                case c3 => have := I8.out; unfold maxLen; omega
                case c4 => have := I8.out; omega
                case c5 => have := HB4.out.size; simp; omega
                intro v' w2 hown' hgrow _
                have HO2 := Aside0.mk (own_cells (new := [92, 117, 48, 48, hexOf a, hexOf b]) hown' (rfl) rfl)
                have HB2 := Aside0.mk (grown_below' (below_alloc HB4.out _) (by have := HB4.out.size; simp; omega) (HO4.out.alloc _) hgrow)
                clear hown' hgrow
                have p1 := SF.out.1
                (first | go_wp2_with (fail) | skip)
                go_roundg d
                case measure => omega
                case rel =>
                  have hp := HP.out
                  obtain ⟨hk1, hk2, hk3, hk4⟩ := HK.out
                  have hle := HL.out
                  have hm := Hm.out
                  have hn0 := HN0.out
                  refine ⟨m, acc ++ [92, 117, 48, 48, hexOf a, hexOf b], _, rfl, by first | rfl | (simp; done) | (simp [*]; done), HO2, HB2, ⟨?_⟩, ⟨by omega, by omega, by first | (simp; done) | (simp; omega), ?_⟩⟩
                  · rw [← HA.out, rput_step s d pos _ HP.out HN.out, ref_low HN.out HN0.out HC.out HE.out HLW.out]
                    simp [max1 HN0.out, HAB.out.1, HAB.out.2, hm]
                  · simp; omega
              · have l1 : decide (c < 32) = false := by simp; omega
                have HLW := Aside0.mk hlow
                obtain ⟨p1, p2, p3, p4, p5, p6, p7, p8, p9, p10⟩ := SF.out
                have hxs : (s.extract pos m).size = N := ext_size s pos m N Hm.out p7
                clear hlow
                go_wp2_with (at_builtin; refine Lib.wpList_append_own_string _ rfl _ _ 22 9 rfl w.heap.size 5 i0 Try.underlying22 Try.underlying9 hi hz0 hz1 hz2 _ _ _ rfl HO.out (s.extract pos m) rfl ?c3 ?c4 ?c5 ?_)
                case c3 => have := I8.out; have := HL.out; have := HS.out; have := HK.out; have := HP.out; unfold maxLen; omega
                case c4 => have := I8.out; have := HL.out; have := HS.out; have := HK.out; have := HP.out; omega
                case c5 => have := HB.out.size; omega
                clear p1 p2 p3 p4 p5 p6 p7 p8 p9 p10
                intro v' w2 hown' hgrow _
                have HO2 := Aside0.mk (own_cells (new := (s.extract pos m).data.toList) hown' (strCells_ext _) (by rw [← hxs]; rfl))
                have HB2 := Aside0.mk (grown_below' HB.out (by have := HB.out.size; omega) HO.out hgrow)
                have HXS := Aside0.mk hxs
                clear hown' hgrow hxs
                have p1 := SF.out.1
                (first | go_wp2_with (fail) | skip)
                go_roundg d
                case measure => omega
                case rel =>
                  have hp := HP.out
                  obtain ⟨hk1, hk2, hk3, hk4⟩ := HK.out
                  have hle := HL.out
                  have hm := Hm.out
                  have hn0 := HN0.out
                  refine ⟨m, acc ++ (s.extract pos m).data.toList, _, rfl, by first | rfl | (simp; done) | (simp [*]; done), HO2, HB2, ⟨?_⟩, ⟨by omega, by omega, by first | (simp; done) | (simp; omega), ?_⟩⟩
                  · rw [← HA.out, rput_step s d pos _ HP.out HN.out, ref_plain HN.out HN0.out HC.out HE.out (by have := HLW.out; omega)]
                    simp [max1 HN0.out, hm]
                  · simp; omega
            · have l1 : (E == 0) = false := by simp; exact hE0
              have l2 : decide (E = 0) = false := by simp; exact hE0
              have HE0 := Aside0.mk hE0
              clear hE0
              go_wp2_with (at_builtin; refine wpList_append_own _ rfl _ _ 22 rfl w.heap.size 5 i0 (.int .u8 0) 1 1 Try.underlying22 hi hz0 hz1 hz2 rfl (by decide) _ _ _ rfl (HO.out.alloc _) ⟨wc.heap.size, 0, none⟩ 2 2 [.int .u8 92, .int .u8 E] rfl rfl (lit_cells _ _) ?c2 ?c3 ?c4 ?c5 ?_)
              case c2 => intro u hu; simp at hu; rcases hu with rfl | rfl <;> rfl
              case c3 => have := I8.out; unfold maxLen; omega
              case c4 => have := I8.out; omega
              case c5 => have := HB.out.size; simp; omega
              intro v' w2 hown' hgrow _
              have HO2 := Aside0.mk (own_cells (new := [92, E.toNat.toUInt8]) hown' (cells_e E HER.out.1 HER.out.2) rfl)
              have HB2 := Aside0.mk (grown_below' (below_alloc HB.out _) (by have := HB.out.size; simp; omega) (HO.out.alloc _) hgrow)
              clear hown' hgrow
              have p1 := SF.out.1
              (first | go_wp2_with (fail) | skip)
              go_roundg d
              case measure => omega
              case rel =>
                have hp := HP.out
                obtain ⟨hk1, hk2, hk3, hk4⟩ := HK.out
                have hle := HL.out
                have hm := Hm.out
                have hn0 := HN0.out
                refine ⟨m, acc ++ [92, E.toNat.toUInt8], _, rfl, by first | rfl | (simp; done) | (simp [*]; done), HO2, HB2, ⟨?_⟩, ⟨by omega, by omega, by first | (simp; done) | (simp; omega), ?_⟩⟩
                · rw [← HA.out, rput_step s d pos _ HP.out HN.out, ref_e HN.out HN0.out HC.out HE.out HE0.out]
                  simp [max1 HN0.out, hm]
                · simp; omega
    · have HKX := HK.out
      have hs := HS0.out
      have I8 : Aside0 (acc.length + 6 ≤ 140737488355328) := ⟨by omega⟩
      have HPN := Aside0.mk hp
      have c1 : decide ((pos : Int) < (s.size : Int)) = false := by simp; omega
      have c1n : decide (pos < s.size) = false := by simp; omega
      clear hk1 hk2 hk3 hk4 hp HKX hs
      go_wp2_with (at_builtin; refine wpList_append_own _ rfl _ _ 22 rfl w.heap.size 5 i0 (.int .u8 0) 1 1 Try.underlying22 hi hz0 hz1 hz2 rfl (by decide) _ _ _ rfl (HO.out.alloc _) ⟨wr.heap.size, 0, none⟩ 1 1 [.int .u8 34] rfl rfl (lit_cells _ _) ?c2 ?c3 ?c4 ?c5 ?_)
      case c2 => intro u hu; simp at hu; subst hu <;> rfl
      case c3 => have := I8.out; unfold maxLen; omega
      case c4 => have := I8.out; omega
      case c5 => have := HB.out.size; simp; omega
      intro v' w2 hown' hgrow _
      have HO2 := Aside0.mk (own_cells (new := [34]) hown' (rfl) rfl)
      have HB2 := Aside0.mk (grown_below' (below_alloc HB.out _) (by have := HB.out.size; simp; omega) (HO.out.alloc _) hgrow)
      clear hown' hgrow
      have hcv := own_text HO2.out (by simp)
      go_wp2_with (fail)
      go_ret
      refine ⟨?_, HB2.out⟩
      have := HA.out
      rw [rput_end s _ pos HPN.out, List.append_nil] at this
      unfold rputOf
      rw [this]
      simp
end Go.Proofs.Ytlhpflicchchlaa.RPut
