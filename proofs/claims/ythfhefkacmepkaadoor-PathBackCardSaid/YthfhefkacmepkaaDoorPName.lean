/- riffleref13.Name, walked; it is path.Name. Conditions: a text of at most 2^40 bytes. -/
import Derived.Test.YthfhefkacmepkaaDoorPSign
namespace Go.Proofs.YthfhefkacmepkaaDoor.PS
open Go.RowKit Go.Proofs.YthfhefkacmepkaaDoorW.PrintWords Go.Proofs.YthfhefkacmepkaaDoorW.PrintLast Go.Proofs.YthfhefkacmepkaaDoorW.PrintMore
open Go.Proofs.YthfhefkacmepkaaDoor.PPathPuts Go.Proofs.YthfhefkacmepkaaDoor.Beg Go.Proofs.YthfhefkacmepkaaDoor.Bld
open Go.Proofs.YthfhefkacmepkaaDoor.Num (L L_len L_range)
attribute [local go_sem] max2_int min2_int max_two min_two max_three min_three max_four min_four
set_option linter.unusedVariables false
set_option linter.unusedSimpArgs false
theorem bytes_L (t : ByteArray) : t.data.toList = (L t).map fun c => c.toNat.toUInt8 := by
  unfold L
  rw [List.map_map]
  conv => lhs; rw [← List.map_id t.data.toList]
  refine List.map_congr_left (fun b _ => ?_)
  simp
def smallOut (c : Nat) : List UInt8 := match pf (c : Int) lF lT with
  | some y => [92, y.toNat.toUInt8]
  | none => if (c : Int) < 32 then [92, 117, 48, 48, hexOf (c / 16), hexOf (c % 16)] else [c.toUInt8]
theorem small : ∀ c : Fin 128, runeOut c.val = smallOut c.val := by decide +kernel
theorem bad_out : runeOut 65533 = [239, 191, 189] := by decide +kernel
theorem sgn_same (s : ByteArray) (pos : Nat) (h : pos < s.size) : sgn (s.extract pos s.size) = (runeOut (Utf8.decode s pos).1, (Utf8.decode s pos).2) ∧ 1 ≤ (Utf8.decode s pos).2 ∧ pos + (Utf8.decode s pos).2 ≤ s.size := by
  have hL : L (s.extract pos s.size) = (L s).drop pos := Num.ext_L s pos
  rcases same s pos h with ⟨hd, hl⟩ | ⟨h1, h2, h3, h4, h5, h6⟩
  · rw [hd, sgn_0 (by rw [hL]; exact hl)]
    refine ⟨?_, by simp, by simp; omega⟩
    rw [bad_out]
  · rw [List.length_drop, L_len] at h3
    refine ⟨?_, h2, by omega⟩
    have hlt : pos < (L s).length := by rw [L_len]; exact h
    obtain ⟨c, hc⟩ : ∃ c, (L s)[pos]? = some c := ⟨_, List.getElem?_eq_getElem hlt⟩
    have hdr : (L s).drop pos = c :: (L s).drop (pos + 1) := by
      rw [List.drop_eq_getElem_cons hlt]
      congr 1
      rw [List.getElem?_eq_getElem hlt] at hc
      exact Option.some.inj hc
    have hbt : bt (s.extract pos s.size) 0 = c := Num.bt0 (hL.trans hdr)
    have hN : lenOf (L (s.extract pos s.size)) = (Utf8.decode s pos).2 := by rw [hL]; exact h1.symm
    have hx : ∀ n, ((s.extract pos s.size).extract 0 n).data.toList = (((L s).drop pos).take n).map fun c => c.toNat.toUInt8 := by
      intro n
      rw [bytes_L, Num.take_L, hL]
    by_cases hw : (Utf8.decode s pos).2 = 1
    · have hr := h5 hw
      have hcd : c = ((Utf8.decode s pos).1 : Int) := by
        rw [hw, hdr] at h4
        rw [Lib.encodeRuneZ_one (by omega) (by omega)] at h4
        simpa using h4.symm
      have hs := small ⟨(Utf8.decode s pos).1, by omega⟩
      simp only at hs
      rw [hs]
      unfold smallOut
      rw [hw] at hN ⊢
      cases hp : pf ((Utf8.decode s pos).1 : Int) lF lT with
      | some y => rw [sgn_find hN hbt (by rw [hcd]; exact hp)]
      | none =>
        by_cases hlow : ((Utf8.decode s pos).1 : Int) < 32
        · rw [sgn_low hN hbt (by rw [hcd]; exact hp) (by omega), hcd, if_pos hlow]
          simp
        · rw [sgn_plain hN hbt (by rw [hcd]; exact hp) (by omega), if_neg hlow, hx, hdr, hcd]
          simp
    · have hr := h6 hw
      rw [sgn_more hN (by omega) hw, hx, ← h4]
      congr 1
      unfold runeOut
      rw [if_pos]
      · rfl
      · unfold escOf
        rw [if_neg (by omega), if_neg (by omega), if_neg (by omega), if_neg (by omega), if_neg (by omega), if_neg (by omega), if_neg (by omega), if_neg (by omega)]
theorem runeOut_le (r : Nat) : (runeOut r).length ≤ 6 := by
  unfold runeOut
  split
  · have : (Lib.encodeRune (r : Int)).length ≤ 4 := by unfold Lib.encodeRune; rw [List.length_map]; exact (Lib.encodeRuneZ_length _).2
    omega
  · exact escOf_le _
theorem own_below {w w' : World} {B n m : Nat} {e : TypeId} {v : Value} {xs : List Value} (h : w.ownsRow B e n v m xs) (hb : Below w.heap.size w w') : w'.ownsRow B e n v m xs := by
  refine ⟨h.1, ?_⟩
  rcases h.2 with hn | ⟨g, cap, cur, hv, hbg, hg, rest⟩
  · exact .inl hn
  · exact .inr ⟨g, cap, cur, hv, hbg, (hb.block g (Array.getElem?_eq_some_iff.1 hg).1).trans hg, rest⟩
theorem own_first (w : World) (B : Nat) (hB : B ≤ w.heap.size) (c : Int) : (w.alloc (.cells #[.int .u8 c] 5)).ownsRow B 5 1 (.slice (some ⟨w.heap.size, 0, none⟩) 1 1) 1 [.int .u8 c] :=
  ⟨rfl, .inr ⟨w.heap.size, 1, #[.int .u8 c], rfl, hB, heap_alloc_new w _, by omega, by unfold maxLen; omega, rfl, rfl⟩⟩
theorem grown_below' {w w1 w2 : World} {B : Nat} {v : Value} {n : Nat} {xs : List Value} (hb : Below B w w1) (hB : B ≤ w1.heap.size) (hown : w1.ownsRow B 5 1 v n xs) (hg : w1.grownBy w2 v.ownBlock) : Below B w w2 :=
  hb.grown hg hB (fun k hk => (hown.lt k hk).1)
theorem lit_cells (W : World) (news : List Value) : ∀ (j : Nat) u, news[j]? = some u → (W.alloc (.cells news.toArray 5)).cell? ((⟨W.heap.size, 0, none⟩ : Addr).add j) = some u := by
  intro j u hj
  rw [show (⟨W.heap.size, 0, none⟩ : Addr).add j = ⟨W.heap.size, j, none⟩ by cases j <;> simp [Addr.add]]
  exact (blk_cell (heap_alloc_new W _) j).trans (by simpa using hj)
theorem own_cells {W : World} {B k : Nat} {v : Value} {acc new : List UInt8} {cs : List Value} (h : W.ownsRow B 5 1 v (acc.length + k) (Lib.byteCells acc ++ cs)) (hc : cs = Lib.byteCells new) (hk : k = new.length) : W.ownsRow B 5 1 v (acc ++ new).length (Lib.byteCells (acc ++ new)) := by
  subst hc hk
  rw [List.length_append, Lib.byteCells_append]
  exact h
theorem own_text {w : World} {B : Nat} {v : Value} {l : List UInt8} (h : w.ownsRow B 5 1 v l.length (Lib.byteCells l)) (h0 : 0 < l.length) : (convert 39 9 v).run Tryd.prog w = .ok (.string ⟨l.toArray⟩) w := by
  rcases h.2 with ⟨_, hn⟩ | ⟨g, cap, cur, rfl, hbg, hg, hnc, hc, hsz, hx⟩
  · omega
  · refine run_convert_bytes_back _ 39 9 5 ⟨g, 0, none⟩ cap l Tryd.underlying39 Tryd.underlying5 Tryd.underlying9 ?_
    intro j hj
    have h1 : (Lib.byteCells l)[j]? = some (.int .u8 (l[j].toNat : Int)) := by simp [Lib.byteCells, hj]
    rw [← hx, List.getElem?_take, if_pos (by omega), Array.getElem?_toList] at h1
    have h2 := (blk_cell hg j).trans h1
    rw [show (⟨g, 0, none⟩ : Addr).add j = ⟨g, j, none⟩ by cases j <;> simp [Addr.add]]
    exact h2
theorem byteCells_one (l : List UInt8) : ∀ u ∈ Lib.byteCells l, u.oneCell' = true := by
  intro u hu
  simp only [Lib.byteCells, List.mem_map] at hu
  obtain ⟨b, _, rfl⟩ := hu
  rfl
set_option maxHeartbeats 16000000 in
set_option maxRecDepth 100000 in
theorem rname_calls (s : ByteArray) (w : World) (hs : s.size ≤ 1099511627776) :
    Calls Tryd.prog 13 #[.string s] w fun e w' => e = .returned (.string ⟨(putOf s).toArray⟩) ∧ Below w.heap.size w w' := by
  obtain ⟨i0, hi, hz0, hz1, hz2⟩ := info_parts Bld.info5
  have HS := Aside0.mk hs
  clear hs
  go_enter Tryd.func13, Tryd.ntmps13
  go_wp2
  go_loopg [3, 4] s.size (fun kq v3 v4 w' => ∃ (pos : Nat) (acc : List UInt8) (vo : Value) (W : World), W = w' ∧ vo = v3 ∧ v4 = .int .i64 pos ∧ Aside0 (w'.ownsRow w.heap.size 5 1 vo acc.length (Lib.byteCells acc)) ∧ Aside0 (Below w.heap.size w w') ∧ Aside0 (acc ++ putFrom s kq pos = 39 :: putFrom s s.size 0) ∧ Aside0 (s.size ≤ pos + kq ∧ pos ≤ s.size ∧ 1 ≤ acc.length ∧ acc.length ≤ 6 * pos + 1))
  case atStart =>
    refine ⟨0, [39], _, _, rfl, rfl, rfl, ⟨own_first w w.heap.size (Nat.le_refl _) 39⟩, ⟨below_alloc (Below.refl _ _) _⟩, ⟨rfl⟩, ⟨by simp⟩⟩
  case round =>
    obtain ⟨pos, acc, vo, W, rfl, rfl, rfl, HO, HB, HA, HK⟩ := hrel
    obtain ⟨hk1, hk2, hk3, hk4⟩ := HK.out
    have hs := HS.out
    by_cases hp : pos < s.size
    · obtain ⟨d, rfl⟩ : ∃ d, gk = d + 1 := ⟨gk - 1, by omega⟩
      obtain ⟨hsg, hw1, hw2⟩ := sgn_same s pos hp
      have hcalls := fun W' => sign_calls (s.extract pos s.size) (by rw [ByteArray.size_extract]; omega) (by rw [ByteArray.size_extract]; omega) W'
      rw [hsg] at hcalls
      simp only at hcalls
      have hle := runeOut_le (Utf8.decode s pos).1
      have hst : putFrom s (d + 1) pos = runeOut (Utf8.decode s pos).1 ++ putFrom s d (pos + (Utf8.decode s pos).2) := by rw [putFrom, if_pos hp]
      obtain ⟨N, hN⟩ : ∃ N, (Utf8.decode s pos).2 = N := ⟨_, rfl⟩
      obtain ⟨bs, hbs⟩ : ∃ bs, runeOut (Utf8.decode s pos).1 = bs := ⟨_, rfl⟩
      rw [hN, hbs] at hcalls hst
      rw [hN] at hw1 hw2
      rw [hbs] at hle
      have c1 : decide ((pos : Int) < (s.size : Int)) = true := by simp; omega
      have c1n : decide (pos < s.size) = true := by simp; omega
      have i1 : (0 : Int) ≤ (pos : Int) := by omega
      have i2 : (pos : Int) ≤ (s.size : Int) := by omega
      have i2n : pos ≤ s.size := by omega
      have i3 : wrap64 ((pos : Int) + (N : Int)) = ((pos + N : Nat) : Int) := by unfold wrap64; omega
      have HCC := Aside0.mk hcalls
      have HST := Aside0.mk hst
      have HF := Aside0.mk (And.intro hw1 (And.intro hw2 hle))
      have I8 : Aside0 (acc.length + 6 ≤ 140737488355328) := ⟨by omega⟩
      clear hk1 hk2 hk3 hk4 hs hp hsg hw1 hw2 hcalls hle hst hN hbs
      go_wp2_with (fail)
      go_at_call 26
      refine (HCC.out _).mono ?_
      rintro e w3 ⟨⟨v, rfl, hrd⟩, hb⟩
      obtain ⟨ad, cap, rfl, hcells⟩ := hrd
      have HO3 := Aside0.mk (own_below HO.out hb)
      have HB3 := Aside0.mk (below_step HB.out hb)
      have HCE := Aside0.mk hcells
      obtain ⟨m, hm⟩ : ∃ m, m = bs.length := ⟨_, rfl⟩
      rw [← hm]
      have HM := Aside0.mk hm
      clear hb hcells HO HB hm
      go_wp2_with (at_builtin; refine wpList_append_own _ rfl _ _ 39 rfl w.heap.size 5 i0 (.int .u8 0) 1 1 Tryd.underlying39 hi hz0 hz1 hz2 rfl (by decide) _ _ _ rfl HO3.out ad m cap (Lib.byteCells bs) rfl (by rw [Lib.byteCells_length, HM.out]; omega) HCE.out (byteCells_one bs) ?c3 ?c4 ?c5 ?_)
      case c3 => have := I8.out; have := HF.out.2.2; have := HM.out; unfold maxLen; omega
      case c4 => have := I8.out; have := HF.out.2.2; have := HM.out; omega
      case c5 => exact HB3.out.size
      intro v' w2 hown' hgrow _
      have HO2 := Aside0.mk (own_cells (new := bs) hown' rfl HM.out)
      have HB2 := Aside0.mk (grown_below' HB3.out HB3.out.size HO3.out hgrow)
      clear hown' hgrow
      (first | go_wp2_with (fail) | skip)
      go_roundg d
      case measure => omega
      case rel =>
        obtain ⟨hk1, hk2, hk3, hk4⟩ := HK.out
        obtain ⟨f1, f2, f3⟩ := HF.out
        refine ⟨pos + N, acc ++ bs, _, _, rfl, rfl, by first | rfl | (simp [i3]; done), HO2, HB2, ⟨?_⟩, ⟨by omega, by omega, by rw [List.length_append]; omega, by rw [List.length_append]; omega⟩⟩
        rw [← HA.out, HST.out, List.append_assoc]
    · have I8 : Aside0 (acc.length + 6 ≤ 140737488355328) := ⟨by omega⟩
      have HPN := Aside0.mk hp
      have c1 : decide ((pos : Int) < (s.size : Int)) = false := by simp; omega
      have c1n : decide (pos < s.size) = false := by simp; omega
      clear hk1 hk2 hk3 hk4 hp hs
      go_wp2_with (at_builtin; refine wpList_append_own _ rfl _ _ 39 rfl w.heap.size 5 i0 (.int .u8 0) 1 1 Tryd.underlying39 hi hz0 hz1 hz2 rfl (by decide) _ _ _ rfl (HO.out.alloc _) ⟨W.heap.size, 0, none⟩ 1 1 [.int .u8 39] rfl rfl (lit_cells _ _) ?c2 ?c3 ?c4 ?c5 ?_)
      case c2 => intro u hu; simp at hu; subst hu; rfl
      case c3 => have := I8.out; unfold maxLen; omega
      case c4 => have := I8.out; omega
      case c5 => have := HB.out.size; simp; omega
      intro v' w2 hown' hgrow _
      have HO2 := Aside0.mk (own_cells (new := [39]) hown' rfl rfl)
      have HB2 := Aside0.mk (grown_below' (below_alloc HB.out _) (by have := HB.out.size; simp; omega) (HO.out.alloc _) hgrow)
      clear hown' hgrow
      have hcv := own_text HO2.out (by simp)
      go_wp2_with (fail)
      go_ret
      refine ⟨?_, HB2.out⟩
      have := HA.out
      rw [putFrom_end s _ pos HPN.out, List.append_nil] at this
      unfold putOf
      rw [this]
      simp
end Go.Proofs.YthfhefkacmepkaaDoor.PS
