/- The two texts' strings are the same, sign by sign. Conditions: none. -/
import Derived.Test.YtlhpflicchchlaaRPut
namespace Go.Proofs.Ytlhpflicchchlaa.RPut
open Go.RowKit Go.Proofs.YtlhpflicchchlaaW.PrintWords
open Go.Proofs.Ytlhpflicchchlaa.Beg Go.Proofs.Ytlhpflicchchlaa.Bld
open Go.Proofs.Ytlhpflicchchlaa.Num (L L_len L_range)
set_option linter.unusedVariables false
set_option linter.unusedSimpArgs false
theorem bytes_L (t : ByteArray) : t.data.toList = (L t).map fun c => c.toNat.toUInt8 := by
  unfold L
  rw [List.map_map]
  conv => lhs; rw [← List.map_id t.data.toList]
  refine List.map_congr_left (fun b _ => ?_)
  simp
theorem eGo_no (c : Int) : ∀ (l : List Int) (e : Int), eGo c false l e = e
  | [], e => rfl
  | x :: r, e => by unfold eGo; rw [if_neg (by simp)]; exact eGo_no c r e
def smallOut (c : Nat) : List UInt8 := if eGo (c : Int) true lets 0 ≠ 0 then [92, (eGo (c : Int) true lets 0).toNat.toUInt8] else if (c : Int) < 32 then [92, 117, 48, 48, hexOf (c / 16), hexOf (c % 16)] else [c.toUInt8]
theorem small : ∀ c : Fin 128, runeOut c.val = smallOut c.val := by decide +kernel
theorem bad_out : runeOut 65533 = [239, 191, 189] := by decide +kernel
theorem sign_same (s : ByteArray) (pos : Nat) (h : pos < s.size) : refSign s pos = runeOut (Utf8.decode s pos).1 ∧ max 1 (lenOf ((L s).drop pos)) = (Utf8.decode s pos).2 := by
  rcases same s pos h with ⟨hd, hl⟩ | ⟨h1, h2, h3, h4, h5, h6⟩
  · rw [hd, hl, ref_0 hl]
    exact ⟨bad_out.symm, rfl⟩
  · refine ⟨?_, by omega⟩
    have hlt : pos < (L s).length := by rw [L_len]; exact h
    obtain ⟨c, hc⟩ : ∃ c, (L s)[pos]? = some c := ⟨_, List.getElem?_eq_getElem hlt⟩
    have hbt : bt s (pos : Int) = c := Num.bt_L s pos c hc
    have hdr : (L s).drop pos = c :: (L s).drop (pos + 1) := by
      rw [List.drop_eq_getElem_cons hlt]
      congr 1
      rw [List.getElem?_eq_getElem hlt] at hc
      exact Option.some.inj hc
    have hx : (s.extract pos (pos + lenOf ((L s).drop pos))).data.toList = Lib.encodeRune (Utf8.decode s pos).1 := by
      rw [bytes_L, sub_take s pos _ _ rfl, ← h1, ← h4]
      rfl
    have hcr := bt_ok s (pos : Int)
    rw [hbt] at hcr
    have hN0 : lenOf ((L s).drop pos) ≠ 0 := by omega
    by_cases hw : (Utf8.decode s pos).2 = 1
    · have hr := h5 hw
      have hN1 : lenOf ((L s).drop pos) = 1 := by omega
      have hcd : c = ((Utf8.decode s pos).1 : Int) := by
        rw [hw, hdr] at h4
        rw [Lib.encodeRuneZ_one (by omega) (by omega)] at h4
        simpa using h4.symm
      have hs := small ⟨(Utf8.decode s pos).1, by omega⟩
      simp only at hs
      rw [hs]
      unfold smallOut
      have hg : eGo c (lenOf ((L s).drop pos) == 1) lets 0 = eGo ((Utf8.decode s pos).1 : Int) true lets 0 := by rw [hN1, hcd]; rfl
      by_cases e0 : eGo ((Utf8.decode s pos).1 : Int) true lets 0 ≠ 0
      · rw [if_pos e0, ref_e rfl hN0 hbt hg e0]
      · rw [if_neg e0]
        have e1 : eGo c (lenOf ((L s).drop pos) == 1) lets 0 = 0 := by rw [hg]; exact Classical.not_not.1 e0
        by_cases hlow : ((Utf8.decode s pos).1 : Int) < 32
        · rw [if_pos hlow, ref_low rfl hN0 hbt e1 (by omega), hcd]
          simp
        · rw [if_neg hlow, ref_plain rfl hN0 hbt e1 (by omega), hx]
          unfold Lib.encodeRune
          rw [Lib.encodeRuneZ_one (by omega) (by omega)]
          simp
    · have hr := h6 hw
      have e1 : eGo c (lenOf ((L s).drop pos) == 1) lets 0 = 0 := by
        rw [show (lenOf ((L s).drop pos) == 1) = false by simp; omega]
        exact eGo_no c lets 0
      have hc32 : ¬ c < 32 := by
        have hh : (Lib.encodeRuneZ (Utf8.decode s pos).1).head? = some c := by
          rw [h4, hdr]
          obtain ⟨k, hk⟩ : ∃ k, (Utf8.decode s pos).2 = k + 1 := ⟨(Utf8.decode s pos).2 - 1, by omega⟩
          rw [hk]; rfl
        unfold Lib.encodeRuneZ at hh
        repeat' split at hh
        all_goals simp at hh; omega
      rw [ref_plain rfl hN0 hbt e1 hc32, hx]
      unfold runeOut
      rw [if_pos]
      unfold escOf
      rw [if_neg (by omega), if_neg (by omega), if_neg (by omega), if_neg (by omega), if_neg (by omega), if_neg (by omega), if_neg (by omega), if_neg (by omega)]
theorem from_same (s : ByteArray) : ∀ (f pos : Nat), rputFrom s f pos = putFrom s f pos
  | 0, _ => rfl
  | f + 1, pos => by
    unfold rputFrom putFrom
    by_cases h : pos < s.size
    · rw [if_pos h, if_pos h, (sign_same s pos h).1, (sign_same s pos h).2, from_same s f]
    · rw [if_neg h, if_neg h]
theorem put_same (s : ByteArray) : rputOf s = putOf s := by unfold rputOf putOf; rw [from_same]
end Go.Proofs.Ytlhpflicchchlaa.RPut
