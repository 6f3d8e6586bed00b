/- quote.Walk's methods, walked: slash, Text. Conditions: none. -/
import Derived.Test.YtlhpflicchchlaaDoorLxQA1
namespace Go.Proofs.YtlhpflicchchlaaDoor.LxQ
open Go.RowKit Go.Proofs.YtlhpflicchchlaaDoorW.PrintWords Go.Proofs.YtlhpflicchchlaaDoorW.PrintLast Go.Proofs.YtlhpflicchchlaaDoorW.PrintMore
attribute [local go_sem] max2_int min2_int max_two min_two max_three min_three max_four min_four
set_option linter.unusedVariables false
set_option linter.unusedSimpArgs false
def letV (c : Int) : Int × Bool :=
  if c = 34 ∨ c = 92 ∨ c = 47 then (c, true) else if c = 98 then (8, true) else if c = 102 then (12, true) else if c = 110 then (10, true) else if c = 114 then (13, true) else if c = 116 then (9, true) else (0, false)
def hexV (c : Int) : Int × Bool :=
  if 48 ≤ c ∧ c ≤ 57 then (c - 48, true) else if 97 ≤ c ∧ c ≤ 102 then (c - 87, true) else if 65 ≤ c ∧ c ≤ 70 then (c - 55, true) else (0, false)
def unitV (n : Int) : Int := if 55296 ≤ n ∧ n < 56320 then 1 else if 56320 ≤ n ∧ n < 57344 then 2 else 0
theorem drawn_below {w w' : World} (h : Drawn0 w w') : Below w.heap.size w w' := by
  obtain ⟨n, rfl⟩ := h
  exact pw_below_drewN (Below.refl _ _) n
theorem letters_calls (c : Int) (k0 : 0 ≤ c) (k1 : c < 256) (w : World) : Calls Tryd.prog 176 #[.int .u8 c] w fun e w' => e = .returned (.tuple #[.int .u8 (letV c).1, .bool (letV c).2]) ∧ Below w.heap.size w w' := by
  refine (QPr.quote_letters.calls 12 c _ _ w ?_).mono (fun e w' h => ⟨h.1, drawn_below h.2⟩)
  have : ∀ k : Fin 256, QPr.quote_letters.f 12 ((k.val : Nat) : Int) = some (letV ((k.val : Nat) : Int)) := by decide +kernel
  have h := this ⟨c.toNat, by omega⟩
  simp only at h
  rw [show ((c.toNat : Nat) : Int) = c by omega] at h
  exact h
theorem hex_calls (c : Int) (k0 : 0 ≤ c) (k1 : c < 256) (w : World) : Calls Tryd.prog 177 #[.int .u8 c] w fun e w' => e = .returned (.tuple #[.int .i64 (hexV c).1, .bool (hexV c).2]) ∧ Below w.heap.size w w' := by
  refine (QPr.octet_Hex.calls 24 c _ _ w ?_).mono (fun e w' h => ⟨h.1, drawn_below h.2⟩)
  have : ∀ k : Fin 256, QPr.octet_Hex.f 24 ((k.val : Nat) : Int) = some (hexV ((k.val : Nat) : Int)) := by decide +kernel
  have h := this ⟨c.toNat, by omega⟩
  simp only at h
  rw [show ((c.toNat : Nat) : Int) = c by omega] at h
  exact h
theorem unit_calls (n : Int) (w : World) : Calls Tryd.prog 178 #[.int .i64 n] w fun e w' => e = .returned (.int .i64 (unitV n)) ∧ Below w.heap.size w w' := by
  refine (QPr.utf_Unit.calls 6 n _ w ?_).mono (fun e w' h => ⟨h.1, drawn_below h.2⟩)
  unfold QPr.utf_Unit.f unitV
  simp only [QPr.utf_Unit.j0]
  by_cases h1 : n ≥ 55296
  · by_cases h2 : n < 56320
    · simp [h1, h2]
    · by_cases h3 : n < 57344
      · simp [h1, h2, h3, show n ≥ 56320 by omega]
      · simp [h1, h2, h3, show n ≥ 56320 by omega]
  · simp [h1, show ¬ n ≥ 56320 by omega, show ¬ 56320 ≤ n by omega]
theorem own_text' {w : World} {B : Nat} {v : Value} {l : List UInt8} (h : w.ownsRow B 5 1 v l.length (Lib.byteCells l)) : (convert 32 9 v).run Tryd.prog w = .ok (.string ⟨l.toArray⟩) w := by
  cases l with
  | cons a r => exact own_text h (by simp)
  | nil =>
    obtain ⟨ao, cap, rfl⟩ : ∃ ao cap, v = .slice ao 0 cap := own_slice (t := []) h
    rw [run_convert_bytes_string w 32 9 5 ao 0 cap Tryd.underlying32 Tryd.underlying5 Tryd.underlying9]
    cases ao with
    | none => rfl
    | some a => rfl
set_option maxHeartbeats 8000000 in
set_option maxRecDepth 100000 in
theorem text_calls {W : World} {b : Nat} {p : LP} {q : QS} (h : IsQ W b p q) : Calls Tryd.prog 135 #[.pointer (some ⟨b, 8, none⟩)] W fun e w' => e = .returned (.string ⟨q.text.toArray⟩) ∧ w' = W := by
  obtain ⟨tx, hb, ho⟩ := h
  have c5 := hb.c5
  have hcv := own_text' ho
  clear hb ho
  go_enter Tryd.func135, Tryd.ntmps135
  go_wp2
  go_ret
  exact ⟨rfl, rfl⟩
def slashS (q : QS) (c : Int) : QS × Int :=
  if c = 117 then ({ q with a := 2, le := 4, un := 0, fi := 0 }, 0)
  else if (letV c).2 = false then (q, 3)
  else ({ q with a := 0, text := q.text ++ [(letV c).1.toNat.toUInt8] }, 0)
theorem letV_range (c : Int) (k0 : 0 ≤ c) (k1 : c < 256) : 0 ≤ (letV c).1 ∧ (letV c).1 < 256 := by
  unfold letV
  repeat' split
  all_goals simp only
  all_goals omega
set_option maxHeartbeats 8000000 in
set_option maxRecDepth 100000 in
theorem slash_calls {W : World} {b : Nat} {p : LP} {q : QS} (h : IsQ W b p q) (hg : Good q) (c : Int) (k0 : 0 ≤ c) (k1 : c < 256) :
    Calls Tryd.prog 157 #[.pointer (some ⟨b, 8, none⟩), .int .u8 c] W fun e w' => e = .returned (.int .i64 (slashS q c).2) ∧ IsQ w' b p (slashS q c).1 ∧ KL b p.B W w' := by
  obtain ⟨tx, hb, ho⟩ := h
  have HB := Aside0.mk hb
  have HO := Aside0.mk ho
  have HG := Aside0.mk hg
  have HLT := Aside0.mk (IsB.lt hb)
  by_cases h117 : c = 117
  · subst h117
    have E1 := Aside0.mk (show slashS q 117 = ({ q with a := 2, le := 4, un := 0, fi := 0 }, 0) by unfold slashS; rw [if_pos rfl])
    have c0 := hb.c0
    have c6 := hb.c6
    have c7 := hb.c7
    have c8 := hb.c8
    have f0 := hb.fz 8
    have f6 := hb.fz 14
    have f7 := hb.fz 15
    have f8 := hb.fz 16
    clear hb ho hg k0 k1
    go_enter Tryd.func157, Tryd.ntmps157
    go_wp2
    go_ret
    rw [E1.out]
    exact ⟨rfl, ⟨tx, (((HB.out.s0 _).s6 _).s7 _).s8 _, own_set (own_set (own_set (own_set HO.out 8 _) 14 _) 15 _) 16 _⟩, ((((KeepB.refl b _).set 8 _).set 14 _).set 15 _).set 16 _ |>.kl⟩
  · have hlet := letters_calls c k0 k1
    have hr := letV_range c k0 k1
    obtain ⟨⟨x, ok⟩, hx⟩ : ∃ x, letV c = x := ⟨_, rfl⟩
    rw [hx] at hlet hr
    simp only at hlet hr
    have HLC := Aside0.mk hlet
    have HR := Aside0.mk hr
    have g1 : (c == 117) = false := by simp; exact h117
    have g2 : decide (c = 117) = false := by simp; exact h117
    cases ok with
    | false =>
      have E1 := Aside0.mk (show slashS q c = (q, 3) by unfold slashS; rw [if_neg h117, hx, if_pos rfl])
      clear hb ho hg k0 k1 hlet hr h117 hx
      go_enter Tryd.func157, Tryd.ntmps157
      go_wp2_with (fail)
      go_at_call 176
      refine (HLC.out _).mono ?_
      rintro e w2 ⟨rfl, hb⟩
      have HB2 := Aside0.mk (HB.out.kept hb)
      have HO2 := Aside0.mk (own_below HO.out hb)
      have HK2 := Aside0.mk ((KL.refl b p.B W).then_ (Nat.le_of_lt HLT.out) hb)
      clear hb
      go_wp2_with (fail)
      go_ret
      rw [E1.out]
      exact ⟨rfl, ⟨tx, HB2.out, HO2.out⟩, HK2.out⟩
    | true =>
      have E1 := Aside0.mk (show slashS q c = ({ q with a := 0, text := q.text ++ [x.toNat.toUInt8] }, 0) by unfold slashS; rw [if_neg h117, hx, if_neg (by simp)])
      obtain ⟨i0, hi, hz0, hz1, hz2⟩ := info_parts Tryd.lxinfo5
      clear hb ho hg k0 k1 hlet hr h117 hx
      go_enter Tryd.func157, Tryd.ntmps157
      go_wp2_with (fail)
      go_at_call 176
      refine (HLC.out _).mono ?_
      rintro e w2 ⟨rfl, hb⟩
      have HB2 := Aside0.mk (HB.out.kept hb)
      have HO2 := Aside0.mk (own_below HO.out hb)
      have HK2 := Aside0.mk ((KL.refl b p.B W).then_ (Nat.le_of_lt HLT.out) hb)
      clear hb
      have c0 := HB2.out.c0
      have c5 := HB2.out.c5
      go_wp2_with (at_builtin; refine wpList_append_own _ rfl _ _ 32 rfl (max p.B (b + 1)) 5 i0 (.int .u8 0) 1 1 Tryd.underlying32 hi hz0 hz1 hz2 rfl (by decide) _ _ _ rfl (HO2.out.alloc _) ⟨w2.heap.size, 0, none⟩ 1 1 [.int .u8 x] rfl rfl (lit_cells _ _) ?c2 ?c3 ?c4 ?c5 ?_)
      case c2 => intro u hu; simp at hu; subst hu; rfl
      case c3 => have := HG.out.len; unfold maxLen; omega
      case c4 => have := HG.out.len; omega
      case c5 => have := IsB.top HB2.out; simp; omega
      intro v' w3 hown' hgrow _
      have HO3 := Aside0.mk (own_cells (new := [x.toNat.toUInt8]) hown' (by simp only [Lib.byteCells, List.map_cons, List.map_nil, toByte x HR.out.1 HR.out.2]) rfl)
      have HB3 := Aside0.mk (HB2.out.grownOwn HO2.out hgrow)
      have HK3 := Aside0.mk (HK2.out.trans (kl_own (IsB.lt HB2.out) HO2.out hgrow))
      obtain ⟨ao, cap, rfl⟩ : ∃ ao cap, v' = .slice ao (q.text ++ [x.toNat.toUInt8]).length cap := own_slice HO3.out
      obtain ⟨nn, hnn⟩ : ∃ nn, nn = (q.text ++ [x.toNat.toUInt8]).length := ⟨_, rfl⟩
      rw [← hnn]
      rw [← hnn] at HO3
      have HNN := Aside0.mk hnn
      have e0 := HB3.out.c0
      have e5 := HB3.out.c5
      have f0 := HB3.out.fz 8
      have f5 := HB3.out.fz 13
      clear hown' hgrow hnn c0 c5
      go_wp2_with (fail)
      go_ret
      rw [HNN.out] at HO3 ⊢
      rw [E1.out]
      exact ⟨rfl, ⟨_, (HB3.out.s5 _).s0 _, own_set (own_set HO3.out 13 _) 8 _⟩, HK3.out.trans (((KeepB.refl b _).set 13 _).set 8 _).kl⟩
end Go.Proofs.YtlhpflicchchlaaDoor.LxQ
