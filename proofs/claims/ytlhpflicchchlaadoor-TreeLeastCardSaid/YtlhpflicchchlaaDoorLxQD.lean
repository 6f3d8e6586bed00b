/- quote.Walk.digit, walked. Conditions: none. -/
import Derived.Test.YtlhpflicchchlaaDoorLxQB
namespace Go.Proofs.YtlhpflicchchlaaDoor.LxQ
open Go.RowKit Go.Proofs.YtlhpflicchchlaaDoorW.PrintWords Go.Proofs.YtlhpflicchchlaaDoorW.PrintLast Go.Proofs.YtlhpflicchchlaaDoorW.PrintMore
attribute [local go_sem] max2_int min2_int max_two min_two max_three min_three max_four min_four
set_option linter.unusedVariables false
set_option linter.unusedSimpArgs false
def secondV (le nx : Int) : Int := if le = 3 then unitV (nx * 256) else 0
def digitT (q : QS) (n : Int) (ok : Bool) (nx : Int) : QS × Int :=
  if (q.fi > 0 ∧ q.le ≥ 3) ∧ (ok = false ∨ (q.le = 4 ∧ n ≠ 13) ∨ (q.le = 3 ∧ secondV q.le nx ≠ 2)) then (q, 4)
  else if ok = false then (q, 3)
  else if q.fi = 0 ∧ secondV q.le nx = 2 then (q, 4)
  else if q.le - 1 > 0 then ({ q with un := nx, le := q.le - 1 }, 0)
  else if q.fi > 0 then ({ q with un := nx, le := q.le - 1, a := 0, text := q.text ++ Lib.encodeRune (65536 + (q.fi - 55296) * 1024 + nx - 56320), fi := 0 }, 0)
  else if unitV nx = 1 then ({ q with un := nx, le := q.le - 1, fi := nx, a := 3 }, 0)
  else ({ q with un := nx, le := q.le - 1, a := 0, text := q.text ++ Lib.encodeRune nx }, 0)
def digitS (q : QS) (c : Int) : QS × Int := digitT q (hexV c).1 (hexV c).2 (q.un * 16 + (hexV c).1)
theorem hexV_range (c : Int) : 0 ≤ (hexV c).1 ∧ (hexV c).1 < 16 := by
  unfold hexV
  repeat' split
  all_goals simp only
  all_goals omega
theorem wraps_i64 (n : Int) (h0 : 0 ≤ n) (h1 : n < 2 ^ 31) : IntKind.i64.wrap n = n := by rw [IntKind.wrap_i64]; omega
theorem or4 (x y : Int) (hx0 : 0 ≤ x) (hx : x % 16 = 0) (hx1 : x < 2147483648) (h0 : 0 ≤ y) (h1 : y < 16) : bits .or .i64 x y = x + y :=
  bits_join .i64 31 (by decide) wraps_i64 4 x y hx0 hx hx1 h0 h1 (by omega)
theorem digit_facts (un n : Int) (h0 : 0 ≤ un) (h1 : un ≤ 4095) (n0 : 0 ≤ n) (n1 : n < 16) : wrap64 (un * 16) = un * 16 ∧ bits .or .i64 (un * 16) n = un * 16 + n ∧ wrap64 ((un * 16 + n) * 256) = (un * 16 + n) * 256 ∧ wrap32 (un * 16 + n) = un * 16 + n :=
  ⟨by unfold wrap64; omega, or4 (un * 16) n (by omega) (by omega) (by omega) (by omega) (by omega), by unfold wrap64; omega, by unfold wrap32; omega⟩
theorem pair_facts (fi nx : Int) (h0 : 55296 ≤ fi) (h1 : fi ≤ 56319) (n0 : 0 ≤ nx) (n1 : nx ≤ 65535) : wrap64 (fi - 55296) = fi - 55296 ∧ wrap64 ((fi - 55296) * 1024) = (fi - 55296) * 1024 ∧ wrap64 (65536 + (fi - 55296) * 1024) = 65536 + (fi - 55296) * 1024 ∧ wrap64 (65536 + (fi - 55296) * 1024 + nx) = 65536 + (fi - 55296) * 1024 + nx ∧ wrap64 (65536 + (fi - 55296) * 1024 + nx - 56320) = 65536 + (fi - 55296) * 1024 + nx - 56320 ∧ wrap32 (65536 + (fi - 55296) * 1024 + nx - 56320) = 65536 + (fi - 55296) * 1024 + nx - 56320 :=
  ⟨by unfold wrap64; omega, by unfold wrap64; omega, by unfold wrap64; omega, by unfold wrap64; omega, by unfold wrap64; omega, by unfold wrap32; omega⟩
/-- What holds among digits. -/
structure Dig (q : QS) : Prop where
  un0 : 0 ≤ q.un
  un1 : q.un ≤ 4095
  fi : q.fi = 0 ∨ (55296 ≤ q.fi ∧ q.fi ≤ 56319)

set_option maxHeartbeats 16000000 in
set_option maxRecDepth 100000 in
theorem dig_no_4P {W : World} {b : Nat} {p : LP} {a l lo hi sg : Int} {text : List UInt8} {un fi : Int} (h : IsQ W b p ⟨a, l, lo, hi, sg, text, 4, un, fi⟩) (hg : Good ⟨a, l, lo, hi, sg, text, 4, un, fi⟩) (hd : Dig ⟨a, l, lo, hi, sg, text, 4, un, fi⟩) (c n nx : Int) (k0 : 0 ≤ c) (k1 : c < 256) (hx : hexV c = (n, false)) (hnx : un * 16 + n = nx) (hfi : fi > 0)  :
    Calls Tryd.prog 158 #[.pointer (some ⟨b, 8, none⟩), .int .u8 c] W fun e w' => e = .returned (.int .i64 (digitS ⟨a, l, lo, hi, sg, text, 4, un, fi⟩ c).2) ∧ IsQ w' b p (digitS ⟨a, l, lo, hi, sg, text, 4, un, fi⟩ c).1 ∧ KL b p.B W w' := by
  have hhr := hexV_range c
  rw [hx] at hhr
  obtain ⟨x1, x2, x3, x4⟩ := digit_facts un n hd.un0 hd.un1 hhr.1 hhr.2
  rw [hnx] at x2 x3 x4
  have hnr : 0 ≤ nx ∧ nx ≤ 65535 := by have := hd.un0; have := hd.un1; simp only at *; omega
  have e1 : digitS (⟨a, l, lo, hi, sg, text, 4, un, fi⟩ : QS) c = ((⟨a, l, lo, hi, sg, text, 4, un, fi⟩ : QS), 4) := by
    unfold digitS digitT secondV
    simp only [hx, hnx]
    simp [hfi, show fi ≠ 0 by omega]
  have E1 := Aside0.mk e1
  have b1 : decide (0 < fi) = true := by simp; omega
  have b2 : (fi == 0) = false := by simp; omega
  have b2' : decide (fi = 0) = false := by simp; omega
  have hh := hex_calls c k0 k1
  rw [hx] at hh
  simp only at hh
  have HX := Aside0.mk hh
  have HG := Aside0.mk hg
  obtain ⟨tx, hb, ho⟩ := h
  have HB := Aside0.mk hb
  have HO := Aside0.mk ho
  have HLT := Aside0.mk (IsB.lt hb)
  clear hb ho hg hd k0 k1 hx hnx hhr hnr hh e1 hfi
  go_enter Tryd.func158, Tryd.ntmps158
  go_wp2_with (fail)
  go_at_call 177
  refine (HX.out _).mono ?_
  rintro e w2 ⟨rfl, hb⟩
  have HB2 := Aside0.mk (HB.out.kept hb)
  have HO2 := Aside0.mk (own_below HO.out hb)
  have HK2 := Aside0.mk ((KL.refl b p.B W).then_ (Nat.le_of_lt HLT.out) hb)
  clear hb
  have d0 := HB2.out.c0
  have d5 := HB2.out.c5
  have d6 := HB2.out.c6
  have d7 := HB2.out.c7
  have d8 := HB2.out.c8
  have f0 := HB2.out.fz 8
  have f5 := HB2.out.fz 13
  have f6 := HB2.out.fz 14
  have f7 := HB2.out.fz 15
  have f8 := HB2.out.fz 16
  go_wp2_with (fail)
  go_ret
  rw [E1.out]
  exact ⟨rfl, ⟨tx, HB2.out, HO2.out⟩, HK2.out⟩

set_option maxHeartbeats 16000000 in
set_option maxRecDepth 100000 in
theorem dig_no_4Z {W : World} {b : Nat} {p : LP} {a l lo hi sg : Int} {text : List UInt8} {un fi : Int} (h : IsQ W b p ⟨a, l, lo, hi, sg, text, 4, un, fi⟩) (hg : Good ⟨a, l, lo, hi, sg, text, 4, un, fi⟩) (hd : Dig ⟨a, l, lo, hi, sg, text, 4, un, fi⟩) (c n nx : Int) (k0 : 0 ≤ c) (k1 : c < 256) (hx : hexV c = (n, false)) (hnx : un * 16 + n = nx) (hfi : fi = 0)  :
    Calls Tryd.prog 158 #[.pointer (some ⟨b, 8, none⟩), .int .u8 c] W fun e w' => e = .returned (.int .i64 (digitS ⟨a, l, lo, hi, sg, text, 4, un, fi⟩ c).2) ∧ IsQ w' b p (digitS ⟨a, l, lo, hi, sg, text, 4, un, fi⟩ c).1 ∧ KL b p.B W w' := by
  have hhr := hexV_range c
  rw [hx] at hhr
  obtain ⟨x1, x2, x3, x4⟩ := digit_facts un n hd.un0 hd.un1 hhr.1 hhr.2
  rw [hnx] at x2 x3 x4
  have hnr : 0 ≤ nx ∧ nx ≤ 65535 := by have := hd.un0; have := hd.un1; simp only at *; omega
  have e1 : digitS (⟨a, l, lo, hi, sg, text, 4, un, fi⟩ : QS) c = ((⟨a, l, lo, hi, sg, text, 4, un, fi⟩ : QS), 3) := by
    unfold digitS digitT secondV
    simp only [hx, hnx]
    simp [hfi]
  have E1 := Aside0.mk e1
  subst hfi
  have hh := hex_calls c k0 k1
  rw [hx] at hh
  simp only at hh
  have HX := Aside0.mk hh
  have HG := Aside0.mk hg
  obtain ⟨tx, hb, ho⟩ := h
  have HB := Aside0.mk hb
  have HO := Aside0.mk ho
  have HLT := Aside0.mk (IsB.lt hb)
  clear hb ho hg hd k0 k1 hx hnx hhr hnr hh e1
  go_enter Tryd.func158, Tryd.ntmps158
  go_wp2_with (fail)
  go_at_call 177
  refine (HX.out _).mono ?_
  rintro e w2 ⟨rfl, hb⟩
  have HB2 := Aside0.mk (HB.out.kept hb)
  have HO2 := Aside0.mk (own_below HO.out hb)
  have HK2 := Aside0.mk ((KL.refl b p.B W).then_ (Nat.le_of_lt HLT.out) hb)
  clear hb
  have d0 := HB2.out.c0
  have d5 := HB2.out.c5
  have d6 := HB2.out.c6
  have d7 := HB2.out.c7
  have d8 := HB2.out.c8
  have f0 := HB2.out.fz 8
  have f5 := HB2.out.fz 13
  have f6 := HB2.out.fz 14
  have f7 := HB2.out.fz 15
  have f8 := HB2.out.fz 16
  go_wp2_with (fail)
  go_ret
  rw [E1.out]
  exact ⟨rfl, ⟨tx, HB2.out, HO2.out⟩, HK2.out⟩

set_option maxHeartbeats 16000000 in
set_option maxRecDepth 100000 in
theorem dig_no_3P {W : World} {b : Nat} {p : LP} {a l lo hi sg : Int} {text : List UInt8} {un fi : Int} (h : IsQ W b p ⟨a, l, lo, hi, sg, text, 3, un, fi⟩) (hg : Good ⟨a, l, lo, hi, sg, text, 3, un, fi⟩) (hd : Dig ⟨a, l, lo, hi, sg, text, 3, un, fi⟩) (c n nx : Int) (k0 : 0 ≤ c) (k1 : c < 256) (hx : hexV c = (n, false)) (hnx : un * 16 + n = nx) (hfi : fi > 0)  :
    Calls Tryd.prog 158 #[.pointer (some ⟨b, 8, none⟩), .int .u8 c] W fun e w' => e = .returned (.int .i64 (digitS ⟨a, l, lo, hi, sg, text, 3, un, fi⟩ c).2) ∧ IsQ w' b p (digitS ⟨a, l, lo, hi, sg, text, 3, un, fi⟩ c).1 ∧ KL b p.B W w' := by
  have hhr := hexV_range c
  rw [hx] at hhr
  obtain ⟨x1, x2, x3, x4⟩ := digit_facts un n hd.un0 hd.un1 hhr.1 hhr.2
  rw [hnx] at x2 x3 x4
  have hnr : 0 ≤ nx ∧ nx ≤ 65535 := by have := hd.un0; have := hd.un1; simp only at *; omega
  have e1 : digitS (⟨a, l, lo, hi, sg, text, 3, un, fi⟩ : QS) c = ((⟨a, l, lo, hi, sg, text, 3, un, fi⟩ : QS), 4) := by
    unfold digitS digitT secondV
    simp only [hx, hnx]
    simp [hfi, show fi ≠ 0 by omega]
  have E1 := Aside0.mk e1
  have b1 : decide (0 < fi) = true := by simp; omega
  have b2 : (fi == 0) = false := by simp; omega
  have b2' : decide (fi = 0) = false := by simp; omega
  have hh := hex_calls c k0 k1
  rw [hx] at hh
  simp only at hh
  have HX := Aside0.mk hh
  have HG := Aside0.mk hg
  obtain ⟨tx, hb, ho⟩ := h
  have HB := Aside0.mk hb
  have HO := Aside0.mk ho
  have HLT := Aside0.mk (IsB.lt hb)
  clear hb ho hg hd k0 k1 hx hnx hhr hnr hh e1 hfi
  go_enter Tryd.func158, Tryd.ntmps158
  go_wp2_with (fail)
  go_at_call 177
  refine (HX.out _).mono ?_
  rintro e w2 ⟨rfl, hb⟩
  have HB2 := Aside0.mk (HB.out.kept hb)
  have HO2 := Aside0.mk (own_below HO.out hb)
  have HK2 := Aside0.mk ((KL.refl b p.B W).then_ (Nat.le_of_lt HLT.out) hb)
  clear hb
  have d0 := HB2.out.c0
  have d5 := HB2.out.c5
  have d6 := HB2.out.c6
  have d7 := HB2.out.c7
  have d8 := HB2.out.c8
  have f0 := HB2.out.fz 8
  have f5 := HB2.out.fz 13
  have f6 := HB2.out.fz 14
  have f7 := HB2.out.fz 15
  have f8 := HB2.out.fz 16
  go_wp2_with (fail)
  go_at_call 178
  refine (unit_calls (nx * 256) _).mono ?_
  rintro e w3 ⟨rfl, hb⟩
  have HB3 := Aside0.mk (HB2.out.kept hb)
  have HO3 := Aside0.mk (own_below HO2.out hb)
  have HK3 := Aside0.mk (KL.then_ HK2.out (Nat.le_of_lt (IsB.lt HB2.out)) hb)
  clear hb d0 d5 d6 d7 d8 f0 f5 f6 f7 f8
  have d0 := HB3.out.c0
  have d5 := HB3.out.c5
  have d6 := HB3.out.c6
  have d7 := HB3.out.c7
  have d8 := HB3.out.c8
  have f0 := HB3.out.fz 8
  have f5 := HB3.out.fz 13
  have f6 := HB3.out.fz 14
  have f7 := HB3.out.fz 15
  have f8 := HB3.out.fz 16
  go_wp2_with (fail)
  go_ret
  rw [E1.out]
  exact ⟨rfl, ⟨tx, HB3.out, HO3.out⟩, HK3.out⟩

set_option maxHeartbeats 16000000 in
set_option maxRecDepth 100000 in
theorem dig_no_3Z {W : World} {b : Nat} {p : LP} {a l lo hi sg : Int} {text : List UInt8} {un fi : Int} (h : IsQ W b p ⟨a, l, lo, hi, sg, text, 3, un, fi⟩) (hg : Good ⟨a, l, lo, hi, sg, text, 3, un, fi⟩) (hd : Dig ⟨a, l, lo, hi, sg, text, 3, un, fi⟩) (c n nx : Int) (k0 : 0 ≤ c) (k1 : c < 256) (hx : hexV c = (n, false)) (hnx : un * 16 + n = nx) (hfi : fi = 0)  :
    Calls Tryd.prog 158 #[.pointer (some ⟨b, 8, none⟩), .int .u8 c] W fun e w' => e = .returned (.int .i64 (digitS ⟨a, l, lo, hi, sg, text, 3, un, fi⟩ c).2) ∧ IsQ w' b p (digitS ⟨a, l, lo, hi, sg, text, 3, un, fi⟩ c).1 ∧ KL b p.B W w' := by
  have hhr := hexV_range c
  rw [hx] at hhr
  obtain ⟨x1, x2, x3, x4⟩ := digit_facts un n hd.un0 hd.un1 hhr.1 hhr.2
  rw [hnx] at x2 x3 x4
  have hnr : 0 ≤ nx ∧ nx ≤ 65535 := by have := hd.un0; have := hd.un1; simp only at *; omega
  have e1 : digitS (⟨a, l, lo, hi, sg, text, 3, un, fi⟩ : QS) c = ((⟨a, l, lo, hi, sg, text, 3, un, fi⟩ : QS), 3) := by
    unfold digitS digitT secondV
    simp only [hx, hnx]
    simp [hfi]
  have E1 := Aside0.mk e1
  subst hfi
  have hh := hex_calls c k0 k1
  rw [hx] at hh
  simp only at hh
  have HX := Aside0.mk hh
  have HG := Aside0.mk hg
  obtain ⟨tx, hb, ho⟩ := h
  have HB := Aside0.mk hb
  have HO := Aside0.mk ho
  have HLT := Aside0.mk (IsB.lt hb)
  clear hb ho hg hd k0 k1 hx hnx hhr hnr hh e1
  go_enter Tryd.func158, Tryd.ntmps158
  go_wp2_with (fail)
  go_at_call 177
  refine (HX.out _).mono ?_
  rintro e w2 ⟨rfl, hb⟩
  have HB2 := Aside0.mk (HB.out.kept hb)
  have HO2 := Aside0.mk (own_below HO.out hb)
  have HK2 := Aside0.mk ((KL.refl b p.B W).then_ (Nat.le_of_lt HLT.out) hb)
  clear hb
  have d0 := HB2.out.c0
  have d5 := HB2.out.c5
  have d6 := HB2.out.c6
  have d7 := HB2.out.c7
  have d8 := HB2.out.c8
  have f0 := HB2.out.fz 8
  have f5 := HB2.out.fz 13
  have f6 := HB2.out.fz 14
  have f7 := HB2.out.fz 15
  have f8 := HB2.out.fz 16
  go_wp2_with (fail)
  go_at_call 178
  refine (unit_calls (nx * 256) _).mono ?_
  rintro e w3 ⟨rfl, hb⟩
  have HB3 := Aside0.mk (HB2.out.kept hb)
  have HO3 := Aside0.mk (own_below HO2.out hb)
  have HK3 := Aside0.mk (KL.then_ HK2.out (Nat.le_of_lt (IsB.lt HB2.out)) hb)
  clear hb d0 d5 d6 d7 d8 f0 f5 f6 f7 f8
  have d0 := HB3.out.c0
  have d5 := HB3.out.c5
  have d6 := HB3.out.c6
  have d7 := HB3.out.c7
  have d8 := HB3.out.c8
  have f0 := HB3.out.fz 8
  have f5 := HB3.out.fz 13
  have f6 := HB3.out.fz 14
  have f7 := HB3.out.fz 15
  have f8 := HB3.out.fz 16
  go_wp2_with (fail)
  go_ret
  rw [E1.out]
  exact ⟨rfl, ⟨tx, HB3.out, HO3.out⟩, HK3.out⟩

set_option maxHeartbeats 16000000 in
set_option maxRecDepth 100000 in
theorem dig_no_2P {W : World} {b : Nat} {p : LP} {a l lo hi sg : Int} {text : List UInt8} {un fi : Int} (h : IsQ W b p ⟨a, l, lo, hi, sg, text, 2, un, fi⟩) (hg : Good ⟨a, l, lo, hi, sg, text, 2, un, fi⟩) (hd : Dig ⟨a, l, lo, hi, sg, text, 2, un, fi⟩) (c n nx : Int) (k0 : 0 ≤ c) (k1 : c < 256) (hx : hexV c = (n, false)) (hnx : un * 16 + n = nx) (hfi : fi > 0)  :
    Calls Tryd.prog 158 #[.pointer (some ⟨b, 8, none⟩), .int .u8 c] W fun e w' => e = .returned (.int .i64 (digitS ⟨a, l, lo, hi, sg, text, 2, un, fi⟩ c).2) ∧ IsQ w' b p (digitS ⟨a, l, lo, hi, sg, text, 2, un, fi⟩ c).1 ∧ KL b p.B W w' := by
  have hhr := hexV_range c
  rw [hx] at hhr
  obtain ⟨x1, x2, x3, x4⟩ := digit_facts un n hd.un0 hd.un1 hhr.1 hhr.2
  rw [hnx] at x2 x3 x4
  have hnr : 0 ≤ nx ∧ nx ≤ 65535 := by have := hd.un0; have := hd.un1; simp only at *; omega
  have e1 : digitS (⟨a, l, lo, hi, sg, text, 2, un, fi⟩ : QS) c = ((⟨a, l, lo, hi, sg, text, 2, un, fi⟩ : QS), 3) := by
    unfold digitS digitT secondV
    simp only [hx, hnx]
    simp [hfi, show fi ≠ 0 by omega]
  have E1 := Aside0.mk e1
  have b1 : decide (0 < fi) = true := by simp; omega
  have b2 : (fi == 0) = false := by simp; omega
  have b2' : decide (fi = 0) = false := by simp; omega
  have hh := hex_calls c k0 k1
  rw [hx] at hh
  simp only at hh
  have HX := Aside0.mk hh
  have HG := Aside0.mk hg
  obtain ⟨tx, hb, ho⟩ := h
  have HB := Aside0.mk hb
  have HO := Aside0.mk ho
  have HLT := Aside0.mk (IsB.lt hb)
  clear hb ho hg hd k0 k1 hx hnx hhr hnr hh e1 hfi
  go_enter Tryd.func158, Tryd.ntmps158
  go_wp2_with (fail)
  go_at_call 177
  refine (HX.out _).mono ?_
  rintro e w2 ⟨rfl, hb⟩
  have HB2 := Aside0.mk (HB.out.kept hb)
  have HO2 := Aside0.mk (own_below HO.out hb)
  have HK2 := Aside0.mk ((KL.refl b p.B W).then_ (Nat.le_of_lt HLT.out) hb)
  clear hb
  have d0 := HB2.out.c0
  have d5 := HB2.out.c5
  have d6 := HB2.out.c6
  have d7 := HB2.out.c7
  have d8 := HB2.out.c8
  have f0 := HB2.out.fz 8
  have f5 := HB2.out.fz 13
  have f6 := HB2.out.fz 14
  have f7 := HB2.out.fz 15
  have f8 := HB2.out.fz 16
  go_wp2_with (fail)
  go_ret
  rw [E1.out]
  exact ⟨rfl, ⟨tx, HB2.out, HO2.out⟩, HK2.out⟩

set_option maxHeartbeats 16000000 in
set_option maxRecDepth 100000 in
theorem dig_no_2Z {W : World} {b : Nat} {p : LP} {a l lo hi sg : Int} {text : List UInt8} {un fi : Int} (h : IsQ W b p ⟨a, l, lo, hi, sg, text, 2, un, fi⟩) (hg : Good ⟨a, l, lo, hi, sg, text, 2, un, fi⟩) (hd : Dig ⟨a, l, lo, hi, sg, text, 2, un, fi⟩) (c n nx : Int) (k0 : 0 ≤ c) (k1 : c < 256) (hx : hexV c = (n, false)) (hnx : un * 16 + n = nx) (hfi : fi = 0)  :
    Calls Tryd.prog 158 #[.pointer (some ⟨b, 8, none⟩), .int .u8 c] W fun e w' => e = .returned (.int .i64 (digitS ⟨a, l, lo, hi, sg, text, 2, un, fi⟩ c).2) ∧ IsQ w' b p (digitS ⟨a, l, lo, hi, sg, text, 2, un, fi⟩ c).1 ∧ KL b p.B W w' := by
  have hhr := hexV_range c
  rw [hx] at hhr
  obtain ⟨x1, x2, x3, x4⟩ := digit_facts un n hd.un0 hd.un1 hhr.1 hhr.2
  rw [hnx] at x2 x3 x4
  have hnr : 0 ≤ nx ∧ nx ≤ 65535 := by have := hd.un0; have := hd.un1; simp only at *; omega
  have e1 : digitS (⟨a, l, lo, hi, sg, text, 2, un, fi⟩ : QS) c = ((⟨a, l, lo, hi, sg, text, 2, un, fi⟩ : QS), 3) := by
    unfold digitS digitT secondV
    simp only [hx, hnx]
    simp [hfi]
  have E1 := Aside0.mk e1
  subst hfi
  have hh := hex_calls c k0 k1
  rw [hx] at hh
  simp only at hh
  have HX := Aside0.mk hh
  have HG := Aside0.mk hg
  obtain ⟨tx, hb, ho⟩ := h
  have HB := Aside0.mk hb
  have HO := Aside0.mk ho
  have HLT := Aside0.mk (IsB.lt hb)
  clear hb ho hg hd k0 k1 hx hnx hhr hnr hh e1
  go_enter Tryd.func158, Tryd.ntmps158
  go_wp2_with (fail)
  go_at_call 177
  refine (HX.out _).mono ?_
  rintro e w2 ⟨rfl, hb⟩
  have HB2 := Aside0.mk (HB.out.kept hb)
  have HO2 := Aside0.mk (own_below HO.out hb)
  have HK2 := Aside0.mk ((KL.refl b p.B W).then_ (Nat.le_of_lt HLT.out) hb)
  clear hb
  have d0 := HB2.out.c0
  have d5 := HB2.out.c5
  have d6 := HB2.out.c6
  have d7 := HB2.out.c7
  have d8 := HB2.out.c8
  have f0 := HB2.out.fz 8
  have f5 := HB2.out.fz 13
  have f6 := HB2.out.fz 14
  have f7 := HB2.out.fz 15
  have f8 := HB2.out.fz 16
  go_wp2_with (fail)
  go_ret
  rw [E1.out]
  exact ⟨rfl, ⟨tx, HB2.out, HO2.out⟩, HK2.out⟩

set_option maxHeartbeats 16000000 in
set_option maxRecDepth 100000 in
theorem dig_no_1P {W : World} {b : Nat} {p : LP} {a l lo hi sg : Int} {text : List UInt8} {un fi : Int} (h : IsQ W b p ⟨a, l, lo, hi, sg, text, 1, un, fi⟩) (hg : Good ⟨a, l, lo, hi, sg, text, 1, un, fi⟩) (hd : Dig ⟨a, l, lo, hi, sg, text, 1, un, fi⟩) (c n nx : Int) (k0 : 0 ≤ c) (k1 : c < 256) (hx : hexV c = (n, false)) (hnx : un * 16 + n = nx) (hfi : fi > 0)  :
    Calls Tryd.prog 158 #[.pointer (some ⟨b, 8, none⟩), .int .u8 c] W fun e w' => e = .returned (.int .i64 (digitS ⟨a, l, lo, hi, sg, text, 1, un, fi⟩ c).2) ∧ IsQ w' b p (digitS ⟨a, l, lo, hi, sg, text, 1, un, fi⟩ c).1 ∧ KL b p.B W w' := by
  have hhr := hexV_range c
  rw [hx] at hhr
  obtain ⟨x1, x2, x3, x4⟩ := digit_facts un n hd.un0 hd.un1 hhr.1 hhr.2
  rw [hnx] at x2 x3 x4
  have hnr : 0 ≤ nx ∧ nx ≤ 65535 := by have := hd.un0; have := hd.un1; simp only at *; omega
  have e1 : digitS (⟨a, l, lo, hi, sg, text, 1, un, fi⟩ : QS) c = ((⟨a, l, lo, hi, sg, text, 1, un, fi⟩ : QS), 3) := by
    unfold digitS digitT secondV
    simp only [hx, hnx]
    simp [hfi, show fi ≠ 0 by omega]
  have E1 := Aside0.mk e1
  have b1 : decide (0 < fi) = true := by simp; omega
  have b2 : (fi == 0) = false := by simp; omega
  have b2' : decide (fi = 0) = false := by simp; omega
  have hh := hex_calls c k0 k1
  rw [hx] at hh
  simp only at hh
  have HX := Aside0.mk hh
  have HG := Aside0.mk hg
  obtain ⟨tx, hb, ho⟩ := h
  have HB := Aside0.mk hb
  have HO := Aside0.mk ho
  have HLT := Aside0.mk (IsB.lt hb)
  clear hb ho hg hd k0 k1 hx hnx hhr hnr hh e1 hfi
  go_enter Tryd.func158, Tryd.ntmps158
  go_wp2_with (fail)
  go_at_call 177
  refine (HX.out _).mono ?_
  rintro e w2 ⟨rfl, hb⟩
  have HB2 := Aside0.mk (HB.out.kept hb)
  have HO2 := Aside0.mk (own_below HO.out hb)
  have HK2 := Aside0.mk ((KL.refl b p.B W).then_ (Nat.le_of_lt HLT.out) hb)
  clear hb
  have d0 := HB2.out.c0
  have d5 := HB2.out.c5
  have d6 := HB2.out.c6
  have d7 := HB2.out.c7
  have d8 := HB2.out.c8
  have f0 := HB2.out.fz 8
  have f5 := HB2.out.fz 13
  have f6 := HB2.out.fz 14
  have f7 := HB2.out.fz 15
  have f8 := HB2.out.fz 16
  go_wp2_with (fail)
  go_ret
  rw [E1.out]
  exact ⟨rfl, ⟨tx, HB2.out, HO2.out⟩, HK2.out⟩

set_option maxHeartbeats 16000000 in
set_option maxRecDepth 100000 in
theorem dig_no_1Z {W : World} {b : Nat} {p : LP} {a l lo hi sg : Int} {text : List UInt8} {un fi : Int} (h : IsQ W b p ⟨a, l, lo, hi, sg, text, 1, un, fi⟩) (hg : Good ⟨a, l, lo, hi, sg, text, 1, un, fi⟩) (hd : Dig ⟨a, l, lo, hi, sg, text, 1, un, fi⟩) (c n nx : Int) (k0 : 0 ≤ c) (k1 : c < 256) (hx : hexV c = (n, false)) (hnx : un * 16 + n = nx) (hfi : fi = 0)  :
    Calls Tryd.prog 158 #[.pointer (some ⟨b, 8, none⟩), .int .u8 c] W fun e w' => e = .returned (.int .i64 (digitS ⟨a, l, lo, hi, sg, text, 1, un, fi⟩ c).2) ∧ IsQ w' b p (digitS ⟨a, l, lo, hi, sg, text, 1, un, fi⟩ c).1 ∧ KL b p.B W w' := by
  have hhr := hexV_range c
  rw [hx] at hhr
  obtain ⟨x1, x2, x3, x4⟩ := digit_facts un n hd.un0 hd.un1 hhr.1 hhr.2
  rw [hnx] at x2 x3 x4
  have hnr : 0 ≤ nx ∧ nx ≤ 65535 := by have := hd.un0; have := hd.un1; simp only at *; omega
  have e1 : digitS (⟨a, l, lo, hi, sg, text, 1, un, fi⟩ : QS) c = ((⟨a, l, lo, hi, sg, text, 1, un, fi⟩ : QS), 3) := by
    unfold digitS digitT secondV
    simp only [hx, hnx]
    simp [hfi]
  have E1 := Aside0.mk e1
  subst hfi
  have hh := hex_calls c k0 k1
  rw [hx] at hh
  simp only at hh
  have HX := Aside0.mk hh
  have HG := Aside0.mk hg
  obtain ⟨tx, hb, ho⟩ := h
  have HB := Aside0.mk hb
  have HO := Aside0.mk ho
  have HLT := Aside0.mk (IsB.lt hb)
  clear hb ho hg hd k0 k1 hx hnx hhr hnr hh e1
  go_enter Tryd.func158, Tryd.ntmps158
  go_wp2_with (fail)
  go_at_call 177
  refine (HX.out _).mono ?_
  rintro e w2 ⟨rfl, hb⟩
  have HB2 := Aside0.mk (HB.out.kept hb)
  have HO2 := Aside0.mk (own_below HO.out hb)
  have HK2 := Aside0.mk ((KL.refl b p.B W).then_ (Nat.le_of_lt HLT.out) hb)
  clear hb
  have d0 := HB2.out.c0
  have d5 := HB2.out.c5
  have d6 := HB2.out.c6
  have d7 := HB2.out.c7
  have d8 := HB2.out.c8
  have f0 := HB2.out.fz 8
  have f5 := HB2.out.fz 13
  have f6 := HB2.out.fz 14
  have f7 := HB2.out.fz 15
  have f8 := HB2.out.fz 16
  go_wp2_with (fail)
  go_ret
  rw [E1.out]
  exact ⟨rfl, ⟨tx, HB2.out, HO2.out⟩, HK2.out⟩

set_option maxHeartbeats 16000000 in
set_option maxRecDepth 100000 in
theorem dig_4P_bad {W : World} {b : Nat} {p : LP} {a l lo hi sg : Int} {text : List UInt8} {un fi : Int} (h : IsQ W b p ⟨a, l, lo, hi, sg, text, 4, un, fi⟩) (hg : Good ⟨a, l, lo, hi, sg, text, 4, un, fi⟩) (hd : Dig ⟨a, l, lo, hi, sg, text, 4, un, fi⟩) (c n nx : Int) (k0 : 0 ≤ c) (k1 : c < 256) (hx : hexV c = (n, true)) (hnx : un * 16 + n = nx) (hfi : fi > 0) (hn13 : n ≠ 13) :
    Calls Tryd.prog 158 #[.pointer (some ⟨b, 8, none⟩), .int .u8 c] W fun e w' => e = .returned (.int .i64 (digitS ⟨a, l, lo, hi, sg, text, 4, un, fi⟩ c).2) ∧ IsQ w' b p (digitS ⟨a, l, lo, hi, sg, text, 4, un, fi⟩ c).1 ∧ KL b p.B W w' := by
  have hhr := hexV_range c
  rw [hx] at hhr
  obtain ⟨x1, x2, x3, x4⟩ := digit_facts un n hd.un0 hd.un1 hhr.1 hhr.2
  rw [hnx] at x2 x3 x4
  have hnr : 0 ≤ nx ∧ nx ≤ 65535 := by have := hd.un0; have := hd.un1; simp only at *; omega
  have e1 : digitS (⟨a, l, lo, hi, sg, text, 4, un, fi⟩ : QS) c = ((⟨a, l, lo, hi, sg, text, 4, un, fi⟩ : QS), 4) := by
    unfold digitS digitT secondV
    simp only [hx, hnx]
    simp [hfi, hn13, show fi ≠ 0 by omega]
  have E1 := Aside0.mk e1
  have b1 : decide (0 < fi) = true := by simp; omega
  have b2 : (fi == 0) = false := by simp; omega
  have b2' : decide (fi = 0) = false := by simp; omega
  have b3 : (n == 13) = false := by simp; exact hn13
  have b3' : decide (n = 13) = false := by simp; exact hn13
  have b3n : (n != 13) = true := by simp; exact hn13
  have hh := hex_calls c k0 k1
  rw [hx] at hh
  simp only at hh
  have HX := Aside0.mk hh
  have HG := Aside0.mk hg
  obtain ⟨tx, hb, ho⟩ := h
  have HB := Aside0.mk hb
  have HO := Aside0.mk ho
  have HLT := Aside0.mk (IsB.lt hb)
  clear hb ho hg hd k0 k1 hx hnx hhr hnr hh e1 hfi hn13
  go_enter Tryd.func158, Tryd.ntmps158
  go_wp2_with (fail)
  go_at_call 177
  refine (HX.out _).mono ?_
  rintro e w2 ⟨rfl, hb⟩
  have HB2 := Aside0.mk (HB.out.kept hb)
  have HO2 := Aside0.mk (own_below HO.out hb)
  have HK2 := Aside0.mk ((KL.refl b p.B W).then_ (Nat.le_of_lt HLT.out) hb)
  clear hb
  have d0 := HB2.out.c0
  have d5 := HB2.out.c5
  have d6 := HB2.out.c6
  have d7 := HB2.out.c7
  have d8 := HB2.out.c8
  have f0 := HB2.out.fz 8
  have f5 := HB2.out.fz 13
  have f6 := HB2.out.fz 14
  have f7 := HB2.out.fz 15
  have f8 := HB2.out.fz 16
  go_wp2_with (fail)
  go_ret
  rw [E1.out]
  exact ⟨rfl, ⟨tx, HB2.out, HO2.out⟩, HK2.out⟩

set_option maxHeartbeats 16000000 in
set_option maxRecDepth 100000 in
theorem dig_4P {W : World} {b : Nat} {p : LP} {a l lo hi sg : Int} {text : List UInt8} {un fi : Int} (h : IsQ W b p ⟨a, l, lo, hi, sg, text, 4, un, fi⟩) (hg : Good ⟨a, l, lo, hi, sg, text, 4, un, fi⟩) (hd : Dig ⟨a, l, lo, hi, sg, text, 4, un, fi⟩) (c n nx : Int) (k0 : 0 ≤ c) (k1 : c < 256) (hx : hexV c = (n, true)) (hnx : un * 16 + n = nx) (hfi : fi > 0) (hn13 : n = 13) :
    Calls Tryd.prog 158 #[.pointer (some ⟨b, 8, none⟩), .int .u8 c] W fun e w' => e = .returned (.int .i64 (digitS ⟨a, l, lo, hi, sg, text, 4, un, fi⟩ c).2) ∧ IsQ w' b p (digitS ⟨a, l, lo, hi, sg, text, 4, un, fi⟩ c).1 ∧ KL b p.B W w' := by
  have hhr := hexV_range c
  rw [hx] at hhr
  obtain ⟨x1, x2, x3, x4⟩ := digit_facts un n hd.un0 hd.un1 hhr.1 hhr.2
  rw [hnx] at x2 x3 x4
  have hnr : 0 ≤ nx ∧ nx ≤ 65535 := by have := hd.un0; have := hd.un1; simp only at *; omega
  have e1 : digitS (⟨a, l, lo, hi, sg, text, 4, un, fi⟩ : QS) c = ({ (⟨a, l, lo, hi, sg, text, 4, un, fi⟩ : QS) with un := nx, le := 4 - 1 }, 0) := by
    unfold digitS digitT secondV
    simp only [hx, hnx]
    simp [hfi, hn13, show fi ≠ 0 by omega]
  have E1 := Aside0.mk e1
  have b1 : decide (0 < fi) = true := by simp; omega
  have b2 : (fi == 0) = false := by simp; omega
  have b2' : decide (fi = 0) = false := by simp; omega
  have b3 : (n == 13) = true := by simp; exact hn13
  have b3' : decide (n = 13) = true := by simp; exact hn13
  have b3n : (n != 13) = false := by simp; exact hn13
  have hh := hex_calls c k0 k1
  rw [hx] at hh
  simp only at hh
  have HX := Aside0.mk hh
  have HG := Aside0.mk hg
  obtain ⟨tx, hb, ho⟩ := h
  have HB := Aside0.mk hb
  have HO := Aside0.mk ho
  have HLT := Aside0.mk (IsB.lt hb)
  clear hb ho hg hd k0 k1 hx hnx hhr hnr hh e1 hfi hn13
  go_enter Tryd.func158, Tryd.ntmps158
  go_wp2_with (fail)
  go_at_call 177
  refine (HX.out _).mono ?_
  rintro e w2 ⟨rfl, hb⟩
  have HB2 := Aside0.mk (HB.out.kept hb)
  have HO2 := Aside0.mk (own_below HO.out hb)
  have HK2 := Aside0.mk ((KL.refl b p.B W).then_ (Nat.le_of_lt HLT.out) hb)
  clear hb
  have d0 := HB2.out.c0
  have d5 := HB2.out.c5
  have d6 := HB2.out.c6
  have d7 := HB2.out.c7
  have d8 := HB2.out.c8
  have f0 := HB2.out.fz 8
  have f5 := HB2.out.fz 13
  have f6 := HB2.out.fz 14
  have f7 := HB2.out.fz 15
  have f8 := HB2.out.fz 16
  go_wp2_with (fail)
  go_ret
  rw [E1.out]
  exact ⟨rfl, ⟨tx, (HB2.out.s7 _).s6 _, own_set (own_set HO2.out 15 _) 14 _⟩, HK2.out.trans (((KeepB.refl b _).set 15 _).set 14 _).kl⟩

set_option maxHeartbeats 16000000 in
set_option maxRecDepth 100000 in
theorem dig_4Z {W : World} {b : Nat} {p : LP} {a l lo hi sg : Int} {text : List UInt8} {un fi : Int} (h : IsQ W b p ⟨a, l, lo, hi, sg, text, 4, un, fi⟩) (hg : Good ⟨a, l, lo, hi, sg, text, 4, un, fi⟩) (hd : Dig ⟨a, l, lo, hi, sg, text, 4, un, fi⟩) (c n nx : Int) (k0 : 0 ≤ c) (k1 : c < 256) (hx : hexV c = (n, true)) (hnx : un * 16 + n = nx) (hfi : fi = 0)  :
    Calls Tryd.prog 158 #[.pointer (some ⟨b, 8, none⟩), .int .u8 c] W fun e w' => e = .returned (.int .i64 (digitS ⟨a, l, lo, hi, sg, text, 4, un, fi⟩ c).2) ∧ IsQ w' b p (digitS ⟨a, l, lo, hi, sg, text, 4, un, fi⟩ c).1 ∧ KL b p.B W w' := by
  have hhr := hexV_range c
  rw [hx] at hhr
  obtain ⟨x1, x2, x3, x4⟩ := digit_facts un n hd.un0 hd.un1 hhr.1 hhr.2
  rw [hnx] at x2 x3 x4
  have hnr : 0 ≤ nx ∧ nx ≤ 65535 := by have := hd.un0; have := hd.un1; simp only at *; omega
  have e1 : digitS (⟨a, l, lo, hi, sg, text, 4, un, fi⟩ : QS) c = ({ (⟨a, l, lo, hi, sg, text, 4, un, fi⟩ : QS) with un := nx, le := 4 - 1 }, 0) := by
    unfold digitS digitT secondV
    simp only [hx, hnx]
    simp [hfi]
  have E1 := Aside0.mk e1
  subst hfi
  have hh := hex_calls c k0 k1
  rw [hx] at hh
  simp only at hh
  have HX := Aside0.mk hh
  have HG := Aside0.mk hg
  obtain ⟨tx, hb, ho⟩ := h
  have HB := Aside0.mk hb
  have HO := Aside0.mk ho
  have HLT := Aside0.mk (IsB.lt hb)
  clear hb ho hg hd k0 k1 hx hnx hhr hnr hh e1
  go_enter Tryd.func158, Tryd.ntmps158
  go_wp2_with (fail)
  go_at_call 177
  refine (HX.out _).mono ?_
  rintro e w2 ⟨rfl, hb⟩
  have HB2 := Aside0.mk (HB.out.kept hb)
  have HO2 := Aside0.mk (own_below HO.out hb)
  have HK2 := Aside0.mk ((KL.refl b p.B W).then_ (Nat.le_of_lt HLT.out) hb)
  clear hb
  have d0 := HB2.out.c0
  have d5 := HB2.out.c5
  have d6 := HB2.out.c6
  have d7 := HB2.out.c7
  have d8 := HB2.out.c8
  have f0 := HB2.out.fz 8
  have f5 := HB2.out.fz 13
  have f6 := HB2.out.fz 14
  have f7 := HB2.out.fz 15
  have f8 := HB2.out.fz 16
  go_wp2_with (fail)
  go_ret
  rw [E1.out]
  exact ⟨rfl, ⟨tx, (HB2.out.s7 _).s6 _, own_set (own_set HO2.out 15 _) 14 _⟩, HK2.out.trans (((KeepB.refl b _).set 15 _).set 14 _).kl⟩

set_option maxHeartbeats 16000000 in
set_option maxRecDepth 100000 in
theorem dig_3P_bad {W : World} {b : Nat} {p : LP} {a l lo hi sg : Int} {text : List UInt8} {un fi : Int} (h : IsQ W b p ⟨a, l, lo, hi, sg, text, 3, un, fi⟩) (hg : Good ⟨a, l, lo, hi, sg, text, 3, un, fi⟩) (hd : Dig ⟨a, l, lo, hi, sg, text, 3, un, fi⟩) (c n nx : Int) (k0 : 0 ≤ c) (k1 : c < 256) (hx : hexV c = (n, true)) (hnx : un * 16 + n = nx) (hfi : fi > 0) (hs2 : unitV (nx * 256) ≠ 2) :
    Calls Tryd.prog 158 #[.pointer (some ⟨b, 8, none⟩), .int .u8 c] W fun e w' => e = .returned (.int .i64 (digitS ⟨a, l, lo, hi, sg, text, 3, un, fi⟩ c).2) ∧ IsQ w' b p (digitS ⟨a, l, lo, hi, sg, text, 3, un, fi⟩ c).1 ∧ KL b p.B W w' := by
  have hhr := hexV_range c
  rw [hx] at hhr
  obtain ⟨x1, x2, x3, x4⟩ := digit_facts un n hd.un0 hd.un1 hhr.1 hhr.2
  rw [hnx] at x2 x3 x4
  have hnr : 0 ≤ nx ∧ nx ≤ 65535 := by have := hd.un0; have := hd.un1; simp only at *; omega
  have e1 : digitS (⟨a, l, lo, hi, sg, text, 3, un, fi⟩ : QS) c = ((⟨a, l, lo, hi, sg, text, 3, un, fi⟩ : QS), 4) := by
    unfold digitS digitT secondV
    simp only [hx, hnx]
    simp [hfi, hs2, show fi ≠ 0 by omega]
  have E1 := Aside0.mk e1
  have b1 : decide (0 < fi) = true := by simp; omega
  have b2 : (fi == 0) = false := by simp; omega
  have b2' : decide (fi = 0) = false := by simp; omega
  have b4 : (unitV (nx * 256) == 2) = false := by simp; exact hs2
  have b4' : decide (unitV (nx * 256) = 2) = false := by simp; exact hs2
  have hh := hex_calls c k0 k1
  rw [hx] at hh
  simp only at hh
  have HX := Aside0.mk hh
  have HG := Aside0.mk hg
  obtain ⟨tx, hb, ho⟩ := h
  have HB := Aside0.mk hb
  have HO := Aside0.mk ho
  have HLT := Aside0.mk (IsB.lt hb)
  clear hb ho hg hd k0 k1 hx hnx hhr hnr hh e1 hfi hs2
  go_enter Tryd.func158, Tryd.ntmps158
  go_wp2_with (fail)
  go_at_call 177
  refine (HX.out _).mono ?_
  rintro e w2 ⟨rfl, hb⟩
  have HB2 := Aside0.mk (HB.out.kept hb)
  have HO2 := Aside0.mk (own_below HO.out hb)
  have HK2 := Aside0.mk ((KL.refl b p.B W).then_ (Nat.le_of_lt HLT.out) hb)
  clear hb
  have d0 := HB2.out.c0
  have d5 := HB2.out.c5
  have d6 := HB2.out.c6
  have d7 := HB2.out.c7
  have d8 := HB2.out.c8
  have f0 := HB2.out.fz 8
  have f5 := HB2.out.fz 13
  have f6 := HB2.out.fz 14
  have f7 := HB2.out.fz 15
  have f8 := HB2.out.fz 16
  go_wp2_with (fail)
  go_at_call 178
  refine (unit_calls (nx * 256) _).mono ?_
  rintro e w3 ⟨rfl, hb⟩
  have HB3 := Aside0.mk (HB2.out.kept hb)
  have HO3 := Aside0.mk (own_below HO2.out hb)
  have HK3 := Aside0.mk (KL.then_ HK2.out (Nat.le_of_lt (IsB.lt HB2.out)) hb)
  clear hb d0 d5 d6 d7 d8 f0 f5 f6 f7 f8
  have d0 := HB3.out.c0
  have d5 := HB3.out.c5
  have d6 := HB3.out.c6
  have d7 := HB3.out.c7
  have d8 := HB3.out.c8
  have f0 := HB3.out.fz 8
  have f5 := HB3.out.fz 13
  have f6 := HB3.out.fz 14
  have f7 := HB3.out.fz 15
  have f8 := HB3.out.fz 16
  go_wp2_with (fail)
  go_ret
  rw [E1.out]
  exact ⟨rfl, ⟨tx, HB3.out, HO3.out⟩, HK3.out⟩

set_option maxHeartbeats 16000000 in
set_option maxRecDepth 100000 in
theorem dig_3P {W : World} {b : Nat} {p : LP} {a l lo hi sg : Int} {text : List UInt8} {un fi : Int} (h : IsQ W b p ⟨a, l, lo, hi, sg, text, 3, un, fi⟩) (hg : Good ⟨a, l, lo, hi, sg, text, 3, un, fi⟩) (hd : Dig ⟨a, l, lo, hi, sg, text, 3, un, fi⟩) (c n nx : Int) (k0 : 0 ≤ c) (k1 : c < 256) (hx : hexV c = (n, true)) (hnx : un * 16 + n = nx) (hfi : fi > 0) (hs2 : unitV (nx * 256) = 2) :
    Calls Tryd.prog 158 #[.pointer (some ⟨b, 8, none⟩), .int .u8 c] W fun e w' => e = .returned (.int .i64 (digitS ⟨a, l, lo, hi, sg, text, 3, un, fi⟩ c).2) ∧ IsQ w' b p (digitS ⟨a, l, lo, hi, sg, text, 3, un, fi⟩ c).1 ∧ KL b p.B W w' := by
  have hhr := hexV_range c
  rw [hx] at hhr
  obtain ⟨x1, x2, x3, x4⟩ := digit_facts un n hd.un0 hd.un1 hhr.1 hhr.2
  rw [hnx] at x2 x3 x4
  have hnr : 0 ≤ nx ∧ nx ≤ 65535 := by have := hd.un0; have := hd.un1; simp only at *; omega
  have e1 : digitS (⟨a, l, lo, hi, sg, text, 3, un, fi⟩ : QS) c = ({ (⟨a, l, lo, hi, sg, text, 3, un, fi⟩ : QS) with un := nx, le := 3 - 1 }, 0) := by
    unfold digitS digitT secondV
    simp only [hx, hnx]
    simp [hfi, hs2, show fi ≠ 0 by omega]
  have E1 := Aside0.mk e1
  have b1 : decide (0 < fi) = true := by simp; omega
  have b2 : (fi == 0) = false := by simp; omega
  have b2' : decide (fi = 0) = false := by simp; omega
  have b4 : (unitV (nx * 256) == 2) = true := by simp; exact hs2
  have b4' : decide (unitV (nx * 256) = 2) = true := by simp; exact hs2
  have hh := hex_calls c k0 k1
  rw [hx] at hh
  simp only at hh
  have HX := Aside0.mk hh
  have HG := Aside0.mk hg
  obtain ⟨tx, hb, ho⟩ := h
  have HB := Aside0.mk hb
  have HO := Aside0.mk ho
  have HLT := Aside0.mk (IsB.lt hb)
  clear hb ho hg hd k0 k1 hx hnx hhr hnr hh e1 hfi hs2
  go_enter Tryd.func158, Tryd.ntmps158
  go_wp2_with (fail)
  go_at_call 177
  refine (HX.out _).mono ?_
  rintro e w2 ⟨rfl, hb⟩
  have HB2 := Aside0.mk (HB.out.kept hb)
  have HO2 := Aside0.mk (own_below HO.out hb)
  have HK2 := Aside0.mk ((KL.refl b p.B W).then_ (Nat.le_of_lt HLT.out) hb)
  clear hb
  have d0 := HB2.out.c0
  have d5 := HB2.out.c5
  have d6 := HB2.out.c6
  have d7 := HB2.out.c7
  have d8 := HB2.out.c8
  have f0 := HB2.out.fz 8
  have f5 := HB2.out.fz 13
  have f6 := HB2.out.fz 14
  have f7 := HB2.out.fz 15
  have f8 := HB2.out.fz 16
  go_wp2_with (fail)
  go_at_call 178
  refine (unit_calls (nx * 256) _).mono ?_
  rintro e w3 ⟨rfl, hb⟩
  have HB3 := Aside0.mk (HB2.out.kept hb)
  have HO3 := Aside0.mk (own_below HO2.out hb)
  have HK3 := Aside0.mk (KL.then_ HK2.out (Nat.le_of_lt (IsB.lt HB2.out)) hb)
  clear hb d0 d5 d6 d7 d8 f0 f5 f6 f7 f8
  have d0 := HB3.out.c0
  have d5 := HB3.out.c5
  have d6 := HB3.out.c6
  have d7 := HB3.out.c7
  have d8 := HB3.out.c8
  have f0 := HB3.out.fz 8
  have f5 := HB3.out.fz 13
  have f6 := HB3.out.fz 14
  have f7 := HB3.out.fz 15
  have f8 := HB3.out.fz 16
  go_wp2_with (fail)
  go_ret
  rw [E1.out]
  exact ⟨rfl, ⟨tx, (HB3.out.s7 _).s6 _, own_set (own_set HO3.out 15 _) 14 _⟩, HK3.out.trans (((KeepB.refl b _).set 15 _).set 14 _).kl⟩

set_option maxHeartbeats 16000000 in
set_option maxRecDepth 100000 in
theorem dig_3Z_bad {W : World} {b : Nat} {p : LP} {a l lo hi sg : Int} {text : List UInt8} {un fi : Int} (h : IsQ W b p ⟨a, l, lo, hi, sg, text, 3, un, fi⟩) (hg : Good ⟨a, l, lo, hi, sg, text, 3, un, fi⟩) (hd : Dig ⟨a, l, lo, hi, sg, text, 3, un, fi⟩) (c n nx : Int) (k0 : 0 ≤ c) (k1 : c < 256) (hx : hexV c = (n, true)) (hnx : un * 16 + n = nx) (hfi : fi = 0) (hs2 : unitV (nx * 256) = 2) :
    Calls Tryd.prog 158 #[.pointer (some ⟨b, 8, none⟩), .int .u8 c] W fun e w' => e = .returned (.int .i64 (digitS ⟨a, l, lo, hi, sg, text, 3, un, fi⟩ c).2) ∧ IsQ w' b p (digitS ⟨a, l, lo, hi, sg, text, 3, un, fi⟩ c).1 ∧ KL b p.B W w' := by
  have hhr := hexV_range c
  rw [hx] at hhr
  obtain ⟨x1, x2, x3, x4⟩ := digit_facts un n hd.un0 hd.un1 hhr.1 hhr.2
  rw [hnx] at x2 x3 x4
  have hnr : 0 ≤ nx ∧ nx ≤ 65535 := by have := hd.un0; have := hd.un1; simp only at *; omega
  have e1 : digitS (⟨a, l, lo, hi, sg, text, 3, un, fi⟩ : QS) c = ((⟨a, l, lo, hi, sg, text, 3, un, fi⟩ : QS), 4) := by
    unfold digitS digitT secondV
    simp only [hx, hnx]
    simp [hfi, hs2]
  have E1 := Aside0.mk e1
  subst hfi
  have b4 : (unitV (nx * 256) == 2) = true := by simp; exact hs2
  have b4' : decide (unitV (nx * 256) = 2) = true := by simp; exact hs2
  have hh := hex_calls c k0 k1
  rw [hx] at hh
  simp only at hh
  have HX := Aside0.mk hh
  have HG := Aside0.mk hg
  obtain ⟨tx, hb, ho⟩ := h
  have HB := Aside0.mk hb
  have HO := Aside0.mk ho
  have HLT := Aside0.mk (IsB.lt hb)
  clear hb ho hg hd k0 k1 hx hnx hhr hnr hh e1 hs2
  go_enter Tryd.func158, Tryd.ntmps158
  go_wp2_with (fail)
  go_at_call 177
  refine (HX.out _).mono ?_
  rintro e w2 ⟨rfl, hb⟩
  have HB2 := Aside0.mk (HB.out.kept hb)
  have HO2 := Aside0.mk (own_below HO.out hb)
  have HK2 := Aside0.mk ((KL.refl b p.B W).then_ (Nat.le_of_lt HLT.out) hb)
  clear hb
  have d0 := HB2.out.c0
  have d5 := HB2.out.c5
  have d6 := HB2.out.c6
  have d7 := HB2.out.c7
  have d8 := HB2.out.c8
  have f0 := HB2.out.fz 8
  have f5 := HB2.out.fz 13
  have f6 := HB2.out.fz 14
  have f7 := HB2.out.fz 15
  have f8 := HB2.out.fz 16
  go_wp2_with (fail)
  go_at_call 178
  refine (unit_calls (nx * 256) _).mono ?_
  rintro e w3 ⟨rfl, hb⟩
  have HB3 := Aside0.mk (HB2.out.kept hb)
  have HO3 := Aside0.mk (own_below HO2.out hb)
  have HK3 := Aside0.mk (KL.then_ HK2.out (Nat.le_of_lt (IsB.lt HB2.out)) hb)
  clear hb d0 d5 d6 d7 d8 f0 f5 f6 f7 f8
  have d0 := HB3.out.c0
  have d5 := HB3.out.c5
  have d6 := HB3.out.c6
  have d7 := HB3.out.c7
  have d8 := HB3.out.c8
  have f0 := HB3.out.fz 8
  have f5 := HB3.out.fz 13
  have f6 := HB3.out.fz 14
  have f7 := HB3.out.fz 15
  have f8 := HB3.out.fz 16
  go_wp2_with (fail)
  go_ret
  rw [E1.out]
  exact ⟨rfl, ⟨tx, HB3.out, HO3.out⟩, HK3.out⟩

set_option maxHeartbeats 16000000 in
set_option maxRecDepth 100000 in
theorem dig_3Z {W : World} {b : Nat} {p : LP} {a l lo hi sg : Int} {text : List UInt8} {un fi : Int} (h : IsQ W b p ⟨a, l, lo, hi, sg, text, 3, un, fi⟩) (hg : Good ⟨a, l, lo, hi, sg, text, 3, un, fi⟩) (hd : Dig ⟨a, l, lo, hi, sg, text, 3, un, fi⟩) (c n nx : Int) (k0 : 0 ≤ c) (k1 : c < 256) (hx : hexV c = (n, true)) (hnx : un * 16 + n = nx) (hfi : fi = 0) (hs2 : unitV (nx * 256) ≠ 2) :
    Calls Tryd.prog 158 #[.pointer (some ⟨b, 8, none⟩), .int .u8 c] W fun e w' => e = .returned (.int .i64 (digitS ⟨a, l, lo, hi, sg, text, 3, un, fi⟩ c).2) ∧ IsQ w' b p (digitS ⟨a, l, lo, hi, sg, text, 3, un, fi⟩ c).1 ∧ KL b p.B W w' := by
  have hhr := hexV_range c
  rw [hx] at hhr
  obtain ⟨x1, x2, x3, x4⟩ := digit_facts un n hd.un0 hd.un1 hhr.1 hhr.2
  rw [hnx] at x2 x3 x4
  have hnr : 0 ≤ nx ∧ nx ≤ 65535 := by have := hd.un0; have := hd.un1; simp only at *; omega
  have e1 : digitS (⟨a, l, lo, hi, sg, text, 3, un, fi⟩ : QS) c = ({ (⟨a, l, lo, hi, sg, text, 3, un, fi⟩ : QS) with un := nx, le := 3 - 1 }, 0) := by
    unfold digitS digitT secondV
    simp only [hx, hnx]
    simp [hfi, hs2]
  have E1 := Aside0.mk e1
  subst hfi
  have b4 : (unitV (nx * 256) == 2) = false := by simp; exact hs2
  have b4' : decide (unitV (nx * 256) = 2) = false := by simp; exact hs2
  have hh := hex_calls c k0 k1
  rw [hx] at hh
  simp only at hh
  have HX := Aside0.mk hh
  have HG := Aside0.mk hg
  obtain ⟨tx, hb, ho⟩ := h
  have HB := Aside0.mk hb
  have HO := Aside0.mk ho
  have HLT := Aside0.mk (IsB.lt hb)
  clear hb ho hg hd k0 k1 hx hnx hhr hnr hh e1 hs2
  go_enter Tryd.func158, Tryd.ntmps158
  go_wp2_with (fail)
  go_at_call 177
  refine (HX.out _).mono ?_
  rintro e w2 ⟨rfl, hb⟩
  have HB2 := Aside0.mk (HB.out.kept hb)
  have HO2 := Aside0.mk (own_below HO.out hb)
  have HK2 := Aside0.mk ((KL.refl b p.B W).then_ (Nat.le_of_lt HLT.out) hb)
  clear hb
  have d0 := HB2.out.c0
  have d5 := HB2.out.c5
  have d6 := HB2.out.c6
  have d7 := HB2.out.c7
  have d8 := HB2.out.c8
  have f0 := HB2.out.fz 8
  have f5 := HB2.out.fz 13
  have f6 := HB2.out.fz 14
  have f7 := HB2.out.fz 15
  have f8 := HB2.out.fz 16
  go_wp2_with (fail)
  go_at_call 178
  refine (unit_calls (nx * 256) _).mono ?_
  rintro e w3 ⟨rfl, hb⟩
  have HB3 := Aside0.mk (HB2.out.kept hb)
  have HO3 := Aside0.mk (own_below HO2.out hb)
  have HK3 := Aside0.mk (KL.then_ HK2.out (Nat.le_of_lt (IsB.lt HB2.out)) hb)
  clear hb d0 d5 d6 d7 d8 f0 f5 f6 f7 f8
  have d0 := HB3.out.c0
  have d5 := HB3.out.c5
  have d6 := HB3.out.c6
  have d7 := HB3.out.c7
  have d8 := HB3.out.c8
  have f0 := HB3.out.fz 8
  have f5 := HB3.out.fz 13
  have f6 := HB3.out.fz 14
  have f7 := HB3.out.fz 15
  have f8 := HB3.out.fz 16
  go_wp2_with (fail)
  go_ret
  rw [E1.out]
  exact ⟨rfl, ⟨tx, (HB3.out.s7 _).s6 _, own_set (own_set HO3.out 15 _) 14 _⟩, HK3.out.trans (((KeepB.refl b _).set 15 _).set 14 _).kl⟩

set_option maxHeartbeats 16000000 in
set_option maxRecDepth 100000 in
theorem dig_2P {W : World} {b : Nat} {p : LP} {a l lo hi sg : Int} {text : List UInt8} {un fi : Int} (h : IsQ W b p ⟨a, l, lo, hi, sg, text, 2, un, fi⟩) (hg : Good ⟨a, l, lo, hi, sg, text, 2, un, fi⟩) (hd : Dig ⟨a, l, lo, hi, sg, text, 2, un, fi⟩) (c n nx : Int) (k0 : 0 ≤ c) (k1 : c < 256) (hx : hexV c = (n, true)) (hnx : un * 16 + n = nx) (hfi : fi > 0)  :
    Calls Tryd.prog 158 #[.pointer (some ⟨b, 8, none⟩), .int .u8 c] W fun e w' => e = .returned (.int .i64 (digitS ⟨a, l, lo, hi, sg, text, 2, un, fi⟩ c).2) ∧ IsQ w' b p (digitS ⟨a, l, lo, hi, sg, text, 2, un, fi⟩ c).1 ∧ KL b p.B W w' := by
  have hhr := hexV_range c
  rw [hx] at hhr
  obtain ⟨x1, x2, x3, x4⟩ := digit_facts un n hd.un0 hd.un1 hhr.1 hhr.2
  rw [hnx] at x2 x3 x4
  have hnr : 0 ≤ nx ∧ nx ≤ 65535 := by have := hd.un0; have := hd.un1; simp only at *; omega
  have e1 : digitS (⟨a, l, lo, hi, sg, text, 2, un, fi⟩ : QS) c = ({ (⟨a, l, lo, hi, sg, text, 2, un, fi⟩ : QS) with un := nx, le := 2 - 1 }, 0) := by
    unfold digitS digitT secondV
    simp only [hx, hnx]
    simp [hfi, show fi ≠ 0 by omega]
  have E1 := Aside0.mk e1
  have b1 : decide (0 < fi) = true := by simp; omega
  have b2 : (fi == 0) = false := by simp; omega
  have b2' : decide (fi = 0) = false := by simp; omega
  have hh := hex_calls c k0 k1
  rw [hx] at hh
  simp only at hh
  have HX := Aside0.mk hh
  have HG := Aside0.mk hg
  obtain ⟨tx, hb, ho⟩ := h
  have HB := Aside0.mk hb
  have HO := Aside0.mk ho
  have HLT := Aside0.mk (IsB.lt hb)
  clear hb ho hg hd k0 k1 hx hnx hhr hnr hh e1 hfi
  go_enter Tryd.func158, Tryd.ntmps158
  go_wp2_with (fail)
  go_at_call 177
  refine (HX.out _).mono ?_
  rintro e w2 ⟨rfl, hb⟩
  have HB2 := Aside0.mk (HB.out.kept hb)
  have HO2 := Aside0.mk (own_below HO.out hb)
  have HK2 := Aside0.mk ((KL.refl b p.B W).then_ (Nat.le_of_lt HLT.out) hb)
  clear hb
  have d0 := HB2.out.c0
  have d5 := HB2.out.c5
  have d6 := HB2.out.c6
  have d7 := HB2.out.c7
  have d8 := HB2.out.c8
  have f0 := HB2.out.fz 8
  have f5 := HB2.out.fz 13
  have f6 := HB2.out.fz 14
  have f7 := HB2.out.fz 15
  have f8 := HB2.out.fz 16
  go_wp2_with (fail)
  go_ret
  rw [E1.out]
  exact ⟨rfl, ⟨tx, (HB2.out.s7 _).s6 _, own_set (own_set HO2.out 15 _) 14 _⟩, HK2.out.trans (((KeepB.refl b _).set 15 _).set 14 _).kl⟩

set_option maxHeartbeats 16000000 in
set_option maxRecDepth 100000 in
theorem dig_2Z {W : World} {b : Nat} {p : LP} {a l lo hi sg : Int} {text : List UInt8} {un fi : Int} (h : IsQ W b p ⟨a, l, lo, hi, sg, text, 2, un, fi⟩) (hg : Good ⟨a, l, lo, hi, sg, text, 2, un, fi⟩) (hd : Dig ⟨a, l, lo, hi, sg, text, 2, un, fi⟩) (c n nx : Int) (k0 : 0 ≤ c) (k1 : c < 256) (hx : hexV c = (n, true)) (hnx : un * 16 + n = nx) (hfi : fi = 0)  :
    Calls Tryd.prog 158 #[.pointer (some ⟨b, 8, none⟩), .int .u8 c] W fun e w' => e = .returned (.int .i64 (digitS ⟨a, l, lo, hi, sg, text, 2, un, fi⟩ c).2) ∧ IsQ w' b p (digitS ⟨a, l, lo, hi, sg, text, 2, un, fi⟩ c).1 ∧ KL b p.B W w' := by
  have hhr := hexV_range c
  rw [hx] at hhr
  obtain ⟨x1, x2, x3, x4⟩ := digit_facts un n hd.un0 hd.un1 hhr.1 hhr.2
  rw [hnx] at x2 x3 x4
  have hnr : 0 ≤ nx ∧ nx ≤ 65535 := by have := hd.un0; have := hd.un1; simp only at *; omega
  have e1 : digitS (⟨a, l, lo, hi, sg, text, 2, un, fi⟩ : QS) c = ({ (⟨a, l, lo, hi, sg, text, 2, un, fi⟩ : QS) with un := nx, le := 2 - 1 }, 0) := by
    unfold digitS digitT secondV
    simp only [hx, hnx]
    simp [hfi]
  have E1 := Aside0.mk e1
  subst hfi
  have hh := hex_calls c k0 k1
  rw [hx] at hh
  simp only at hh
  have HX := Aside0.mk hh
  have HG := Aside0.mk hg
  obtain ⟨tx, hb, ho⟩ := h
  have HB := Aside0.mk hb
  have HO := Aside0.mk ho
  have HLT := Aside0.mk (IsB.lt hb)
  clear hb ho hg hd k0 k1 hx hnx hhr hnr hh e1
  go_enter Tryd.func158, Tryd.ntmps158
  go_wp2_with (fail)
  go_at_call 177
  refine (HX.out _).mono ?_
  rintro e w2 ⟨rfl, hb⟩
  have HB2 := Aside0.mk (HB.out.kept hb)
  have HO2 := Aside0.mk (own_below HO.out hb)
  have HK2 := Aside0.mk ((KL.refl b p.B W).then_ (Nat.le_of_lt HLT.out) hb)
  clear hb
  have d0 := HB2.out.c0
  have d5 := HB2.out.c5
  have d6 := HB2.out.c6
  have d7 := HB2.out.c7
  have d8 := HB2.out.c8
  have f0 := HB2.out.fz 8
  have f5 := HB2.out.fz 13
  have f6 := HB2.out.fz 14
  have f7 := HB2.out.fz 15
  have f8 := HB2.out.fz 16
  go_wp2_with (fail)
  go_ret
  rw [E1.out]
  exact ⟨rfl, ⟨tx, (HB2.out.s7 _).s6 _, own_set (own_set HO2.out 15 _) 14 _⟩, HK2.out.trans (((KeepB.refl b _).set 15 _).set 14 _).kl⟩

set_option maxHeartbeats 16000000 in
set_option maxRecDepth 100000 in
theorem dig_1P {W : World} {b : Nat} {p : LP} {a l lo hi sg : Int} {text : List UInt8} {un fi : Int} (h : IsQ W b p ⟨a, l, lo, hi, sg, text, 1, un, fi⟩) (hg : Good ⟨a, l, lo, hi, sg, text, 1, un, fi⟩) (hd : Dig ⟨a, l, lo, hi, sg, text, 1, un, fi⟩) (c n nx : Int) (k0 : 0 ≤ c) (k1 : c < 256) (hx : hexV c = (n, true)) (hnx : un * 16 + n = nx) (hfi : fi > 0)  :
    Calls Tryd.prog 158 #[.pointer (some ⟨b, 8, none⟩), .int .u8 c] W fun e w' => e = .returned (.int .i64 (digitS ⟨a, l, lo, hi, sg, text, 1, un, fi⟩ c).2) ∧ IsQ w' b p (digitS ⟨a, l, lo, hi, sg, text, 1, un, fi⟩ c).1 ∧ KL b p.B W w' := by
  have hhr := hexV_range c
  rw [hx] at hhr
  obtain ⟨x1, x2, x3, x4⟩ := digit_facts un n hd.un0 hd.un1 hhr.1 hhr.2
  rw [hnx] at x2 x3 x4
  have hnr : 0 ≤ nx ∧ nx ≤ 65535 := by have := hd.un0; have := hd.un1; simp only at *; omega
  have e1 : digitS (⟨a, l, lo, hi, sg, text, 1, un, fi⟩ : QS) c = ({ (⟨a, l, lo, hi, sg, text, 1, un, fi⟩ : QS) with un := nx, le := 1 - 1, a := 0, text := text ++ Lib.encodeRune (65536 + (fi - 55296) * 1024 + nx - 56320), fi := 0 }, 0) := by
    unfold digitS digitT secondV
    simp only [hx, hnx]
    simp [hfi, show fi ≠ 0 by omega]
  have E1 := Aside0.mk e1
  have b1 : decide (0 < fi) = true := by simp; omega
  have b2 : (fi == 0) = false := by simp; omega
  have b2' : decide (fi = 0) = false := by simp; omega
  obtain ⟨y1, y2, y3, y4, y5, y6⟩ := pair_facts fi nx (by have := hd.fi; simp only at this; omega) (by have := hd.fi; simp only at this; omega) hnr.1 hnr.2
  have hh := hex_calls c k0 k1
  rw [hx] at hh
  simp only at hh
  have HX := Aside0.mk hh
  have HG := Aside0.mk hg
  have HSG : Aside0 (-2147483648 ≤ (65536 + (fi - 55296) * 1024 + nx - 56320 : Int) ∧ (65536 + (fi - 55296) * 1024 + nx - 56320 : Int) ≤ 2147483647) := ⟨by have := hd.fi; simp only at this; omega, by have := hd.fi; simp only at this; omega⟩
  obtain ⟨tx, hb, ho⟩ := h
  have HB := Aside0.mk hb
  have HO := Aside0.mk ho
  have HLT := Aside0.mk (IsB.lt hb)
  clear hb ho hg hd k0 k1 hx hnx hhr hnr hh e1 hfi
  go_enter Tryd.func158, Tryd.ntmps158
  go_wp2_with (fail)
  go_at_call 177
  refine (HX.out _).mono ?_
  rintro e w2 ⟨rfl, hb⟩
  have HB2 := Aside0.mk (HB.out.kept hb)
  have HO2 := Aside0.mk (own_below HO.out hb)
  have HK2 := Aside0.mk ((KL.refl b p.B W).then_ (Nat.le_of_lt HLT.out) hb)
  clear hb
  have d0 := HB2.out.c0
  have d5 := HB2.out.c5
  have d6 := HB2.out.c6
  have d7 := HB2.out.c7
  have d8 := HB2.out.c8
  have f0 := HB2.out.fz 8
  have f5 := HB2.out.fz 13
  have f6 := HB2.out.fz 14
  have f7 := HB2.out.fz 15
  have f8 := HB2.out.fz 16
  have HB3 := Aside0.mk (((HB2.out.s7 nx).s6 0).s0 0)
  have HO3 := Aside0.mk (own_set (own_set (own_set HO2.out 15 (.int .i64 nx)) 14 (.int .i64 0)) 8 (.int .i64 0))
  have HK3 := Aside0.mk (HK2.out.trans ((((KeepB.refl b w2).set 15 (.int .i64 nx)).set 14 (.int .i64 0)).set 8 (.int .i64 0)).kl)
  go_upto_region 20 with (fail)
  have HB4 : Aside0 (IsB (((w2.setCell ⟨b, 15, none⟩ (.int .i64 nx)).setCell ⟨b, 14, none⟩ (.int .i64 0)).setCell ⟨b, 8, none⟩ (.int .i64 0)).drew b p _ _ _ _ _ _ _ _ _) := ⟨HB3.out⟩
  have HO4 : Aside0 ((((w2.setCell ⟨b, 15, none⟩ (.int .i64 nx)).setCell ⟨b, 14, none⟩ (.int .i64 0)).setCell ⟨b, 8, none⟩ (.int .i64 0)).drew.ownsRow (max p.B (b + 1)) 5 1 tx text.length (Lib.byteCells text)) := ⟨HO3.out⟩
  have HK4 : Aside0 (KL b p.B W (((w2.setCell ⟨b, 15, none⟩ (.int .i64 nx)).setCell ⟨b, 14, none⟩ (.int .i64 0)).setCell ⟨b, 8, none⟩ (.int .i64 0)).drew) := ⟨HK3.out.drew⟩
  clear d0 d5 d6 d7 d8 f0 f5 f6 f7 f8
  refine start_ (n := 23) (S := fun w' => w'.cell? ⟨b, 13, none⟩ = some tx ∧ w'.cell? ⟨b, 15, none⟩ = some (.int .i64 nx) ∧ w'.cell? ⟨b, 16, none⟩ = some (.int .i64 fi)) (ds := [19, 22]) #[false, false, false, false, false, false, false, false, false, false, false, false, false, false, false, false, false, false, false, false, false, false, false] (by kernel_rfl) rfl rfl ⟨(IsB.c5 HB4.out), (IsB.c7 HB4.out), (IsB.c8 HB4.out)⟩ (fun hHeld => ?_)
  generalize hwd_ : (((w2.setCell ⟨b, 15, none⟩ (.int .i64 nx)).setCell ⟨b, 14, none⟩ (.int .i64 0)).setCell ⟨b, 8, none⟩ (.int .i64 0)).drew = wD at HB4 HO4 HK4 hHeld ⊢
  clear hwd_
  refine pure_ (i := 0) (N := some 121) (v := ?_) (a' := ?_) #[true, false, false, false, false, false, false, false, false, false, false, false, false, false, false, false, false, false, false, false, false, false, false] rfl rfl (by kernel_rfl) (fun _ _ _ h => h) (Or.inl ⟨by rfl, ?_⟩) ?_ ?_
  rotate_left
  · intro w'
    go_simp
    with_reducible rfl
  rotate_left
  · simp only [Act.put, List.setIfInBounds_toArray, List.set_cons_zero, List.set_cons_succ, i64_w, i32_w]
    rfl
  refine pure_ (i := 1) (N := some 122) (v := ?_) (a' := ?_) #[true, true, false, false, false, false, false, false, false, false, false, false, false, false, false, false, false, false, false, false, false, false, false] rfl rfl (by kernel_rfl) (fun _ _ _ h => h) (Or.inl ⟨by rfl, ?_⟩) ?_ ?_
  rotate_left
  · intro w'
    go_simp
    with_reducible rfl
  rotate_left
  · simp only [Act.put, List.setIfInBounds_toArray, List.set_cons_zero, List.set_cons_succ, i64_w, i32_w]
    rfl
  refine pure_ (i := 2) (N := some 123) (v := ?_) (a' := ?_) #[true, true, true, false, false, false, false, false, false, false, false, false, false, false, false, false, false, false, false, false, false, false, false] rfl rfl (by kernel_rfl) (fun _ _ _ h => h) (Or.inl ⟨by rfl, ?_⟩) ?_ ?_
  rotate_left
  · intro w'
    go_simp
    with_reducible rfl
  rotate_left
  · simp only [Act.put, List.setIfInBounds_toArray, List.set_cons_zero, List.set_cons_succ, i64_w, i32_w]
    rfl
  refine pure_ (i := 3) (N := some 124) (v := ?_) (a' := ?_) #[true, true, true, true, false, false, false, false, false, false, false, false, false, false, false, false, false, false, false, false, false, false, false] rfl rfl (by kernel_rfl) (fun _ _ _ h => h) (Or.inl ⟨by rfl, ?_⟩) ?_ ?_
  rotate_left
  · intro w'
    go_simp
    with_reducible rfl
  rotate_left
  · simp only [Act.put, List.setIfInBounds_toArray, List.set_cons_zero, List.set_cons_succ, i64_w, i32_w]
    rfl
  refine pure_ (i := 5) (N := some 126) (v := ?_) (a' := ?_) #[true, true, true, true, false, true, false, false, false, false, false, false, false, false, false, false, false, false, false, false, false, false, false] rfl rfl (by kernel_rfl) (fun _ _ _ h => h) (Or.inl ⟨by rfl, ?_⟩) ?_ ?_
  rotate_left
  · intro w'
    go_simp
    with_reducible rfl
  rotate_left
  · simp only [Act.put, List.setIfInBounds_toArray, List.set_cons_zero, List.set_cons_succ, i64_w, i32_w]
    rfl
  refine pure_ (i := 6) (N := some 127) (v := ?_) (a' := ?_) #[true, true, true, true, false, true, true, false, false, false, false, false, false, false, false, false, false, false, false, false, false, false, false] rfl rfl (by kernel_rfl) (fun _ _ _ h => h) (Or.inl ⟨by rfl, ?_⟩) ?_ ?_
  rotate_left
  · intro w'
    go_simp
    with_reducible rfl
  rotate_left
  · simp only [Act.put, List.setIfInBounds_toArray, List.set_cons_zero, List.set_cons_succ, i64_w, i32_w]
    rfl
  refine pure_ (i := 7) (N := some 128) (v := ?_) (a' := ?_) #[true, true, true, true, false, true, true, true, false, false, false, false, false, false, false, false, false, false, false, false, false, false, false] rfl rfl (by kernel_rfl) (fun _ _ _ h => h) (Or.inl ⟨by rfl, ?_⟩) ?_ ?_
  rotate_left
  · intro w'
    go_simp
    with_reducible rfl
  rotate_left
  · simp only [Act.put, List.setIfInBounds_toArray, List.set_cons_zero, List.set_cons_succ, i64_w, i32_w]
    rfl
  refine pure_ (i := 12) (N := some 133) (v := ?_) (a' := ?_) #[true, true, true, true, false, true, true, true, false, false, false, false, true, false, false, false, false, false, false, false, false, false, false] rfl rfl (by kernel_rfl) (fun _ _ _ h => h) (Or.inl ⟨by rfl, ?_⟩) ?_ ?_
  rotate_left
  · intro w'
    go_simp
    with_reducible rfl
  rotate_left
  · simp only [Act.put, List.setIfInBounds_toArray, List.set_cons_zero, List.set_cons_succ, i64_w, i32_w]
    rfl
  refine pure_ (i := 13) (N := some 134) (v := ?_) (a' := ?_) #[true, true, true, true, false, true, true, true, false, false, false, false, true, true, false, false, false, false, false, false, false, false, false] rfl rfl (by kernel_rfl) (fun _ _ _ h => h) (Or.inl ⟨by rfl, ?_⟩) ?_ ?_
  rotate_left
  · intro w'
    go_simp
    with_reducible rfl
  rotate_left
  · simp only [Act.put, List.setIfInBounds_toArray, List.set_cons_zero, List.set_cons_succ, i64_w, i32_w]
    rfl
  refine pure_ (i := 14) (N := some 135) (v := ?_) (a' := ?_) #[true, true, true, true, false, true, true, true, false, false, false, false, true, true, true, false, false, false, false, false, false, false, false] rfl rfl (by kernel_rfl) (fun _ _ _ h => h) (Or.inl ⟨by rfl, ?_⟩) ?_ ?_
  rotate_left
  · intro w'
    go_simp
    with_reducible rfl
  rotate_left
  · simp only [Act.put, List.setIfInBounds_toArray, List.set_cons_zero, List.set_cons_succ, i64_w, i32_w]
    rfl
  refine take_ (i := 4) (N := some 125) (v := ?_) (a' := ?_) #[true, true, true, true, true, true, true, true, false, false, false, false, true, true, true, false, false, false, false, false, false, false, false] rfl rfl (by kernel_rfl) (fun _ _ _ h => h) (Or.inl ⟨by rfl, ?_⟩) hHeld ?_ ?_
  rotate_left
  · rintro w' ⟨s0, s1, s2⟩
    go_simp
    with_reducible rfl
  rotate_left
  · simp only [Act.put, List.setIfInBounds_toArray, List.set_cons_zero, List.set_cons_succ, i64_w, i32_w]
    rfl
  refine take_ (i := 8) (N := some 129) (v := ?_) (a' := ?_) #[true, true, true, true, true, true, true, true, true, false, false, false, true, true, true, false, false, false, false, false, false, false, false] rfl rfl (by kernel_rfl) (fun _ _ _ h => h) (Or.inl ⟨by rfl, ?_⟩) hHeld ?_ ?_
  rotate_left
  · rintro w' ⟨s0, s1, s2⟩
    go_simp
    with_reducible rfl
  rotate_left
  · simp only [Act.put, List.setIfInBounds_toArray, List.set_cons_zero, List.set_cons_succ, i64_w, i32_w]
    rfl
  refine pure_ (i := 9) (N := some 130) (v := ?_) (a' := ?_) #[true, true, true, true, true, true, true, true, true, true, false, false, true, true, true, false, false, false, false, false, false, false, false] rfl rfl (by kernel_rfl) (fun _ _ _ h => h) (Or.inl ⟨by rfl, ?_⟩) ?_ ?_
  rotate_left
  · intro w'
    go_simp
    with_reducible rfl
  rotate_left
  · simp only [Act.put, List.setIfInBounds_toArray, List.set_cons_zero, List.set_cons_succ, i64_w, i32_w]
    rfl
  refine pure_ (i := 10) (N := some 131) (v := ?_) (a' := ?_) #[true, true, true, true, true, true, true, true, true, true, true, false, true, true, true, false, false, false, false, false, false, false, false] rfl rfl (by kernel_rfl) (fun _ _ _ h => h) (Or.inl ⟨by rfl, ?_⟩) ?_ ?_
  rotate_left
  · intro w'
    go_simp
    with_reducible rfl
  rotate_left
  · simp only [Act.put, List.setIfInBounds_toArray, List.set_cons_zero, List.set_cons_succ, i64_w, i32_w]
    rfl
  refine pure_ (i := 11) (N := some 132) (v := ?_) (a' := ?_) #[true, true, true, true, true, true, true, true, true, true, true, true, true, true, true, false, false, false, false, false, false, false, false] rfl rfl (by kernel_rfl) (fun _ _ _ h => h) (Or.inl ⟨by rfl, ?_⟩) ?_ ?_
  rotate_left
  · intro w'
    go_simp
    with_reducible rfl
  rotate_left
  · simp only [Act.put, List.setIfInBounds_toArray, List.set_cons_zero, List.set_cons_succ, i64_w, i32_w]
    rfl
  refine take_ (i := 15) (N := some 136) (v := ?_) (a' := ?_) #[true, true, true, true, true, true, true, true, true, true, true, true, true, true, true, true, false, false, false, false, false, false, false] rfl rfl (by kernel_rfl) (fun _ _ _ h => h) (Or.inl ⟨by rfl, ?_⟩) hHeld ?_ ?_
  rotate_left
  · rintro w' ⟨s0, s1, s2⟩
    go_simp
    with_reducible rfl
  rotate_left
  · simp only [Act.put, List.setIfInBounds_toArray, List.set_cons_zero, List.set_cons_succ, i64_w, i32_w]
    rfl
  refine pure_ (i := 16) (N := some 137) (v := ?_) (a' := ?_) #[true, true, true, true, true, true, true, true, true, true, true, true, true, true, true, true, true, false, false, false, false, false, false] rfl rfl (by kernel_rfl) (fun _ _ _ h => h) (Or.inl ⟨by rfl, ?_⟩) ?_ ?_
  rotate_left
  · intro w'
    go_simp
    with_reducible rfl
  rotate_left
  · simp only [Act.put, List.setIfInBounds_toArray, List.set_cons_zero, List.set_cons_succ, i64_w, i32_w]
    rfl
  refine pure_ (i := 17) (N := some 138) (v := ?_) (a' := ?_) #[true, true, true, true, true, true, true, true, true, true, true, true, true, true, true, true, true, true, false, false, false, false, false] rfl rfl (by kernel_rfl) (fun _ _ _ h => h) (Or.inl ⟨by rfl, ?_⟩) ?_ ?_
  rotate_left
  · intro w'
    go_simp
    with_reducible rfl
  rotate_left
  · simp only [Act.put, List.setIfInBounds_toArray, List.set_cons_zero, List.set_cons_succ, i64_w, i32_w]
    rfl
  refine pure_ (i := 18) (N := some 139) (v := ?_) (a' := ?_) #[true, true, true, true, true, true, true, true, true, true, true, true, true, true, true, true, true, true, true, false, false, false, false] rfl rfl (by kernel_rfl) (fun _ _ _ h => h) (Or.inl ⟨by rfl, ?_⟩) ?_ ?_
  rotate_left
  · intro w'
    go_simp
    with_reducible rfl
  rotate_left
  · simp only [Act.put, List.setIfInBounds_toArray, List.set_cons_zero, List.set_cons_succ, i64_w, i32_w]
    rfl
  refine last_ (i := 19) (N := some 140) #[true, true, true, true, true, true, true, true, true, true, true, true, true, true, true, true, true, true, true, true, false, false, false] rfl rfl (by kernel_rfl) (by decide) (fun K hK => ?_)
  refine goes_ Tryd.func123 (by kernel_rfl) rfl #[tx, .int .i32 (65536 + (fi - 55296) * 1024 + nx - 56320)] (by rfl) rfl rfl (by simp only [List.map_toArray, List.map_cons, List.map_nil]; first | rfl | (go_simp; done) | (go_simp; rfl)) ?_
  with_reducible refine (put_calls (max p.B (b + 1)) tx text (65536 + (fi - 55296) * 1024 + nx - 56320) HSG.out.1 HSG.out.2 _ HO4.out (by have := HG.out.len; simp only at this; omega) (IsB.top HB4.out)).mono ?_
  rintro e w5 ⟨v', rfl, hown', o, hgr⟩
  refine ⟨_, rfl, ?_⟩
  have H5 := Aside0.mk (HB4.out.grownOwn HO4.out hgr)
  have HO5 := Aside0.mk hown'
  have HB5 := Aside0.mk (HK4.out.trans (kl_own (IsB.lt HB4.out) HO4.out hgr))
  have hz5 := H5.out.fz 13
  have hc5 := H5.out.c5
  have hz8 := H5.out.fz 16
  have hc8 := H5.out.c8
  obtain ⟨ao, cap, rfl⟩ : ∃ ao cap, v' = .slice ao (text ++ Lib.encodeRune (65536 + (fi - 55296) * 1024 + nx - 56320)).length cap := own_slice hown'
  obtain ⟨nn, hnn⟩ : ∃ nn, nn = (text ++ Lib.encodeRune (65536 + (fi - 55296) * 1024 + nx - 56320)).length := ⟨_, rfl⟩
  rw [← hnn]
  rw [← hnn] at HO5
  have HNN := Aside0.mk hnn
  clear hown' hgr hnn
  refine hK.out _ _ ?_
  clear hK K
  refine norm_ (a' := ?_) ?_ ?_
  rotate_left
  · show Act.put _ (some 140) _ = _
    simp only [Act.put, List.setIfInBounds_toArray, List.set_cons_zero, List.set_cons_succ, i64_w, i32_w]
    rfl
  refine pure_ (i := 20) (N := some 141) (v := ?_) (a' := ?_) #[true, true, true, true, true, true, true, true, true, true, true, true, true, true, true, true, true, true, true, true, true, false, false] rfl rfl (by kernel_rfl) (fun _ _ _ h => h) (Or.inl ⟨by rfl, ?_⟩) ?_ ?_
  rotate_left
  · intro w'
    go_simp
    with_reducible rfl
  rotate_left
  · simp only [Act.put, List.setIfInBounds_toArray, List.set_cons_zero, List.set_cons_succ, i64_w, i32_w]
    rfl
  refine pure_ (i := 21) (N := some 142) (v := ?_) (a' := ?_) #[true, true, true, true, true, true, true, true, true, true, true, true, true, true, true, true, true, true, true, true, true, true, false] rfl rfl (by kernel_rfl) (fun _ _ _ h => h) (Or.inl ⟨by rfl, ?_⟩) ?_ ?_
  rotate_left
  · intro w'
    go_simp
    with_reducible rfl
  rotate_left
  · simp only [Act.put, List.setIfInBounds_toArray, List.set_cons_zero, List.set_cons_succ, i64_w, i32_w]
    rfl
  refine last_ (i := 22) (N := none) #[true, true, true, true, true, true, true, true, true, true, true, true, true, true, true, true, true, true, true, true, true, true, true] rfl rfl (by kernel_rfl) (by decide) (fun K hK => ?_)
  refine skip_ (w1 := ?_) (by rfl) rfl ?_ ?_
  rotate_left
  · go_simp
    rfl
  refine hK.out _ _ ?_
  clear hK K
  refine done_ (by kernel_rfl) ?_
  go_wp2_with (fail)
  go_ret
  rw [HNN.out] at HO5 ⊢
  rw [E1.out]
  exact ⟨rfl, ⟨_, (H5.out.s5 _).s8 _, own_set (own_set HO5.out 13 _) 16 _⟩, HB5.out.trans (((KeepB.refl b _).set 13 _).set 16 _).kl⟩

set_option maxHeartbeats 16000000 in
set_option maxRecDepth 100000 in
theorem dig_1Zu {W : World} {b : Nat} {p : LP} {a l lo hi sg : Int} {text : List UInt8} {un fi : Int} (h : IsQ W b p ⟨a, l, lo, hi, sg, text, 1, un, fi⟩) (hg : Good ⟨a, l, lo, hi, sg, text, 1, un, fi⟩) (hd : Dig ⟨a, l, lo, hi, sg, text, 1, un, fi⟩) (c n nx : Int) (k0 : 0 ≤ c) (k1 : c < 256) (hx : hexV c = (n, true)) (hnx : un * 16 + n = nx) (hfi : fi = 0) (huu : unitV nx = 1) :
    Calls Tryd.prog 158 #[.pointer (some ⟨b, 8, none⟩), .int .u8 c] W fun e w' => e = .returned (.int .i64 (digitS ⟨a, l, lo, hi, sg, text, 1, un, fi⟩ c).2) ∧ IsQ w' b p (digitS ⟨a, l, lo, hi, sg, text, 1, un, fi⟩ c).1 ∧ KL b p.B W w' := by
  have hhr := hexV_range c
  rw [hx] at hhr
  obtain ⟨x1, x2, x3, x4⟩ := digit_facts un n hd.un0 hd.un1 hhr.1 hhr.2
  rw [hnx] at x2 x3 x4
  have hnr : 0 ≤ nx ∧ nx ≤ 65535 := by have := hd.un0; have := hd.un1; simp only at *; omega
  have e1 : digitS (⟨a, l, lo, hi, sg, text, 1, un, fi⟩ : QS) c = ({ (⟨a, l, lo, hi, sg, text, 1, un, fi⟩ : QS) with un := nx, le := 1 - 1, fi := nx, a := 3 }, 0) := by
    unfold digitS digitT secondV
    simp only [hx, hnx]
    simp [hfi, huu]
  have E1 := Aside0.mk e1
  subst hfi
  have b5 : (unitV nx == 1) = true := by simp; exact huu
  have b5' : decide (unitV nx = 1) = true := by simp; exact huu
  have hh := hex_calls c k0 k1
  rw [hx] at hh
  simp only at hh
  have HX := Aside0.mk hh
  have HG := Aside0.mk hg
  obtain ⟨tx, hb, ho⟩ := h
  have HB := Aside0.mk hb
  have HO := Aside0.mk ho
  have HLT := Aside0.mk (IsB.lt hb)
  clear hb ho hg hd k0 k1 hx hnx hhr hnr hh e1 huu
  go_enter Tryd.func158, Tryd.ntmps158
  go_wp2_with (fail)
  go_at_call 177
  refine (HX.out _).mono ?_
  rintro e w2 ⟨rfl, hb⟩
  have HB2 := Aside0.mk (HB.out.kept hb)
  have HO2 := Aside0.mk (own_below HO.out hb)
  have HK2 := Aside0.mk ((KL.refl b p.B W).then_ (Nat.le_of_lt HLT.out) hb)
  clear hb
  have d0 := HB2.out.c0
  have d5 := HB2.out.c5
  have d6 := HB2.out.c6
  have d7 := HB2.out.c7
  have d8 := HB2.out.c8
  have f0 := HB2.out.fz 8
  have f5 := HB2.out.fz 13
  have f6 := HB2.out.fz 14
  have f7 := HB2.out.fz 15
  have f8 := HB2.out.fz 16
  have HB3 := Aside0.mk (((HB2.out.s7 nx).s6 0).s0 0)
  have HO3 := Aside0.mk (own_set (own_set (own_set HO2.out 15 (.int .i64 nx)) 14 (.int .i64 0)) 8 (.int .i64 0))
  have HK3 := Aside0.mk (HK2.out.trans ((((KeepB.refl b w2).set 15 (.int .i64 nx)).set 14 (.int .i64 0)).set 8 (.int .i64 0)).kl)
  go_wp2_with (fail)
  go_at_call 178
  refine (unit_calls nx _).mono ?_
  rintro e w4 ⟨rfl, hb⟩
  have HB4 := Aside0.mk (HB3.out.kept hb)
  have HO4 := Aside0.mk (own_below HO3.out hb)
  have HK4 := Aside0.mk (KL.then_ HK3.out (Nat.le_of_lt (IsB.lt HB3.out)) hb)
  clear hb d0 d5 d6 d7 d8 f0 f5 f6 f7 f8
  have d0 := HB4.out.c0
  have d5 := HB4.out.c5
  have d6 := HB4.out.c6
  have d7 := HB4.out.c7
  have d8 := HB4.out.c8
  have f0 := HB4.out.fz 8
  have f5 := HB4.out.fz 13
  have f6 := HB4.out.fz 14
  have f7 := HB4.out.fz 15
  have f8 := HB4.out.fz 16
  go_wp2_with (fail)
  go_ret
  rw [E1.out]
  exact ⟨rfl, ⟨tx, (HB4.out.s8 _).s0 _, own_set (own_set HO4.out 16 _) 8 _⟩, HK4.out.trans (((KeepB.refl b _).set 16 _).set 8 _).kl⟩

set_option maxHeartbeats 16000000 in
set_option maxRecDepth 100000 in
theorem dig_1Z {W : World} {b : Nat} {p : LP} {a l lo hi sg : Int} {text : List UInt8} {un fi : Int} (h : IsQ W b p ⟨a, l, lo, hi, sg, text, 1, un, fi⟩) (hg : Good ⟨a, l, lo, hi, sg, text, 1, un, fi⟩) (hd : Dig ⟨a, l, lo, hi, sg, text, 1, un, fi⟩) (c n nx : Int) (k0 : 0 ≤ c) (k1 : c < 256) (hx : hexV c = (n, true)) (hnx : un * 16 + n = nx) (hfi : fi = 0) (huu : unitV nx ≠ 1) :
    Calls Tryd.prog 158 #[.pointer (some ⟨b, 8, none⟩), .int .u8 c] W fun e w' => e = .returned (.int .i64 (digitS ⟨a, l, lo, hi, sg, text, 1, un, fi⟩ c).2) ∧ IsQ w' b p (digitS ⟨a, l, lo, hi, sg, text, 1, un, fi⟩ c).1 ∧ KL b p.B W w' := by
  have hhr := hexV_range c
  rw [hx] at hhr
  obtain ⟨x1, x2, x3, x4⟩ := digit_facts un n hd.un0 hd.un1 hhr.1 hhr.2
  rw [hnx] at x2 x3 x4
  have hnr : 0 ≤ nx ∧ nx ≤ 65535 := by have := hd.un0; have := hd.un1; simp only at *; omega
  have e1 : digitS (⟨a, l, lo, hi, sg, text, 1, un, fi⟩ : QS) c = ({ (⟨a, l, lo, hi, sg, text, 1, un, fi⟩ : QS) with un := nx, le := 1 - 1, a := 0, text := text ++ Lib.encodeRune nx }, 0) := by
    unfold digitS digitT secondV
    simp only [hx, hnx]
    simp [hfi, huu]
  have E1 := Aside0.mk e1
  subst hfi
  have b5 : (unitV nx == 1) = false := by simp; exact huu
  have b5' : decide (unitV nx = 1) = false := by simp; exact huu
  have hh := hex_calls c k0 k1
  rw [hx] at hh
  simp only at hh
  have HX := Aside0.mk hh
  have HG := Aside0.mk hg
  have HSG : Aside0 (-2147483648 ≤ (nx : Int) ∧ (nx : Int) ≤ 2147483647) := ⟨by have := hd.fi; simp only at this; omega, by have := hd.fi; simp only at this; omega⟩
  obtain ⟨tx, hb, ho⟩ := h
  have HB := Aside0.mk hb
  have HO := Aside0.mk ho
  have HLT := Aside0.mk (IsB.lt hb)
  clear hb ho hg hd k0 k1 hx hnx hhr hnr hh e1 huu
  go_enter Tryd.func158, Tryd.ntmps158
  go_wp2_with (fail)
  go_at_call 177
  refine (HX.out _).mono ?_
  rintro e w2 ⟨rfl, hb⟩
  have HB2 := Aside0.mk (HB.out.kept hb)
  have HO2 := Aside0.mk (own_below HO.out hb)
  have HK2 := Aside0.mk ((KL.refl b p.B W).then_ (Nat.le_of_lt HLT.out) hb)
  clear hb
  have d0 := HB2.out.c0
  have d5 := HB2.out.c5
  have d6 := HB2.out.c6
  have d7 := HB2.out.c7
  have d8 := HB2.out.c8
  have f0 := HB2.out.fz 8
  have f5 := HB2.out.fz 13
  have f6 := HB2.out.fz 14
  have f7 := HB2.out.fz 15
  have f8 := HB2.out.fz 16
  have HB3 := Aside0.mk (((HB2.out.s7 nx).s6 0).s0 0)
  have HO3 := Aside0.mk (own_set (own_set (own_set HO2.out 15 (.int .i64 nx)) 14 (.int .i64 0)) 8 (.int .i64 0))
  have HK3 := Aside0.mk (HK2.out.trans ((((KeepB.refl b w2).set 15 (.int .i64 nx)).set 14 (.int .i64 0)).set 8 (.int .i64 0)).kl)
  go_wp2_with (fail)
  go_at_call 178
  refine (unit_calls nx _).mono ?_
  rintro e w4 ⟨rfl, hb⟩
  have HB4 := Aside0.mk (HB3.out.kept hb)
  have HO4 := Aside0.mk (own_below HO3.out hb)
  have HK4 := Aside0.mk (KL.then_ HK3.out (Nat.le_of_lt (IsB.lt HB3.out)) hb)
  clear hb d0 d5 d6 d7 d8 f0 f5 f6 f7 f8
  go_upto_region 18 with (fail)
  have HB4 : Aside0 (IsB w4.drew b p _ _ _ _ _ _ _ _ _) := ⟨HB4.out⟩
  have HO4 : Aside0 (w4.drew.ownsRow (max p.B (b + 1)) 5 1 tx text.length (Lib.byteCells text)) := ⟨HO4.out⟩
  have HK4 : Aside0 (KL b p.B W w4.drew) := ⟨HK4.out.drew⟩
  refine start_ (n := 14) (S := fun w' => w'.cell? ⟨b, 13, none⟩ = some tx ∧ w'.cell? ⟨b, 15, none⟩ = some (.int .i64 nx)) (ds := [10, 13]) #[false, false, false, false, false, false, false, false, false, false, false, false, false, false] (by kernel_rfl) rfl rfl ⟨(IsB.c5 HB4.out), (IsB.c7 HB4.out)⟩ (fun hHeld => ?_)
  generalize hwd_ : w4.drew = wD at HB4 HO4 HK4 hHeld ⊢
  clear hwd_
  refine pure_ (i := 0) (N := some 102) (v := ?_) (a' := ?_) #[true, false, false, false, false, false, false, false, false, false, false, false, false, false] rfl rfl (by kernel_rfl) (fun _ _ _ h => h) (Or.inl ⟨by rfl, ?_⟩) ?_ ?_
  rotate_left
  · intro w'
    go_simp
    with_reducible rfl
  rotate_left
  · simp only [Act.put, List.setIfInBounds_toArray, List.set_cons_zero, List.set_cons_succ, i64_w, i32_w]
    rfl
  refine pure_ (i := 1) (N := some 103) (v := ?_) (a' := ?_) #[true, true, false, false, false, false, false, false, false, false, false, false, false, false] rfl rfl (by kernel_rfl) (fun _ _ _ h => h) (Or.inl ⟨by rfl, ?_⟩) ?_ ?_
  rotate_left
  · intro w'
    go_simp
    with_reducible rfl
  rotate_left
  · simp only [Act.put, List.setIfInBounds_toArray, List.set_cons_zero, List.set_cons_succ, i64_w, i32_w]
    rfl
  refine pure_ (i := 2) (N := some 104) (v := ?_) (a' := ?_) #[true, true, true, false, false, false, false, false, false, false, false, false, false, false] rfl rfl (by kernel_rfl) (fun _ _ _ h => h) (Or.inl ⟨by rfl, ?_⟩) ?_ ?_
  rotate_left
  · intro w'
    go_simp
    with_reducible rfl
  rotate_left
  · simp only [Act.put, List.setIfInBounds_toArray, List.set_cons_zero, List.set_cons_succ, i64_w, i32_w]
    rfl
  refine pure_ (i := 3) (N := some 105) (v := ?_) (a' := ?_) #[true, true, true, true, false, false, false, false, false, false, false, false, false, false] rfl rfl (by kernel_rfl) (fun _ _ _ h => h) (Or.inl ⟨by rfl, ?_⟩) ?_ ?_
  rotate_left
  · intro w'
    go_simp
    with_reducible rfl
  rotate_left
  · simp only [Act.put, List.setIfInBounds_toArray, List.set_cons_zero, List.set_cons_succ, i64_w, i32_w]
    rfl
  refine pure_ (i := 5) (N := some 107) (v := ?_) (a' := ?_) #[true, true, true, true, false, true, false, false, false, false, false, false, false, false] rfl rfl (by kernel_rfl) (fun _ _ _ h => h) (Or.inl ⟨by rfl, ?_⟩) ?_ ?_
  rotate_left
  · intro w'
    go_simp
    with_reducible rfl
  rotate_left
  · simp only [Act.put, List.setIfInBounds_toArray, List.set_cons_zero, List.set_cons_succ, i64_w, i32_w]
    rfl
  refine pure_ (i := 6) (N := some 108) (v := ?_) (a' := ?_) #[true, true, true, true, false, true, true, false, false, false, false, false, false, false] rfl rfl (by kernel_rfl) (fun _ _ _ h => h) (Or.inl ⟨by rfl, ?_⟩) ?_ ?_
  rotate_left
  · intro w'
    go_simp
    with_reducible rfl
  rotate_left
  · simp only [Act.put, List.setIfInBounds_toArray, List.set_cons_zero, List.set_cons_succ, i64_w, i32_w]
    rfl
  refine pure_ (i := 7) (N := some 109) (v := ?_) (a' := ?_) #[true, true, true, true, false, true, true, true, false, false, false, false, false, false] rfl rfl (by kernel_rfl) (fun _ _ _ h => h) (Or.inl ⟨by rfl, ?_⟩) ?_ ?_
  rotate_left
  · intro w'
    go_simp
    with_reducible rfl
  rotate_left
  · simp only [Act.put, List.setIfInBounds_toArray, List.set_cons_zero, List.set_cons_succ, i64_w, i32_w]
    rfl
  refine take_ (i := 4) (N := some 106) (v := ?_) (a' := ?_) #[true, true, true, true, true, true, true, true, false, false, false, false, false, false] rfl rfl (by kernel_rfl) (fun _ _ _ h => h) (Or.inl ⟨by rfl, ?_⟩) hHeld ?_ ?_
  rotate_left
  · rintro w' ⟨s0, s1⟩
    go_simp
    with_reducible rfl
  rotate_left
  · simp only [Act.put, List.setIfInBounds_toArray, List.set_cons_zero, List.set_cons_succ, i64_w, i32_w]
    rfl
  refine take_ (i := 8) (N := some 110) (v := ?_) (a' := ?_) #[true, true, true, true, true, true, true, true, true, false, false, false, false, false] rfl rfl (by kernel_rfl) (fun _ _ _ h => h) (Or.inl ⟨by rfl, ?_⟩) hHeld ?_ ?_
  rotate_left
  · rintro w' ⟨s0, s1⟩
    go_simp
    with_reducible rfl
  rotate_left
  · simp only [Act.put, List.setIfInBounds_toArray, List.set_cons_zero, List.set_cons_succ, i64_w, i32_w]
    rfl
  refine pure_ (i := 9) (N := some 111) (v := ?_) (a' := ?_) #[true, true, true, true, true, true, true, true, true, true, false, false, false, false] rfl rfl (by kernel_rfl) (fun _ _ _ h => h) (Or.inl ⟨by rfl, ?_⟩) ?_ ?_
  rotate_left
  · intro w'
    go_simp
    with_reducible rfl
  rotate_left
  · simp only [Act.put, List.setIfInBounds_toArray, List.set_cons_zero, List.set_cons_succ, i64_w, i32_w]
    rfl
  refine last_ (i := 10) (N := some 112) #[true, true, true, true, true, true, true, true, true, true, true, false, false, false] rfl rfl (by kernel_rfl) (by decide) (fun K hK => ?_)
  refine goes_ Tryd.func123 (by kernel_rfl) rfl #[tx, .int .i32 (nx)] (by rfl) rfl rfl (by simp only [List.map_toArray, List.map_cons, List.map_nil]; first | rfl | (go_simp; done) | (go_simp; rfl)) ?_
  with_reducible refine (put_calls (max p.B (b + 1)) tx text (nx) HSG.out.1 HSG.out.2 _ HO4.out (by have := HG.out.len; simp only at this; omega) (IsB.top HB4.out)).mono ?_
  rintro e w5 ⟨v', rfl, hown', o, hgr⟩
  refine ⟨_, rfl, ?_⟩
  have H5 := Aside0.mk (HB4.out.grownOwn HO4.out hgr)
  have HO5 := Aside0.mk hown'
  have HB5 := Aside0.mk (HK4.out.trans (kl_own (IsB.lt HB4.out) HO4.out hgr))
  have hz5 := H5.out.fz 13
  have hc5 := H5.out.c5
  have hz8 := H5.out.fz 16
  have hc8 := H5.out.c8
  obtain ⟨ao, cap, rfl⟩ : ∃ ao cap, v' = .slice ao (text ++ Lib.encodeRune (nx)).length cap := own_slice hown'
  obtain ⟨nn, hnn⟩ : ∃ nn, nn = (text ++ Lib.encodeRune (nx)).length := ⟨_, rfl⟩
  rw [← hnn]
  rw [← hnn] at HO5
  have HNN := Aside0.mk hnn
  clear hown' hgr hnn
  refine hK.out _ _ ?_
  clear hK K
  refine norm_ (a' := ?_) ?_ ?_
  rotate_left
  · show Act.put _ (some 112) _ = _
    simp only [Act.put, List.setIfInBounds_toArray, List.set_cons_zero, List.set_cons_succ, i64_w, i32_w]
    rfl
  refine pure_ (i := 11) (N := some 113) (v := ?_) (a' := ?_) #[true, true, true, true, true, true, true, true, true, true, true, true, false, false] rfl rfl (by kernel_rfl) (fun _ _ _ h => h) (Or.inl ⟨by rfl, ?_⟩) ?_ ?_
  rotate_left
  · intro w'
    go_simp
    with_reducible rfl
  rotate_left
  · simp only [Act.put, List.setIfInBounds_toArray, List.set_cons_zero, List.set_cons_succ, i64_w, i32_w]
    rfl
  refine pure_ (i := 12) (N := some 114) (v := ?_) (a' := ?_) #[true, true, true, true, true, true, true, true, true, true, true, true, true, false] rfl rfl (by kernel_rfl) (fun _ _ _ h => h) (Or.inl ⟨by rfl, ?_⟩) ?_ ?_
  rotate_left
  · intro w'
    go_simp
    with_reducible rfl
  rotate_left
  · simp only [Act.put, List.setIfInBounds_toArray, List.set_cons_zero, List.set_cons_succ, i64_w, i32_w]
    rfl
  refine last_ (i := 13) (N := none) #[true, true, true, true, true, true, true, true, true, true, true, true, true, true] rfl rfl (by kernel_rfl) (by decide) (fun K hK => ?_)
  refine skip_ (w1 := ?_) (by rfl) rfl ?_ ?_
  rotate_left
  · go_simp
    rfl
  refine hK.out _ _ ?_
  clear hK K
  refine done_ (by kernel_rfl) ?_
  go_wp2_with (fail)
  go_ret
  rw [HNN.out] at HO5 ⊢
  rw [E1.out]
  exact ⟨rfl, ⟨_, H5.out.s5 _, own_set HO5.out 13 _⟩, HB5.out.trans ((KeepB.refl b _).set 13 _).kl⟩

theorem digit_calls {W : World} {b : Nat} {p : LP} {q : QS} (h : IsQ W b p q) (hg : Good q) (hd : Dig q) (hle : q.le = 1 ∨ q.le = 2 ∨ q.le = 3 ∨ q.le = 4) (c : Int) (k0 : 0 ≤ c) (k1 : c < 256) :
    Calls Tryd.prog 158 #[.pointer (some ⟨b, 8, none⟩), .int .u8 c] W fun e w' => e = .returned (.int .i64 (digitS q c).2) ∧ IsQ w' b p (digitS q c).1 ∧ KL b p.B W w' := by
  obtain ⟨a, l, lo, hi, sg, text, le, un, fi⟩ := q
  obtain ⟨⟨n, ok⟩, hx⟩ : ∃ x, hexV c = x := ⟨_, rfl⟩
  obtain ⟨nx, hnx⟩ : ∃ nx, un * 16 + n = nx := ⟨_, rfl⟩
  have hf : fi > 0 ∨ fi = 0 := by have := hd.fi; simp only at this; omega
  simp only at hle
  cases ok with
  | false =>
    rcases hle with rfl | rfl | rfl | rfl <;> rcases hf with hf | hf
    · exact dig_no_1P h hg hd c n nx k0 k1 hx hnx hf
    · exact dig_no_1Z h hg hd c n nx k0 k1 hx hnx hf
    · exact dig_no_2P h hg hd c n nx k0 k1 hx hnx hf
    · exact dig_no_2Z h hg hd c n nx k0 k1 hx hnx hf
    · exact dig_no_3P h hg hd c n nx k0 k1 hx hnx hf
    · exact dig_no_3Z h hg hd c n nx k0 k1 hx hnx hf
    · exact dig_no_4P h hg hd c n nx k0 k1 hx hnx hf
    · exact dig_no_4Z h hg hd c n nx k0 k1 hx hnx hf
  | true =>
    rcases hle with rfl | rfl | rfl | rfl <;> rcases hf with hf | hf
    · exact dig_1P h hg hd c n nx k0 k1 hx hnx hf
    · by_cases hu : unitV nx = 1
      · exact dig_1Zu h hg hd c n nx k0 k1 hx hnx hf hu
      · exact dig_1Z h hg hd c n nx k0 k1 hx hnx hf hu
    · exact dig_2P h hg hd c n nx k0 k1 hx hnx hf
    · exact dig_2Z h hg hd c n nx k0 k1 hx hnx hf
    · by_cases hs : unitV (nx * 256) = 2
      · exact dig_3P h hg hd c n nx k0 k1 hx hnx hf hs
      · exact dig_3P_bad h hg hd c n nx k0 k1 hx hnx hf hs
    · by_cases hs : unitV (nx * 256) = 2
      · exact dig_3Z_bad h hg hd c n nx k0 k1 hx hnx hf hs
      · exact dig_3Z h hg hd c n nx k0 k1 hx hnx hf hs
    · by_cases hn : n = 13
      · exact dig_4P h hg hd c n nx k0 k1 hx hnx hf hn
      · exact dig_4P_bad h hg hd c n nx k0 k1 hx hnx hf hn
    · exact dig_4Z h hg hd c n nx k0 k1 hx hnx hf
end Go.Proofs.YtlhpflicchchlaaDoor.LxQ
