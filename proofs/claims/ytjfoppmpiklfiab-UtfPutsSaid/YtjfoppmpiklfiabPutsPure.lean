/- The plain law of UtfPuts: what is written of a sign is what the reference says of it, and it is UTF-8. Conditions: none. -/
import Derived.Test.YtjfoppmpiklfiabPutsOf
import Derived.Test.YtjfoppmpiklfiabLinkUtfBads
import Derived.Lib.RuneBytes
namespace Go.Proofs.Ytjfoppmpiklfiab.PutsPure
open Go.RowKit Go.Proofs.Ytjfoppmpiklfiab.PUtfBads Go.Proofs.Ytjfoppmpiklfiab.Puts Go.Proofs.YtjfoppmpiklfiabW.PrintWords Go.Proofs.YtjfoppmpiklfiabW.PrintLast Go.Proofs.Ytjfoppmpiklfiab.LinkUtfBads
open Go.Proofs.Ytjfoppmpiklfiab.Num (L L_len)

theorem td {r : Int} (m : Int) (h : 0 ≤ r) : Int.tdiv r m = r / m := Int.tdiv_eq_ediv_of_nonneg h
theorem tm {r : Int} (m : Int) (h : 0 ≤ r) : Int.tmod r m = r % m := Int.tmod_eq_emod_of_nonneg h
theorem j0_eq (k : Nat) (r : Int) (h : 0 ≤ r ∧ r ≤ 1114111 ∧ (r < 55296 ∨ 57343 < r)) : riffleref02_Of.j0 (k + 1) r = some (Lib.encodeRuneZ r) := by
  obtain ⟨h0, h1, h2⟩ := h
  simp only [riffleref02_Of.j0]
  by_cases c1 : r < 128
  · rw [if_pos c1, Lib.encodeRuneZ_one h0 (by omega)]
    congr 2; omega
  rw [if_neg c1]
  have d1 : wrap64 (r / 64) = r / 64 := w64 (by omega) (by omega)
  have d2 : wrap64 (r / 4096) = r / 4096 := w64 (by omega) (by omega)
  have d3 : wrap64 (r / 262144) = r / 262144 := w64 (by omega) (by omega)
  have d4 : (0 : Int) ≤ r / 64 := by omega
  have d5 : (0 : Int) ≤ r / 4096 := by omega
  rw [td 64 h0, td 4096 h0, td 262144 h0, tm 64 h0, d1, d2, d3, tm 64 d4, tm 64 d5]
  by_cases c2 : r < 2048
  · rw [if_pos c2, Lib.encodeRuneZ_two (by omega) (by omega)]
    rw [w64 (a := 192 + r / 64) (by omega) (by omega), w64 (a := 128 + r % 64) (by omega) (by omega)]
    congr 1
    simp only [List.cons.injEq, and_true]
    omega
  rw [if_neg c2]
  by_cases c3 : r < 65536
  · rw [if_pos c3, Lib.encodeRuneZ_three (by omega)]
    rw [w64 (a := 224 + r / 4096) (by omega) (by omega), w64 (a := 128 + r / 64 % 64) (by omega) (by omega), w64 (a := 128 + r % 64) (by omega) (by omega)]
    congr 1
    simp only [List.cons.injEq, and_true]
    omega
  · rw [if_neg c3, Lib.encodeRuneZ_four (by omega) (by omega)]
    rw [w64 (a := 240 + r / 262144) (by omega) (by omega), w64 (a := 128 + r / 4096 % 64) (by omega) (by omega), w64 (a := 128 + r / 64 % 64) (by omega) (by omega), w64 (a := 128 + r % 64) (by omega) (by omega)]
    congr 1
    simp only [List.cons.injEq, and_true]
    omega
theorem has_eq (r : Int) : riffleref02_Has.f r = some (decide (0 ≤ r ∧ r ≤ 1114111 ∧ (r < 55296 ∨ 57343 < r))) := by
  unfold riffleref02_Has.f
  by_cases a : r ≥ 0
  · rw [if_pos a]
    by_cases b : r ≤ 1114111
    · rw [if_pos b]
      by_cases c : r < 55296
      · rw [if_pos c, decide_eq_true (by omega)]
      · rw [if_neg c]; congr 1; rw [decide_eq_decide]; omega
    · rw [if_neg b, decide_eq_false (by omega)]
  · rw [if_neg a, decide_eq_false (by omega)]
theorem of_eq (k : Nat) (r : Int) : riffleref02_Of.f (k + 1) r = some (Lib.encodeRuneZ r) := by
  unfold riffleref02_Of.f
  rw [has_eq]
  simp only [Option.bind_some]
  by_cases h : 0 ≤ r ∧ r ≤ 1114111 ∧ (r < 55296 ∨ 57343 < r)
  · rw [decide_eq_true h, if_pos rfl, j0_eq k r h]
  · rw [decide_eq_false h, if_neg (by decide), Lib.encodeRuneZ_bad (by omega), j0_eq k 65533 (by omega)]
    rfl

/-- A sign's bytes are UTF-8. -/
theorem bad_one (s : ByteArray) (hpre : ∀ j, 1 ≤ j → j < s.size → ∃ x, beg ((L s).take j) = (true, false, x)) (hlast : ∃ x, beg (L s) = (true, true, x)) (h4 : s.size ≤ 4) (d : Nat) :
    ∀ (k i : Nat), i + d + 1 = s.size → d + 50 ≤ k → riffleref02_Bad.l0 k s 0 i = some (-1) := by
  induction d with
  | zero =>
    intro k i hi hk
    obtain ⟨k, rfl⟩ : ∃ m, k = m + 2 := ⟨k - 2, by omega⟩
    have w1 : wrap64 ((i : Int) + 1) = (i : Int) + 1 := by unfold wrap64; omega
    have e1 : ((i : Int) + 1) = (s.size : Int) := by omega
    simp only [riffleref02_Bad.l0]
    rw [if_pos (by omega), if_pos (by omega), w1, if_pos (by omega), if_pos (by omega), e1]
    rw [begins_eq _ (by omega), range_L]
    obtain ⟨x, hx⟩ := hlast
    have hall : ((L s).take (s.size : Int).toNat).drop (0 : Int).toNat = L s := by
      rw [Int.toNat_natCast, ← L_len, List.take_length]; rfl
    rw [hall, hx]
    simp only [Option.bind_some, if_true]
    rw [if_neg (by omega), if_neg (by omega)]
  | succ d ih =>
    intro k i hi hk
    obtain ⟨k, rfl⟩ : ∃ m, k = m + 1 := ⟨k - 1, by omega⟩
    have w1 : wrap64 ((i : Int) + 1) = (i : Int) + 1 := by unfold wrap64; omega
    simp only [riffleref02_Bad.l0]
    rw [if_pos (by omega), if_pos (by omega), w1, if_pos (by omega), if_pos (by omega)]
    rw [begins_eq _ (by omega), range_L]
    obtain ⟨x, hx⟩ := hpre (i + 1) (by omega) (by omega)
    have hall : ((L s).take ((i : Int) + 1).toNat).drop (0 : Int).toNat = (L s).take (i + 1) := by
      rw [show ((i : Int) + 1).toNat = i + 1 by omega]; rfl
    rw [hall, hx]
    simp only [Option.bind_some, if_true, Bool.false_eq_true, if_false]
    exact ih k (i + 1) (by omega) (by omega)
theorem L_nums (l : List Int) (h : ∀ x ∈ l, 0 ≤ x ∧ x < 256) : L (strOfNums l) = l := by
  unfold L strOfNums
  show List.map (fun b : UInt8 => ((b.toNat : Nat) : Int)) (List.map (fun n : Int => UInt8.ofNat n.toNat) l) = l
  rw [List.map_map]
  refine (List.map_congr_left (g := id) fun x hx => ?_).trans (List.map_id l)
  have := h x hx
  simp only [Function.comp, id]
  rw [UInt8.toNat_ofNat']
  omega
theorem size_nums (l : List Int) : (strOfNums l).size = l.length := by show (List.map (fun n : Int => UInt8.ofNat n.toNat) l).toArray.size = l.length; simp
theorem fit1 {c : Int} {n : Nat} {x y : Int} (h : sz c = (n : Int)) (hn : 1 ≤ n) (hx : nm (fill [c] n 128) = x) (hy : nm (fill [c] n 191) = y) (hok : ¬ (y < least n ∨ x > 1114111 ∨ x ≥ 55296 ∧ y ≤ 57343)) :
    beg [c] = if 1 = n then (true, true, x) else (true, false, 0) := by
  rw [beg_cons c [] n h hn (by simpa using hn) rfl, hx, hy, judge_ok hok]; rfl
theorem fit2 {c d : Int} {n : Nat} {x y : Int} (h : sz c = (n : Int)) (hn : 2 ≤ n) (hd : 128 ≤ d ∧ d ≤ 191) (hx : nm (fill [c, d] n 128) = x) (hy : nm (fill [c, d] n 191) = y) (hok : ¬ (y < least n ∨ x > 1114111 ∨ x ≥ 55296 ∧ y ≤ 57343)) :
    beg [c, d] = if 2 = n then (true, true, x) else (true, false, 0) := by
  rw [beg_cons c [d] n h (by omega) (by simpa using hn) (by simp [ct_true hd]), hx, hy, judge_ok hok]; rfl
theorem fit3 {c d e : Int} {n : Nat} {x y : Int} (h : sz c = (n : Int)) (hn : 3 ≤ n) (hd : 128 ≤ d ∧ d ≤ 191) (he : 128 ≤ e ∧ e ≤ 191) (hx : nm (fill [c, d, e] n 128) = x) (hy : nm (fill [c, d, e] n 191) = y) (hok : ¬ (y < least n ∨ x > 1114111 ∨ x ≥ 55296 ∧ y ≤ 57343)) :
    beg [c, d, e] = if 3 = n then (true, true, x) else (true, false, 0) := by
  rw [beg_cons c [d, e] n h (by omega) (by simpa using hn) (by simp [ct_true hd, ct_true he]), hx, hy, judge_ok hok]; rfl
theorem fit4 {c d e f : Int} {n : Nat} {x y : Int} (h : sz c = (n : Int)) (hn : 4 ≤ n) (hd : 128 ≤ d ∧ d ≤ 191) (he : 128 ≤ e ∧ e ≤ 191) (hf : 128 ≤ f ∧ f ≤ 191) (hx : nm (fill [c, d, e, f] n 128) = x) (hy : nm (fill [c, d, e, f] n 191) = y) (hok : ¬ (y < least n ∨ x > 1114111 ∨ x ≥ 55296 ∧ y ≤ 57343)) :
    beg [c, d, e, f] = if 4 = n then (true, true, x) else (true, false, 0) := by
  rw [beg_cons c [d, e, f] n h (by omega) (by simpa using hn) (by simp [ct_true hd, ct_true he, ct_true hf]), hx, hy, judge_ok hok]; rfl
theorem beg_one (r : Int) (h0 : 0 ≤ r) (h1 : r < 128) : beg [r] = (true, true, r) := by
  rw [beg_cons r [] 1 (sz1 h1) (by omega) (by simp) rfl, judge_ok (by simp [fill, nm, least]; omega)]
  rfl
/-- The row of bytes of a sign: whole with its last byte. -/
def Sign (p : List Int) : Prop := 1 ≤ p.length ∧ p.length ≤ 4 ∧ (∀ x ∈ p, 0 ≤ x ∧ x < 256) ∧ (∀ j, 1 ≤ j → j < p.length → ∃ x, beg (p.take j) = (true, false, x)) ∧ ∃ x, beg p = (true, true, x)
theorem sign3 (r : Int) (h : (2048 ≤ r ∧ r < 55296) ∨ (57343 < r ∧ r ≤ 65535)) : Sign [224 + r / 4096, 128 + r / 64 % 64, 128 + r % 64] := by
  have h3 : sz (224 + r / 4096) = ((3 : Nat) : Int) := sz3 (by omega)
  have a1 := fit1 (n := 3) h3 (by omega) rfl rfl (by simp [fill, nm, least]; omega)
  have a2 := fit2 (d := 128 + r / 64 % 64) (n := 3) h3 (by omega) (by omega) rfl rfl (by simp [fill, nm, least]; omega)
  have a3 := fit3 (d := 128 + r / 64 % 64) (e := 128 + r % 64) (n := 3) h3 (by omega) (by omega) (by omega) rfl rfl (by simp [fill, nm, least]; omega)
  refine ⟨by simp, by simp, by intro x hx; simp at hx; omega, ?_, ⟨_, a3⟩⟩
  intro j h1 h2
  simp at h2
  match j, h1, h2 with
  | 1, _, _ => exact ⟨_, a1⟩
  | 2, _, _ => exact ⟨_, a2⟩
theorem sign_all (r : Int) : Sign (Lib.encodeRuneZ r) := by
  by_cases hbad : r < 0 ∨ (55296 ≤ r ∧ r ≤ 57343) ∨ 1114111 < r
  · rw [Lib.encodeRuneZ_bad hbad]
    exact sign3 65533 (by omega)
  by_cases c1 : r ≤ 127
  · rw [Lib.encodeRuneZ_one (by omega) c1]
    exact ⟨by simp, by simp, by intro x hx; simp at hx; omega, by intro j h1 h2; simp at h2; omega, _, beg_one r (by omega) (by omega)⟩
  by_cases c2 : r ≤ 2047
  · rw [Lib.encodeRuneZ_two (by omega) c2]
    have h3 : sz (192 + r / 64) = ((2 : Nat) : Int) := sz2 (by omega)
    have a1 := fit1 (n := 2) h3 (by omega) rfl rfl (by simp [fill, nm, least]; omega)
    have a2 := fit2 (d := 128 + r % 64) (n := 2) h3 (by omega) (by omega) rfl rfl (by simp [fill, nm, least]; omega)
    refine ⟨by simp, by simp, by intro x hx; simp at hx; omega, ?_, ⟨_, a2⟩⟩
    intro j h1 h2
    simp at h2
    match j, h1, h2 with
    | 1, _, _ => exact ⟨_, a1⟩
  by_cases c3 : r ≤ 65535
  · rw [Lib.encodeRuneZ_three (by omega)]
    exact sign3 r (by omega)
  · rw [Lib.encodeRuneZ_four (by omega) (by omega)]
    have h3 : sz (240 + r / 262144) = ((4 : Nat) : Int) := sz4 (by omega)
    have a1 := fit1 (n := 4) h3 (by omega) rfl rfl (by simp [fill, nm, least]; omega)
    have a2 := fit2 (d := 128 + r / 4096 % 64) (n := 4) h3 (by omega) (by omega) rfl rfl (by simp [fill, nm, least]; omega)
    have a3 := fit3 (d := 128 + r / 4096 % 64) (e := 128 + r / 64 % 64) (n := 4) h3 (by omega) (by omega) (by omega) rfl rfl (by simp [fill, nm, least]; omega)
    have a4 := fit4 (d := 128 + r / 4096 % 64) (e := 128 + r / 64 % 64) (f := 128 + r % 64) (n := 4) h3 (by omega) (by omega) (by omega) (by omega) rfl rfl (by simp [fill, nm, least]; omega)
    refine ⟨by simp, by simp, by intro x hx; simp at hx; omega, ?_, ⟨_, a4⟩⟩
    intro j h1 h2
    simp at h2
    match j, h1, h2 with
    | 1, _, _ => exact ⟨_, a1⟩
    | 2, _, _ => exact ⟨_, a2⟩
    | 3, _, _ => exact ⟨_, a3⟩
theorem bads_ok (r : Int) : riffleref02_Bad.f 3000 (strOfNums (Lib.encodeRuneZ r)) = some (-1) ∧ utf_Bad.f 3000 (strOfNums (Lib.encodeRuneZ r)) = some (-1) := by
  obtain ⟨h1, h4, hr, hp, hl⟩ := sign_all r
  generalize Lib.encodeRuneZ r = p at *
  have hL := L_nums p hr
  have hS := size_nums p
  have e1 : riffleref02_Bad.f 3000 (strOfNums p) = some (-1) :=
    bad_one (strOfNums p) (by rw [hL, hS]; exact hp) (by rw [hL]; exact hl) (by omega) (p.length - 1) 3000 0 (by omega) (by omega)
  obtain ⟨q, h1', h2'⟩ := bad_same (strOfNums p) (by omega) (strOfNums p).size 3000 3000 0 0 0 0 0 0 (by omega) (by omega) (Inv.none 0 0) (by omega) (by omega)
  have e2 : riffleref02_Bad.f 3000 (strOfNums p) = some q := h2'
  rw [e1] at e2
  obtain rfl := Option.some.inj e2
  exact ⟨e1, h1'⟩
theorem unit_eq (k : Nat) (r : Int) : ∃ u, utf_Unit.f (k + 1) r = some u ∧ riffleref02_Unit.f (k + 1) r = some u := by
  unfold utf_Unit.f riffleref02_Unit.f
  simp only [utf_Unit.j0, riffleref02_Unit.j0]
  by_cases a : r ≥ 55296
  · rw [if_pos a, if_pos a]
    by_cases b : r < 56320
    · rw [decide_eq_true b, decide_eq_true (show r ≤ 56319 by omega)]; exact ⟨1, rfl, rfl⟩
    · rw [decide_eq_false b, decide_eq_false (show ¬ r ≤ 56319 by omega)]
      simp only [Bool.false_eq_true, if_false]
      rw [if_pos (show r ≥ 56320 by omega)]
      by_cases c : r < 57344
      · rw [if_pos c, if_pos (show r ≥ 56320 by omega), if_pos (show r ≤ 57343 by omega)]; exact ⟨2, rfl, rfl⟩
      · rw [if_neg c, if_pos (show r ≥ 56320 by omega), if_neg (show ¬ r ≤ 57343 by omega)]; exact ⟨0, rfl, rfl⟩
  · rw [if_neg a, if_neg a]
    simp only [Bool.false_eq_true, if_false]
    rw [if_neg (show ¬ r ≥ 56320 by omega), if_neg (show ¬ r ≥ 56320 by omega)]; exact ⟨0, rfl, rfl⟩
end Go.Proofs.Ytjfoppmpiklfiab.PutsPure
