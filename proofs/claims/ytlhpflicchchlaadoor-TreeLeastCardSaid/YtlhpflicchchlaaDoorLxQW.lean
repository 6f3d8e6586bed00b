/- utf.Walk's methods at the sign of a quote.Walk, walked. Conditions: none. -/
import Derived.Test.YtlhpflicchchlaaDoorLxQ0
namespace Go.Proofs.YtlhpflicchchlaaDoor.LxQ
open Go.RowKit Go.Proofs.YtlhpflicchchlaaDoorW.PrintWords Go.Proofs.YtlhpflicchchlaaDoorW.PrintLast Go.Proofs.YtlhpflicchchlaaDoorW.PrintMore
attribute [local go_sem] max2_int min2_int max_two min_two max_three min_three max_four min_four
set_option linter.unusedVariables false
set_option linter.unusedSimpArgs false
/-- The lexer's own cells ahead of its quote.Walk, and a bound below the block of its text. -/
structure LP where
  at_ : Int
  frm : Int
  within : Int
  ended : Bool
  text : Value
  num : Int
  which : Int
  wat : Int
  B : Nat
/-- The cells of a Lexer at block b. -/
def IsB (W : World) (b : Nat) (p : LP) (a l lo hi sg : Int) (tx : Value) (le un fi : Int) : Prop :=
  W.heap[b]? = some (.cells #[.int .i64 p.at_, .int .i64 p.frm, .int .i64 p.within, .bool p.ended, p.text, .int .i64 p.num, .int .i64 p.which, .int .i64 p.wat, .int .i64 a, .int .i64 l, .int .u8 lo, .int .u8 hi, .int .i32 sg, tx, .int .i64 le, .int .i64 un, .int .i64 fi] 149 (0, 0)) ∧ p.B ≤ W.heap.size
/-- What lies elsewhere, up to a bound, stands. -/
structure KL (b B : Nat) (W W' : World) : Prop where
  below : Below b W W'
  up : ∀ k, k < B → k < W.heap.size → k ≠ b → W'.heap[k]? = W.heap[k]?
theorem KL.refl (b B : Nat) (W : World) : KL b B W W := ⟨Below.refl _ _, fun _ _ _ _ => rfl⟩
theorem KL.trans {b B : Nat} {W W1 W2 : World} (h : KL b B W W1) (k : KL b B W1 W2) : KL b B W W2 :=
  ⟨h.below.trans k.below, fun i h1 h2 h3 => (k.up i h1 (Nat.lt_of_lt_of_le h2 h.below.size) h3).trans (h.up i h1 h2 h3)⟩
theorem KL.then_ {b B : Nat} {W W1 W2 : World} (h : KL b B W W1) (hb : b ≤ W1.heap.size) (k : Below W1.heap.size W1 W2) : KL b B W W2 :=
  ⟨below_then h.below hb k, fun i h1 h2 h3 => (k.block i (Nat.lt_of_lt_of_le h2 h.below.size)).trans (h.up i h1 h2 h3)⟩
theorem KL.drew {b B : Nat} {W W1 : World} (h : KL b B W W1) : KL b B W W1.drew := ⟨h.below.drew, h.up⟩
/-- What lies elsewhere stands. -/
structure KeepB (b : Nat) (W W' : World) : Prop where
  below : Below b W W'
  size : W.heap.size ≤ W'.heap.size
  block : ∀ k, k < W.heap.size → k ≠ b → W'.heap[k]? = W.heap[k]?
theorem KeepB.refl (b : Nat) (W : World) : KeepB b W W := ⟨Below.refl _ _, Nat.le_refl _, fun _ _ _ => rfl⟩
theorem KeepB.trans {b : Nat} {W W1 W2 : World} (h : KeepB b W W1) (k : KeepB b W1 W2) : KeepB b W W2 :=
  ⟨h.below.trans k.below, Nat.le_trans h.size k.size, fun i hi hne => (k.block i (Nat.lt_of_lt_of_le hi h.size) hne).trans (h.block i hi hne)⟩
theorem KeepB.set {b : Nat} {W W1 : World} (h : KeepB b W W1) (i : Nat) (v : Value) : KeepB b W (W1.setCell ⟨b, i, none⟩ v) :=
  ⟨h.below.setCell (p := ⟨b, i, none⟩) (Nat.le_refl _) v, by simp [World.setCell]; exact h.size, fun k hk hne => (Below.heap_setCell _ _ _ _ (fun e => hne (by simp [e]))).trans (h.block k hk hne)⟩
theorem KeepB.of_below {b : Nat} {W W1 W2 : World} (h : KeepB b W W1) (hb : b ≤ W1.heap.size) (k : Below W1.heap.size W1 W2) : KeepB b W W2 :=
  ⟨below_then h.below hb k, Nat.le_trans h.size k.size, fun i hi hne => (k.block i (Nat.lt_of_lt_of_le hi h.size)).trans (h.block i hi hne)⟩
section
variable {W : World} {b : Nat} {p : LP} {a l lo hi sg : Int} {tx : Value} {le un fi : Int}
theorem IsB.lt (h : IsB W b p a l lo hi sg tx le un fi) : b < W.heap.size := blk_lt h.1
theorem IsB.top (h : IsB W b p a l lo hi sg tx le un fi) : max p.B (b + 1) ≤ W.heap.size := by have := h.lt; have := h.2; omega
theorem IsB.kept (h : IsB W b p a l lo hi sg tx le un fi) {W' : World} (hk : Below W.heap.size W W') : IsB W' b p a l lo hi sg tx le un fi := ⟨(hk.block b h.lt).trans h.1, Nat.le_trans h.2 hk.size⟩
theorem IsB.c0 (h : IsB W b p a l lo hi sg tx le un fi) : W.cell? ⟨b, 8, none⟩ = some (.int .i64 a) := (blk_cell h.1 8).trans rfl
theorem IsB.c1 (h : IsB W b p a l lo hi sg tx le un fi) : W.cell? ⟨b, 9, none⟩ = some (.int .i64 l) := (blk_cell h.1 9).trans rfl
theorem IsB.c2 (h : IsB W b p a l lo hi sg tx le un fi) : W.cell? ⟨b, 10, none⟩ = some (.int .u8 lo) := (blk_cell h.1 10).trans rfl
theorem IsB.c3 (h : IsB W b p a l lo hi sg tx le un fi) : W.cell? ⟨b, 11, none⟩ = some (.int .u8 hi) := (blk_cell h.1 11).trans rfl
theorem IsB.c4 (h : IsB W b p a l lo hi sg tx le un fi) : W.cell? ⟨b, 12, none⟩ = some (.int .i32 sg) := (blk_cell h.1 12).trans rfl
theorem IsB.c5 (h : IsB W b p a l lo hi sg tx le un fi) : W.cell? ⟨b, 13, none⟩ = some tx := (blk_cell h.1 13).trans rfl
theorem IsB.c6 (h : IsB W b p a l lo hi sg tx le un fi) : W.cell? ⟨b, 14, none⟩ = some (.int .i64 le) := (blk_cell h.1 14).trans rfl
theorem IsB.c7 (h : IsB W b p a l lo hi sg tx le un fi) : W.cell? ⟨b, 15, none⟩ = some (.int .i64 un) := (blk_cell h.1 15).trans rfl
theorem IsB.c8 (h : IsB W b p a l lo hi sg tx le un fi) : W.cell? ⟨b, 16, none⟩ = some (.int .i64 fi) := (blk_cell h.1 16).trans rfl
theorem IsB.s0 (h : IsB W b p a l lo hi sg tx le un fi) (x : Int) : IsB (W.setCell ⟨b, 8, none⟩ (.int .i64 x)) b p x l lo hi sg tx le un fi := ⟨by simpa using blk_set h.1 8 (.int .i64 x), by simpa [World.setCell] using h.2⟩
theorem IsB.s1 (h : IsB W b p a l lo hi sg tx le un fi) (x : Int) : IsB (W.setCell ⟨b, 9, none⟩ (.int .i64 x)) b p a x lo hi sg tx le un fi := ⟨by simpa using blk_set h.1 9 (.int .i64 x), by simpa [World.setCell] using h.2⟩
theorem IsB.s2 (h : IsB W b p a l lo hi sg tx le un fi) (x : Int) : IsB (W.setCell ⟨b, 10, none⟩ (.int .u8 x)) b p a l x hi sg tx le un fi := ⟨by simpa using blk_set h.1 10 (.int .u8 x), by simpa [World.setCell] using h.2⟩
theorem IsB.s3 (h : IsB W b p a l lo hi sg tx le un fi) (x : Int) : IsB (W.setCell ⟨b, 11, none⟩ (.int .u8 x)) b p a l lo x sg tx le un fi := ⟨by simpa using blk_set h.1 11 (.int .u8 x), by simpa [World.setCell] using h.2⟩
theorem IsB.s4 (h : IsB W b p a l lo hi sg tx le un fi) (x : Int) : IsB (W.setCell ⟨b, 12, none⟩ (.int .i32 x)) b p a l lo hi x tx le un fi := ⟨by simpa using blk_set h.1 12 (.int .i32 x), by simpa [World.setCell] using h.2⟩
theorem IsB.s5 (h : IsB W b p a l lo hi sg tx le un fi) (x : Value) : IsB (W.setCell ⟨b, 13, none⟩ x) b p a l lo hi sg x le un fi := ⟨by simpa using blk_set h.1 13 x, by simpa [World.setCell] using h.2⟩
theorem IsB.s6 (h : IsB W b p a l lo hi sg tx le un fi) (x : Int) : IsB (W.setCell ⟨b, 14, none⟩ (.int .i64 x)) b p a l lo hi sg tx x un fi := ⟨by simpa using blk_set h.1 14 (.int .i64 x), by simpa [World.setCell] using h.2⟩
theorem IsB.s7 (h : IsB W b p a l lo hi sg tx le un fi) (x : Int) : IsB (W.setCell ⟨b, 15, none⟩ (.int .i64 x)) b p a l lo hi sg tx le x fi := ⟨by simpa using blk_set h.1 15 (.int .i64 x), by simpa [World.setCell] using h.2⟩
theorem IsB.s8 (h : IsB W b p a l lo hi sg tx le un fi) (x : Int) : IsB (W.setCell ⟨b, 16, none⟩ (.int .i64 x)) b p a l lo hi sg tx le un x := ⟨by simpa using blk_set h.1 16 (.int .i64 x), by simpa [World.setCell] using h.2⟩
theorem IsB.fz (h : IsB W b p a l lo hi sg tx le un fi) (i : Nat) : W.frozen? ⟨b, i, none⟩ = false := blk_frozen h.1 i
theorem within_calls (h : IsB W b p a l lo hi sg tx le un fi) : Calls Tryd.prog 90 #[.pointer (some ⟨b, 9, none⟩)] W fun e w' => e = .returned (.bool (decide (l > 0))) ∧ w' = W := by
  have d0 := h.c1
  clear h
  go_enter Tryd.func90, Tryd.ntmps90
  go_wp2
  go_ret
  exact ⟨rfl, rfl⟩
theorem sign_calls (h : IsB W b p a l lo hi sg tx le un fi) (hl : ¬ l > 0) : Calls Tryd.prog 175 #[.pointer (some ⟨b, 9, none⟩)] W fun e w' => e = .returned (.int .i32 sg) ∧ w' = W := by
  have d0 := h.c1
  have d3 := h.c4
  have g0 : decide (0 < l) = false := by simp; omega
  clear h hl
  go_enter Tryd.func175, Tryd.ntmps175
  go_wp2
  go_ret
  exact ⟨rfl, rfl⟩
theorem KeepB.kl {b B : Nat} {W W1 : World} (h : KeepB b W W1) : KL b B W W1 := ⟨h.below, fun i _ h2 h3 => h.block i h2 h3⟩
end
/-- How a sign begins with c: what utf.first tells. -/
def uf (c : Int) : Int × Int × Int × Int × Bool :=
  if c < 128 then (0, 128, 191, c, true)
  else if c < 194 ∨ c > 244 then (0, 128, 191, 0, false)
  else if c < 224 then (1, 128, 191, c % 32, true)
  else if c < 240 then (2, if c = 224 then 160 else 128, if c = 237 then 159 else 191, c % 16, true)
  else (3, if c = 240 then 144 else 128, if c = 244 then 143 else 191, c % 8, true)
theorem first_calls (c : Int) (h0 : 0 ≤ c) (h1 : c < 256) (w : World) : Calls Tryd.prog 128 #[.int .u8 c] w fun e w' => e = .returned (.tuple #[.agg #[.int .i64 (uf c).1, .int .u8 (uf c).2.1, .int .u8 (uf c).2.2.1, .int .i32 (uf c).2.2.2.1], .bool (uf c).2.2.2.2]) ∧ Below w.heap.size w w' := by
  refine QPr.utf_first.calls 12 c _ _ _ _ _ w ?_
  have : ∀ k : Fin 256, QPr.utf_first.f 12 ((k.val : Nat) : Int) = some (uf ((k.val : Nat) : Int)) := by decide +kernel
  have h := this ⟨c.toNat, by omega⟩
  simp only at h
  rw [show ((c.toNat : Nat) : Int) = c by omega] at h
  exact h
/-- One byte on within UTF-8: whether it may be, and the state behind it. -/
def ustep (l lo hi sg c : Int) : Bool × Int × Int × Int × Int :=
  if l = 0 then (if (uf c).2.2.2.2 = true then (true, (uf c).1, (uf c).2.1, (uf c).2.2.1, (uf c).2.2.2.1) else (false, l, lo, hi, sg))
  else if c < lo ∨ c > hi then (false, l, lo, hi, sg)
  else (true, l - 1, 128, 191, sg * 64 + c % 64)
theorem cell133 {W : World} {g : Nat} {f0 f1 f2 f3 : Int} (h : W.heap[g]? = some (.cells #[.int .i64 f0, .int .u8 f1, .int .u8 f2, .int .i32 f3] 133 (0, 0))) : W.cell? ⟨g, 0, none⟩ = some (.int .i64 f0) ∧ W.cell? ⟨g, 1, none⟩ = some (.int .u8 f1) ∧ W.cell? ⟨g, 2, none⟩ = some (.int .u8 f2) ∧ W.cell? ⟨g, 3, none⟩ = some (.int .i32 f3) :=
  ⟨(blk_cell h 0).trans rfl, (blk_cell h 1).trans rfl, (blk_cell h 2).trans rfl, (blk_cell h 3).trans rfl⟩
theorem shift_facts (sg c : Int) (h0 : 0 ≤ sg) (h1 : sg < 33554432) (k0 : 0 ≤ c) (k1 : c < 256) : bits .and .u8 c 63 = c % 64 ∧ wrap32 (sg * 64) = sg * 64 ∧ wrap32 (c % 64) = c % 64 ∧ bits .or .i32 (sg * 64) (c % 64) = sg * 64 + c % 64 :=
  ⟨u8_and63 c k0 k1, by unfold wrap32; omega, by unfold wrap32; omega, i32_or6 (sg * 64) (c % 64) (by omega) (by omega) (by omega) (by omega) (by omega)⟩
set_option maxHeartbeats 8000000 in
set_option maxRecDepth 100000 in
theorem step_new {W : World} {b : Nat} {p : LP} {a lo hi sg : Int} {tx : Value} {le un fi : Int} (h : IsB W b p a 0 lo hi sg tx le un fi) (c : Int) (k0 : 0 ≤ c) (k1 : c < 256) (ok : Bool) (hok : (uf c).2.2.2.2 = ok) (s1 s2 s3 s4 : Int) (hs : (if ok = true then ((uf c).1, (uf c).2.1, (uf c).2.2.1, (uf c).2.2.2.1) else (0, lo, hi, sg)) = (s1, s2, s3, s4)) :
    Calls Tryd.prog 89 #[.pointer (some ⟨b, 9, none⟩), .int .u8 c] W fun e w' => e = .returned (.bool ok) ∧ IsB w' b p a s1 s2 s3 s4 tx le un fi ∧ KeepB b W w' := by
  have hu133 := Tryd.underlying133
  have HF := first_calls c k0 k1
  obtain ⟨⟨u1, u2, u3, u4, u5⟩, hu⟩ : ∃ u, uf c = u := ⟨_, rfl⟩
  rw [hu] at HF hok hs
  simp only at HF hok hs
  subst hok
  have HSS := Aside0.mk hs
  have HF' := Aside0.mk HF
  clear hs
  have H0 := Aside0.mk h
  have HLT := Aside0.mk (IsB.lt h)
  have d0 := h.c1
  clear HF h hu k0 k1
  go_enter Tryd.func89, Tryd.ntmps89
  go_wp2_with (fail)
  go_at_call 128
  refine (HF'.out _).mono ?_
  rintro e w2 ⟨rfl, hb⟩
  have H2 := Aside0.mk (H0.out.kept hb)
  have HK2 := Aside0.mk ((KeepB.refl b W).of_below (Nat.le_of_lt HLT.out) hb)
  have HL2 := Aside0.mk (IsB.lt H2.out)
  clear hb d0
  go_upto_region 3 with (fail)
  generalize hg : World.alloc w2 _ = w3
  have BK : Aside0 (w3.heap[w2.heap.size]? = some (.cells #[.int .i64 u1, .int .u8 u2, .int .u8 u3, .int .i32 u4] 133 (0, 0))) := ⟨by subst hg; exact blk_new _ _⟩
  have H3 : Aside0 (IsB w3 b p a 0 lo hi sg tx le un fi) := ⟨by subst hg; exact H2.out.kept (below_alloc (Below.refl _ _) _)⟩
  have HK3 : Aside0 (KeepB b W w3) := ⟨by subst hg; exact HK2.out.of_below (Nat.le_of_lt HL2.out) (below_alloc (Below.refl _ _) _)⟩
  clear hg
  have n1 : ¬ b = w2.heap.size := Nat.ne_of_lt HL2.out
  have n2 : ¬ w2.heap.size = b := Nat.ne_of_gt HL2.out
  generalize w2.heap.size = gb at *
  have hs := HSS.out
  obtain ⟨e0, e1, e2, e3⟩ := cell133 BK.out
  have d1 := H3.out.c1
  have d2 := H3.out.c2
  have d3 := H3.out.c3
  have d4 := H3.out.c4
  have f1 := H3.out.fz 9
  have f2 := H3.out.fz 10
  have f3 := H3.out.fz 11
  have f4 := H3.out.fz 12
  cases u5 with
  | true =>
    rw [if_pos rfl] at hs
    simp only [Prod.mk.injEq] at hs
    obtain ⟨rfl, rfl, rfl, rfl⟩ := hs
    go_wp2
    go_ret
    exact ⟨rfl, (((H3.out.s1 _).s2 _).s3 _).s4 _, (((HK3.out.set 9 _).set 10 _).set 11 _).set 12 _⟩
  | false =>
    rw [if_neg (by simp)] at hs
    simp only [Prod.mk.injEq] at hs
    obtain ⟨rfl, rfl, rfl, rfl⟩ := hs
    go_wp2
    go_ret
    exact ⟨rfl, H3.out, HK3.out⟩
set_option maxHeartbeats 8000000 in
set_option maxRecDepth 100000 in
theorem step_no {W : World} {b : Nat} {p : LP} {a l lo hi sg : Int} {tx : Value} {le un fi : Int} (h : IsB W b p a l lo hi sg tx le un fi) (c : Int) (hl : l ≠ 0) (hc : c < lo ∨ c > hi) :
    Calls Tryd.prog 89 #[.pointer (some ⟨b, 9, none⟩), .int .u8 c] W fun e w' => e = .returned (.bool false) ∧ w' = W := by
  have d1 := h.c1
  have d2 := h.c2
  have d3 := h.c3
  have g0 : (l == 0) = false := by simp; exact hl
  have g1 : decide (l = 0) = false := by simp; exact hl
  by_cases hc1 : c < lo
  · have g2 : decide (c < lo) = true := by simp; exact hc1
    clear h hl hc hc1
    go_enter Tryd.func89, Tryd.ntmps89
    go_wp2
    go_ret
    exact ⟨rfl, rfl⟩
  · have g2 : decide (c < lo) = false := by simp; omega
    have g3 : decide (hi < c) = true := by simp; omega
    clear h hl hc hc1
    go_enter Tryd.func89, Tryd.ntmps89
    go_wp2
    go_ret
    exact ⟨rfl, rfl⟩
set_option maxHeartbeats 8000000 in
set_option maxRecDepth 100000 in
theorem step_on {W : World} {b : Nat} {p : LP} {a l lo hi sg : Int} {tx : Value} {le un fi : Int} (h : IsB W b p a l lo hi sg tx le un fi) (c : Int) (k0 : 0 ≤ c) (k1 : c < 256) (hl : l ≠ 0) (hc : ¬ (c < lo ∨ c > hi)) (hl1 : 0 ≤ l) (hl2 : l ≤ 3) (hs0 : 0 ≤ sg) (hs1 : sg < 33554432) :
    Calls Tryd.prog 89 #[.pointer (some ⟨b, 9, none⟩), .int .u8 c] W fun e w' => e = .returned (.bool true) ∧ IsB w' b p a (l - 1) 128 191 (sg * 64 + c % 64) tx le un fi ∧ KeepB b W w' := by
  obtain ⟨x1, x2, x3, x4⟩ := shift_facts sg c hs0 hs1 k0 k1
  have H := Aside0.mk h
  have HK := Aside0.mk (KeepB.refl b W)
  have d1 := h.c1
  have d2 := h.c2
  have d3 := h.c3
  have d4 := h.c4
  have f1 := h.fz 9
  have f2 := h.fz 10
  have f3 := h.fz 11
  have f4 := h.fz 12
  have g0 : (l == 0) = false := by simp; exact hl
  have g1 : decide (l = 0) = false := by simp; exact hl
  have g2 : decide (c < lo) = false := by simp; omega
  have g3 : decide (hi < c) = false := by simp; omega
  have g4 : wrap64 (l - 1) = l - 1 := by unfold wrap64; omega
  clear h hl hc k0 k1 hl1 hl2 hs0 hs1
  go_enter Tryd.func89, Tryd.ntmps89
  go_wp2
  go_ret
  exact ⟨rfl, (((H.out.s1 _).s2 _).s3 _).s4 _, (((HK.out.set 9 _).set 10 _).set 11 _).set 12 _⟩
theorem step_calls {W : World} {b : Nat} {p : LP} {a l lo hi sg : Int} {tx : Value} {le un fi : Int} (h : IsB W b p a l lo hi sg tx le un fi) (c : Int) (k0 : 0 ≤ c) (k1 : c < 256) (hl1 : 0 ≤ l) (hl2 : l ≤ 3) (hs0 : 0 ≤ sg) (hs1 : sg < 33554432) :
    Calls Tryd.prog 89 #[.pointer (some ⟨b, 9, none⟩), .int .u8 c] W fun e w' => e = .returned (.bool (ustep l lo hi sg c).1) ∧ IsB w' b p a (ustep l lo hi sg c).2.1 (ustep l lo hi sg c).2.2.1 (ustep l lo hi sg c).2.2.2.1 (ustep l lo hi sg c).2.2.2.2 tx le un fi ∧ KeepB b W w' := by
  by_cases hl : l = 0
  · subst hl
    unfold ustep
    rw [if_pos rfl]
    by_cases ho : (uf c).2.2.2.2 = true
    · rw [if_pos ho]; exact step_new h c k0 k1 _ ho _ _ _ _ (if_pos rfl)
    · rw [if_neg ho]; exact step_new h c k0 k1 _ (Bool.eq_false_iff.mpr ho) _ _ _ _ (if_neg (by simp))
  · by_cases hc : c < lo ∨ c > hi
    · refine (step_no h c hl hc).mono ?_
      rintro e w' ⟨rfl, rfl⟩
      unfold ustep
      rw [if_neg hl, if_pos hc]
      exact ⟨rfl, h, KeepB.refl _ _⟩
    · refine (step_on h c k0 k1 hl hc hl1 hl2 hs0 hs1).mono ?_
      rintro e w' ⟨rfl, hs, hk⟩
      unfold ustep
      rw [if_neg hl, if_neg hc]
      exact ⟨rfl, hs, hk⟩
end Go.Proofs.YtlhpflicchchlaaDoor.LxQ
