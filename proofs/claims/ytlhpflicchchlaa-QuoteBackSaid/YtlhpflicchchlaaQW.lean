/- utf.Walk's methods at the sign of a quote.Walk, walked. Conditions: none. -/
import Derived.Test.YtlhpflicchchlaaRPut
namespace Go.Proofs.Ytlhpflicchchlaa.QW
open Go.RowKit Go.Proofs.YtlhpflicchchlaaW.PrintWords Go.Proofs.YtlhpflicchchlaaW.PrintLast Go.Proofs.YtlhpflicchchlaaW.PrintMore
attribute [local go_sem] max2_int min2_int max_two min_two max_three min_three max_four min_four
set_option linter.unusedVariables false
set_option linter.unusedSimpArgs false
/-- The cells of a quote.Walk at block b. -/
def IsB (W : World) (b : Nat) (a l lo hi sg : Int) (tx : Value) (le un fi : Int) : Prop :=
  W.heap[b]? = some (.cells #[.int .i64 a, .int .i64 l, .int .u8 lo, .int .u8 hi, .int .i32 sg, tx, .int .i64 le, .int .i64 un, .int .i64 fi] 68 (0, 0))
/-- What lies elsewhere stands. -/
structure KeepB (b : Nat) (W W' : World) : Prop where
  below : Below b W W'
  size : W.heap.size ≤ W'.heap.size
  block : ∀ k, k < W.heap.size → k ≠ b → W'.heap[k]? = W.heap[k]?
theorem KeepB.refl (b : Nat) (W : World) : KeepB b W W := ⟨Below.refl _ _, Nat.le_refl _, fun _ _ _ => rfl⟩
theorem KeepB.trans {b : Nat} {W W1 W2 : World} (h : KeepB b W W1) (k : KeepB b W1 W2) : KeepB b W W2 :=
  ⟨h.below.trans k.below, Nat.le_trans h.size k.size, fun i hi hne => (k.block i (Nat.lt_of_lt_of_le hi h.size) hne).trans (h.block i hi hne)⟩
theorem KeepB.set {b : Nat} {W W1 : World} (h : KeepB b W W1) (i : Nat) (v : Value) : KeepB b W (W1.setCell ⟨b, i, none⟩ v) :=
  ⟨h.below.setCell (p := ⟨b, i, none⟩) (Nat.le_refl _) v, by simp [World.setCell]; exact h.size, fun k hk hne => (Below.heap_setCell _ _ _ _ (fun e => hne (by simp [e]))).trans (h.block k hk hne)⟩
theorem KeepB.of_below {b : Nat} {W W1 W2 : World} (h : KeepB b W W1) (hb : b ≤ W1.heap.size) (k : Below W1.heap.size W1 W2) : KeepB b W W2 :=
  ⟨below_then h.below hb k, Nat.le_trans h.size k.size, fun i hi hne => (k.block i (Nat.lt_of_lt_of_le hi h.size)).trans (h.block i hi hne)⟩
section
variable {W : World} {b : Nat} {a l lo hi sg : Int} {tx : Value} {le un fi : Int}
theorem IsB.lt (h : IsB W b a l lo hi sg tx le un fi) : b < W.heap.size := blk_lt h
theorem IsB.kept (h : IsB W b a l lo hi sg tx le un fi) {W' : World} (hk : Below W.heap.size W W') : IsB W' b a l lo hi sg tx le un fi := (hk.block b h.lt).trans h
theorem IsB.c0 (h : IsB W b a l lo hi sg tx le un fi) : W.cell? ⟨b, 0, none⟩ = some (.int .i64 a) := (blk_cell h 0).trans rfl
theorem IsB.c1 (h : IsB W b a l lo hi sg tx le un fi) : W.cell? ⟨b, 1, none⟩ = some (.int .i64 l) := (blk_cell h 1).trans rfl
theorem IsB.c2 (h : IsB W b a l lo hi sg tx le un fi) : W.cell? ⟨b, 2, none⟩ = some (.int .u8 lo) := (blk_cell h 2).trans rfl
theorem IsB.c3 (h : IsB W b a l lo hi sg tx le un fi) : W.cell? ⟨b, 3, none⟩ = some (.int .u8 hi) := (blk_cell h 3).trans rfl
theorem IsB.c4 (h : IsB W b a l lo hi sg tx le un fi) : W.cell? ⟨b, 4, none⟩ = some (.int .i32 sg) := (blk_cell h 4).trans rfl
theorem IsB.c5 (h : IsB W b a l lo hi sg tx le un fi) : W.cell? ⟨b, 5, none⟩ = some tx := (blk_cell h 5).trans rfl
theorem IsB.c6 (h : IsB W b a l lo hi sg tx le un fi) : W.cell? ⟨b, 6, none⟩ = some (.int .i64 le) := (blk_cell h 6).trans rfl
theorem IsB.c7 (h : IsB W b a l lo hi sg tx le un fi) : W.cell? ⟨b, 7, none⟩ = some (.int .i64 un) := (blk_cell h 7).trans rfl
theorem IsB.c8 (h : IsB W b a l lo hi sg tx le un fi) : W.cell? ⟨b, 8, none⟩ = some (.int .i64 fi) := (blk_cell h 8).trans rfl
theorem IsB.s0 (h : IsB W b a l lo hi sg tx le un fi) (x : Int) : IsB (W.setCell ⟨b, 0, none⟩ (.int .i64 x)) b x l lo hi sg tx le un fi := by simpa [IsB] using blk_set h 0 (.int .i64 x)
theorem IsB.s1 (h : IsB W b a l lo hi sg tx le un fi) (x : Int) : IsB (W.setCell ⟨b, 1, none⟩ (.int .i64 x)) b a x lo hi sg tx le un fi := by simpa [IsB] using blk_set h 1 (.int .i64 x)
theorem IsB.s2 (h : IsB W b a l lo hi sg tx le un fi) (x : Int) : IsB (W.setCell ⟨b, 2, none⟩ (.int .u8 x)) b a l x hi sg tx le un fi := by simpa [IsB] using blk_set h 2 (.int .u8 x)
theorem IsB.s3 (h : IsB W b a l lo hi sg tx le un fi) (x : Int) : IsB (W.setCell ⟨b, 3, none⟩ (.int .u8 x)) b a l lo x sg tx le un fi := by simpa [IsB] using blk_set h 3 (.int .u8 x)
theorem IsB.s4 (h : IsB W b a l lo hi sg tx le un fi) (x : Int) : IsB (W.setCell ⟨b, 4, none⟩ (.int .i32 x)) b a l lo hi x tx le un fi := by simpa [IsB] using blk_set h 4 (.int .i32 x)
theorem IsB.s5 (h : IsB W b a l lo hi sg tx le un fi) (x : Value) : IsB (W.setCell ⟨b, 5, none⟩ x) b a l lo hi sg x le un fi := by simpa [IsB] using blk_set h 5 x
theorem IsB.s6 (h : IsB W b a l lo hi sg tx le un fi) (x : Int) : IsB (W.setCell ⟨b, 6, none⟩ (.int .i64 x)) b a l lo hi sg tx x un fi := by simpa [IsB] using blk_set h 6 (.int .i64 x)
theorem IsB.s7 (h : IsB W b a l lo hi sg tx le un fi) (x : Int) : IsB (W.setCell ⟨b, 7, none⟩ (.int .i64 x)) b a l lo hi sg tx le x fi := by simpa [IsB] using blk_set h 7 (.int .i64 x)
theorem IsB.s8 (h : IsB W b a l lo hi sg tx le un fi) (x : Int) : IsB (W.setCell ⟨b, 8, none⟩ (.int .i64 x)) b a l lo hi sg tx le un x := by simpa [IsB] using blk_set h 8 (.int .i64 x)
theorem IsB.fz (h : IsB W b a l lo hi sg tx le un fi) (i : Nat) : W.frozen? ⟨b, i, none⟩ = false := blk_frozen h i
theorem within_calls (h : IsB W b a l lo hi sg tx le un fi) : Calls Try.prog 53 #[.pointer (some ⟨b, 1, none⟩)] W fun e w' => e = .returned (.bool (decide (l > 0))) ∧ w' = W := by
  have d0 := h.c1
  clear h
  go_enter Try.func53, Try.ntmps53
  go_wp2
  go_ret
  exact ⟨rfl, rfl⟩
theorem sign_calls (h : IsB W b a l lo hi sg tx le un fi) (hl : ¬ l > 0) : Calls Try.prog 56 #[.pointer (some ⟨b, 1, none⟩)] W fun e w' => e = .returned (.int .i32 sg) ∧ w' = W := by
  have d0 := h.c1
  have d3 := h.c4
  have g0 : decide (0 < l) = false := by simp; omega
  clear h hl
  go_enter Try.func56, Try.ntmps56
  go_wp2
  go_ret
  exact ⟨rfl, rfl⟩
end
/-- How a sign begins with c: what utf.first tells. -/
def uf (c : Int) : Int × Int × Int × Int × Bool :=
  if c < 128 then (0, 128, 191, c, true)
  else if c < 194 ∨ c > 244 then (0, 128, 191, 0, false)
  else if c < 224 then (1, 128, 191, c % 32, true)
  else if c < 240 then (2, if c = 224 then 160 else 128, if c = 237 then 159 else 191, c % 16, true)
  else (3, if c = 240 then 144 else 128, if c = 244 then 143 else 191, c % 8, true)
theorem first_calls (c : Int) (h0 : 0 ≤ c) (h1 : c < 256) (w : World) : Calls Try.prog 71 #[.int .u8 c] w fun e w' => e = .returned (.tuple #[.agg #[.int .i64 (uf c).1, .int .u8 (uf c).2.1, .int .u8 (uf c).2.2.1, .int .i32 (uf c).2.2.2.1], .bool (uf c).2.2.2.2]) ∧ Below w.heap.size w w' := by
  refine QPr.utf_first.calls 12 c _ _ _ _ _ w ?_
  have : ∀ k : Fin 256, QPr.utf_first.f 12 ((k.val : Nat) : Int) = some (uf ((k.val : Nat) : Int)) := by decide +kernel
  have h := this ⟨c.toNat, by omega⟩
  simp only at h
  rw [show ((c.toNat : Nat) : Int) = c by omega] at h
  exact h
/-- One byte on within UTF-8: whether it may be, and the state behind it. -/
def ustep (l lo hi sg c : Int) : Bool × Int × Int × Int × Int :=
  if l = 0 then (if (uf c).2.2.2.2 = true then (true, (uf c).1, (uf c).2.1, (uf c).2.2.1, (uf c).2.2.2.1) else (false, l, lo, hi, sg))
  else if c < lo ∨ c > hi then (false, l, lo, hi, sg)
  else (true, l - 1, 128, 191, sg * 64 + c % 64)
theorem cell66 {W : World} {g : Nat} {f0 f1 f2 f3 : Int} (h : W.heap[g]? = some (.cells #[.int .i64 f0, .int .u8 f1, .int .u8 f2, .int .i32 f3] 66 (0, 0))) : W.cell? ⟨g, 0, none⟩ = some (.int .i64 f0) ∧ W.cell? ⟨g, 1, none⟩ = some (.int .u8 f1) ∧ W.cell? ⟨g, 2, none⟩ = some (.int .u8 f2) ∧ W.cell? ⟨g, 3, none⟩ = some (.int .i32 f3) :=
  ⟨(blk_cell h 0).trans rfl, (blk_cell h 1).trans rfl, (blk_cell h 2).trans rfl, (blk_cell h 3).trans rfl⟩
theorem shift_facts (sg c : Int) (h0 : 0 ≤ sg) (h1 : sg < 33554432) (k0 : 0 ≤ c) (k1 : c < 256) : bits .and .u8 c 63 = c % 64 ∧ wrap32 (sg * 64) = sg * 64 ∧ wrap32 (c % 64) = c % 64 ∧ bits .or .i32 (sg * 64) (c % 64) = sg * 64 + c % 64 :=
  ⟨u8_and63 c k0 k1, by unfold wrap32; omega, by unfold wrap32; omega, i32_or6 (sg * 64) (c % 64) (by omega) (by omega) (by omega) (by omega) (by omega)⟩
set_option maxHeartbeats 8000000 in
set_option maxRecDepth 100000 in
theorem step_new {W : World} {b : Nat} {a lo hi sg : Int} {tx : Value} {le un fi : Int} (h : IsB W b a 0 lo hi sg tx le un fi) (c : Int) (k0 : 0 ≤ c) (k1 : c < 256) (ok : Bool) (hok : (uf c).2.2.2.2 = ok) (s1 s2 s3 s4 : Int) (hs : (if ok = true then ((uf c).1, (uf c).2.1, (uf c).2.2.1, (uf c).2.2.2.1) else (0, lo, hi, sg)) = (s1, s2, s3, s4)) :
    Calls Try.prog 54 #[.pointer (some ⟨b, 1, none⟩), .int .u8 c] W fun e w' => e = .returned (.bool ok) ∧ IsB w' b a s1 s2 s3 s4 tx le un fi ∧ KeepB b W w' := by
  have hu66 := Try.underlying66
  have HF := first_calls c k0 k1
  obtain ⟨⟨u1, u2, u3, u4, u5⟩, hu⟩ : ∃ u, uf c = u := ⟨_, rfl⟩
  rw [hu] at HF hok hs
  simp only at HF hok hs
  subst hok
  have HSS := Aside0.mk hs
  have HF' := Aside0.mk HF
  clear hs
  have H0 := Aside0.mk h
  have HLT := Aside0.mk (IsB.lt h)
  have d0 := h.c1
  clear HF h hu k0 k1
  go_enter Try.func54, Try.ntmps54
  go_wp2_with (fail)
  go_at_call 71
  refine (HF'.out _).mono ?_
  rintro e w2 ⟨rfl, hb⟩
  have H2 := Aside0.mk (H0.out.kept hb)
  have HK2 := Aside0.mk ((KeepB.refl b W).of_below (Nat.le_of_lt HLT.out) hb)
  have HL2 := Aside0.mk (IsB.lt H2.out)
  clear hb d0
  go_upto_region 3 with (fail)
  generalize hg : World.alloc w2 _ = w3
  have BK : Aside0 (w3.heap[w2.heap.size]? = some (.cells #[.int .i64 u1, .int .u8 u2, .int .u8 u3, .int .i32 u4] 66 (0, 0))) := ⟨by subst hg; exact blk_new _ _⟩
  have H3 : Aside0 (IsB w3 b a 0 lo hi sg tx le un fi) := ⟨by subst hg; exact H2.out.kept (below_alloc (Below.refl _ _) _)⟩
  have HK3 : Aside0 (KeepB b W w3) := ⟨by subst hg; exact HK2.out.of_below (Nat.le_of_lt HL2.out) (below_alloc (Below.refl _ _) _)⟩
  clear hg
  have n1 : ¬ b = w2.heap.size := Nat.ne_of_lt HL2.out
  have n2 : ¬ w2.heap.size = b := Nat.ne_of_gt HL2.out
  generalize w2.heap.size = gb at *
  have hs := HSS.out
  obtain ⟨e0, e1, e2, e3⟩ := cell66 BK.out
  have d1 := H3.out.c1
  have d2 := H3.out.c2
  have d3 := H3.out.c3
  have d4 := H3.out.c4
  have f1 := H3.out.fz 1
  have f2 := H3.out.fz 2
  have f3 := H3.out.fz 3
  have f4 := H3.out.fz 4
  cases u5 with
  | true =>
    rw [if_pos rfl] at hs
    simp only [Prod.mk.injEq] at hs
    obtain ⟨rfl, rfl, rfl, rfl⟩ := hs
    go_wp2
    go_ret
    exact ⟨rfl, (((H3.out.s1 _).s2 _).s3 _).s4 _, (((HK3.out.set 1 _).set 2 _).set 3 _).set 4 _⟩
  | false =>
    rw [if_neg (by simp)] at hs
    simp only [Prod.mk.injEq] at hs
    obtain ⟨rfl, rfl, rfl, rfl⟩ := hs
    go_wp2
    go_ret
    exact ⟨rfl, H3.out, HK3.out⟩
set_option maxHeartbeats 8000000 in
set_option maxRecDepth 100000 in
theorem step_no {W : World} {b : Nat} {a l lo hi sg : Int} {tx : Value} {le un fi : Int} (h : IsB W b a l lo hi sg tx le un fi) (c : Int) (hl : l ≠ 0) (hc : c < lo ∨ c > hi) :
    Calls Try.prog 54 #[.pointer (some ⟨b, 1, none⟩), .int .u8 c] W fun e w' => e = .returned (.bool false) ∧ w' = W := by
  have d1 := h.c1
  have d2 := h.c2
  have d3 := h.c3
  have g0 : (l == 0) = false := by simp; exact hl
  have g1 : decide (l = 0) = false := by simp; exact hl
  by_cases hc1 : c < lo
  · have g2 : decide (c < lo) = true := by simp; exact hc1
    clear h hl hc hc1
    go_enter Try.func54, Try.ntmps54
    go_wp2
    go_ret
    exact ⟨rfl, rfl⟩
  · have g2 : decide (c < lo) = false := by simp; omega
    have g3 : decide (hi < c) = true := by simp; omega
    clear h hl hc hc1
    go_enter Try.func54, Try.ntmps54
    go_wp2
    go_ret
    exact ⟨rfl, rfl⟩
set_option maxHeartbeats 8000000 in
set_option maxRecDepth 100000 in
theorem step_on {W : World} {b : Nat} {a l lo hi sg : Int} {tx : Value} {le un fi : Int} (h : IsB W b a l lo hi sg tx le un fi) (c : Int) (k0 : 0 ≤ c) (k1 : c < 256) (hl : l ≠ 0) (hc : ¬ (c < lo ∨ c > hi)) (hl1 : 0 ≤ l) (hl2 : l ≤ 3) (hs0 : 0 ≤ sg) (hs1 : sg < 33554432) :
    Calls Try.prog 54 #[.pointer (some ⟨b, 1, none⟩), .int .u8 c] W fun e w' => e = .returned (.bool true) ∧ IsB w' b a (l - 1) 128 191 (sg * 64 + c % 64) tx le un fi ∧ KeepB b W w' := by
  obtain ⟨x1, x2, x3, x4⟩ := shift_facts sg c hs0 hs1 k0 k1
  have H := Aside0.mk h
  have HK := Aside0.mk (KeepB.refl b W)
  have d1 := h.c1
  have d2 := h.c2
  have d3 := h.c3
  have d4 := h.c4
  have f1 := h.fz 1
  have f2 := h.fz 2
  have f3 := h.fz 3
  have f4 := h.fz 4
  have g0 : (l == 0) = false := by simp; exact hl
  have g1 : decide (l = 0) = false := by simp; exact hl
  have g2 : decide (c < lo) = false := by simp; omega
  have g3 : decide (hi < c) = false := by simp; omega
  have g4 : wrap64 (l - 1) = l - 1 := by unfold wrap64; omega
  clear h hl hc k0 k1 hl1 hl2 hs0 hs1
  go_enter Try.func54, Try.ntmps54
  go_wp2
  go_ret
  exact ⟨rfl, (((H.out.s1 _).s2 _).s3 _).s4 _, (((HK.out.set 1 _).set 2 _).set 3 _).set 4 _⟩
theorem step_calls {W : World} {b : Nat} {a l lo hi sg : Int} {tx : Value} {le un fi : Int} (h : IsB W b a l lo hi sg tx le un fi) (c : Int) (k0 : 0 ≤ c) (k1 : c < 256) (hl1 : 0 ≤ l) (hl2 : l ≤ 3) (hs0 : 0 ≤ sg) (hs1 : sg < 33554432) :
    Calls Try.prog 54 #[.pointer (some ⟨b, 1, none⟩), .int .u8 c] W fun e w' => e = .returned (.bool (ustep l lo hi sg c).1) ∧ IsB w' b a (ustep l lo hi sg c).2.1 (ustep l lo hi sg c).2.2.1 (ustep l lo hi sg c).2.2.2.1 (ustep l lo hi sg c).2.2.2.2 tx le un fi ∧ KeepB b W w' := by
  by_cases hl : l = 0
  · subst hl
    unfold ustep
    rw [if_pos rfl]
    by_cases ho : (uf c).2.2.2.2 = true
    · rw [if_pos ho]; exact step_new h c k0 k1 _ ho _ _ _ _ (if_pos rfl)
    · rw [if_neg ho]; exact step_new h c k0 k1 _ (Bool.eq_false_iff.mpr ho) _ _ _ _ (if_neg (by simp))
  · by_cases hc : c < lo ∨ c > hi
    · refine (step_no h c hl hc).mono ?_
      rintro e w' ⟨rfl, rfl⟩
      unfold ustep
      rw [if_neg hl, if_pos hc]
      exact ⟨rfl, h, KeepB.refl _ _⟩
    · refine (step_on h c k0 k1 hl hc hl1 hl2 hs0 hs1).mono ?_
      rintro e w' ⟨rfl, hs, hk⟩
      unfold ustep
      rw [if_neg hl, if_neg hc]
      exact ⟨rfl, hs, hk⟩
end Go.Proofs.Ytlhpflicchchlaa.QW
