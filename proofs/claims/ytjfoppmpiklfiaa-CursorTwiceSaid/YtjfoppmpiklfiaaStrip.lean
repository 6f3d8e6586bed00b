/- Contracts of the strip of bytes. Conditions: none. -/
import Derived.Test.YtjfoppmpiklfiaaProg
import Derived.Below
import Derived.Deep.Draws
import Derived.Deep.AppendLies
import Derived.Maps.AppendAt
import Derived.OwnWalk
import Derived.Laws.BytesArg
import Derived.Laws.MakeOwn
import Derived.Laws.OwnMore
import Derived.Deep.OwnRows
import Derived.Tactics
import Derived.Lib.ConvBytes
import Derived.Laws.Slices
import Derived.WalkKit
import Derived.KernelRfl
import Derived.RowKit3
import Derived.Deep.LoopGhost
import Derived.Deep.QuietTactic
import Derived.BigQuiet
import Derived.WideLaws
import Derived.Deep.DeepCutAuto
import Derived.Deep.CutBlock
import Derived.Deep.RegionHeld3
import Derived.Laws.Rows
import Derived.Lib.AppendStr
import Derived.ArgAppend
import Derived.Laws.IdiomCopy
import Derived.OrdersHeld
import Derived.Laws.BitsLemmas
import Derived.RowKit
import Derived.Test.YtjfoppmpiklfiaaListedB
import Derived.Test.YtjfoppmpiklfiaaCells
import Derived.Lib.SliceRun
import Derived.Test.YtjfoppmpiklfiaaWWords
import Derived.Test.YtjfoppmpiklfiaaWLast
import Derived.Test.YtjfoppmpiklfiaaWTab
import Derived.Test.YtjfoppmpiklfiaaWFour
import Derived.Test.YtjfoppmpiklfiaaWQPut
import Derived.Test.YtjfoppmpiklfiaaWApart
import Derived.Test.YtjfoppmpiklfiaaWArr
import Derived.Test.YtjfoppmpiklfiaaWZeros
import Derived.Test.YtjfoppmpiklfiaaWFoot
import Derived.Test.YtjfoppmpiklfiaaWKept
import Derived.Test.YtjfoppmpiklfiaaWShare
import Derived.Test.YtjfoppmpiklfiaaWN
import Derived.Test.YtjfoppmpiklfiaaWFootNe
import Derived.Test.YtjfoppmpiklfiaaWAt
import Derived.Test.YtjfoppmpiklfiaaWEqStruct
import Derived.Test.YtjfoppmpiklfiaaWRepsOne
import Derived.Test.YtjfoppmpiklfiaaWInv
import Derived.Test.YtjfoppmpiklfiaaWInvWords
import Derived.Test.YtjfoppmpiklfiaaWGuard
import Derived.Test.YtjfoppmpiklfiaaWNEv
import Derived.Test.YtjfoppmpiklfiaaWMore
import Derived.Laws.CopyOwn
import Derived.IntWalk
namespace Go.Proofs.Ytjfoppmpiklfiaa.StripW
open Go.RowKit Go.Proofs.YtjfoppmpiklfiaaW.PrintWords Go.Proofs.YtjfoppmpiklfiaaW.PrintLast Go.Proofs.YtjfoppmpiklfiaaW.PrintMore
set_option linter.unusedVariables false
set_option linter.unusedSimpArgs false
theorem info5 : (Try.prog.info? 5).map (fun i => (i.zero, i.size, i.bytes)) = some (some (.int .u8 0), 1, 1) := by kernel_rfl
/-- A strip at block g; v its bytes. -/
def IsT (w0 W : World) (g : Nat) (at_ : Int) (v : Value) (l : List Int) : Prop :=
  W.heap[g]? = some (.cells #[.int .i64 at_, v] 70 (0, 0)) ∧ W.ownsRow w0.heap.size 5 1 v l.length (nums .u8 l) ∧ w0.heap.size ≤ g
theorem IsT.below {w0 W W1 : World} {g : Nat} {a : Int} {v : Value} {l : List Int} (h : IsT w0 W g a v l) (hb : Below W.heap.size W W1) : IsT w0 W1 g a v l :=
  ⟨blk_below h.1 hb, pw_own_below h.2.1 hb, h.2.2⟩
theorem IsT.drew {w0 W : World} {g : Nat} {a : Int} {v : Value} {l : List Int} (h : IsT w0 W g a v l) : IsT w0 W.drew g a v l := h
/-- What is neither the strip's block nor its bytes' is as it was. -/
def KeepP (g : Nat) (v : Value) (w w' : World) : Prop := w.heap.size ≤ w'.heap.size ∧ ∀ k, k < w.heap.size → k ≠ g → v.ownBlock ≠ some k → w'.heap[k]? = w.heap[k]?
theorem len_calls (g : Nat) (a : Int) (v : Value) (l : List Int) (w0 w : World) (hI : IsT w0 w g a v l) : Calls Try.prog 29 #[.pointer (some ⟨g, 0, none⟩)] w fun e w' => e = .returned (.int .i64 l.length) ∧ w = w' := by
  obtain ⟨hg, ho, hb0⟩ := hI
  obtain ⟨A, c, rfl⟩ := own_slice ho
  have c1 := (blk_cell hg 1).trans rfl
  clear hg ho
  go_enter Try.func29, Try.ntmps29
  go_wp2_with fail
  go_ret
  exact ⟨rfl, rfl⟩
theorem from_calls (g : Nat) (a : Int) (v : Value) (l : List Int) (w0 w : World) (hI : IsT w0 w g a v l) : Calls Try.prog 30 #[.pointer (some ⟨g, 0, none⟩)] w fun e w' => e = .returned (.int .i64 a) ∧ w = w' := by
  obtain ⟨hg, ho, hb0⟩ := hI
  have c0 := (blk_cell hg 0).trans rfl
  clear hg ho
  go_enter Try.func30, Try.ntmps30
  go_wp2_with fail
  go_ret
  exact ⟨rfl, rfl⟩
theorem to_calls (g : Nat) (a : Int) (v : Value) (l : List Int) (w0 w : World) (hI : IsT w0 w g a v l) (h0 : 0 ≤ a) (h1 : a < 1000000) (h2 : l.length < 1000000) (x : Int) (hx : x = a + l.length) : Calls Try.prog 26 #[.pointer (some ⟨g, 0, none⟩)] w fun e w' => e = .returned (.int .i64 x) ∧ w' = w.drew := by
  obtain ⟨hg, ho, hb0⟩ := hI
  obtain ⟨A, c, rfl⟩ := own_slice ho
  have c0 := (blk_cell hg 0).trans rfl
  have c1 := (blk_cell hg 1).trans rfl
  have hx1 : a + (l.length : Int) = x := hx.symm
  have hx2 : 0 ≤ x := by omega
  have hx3 : x < 2000000 := by omega
  clear hg ho hx
  go_enter Try.func26, Try.ntmps26
  go_upto_region 1 with (fail)
  refine ListedB.wp_region_listed (G := []) (by kernel_rfl) (by kernel_rfl) ?_
  go_wp2_with fail
  refine ListedB.fin_intro (by kernel_rfl) ?_
  go_wp2_with fail
  go_ret
  exact ⟨rfl, rfl⟩
theorem new_calls (a : Int) (w0 w : World) (hB : Below w0.heap.size w0 w) (ha : 0 ≤ a) : Calls Try.prog 23 #[.int .i64 a] w fun e w' => e = .returned (.pointer (some ⟨w.heap.size, 0, none⟩)) ∧ IsT w0 w' w.heap.size a (.slice none 0 0) [] ∧ Below w.heap.size w w' := by
  have HB := Aside0.mk hB
  have hm : max a 0 = a := by omega
  have q1 : decide (a < 0) = false := by simp; omega
  clear hB
  go_enter Try.func23, Try.ntmps23
  go_wp2_with fail
  go_ret
  exact ⟨rfl, ⟨heap_alloc_new w _, own_nil _ _ _ _, HB.out.size⟩, below_alloc (Below.refl _ _) _⟩
set_option maxHeartbeats 4000000 in
set_option maxRecDepth 100000 in
theorem add_calls (g : Nat) (a : Int) (v : Value) (l ys : List Int) (A : Option Addr) (n c : Nat) (w0 w : World) (hI : IsT w0 w g a v l) (hB : Below w0.heap.size w0 w) (hr : Kd.C (Kd.int .u8) w A n ys) (hl : l.length + n ≤ 1000000) :
    Calls Try.prog 25 #[.pointer (some ⟨g, 0, none⟩), .slice A n c] w fun e w' => e = .returned (.tuple #[]) ∧ ∃ v', IsT w0 w' g a v' (l ++ ys) ∧ Below w0.heap.size w0 w' ∧ KeepP g v w w' ∧ (v'.ownBlock = v.ownBlock ∨ ∃ b, v'.ownBlock = some b ∧ w.heap.size ≤ b) := by
  have HR := Aside0.mk (Kd.reads_of_C (enc := Value.int .u8) (d := (0 : Int)) (h1 := fun _ => rfl) hr)
  have HL := Aside0.mk hl
  have HB := Aside0.mk hB
  obtain ⟨hg, ho, hb0⟩ := hI
  have HO := Aside0.mk ho
  have HG := Aside0.mk hb0
  have K := Aside0.mk hg
  have c0 := (blk_cell hg 0).trans rfl
  have c1 := (blk_cell hg 1).trans rfl
  have z1 := blk_frozen hg 1
  clear hr hl hB hg ho hb0
  go_enter Try.func25, Try.ntmps25
  go_wp2_with (first | (at_builtin; refine print_append_row_of (w0 := w0) (Value.int .u8) 0 w0.heap.size rfl (.tmp 8) (.tmp 9) 22 5 (.int .u8 0) 1 rfl Try.underlying22 info5 rfl (by decide) (fun _ => rfl) v l ys _ _ _ rfl rfl HO.out HR.out HB.out HB.out.size (by have := HL.out; omega) ?_; intro v1 w1 hown hbw hgrow hat; obtain ⟨A1, cc1, rfl⟩ := own_slice hown; have hk := blk_grown K.out hgrow (own_ne HO.out K.out (by decide)); have z1 := blk_frozen hk 1; have c1 := (blk_cell hk 1).trans rfl; have HH := Aside0.mk (And.intro hown (And.intro hbw (And.intro hgrow hat))); have HK := Aside0.mk hk; clear hown hbw hgrow hat hk))
  go_end0
  obtain ⟨hown, hbw, hgrow, hat⟩ := HH.out
  have e : (l ++ ys).length = l.length + ys.length := List.length_append
  rw [e] at hown hat
  refine ⟨rfl, .slice A1 (l.length + ys.length) cc1, ⟨?_, ?_, HG.out⟩, below_set hbw HG.out, ⟨?_, fun k hk hkg hkv => ?_⟩, ?_⟩
  · have h := blk_set HK.out 1 (Value.slice A1 (l.length + ys.length) cc1)
    simpa using h
  · rw [e]
    exact own_setCell hown (own_ne hown HK.out (by decide)) _
  · simp [World.setCell]
    exact hgrow.size
  · rw [Below.heap_setCell w1 ⟨g, 1, none⟩ _ k hkg]
    exact hgrow.block k hk (fun h => hkv (by rw [h]))
  · rcases hat with h | ⟨b, h1, h2⟩
    · exact .inl h
    · exact .inr ⟨b, h1, h2⟩
theorem cut_from (A : Option Addr) (n c i : Nat) (hi : i ≤ n) (hc : n ≤ c) (W : World) : (Instr.sliceAt 22 (.slice A n c) (some (.int .i64 (i : Int))) none none).run Try.prog W = .ok (.slice (if c = i then A else A.map (fun b => b.add i)) (n - i) (c - i)) W := by
  obtain ⟨i5, hi5⟩ : ∃ i, (Try.prog.info? 5) = some i ∧ i.size = 1 := by
    have h := info5
    cases h8 : Try.prog.info? 5 with
    | none => rw [h8] at h; cases h
    | some j => rw [h8] at h; simp at h; exact ⟨j, rfl, h.2.1⟩
  have h1 : (0 : Int) ≤ (i : Int) ∧ (i : Int) ≤ (n : Int) := ⟨by omega, by omega⟩
  have h2 : i ≤ c := by omega
  have hx2 : ∀ b : Addr, b.add 0 = b := fun b => by simp [Addr.add]
  cases A <;> simp [Instr.sliceAt, Instr.slice, Instr.sliceBounds, Instr.sliceBound, asIntOf, run_underlying Try.underlying22, go_sem, sizeOf, typeInfo, hi5.1, hi5.2, h1, h2, hi, hc, pure, Sem.pure]
theorem cut_upto (A : Option Addr) (n c m : Nat) (hm : m ≤ n) (hc : n ≤ c) (W : World) : (Instr.sliceAt 22 (.slice A n c) none (some (.int .i64 (m : Int))) none).run Try.prog W = .ok (.slice A m c) W := by
  obtain ⟨i5, hi5⟩ : ∃ i, (Try.prog.info? 5) = some i ∧ i.size = 1 := by
    have h := info5
    cases h8 : Try.prog.info? 5 with
    | none => rw [h8] at h; cases h
    | some j => rw [h8] at h; simp at h; exact ⟨j, rfl, h.2.1⟩
  have h2 : m ≤ c := by omega
  have hx2 : ∀ b : Addr, b.add 0 = b := fun b => by simp [Addr.add]
  cases A <;> simp [Instr.sliceAt, Instr.slice, Instr.sliceBounds, Instr.sliceBound, asIntOf, run_underlying Try.underlying22, go_sem, sizeOf, typeInfo, hi5.1, hi5.2, h2, hx2, pure, Sem.pure]
/-- All of a strip that begins at 0. -/
theorem get_all (g : Nat) (v : Value) (l : List Int) (w0 w : World) (hI : IsT w0 w g 0 v l) (hl : l.length < 1000000) (x : Int) (hx : x = l.length) :
    Calls Try.prog 27 #[.pointer (some ⟨g, 0, none⟩), .int .i64 0, .int .i64 x] w fun e w' => e = .returned (.tuple #[.string (strOfNums l), .bool true]) ∧ Drawn0 w w' := by
  have HT := Aside0.mk (to_calls g 0 v l w0 w hI (by omega) (by omega) hl x (by omega))
  obtain ⟨hg, ho, hb0⟩ := hI
  obtain ⟨A, c, rfl⟩ := own_slice ho
  have HC := Aside0.mk (own_cap ho)
  have c0 := (blk_cell hg 0).trans rfl
  have c1 := (blk_cell hg 1).trans rfl
  have hsl : ∀ W : World, (Instr.sliceAt 22 (.slice A l.length c) (some (.int .i64 0)) (some (.int .i64 x)) none).run Try.prog W = .ok (.slice A l.length c) W := by
    intro W
    obtain ⟨i5, hi5⟩ : ∃ i, (Try.prog.info? 5) = some i ∧ i.size = 1 := by
      have h := info5
      cases h8 : Try.prog.info? 5 with
      | none => rw [h8] at h; cases h
      | some j => rw [h8] at h; simp at h; exact ⟨j, rfl, h.2.1⟩
    have h2 : l.length ≤ c := HC.out
    have hx2 : ∀ b : Addr, b.add 0 = b := fun b => by simp [Addr.add]
    rw [hx]
    cases A <;> simp [Instr.sliceAt, Instr.slice, Instr.sliceBounds, Instr.sliceBound, asIntOf, run_underlying Try.underlying22, go_sem, sizeOf, typeInfo, hi5.1, hi5.2, h2, hx2, pure, Sem.pure]
  have hcv : (convert 22 9 (.slice A l.length c)).run Try.prog w.drew.drew = .ok (.string (strOfNums l)) w.drew.drew := string_of_reads Try.underlying22 Try.underlying5 Try.underlying9 (own_reads_of' (d := (0 : Int)) (enc := Value.int .u8) ho)
  have HCV := Aside0.mk hcv
  have HSL := Aside0.mk hsl
  have q1 : 0 ≤ x := by omega
  have q2 : x < 1000000 := by omega
  have q3 : decide (0 > x) = false := by simp; omega
  have q4 : ¬ x < 0 := by omega
  have HI' : Aside0 (w.drew.cell? ⟨g, 0, none⟩ = w.cell? ⟨g, 0, none⟩ ∧ w.drew.cell? ⟨g, 1, none⟩ = w.cell? ⟨g, 1, none⟩) := ⟨rfl, rfl⟩
  clear hg ho hcv hsl hx
  go_enter Try.func27, Try.ntmps27
  go_upto_region 3 with (first | (go_at_call 26; refine HT.out.mono ?_; rintro e w1 ⟨rfl, rfl⟩))
  have hsl := HSL.out
  have hcv := HCV.out
  refine ListedB.wp_region_listed (G := []) (by kernel_rfl) (by kernel_rfl) ?_
  go_wp2_with fail
  refine ListedB.fin_intro (by kernel_rfl) ?_
  go_wp2_with fail
  go_ret2
  exact ⟨rfl, by repeat (first | exact Drawn0.refl _ | apply Drawn0.step)⟩
theorem add_at (gg n j : Nat) : (⟨gg, n, none⟩ : Addr).add j = ⟨gg, n + j, none⟩ := by unfold Addr.add; split <;> simp_all
theorem hsz5 : (Try.prog.info? 5).map (·.size) = some 1 := by
  have h := info5
  cases h8 : Try.prog.info? 5 with
  | none => rw [h8] at h; cases h
  | some j => rw [h8] at h; simp at h; simp [h.2.1]
theorem src_at {w : World} {B gg N c n : Nat} {l : List Int} (h : w.ownsRow B 5 1 (.slice (some ⟨gg, 0, none⟩) N c) N (nums .u8 l)) (hN : N = l.length) (ad : Addr) (had : ad = if c = n then (⟨gg, 0, none⟩ : Addr) else ⟨gg, n, none⟩) (hc : N ≤ c) :
    ∀ j v, ((nums .u8 l).drop n)[j]? = some v → w.cell? (ad.add j) = some v := by
  intro j v hj
  rw [List.getElem?_drop] at hj
  have hlt : n + j < l.length := by have := (List.getElem?_eq_some_iff.1 hj).1; simpa [nums] using this
  have h := h.cells (g := gg) rfl (n + j) v hj
  have e : ad.add j = (⟨gg, 0, none⟩ : Addr).add (n + j) := by
    rw [had, if_neg (by omega), add_at, add_at, Nat.zero_add]
  rw [e]
  exact h
theorem one_at {l : List Int} {n : Nat} : ∀ v ∈ (nums .u8 l).drop n, v.oneCell' = true := by
  intro v hv
  have := List.mem_of_mem_drop hv
  simp [nums] at this
  obtain ⟨z, _, rfl⟩ := this
  rfl
theorem cut_from9 (gg N c n : Nat) (x : Int) (hx : x = n) (h1 : n ≤ N) (h2 : N ≤ c) (ad : Addr) (had : ad = if c = n then (⟨gg, 0, none⟩ : Addr) else ⟨gg, n, none⟩) (k9 c9 : Nat) (hk : k9 = N - n) (hc9 : c9 = c - n) (W : World) :
    (Instr.sliceAt 22 (.slice (some ⟨gg, 0, none⟩) N c) (some (.int .i64 x)) none none).run Try.prog W = .ok (.slice (some ad) k9 c9) W := by
  rw [hx, cut_from _ N c n h1 h2, ← hk, ← hc9, had]
  split
  · rfl
  · simp only [Option.map_some, add_at, Nat.zero_add]
/-- The row behind the copy. -/
theorem copied {w : World} {B gg N c n : Nat} {l : List Int} {cur : Array Value} (hN : N = l.length) (hn : n ≤ N) (hgb : B ≤ gg) (hh : w.heap[gg]? = some (.cells cur 5 (0, 0))) (hc : N ≤ c) (hc2 : c ≤ maxLen) (hs : cur.size = c * 1) (ht : cur.toList.take (N * 1) = nums .u8 l) :
    0 + ((nums .u8 l).drop n).length ≤ cur.size ∧
    (w.setRow gg (cur.toList.take 0 ++ ((nums .u8 l).drop n ++ cur.toList.drop (0 + ((nums .u8 l).drop n).length))).toArray).ownsRow B 5 1 (.slice (some ⟨gg, 0, none⟩) (l.drop n).length c) (l.drop n).length (nums .u8 (l.drop n)) := by
  have hd : (nums .u8 l).drop n = nums .u8 (l.drop n) := by simp [nums]
  have hl : (nums .u8 (l.drop n)).length = (l.drop n).length := by simp [nums]
  have hl2 : (l.drop n).length = N - n := by simp [hN]
  have hfit : 0 + ((nums .u8 l).drop n).length ≤ cur.size := by rw [hd, hl, hl2, hs]; omega
  refine ⟨hfit, by rw [hl]; omega, .inr ⟨gg, c, (cur.toList.take 0 ++ ((nums .u8 l).drop n ++ cur.toList.drop (0 + ((nums .u8 l).drop n).length))).toArray, rfl, hgb, setRow_heap w gg _ _ _ _ hh, by omega, hc2, ?_, ?_⟩⟩
  · rw [hd, hl] at hfit
    simp
    have e1 : (nums .u8 l).length = l.length := by simp [nums]
    omega
  · simp only [List.take_zero, List.nil_append, hd]
    rw [Nat.mul_one, List.take_left' hl]
set_option maxHeartbeats 4000000 in
set_option maxRecDepth 100000 in
theorem drop_calls (g : Nat) (a : Int) (v : Value) (l : List Int) (n : Nat) (w0 w : World) (hI : IsT w0 w g a v l) (hB : Below w0.heap.size w0 w) (h0 : 0 ≤ a) (h1 : a < 1000000) (h2 : l.length < 1000000) (hn : n ≤ l.length) (tt : Int) (hto : tt = a + n) :
    Calls Try.prog 28 #[.pointer (some ⟨g, 0, none⟩), .int .i64 tt] w fun e w' => e = .returned (.int .i64 n) ∧ ∃ v', IsT w0 w' g tt v' (l.drop n) ∧ Below w0.heap.size w0 w' ∧ KeepP g v w w' := by
  obtain ⟨y, hy⟩ : ∃ y : Int, y = a + l.length := ⟨_, rfl⟩
  have HT := Aside0.mk (to_calls g a v l w0 w.drew hI.drew h0 h1 h2 y hy)
  obtain ⟨hg, ho, hb0⟩ := hI
  obtain ⟨A, c, rfl⟩ := own_slice ho
  have HO := Aside0.mk ho
  have HC := Aside0.mk (own_cap ho)
  have HG := Aside0.mk hb0
  have HB := Aside0.mk hB
  have K := Aside0.mk hg
  have H2 := Aside0.mk h2
  have HN := Aside0.mk hn
  obtain ⟨x, hx⟩ : ∃ x : Int, x = (n : Int) := ⟨_, rfl⟩
  have HX := Aside0.mk hx
  have c0 := (blk_cell hg 0).trans rfl
  have c1 := (blk_cell hg 1).trans rfl
  have HM := Aside0.mk (show (max tt a = tt ∧ min tt y = tt) ∧ (tt - a = x ∧ a + x = tt) ∧ 0 ≤ x ∧ x < 1000000 by omega)
  have m1 : ¬ tt < a := by have := HM.out; omega
  have m2 : ¬ y < tt := by have := HM.out; omega
  have m3 := HM.out.2.1.1
  have m4 : IntKind.i64.wrap x = x := by have := HM.out; rw [IntKind.wrap_i64]; omega
  have x1 := HM.out.2.2.1
  have x2 := HM.out.2.2.2
  clear hg ho hb0 hB hx hy h2 hn hto
  go_enter Try.func28, Try.ntmps28
  go_upto_region 1 with (fail)
  go_region_held3 (fun w' => w'.cell? ⟨g, 0, none⟩ = some (.int .i64 a)) (go_keep) (first | (go_at_call 26; refine HT.out.mono ?_; rintro e w1 ⟨rfl, rfl⟩))
  all_goals
    go_wp2_with fail
    clear m1 m2 m3 m4 c0 c1 HT
    generalize hw2 : w.drew.drew = w2
    have K2 : Aside0 (w2.heap[g]? = some (.cells #[.int .i64 a, .slice A l.length c] 70 (0, 0))) := ⟨by rw [← hw2]; exact K.out⟩
    have HO2 : Aside0 (w2.ownsRow w0.heap.size 5 1 (.slice A l.length c) l.length (nums .u8 l)) := ⟨by rw [← hw2]; exact HO.out⟩
    have HB2 : Aside0 (Below w0.heap.size w0 w2) := ⟨by rw [← hw2]; exact below_drew (below_drew HB.out)⟩
    have HP2 : Aside0 (w2.heap = w.heap) := ⟨by rw [← hw2]; rfl⟩
    clear hw2 HO HB K
    rcases HO2.out.2 with ⟨hv, hl0⟩ | ⟨gg, cap2, cur, hv, hgb, hh, hn2, hc2, hs2, ht2⟩
    · injection hv with e1 e2 e3
      subst e1
      subst e3
      have hl : l = [] := List.eq_nil_of_length_eq_zero e2
      subst hl
      have hx0 : x = 0 := by have := HX.out; have := HN.out; simp at this; omega
      subst hx0
      have hdr : ([] : List Int).drop n = [] := by simp
      have HD := Aside0.mk hdr
      have hsl : ∀ W : World, (Instr.sliceAt 22 (.slice none 0 0) (some (.int .i64 0)) none none).run Try.prog W = .ok (.slice none 0 0) W := fun W => cut_from none 0 0 0 (Nat.le_refl _) (Nat.le_refl _) W
      have hsl2 : ∀ W : World, (Instr.sliceAt 22 (.slice none 0 0) none (some (.int .i64 0)) none).run Try.prog W = .ok (.slice none 0 0) W := cut_upto none 0 0 0 (Nat.le_refl _) (Nat.le_refl _)
      have K2' : Aside0 (w2.heap[g]? = some (.cells #[.int .i64 a, .slice none 0 0] 70 (0, 0))) := ⟨K2.out⟩
      have c0 := (blk_cell K2'.out 0).trans rfl
      have c1 := (blk_cell K2'.out 1).trans rfl
      clear hdr e2 hl0 HO2 K2
      refine ListedB.wp_region_listed (G := []) (by kernel_rfl) (by kernel_rfl) ?_
      go_wp2_with (first | (refine wpList_copy_nothing rfl (.tmp 23) (.tmp 29) 22 22 rfl 5 Try.underlying22 hsz5 none none 0 0 0 0 rfl rfl rfl ?_))
      refine ListedB.fin_intro (by kernel_rfl) ?_
      clear hsl
      have z1 := blk_frozen K2'.out 1
      go_upto_region 3 with (fail)
      refine ListedB.wp_region_listed (G := []) (by kernel_rfl) (by kernel_rfl) ?_
      go_wp2_with fail
      refine ListedB.fin_intro (by kernel_rfl) ?_
      clear hsl2 c0 c1 z1
      generalize hw4 : World.drew (World.setCell _ _ _) = w4
      have K4 : Aside0 (w4.heap[g]? = some (.cells #[.int .i64 a, .slice none 0 0] 70 (0, 0))) := ⟨by rw [← hw4]; have h := blk_drew (blk_set K2'.out 1 (Value.slice none 0 0)); simpa using h⟩
      have HB4 : Aside0 (Below w0.heap.size w0 w4) := ⟨by rw [← hw4]; exact below_drew (below_set HB2.out HG.out)⟩
      have HP4 : Aside0 (w4.heap.size = w.heap.size ∧ ∀ k, k ≠ g → w4.heap[k]? = w.heap[k]?) := ⟨by
        rw [← hw4, ← HP2.out]
        exact ⟨by simp [World.setCell], fun k hkg => Below.heap_setCell w2 ⟨g, 1, none⟩ _ k hkg⟩⟩
      clear hw4 K2' HB2 HP2
      have c0 := (blk_cell K4.out 0).trans rfl
      have z0 := blk_frozen K4.out 0
      have n1 : a = tt := by have := HM.out; omega
      subst n1
      go_wp2_with fail
      go_ret
      refine ⟨by show Ending.returned (Value.int .i64 0) = _; rw [← HX.out], .slice none 0 0, ⟨?_, by rw [HD.out]; exact own_nil _ _ _ _, HG.out⟩, below_drew (below_set HB4.out HG.out), ⟨?_, fun k hk hkg hkv => ?_⟩⟩
      · have h := blk_drew (blk_set K4.out 0 (.int .i64 a))
        simpa using h
      · have h := HP4.out.1
        simp [World.setCell, h]
      · show (w4.setCell ⟨g, 0, none⟩ _).heap[k]? = _
        rw [Below.heap_setCell w4 ⟨g, 0, none⟩ _ k hkg]
        exact HP4.out.2 k hkg
    · injection hv with ev1 ev2 ev3
      subst ev1
      subst ev3
      obtain ⟨N, hN⟩ : ∃ N, N = l.length := ⟨_, rfl⟩
      have HNN := Aside0.mk hN
      rw [← hN] at K2 HO2
      obtain ⟨ad9, had9⟩ : ∃ ad9 : Addr, ad9 = (if c = n then (⟨gg, 0, none⟩ : Addr) else ⟨gg, n, none⟩) := ⟨_, rfl⟩
      obtain ⟨k9, hk9⟩ : ∃ k9, k9 = N - n := ⟨_, rfl⟩
      obtain ⟨c9, hc9⟩ : ∃ c9, c9 = c - n := ⟨_, rfl⟩
      have hsl := cut_from9 gg N c n x HX.out (by rw [hN]; exact HN.out) (by rw [hN]; exact HC.out) ad9 had9 k9 c9 hk9 hc9
      have hsrc := Aside0.mk (src_at HO2.out hN ad9 had9 (by rw [hN]; exact HC.out))
      have hcs := Aside0.mk (show ((nums .u8 l).drop n).length = Nat.min k9 N by
        have e1 : Nat.min k9 N = k9 := Nat.min_eq_left (by omega)
        rw [e1]; simp [nums]; omega)
      have hcp := Aside0.mk (copied hN (by rw [hN]; exact HN.out) hgb hh (by rw [hN]; exact HC.out) hc2 hs2 (by rw [hN]; exact ht2))
      have hh' := Aside0.mk hh
      have hne := Aside0.mk (blk_ne K2.out hh (by decide))
      have hgbA := Aside0.mk hgb
      have HK9 := Aside0.mk (show (N : Int) - x = (k9 : Int) by have := HN.out; have := HX.out; omega)
      have hk9l := Aside0.mk (show (l.drop n).length = k9 by simp; omega)
      have c0 := (blk_cell K2.out 0).trans rfl
      have c1 := (blk_cell K2.out 1).trans rfl
      clear had9 hk9 hc9 hN hgb hh hn2 hc2 hs2 ht2 ev2 HO2
      refine ListedB.wp_region_listed (G := []) (by kernel_rfl) (by kernel_rfl) ?_
      go_wp2_with (first | (refine wpList_copy_own rfl (.tmp 23) (.tmp 29) 22 22 rfl 5 Try.underlying22 hsz5 gg 0 N c ad9 k9 c9 rfl rfl cur 5 hh'.out ((nums .u8 l).drop n) hcs.out hsrc.out hcp.out.1 one_at ?_; generalize hw3 : World.setRow _ _ _ = w3))
      refine ListedB.fin_intro (by kernel_rfl) ?_
      clear hsl c0 c1
      have hgn : g ≠ gg := hne.out
      have K3 : Aside0 (w3.heap[g]? = some (.cells #[.int .i64 a, .slice (some ⟨gg, 0, none⟩) N c] 70 (0, 0))) := ⟨by rw [← hw3, setRow_other _ gg g _ hgn]; exact K2.out⟩
      have HO3 : Aside0 (w3.ownsRow w0.heap.size 5 1 (.slice (some ⟨gg, 0, none⟩) k9 c) k9 (nums .u8 (l.drop n))) := ⟨by have h := hcp.out.2; rw [hk9l.out] at h; rw [← hw3]; exact h⟩
      have HB3 : Aside0 (Below w0.heap.size w0 w3) := ⟨by rw [← hw3]; exact below_setRow (below_drew HB2.out) hgbA.out _⟩
      have HP3 : Aside0 (w3.heap.size = w.heap.size ∧ ∀ k, k ≠ gg → w3.heap[k]? = w.heap[k]?) := ⟨by
        rw [← hw3, ← HP2.out]
        exact ⟨by simp [World.setRow], fun k hk => setRow_other _ gg k _ hk⟩⟩
      clear hw3 hsrc hcs hcp hh' K2 HB2 HP2
      have c0 := (blk_cell K3.out 0).trans rfl
      have c1 := (blk_cell K3.out 1).trans rfl
      have z1 := blk_frozen K3.out 1
      have n1 := HK9.out
      have n2 : IntKind.i64.wrap (k9 : Int) = (k9 : Int) := by have := HK9.out; have := HNN.out; have := H2.out; rw [IntKind.wrap_i64]; omega
      have hsl2 := cut_upto (some ⟨gg, 0, none⟩) N c k9 (by have := HK9.out; have := x1; omega) (by rw [HNN.out]; exact HC.out)
      go_upto_region 3 with (fail)
      refine ListedB.wp_region_listed (G := []) (by kernel_rfl) (by kernel_rfl) ?_
      go_wp2_with fail
      refine ListedB.fin_intro (by kernel_rfl) ?_
      clear hsl2 n1 n2 c0 c1 z1
      generalize hw4 : (w3.setCell ⟨g, 1, none⟩ (.slice (some ⟨gg, 0, none⟩) k9 c)).drew = w4
      have K4 : Aside0 (w4.heap[g]? = some (.cells #[.int .i64 a, .slice (some ⟨gg, 0, none⟩) k9 c] 70 (0, 0))) := ⟨by rw [← hw4]; have h := blk_drew (blk_set K3.out 1 (Value.slice (some ⟨gg, 0, none⟩) k9 c)); simpa using h⟩
      have HO4 : Aside0 (w4.ownsRow w0.heap.size 5 1 (.slice (some ⟨gg, 0, none⟩) k9 c) k9 (nums .u8 (l.drop n))) := ⟨by rw [← hw4]; exact pw_own_drewN (own_setCell HO3.out (own_ne HO3.out K3.out (by decide)) _) 1⟩
      have HB4 : Aside0 (Below w0.heap.size w0 w4) := ⟨by rw [← hw4]; exact below_drew (below_set HB3.out HG.out)⟩
      have HP4 : Aside0 (w4.heap.size = w.heap.size ∧ ∀ k, k ≠ gg → k ≠ g → w4.heap[k]? = w.heap[k]?) := ⟨by
        rw [← hw4]
        refine ⟨by have h := HP3.out.1; simpa [World.setCell] using h, fun k hk hkg => ?_⟩
        rw [← HP3.out.2 k hk]
        exact Below.heap_setCell w3 ⟨g, 1, none⟩ _ k hkg⟩
      clear hw4 K3 HO3 HB3 HP3
      have c0 := (blk_cell K4.out 0).trans rfl
      have z0 := blk_frozen K4.out 0
      have n1 := HM.out.2.1.2
      have n2 : 0 ≤ tt := by have := HM.out; omega
      have n3 : tt < 2000000 := by have := HM.out; omega
      go_wp2_with fail
      go_ret
      refine ⟨by show Ending.returned (Value.int .i64 x) = _; rw [HX.out], .slice (some ⟨gg, 0, none⟩) k9 c, ⟨?_, ?_, HG.out⟩, below_set HB4.out HG.out, ⟨?_, fun k hk hkg hkv => ?_⟩⟩
      · have h := blk_set K4.out 0 (.int .i64 tt)
        simpa using h
      · rw [hk9l.out]
        exact own_setCell HO4.out (own_ne HO4.out K4.out (by decide)) _
      · have h := HP4.out.1
        simp [World.setCell, h]
      · rw [Below.heap_setCell w4 ⟨g, 0, none⟩ _ k hkg]
        exact HP4.out.2 k (fun e => hkv (by rw [e]; rfl)) hkg
end Go.Proofs.Ytjfoppmpiklfiaa.StripW
