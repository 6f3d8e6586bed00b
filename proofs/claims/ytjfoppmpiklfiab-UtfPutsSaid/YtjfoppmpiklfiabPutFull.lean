/- Contracts of unicode/utf8's AppendRune onto a slice of bytes whose capacity is its length. Conditions: none. -/
import Derived.Test.YtjfoppmpiklfiabProg
import Derived.WalkKit
import Derived.ArgAppend
import Derived.Below
import Derived.Lib.RuneBytes
import Derived.Laws.BitsLemmas
import Derived.RowKit3
namespace Go.Proofs.Ytjfoppmpiklfiab.PutFull
open Go.RowKit
set_option linter.unusedVariables false
theorem byte_info : (Try.prog.info? 5).map (fun i => (i.zero, i.size, i.bytes)) = some (some (.int .u8 0), 1, 1) := by kernel_rfl
theorem own_base {w : World} {B B' : Nat} {e : TypeId} {s : Nat} {v : Value} {n : Nat} {xs : List Value} (h : w.ownsRow B e s v n xs) (hB : B' ≤ B) : w.ownsRow B' e s v n xs := by
  obtain ⟨h1, h2⟩ := h
  refine ⟨h1, ?_⟩
  rcases h2 with h2 | ⟨g, cap, cur, a, b, c⟩
  · exact .inl h2
  · exact .inr ⟨g, cap, cur, a, Nat.le_trans hB b, c⟩
/-- The cells of a slice that has no room. -/
def Full (w : World) (A : Option Addr) (n : Nat) (xs : List Value) : Prop := (A = none → n = 0 ∧ n = 0) ∧ xs.length = n * 1 ∧ ∀ b, A = some b → ∀ (j : Nat) u, xs[j]? = some u → w.cell? (b.add j) = some u
theorem Full.alloc {w : World} {A : Option Addr} {n : Nat} {xs : List Value} (h : Full w A n xs) (o : Obj) : Full (w.alloc o) A n xs := by
  refine ⟨h.1, h.2.1, fun b hb j u hu => ?_⟩
  have hc := h.2.2 b hb j u hu
  rw [World.cell?_alloc_lt w o _ (World.block_lt_of_cell? w _ hc)]; exact hc
theorem below_grown {w w2 : World} {o : Obj} (h : (w.alloc o).grownBy w2 none) : Below w.heap.size w w2 :=
  ((Below.refl _ _).alloc (Nat.le_refl _) o).grown h (by simp) (fun _ h => by cases h)

set_option maxHeartbeats 4000000 in
set_option maxRecDepth 100000 in
theorem non_two (A : Option Addr) (n : Nat) (xs : List Value) (r : Int) (h0 : 128 ≤ r) (h1 : r ≤ 2047) (w : World) (hF : Full w A n xs) (hlen : n ≤ 100000) :
    Calls Try.prog 61 #[.slice A n n, .int .i32 r] w fun e w' => ∃ v', e = .returned v' ∧ w'.ownsRow w.heap.size 5 1 v' (n + 2) (xs ++ [.int .u8 (192 + r / 64), .int .u8 (128 + r % 64)]) ∧ Below w.heap.size w w' := by
  obtain ⟨i0, hi, hz0, hz1, hz2⟩ := info_parts byte_info
  go_enter Try.func61, Try.ntmps61
  go_wp2_with (at_builtin; refine wpList_append_grows _ rfl _ _ 55 rfl 5 i0 (.int .u8 0) 1 1 Try.underlying55 hi hz0 hz1 hz2 rfl (by decide) A n n xs rfl hF.1 hF.2.1 (hF.alloc _).2.2 ⟨w.heap.size, 0, none⟩ 2 2 [.int .u8 (192 + r / 64), .int .u8 (128 + r % 64)] rfl rfl ?c1 ?c2 ?cf ?c3 ?c4 ?_)
  all_goals first
    | (intro v' w2 hown' hgrow; go_wp2; go_ret; exact ⟨_, rfl, own_base hown' (by simp), below_grown hgrow⟩)
    | (unfold maxLen; omega)
    | omega
    | (simp; omega)
    | exact ⟨rfl, rfl⟩
    | rfl
    | (intro u hu; simp at hu; rcases hu with rfl | rfl <;> rfl)
    | (intro j u hj
       match j, hj with
       | 0, hj => simp at hj; subst hj; simp [Addr.add]
       | 1, hj => simp at hj; subst hj; simp [Addr.add]
       | (j + 2), hj => simp at hj)

set_option maxHeartbeats 4000000 in
set_option maxRecDepth 100000 in
theorem non_three_lo (A : Option Addr) (n : Nat) (xs : List Value) (r : Int) (h0 : 2048 ≤ r) (h1 : r < 55296) (w : World) (hF : Full w A n xs) (hlen : n ≤ 100000) :
    Calls Try.prog 61 #[.slice A n n, .int .i32 r] w fun e w' => ∃ v', e = .returned v' ∧ w'.ownsRow w.heap.size 5 1 v' (n + 3) (xs ++ [.int .u8 (224 + r / 4096), .int .u8 (128 + r / 64 % 64), .int .u8 (128 + r % 64)]) ∧ Below w.heap.size w w' := by
  obtain ⟨i0, hi, hz0, hz1, hz2⟩ := info_parts byte_info
  go_enter Try.func61, Try.ntmps61
  go_wp2_with (at_builtin; refine wpList_append_grows _ rfl _ _ 55 rfl 5 i0 (.int .u8 0) 1 1 Try.underlying55 hi hz0 hz1 hz2 rfl (by decide) A n n xs rfl hF.1 hF.2.1 (hF.alloc _).2.2 ⟨w.heap.size, 0, none⟩ 3 3 [.int .u8 (224 + r / 4096), .int .u8 (128 + r / 64 % 64), .int .u8 (128 + r % 64)] rfl rfl ?c1 ?c2 ?cf ?c3 ?c4 ?_)
  all_goals first
    | (intro v' w2 hown' hgrow; go_wp2; go_ret; exact ⟨_, rfl, own_base hown' (by simp), below_grown hgrow⟩)
    | (unfold maxLen; omega)
    | omega
    | (simp; omega)
    | exact ⟨rfl, rfl, rfl⟩
    | rfl
    | (intro u hu; simp at hu; rcases hu with rfl | rfl | rfl <;> rfl)
    | (intro j u hj
       match j, hj with
       | 0, hj => simp at hj; subst hj; simp [Addr.add]
       | 1, hj => simp at hj; subst hj; simp [Addr.add]
       | 2, hj => simp at hj; subst hj; simp [Addr.add]
       | (j + 3), hj => simp at hj)

set_option maxHeartbeats 4000000 in
set_option maxRecDepth 100000 in
theorem non_three_hi (A : Option Addr) (n : Nat) (xs : List Value) (r : Int) (h0 : 57343 < r) (h1 : r ≤ 65535) (w : World) (hF : Full w A n xs) (hlen : n ≤ 100000) :
    Calls Try.prog 61 #[.slice A n n, .int .i32 r] w fun e w' => ∃ v', e = .returned v' ∧ w'.ownsRow w.heap.size 5 1 v' (n + 3) (xs ++ [.int .u8 (224 + r / 4096), .int .u8 (128 + r / 64 % 64), .int .u8 (128 + r % 64)]) ∧ Below w.heap.size w w' := by
  obtain ⟨i0, hi, hz0, hz1, hz2⟩ := info_parts byte_info
  go_enter Try.func61, Try.ntmps61
  go_wp2_with (at_builtin; refine wpList_append_grows _ rfl _ _ 55 rfl 5 i0 (.int .u8 0) 1 1 Try.underlying55 hi hz0 hz1 hz2 rfl (by decide) A n n xs rfl hF.1 hF.2.1 (hF.alloc _).2.2 ⟨w.heap.size, 0, none⟩ 3 3 [.int .u8 (224 + r / 4096), .int .u8 (128 + r / 64 % 64), .int .u8 (128 + r % 64)] rfl rfl ?c1 ?c2 ?cf ?c3 ?c4 ?_)
  all_goals first
    | (intro v' w2 hown' hgrow; go_wp2; go_ret; exact ⟨_, rfl, own_base hown' (by simp), below_grown hgrow⟩)
    | (unfold maxLen; omega)
    | omega
    | (simp; omega)
    | exact ⟨rfl, rfl, rfl⟩
    | rfl
    | (intro u hu; simp at hu; rcases hu with rfl | rfl | rfl <;> rfl)
    | (intro j u hj
       match j, hj with
       | 0, hj => simp at hj; subst hj; simp [Addr.add]
       | 1, hj => simp at hj; subst hj; simp [Addr.add]
       | 2, hj => simp at hj; subst hj; simp [Addr.add]
       | (j + 3), hj => simp at hj)

set_option maxHeartbeats 4000000 in
set_option maxRecDepth 100000 in
theorem non_four (A : Option Addr) (n : Nat) (xs : List Value) (r : Int) (h0 : 65536 ≤ r) (h1 : r ≤ 1114111) (w : World) (hF : Full w A n xs) (hlen : n ≤ 100000) :
    Calls Try.prog 61 #[.slice A n n, .int .i32 r] w fun e w' => ∃ v', e = .returned v' ∧ w'.ownsRow w.heap.size 5 1 v' (n + 4) (xs ++ [.int .u8 (240 + r / 262144), .int .u8 (128 + r / 4096 % 64), .int .u8 (128 + r / 64 % 64), .int .u8 (128 + r % 64)]) ∧ Below w.heap.size w w' := by
  obtain ⟨i0, hi, hz0, hz1, hz2⟩ := info_parts byte_info
  go_enter Try.func61, Try.ntmps61
  go_wp2_with (at_builtin; refine wpList_append_grows _ rfl _ _ 55 rfl 5 i0 (.int .u8 0) 1 1 Try.underlying55 hi hz0 hz1 hz2 rfl (by decide) A n n xs rfl hF.1 hF.2.1 (hF.alloc _).2.2 ⟨w.heap.size, 0, none⟩ 4 4 [.int .u8 (240 + r / 262144), .int .u8 (128 + r / 4096 % 64), .int .u8 (128 + r / 64 % 64), .int .u8 (128 + r % 64)] rfl rfl ?c1 ?c2 ?cf ?c3 ?c4 ?_)
  all_goals first
    | (intro v' w2 hown' hgrow; go_wp2; go_ret; exact ⟨_, rfl, own_base hown' (by simp), below_grown hgrow⟩)
    | (unfold maxLen; omega)
    | omega
    | (simp; omega)
    | exact ⟨rfl, rfl, rfl, rfl⟩
    | rfl
    | (intro u hu; simp at hu; rcases hu with rfl | rfl | rfl | rfl <;> rfl)
    | (intro j u hj
       match j, hj with
       | 0, hj => simp at hj; subst hj; simp [Addr.add]
       | 1, hj => simp at hj; subst hj; simp [Addr.add]
       | 2, hj => simp at hj; subst hj; simp [Addr.add]
       | 3, hj => simp at hj; subst hj; simp [Addr.add]
       | (j + 4), hj => simp at hj)

set_option maxHeartbeats 4000000 in
set_option maxRecDepth 100000 in
theorem non_bad_neg (A : Option Addr) (n : Nat) (xs : List Value) (r : Int) (h0 : -2147483648 ≤ r) (h1 : r < 0) (w : World) (hF : Full w A n xs) (hlen : n ≤ 100000) :
    Calls Try.prog 61 #[.slice A n n, .int .i32 r] w fun e w' => ∃ v', e = .returned v' ∧ w'.ownsRow w.heap.size 5 1 v' (n + 3) (xs ++ [.int .u8 (239), .int .u8 (191), .int .u8 (189)]) ∧ Below w.heap.size w w' := by
  obtain ⟨i0, hi, hz0, hz1, hz2⟩ := info_parts byte_info
  go_enter Try.func61, Try.ntmps61
  go_wp2_with (at_builtin; refine wpList_append_grows _ rfl _ _ 55 rfl 5 i0 (.int .u8 0) 1 1 Try.underlying55 hi hz0 hz1 hz2 rfl (by decide) A n n xs rfl hF.1 hF.2.1 (hF.alloc _).2.2 ⟨w.heap.size, 0, none⟩ 3 3 [.int .u8 (239), .int .u8 (191), .int .u8 (189)] rfl rfl ?c1 ?c2 ?cf ?c3 ?c4 ?_)
  all_goals first
    | (intro v' w2 hown' hgrow; go_wp2; go_ret; exact ⟨_, rfl, own_base hown' (by simp), below_grown hgrow⟩)
    | (unfold maxLen; omega)
    | omega
    | (simp; omega)
    | exact ⟨rfl, rfl, rfl⟩
    | rfl
    | (intro u hu; simp at hu; rcases hu with rfl | rfl | rfl <;> rfl)
    | (intro j u hj
       match j, hj with
       | 0, hj => simp at hj; subst hj; simp [Addr.add]
       | 1, hj => simp at hj; subst hj; simp [Addr.add]
       | 2, hj => simp at hj; subst hj; simp [Addr.add]
       | (j + 3), hj => simp at hj)

set_option maxHeartbeats 4000000 in
set_option maxRecDepth 100000 in
theorem non_bad_sur (A : Option Addr) (n : Nat) (xs : List Value) (r : Int) (h0 : 55296 ≤ r) (h1 : r ≤ 57343) (w : World) (hF : Full w A n xs) (hlen : n ≤ 100000) :
    Calls Try.prog 61 #[.slice A n n, .int .i32 r] w fun e w' => ∃ v', e = .returned v' ∧ w'.ownsRow w.heap.size 5 1 v' (n + 3) (xs ++ [.int .u8 (239), .int .u8 (191), .int .u8 (189)]) ∧ Below w.heap.size w w' := by
  obtain ⟨i0, hi, hz0, hz1, hz2⟩ := info_parts byte_info
  go_enter Try.func61, Try.ntmps61
  go_wp2_with (at_builtin; refine wpList_append_grows _ rfl _ _ 55 rfl 5 i0 (.int .u8 0) 1 1 Try.underlying55 hi hz0 hz1 hz2 rfl (by decide) A n n xs rfl hF.1 hF.2.1 (hF.alloc _).2.2 ⟨w.heap.size, 0, none⟩ 3 3 [.int .u8 (239), .int .u8 (191), .int .u8 (189)] rfl rfl ?c1 ?c2 ?cf ?c3 ?c4 ?_)
  all_goals first
    | (intro v' w2 hown' hgrow; go_wp2; go_ret; exact ⟨_, rfl, own_base hown' (by simp), below_grown hgrow⟩)
    | (unfold maxLen; omega)
    | omega
    | (simp; omega)
    | exact ⟨rfl, rfl, rfl⟩
    | rfl
    | (intro u hu; simp at hu; rcases hu with rfl | rfl | rfl <;> rfl)
    | (intro j u hj
       match j, hj with
       | 0, hj => simp at hj; subst hj; simp [Addr.add]
       | 1, hj => simp at hj; subst hj; simp [Addr.add]
       | 2, hj => simp at hj; subst hj; simp [Addr.add]
       | (j + 3), hj => simp at hj)

set_option maxHeartbeats 4000000 in
set_option maxRecDepth 100000 in
theorem non_bad_big (A : Option Addr) (n : Nat) (xs : List Value) (r : Int) (h0 : 1114111 < r) (h1 : r ≤ 2147483647) (w : World) (hF : Full w A n xs) (hlen : n ≤ 100000) :
    Calls Try.prog 61 #[.slice A n n, .int .i32 r] w fun e w' => ∃ v', e = .returned v' ∧ w'.ownsRow w.heap.size 5 1 v' (n + 3) (xs ++ [.int .u8 (239), .int .u8 (191), .int .u8 (189)]) ∧ Below w.heap.size w w' := by
  obtain ⟨i0, hi, hz0, hz1, hz2⟩ := info_parts byte_info
  go_enter Try.func61, Try.ntmps61
  go_wp2_with (at_builtin; refine wpList_append_grows _ rfl _ _ 55 rfl 5 i0 (.int .u8 0) 1 1 Try.underlying55 hi hz0 hz1 hz2 rfl (by decide) A n n xs rfl hF.1 hF.2.1 (hF.alloc _).2.2 ⟨w.heap.size, 0, none⟩ 3 3 [.int .u8 (239), .int .u8 (191), .int .u8 (189)] rfl rfl ?c1 ?c2 ?cf ?c3 ?c4 ?_)
  all_goals first
    | (intro v' w2 hown' hgrow; go_wp2; go_ret; exact ⟨_, rfl, own_base hown' (by simp), below_grown hgrow⟩)
    | (unfold maxLen; omega)
    | omega
    | (simp; omega)
    | exact ⟨rfl, rfl, rfl⟩
    | rfl
    | (intro u hu; simp at hu; rcases hu with rfl | rfl | rfl <;> rfl)
    | (intro j u hj
       match j, hj with
       | 0, hj => simp at hj; subst hj; simp [Addr.add]
       | 1, hj => simp at hj; subst hj; simp [Addr.add]
       | 2, hj => simp at hj; subst hj; simp [Addr.add]
       | (j + 3), hj => simp at hj)

theorem non_all (A : Option Addr) (n : Nat) (xs : List Value) (r : Int) (hr0 : -2147483648 ≤ r) (hr1 : r ≤ 2147483647) (hna : r < 0 ∨ 128 ≤ r) (w : World) (hF : Full w A n xs) (hlen : n ≤ 100000) :
    Calls Try.prog 61 #[.slice A n n, .int .i32 r] w fun e w' => ∃ v', e = .returned v' ∧ w'.ownsRow w.heap.size 5 1 v' (n + (Lib.runeCells r).length) (xs ++ Lib.runeCells r) ∧ Below w.heap.size w w' := by
  by_cases c0 : r < 0
  · rw [show Lib.runeCells r = [.int .u8 239, .int .u8 191, .int .u8 189] by simp [Lib.runeCells, Lib.encodeRuneZ_bad (Or.inl c0)]]
    exact non_bad_neg A n xs r hr0 c0 w hF hlen
  by_cases c1 : r ≤ 2047
  · rw [show Lib.runeCells r = [.int .u8 (192 + r / 64), .int .u8 (128 + r % 64)] by simp [Lib.runeCells, Lib.encodeRuneZ_two (by omega) c1]]
    exact non_two A n xs r (by omega) c1 w hF hlen
  by_cases c2 : r < 55296
  · rw [show Lib.runeCells r = [.int .u8 (224 + r / 4096), .int .u8 (128 + r / 64 % 64), .int .u8 (128 + r % 64)] by simp [Lib.runeCells, Lib.encodeRuneZ_three (Or.inl ⟨by omega, c2⟩)]]
    exact non_three_lo A n xs r (by omega) c2 w hF hlen
  by_cases c3 : r ≤ 57343
  · rw [show Lib.runeCells r = [.int .u8 239, .int .u8 191, .int .u8 189] by simp [Lib.runeCells, Lib.encodeRuneZ_bad (Or.inr (Or.inl ⟨by omega, c3⟩))]]
    exact non_bad_sur A n xs r (by omega) c3 w hF hlen
  by_cases c4 : r ≤ 65535
  · rw [show Lib.runeCells r = [.int .u8 (224 + r / 4096), .int .u8 (128 + r / 64 % 64), .int .u8 (128 + r % 64)] by simp [Lib.runeCells, Lib.encodeRuneZ_three (Or.inr ⟨by omega, c4⟩)]]
    exact non_three_hi A n xs r (by omega) c4 w hF hlen
  by_cases c5 : r ≤ 1114111
  · rw [show Lib.runeCells r = [.int .u8 (240 + r / 262144), .int .u8 (128 + r / 4096 % 64), .int .u8 (128 + r / 64 % 64), .int .u8 (128 + r % 64)] by simp [Lib.runeCells, Lib.encodeRuneZ_four (by omega) c5]]
    exact non_four A n xs r (by omega) c5 w hF hlen
  · rw [show Lib.runeCells r = [.int .u8 239, .int .u8 191, .int .u8 189] by simp [Lib.runeCells, Lib.encodeRuneZ_bad (r := r) (Or.inr (Or.inr (by omega)))]]
    exact non_bad_big A n xs r (by omega) hr1 w hF hlen
set_option maxHeartbeats 4000000 in
set_option maxRecDepth 100000 in
theorem app_ascii (A : Option Addr) (n : Nat) (xs : List Value) (r : Int) (h0 : 0 ≤ r) (h1 : r ≤ 127) (w : World) (hF : Full w A n xs) (hlen : n ≤ 100000) :
    Calls Try.prog 58 #[.slice A n n, .int .i32 r] w fun e w' => ∃ v', e = .returned v' ∧ w'.ownsRow w.heap.size 5 1 v' (n + 1) (xs ++ [.int .u8 r]) ∧ Below w.heap.size w w' := by
  obtain ⟨i0, hi, hz0, hz1, hz2⟩ := info_parts byte_info
  go_enter Try.func58, Try.ntmps58
  go_wp2_with (at_builtin; refine wpList_append_grows _ rfl _ _ 55 rfl 5 i0 (.int .u8 0) 1 1 Try.underlying55 hi hz0 hz1 hz2 rfl (by decide) A n n xs rfl hF.1 hF.2.1 (hF.alloc _).2.2 ⟨w.heap.size, 0, none⟩ 1 1 [.int .u8 (r)] rfl rfl ?c1 ?c2 ?cf ?c3 ?c4 ?_)
  all_goals first
    | (intro v' w2 hown' hgrow; go_wp2; go_ret; exact ⟨_, rfl, own_base hown' (by simp), below_grown hgrow⟩)
    | (unfold maxLen; omega)
    | omega
    | (simp; omega)
    | exact ⟨rfl⟩
    | rfl
    | (intro u hu; simp at hu; rcases hu with rfl <;> rfl)
    | (intro j u hj
       match j, hj with
       | 0, hj => simp at hj; subst hj; simp [Addr.add]
       | (j + 1), hj => simp at hj)
set_option maxHeartbeats 4000000 in
theorem app_other (A : Option Addr) (n : Nat) (xs : List Value) (r : Int) (hr0 : -2147483648 ≤ r) (hr1 : r ≤ 2147483647) (hna : r < 0 ∨ 128 ≤ r) (w : World) (hF : Full w A n xs) (hlen : n ≤ 100000) :
    Calls Try.prog 58 #[.slice A n n, .int .i32 r] w fun e w' => ∃ v', e = .returned v' ∧ w'.ownsRow w.heap.size 5 1 v' (n + (Lib.runeCells r).length) (xs ++ Lib.runeCells r) ∧ Below w.heap.size w w' := by
  rcases hna with hna | hna
  all_goals
    go_enter Try.func58, Try.ntmps58
    go_wp2_with (go_at_call 61; refine (non_all A n xs r hr0 hr1 (by omega) _ hF hlen).mono ?_)
    rintro e w1 ⟨v', rfl, h1, h2⟩
    go_wp2
    go_ret
    exact ⟨_, rfl, h1, h2⟩
/-- AppendRune onto a slice without room: a new row, the sign's bytes behind the slice's. -/
theorem app (A : Option Addr) (n : Nat) (xs : List Value) (r : Int) (hr0 : -2147483648 ≤ r) (hr1 : r ≤ 2147483647) (w : World) (hF : Full w A n xs) (hlen : n ≤ 100000) :
    Calls Try.prog 58 #[.slice A n n, .int .i32 r] w fun e w' => ∃ v', e = .returned v' ∧ w'.ownsRow w.heap.size 5 1 v' (n + (Lib.runeCells r).length) (xs ++ Lib.runeCells r) ∧ Below w.heap.size w w' := by
  by_cases c : 0 ≤ r ∧ r ≤ 127
  · rw [show Lib.runeCells r = [.int .u8 r] by simp [Lib.runeCells, Lib.encodeRuneZ_one c.1 c.2]]
    exact app_ascii A n xs r c.1 c.2 w hF hlen
  · exact app_other A n xs r hr0 hr1 (by omega) w hF hlen
end Go.Proofs.Ytjfoppmpiklfiab.PutFull
