/- The stack of bits: the laws' beginnings. Conditions: none. -/
import Derived.Test.YtjfoppmpiklfiaaBitsAll
namespace Go.Proofs.Ytjfoppmpiklfiaa.BitsW
open Go.RowKit Go.Proofs.YtjfoppmpiklfiaaW.PrintWords Go.Proofs.YtjfoppmpiklfiaaW.PrintLast Go.Proofs.YtjfoppmpiklfiaaW.PrintMore
set_option linter.unusedVariables false
set_option linter.unusedSimpArgs false
theorem ownB_C {B : Nat} {W : World} {A : Option Addr} {n c : Nat} {l : List Bool} (h : OwnB B W (.slice A n c) l) (hn : n = l.length) : Kd.C Kd.bool W A l.length l ∧ l.length ≤ c := by
  subst hn
  refine ⟨?_, own_cap h⟩
  exact Kd.C_of_reads (d := false) (own_reads_of' h)
theorem same_loop (l : List Bool) (hl : l.length < 100000) : ∀ (k i : Nat), i ≤ l.length → k + i = l.length + 1 → PBitsRuns.riffleref08_Same.l0 k l l (l.length : Int) (i : Int) = some true := by
  intro k
  induction k with
  | zero => intro i h0 h; omega
  | succ k ih =>
    intro i h0 h
    simp only [PBitsRuns.riffleref08_Same.l0]
    by_cases hc : (i : Int) < (l.length : Int)
    · have hc' : i < l.length := by omega
      rw [if_pos hc, if_pos (Int.natCast_nonneg _), if_pos hc, if_pos hc, if_neg (by simp)]
      have : wrap64 ((i : Int) + 1) = ((i + 1 : Nat) : Int) := by unfold wrap64; omega
      rw [this]
      exact ih (i + 1) (by omega) (by omega)
    · rw [if_neg hc]
theorem same_f (l : List Bool) (hl : l.length < 100000) : PBitsRuns.riffleref08_Same.f (l.length + 1) l l = some true := by
  unfold PBitsRuns.riffleref08_Same.f
  rw [if_pos rfl]
  exact same_loop l hl _ 0 (by omega) (by omega)
theorem same_calls {B1 B2 : Nat} {W : World} {A1 A2 : Option Addr} {n c1 c2 : Nat} {l : List Bool} (h1 : OwnB B1 W (.slice A1 n c1) l) (h2 : OwnB B2 W (.slice A2 n c2) l) (hn : n = l.length) (hl : l.length < 100000) :
    Calls Try.prog 20 #[.slice A1 n c1, .slice A2 n c2] W fun e w' => e = .returned (.bool true) ∧ Drawn0 W w' := by
  obtain ⟨k1, k2⟩ := ownB_C h1 hn
  obtain ⟨k3, k4⟩ := ownB_C h2 hn
  subst hn
  exact PBitsRuns.riffleref08_Same.calls (l.length + 1) A1 c1 l A2 c2 l true W k1 k2 k3 k4 (same_f l hl)
theorem lit2 (W : World) : OwnB W.heap.size (W.alloc (.cells #[.bool true, .bool false] 4)) (.slice (some ⟨W.heap.size, 0, none⟩) 2 2) [true, false] := own_lit_of W W.heap.size 4 [true, false] (Nat.le_refl _) (by simp)
theorem new_ (w0 w : World) (hB : Below w0.heap.size w0 w) : IsB w0 (w.alloc (.cells #[.slice none 0 0, .int .i64 0] 26)) w.heap.size 0 [] :=
  ⟨.slice none 0 0, heap_alloc_new w _, own_nil _ _ _ _, hB.size⟩
set_option maxHeartbeats 4000000 in
set_option maxRecDepth 100000 in
theorem alive_calls (w : World) : Calls Try.prog 13 #[] w fun e w' => e = .returned (.bool true) ∧ Below w.heap.size w w' := by
  go_enter Try.func13, Try.ntmps13
  go_upto_region 2 with (fail)
  generalize hw1 : w.alloc _ = w1
  have H1 : IsB w w1 w.heap.size (mw ([] : List Bool).length) [] := by subst hw1; exact new_ w w (Below.refl _ _)
  have B1 : Below w.heap.size w w1 := by subst hw1; exact below_alloc (Below.refl _ _) _
  generalize hgg : w.heap.size = g at H1 ⊢
  clear hgg
  clear hw1
  go_upto_region 3 with (first | (go_at_call 14; refine (push_calls g [] true w w1 H1 B1 (Nat.zero_le _)).mono ?_; rintro e w2 ⟨rfl, H2, B2, -⟩))
  go_upto_region 4 with (first | (go_at_call 14; refine (push_calls g [true] false w w2 H2 B2 (by decide)).mono ?_; rintro e w3 ⟨rfl, H3, B3, -⟩))
  obtain ⟨m, hm⟩ : ∃ m, m = mw ([true].length + 1) := ⟨_, rfl⟩
  obtain ⟨l, hl⟩ : ∃ l, l = [true] ++ [false] := ⟨_, rfl⟩
  have hm1 : m = 1 := hm
  have hl1 : l.length = 2 := by rw [hl]; rfl
  have HT := Aside0.mk (top_some g _ [true] false w w3 H3 (by decide) (by decide))
  rw [← hm, ← hl] at H3
  have HAll := Aside0.mk (all_calls g m l w w3 H3 (by omega) (by omega))
  rw [hl1] at HAll
  have HL := Aside0.mk hl
  have HL1 := Aside0.mk hl1
  have H3h := Aside0.mk H3
  clear hm hl H3 hl1 H1 H2 B1 B2
  have B3h := Aside0.mk B3
  clear B3
  go_upto_region 5 with (first | (go_at_call 16; refine HT.out.mono ?_; rintro e w3' ⟨rfl, rfl⟩))
  clear HT
  go_wp2_with (first | (go_at_call 21; refine HAll.out.mono ?_; rintro e w4 ⟨A4, c4, rfl, HO4, HB4⟩; have HO4h := Aside0.mk HO4; have HB4h := Aside0.mk HB4; clear HO4 HB4 HAll) | (go_at_call 20; refine (same_calls (HO4h.out.alloc _) (by rw [HL.out]; exact lit2 w4) HL1.out.symm (by rw [HL1.out]; decide)).mono ?_; rintro e w5 ⟨rfl, hd⟩; have HB5 := Aside0.mk (below_step (below_step (below_step B3h.out HB4h.out) (below_alloc (Below.refl _ _) _)) hd.below); have HW := Aside0.mk (words_calls g m l w w5 (((H3h.out.below HB4h.out).below (below_alloc (Below.refl _ _) _)).below hd.below)); clear hd HO4h HB4h H3h B3h HL) | (go_at_call 18; refine HW.out.mono ?_; rintro e w6 ⟨rfl, rfl⟩))

  go_ret
  exact ⟨rfl, HB5.out⟩
end Go.Proofs.Ytjfoppmpiklfiaa.BitsW
