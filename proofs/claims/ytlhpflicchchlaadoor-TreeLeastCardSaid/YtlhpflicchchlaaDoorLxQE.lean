/- quote.Walk.Step and quote.Read, walked. Conditions: a text of at most 2^30 bytes. -/
import Derived.Test.YtlhpflicchchlaaDoorLxQD
import Derived.IntWalk
namespace Go.Proofs.YtlhpflicchchlaaDoor.LxQ
open Go.RowKit Go.Proofs.YtlhpflicchchlaaDoorW.PrintWords Go.Proofs.YtlhpflicchchlaaDoorW.PrintLast Go.Proofs.YtlhpflicchchlaaDoorW.PrintMore
attribute [local go_sem] max2_int min2_int max_two min_two max_three min_three max_four min_four
set_option linter.unusedVariables false
set_option linter.unusedSimpArgs false
def qstep (q : QS) (c : Int) : QS × Int :=
  if q.a = 0 then amongS q c
  else if q.a = 1 then slashS q c
  else if q.a = 2 then digitS q c
  else if q.a = 3 then (if c = 92 then ({ q with a := 4 }, 0) else (q, 4))
  else if q.a = 4 then (if c = 117 then ({ q with a := 2, le := 4, un := 0 }, 0) else (q, 4))
  else (q, 14)
/-- What holds of a state behind k bytes. -/
structure GQ (q : QS) (k : Nat) : Prop where
  l : (q.l = 0 ∧ 0 ≤ q.sg ∧ q.sg < 2097152) ∨ (q.l = 1 ∧ 0 ≤ q.sg ∧ q.sg < 32768) ∨ (q.l = 2 ∧ 0 ≤ q.sg ∧ q.sg < 512) ∨ (q.l = 3 ∧ 0 ≤ q.sg ∧ q.sg < 8)
  d : q.a = 2 → (q.le = 4 ∧ q.un = 0) ∨ (q.le = 3 ∧ 0 ≤ q.un ∧ q.un < 16) ∨ (q.le = 2 ∧ 0 ≤ q.un ∧ q.un < 256) ∨ (q.le = 1 ∧ 0 ≤ q.un ∧ q.un < 4096)
  fi : q.fi = 0 ∨ (55296 ≤ q.fi ∧ q.fi ≤ 56319)
  len : q.text.length ≤ 4 * k
theorem GQ.good {q : QS} {k : Nat} (h : GQ q k) (hk : k ≤ 1073741824) : Good q :=
  ⟨by have := h.l; omega, by have := h.l; omega, by have := h.l; omega, fun _ => by have := h.l; omega, by have := h.len; omega⟩
theorem enc_len (r : Int) : (Lib.encodeRune r).length ≤ 4 := by
  unfold Lib.encodeRune; rw [List.length_map]; exact (Lib.encodeRuneZ_length r).2
theorem uf_l (c : Int) (h0 : 0 ≤ c) (h1 : c < 256) : ((uf c).1 = 0 ∧ 0 ≤ (uf c).2.2.2.1 ∧ (uf c).2.2.2.1 < 2097152) ∨ ((uf c).1 = 1 ∧ 0 ≤ (uf c).2.2.2.1 ∧ (uf c).2.2.2.1 < 32768) ∨ ((uf c).1 = 2 ∧ 0 ≤ (uf c).2.2.2.1 ∧ (uf c).2.2.2.1 < 512) ∨ ((uf c).1 = 3 ∧ 0 ≤ (uf c).2.2.2.1 ∧ (uf c).2.2.2.1 < 8) := by
  have : ∀ k : Fin 256, (fun u : Int × Int × Int × Int × Bool => (u.1 = 0 ∧ 0 ≤ u.2.2.2.1 ∧ u.2.2.2.1 < 2097152) ∨ (u.1 = 1 ∧ 0 ≤ u.2.2.2.1 ∧ u.2.2.2.1 < 32768) ∨ (u.1 = 2 ∧ 0 ≤ u.2.2.2.1 ∧ u.2.2.2.1 < 512) ∨ (u.1 = 3 ∧ 0 ≤ u.2.2.2.1 ∧ u.2.2.2.1 < 8)) (uf ((k.val : Nat) : Int)) := by decide +kernel
  have h := this ⟨c.toNat, by omega⟩
  simp only at h
  rw [show ((c.toNat : Nat) : Int) = c by omega] at h
  exact h
theorem ustep_l {l lo hi sg c : Int} (h0 : 0 ≤ c) (h1 : c < 256) (h : (l = 0 ∧ 0 ≤ sg ∧ sg < 2097152) ∨ (l = 1 ∧ 0 ≤ sg ∧ sg < 32768) ∨ (l = 2 ∧ 0 ≤ sg ∧ sg < 512) ∨ (l = 3 ∧ 0 ≤ sg ∧ sg < 8)) :
    ((ustep l lo hi sg c).2.1 = 0 ∧ 0 ≤ (ustep l lo hi sg c).2.2.2.2 ∧ (ustep l lo hi sg c).2.2.2.2 < 2097152) ∨ ((ustep l lo hi sg c).2.1 = 1 ∧ 0 ≤ (ustep l lo hi sg c).2.2.2.2 ∧ (ustep l lo hi sg c).2.2.2.2 < 32768) ∨ ((ustep l lo hi sg c).2.1 = 2 ∧ 0 ≤ (ustep l lo hi sg c).2.2.2.2 ∧ (ustep l lo hi sg c).2.2.2.2 < 512) ∨ ((ustep l lo hi sg c).2.1 = 3 ∧ 0 ≤ (ustep l lo hi sg c).2.2.2.2 ∧ (ustep l lo hi sg c).2.2.2.2 < 8) := by
  have hu := uf_l c h0 h1
  unfold ustep
  split
  · split
    · exact hu
    · exact h
  · split
    · exact h
    · simp only; omega
theorem qstep_good {q : QS} {k : Nat} (h : GQ q k) (c : Int) (h0 : 0 ≤ c) (h1 : c < 256) : GQ (qstep q c).1 (k + 1) := by
  have hl := h.l
  have hd := h.d
  have hf := h.fi
  have hn := h.len
  have same : GQ q (k + 1) := ⟨hl, hd, hf, by omega⟩
  unfold qstep
  split
  · rename_i ha
    unfold amongS
    split
    · exact ⟨hl, fun e => by simp at e, hf, by simp only; omega⟩
    split
    · exact ⟨hl, fun e => by simp at e, hf, by simp only; omega⟩
    split
    · exact same
    · have hu := ustep_l (lo := q.lo) (hi := q.hi) h0 h1 hl
      unfold amongT
      split
      · exact same
      split
      · exact ⟨hu, fun e => by simp only at e; omega, hf, by simp only; omega⟩
      · refine ⟨hu, fun e => by simp only at e; omega, hf, ?_⟩
        have := enc_len (ustep q.l q.lo q.hi q.sg c).2.2.2.2
        simp only [List.length_append]; omega
  split
  · unfold slashS
    split
    · exact ⟨hl, fun _ => .inl ⟨rfl, rfl⟩, .inl rfl, by simp only; omega⟩
    split
    · exact same
    · exact ⟨hl, fun e => by simp at e, hf, by simp; omega⟩
  split
  · rename_i ha
    have hd2 := hd ha
    have hx := hexV_range c
    unfold digitS
    generalize hnx : q.un * 16 + (hexV c).1 = nx
    unfold digitT
    split
    · exact same
    split
    · exact same
    split
    · exact same
    split
    · rename_i hle
      refine ⟨hl, fun _ => ?_, hf, by simp only; omega⟩
      simp only
      omega
    split
    · refine ⟨hl, fun e => by simp at e, .inl rfl, ?_⟩
      have := enc_len (65536 + (q.fi - 55296) * 1024 + nx - 56320)
      simp only [List.length_append]; omega
    split
    · rename_i hu
      refine ⟨hl, fun e => by simp at e, .inr ?_, by simp only; omega⟩
      simp only
      unfold unitV at hu
      split at hu
      · omega
      · split at hu <;> omega
    · refine ⟨hl, fun e => by simp at e, hf, ?_⟩
      have := enc_len nx
      simp only [List.length_append]; omega
  split
  · split
    · exact ⟨hl, fun e => by simp at e, hf, by simp only; omega⟩
    · exact same
  split
  · split
    · exact ⟨hl, fun _ => .inl ⟨rfl, rfl⟩, hf, by simp only; omega⟩
    · exact same
  · exact same
set_option maxHeartbeats 16000000 in
set_option maxRecDepth 100000 in
theorem qstep_calls {W : World} {b : Nat} {p : LP} {q : QS} {k : Nat} (h : IsQ W b p q) (hg : GQ q k) (hk : k ≤ 1073741824) (c : Int) (k0 : 0 ≤ c) (k1 : c < 256) :
    Calls Tryd.prog 134 #[.pointer (some ⟨b, 8, none⟩), .int .u8 c] W fun e w' => e = .returned (.int .i64 (qstep q c).2) ∧ IsQ w' b p (qstep q c).1 ∧ KL b p.B W w' := by
  have HQ := Aside0.mk h
  have hgood := hg.good hk
  obtain ⟨tx, hb, ho⟩ := h
  have c0 := hb.c0
  have g0 : ∀ z : Int, q.a ≠ z → (q.a == z) = false ∧ decide (q.a = z) = false := fun z hz => ⟨by simp; exact hz, by simp; exact hz⟩
  by_cases a0 : q.a = 0
  · have E1 := Aside0.mk (show qstep q c = amongS q c by unfold qstep; rw [if_pos a0])
    have HC := Aside0.mk (among_calls HQ.out hgood c k0 k1 (by have := hg.l; omega))
    rw [a0] at c0
    clear hb ho hg k0 k1 hgood g0 a0
    go_enter Tryd.func134, Tryd.ntmps134
    go_wp2_with (fail)
    go_at_call 156
    refine HC.out.mono ?_
    rintro e w2 ⟨rfl, hq, hb⟩
    have H2 := Aside0.mk hq
    have HB := Aside0.mk hb
    clear hq hb
    go_wp2_with (fail)
    go_ret
    rw [E1.out]
    exact ⟨rfl, H2.out, HB.out⟩
  obtain ⟨x0, x0'⟩ := g0 0 a0
  by_cases a1 : q.a = 1
  · have E1 := Aside0.mk (show qstep q c = slashS q c by unfold qstep; rw [if_neg a0, if_pos a1])
    have HC := Aside0.mk (slash_calls HQ.out hgood c k0 k1)
    rw [a1] at c0 x0 x0'
    clear hb ho hg k0 k1 hgood g0 a0 a1
    go_enter Tryd.func134, Tryd.ntmps134
    go_wp2_with (fail)
    go_at_call 157
    refine HC.out.mono ?_
    rintro e w2 ⟨rfl, hq, hb⟩
    have H2 := Aside0.mk hq
    have HB := Aside0.mk hb
    clear hq hb
    go_wp2_with (fail)
    go_ret
    rw [E1.out]
    exact ⟨rfl, H2.out, HB.out⟩
  obtain ⟨x1, x1'⟩ := g0 1 a1
  by_cases a2 : q.a = 2
  · have E1 := Aside0.mk (show qstep q c = digitS q c by unfold qstep; rw [if_neg a0, if_neg a1, if_pos a2])
    have HC := Aside0.mk (digit_calls HQ.out hgood ⟨by have := hg.d a2; omega, by have := hg.d a2; omega, hg.fi⟩ (by have := hg.d a2; omega) c k0 k1)
    rw [a2] at c0 x0 x0' x1 x1'
    clear hb ho hg k0 k1 hgood g0 a0 a1 a2
    go_enter Tryd.func134, Tryd.ntmps134
    go_wp2_with (fail)
    go_at_call 158
    refine HC.out.mono ?_
    rintro e w2 ⟨rfl, hq, hb⟩
    have H2 := Aside0.mk hq
    have HB := Aside0.mk hb
    clear hq hb
    go_wp2_with (fail)
    go_ret
    rw [E1.out]
    exact ⟨rfl, H2.out, HB.out⟩
  obtain ⟨x2, x2'⟩ := g0 2 a2
  have HB := Aside0.mk hb
  have HO := Aside0.mk ho
  have f0 := hb.fz 8
  have f6 := hb.fz 14
  have f7 := hb.fz 15
  have c6 := hb.c6
  have c7 := hb.c7
  by_cases a3 : q.a = 3
  · by_cases hc : c = 92
    · subst hc
      have E1 := Aside0.mk (show qstep q 92 = ({ q with a := 4 }, 0) by unfold qstep; rw [if_neg a0, if_neg a1, if_neg a2, if_pos a3, if_pos rfl])
      rw [a3] at c0 x0 x0' x1 x1' x2 x2'
      clear hb ho hg k0 k1 hgood g0 a0 a1 a2 a3
      go_enter Tryd.func134, Tryd.ntmps134
      go_wp2_with (fail)
      go_ret
      rw [E1.out]
      exact ⟨rfl, ⟨tx, HB.out.s0 4, own_set HO.out 8 _⟩, ((KeepB.refl b _).set 8 _).kl⟩
    · have E1 := Aside0.mk (show qstep q c = (q, 4) by unfold qstep; rw [if_neg a0, if_neg a1, if_neg a2, if_pos a3, if_neg hc])
      have g1 : (c == 92) = false := by simp; exact hc
      have g2 : decide (c = 92) = false := by simp; exact hc
      have g3 : (c != 92) = true := by simp; exact hc
      rw [a3] at c0 x0 x0' x1 x1' x2 x2'
      clear hb ho hg k0 k1 hgood g0 a0 a1 a2 a3 hc
      go_enter Tryd.func134, Tryd.ntmps134
      go_wp2_with (fail)
      go_ret
      rw [E1.out]
      exact ⟨rfl, HQ.out, KL.refl _ _ _⟩
  obtain ⟨x3, x3'⟩ := g0 3 a3
  by_cases a4 : q.a = 4
  · by_cases hc : c = 117
    · subst hc
      have E1 := Aside0.mk (show qstep q 117 = ({ q with a := 2, le := 4, un := 0 }, 0) by unfold qstep; rw [if_neg a0, if_neg a1, if_neg a2, if_neg a3, if_pos a4, if_pos rfl])
      rw [a4] at c0 x0 x0' x1 x1' x2 x2' x3 x3'
      clear hb ho hg k0 k1 hgood g0 a0 a1 a2 a3 a4
      go_enter Tryd.func134, Tryd.ntmps134
      go_wp2_with (fail)
      go_ret
      rw [E1.out]
      exact ⟨rfl, ⟨tx, ((HB.out.s0 2).s6 4).s7 0, own_set (own_set (own_set HO.out 8 _) 14 _) 15 _⟩, (((KeepB.refl b _).set 8 _).set 14 _).set 15 _ |>.kl⟩
    · have E1 := Aside0.mk (show qstep q c = (q, 4) by unfold qstep; rw [if_neg a0, if_neg a1, if_neg a2, if_neg a3, if_pos a4, if_neg hc])
      have g1 : (c == 117) = false := by simp; exact hc
      have g2 : decide (c = 117) = false := by simp; exact hc
      have g3 : (c != 117) = true := by simp; exact hc
      rw [a4] at c0 x0 x0' x1 x1' x2 x2' x3 x3'
      clear hb ho hg k0 k1 hgood g0 a0 a1 a2 a3 a4 hc
      go_enter Tryd.func134, Tryd.ntmps134
      go_wp2_with (fail)
      go_ret
      rw [E1.out]
      exact ⟨rfl, HQ.out, KL.refl _ _ _⟩
  obtain ⟨x4, x4'⟩ := g0 4 a4
  have E1 := Aside0.mk (show qstep q c = (q, 14) by unfold qstep; rw [if_neg a0, if_neg a1, if_neg a2, if_neg a3, if_neg a4])
  clear hb ho hg k0 k1 hgood g0 a0 a1 a2 a3 a4
  go_enter Tryd.func134, Tryd.ntmps134
  go_wp2_with (fail)
  go_ret
  rw [E1.out]
  exact ⟨rfl, HQ.out, KL.refl _ _ _⟩
def q0 : QS := ⟨0, 0, 0, 0, 0, [], 0, 0, 0⟩
theorem good0 : GQ q0 0 := ⟨.inl ⟨rfl, by decide, by decide⟩, fun e => by simp [q0] at e, .inl rfl, by simp [q0]⟩
end Go.Proofs.YtlhpflicchchlaaDoor.LxQ
