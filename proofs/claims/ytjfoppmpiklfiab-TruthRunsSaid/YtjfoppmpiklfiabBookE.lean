/- The book of things: a thing's cells, read and written. Conditions: none. -/
import Derived.Test.YtjfoppmpiklfiabBookD
namespace Go.Proofs.Ytjfoppmpiklfiab.BookW
open Go.RowKit Go.Proofs.YtjfoppmpiklfiabW.PrintWords Go.Proofs.YtjfoppmpiklfiabW.PrintLast Go.Proofs.YtjfoppmpiklfiabW.PrintMore Go.Proofs.Ytjfoppmpiklfiab.PTruthRuns Go.Proofs.Ytjfoppmpiklfiab.Truth
set_option linter.unusedVariables false
set_option linter.unusedSimpArgs false
/-- A thing, its cells, and the book with it lent. -/
structure El (w0 W : World) (g : Nat) (P : Nat → Prop) (L : List T) (gr c : Nat) (i : Nat) (v : Value) (oki : Nat → Prop) : Prop where
  hi : i < L.length
  hg : W.heap[g]? = some (.cells #[.slice (some ⟨gr, 0, none⟩) L.length c] 68 (0, 0))
  hb : w0.heap.size ≤ g
  hR : (Kd.int .i64).R 3 W w0.heap.size oki v (nats (gT L i).ups)
  c0 : W.cell? ⟨gr, i * 5, none⟩ = some (.int .i64 (gT L i).made)
  c1 : W.cell? ⟨gr, i * 5 + 1, none⟩ = some (.int .i64 (gT L i).val)
  c2 : W.cell? ⟨gr, i * 5 + 2, none⟩ = some (.int .i64 (gT L i).x)
  c3 : W.cell? ⟨gr, i * 5 + 3, none⟩ = some (.int .i64 (gT L i).y)
  c4 : W.cell? ⟨gr, i * 5 + 4, none⟩ = some v
  fr : ∀ j, W.frozen? ⟨gr, i * 5 + j, none⟩ = false
  ok : ∀ k, oki k → (k ≠ g ∧ P k) ∧ k ≠ gr
  ne : gr ≠ g
  Pg : P gr
  bg : w0.heap.size ≤ gr
  H : Kd.H k65 65 W w0.heap.size (fun k => k ≠ g ∧ P k) (.slice (some ⟨gr, 0, none⟩) L.length c) (L.map enc) (i : Int) oki [.int .i64 (gT L i).made, .int .i64 (gT L i).val, .int .i64 (gT L i).x, .int .i64 (gT L i).y, v]
theorem IsB.grid {w0 W : World} {g : Nat} {P : Nat → Prop} {L : List T} (h : IsB w0 W g P L) (hL : 0 < L.length) : ∃ gr c, W.heap[g]? = some (.cells #[.slice (some ⟨gr, 0, none⟩) L.length c] 68 (0, 0)) ∧ ∀ i, i < L.length → ∃ v oki, El w0 W g P L gr c i v oki := by
  obtain ⟨gr, c, v, oki, hg, _⟩ := h.elem 0 hL
  refine ⟨gr, c, hg, fun i hi => ?_⟩
  obtain ⟨gr', c', v', oki', a1, a2, a3, a4, a5, a6, a7, a8, a9, a10, a11, a12, a13, a14⟩ := h.elem i hi
  rw [hg] at a1
  injection a1 with a1
  injection a1 with a1 _ _
  have a1' := congrArg (fun x : Array Value => x[0]?) a1
  simp at a1'
  obtain ⟨rfl, rfl⟩ := a1'
  exact ⟨v', oki', hi, hg, a2, a3, a4, a5, a6, a7, a8, a9, a10, a11, a12, a13, a14⟩
section
variable {w0 W : World} {g gr c i : Nat} {P oki : Nat → Prop} {L : List T} {v : Value}
theorem El.put1 (h : El w0 W g P L gr c i v oki) (u : Nat) : IsB w0 (W.setCell ⟨gr, i * 5 + 1, none⟩ (.int .i64 (u : Int))) g P (L.set i ((gT L i).setVal u)) ∧ W.grownBy (W.setCell ⟨gr, i * 5 + 1, none⟩ (.int .i64 (u : Int))) (some gr) := by
  have hs := Kd.S_seg0 h.H (by omega) (by have := h.hi; omega) (seg := [.int .i64 (u : Int)]) (j := 1) (show 1 + 1 ≤ 5 by decide) (x' := enc ((gT L i).setVal u)) (okp := oki)
    (k65_mkM W w0.heap.size _ (enc ((gT L i).setVal u)) h.hR) (fun _ h => h)
  obtain ⟨hS, hg2⟩ := hs
  rw [Int.toNat_natCast] at hS hg2
  have e1 : W.setCells gr (i * (k65).sz + 1) [.int .i64 (u : Int)] = W.setCell ⟨gr, i * 5 + 1, none⟩ (.int .i64 (u : Int)) := setCells_one _ _ _ _
  rw [e1] at hS hg2
  refine ⟨⟨.slice (some ⟨gr, 0, none⟩) L.length c, ?_, h.hb, by rw [List.map_set]; exact hS⟩, hg2⟩
  exact blk_far h.hg (p := ⟨gr, i * 5 + 1, none⟩) (fun he => h.ne he.symm) _
theorem El.put0 (h : El w0 W g P L gr c i v oki) (u : Nat) : IsB w0 (W.setCell ⟨gr, i * 5, none⟩ (.int .i64 (u : Int))) g P (L.set i ⟨u, (gT L i).val, (gT L i).x, (gT L i).y, (gT L i).ups⟩) ∧ W.grownBy (W.setCell ⟨gr, i * 5, none⟩ (.int .i64 (u : Int))) (some gr) := by
  have hs := Kd.S_seg0 h.H (by omega) (by have := h.hi; omega) (seg := [.int .i64 (u : Int)]) (j := 0) (show 0 + 1 ≤ 5 by decide) (x' := enc ⟨u, (gT L i).val, (gT L i).x, (gT L i).y, (gT L i).ups⟩) (okp := oki)
    (k65_mkM W w0.heap.size _ (enc ⟨u, (gT L i).val, (gT L i).x, (gT L i).y, (gT L i).ups⟩) h.hR) (fun _ h => h)
  obtain ⟨hS, hg2⟩ := hs
  rw [Int.toNat_natCast] at hS hg2
  have e1 : W.setCells gr (i * (k65).sz + 0) [.int .i64 (u : Int)] = W.setCell ⟨gr, i * 5, none⟩ (.int .i64 (u : Int)) := setCells_one _ _ _ _
  rw [e1] at hS hg2
  refine ⟨⟨.slice (some ⟨gr, 0, none⟩) L.length c, ?_, h.hb, by rw [List.map_set]; exact hS⟩, hg2⟩
  exact blk_far h.hg (p := ⟨gr, i * 5, none⟩) (fun he => h.ne he.symm) _
/-- What was made of it is handed out. -/
theorem El.put4 (h : El w0 W g P L gr c i v oki) : IsB w0 (W.setCell ⟨gr, i * 5 + 4, none⟩ (.slice none 0 0)) g (fun k => P k ∧ ¬ oki k) (clear L i) ∧ W.grownBy (W.setCell ⟨gr, i * 5 + 4, none⟩ (.slice none 0 0)) (some gr) := by
  have hH : Kd.H k65 65 W w0.heap.size (fun k => k ≠ g ∧ P k ∧ ¬ oki k) (.slice (some ⟨gr, 0, none⟩) L.length c) (L.map enc) (i : Int) (fun _ => False) [.int .i64 (gT L i).made, .int .i64 (gT L i).val, .int .i64 (gT L i).x, .int .i64 (gT L i).y, v] := by
    obtain ⟨_, f, hr⟩ := h.H
    exact ⟨fun _ hk => hk.elim, f, Kd.R_mono hr (fun k hk => ⟨⟨hk.1.1, hk.1.2, hk.2⟩, fun hf => hf⟩)⟩
  have hs := Kd.S_seg0 hH (by omega) (by have := h.hi; omega) (seg := [.slice none 0 0]) (j := 4) (show 4 + 1 ≤ 5 by decide) (x' := enc ((gT L i).setUps [])) (okp := fun _ => False)
    (k65_mkM W w0.heap.size _ (enc ((gT L i).setUps [])) (Kd.R_nil _ _ _ _ _)) (fun _ h => h)
  obtain ⟨hS, hg2⟩ := hs
  rw [Int.toNat_natCast] at hS hg2
  have e1 : W.setCells gr (i * (k65).sz + 4) [.slice none 0 0] = W.setCell ⟨gr, i * 5 + 4, none⟩ (.slice none 0 0) := setCells_one _ _ _ _
  rw [e1] at hS hg2
  refine ⟨⟨.slice (some ⟨gr, 0, none⟩) L.length c, ?_, h.hb, ?_⟩, hg2⟩
  · exact blk_far h.hg (p := ⟨gr, i * 5 + 4, none⟩) (fun he => h.ne he.symm) _
  · unfold clear
    rw [List.map_set]
    exact hS
theorem El.lt (h : El w0 W g P L gr c i v oki) : gr < W.heap.size := World.block_lt_of_cell? _ _ h.c0
/-- The ups, as a row that is read. -/
theorem El.F (h : El w0 W g P L gr c i v oki) : ∃ A cc, v = .slice A (gT L i).ups.length cc ∧ Kd.F (Kd.int .i64) W oki A (gT L i).ups.length (nats (gT L i).ups) := by
  obtain ⟨A, cc, e⟩ := Kd.R_slice h.hR
  have hl : (nats (gT L i).ups).length = (gT L i).ups.length := by simp [nats]
  have h2 := h.hR
  rw [e, hl] at h2
  rw [hl] at e
  exact ⟨A, cc, e, Kd.R_F h2⟩
end
/-- Behind a store into the things' row, or another one of the book's. -/
theorem keep_row {g gr : Nat} {P : Nat → Prop} {W W1 : World} (hg : W.grownBy W1 (some gr)) (hP : P gr) : KeepB g P W W1 :=
  ⟨hg.size, fun k hk _ hkP => hg.block k hk (fun he => hkP (by injection he with he; rw [he]; exact hP))⟩
theorem below_row {w0 W W1 : World} {gr : Nat} (hB : Below w0.heap.size w0 W) (hg : W.grownBy W1 (some gr)) (hb : w0.heap.size ≤ gr) : Below w0.heap.size w0 W1 :=
  hB.grown hg hB.size (fun g he => by injection he with he; omega)
theorem IsB.at_ {w0 W : World} {g gr c n : Nat} {P : Nat → Prop} {L : List T} (h : IsB w0 W g P L) (hg : W.heap[g]? = some (.cells #[.slice (some ⟨gr, 0, none⟩) n c] 68 (0, 0))) (i : Nat) (hi : i < L.length) : ∃ v oki, El w0 W g P L gr c i v oki := by
  obtain ⟨gr', c', h1, h2⟩ := h.grid (by omega)
  rw [hg] at h1
  injection h1 with h1
  injection h1 with h1 _ _
  have h1' := congrArg (fun x : Array Value => x[0]?) h1
  simp at h1'
  obtain ⟨rfl, _, rfl⟩ := h1'
  exact h2 i hi
/-- While something is set: the book, the row of what is to be looked at (v), and apart from both the row that is gone through (u). -/
structure SetSt (w0 W : World) (g : Nat) (P : Nat → Prop) (u v : Value) (L : List T) (todo : List Nat) : Prop where
  book : IsB w0 W g (fun k => P k ∧ some k ≠ v.ownBlock ∧ some k ≠ u.ownBlock) L
  row : (Kd.int .i64).Q 3 W w0.heap.size (fun k => k ≠ g ∧ P k ∧ some k ≠ u.ownBlock) v (nats todo)
  below : Below w0.heap.size w0 W
  old : ∀ k, u.ownBlock = some k → k < W.heap.size
theorem Eint {k : IntKind} : (Kd.int k).E = [] := rfl
section
variable {w0 W W1 : World} {g gr c i : Nat} {P oki : Nat → Prop} {L L1 : List T} {u v v0 : Value} {todo : List Nat}
theorem SetSt.drew (h : SetSt w0 W g P u v L todo) : SetSt w0 W.drew g P u v L todo := ⟨h.book.drew, Kd.Q_drew h.row, below_drew h.below, h.old⟩
/-- A store into the things' row. -/
theorem SetSt.put (h : SetSt w0 W g P u v L todo) (he : El w0 W g (fun k => P k ∧ some k ≠ v.ownBlock ∧ some k ≠ u.ownBlock) L gr c i v0 oki) (hb : IsB w0 W1 g (fun k => P k ∧ some k ≠ v.ownBlock ∧ some k ≠ u.ownBlock) L1) (hg : W.grownBy W1 (some gr)) : SetSt w0 W1 g P u v L1 todo ∧ KeepB g P W W1 :=
  ⟨⟨hb, Kd.Q_grown1 h.row Eint hg he.Pg.2.1, below_row h.below hg he.bg, fun k hk => Nat.lt_of_lt_of_le (h.old k hk) hg.size⟩, keep_row hg he.Pg.1⟩
/-- The first one is taken, and what was made of it handed out. -/
theorem SetSt.take {v' : Value} {t : Nat} {ts : List Nat} (h : SetSt w0 W g P (.slice none 0 0) v L (t :: ts)) (he : El w0 W g (fun k => P k ∧ some k ≠ v.ownBlock ∧ some k ≠ (Value.slice none 0 0).ownBlock) L gr c t v0 oki) (hv : v'.ownBlock = v.ownBlock)
    (hr : (Kd.int .i64).Q 3 W w0.heap.size (fun k => k ≠ g ∧ P k ∧ some k ≠ (Value.slice none 0 0).ownBlock) v' (nats ts)) :
    SetSt w0 (W.setCell ⟨gr, t * 5 + 4, none⟩ (.slice none 0 0)) g P v0 v' (clear L t) ts ∧ KeepB g P W (W.setCell ⟨gr, t * 5 + 4, none⟩ (.slice none 0 0)) ∧
      ∃ A cc, v0 = .slice A (gT L t).ups.length cc ∧ Kd.F (Kd.int .i64) (W.setCell ⟨gr, t * 5 + 4, none⟩ (.slice none 0 0)) (fun k => some k = v0.ownBlock) A (gT L t).ups.length (nats (gT L t).ups) := by
  obtain ⟨a, b⟩ := he.put4
  have hok := he.ok
  have hvo : ∀ k, some k = v0.ownBlock → oki k := fun k hk => he.hR.1 k hk.symm
  have hne : ∀ k, some k = v0.ownBlock → some k ≠ v.ownBlock := fun k hk => (hok k (hvo k hk)).1.2.2.1
  refine ⟨⟨a.mono (fun k hk => ⟨hk.1.1, by rw [hv]; exact hk.1.2.1, fun h2 => hk.2 (hvo k h2)⟩), ?_, below_row h.below b he.bg, fun k hk => Nat.lt_of_lt_of_le (Kd.R_lt he.hR k hk) b.size⟩, keep_row b he.Pg.1, ?_⟩
  · have h1 := Kd.Q_grown1 hr Eint b (by rw [hv]; exact he.Pg.2.1)
    exact Kd.Q_mono (Kd.Q_tight Eint h1) (fun k hk => by
      have h2 := Kd.Q_ok h1 k hk.symm
      exact ⟨h2.1, h2.2.1, fun h3 => hne k h3 (by rw [← hv]; exact hk)⟩)
  · obtain ⟨A, cc, e⟩ := Kd.R_slice he.hR
    have hl : (nats (gT L t).ups).length = (gT L t).ups.length := by simp [nats]
    have h2 := Kd.R_tight Eint he.hR
    rw [e, hl] at h2
    have h3 := Kd.R_F h2
    rw [hl] at e
    refine ⟨A, cc, e, Kd.F_step (Kd.F_mono h3 (fun k hk => by rw [e]; exact hk)) (fun k hk hlt => b.block k hlt (fun he2 => ?_))⟩
    exact (hok k (hvo k hk)).2 (by injection he2)
/-- One more to be looked at. -/
theorem SetSt.push {v1 : Value} {x : Nat} (h : SetSt w0 W g P u v L todo) (hq : (Kd.int .i64).Q 3 W1 w0.heap.size (fun k => k ≠ g ∧ P k ∧ some k ≠ u.ownBlock) v1 (nats todo ++ [(x : Int)])) (hB : Below w0.heap.size w0 W1) (hg : W.grownBy W1 v.ownBlock)
    (hat : v1.ownBlock = v.ownBlock ∨ ∃ b, v1.ownBlock = some b ∧ W.heap.size ≤ b) : SetSt w0 W1 g P u v1 L (todo ++ [x]) ∧ KeepB g P W W1 := by
  have hgr : some g ≠ v.ownBlock := fun he => (Kd.Q_ok h.row g he.symm).1 rfl
  have hb := h.book.bound
  refine ⟨⟨?_, by rw [show nats (todo ++ [x]) = nats todo ++ [(x : Int)] by simp [nats]]; exact hq, hB, fun k hk => Nat.lt_of_lt_of_le (h.old k hk) hg.size⟩, hg.size, fun k hk hkg hkP => hg.block k hk (fun he => hkP (Kd.Q_ok h.row k he.symm).2.1)⟩
  refine (hb.step (hg.block g h.book.lt hgr) (fun k hk hlt => hg.block k hlt hk.1.2.1)).mono (fun k hk => ⟨hk.1.1, ?_, hk.1.2.2⟩)
  rcases hat with hat | ⟨b, hb1, hb2⟩
  · rw [hat]; exact hk.1.2.1
  · rw [hb1]
    intro he
    injection he with he
    have := hk.2
    omega
/-- The row that was gone through is forgotten. -/
theorem SetSt.forget (h : SetSt w0 W g P u v L todo) : SetSt w0 W g P (.slice none 0 0) v L todo :=
  ⟨h.book.mono (fun k hk => ⟨hk.1, hk.2.1, by simp [Value.ownBlock]⟩), Kd.Q_mono h.row (fun k hk => ⟨hk.1, hk.2.1, by simp [Value.ownBlock]⟩), h.below, fun k hk => by simp [Value.ownBlock] at hk⟩
theorem own_cut (A : Option Addr) (n c n' c' : Nat) (b : Bool) : (Value.slice (if b = true then A else A.map (·.add 1)) n' c').ownBlock = (Value.slice A n c).ownBlock := by
  cases A with
  | none => simp [Value.ownBlock]
  | some a =>
    split
    · rfl
    · show some (a.add 1).block = some a.block
      rw [show (a.add 1).block = a.block by unfold Addr.add; split <;> rfl]
/-- The first one of the row, its cell, and the rest. -/
theorem SetSt.head {t : Nat} {ts : List Nat} (h : SetSt w0 W g P u v L (t :: ts)) : ∃ gq o n cc v', v = .slice (some ⟨gq, o, none⟩) n cc ∧ n = ts.length + 1 ∧ W.cell? ⟨gq, o, none⟩ = some (.int .i64 (t : Int)) ∧
    (∀ W1 : World, (Instr.sliceAt 42 v (some (.int .i64 1)) none none).run Try.prog W1 = .ok v' W1) ∧ v'.ownBlock = v.ownBlock ∧ (Kd.int .i64).Q 3 W w0.heap.size (fun k => k ≠ g ∧ P k ∧ some k ≠ u.ownBlock) v' (nats ts) := by
  have hl : (nats (t :: ts)).length = ts.length + 1 := by simp [nats]
  obtain ⟨gq, o, cc, e, hb, hlt, -⟩ := Kd.Q_form h.row (by rw [hl]; omega)
  have hr := h.row
  rw [hl] at e
  rw [e] at hr
  have hc := (Kd.Q_cell (0 : Int) hr (0 : Int) (Int.le_refl _) (by omega)).1
  have hd := Kd.Q_drop hr (k := 1) (by rw [hl]; omega)
  have hcap : ts.length + 1 ≤ cc := (Kd.Q_reads' hr).2.1
  refine ⟨gq, o, ts.length + 1, cc, .slice (if cc = 1 then some ⟨gq, o, none⟩ else (some (⟨gq, o, none⟩ : Addr)).map (·.add (1 * 1))) (ts.length + 1 - 1) (cc - 1), e, rfl, ?_, fun W1 => ?_, ?_, ?_⟩
  · have : rdOf (0 : Int) (nats (t :: ts)) 0 = (t : Int) := rfl
    rw [this] at hc
    simpa using hc
  · obtain ⟨i3, hi3⟩ : ∃ i, (Try.prog.info? 3) = some i ∧ i.size = 1 := by
      have h := info3
      cases h8 : Try.prog.info? 3 with
      | none => rw [h8] at h; cases h
      | some j => rw [h8] at h; simp at h; exact ⟨j, rfl, h.2.1⟩
    rw [e]
    have h1 : 1 ≤ ts.length + 1 := by omega
    simp [Instr.sliceAt, Instr.slice, Instr.sliceBounds, Instr.sliceBound, asIntOf, run_underlying Try.underlying42, go_sem, sizeOf, typeInfo, hi3.1, hi3.2, h1, pure, Sem.pure]
    split <;> (try simp_all) <;> (try (intro h9; omega))
  · rw [e]
    have := own_cut (some ⟨gq, o, none⟩) (ts.length + 1) cc (ts.length + 1 - 1) (cc - 1) (decide (cc = 1))
    simpa using this
  · have e2 : (nats (t :: ts)).drop 1 = nats ts := rfl
    rw [e2] at hd
    exact hd
end
end Go.Proofs.Ytjfoppmpiklfiab.BookW
