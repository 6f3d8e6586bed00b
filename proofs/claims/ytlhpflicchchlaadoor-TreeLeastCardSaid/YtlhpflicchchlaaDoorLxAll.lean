/- lex.All, walked. Conditions: at most 2000 bytes. -/
import Derived.Test.YtlhpflicchchlaaDoorLxSt
import Derived.ScopeJumps
import Derived.WalkMore
namespace Go.Proofs.YtlhpflicchchlaaDoor.LxA
open Go.RowKit Go.Proofs.YtlhpflicchchlaaDoorW.PrintWords Go.Proofs.YtlhpflicchchlaaDoorW.PrintLast Go.Proofs.YtlhpflicchchlaaDoorW.PrintMore
attribute [local go_sem] max2_int min2_int max_two min_two max_three min_three max_four min_four
open Go.Proofs.YtlhpflicchchlaaDoor.LexPure Go.Proofs.YtlhpflicchchlaaDoor.LxQ Go.Proofs.YtlhpflicchchlaaDoor.LxN
set_option linter.unusedVariables false
set_option linter.unusedSimpArgs false
def intOf : Value → Int | .int _ q => q | _ => 0
theorem scope_from {P : Program} {a : Act} {w : World} {Q : Exit → Act → World → Prop} {c rest : Code} (l : Nat) (J : Act → World → Prop) (μ : Act → World → Nat) (hf : findLabel c l = some (Code.skip.seq rest))
    (pass : ∀ a w, J a w → rest.wp P (Exit.jump l (fun a' w' => J a' w' ∧ μ a' w' < μ a w) Q) a w) (first : (∀ a w, J a w → rest.wp P (Exit.jump l J Q) a w) → c.wp P (Exit.jump l J Q) a w) : (Code.scope c).wp P Q a w :=
  wp_scope_jumps l J μ hf (first fun a w h => Code.wp_mono (fun e a' w' h' => by cases e <;> first | exact h' | exact ⟨h'.1, h'.2.1⟩) (pass a w h)) fun a w h => wp_seq (wp_skip (pass a w h))
/-- What holds ahead of each byte. -/
structure Run (W w' : World) (g bl : Nat) (zs : List Int) (i : Nat) (st : St SS) (p : LP) (tx vo : Value) (toks : List Tk) : Prop where
  at_ : st.at_ = i
  le : i ≤ zs.length
  lx : Lx w' bl st p tx i
  gb : g < bl
  g0 : W.heap.size ≤ g
  ver : w'.heap[g]? = some (.cells #[.int .i64 0, .int .i64 0] 35 (0, 0))
  verF : Free w' bl st p g
  row : w'.ownsRow (bl + 1) 39 5 vo toks.length (toks.flatMap tkCells)
  rowF : ∀ k, vo.ownBlock = some k → Free w' bl st p k
  len : toks.length ≤ 2 * i
  bel : Below W.heap.size W w'
  got : toks ++ (allV sub (zs.drop i) st).1 = (allV sub zs s0).1
  ver2 : (allV sub (zs.drop i) st).2 = (allV sub zs s0).2
theorem allV_on {z : Int} {r : List Int} {s : St SS} (h : (lookV sub s z).2.2 = 0) : allV sub (z :: r) s = ((lookV sub s z).2.1 ++ (allV sub r { (lookV sub s z).1 with at_ := s.at_ + 1 }).1, (allV sub r { (lookV sub s z).1 with at_ := s.at_ + 1 }).2) := by
  show (if (lookV sub s z).2.2 ≠ 0 then _ else _) = _
  rw [if_neg (by simp [h])]
theorem allV_off {z : Int} {r : List Int} {s : St SS} (h : (lookV sub s z).2.2 ≠ 0) : allV sub (z :: r) s = ((lookV sub s z).2.1, (lookV sub s z).2.2, s.at_) := by
  show (if (lookV sub s z).2.2 ≠ 0 then _ else _) = _
  rw [if_pos h]
theorem drop_at {zs : List Int} {i : Nat} {z : Int} (h : zs[i]? = some z) : zs.drop i = z :: zs.drop (i + 1) := by
  obtain ⟨hl, rfl⟩ := List.getElem?_eq_some_iff.1 h
  exact List.drop_eq_getElem_cons hl
/-- The next byte's state: behind a step that goes on, and an append. -/
theorem Run.next {W w w3 w4 : World} {g bl : Nat} {zs : List Int} {i : Nat} {st : St SS} {p : LP} {tx vo v v' : Value} {toks : List Tk} {z : Int} (R : Run W w g bl zs i st p tx vo toks) (hz : zs[i]? = some z) (h0 : (lookV sub st z).2.2 = 0)
    (HP : Post w bl st p { (lookV sub st z).1 with at_ := st.at_ + 1 } (i + 1) (lookV sub st z).2.1 v w3) (hrow : w4.ownsRow (bl + 1) 39 5 v' (toks ++ (lookV sub st z).2.1).length ((toks ++ (lookV sub st z).2.1).flatMap tkCells)) (hg : w3.grownBy w4 vo.ownBlock)
    (hat : v'.ownBlock = vo.ownBlock ∨ v'.ownBlock = some w3.heap.size) (hnil : (lookV sub st z).2.1 = [] → v' = vo) : ∃ p'' tx'', Run W w4 g bl zs (i + 1) { (lookV sub st z).1 with at_ := st.at_ + 1 } p'' tx'' v' (toks ++ (lookV sub st z).2.1) := by
  have hd := drop_at hz
  have hgot := R.got
  have hver := R.ver2
  rw [hd] at hgot hver
  rw [allV_on h0] at hgot hver
  have hlen := lookV_len st z
  generalize lookV sub st z = y at *
  obtain ⟨s', more, r⟩ := y
  dsimp only at *
  have hat4 : ({ s' with at_ := st.at_ + 1 } : St SS).at_ = i + 1 := by show st.at_ + 1 = i + 1; rw [R.at_]
  generalize ({ s' with at_ := st.at_ + 1 } : St SS) = st' at *
  obtain ⟨p', tx', h1, h2, h3, h4, h5, h6⟩ := HP
  have hib : i < zs.length := (List.getElem?_eq_some_iff.1 hz).1
  have hvf : ∀ k, vo.ownBlock = some k → w3.heap[k]? = w.heap[k]? ∧ Free w3 bl st' p' k := fun k hk => h3 k (R.rowF k hk)
  have hgf := h3 g R.verF
  have hblk : vo.ownBlock ≠ some bl := fun e => (hvf bl e).2.2.1 rfl
  have hgk : vo.ownBlock ≠ some g := fun e => by have := (own_lt R.row g e).1; have := R.gb; omega
  have hver4 : w4.heap[g]? = some (.cells #[.int .i64 0, .int .i64 0] 35 (0, 0)) := (hg.block g hgf.2.1 (fun e => hgk e.symm)).trans (hgf.1.trans R.ver)
  have hbel : Below W.heap.size W w4 := (R.bel.trans (h2.mono (by have := R.g0; have := R.gb; omega))).grown hg (Nat.le_trans R.bel.size h2.size) (fun k hk => by have := (own_lt R.row k hk).1; have := R.g0; have := R.gb; omega)
  have hres : (toks ++ more).length ≤ 2 * (i + 1) := by have := R.len; simp only [List.length_append]; omega
  have hgot4 : toks ++ more ++ (allV sub (zs.drop (i + 1)) st').1 = (allV sub zs s0).1 := by rw [List.append_assoc]; exact hgot
  by_cases hm : more = []
  · obtain rfl := hnil hm
    refine ⟨p', tx', hat4, hib, h1.move hg hblk (fun k hk e => (hvf k e).2.2.2.1 hk) (fun h8 k hk e => ?_), R.gb, R.g0, hver4, ⟨Nat.lt_of_lt_of_le hgf.2.1 hg.size, hgf.2.2⟩, hrow, fun k hk => ⟨Nat.lt_of_lt_of_le (hvf k hk).2.1 hg.size, (hvf k hk).2.2⟩, hres, hbel, hgot4, hver⟩
    have a1 := (own_lt (h1.str h8).1 k hk).1
    have a2 := (hvf k e).2.2.2.2 h8
    omega
  · have hmv : Lx w4 bl st' p' tx' (i + 1) := h1.move hg hblk (fun k hk e => (hvf k e).2.2.2.1 hk) (fun h8 k hk e => by rw [h5 hm h8] at hk; simp [Value.ownBlock] at hk)
    refine ⟨{ p' with B := w4.heap.size }, tx', hat4, hib, hmv.raise (fun h8 => ⟨h5 hm h8, nil_text (n := 0) (h1.str h8).1 (h5 hm h8)⟩), R.gb, R.g0, hver4, ⟨Nat.lt_of_lt_of_le hgf.2.1 hg.size, hgf.2.2.1, hgf.2.2.2.1, fun _ => Nat.lt_of_lt_of_le hgf.2.1 hg.size⟩, hrow, fun k hk => ?_, hres, hbel, hgot4, hver⟩
    have hk4 := (own_lt hrow k hk).2
    rcases hat with e | e
    · have := hvf k (e ▸ hk)
      exact ⟨hk4, this.2.2.1, this.2.2.2.1, fun _ => hk4⟩
    · have e2 : w3.heap.size = k := Option.some.inj (e.symm.trans hk)
      refine ⟨hk4, fun e3 => ?_, fun e3 => ?_, fun _ => hk4⟩
      · have := h1.blk.lt; omega
      · have := (own_lt h1.text k e3).2; omega
end Go.Proofs.YtlhpflicchchlaaDoor.LxA
