/- What a Lexer's block says of the plain machine, and what a step leaves. Conditions: none. -/
import Derived.Test.YtlhpflicchchlaaDoorLxSub
import Derived.Test.YtlhpflicchchlaaDoorLxL
import Derived.Laws.AppendOwnNone
namespace Go.Proofs.YtlhpflicchchlaaDoor.LxA
open Go.RowKit Go.Proofs.YtlhpflicchchlaaDoorW.PrintWords Go.Proofs.YtlhpflicchchlaaDoorW.PrintLast Go.Proofs.YtlhpflicchchlaaDoorW.PrintMore
open Go.Proofs.YtlhpflicchchlaaDoor.LexPure Go.Proofs.YtlhpflicchchlaaDoor.LxQ Go.Proofs.YtlhpflicchchlaaDoor.LxN
set_option linter.unusedVariables false
set_option linter.unusedSimpArgs false
/-- A Lexer at block b: the plain machine's state; n bounds what was kept. -/
structure Lx (W : World) (b : Nat) (s : St SS) (p : LP) (tx : Value) (n : Nat) : Prop where
  blk : IsB W b p s.sub.q.a s.sub.q.l s.sub.q.lo s.sub.q.hi s.sub.q.sg tx s.sub.q.le s.sub.q.un s.sub.q.fi
  at_ : p.at_ = (s.at_ : Int)
  frm : p.frm = (s.frm : Int)
  within : p.within = s.within
  ended : p.ended = false
  num : p.num = s.sub.num
  which : p.which = (s.sub.wa : Int)
  wat : p.wat = (s.sub.wi : Int)
  text : W.ownsRow (b + 1) 5 1 p.text s.sub.text.length (Lib.byteCells s.sub.text)
  num0 : 0 ≤ s.sub.num
  num8 : s.sub.num ≤ 8
  wa : s.sub.wa < 3
  wi : s.sub.wi ≤ (word s.sub.wa).size
  kinds : s.within = 0 ∨ s.within = 8 ∨ s.within = 9 ∨ s.within = 10
  good : GQ s.sub.q n
  len : s.sub.text.length ≤ n
  str : s.within = 8 → W.ownsRow (max p.B (b + 1)) 5 1 tx s.sub.q.text.length (Lib.byteCells s.sub.q.text) ∧ ∀ k, p.text.ownBlock = some k → k < p.B
/-- A block that no step touches. -/
def Free (W : World) (b : Nat) (s : St SS) (p : LP) (k : Nat) : Prop := k < W.heap.size ∧ k ≠ b ∧ p.text.ownBlock ≠ some k ∧ (s.within = 8 → k < p.B)
def tkCells (t : Tk) : List Value := [.int .i64 t.kind, .bool t.begun, .int .i64 (t.frm : Int), .int .i64 (t.to : Int), .string t.text]
/-- What a step leaves. -/
def Post (W : World) (b : Nat) (s : St SS) (p : LP) (s' : St SS) (n : Nat) (toks : List Tk) (v : Value) (w' : World) : Prop :=
  ∃ p' tx', Lx w' b s' p' tx' n ∧ Below b W w' ∧ (∀ k, Free W b s p k → w'.heap[k]? = W.heap[k]? ∧ Free w' b s' p' k) ∧ w'.ownsRow W.heap.size 39 5 v toks.length (toks.flatMap tkCells) ∧ (toks ≠ [] → s'.within = 8 → tx' = .slice none 0 0) ∧ (toks = [] → v = .slice none 0 0)
theorem own_keepB {W W' : World} {B b n sz : Nat} {e : TypeId} {v : Value} {xs : List Value} (h : W.ownsRow B e sz v n xs) (hB : b < B) (hk : KeepB b W W') : W'.ownsRow B e sz v n xs := by
  refine ⟨h.1, ?_⟩
  rcases h.2 with hn | ⟨g, cap, cur, hv, hbg, hg, rest⟩
  · exact .inl hn
  · exact .inr ⟨g, cap, cur, hv, hbg, (hk.block g (Array.getElem?_eq_some_iff.1 hg).1 (by omega)).trans hg, rest⟩
theorem own_more {W W' : World} {B n sz : Nat} {e : TypeId} {v : Value} {xs : List Value} (h : W.ownsRow B e sz v n xs) (hk : ∀ k, v.ownBlock = some k → W'.heap[k]? = W.heap[k]?) : W'.ownsRow B e sz v n xs := by
  refine ⟨h.1, ?_⟩
  rcases h.2 with hn | ⟨g, cap, cur, hv, hbg, hg, rest⟩
  · exact .inl hn
  · exact .inr ⟨g, cap, cur, hv, hbg, (hk g (by rw [hv]; rfl)).trans hg, rest⟩
theorem own_base {W : World} {B B' n sz : Nat} {e : TypeId} {v : Value} {xs : List Value} (h : W.ownsRow B e sz v n xs) (hB : ∀ k, v.ownBlock = some k → B' ≤ k) : W.ownsRow B' e sz v n xs := by
  refine ⟨h.1, ?_⟩
  rcases h.2 with hn | ⟨g, cap, cur, hv, hbg, hg, rest⟩
  · exact .inl hn
  · exact .inr ⟨g, cap, cur, hv, hB g (by rw [hv]; rfl), hg, rest⟩
theorem own_lt {W : World} {B n sz : Nat} {e : TypeId} {v : Value} {xs : List Value} (h : W.ownsRow B e sz v n xs) (k : Nat) (hk : v.ownBlock = some k) : B ≤ k ∧ k < W.heap.size := h.lt k hk
theorem GQ.mono {q : QS} {k n : Nat} (h : GQ q k) (hn : k ≤ n) : GQ q n := ⟨h.l, h.d, h.fi, Nat.le_trans h.len (by omega)⟩
theorem Lx.keep {W W' : World} {b : Nat} {s : St SS} {p : LP} {tx : Value} {n m : Nat} (h : Lx W b s p tx n) (hb : W'.heap[b]? = W.heap[b]?) (hk : KeepB b W W') (hm : n ≤ m) : Lx W' b s p tx m :=
  ⟨h.blk.keep hb hk.size, h.at_, h.frm, h.within, h.ended, h.num, h.which, h.wat, own_keepB h.text (Nat.lt_succ_self b) hk, h.num0, h.num8, h.wa, h.wi, h.kinds, GQ.mono h.good hm, Nat.le_trans h.len hm,
    fun h8 => ⟨own_keepB (h.str h8).1 (by omega) hk, (h.str h8).2⟩⟩
theorem Post.same {W W' : World} {b : Nat} {s : St SS} {p : LP} {tx : Value} {n m : Nat} (h : Lx W b s p tx n) (hb : W'.heap[b]? = W.heap[b]?) (hk : KeepB b W W') (hm : n ≤ m) : Post W b s p s m [] (.slice none 0 0) W' :=
  ⟨p, tx, h.keep hb hk hm, hk.below, fun k hf => ⟨hk.block k hf.1 hf.2.1, Nat.lt_of_lt_of_le hf.1 hk.size, hf.2⟩, World.ownsRow_nil W' _ _ _, fun h => absurd rfl h, fun _ => rfl⟩
theorem row1 (w : World) (B : Nat) (t : Tk) (hB : B ≤ w.heap.size) (v : Value) (o : Obj) (ho : o = .cells (tkCells t).toArray 39) (hv : v = .slice (some ⟨w.heap.size, 0, none⟩) 1 1) : (w.alloc o).ownsRow B 39 5 v [t].length ([t].flatMap tkCells) := by
  subst ho hv
  exact ⟨rfl, .inr ⟨w.heap.size, 1, _, rfl, hB, heap_alloc_new w _, Nat.le_refl _, by unfold maxLen; omega, rfl, rfl⟩⟩
/-- What lies elsewhere stands, but for one block more. -/
structure KeepT (b : Nat) (vb : Option Nat) (W W' : World) : Prop where
  below : Below b W W'
  size : W.heap.size ≤ W'.heap.size
  block : ∀ k, k < W.heap.size → k ≠ b → vb ≠ some k → W'.heap[k]? = W.heap[k]?
theorem KeepB.t {b : Nat} {vb : Option Nat} {W W' : World} (h : KeepB b W W') : KeepT b vb W W' := ⟨h.below, h.size, fun k h1 h2 _ => h.block k h1 h2⟩
theorem KeepT.trans {b : Nat} {vb : Option Nat} {W W1 W2 : World} (h : KeepT b vb W W1) (k : KeepT b vb W1 W2) : KeepT b vb W W2 :=
  ⟨h.below.trans k.below, Nat.le_trans h.size k.size, fun i h1 h2 h3 => (k.block i (Nat.lt_of_lt_of_le h1 h.size) h2 h3).trans (h.block i h1 h2 h3)⟩
theorem KeepT.grown {b : Nat} {W W' : World} {o : Obj} {v : Value} (hb : b < W.heap.size) (hv : ∀ k, v.ownBlock = some k → b < k) (hg : (W.alloc o).grownBy W' v.ownBlock) : KeepT b v.ownBlock W W' :=
  ⟨((Below.refl b W).alloc (Nat.le_of_lt hb) o).grown hg (by simp; omega) (fun k hk => by have := hv k hk; omega), Nat.le_trans (by simp) hg.size,
    fun k h1 _ h3 => (hg.block k (by simp; omega) (fun e => h3 e.symm)).trans (Lib.alloc_old W o k h1)⟩
theorem grown_b {b : Nat} {W W' : World} {o : Obj} {v : Value} (hb : b < W.heap.size) (hv : ∀ k, v.ownBlock = some k → b < k) (hg : (W.alloc o).grownBy W' v.ownBlock) : W'.heap[b]? = W.heap[b]? :=
  (hg.block b (by simp; omega) (fun e => by have := hv b e.symm; omega)).trans (Lib.alloc_old W o b hb)
/-- A token's row, made behind a state that stands. -/
theorem Post.tok {W W1 : World} {b : Nat} {s s' : St SS} {p p' : LP} {tx : Value} {n : Nat} (t : Tk) (h : Lx W1 b s' p' tx n) (hk : KeepT b p.text.ownBlock W W1) (hf : ∀ k, Free W b s p k → Free W1 b s' p' k) (h8 : s'.within = 8 → tx = .slice none 0 0) (v : Value) (o : Obj) (ho : o = .cells (tkCells t).toArray 39) (hv : v = .slice (some ⟨W1.heap.size, 0, none⟩) 1 1) :
    Post W b s p s' n [t] v (W1.alloc o) := by
  have hl := h.blk.lt
  have hk2 : KeepB b W1 (W1.alloc o) := (KeepB.refl b W1).of_below (Nat.le_of_lt hl) (below_alloc (Below.refl _ _) _)
  have hk3 := hk.trans (KeepB.t hk2)
  refine ⟨p', tx, h.keep (Lib.alloc_old W1 o b hl) hk2 (Nat.le_refl _), hk3.below, fun k hfk => ⟨hk3.block k hfk.1 hfk.2.1 hfk.2.2.1, ?_⟩, row1 W1 _ t hk.size v o ho hv, fun _ => h8, fun h => by simp at h⟩
  exact ⟨Nat.lt_of_lt_of_le (hf k hfk).1 hk2.size, (hf k hfk).2⟩
theorem own_cut0 {W : World} {B n sz : Nat} {e : TypeId} {ao : Option Addr} {cap : Nat} {xs : List Value} (h : W.ownsRow B e sz (.slice ao n cap) n xs) : W.ownsRow B e sz (.slice ao 0 cap) 0 [] := by
  rcases h.2 with ⟨hv, hn⟩ | ⟨g, c, cur, hv, hbg, hg, h1, h2, h3, h4⟩
  · simp only [Value.slice.injEq] at hv
    obtain ⟨rfl, _, rfl⟩ := hv
    exact World.ownsRow_nil W _ _ _
  · simp only [Value.slice.injEq] at hv
    obtain ⟨rfl, _, rfl⟩ := hv
    exact ⟨by simp, .inr ⟨g, cap, cur, rfl, hbg, hg, Nat.zero_le _, h2, h3, by simp⟩⟩
theorem tinfo : (Tryd.prog.info? 39).map (fun i => (i.zero, i.size, i.bytes)) = some (some (.agg #[.int .i64 0, .bool false, .int .i64 0, .int .i64 0, .string ⟨#[]⟩]), 5, 48) := by kernel_rfl
theorem tk_one (l : List Tk) : ∀ u ∈ l.flatMap tkCells, u.oneCell' = true := by
  intro u hu
  obtain ⟨t, _, ht⟩ := List.mem_flatMap.1 hu
  simp only [tkCells, List.mem_cons, List.not_mem_nil, or_false] at ht
  rcases ht with rfl | rfl | rfl | rfl | rfl <;> rfl
/-- append of tokens. -/
theorem wpList_tok_append {w : World} {ops : Array Oper} {rest : List Oper} {o : Oper} {a : Act} {Q : Exit → Act → World → Prop} (hgd : o.guard = none) (x y : Operand)
    (ho : o.op = .call { callee := .builtin .append, args := #[x, y], argTypes := #[33, 33] }) (B B' : Nat) (vo vm : Value) (lo lm : List Tk) (hs : a.eval x = vo) (hx : a.eval y = vm)
    (ro : w.ownsRow B 39 5 vo lo.length (lo.flatMap tkCells)) (rm : w.ownsRow B' 39 5 vm lm.length (lm.flatMap tkCells)) (hnil : lm = [] → vm = .slice none 0 0) (hlen : lo.length + lm.length ≤ 1000000) (hB : B ≤ w.heap.size)
    (h : ∀ v' w', w'.ownsRow B 39 5 v' (lo ++ lm).length ((lo ++ lm).flatMap tkCells) → w.grownBy w' vo.ownBlock → (v'.ownBlock = vo.ownBlock ∨ v'.ownBlock = some w.heap.size) → (lm = [] → v' = vo) → wpList Tryd.prog ops Q rest (a.put o.dst v') w') : wpList Tryd.prog ops Q (o :: rest) a w := by
  obtain ⟨i, hi, hz0, hz1, hz2⟩ := info_parts tinfo
  cases lm with
  | nil =>
    obtain rfl := hnil rfl
    refine wpList_append_own_none hgd x y 33 ho B 39 i 5 Tryd.underlying33 hi vo lo.length (lo.flatMap tkCells) hs ro hx ?_
    exact h vo w (by simpa using ro) (World.grownBy.refl _ _) (.inl rfl) (fun _ => rfl)
  | cons t r =>
    rcases rm.2 with ⟨_, hn⟩ | ⟨g, cap, cur, hv, hbg, hg, rest'⟩
    · simp at hn
    · subst hv
      refine wpList_append_own_at w hgd x y 33 ho B 39 i _ 5 48 Tryd.underlying33 hi hz0 hz1 hz2 rfl (by decide) vo lo.length (lo.flatMap tkCells) hs ro ⟨g, 0, none⟩ (t :: r).length cap ((t :: r).flatMap tkCells) hx rm.1 (rm.cells (g := g) rfl) (tk_one _) (by unfold maxLen; omega) (by omega) hB ?_
      intro v' w' h1 h2 h3 h4
      refine h v' w' ?_ h2 h4 (fun h => by simp at h)
      rw [List.length_append, List.flatMap_append]
      exact h1
theorem Tab.keep {b : Nat} {W W' : World} (h : Tab W) (hk : Below b W W') (hb : 0 < b) : Tab W' := Tab.below h hk hb
/-- Another's row has grown. -/
theorem Lx.move {W W' : World} {b : Nat} {s : St SS} {p : LP} {tx : Value} {n : Nat} {row : Option Nat} (h : Lx W b s p tx n) (hg : W.grownBy W' row) (hb : row ≠ some b) (ht : ∀ k, p.text.ownBlock = some k → row ≠ some k) (hs : s.within = 8 → ∀ k, tx.ownBlock = some k → row ≠ some k) : Lx W' b s p tx n :=
  ⟨h.blk.keep (hg.block b h.blk.lt (fun e => hb e.symm)) hg.size, h.at_, h.frm, h.within, h.ended, h.num, h.which, h.wat, own_more h.text (fun k hk => hg.block k (own_lt h.text k hk).2 (fun e => ht k hk e.symm)), h.num0, h.num8, h.wa, h.wi, h.kinds, h.good, h.len,
    fun h8 => ⟨own_more (h.str h8).1 (fun k hk => hg.block k (own_lt (h.str h8).1 k hk).2 (fun e => hs h8 k hk e.symm)), (h.str h8).2⟩⟩
theorem Lx.raise {W : World} {b : Nat} {s : St SS} {p : LP} {tx : Value} {n : Nat} (h : Lx W b s p tx n) (hs : s.within = 8 → tx = .slice none 0 0 ∧ s.sub.q.text = []) : Lx W b s { p with B := W.heap.size } tx n :=
  ⟨⟨h.blk.1, Nat.le_refl _⟩, h.at_, h.frm, h.within, h.ended, h.num, h.which, h.wat, h.text, h.num0, h.num8, h.wa, h.wi, h.kinds, h.good, h.len,
    fun h8 => ⟨by rw [(hs h8).1, (hs h8).2]; exact World.ownsRow_nil _ _ _ _, fun k hk => (own_lt h.text k hk).2⟩⟩
theorem nil_text {W : World} {B n : Nat} {v : Value} {t : List UInt8} (h : W.ownsRow B 5 1 v t.length (Lib.byteCells t)) (hv : v = .slice none 0 0) : t = [] := by
  subst hv
  rcases h.2 with ⟨_, h0⟩ | ⟨g, cap, cur, hv, _⟩
  · exact List.eq_nil_of_length_eq_zero h0
  · simp at hv
theorem Lx.drewN {W : World} {b : Nat} {s : St SS} {p : LP} {tx : Value} {n : Nat} (h : Lx W b s p tx n) (m : Nat) : Lx (W.drewN m) b s p tx n :=
  ⟨h.blk, h.at_, h.frm, h.within, h.ended, h.num, h.which, h.wat, h.text, h.num0, h.num8, h.wa, h.wi, h.kinds, h.good, h.len, h.str⟩
theorem KeepB.drewN {b : Nat} {W W1 : World} (h : KeepB b W W1) (m : Nat) : KeepB b W (W1.drewN m) := ⟨pw_below_drewN h.below m, h.size, h.block⟩
theorem KeepB.drew {b : Nat} {W W1 : World} (h : KeepB b W W1) : KeepB b W W1.drew := ⟨h.below.drew, h.size, h.block⟩
theorem Lx.drew {W : World} {b : Nat} {s : St SS} {p : LP} {tx : Value} {n : Nat} (h : Lx W b s p tx n) : Lx W.drew b s p tx n :=
  ⟨h.blk, h.at_, h.frm, h.within, h.ended, h.num, h.which, h.wat, h.text, h.num0, h.num8, h.wa, h.wi, h.kinds, h.good, h.len, h.str⟩
theorem Post.drew {W w' : World} {b : Nat} {s s' : St SS} {p : LP} {n : Nat} {l : List Tk} {v : Value} (h : Post W b s p s' n l v w') : Post W b s p s' n l v w'.drew := by
  obtain ⟨p', tx', h1, h2, h3, h4, h5, h6⟩ := h
  exact ⟨p', tx', h1.drew, h2.drew, h3, h4, h5, h6⟩
end Go.Proofs.YtlhpflicchchlaaDoor.LxA
