/- What the law of a Nest's pairs keeps between two tokens. Conditions: none. -/
import Derived.Test.YtlhpflicchchlaaDoorNxAl
namespace Go.Proofs.YtlhpflicchchlaaDoor.Nx
open Go.RowKit Go.Proofs.YtlhpflicchchlaaDoorW.PrintWords Go.Proofs.YtlhpflicchchlaaDoorW.PrintLast Go.Proofs.YtlhpflicchchlaaDoorW.PrintMore
attribute [local go_sem] max2_int min2_int max_two min_two max_three min_three max_four min_four
open Go.Proofs.YtlhpflicchchlaaDoor.LexPure Go.Proofs.YtlhpflicchchlaaDoor.BitsW
set_option linter.unusedVariables false
set_option linter.unusedSimpArgs false
/-- What is left to look at of a token's events. -/
def Todo (N M : Nat) (s' : NS) (y : Nat × Option Nat) (O : List Ev) (C : List Nat) (rem : List Ev) : Prop :=
  (rem = [] ∧ InvE N M s' O C y) ∨
   (∃ e C1 c, rem = [e] ∧ e.kind = 1 ∧ C = C1 ++ [c] ∧ (∀ O1 x, O = O1 ++ [x] → (x.value = 4 → e.step.named = false ∧ e.step.idx = c) ∧ (x.value = 5 → e.step.named = true)) ∧ InvE N M s' (O ++ [e]) (C1 ++ [c + 1] ++ [0]) y) ∨
   (∃ e O1 x C1 c, rem = [e] ∧ e.kind = 2 ∧ O = O1 ++ [x] ∧ C = C1 ++ [c] ∧ x.frm = e.frm ∧ x.step = e.step ∧ (e.value = x.value ∨ e.value = 1) ∧ e.frm < e.til ∧ InvE N M s' O1 C1 y)
theorem todo_of {N M : Nat} {O : List Ev} {C : List Nat} {r : NS × List Ev × Int} {y : Nat × Option Nat} (h : Okay N M O C r y) : (r.2.2 ≠ 0 ∧ r.2.1 = []) ∨ (r.2.2 = 0 ∧ Todo N M r.1 y O C r.2.1) := h
theorem todo_nil {N M : Nat} {s' : NS} {y : Nat × Option Nat} {O : List Ev} {C : List Nat} (h : Todo N M s' y O C []) : InvE N M s' O C y := by
  rcases h with ⟨_, h⟩ | ⟨e, _, _, h, _⟩ | ⟨e, _, _, _, _, h, _⟩
  · exact h
  · cases h
  · cases h
/-- What the law's walk knows between two tokens. -/
structure At (w0 w : World) (g B : Nat) (T : List Tk) (vt : Value) (s : NS) (lvv : Value) (O : List Ev) (C : List Nat) (vO vC : Value) : Prop where
  nx : Nx w0 w g s lvv
  bel : Below w0.heap.size w0 w
  ro : w.ownsRow w0.heap.size 62 8 vO O.length (O.flatMap evCells)
  rc : w.ownsRow w0.heap.size 3 1 vC C.length (cIs C)
  rt : w.ownsRow B 39 5 vt T.length (T.flatMap LxA.tkCells)
theorem At.below {w0 w w1 : World} {g B : Nat} {T : List Tk} {vt : Value} {s : NS} {lvv vO vC : Value} {O : List Ev} {C : List Nat} (h : At w0 w g B T vt s lvv O C vO vC) (hb : Below w.heap.size w w1) : At w0 w1 g B T vt s lvv O C vO vC :=
  have K := KT.of_below (p := []) hb
  ⟨K.nx h.nx (by simp) (by simp) (by simp), h.bel.trans (hb.mono h.bel.size), K.row h.ro (by simp), K.row h.rc (by simp), K.row h.rt (by simp)⟩
theorem cI1 (w : World) (B : Nat) (hB : B ≤ w.heap.size) (o : Obj) (c : Nat) (ho : o = .cells #[.int .i64 (c : Int)] 3) : (w.alloc o).ownsRow B 3 1 (.slice (some ⟨w.heap.size, 0, none⟩) 1 1) [c].length (cIs [c]) := by
  subst ho
  exact ⟨rfl, .inr ⟨w.heap.size, 1, _, rfl, hB, heap_alloc_new w _, Nat.le_refl _, by unfold maxLen; omega, rfl, rfl⟩⟩
theorem own_maxN {W : World} {B n sz : Nat} {e : TypeId} {v : Value} {xs : List Value} (h : W.ownsRow B e sz v n xs) : n ≤ 9223372036854775807 := by
  rcases h.2 with ⟨_, h0⟩ | ⟨g, cap, cur, _, _, _, h1, h2, _⟩
  · omega
  · simp only [maxLen] at h2; omega
theorem cIs_len (l : List Nat) : (cIs l).length = l.length := by simp [cIs]
theorem cIs_app (l m : List Nat) : cIs (l ++ m) = cIs l ++ cIs m := List.map_append
theorem ci_one (l : List Nat) : ∀ u ∈ cIs l, u.oneCell' = true := by
  intro u hu
  obtain ⟨t, _, rfl⟩ := List.mem_map.1 hu
  rfl
theorem flat_lenE (O : List Ev) : (O.flatMap evCells).length = O.length * 8 := by
  induction O with
  | nil => rfl
  | cons x r ih => rw [List.flatMap_cons, List.length_append, ih]; simp [evCells]; omega
theorem wrap_small (c : Nat) (h : c ≤ 1000000) : wrap64 ((c : Int) + 1) = (c : Int) + 1 ∧ IntKind.i64.wrap ((c : Int) + 1) = (c : Int) + 1 := ⟨by unfold wrap64; omega, IntWalk.i64_in _ (by omega)⟩
theorem own_cap {W : World} {B n sz g cap : Nat} {e : TypeId} {xs : List Value} (h : W.ownsRow B e sz (.slice (some ⟨g, 0, none⟩) n cap) n xs) : n ≤ cap := by
  rcases h.2 with ⟨h0, _⟩ | ⟨g2, cap2, cur, hv, _, _, h1, _⟩
  · cases h0
  · cases hv
    exact h1
theorem own_frozen {W : World} {B n sz g cap : Nat} {e : TypeId} {xs : List Value} (h : W.ownsRow B e sz (.slice (some ⟨g, 0, none⟩) n cap) n xs) (j : Nat) : W.frozen? ⟨g, j, none⟩ = false := by
  obtain ⟨c, hc⟩ := row_type h g rfl
  exact blk_frozen hc j
/-- append of a number. -/
theorem wpList_cnt_append {w : World} {ops : Array Oper} {rest : List Oper} {o : Oper} {a : Act} {Q : Exit → Act → World → Prop} (hgd : o.guard = none) (x y : Operand)
    (ho : o.op = .call { callee := .builtin .append, args := #[x, y], argTypes := #[58, 58] }) (B B' : Nat) (vo vm : Value) (lo : List Nat) (c : Nat) (hs : a.eval x = vo) (hx : a.eval y = vm)
    (ro : w.ownsRow B 3 1 vo lo.length (cIs lo)) (rm : w.ownsRow B' 3 1 vm [c].length (cIs [c])) (hlen : lo.length ≤ 1000000) (hB : B ≤ w.heap.size)
    (h : ∀ v' w', w'.ownsRow B 3 1 v' (lo ++ [c]).length (cIs (lo ++ [c])) → Below B w w' → KT [3] w w' → wpList Tryd.prog ops Q rest (a.put o.dst v') w') : wpList Tryd.prog ops Q (o :: rest) a w := by
  obtain ⟨i, hi, hz0, hz1, hz2⟩ := info_parts iinfo
  rcases rm.2 with ⟨_, hn⟩ | ⟨g, cap, cur, hv, hbg, hg, rest'⟩
  · simp at hn
  · subst hv
    refine wpList_append_own_at w hgd x y 58 ho B 3 i _ 1 8 Tryd.underlying58 hi hz0 hz1 hz2 rfl (by decide) vo lo.length (cIs lo) hs ro ⟨g, 0, none⟩ [c].length cap (cIs [c]) hx rm.1 (rm.cells (g := g) rfl) (ci_one _) (by unfold maxLen; simp; omega) (by simp; omega) hB ?_
    intro v' w' h1 h2 h3 h4
    refine h v' w' ?_ (below_grownN ro h2 hB) (KT.of_grown ro h2)
    rw [List.length_append, cIs_app]
    exact h1
theorem At.bump {w0 w : World} {g B : Nat} {T : List Tk} {vt : Value} {s : NS} {lvv vO : Value} {O : List Ev} {C C1 : List Nat} {c gc cpc kc nC : Nat} (h : At w0 w g B T vt s lvv O C vO (.slice (some ⟨gc, 0, none⟩) C.length cpc)) (hC : C = C1 ++ [c]) (hk : kc = C1.length) (hn : nC = C.length) :
    At w0 (w.setCell ⟨gc, kc, none⟩ (.int .i64 ((c : Int) + 1))) g B T vt s lvv O (C1 ++ [c + 1]) vO (.slice (some ⟨gc, 0, none⟩) nC cpc) := by
  obtain ⟨cc, hcc⟩ := row_type h.rc gc rfl
  have K := KT.of_set (j := kc) hcc (.int .i64 ((c : Int) + 1))
  have hp := own_put h.rc kc (by rw [cIs_len, hC, hk]; simp) (.int .i64 ((c : Int) + 1))
  have hgc : w0.heap.size ≤ gc := by
    obtain ⟨ao, cap, hv, hao⟩ := own_evs h.rc
    obtain ⟨g', hg', hb, _⟩ := hao (by rw [hC]; simp)
    injection hv with h1
    rw [← h1] at hg'
    injection hg' with h2
    injection h2 with h3
    omega
  refine ⟨K.nx h.nx (by decide) (by decide) (by decide), below_set h.bel hgc, K.row h.ro (by decide), ?_, K.row h.rt (by decide)⟩
  have e1 : (cIs C).set kc (.int .i64 ((c : Int) + 1)) = cIs (C1 ++ [c + 1]) := by
    rw [hC, hk, cIs_app, cIs_app, List.set_append_right _ _ (by rw [cIs_len]; omega), cIs_len, Nat.sub_self]
    rfl
  have e2 : (C1 ++ [c + 1]).length = C.length := by rw [hC]; simp
  rw [e1, ← hn] at hp
  rw [e2, ← hn]
  exact hp
theorem At.pop {w0 w : World} {g B : Nat} {T : List Tk} {vt : Value} {s : NS} {lvv : Value} {O O1 : List Ev} {x : Ev} {C C1 : List Nat} {c go_ cpo gc cpc : Nat} (h : At w0 w g B T vt s lvv O C (.slice (some ⟨go_, 0, none⟩) O.length cpo) (.slice (some ⟨gc, 0, none⟩) C.length cpc)) (hO : O = O1 ++ [x]) (hC : C = C1 ++ [c]) :
    At w0 w g B T vt s lvv O1 C1 (.slice (some ⟨go_, 0, none⟩) O1.length cpo) (.slice (some ⟨gc, 0, none⟩) C1.length cpc) := by
  have h1 := own_short h.ro (m := O1.length) (by rw [hO]; simp)
  have h2 := own_short h.rc (m := C1.length) (by rw [hC]; simp)
  have e1 : (O.flatMap evCells).take (O1.length * 8) = O1.flatMap evCells := by
    rw [hO, List.flatMap_append]
    exact List.take_left' (flat_lenE O1)
  have e2 : (cIs C).take (C1.length * 1) = cIs C1 := by
    rw [hC, cIs_app]
    exact List.take_left' (by rw [cIs_len, Nat.mul_one])
  rw [e1] at h1
  rw [e2] at h2
  exact ⟨h.nx, h.bel, h1, h2, h.rt⟩
end Go.Proofs.YtlhpflicchchlaaDoor.Nx
