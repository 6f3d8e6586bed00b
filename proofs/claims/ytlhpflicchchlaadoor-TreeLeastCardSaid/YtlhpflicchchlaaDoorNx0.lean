/- A Nest's block, and the plain machine of tokens that make a text. Conditions: none. -/
import Derived.Test.YtlhpflicchchlaaDoorNxPop
import Derived.Test.YtlhpflicchchlaaDoorLxBg0
namespace Go.Proofs.YtlhpflicchchlaaDoor.Nx
open Go.RowKit Go.Proofs.YtlhpflicchchlaaDoorW.PrintWords Go.Proofs.YtlhpflicchchlaaDoorW.PrintLast Go.Proofs.YtlhpflicchchlaaDoorW.PrintMore
open Go.Proofs.YtlhpflicchchlaaDoor.LexPure Go.Proofs.YtlhpflicchchlaaDoor.BitsW
set_option linter.unusedVariables false
set_option linter.unusedSimpArgs false
structure Stp where
  named : Bool
  name : ByteArray
  idx : Nat
/-- What is open: where it begins, its step, how many it has, its next name. -/
structure Lv where
  frm : Nat
  step : Stp
  many : Nat
  nm : ByteArray
structure NS where
  most : Nat
  stk : List Bool
  lv : List Lv
  may : Int
  begun : Int
  began : Bool
structure Ev where
  kind : Int
  value : Int
  frm : Nat
  til : Nat
  step : Stp
  text : ByteArray
def stp0 : Stp := ⟨false, ⟨#[]⟩, 0⟩
def stpVal (s : Stp) : Value := .agg #[.bool s.named, .string s.name, .int .i64 (s.idx : Int)]
def lvCells (l : Lv) : List Value := [.int .i64 (l.frm : Int), .bool l.step.named, .string l.step.name, .int .i64 (l.step.idx : Int), .int .i64 (l.many : Int), .string l.nm]
def evCells (e : Ev) : List Value := [.int .i64 e.kind, .int .i64 e.value, .int .i64 (e.frm : Int), .int .i64 (e.til : Int), .bool e.step.named, .string e.step.name, .int .i64 (e.step.idx : Int), .string e.text]
/-- What comes next in what is open. -/
def stepV (s : NS) : Stp := match s.stk.getLast?, s.lv.getLast? with
  | some true, some l => ⟨true, l.nm, 0⟩
  | some false, some l => ⟨false, ⟨#[]⟩, l.many⟩
  | _, _ => stp0
def bump (l : List Lv) : List Lv := match l.getLast? with
  | some x => l.dropLast ++ [{ x with many := x.many + 1 }]
  | none => l
def setNm (l : List Lv) (n : ByteArray) : List Lv := match l.getLast? with
  | some x => l.dropLast ++ [{ x with nm := n }]
  | none => l
def endedV (s : NS) : NS := if s.stk = [] then { s with may := 6 } else { s with lv := bump s.lv, may := 5 }
def badV (s : NS) (k : Int) : NS × List Ev × Int := ({ s with may := 7 }, [], k)
/-- A Nest at block g. -/
structure Nx (w0 W : World) (g : Nat) (s : NS) (lvv : Value) : Prop where
  bits : IsB w0 W g ⟨s.most, lvv, s.may, s.begun, s.began⟩ (mw s.stk.length) s.stk
  row : W.ownsRow w0.heap.size 161 6 lvv s.lv.length (s.lv.flatMap lvCells)
  len : s.lv.length = s.stk.length
/-- What is no row of words or levels, nor the Nest's own block, is as it was. -/
def KeepN (g : Nat) (w w' : World) : Prop := w.heap.size ≤ w'.heap.size ∧ ∀ k, k < w.heap.size → k ≠ g → (∀ c f, w.heap[k]? ≠ some (.cells c 169 f)) → (∀ c f, w.heap[k]? ≠ some (.cells c 161 f)) → w'.heap[k]? = w.heap[k]?
theorem KeepN.refl (g : Nat) (w : World) : KeepN g w w := ⟨Nat.le_refl _, fun _ _ _ _ _ => rfl⟩
theorem KeepN.trans {g : Nat} {a b c : World} (h : KeepN g a b) (h' : KeepN g b c) : KeepN g a c := by
  refine ⟨Nat.le_trans h.1 h'.1, fun k hk hg ht hu => ?_⟩
  have e := h.2 k hk hg ht hu
  rw [h'.2 k (by have := h.1; omega) hg (by rw [e]; exact ht) (by rw [e]; exact hu), e]
theorem KeepN.of_below {g : Nat} {a b : World} (h : Below a.heap.size a b) : KeepN g a b := ⟨h.size, fun k hk _ _ _ => h.block k hk⟩
theorem KeepN.of_bits {g : Nat} {a b : World} (h : BitsW.KeepT g a b) : KeepN g a b := ⟨h.1, fun k hk hg ht _ => h.2 k hk hg ht⟩
theorem KeepN.set_ {g : Nat} (a : World) (j : Nat) (u : Value) : KeepN g a (a.setCell ⟨g, j, none⟩ u) := KeepN.of_bits (BitsW.KeepT.set_ a j u)
theorem own_pos {W : World} {B n : Nat} {v : Value} {l : List Lv} {x : Lv} (h : W.ownsRow B 161 6 v n ((l ++ [x]).flatMap lvCells)) : ∃ gl cap, v = .slice (some ⟨gl, 0, none⟩) n cap ∧ B ≤ gl ∧ ∃ cur, W.heap[gl]? = some (.cells cur 161 (0, 0)) ∧ n ≤ cap := by
  rcases h.2 with ⟨_, h0⟩ | ⟨g, cap, cur, hv, hbg, hg, hnc, _⟩
  · have := h.1
    rw [h0] at this
    simp [lvCells] at this
  · exact ⟨g, cap, hv, hbg, cur, hg, hnc⟩
theorem flat_lv : ∀ (T : List Lv) (j i : Nat) (t : Lv), T[j]? = some t → i < 6 → (T.flatMap lvCells)[j * 6 + i]? = (lvCells t)[i]?
  | [], j, i, t, h, _ => by simp at h
  | x :: r, 0, i, t, h, hi => by
    obtain rfl : x = t := by simpa using h
    rw [List.flatMap_cons, List.getElem?_append_left (by simp [lvCells]; omega)]
    simp
  | x :: r, j + 1, i, t, h, hi => by
    rw [List.flatMap_cons, List.getElem?_append_right (by simp [lvCells]; omega), show (j + 1) * 6 + i - (lvCells x).length = j * 6 + i by simp [lvCells]; omega]
    exact flat_lv r j i t (by simpa using h) hi
theorem snoc_of {α : Type} (l : List α) (h : l ≠ []) : ∃ pre x, l = pre ++ [x] := ⟨l.dropLast, l.getLast h, (List.dropLast_concat_getLast h).symm⟩
theorem bump_snoc (l : List Lv) (x : Lv) : bump (l ++ [x]) = l ++ [{ x with many := x.many + 1 }] := by simp [bump]
theorem setNm_snoc (l : List Lv) (x : Lv) (n : ByteArray) : setNm (l ++ [x]) n = l ++ [{ x with nm := n }] := by simp [setNm]
theorem own_cellN {W : World} {B n sz : Nat} {e : TypeId} {g cap : Nat} {xs : List Value} (h : W.ownsRow B e sz (.slice (some ⟨g, 0, none⟩) n cap) n xs) (j : Nat) (u : Value) (hj : xs[j]? = some u) : W.cell? ⟨g, j, none⟩ = some u := by
  have := h.cells (g := g) rfl j u hj
  rw [show (⟨g, 0, none⟩ : Addr).add j = ⟨g, j, none⟩ by cases j <;> simp [Addr.add]] at this
  exact this
/-- The top level's cells. -/
theorem lv_top {W : World} {B gl cap k : Nat} {l : List Lv} {x : Lv} (h : W.ownsRow B 161 6 (.slice (some ⟨gl, 0, none⟩) (k + 1) cap) (k + 1) ((l ++ [x]).flatMap lvCells)) (hk : l.length = k) :
    W.cell? ⟨gl, k * 6, none⟩ = some (.int .i64 (x.frm : Int)) ∧ W.cell? ⟨gl, k * 6 + 1, none⟩ = some (.bool x.step.named) ∧ W.cell? ⟨gl, k * 6 + 2, none⟩ = some (.string x.step.name) ∧ W.cell? ⟨gl, k * 6 + 3, none⟩ = some (.int .i64 (x.step.idx : Int)) ∧ W.cell? ⟨gl, k * 6 + 4, none⟩ = some (.int .i64 (x.many : Int)) ∧ W.cell? ⟨gl, k * 6 + 5, none⟩ = some (.string x.nm) := by
  have ht : (l ++ [x])[k]? = some x := by rw [List.getElem?_append_right (by omega), hk]; simp
  refine ⟨own_cellN h (k * 6) _ ?_, own_cellN h (k * 6 + 1) _ ?_, own_cellN h (k * 6 + 2) _ ?_, own_cellN h (k * 6 + 3) _ ?_, own_cellN h (k * 6 + 4) _ ?_, own_cellN h (k * 6 + 5) _ ?_⟩
  · rw [show k * 6 = k * 6 + 0 by omega, flat_lv _ k 0 x ht (by omega)]; rfl
  · rw [flat_lv _ k 1 x ht (by omega)]; rfl
  · rw [flat_lv _ k 2 x ht (by omega)]; rfl
  · rw [flat_lv _ k 3 x ht (by omega)]; rfl
  · rw [flat_lv _ k 4 x ht (by omega)]; rfl
  · rw [flat_lv _ k 5 x ht (by omega)]; rfl
theorem Nx.below {w0 W W1 : World} {g : Nat} {s : NS} {v : Value} (h : Nx w0 W g s v) (hb : Below W.heap.size W W1) : Nx w0 W1 g s v :=
  ⟨h.bits.below hb, pw_own_below h.row hb, h.len⟩
theorem Nx.blk {w0 W : World} {g : Nat} {s : NS} {v : Value} (h : Nx w0 W g s v) : ∃ wv, W.heap[g]? = some (.cells #[.int .i64 (s.most : Int), wv, .int .i64 (s.stk.length : Int), v, .int .i64 s.may, .int .i64 s.begun, .bool s.began] 113 (0, 0)) := by
  obtain ⟨wv, h1, _, _⟩ := h.bits
  exact ⟨wv, h1⟩
theorem Nx.lt {w0 W : World} {g : Nat} {s : NS} {v : Value} (h : Nx w0 W g s v) : g < W.heap.size := by
  obtain ⟨wv, h1⟩ := h.blk
  exact blk_lt h1
theorem Nx.ge {w0 W : World} {g : Nat} {s : NS} {v : Value} (h : Nx w0 W g s v) : w0.heap.size ≤ g := by
  obtain ⟨wv, _, _, h2⟩ := h.bits
  exact h2
/-- A row of another kind stands. -/
theorem own_bits {g : Nat} {W W' : World} {B n sz : Nat} {e : TypeId} {v : Value} {xs cs : List Value} {t : TypeId} {c : Array Value} (h : W.ownsRow B e sz v n xs) (hk : BitsW.KeepT g W W') (he : e ≠ 169) (hg : W.heap[g]? = some (.cells c t (0, 0))) (ht : e ≠ t) : W'.ownsRow B e sz v n xs := by
  refine ⟨h.1, ?_⟩
  rcases h.2 with hn | ⟨gg, cap, cur, hv, hbg, hgg, rest⟩
  · exact .inl hn
  · refine .inr ⟨gg, cap, cur, hv, hbg, (hk.2 gg (Array.getElem?_eq_some_iff.1 hgg).1 (fun e1 => ?_) (fun c f e2 => ?_)).trans hgg, rest⟩
    · rw [e1, hg] at hgg
      simp at hgg
      exact ht hgg.2.symm
    · rw [hgg] at e2
      simp at e2
      exact he e2.2.1
theorem own_nest {g : Nat} {W W' : World} {B n sz : Nat} {e : TypeId} {v : Value} {xs : List Value} {c : Array Value} (h : W.ownsRow B e sz v n xs) (hk : KeepN g W W') (he : e ≠ 169) (he2 : e ≠ 161) (hg : W.heap[g]? = some (.cells c 113 (0, 0))) (ht : e ≠ 113) : W'.ownsRow B e sz v n xs := by
  refine ⟨h.1, ?_⟩
  rcases h.2 with hn | ⟨gg, cap, cur, hv, hbg, hgg, rest⟩
  · exact .inl hn
  · refine .inr ⟨gg, cap, cur, hv, hbg, (hk.2 gg (Array.getElem?_eq_some_iff.1 hgg).1 (fun e1 => ?_) (fun c f e2 => ?_) (fun c f e2 => ?_)).trans hgg, rest⟩
    · rw [e1, hg] at hgg
      simp at hgg
      exact ht hgg.2.symm
    · rw [hgg] at e2
      simp at e2
      exact he e2.2.1
    · rw [hgg] at e2
      simp at e2
      exact he2 e2.2.1
end Go.Proofs.YtlhpflicchchlaaDoor.Nx
