/- Contracts of the book of things: how it lies in memory; New, Len, Value, Var. Conditions: none. -/
import Derived.Test.YtjfoppmpiklfiabPTruthRunsx1
import Derived.Test.YtjfoppmpiklfiabTruth
import Derived.IntWalk
namespace Go.Proofs.Ytjfoppmpiklfiab.BookW
open Go.RowKit Go.Proofs.YtjfoppmpiklfiabW.PrintWords Go.Proofs.YtjfoppmpiklfiabW.PrintLast Go.Proofs.YtjfoppmpiklfiabW.PrintMore Go.Proofs.Ytjfoppmpiklfiab.PTruthRuns Go.Proofs.Ytjfoppmpiklfiab.Truth
set_option linter.unusedVariables false
set_option linter.unusedSimpArgs false
def nats (l : List Nat) : List Int := l.map (fun (n : Nat) => (n : Int))
def enc (t : T) : S65 := ⟨t.made, t.val, t.x, t.y, nats t.ups⟩
/-- A book at block g; P: where its rows may lie (and where new ones may). -/
def IsB (w0 W : World) (g : Nat) (P : Nat → Prop) (L : List T) : Prop :=
  ∃ v, W.heap[g]? = some (.cells #[v] 68 (0, 0)) ∧ w0.heap.size ≤ g ∧ Kd.S k65 65 W w0.heap.size (fun k => k ≠ g ∧ P k) v (L.map enc)
theorem IsB.slice {w0 W : World} {g : Nat} {P : Nat → Prop} {L : List T} (h : IsB w0 W g P L) :
    ∃ A c, W.heap[g]? = some (.cells #[.slice A L.length c] 68 (0, 0)) ∧ w0.heap.size ≤ g ∧ Kd.S k65 65 W w0.heap.size (fun k => k ≠ g ∧ P k) (.slice A L.length c) (L.map enc) := by
  obtain ⟨v, h1, h2, h3⟩ := h
  obtain ⟨A, c, rfl⟩ := Kd.S_slice h3
  rw [List.length_map] at h1 h3
  exact ⟨A, c, h1, h2, h3⟩
theorem IsB.step {w0 W W1 : World} {g : Nat} {P : Nat → Prop} {L : List T} (h : IsB w0 W g P L) (hg : W1.heap[g]? = W.heap[g]?) (hm : ∀ k, P k → k < W.heap.size → W1.heap[k]? = W.heap[k]?) : IsB w0 W1 g P L := by
  obtain ⟨v, h1, h2, h3⟩ := h
  exact ⟨v, hg.trans h1, h2, Kd.S_step h3 (fun k hk hlt => hm k hk.2 hlt)⟩
theorem IsB.lt {w0 W : World} {g : Nat} {P : Nat → Prop} {L : List T} (h : IsB w0 W g P L) : g < W.heap.size := by
  obtain ⟨v, h1, h2, h3⟩ := h
  exact blk_lt h1
theorem IsB.below {w0 W W1 : World} {g : Nat} {P : Nat → Prop} {L : List T} (h : IsB w0 W g P L) (hb : Below W.heap.size W W1) : IsB w0 W1 g P L :=
  h.step (hb.block g h.lt) (fun k _ hlt => hb.block k hlt)
theorem IsB.drew {w0 W : World} {g : Nat} {P : Nat → Prop} {L : List T} (h : IsB w0 W g P L) : IsB w0 W.drew g P L := h.below (below_drew (Below.refl _ _))
theorem IsB.bound {w0 W : World} {g : Nat} {P : Nat → Prop} {L : List T} (h : IsB w0 W g P L) : IsB w0 W g (fun k => P k ∧ k < W.heap.size) L := by
  obtain ⟨v, h1, h2, h3⟩ := h
  exact ⟨v, h1, h2, Kd.S_mono (Kd.S_bound h3) (fun k hk => ⟨hk.1.1, hk.1.2, hk.2.2.1⟩)⟩
theorem IsB.mono {w0 W : World} {g : Nat} {P Q : Nat → Prop} {L : List T} (h : IsB w0 W g P L) (hPQ : ∀ k, P k → Q k) : IsB w0 W g Q L := by
  obtain ⟨v, h1, h2, h3⟩ := h
  exact ⟨v, h1, h2, Kd.S_mono h3 (fun k hk => ⟨hk.1, hPQ k hk.2⟩)⟩
/-- What lies elsewhere is as it was. -/
def KeepB (g : Nat) (P : Nat → Prop) (w w' : World) : Prop := w.heap.size ≤ w'.heap.size ∧ ∀ k, k < w.heap.size → k ≠ g → ¬ P k → w'.heap[k]? = w.heap[k]?
theorem KeepB.refl (g : Nat) (P : Nat → Prop) (w : World) : KeepB g P w w := ⟨Nat.le_refl _, fun _ _ _ _ => rfl⟩
theorem KeepB.trans {g : Nat} {P : Nat → Prop} {w w1 w2 : World} (h : KeepB g P w w1) (h' : KeepB g P w1 w2) : KeepB g P w w2 :=
  ⟨Nat.le_trans h.1 h'.1, fun k hk hg hp => (h'.2 k (Nat.lt_of_lt_of_le hk h.1) hg hp).trans (h.2 k hk hg hp)⟩
theorem KeepB.of_below {g : Nat} {P : Nat → Prop} {w w1 : World} (h : Below w.heap.size w w1) : KeepB g P w w1 := ⟨h.size, fun k hk _ _ => h.block k hk⟩
theorem getD_map (L : List T) (i : Nat) (h : i < L.length) : (L.map enc).getD i z65 = enc (gT L i) := by
  unfold gT
  rw [List.getD_eq_getElem?_getD, List.getD_eq_getElem?_getD, List.getElem?_map, List.getElem?_eq_getElem h]
  rfl
/-- A thing's cells, its row of ups, and the book with it lent. -/
theorem IsB.elem {w0 W : World} {g : Nat} {P : Nat → Prop} {L : List T} (h : IsB w0 W g P L) (i : Nat) (hi : i < L.length) :
    ∃ gr c v oki, W.heap[g]? = some (.cells #[.slice (some ⟨gr, 0, none⟩) L.length c] 68 (0, 0)) ∧ w0.heap.size ≤ g ∧ (Kd.int .i64).R 3 W w0.heap.size oki v (nats (gT L i).ups) ∧
      W.cell? ⟨gr, i * 5, none⟩ = some (.int .i64 (gT L i).made) ∧ W.cell? ⟨gr, i * 5 + 1, none⟩ = some (.int .i64 (gT L i).val) ∧ W.cell? ⟨gr, i * 5 + 2, none⟩ = some (.int .i64 (gT L i).x) ∧
      W.cell? ⟨gr, i * 5 + 3, none⟩ = some (.int .i64 (gT L i).y) ∧ W.cell? ⟨gr, i * 5 + 4, none⟩ = some v ∧ (∀ j, W.frozen? ⟨gr, i * 5 + j, none⟩ = false) ∧ (∀ k, oki k → (k ≠ g ∧ P k) ∧ k ≠ gr) ∧ gr ≠ g ∧ P gr ∧ w0.heap.size ≤ gr ∧
      Kd.H k65 65 W w0.heap.size (fun k => k ≠ g ∧ P k) (.slice (some ⟨gr, 0, none⟩) L.length c) (L.map enc) (i : Int) oki [.int .i64 (gT L i).made, .int .i64 (gT L i).val, .int .i64 (gT L i).x, .int .i64 (gT L i).y, v] := by
  obtain ⟨A, c, h1, h2, h3⟩ := h.slice
  obtain ⟨gr, cap, he, hb, hlt, cells, hc⟩ := Kd.S_form h3 (by rw [List.length_map]; omega)
  injection he with hA hn hc'
  subst hA
  obtain ⟨oki, cs, hcl, hM, hcell, hfr, hok, hH⟩ := Kd.S_elem h3 z65 (i : Int) (by omega) (by omega)
  rw [Int.toNat_natCast] at hM hcell hfr
  rw [getD_map L i hi] at hM
  obtain ⟨v, rfl, hR⟩ := k65_openM hM
  have hgr : gr ≠ g ∧ P gr := (Kd.S_R h3).1 gr (by simp [Value.ownBlock])
  exact ⟨gr, c, v, oki, h1, h2, hR, hcell 0 _ rfl, hcell 1 _ rfl, hcell 2 _ rfl, hcell 3 _ rfl, hcell 4 _ rfl, hfr, hok, hgr.1, hgr.2, hb, hH⟩
theorem setCells_one (W : World) (g o : Nat) (u : Value) : W.setCells g o [u] = W.setCell ⟨g, o, none⟩ u := by
  first
  | rfl
  | simp [World.setCells, World.setCell]
end Go.Proofs.Ytjfoppmpiklfiab.BookW
