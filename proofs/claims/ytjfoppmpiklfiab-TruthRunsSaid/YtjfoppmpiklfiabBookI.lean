/- The laws over the book of things: acts that came in; what the laws keep beside the book. Conditions: none. -/
import Derived.Test.YtjfoppmpiklfiabBookH
namespace Go.Proofs.Ytjfoppmpiklfiab.BookW
open Go.RowKit Go.Proofs.YtjfoppmpiklfiabW.PrintWords Go.Proofs.YtjfoppmpiklfiabW.PrintLast Go.Proofs.YtjfoppmpiklfiabW.PrintMore Go.Proofs.Ytjfoppmpiklfiab.PTruthRuns Go.Proofs.Ytjfoppmpiklfiab.Truth
set_option linter.unusedVariables false
set_option linter.unusedSimpArgs false
structure S45 where
  f0 : Int
  f1 : Int
  f2 : Int
  f3 : List Int
  f4 : Bool
def z45 : S45 := ⟨0, 0, 0, [], false⟩
def k45 : Kd S45 := Kd.iso (Kd.pair (Kd.int .i64) (Kd.pair (Kd.int .i64) (Kd.pair (Kd.int .i64) (Kd.pair (Kd.slice 3 (Kd.int .i64)) Kd.bool)))) (fun x : S45 => (x.f0, x.f1, x.f2, x.f3, x.f4))
theorem k45_open {w : World} {x : S45} {cs : List Value} (h : k45.K w x cs) : ∃ A3 c3, cs = [.int .i64 x.f0, .int .i64 x.f1, .int .i64 x.f2, .slice A3 x.f3.length c3, .bool x.f4] ∧ x.f3.length ≤ c3 ∧ (Kd.int .i64).C w A3 x.f3.length x.f3 := by
  obtain ⟨_, _, rfl, rfl, ⟨_, _, rfl, rfl, ⟨_, _, rfl, rfl, ⟨_, _, rfl, ⟨A3, c3, rfl, l3, g3⟩, rfl⟩⟩⟩⟩ := h
  exact ⟨A3, c3, rfl, l3, g3⟩
theorem k45_mk (w : World) (x : S45) {A3 : Option Addr} {c3 : Nat} (l3 : x.f3.length ≤ c3) (g3 : (Kd.int .i64).C w A3 x.f3.length x.f3) : k45.K w x [.int .i64 x.f0, .int .i64 x.f1, .int .i64 x.f2, .slice A3 x.f3.length c3, .bool x.f4] :=
  ⟨[.int .i64 x.f0], [.int .i64 x.f1, .int .i64 x.f2, .slice A3 x.f3.length c3, .bool x.f4], rfl, rfl, ⟨[.int .i64 x.f1], [.int .i64 x.f2, .slice A3 x.f3.length c3, .bool x.f4], rfl, rfl, ⟨[.int .i64 x.f2], [.slice A3 x.f3.length c3, .bool x.f4], rfl, rfl, ⟨[.slice A3 x.f3.length c3], [.bool x.f4], rfl, ⟨A3, c3, rfl, l3, g3⟩, rfl⟩⟩⟩⟩
def rd45 (xs : List S45) (i : Int) : S45 := xs.getD i.toNat z45
theorem at_T45 {w : World} {A : Option Addr} {n : Nat} {xs : List S45} (h : Kd.C k45 w A n xs) (i : Int) (h0 : 0 ≤ i) (h1 : i < n) : ∃ ad A3 c3, A = some ad ∧ w.cell? (ad.add (i.toNat * 5)) = some (.int .i64 (rd45 xs i).f0) ∧ w.cell? ⟨(ad.add (i.toNat * 5)).block, (ad.add (i.toNat * 5)).off + 1, none⟩ = some (.int .i64 (rd45 xs i).f1) ∧
    w.cell? ⟨(ad.add (i.toNat * 5)).block, (ad.add (i.toNat * 5)).off + 2, none⟩ = some (.int .i64 (rd45 xs i).f2) ∧ w.cell? ⟨(ad.add (i.toNat * 5)).block, (ad.add (i.toNat * 5)).off + 3, none⟩ = some (.slice A3 (rd45 xs i).f3.length c3) ∧
    w.cell? ⟨(ad.add (i.toNat * 5)).block, (ad.add (i.toNat * 5)).off + 4, none⟩ = some (.bool (rd45 xs i).f4) ∧ (rd45 xs i).f3.length ≤ c3 ∧ (Kd.int .i64).C w A3 (rd45 xs i).f3.length (rd45 xs i).f3 := by
  obtain ⟨ad, c, e, _, hK, hc0⟩ := Kd.C_get h z45 i h0 h1
  have hc : ∀ j u, c[j]? = some u → w.cell? (ad.add (i.toNat * 5 + j)) = some u := hc0
  obtain ⟨A3, c3, rfl, l3, g3⟩ := k45_open hK
  exact ⟨ad, A3, c3, e, hc 0 _ rfl, by rw [← add_field _ _ 1 (by omega)]; exact hc 1 _ rfl, by rw [← add_field _ _ 2 (by omega)]; exact hc 2 _ rfl, by rw [← add_field _ _ 3 (by omega)]; exact hc 3 _ rfl, by rw [← add_field _ _ 4 (by omega)]; exact hc 4 _ rfl, l3, g3⟩
/-- Where the book may lie: apart from the things' variable and both rows. -/
def Away (gt : Nat) (vt vv : Value) (k : Nat) : Prop := k ≠ gt ∧ some k ≠ vt.ownBlock ∧ some k ≠ vv.ownBlock
/-- What a law keeps: the book, all things that were made (in a variable of their own), and a second row. -/
structure LawSt (w W : World) (g gt : Nat) (vt vv : Value) (L : List T) (ids vars : List Int) : Prop where
  book : IsB w W g (Away gt vt vv) L
  cell : W.heap[gt]? = some (.cells #[vt] 42 (0, 0))
  gtb : w.heap.size ≤ gt
  things : (Kd.int .i64).R 3 W w.heap.size (fun k => k ≠ g ∧ k ≠ gt ∧ some k ≠ vv.ownBlock) vt ids
  row : (Kd.int .i64).R 3 W w.heap.size (fun k => k ≠ g ∧ k ≠ gt) vv vars
  below : Below w.heap.size w W
section
variable {w W W1 : World} {g gt : Nat} {vt vv v1 : Value} {L L1 : List T} {ids vars : List Int}
theorem LawSt.gtlt (h : LawSt w W g gt vt vv L ids vars) : gt < W.heap.size := blk_lt h.cell
theorem LawSt.gne (h : LawSt w W g gt vt vv L ids vars) : g ≠ gt := by
  obtain ⟨v, hv, _, _⟩ := h.book
  exact blk_ne hv h.cell (by decide)
theorem LawSt.below_ (h : LawSt w W g gt vt vv L ids vars) (hb : Below W.heap.size W W1) : LawSt w W1 g gt vt vv L ids vars :=
  ⟨h.book.below hb, blk_below h.cell hb, h.gtb, Kd.R_below h.things hb, Kd.R_below h.row hb, below_step h.below hb⟩
theorem LawSt.drew (h : LawSt w W g gt vt vv L ids vars) : LawSt w W.drew g gt vt vv L ids vars := h.below_ (below_drew (Below.refl _ _))
theorem LawSt.fresh (h : LawSt w W g gt vt vv L ids vars) (k : Nat) (hk : W.heap.size ≤ k) : Away gt vt vv k :=
  ⟨by have := h.gtlt; omega, fun he => by have := Kd.R_lt h.things k he.symm; omega, fun he => by have := Kd.R_lt h.row k he.symm; omega⟩
/-- Behind a call of the book's. -/
theorem LawSt.call {P : Nat → Prop} (h : LawSt w W g gt vt vv L ids vars) (hP : ∀ k, P k → Away gt vt vv k) (hb : IsB w W1 g P L1) (hB : Below w.heap.size w W1) (hk : KeepB g P W W1) : LawSt w W1 g gt vt vv L1 ids vars := by
  refine ⟨hb.mono hP, (hk.2 gt h.gtlt h.gne.symm (fun hp => (hP gt hp).1 rfl)).trans h.cell, h.gtb, ?_, ?_, hB⟩
  · refine Kd.R_mono (Kd.R_step (Kd.R_tight Eint h.things) (fun k ho hlt => hk.2 k hlt (h.things.1 k ho.symm).1 (fun hp => (hP k hp).2.1 ho))) (fun k ho => h.things.1 k ho.symm)
  · refine Kd.R_mono (Kd.R_step (Kd.R_tight Eint h.row) (fun k ho hlt => hk.2 k hlt (h.row.1 k ho.symm).1 (fun hp => (hP k hp).2.2 ho))) (fun k ho => h.row.1 k ho.symm)
theorem LawSt.thingsF (h : LawSt w W g gt vt vv L ids vars) : ∃ A c, vt = .slice A ids.length c ∧ Kd.C (Kd.int .i64) W A ids.length ids := by
  obtain ⟨A, c, e, _, hc⟩ := Kd.R_reads h.things
  exact ⟨A, c, e, hc⟩
/-- One more thing: behind the append, and the store. -/
theorem LawSt.pushed (h : LawSt w W g gt vt vv L ids vars) {x : Int} (hR : (Kd.int .i64).R 3 W1 w.heap.size (fun k => k ≠ g ∧ k ≠ gt ∧ some k ≠ vv.ownBlock) v1 (ids ++ [x])) (hB : Below w.heap.size w W1) (hg : W.grownBy W1 vt.ownBlock)
    (hat : v1.ownBlock = vt.ownBlock ∨ ∃ b, v1.ownBlock = some b ∧ W.heap.size ≤ b) : LawSt w (W1.setCell ⟨gt, 0, none⟩ v1) g gt v1 vv L (ids ++ [x]) vars := by
  have hgt : some gt ≠ vt.ownBlock := fun he => (h.things.1 gt he.symm).2.1 rfl
  have hgg : some g ≠ vt.ownBlock := fun he => (h.things.1 g he.symm).1 rfl
  have hc1 := blk_grown h.cell hg hgt
  have hb := h.book.bound
  have hb1 : IsB w W1 g (Away gt v1 vv) L := (hb.step (hg.block g h.book.lt hgg) (fun k hk hlt => hg.block k hlt hk.1.2.1)).mono (fun k hk => ⟨hk.1.1, by
    rcases hat with hat | ⟨b, hb1, hb2⟩
    · rw [hat]; exact hk.1.2.1
    · rw [hb1]; intro he; injection he with he; have := hk.2; omega, hk.1.2.2⟩)
  have hfar : ∀ k, k ≠ gt → (W1.setCell ⟨gt, 0, none⟩ v1).heap[k]? = W1.heap[k]? := fun k hk => Below.heap_setCell W1 ⟨gt, 0, none⟩ v1 k hk
  refine ⟨hb1.step (hfar g h.gne) (fun k hk _ => hfar k hk.1), ?_, h.gtb, ?_, ?_, below_set hB h.gtb⟩
  · have h2 := blk_set hc1 0 v1
    simpa using h2
  · exact Kd.R_far (p := ⟨gt, 0, none⟩) hR (fun k hk => hk.2.1) v1
  · exact Kd.R_far (p := ⟨gt, 0, none⟩) (Kd.R_grown2 h.row Eint hg (fun k hk => (h.things.1 k hk).2.2)) (fun k hk => hk.2) v1
/-- One more in the second row. -/
theorem LawSt.rowed (h : LawSt w W g gt vt vv L ids vars) {x : Int} (hR : (Kd.int .i64).R 3 W1 w.heap.size (fun k => k ≠ g ∧ k ≠ gt ∧ some k ≠ vt.ownBlock) v1 (vars ++ [x])) (hB : Below w.heap.size w W1) (hg : W.grownBy W1 vv.ownBlock)
    (hat : v1.ownBlock = vv.ownBlock ∨ ∃ b, v1.ownBlock = some b ∧ W.heap.size ≤ b) : LawSt w W1 g gt vt v1 L ids (vars ++ [x]) := by
  have hgt : some gt ≠ vv.ownBlock := fun he => (h.row.1 gt he.symm).2 rfl
  have hgg : some g ≠ vv.ownBlock := fun he => (h.row.1 g he.symm).1 rfl
  have hb := h.book.bound
  refine ⟨(hb.step (hg.block g h.book.lt hgg) (fun k hk hlt => hg.block k hlt hk.1.2.2)).mono (fun k hk => ⟨hk.1.1, hk.1.2.1, by
    rcases hat with hat | ⟨b, hb1, hb2⟩
    · rw [hat]; exact hk.1.2.2
    · rw [hb1]; intro he; injection he with he; have := hk.2; omega⟩), blk_grown h.cell hg hgt, h.gtb, ?_, Kd.R_mono hR (fun k hk => ⟨hk.1, hk.2.1⟩), hB⟩
  have h2 := Kd.R_grown2 h.things Eint hg (fun k hk he => (h.things.1 k he.symm).2.2 hk.symm)
  refine Kd.R_mono (Kd.R_tight Eint h2) (fun k hk => ?_)
  have h3 := h2.1 k hk.symm
  exact ⟨h3.1, h3.2.1, fun he => (hR.1 k he.symm).2.2 hk⟩
end
end Go.Proofs.Ytjfoppmpiklfiab.BookW
