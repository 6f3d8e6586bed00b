/- What the law TruthRuns keeps: the book, the things that were made, the document's things, and what is laid beside them. Conditions: none. -/
import Derived.Test.YtjfoppmpiklfiabBookI
import Derived.Test.YtjfoppmpiklfiabDocs2
namespace Go.Proofs.Ytjfoppmpiklfiab.BookW
open Go.RowKit Go.Proofs.YtjfoppmpiklfiabW.PrintWords Go.Proofs.YtjfoppmpiklfiabW.PrintLast Go.Proofs.YtjfoppmpiklfiabW.PrintMore Go.Proofs.Ytjfoppmpiklfiab.PTruthRuns Go.Proofs.Ytjfoppmpiklfiab.Truth
set_option linter.unusedVariables false
set_option linter.unusedSimpArgs false
set_option maxHeartbeats 4000000 in
set_option maxRecDepth 100000 in
theorem at_calls (gt : Nat) (A : Option Addr) (c : Nat) (ids : List Int) (x : Int) (w : World) (hc : w.cell? ⟨gt, 0, none⟩ = some (.slice A ids.length c)) (hr : Kd.C (Kd.int .i64) w A ids.length ids) :
    Calls Try.prog 39 #[.int .i64 x, .pointer (some ⟨gt, 0, none⟩)] w fun e w' => e = .returned (.int .i64 (idAt ids ids.length x)) ∧ w = w' := by
  by_cases h0 : x < 0
  · have hv : idAt ids ids.length x = -1 := by unfold idAt; rw [if_neg (by omega)]
    have q0 : decide (x < 0) = true := decide_eq_true h0
    rw [hv]
    clear h0 hv hr hc
    go_enter Try.func39, Try.ntmps39
    go_wp2
    go_ret
    exact ⟨rfl, rfl⟩
  · by_cases h1 : (ids.length : Int) ≤ x
    · have hv : idAt ids ids.length x = -1 := by unfold idAt; rw [if_neg (by omega)]
      have q0 : decide (x < 0) = false := decide_eq_false h0
      have q1 : decide ((ids.length : Int) ≤ x) = true := decide_eq_true h1
      rw [hv]
      clear h0 h1 hv hr
      go_enter Try.func39, Try.ntmps39
      go_wp2
      go_ret
      exact ⟨rfl, rfl⟩
    · obtain ⟨ad, rfl, hcell⟩ := (Kd.reads_of_C (enc := Value.int .i64) (d := (0 : Int)) (h1 := fun _ => rfl) hr).at_ x (by omega) (by omega)
      have hv : idAt ids ids.length x = rdOf 0 ids x := by unfold idAt rdOf; rw [if_pos (by omega)]
      have q0 : decide (x < 0) = false := decide_eq_false h0
      have q1 : decide ((ids.length : Int) ≤ x) = false := decide_eq_false h1
      have p0 : 0 ≤ x := by omega
      have p1 : x < (ids.length : Int) := by omega
      rw [hv]
      clear hr h0 h1 hv
      replace p0 := eq_true p0
      replace p1 := eq_true p1
      go_enter Try.func39, Try.ntmps39
      go_wp2
      go_ret
      exact ⟨rfl, rfl⟩
/-- What holds of a world for its blocks of V alone. -/
def Keep (X : World → (Nat → Prop) → Prop) (W : World) (V : Nat → Prop) : Prop := ∀ W' V', (∀ k, V k → V' k) → (∀ k, V k → k < W.heap.size → W'.heap[k]? = W.heap[k]?) → X W' V'
section
variable {X Y : World → (Nat → Prop) → Prop} {W W1 : World} {V V1 : Nat → Prop}
theorem Keep.step (h : Keep X W V) (hs : W.heap.size ≤ W1.heap.size) (hm : ∀ k, V k → k < W.heap.size → W1.heap[k]? = W.heap[k]?) (hv : ∀ k, V k → V1 k) : Keep X W1 V1 :=
  fun W' V' hv' hm' => h W' V' (fun k hk => hv' k (hv k hk)) (fun k hk hlt => (hm' k (hv k hk) (by omega)).trans (hm k hk hlt))
theorem Keep.now (h : Keep X W V) : X W V := h W V (fun _ h => h) (fun _ _ _ => rfl)
theorem Keep.imp (h : Keep X W V) (hi : ∀ W' V', X W' V' → Y W' V') : Keep Y W V := fun W' V' hv hm => hi _ _ (h W' V' hv hm)
theorem Keep.and (h : Keep X W V) (h' : Keep Y W V) : Keep (fun W V => X W V ∧ Y W V) W V := fun W' V' hv hm => ⟨h W' V' hv hm, h' W' V' hv hm⟩
theorem Keep.blk {b : Nat} {o : Obj} (h : W.heap[b]? = some o) (hb : V b) : Keep (fun W' _ => W'.heap[b]? = some o) W V := fun W' V' _ hm => (hm b hb (blk_lt h)).trans h
theorem Keep.row {α : Type} {d : Kd α} {e base : Nat} {v : Value} {xs : List α} (h : d.R e W base V v xs) : Keep (fun W' V' => d.R e W' base V' v xs) W V := fun W' V' hv hm => Kd.R_mono (Kd.R_step h hm) hv
theorem Keep.ofF {α : Type} {d : Kd α} {A : Option Addr} {n : Nat} {xs : List α} (h : Kd.F d W V A n xs) : Keep (fun W' _ => d.C W' A n xs) W V := fun W' V' hv hm => h W' hm
end
/-- A row of one thing of the document's, in the block b. -/
def TX (base b : Nat) (t : S51) (W : World) (V : Nat → Prop) : Prop := ∃ cs, cs.length = 3 ∧ W.heap[b]? = some (.cells cs.toArray 51 (0, 0)) ∧ k51.M W base V t cs
theorem Keep.tx {W : World} {V : Nat → Prop} {base b : Nat} {t : S51} (h : TX base b t W V) (hb : V b) : Keep (TX base b t) W V := fun W' V' hv hm => by
  obtain ⟨cs, h0, h1, h2⟩ := h
  exact ⟨cs, h0, (hm b hb (blk_lt h1)).trans h1, k51.M_mono hv (Kd.M_step h2 hm)⟩
theorem TX.reads {W : World} {V : Nat → Prop} {base b : Nat} {t : S51} (h : TX base b t W V) : ReadsRow (fun x cs => k51.M W base V x cs) 3 W (some ⟨b, 0, none⟩) 1 [t] := by
  obtain ⟨cs, h0, h1, h2⟩ := h
  refine ⟨rfl, by omega, fun _ => ⟨⟨b, 0, none⟩, rfl, fun j p hj => ?_⟩⟩
  match j, hj with
  | 0, hj =>
    have hp : t = p := by simpa using hj
    subst hp
    refine ⟨cs, h0, h2, fun i u hu => ?_⟩
    have h3 := blk_cell h1 i
    rw [show (Addr.add ⟨b, 0, none⟩ (0 * 3 + i)) = ⟨b, i, none⟩ by rw [add_at]; congr 1; omega]
    rw [h3]; simpa using hu
  | j + 1, hj => simp at hj
structure RunSt (w W : World) (g gt : Nat) (vc vt vl : Value) (U V : Nat → Prop) (L : List T) (ids : List Int) (l : List S51) (X : World → (Nat → Prop) → Prop) : Prop where
  book : IsB w W g (fun k => k ≠ gt ∧ some k ≠ vt.ownBlock ∧ ¬ U k ∧ ¬ V k) L
  cell : W.heap[gt]? = some (.cells #[vc] 42 (0, 0))
  gtb : w.heap.size ≤ gt
  things : (Kd.int .i64).R 3 W w.heap.size (fun k => k ≠ g ∧ k ≠ gt ∧ ¬ U k ∧ ¬ V k) vt ids
  row : k51.R 51 W w.heap.size U vl l
  hU : ∀ k, U k → k < W.heap.size ∧ k ≠ g ∧ k ≠ gt ∧ ¬ V k
  hV : ∀ k, V k → k < W.heap.size ∧ k ≠ g ∧ k ≠ gt
  keep : Keep X W V
  below : Below w.heap.size w W
section
variable {w W W1 : World} {g gt : Nat} {vc vt vl v1 : Value} {U V : Nat → Prop} {L L1 : List T} {ids : List Int} {l : List S51} {X Y : World → (Nat → Prop) → Prop}
theorem RunSt.gtlt (h : RunSt w W g gt vc vt vl U V L ids l X) : gt < W.heap.size := blk_lt h.cell
theorem RunSt.gne (h : RunSt w W g gt vc vt vl U V L ids l X) : g ≠ gt := by
  obtain ⟨v, hv, _, _⟩ := h.book
  exact blk_ne hv h.cell (by decide)
theorem RunSt.fresh (h : RunSt w W g gt vc vt vl U V L ids l X) (k : Nat) (hk : W.heap.size ≤ k) : k ≠ gt ∧ some k ≠ vt.ownBlock ∧ ¬ U k ∧ ¬ V k :=
  ⟨by have := h.gtlt; omega, fun he => by have := Kd.R_lt h.things k he.symm; omega, fun hu => by have := (h.hU k hu).1; omega, fun hu => by have := (h.hV k hu).1; omega⟩
theorem RunSt.below_ (h : RunSt w W g gt vc vt vl U V L ids l X) (hb : Below W.heap.size W W1) : RunSt w W1 g gt vc vt vl U V L ids l X :=
  ⟨h.book.below hb, blk_below h.cell hb, h.gtb, Kd.R_below h.things hb, Kd.R_below h.row hb, fun k hk => ⟨Nat.lt_of_lt_of_le (h.hU k hk).1 hb.size, (h.hU k hk).2⟩, fun k hk => ⟨Nat.lt_of_lt_of_le (h.hV k hk).1 hb.size, (h.hV k hk).2⟩, h.keep.step hb.size (fun k _ hlt => hb.block k hlt) (fun _ hk => hk), below_step h.below hb⟩
/-- Behind a call of the book's. -/
theorem RunSt.call (h : RunSt w W g gt vc vt vl U V L ids l X) (hb : IsB w W1 g (fun k => k ≠ gt ∧ some k ≠ vt.ownBlock ∧ ¬ U k ∧ ¬ V k) L1) (hB : Below w.heap.size w W1) (hk : KeepB g (fun k => k ≠ gt ∧ some k ≠ vt.ownBlock ∧ ¬ U k ∧ ¬ V k) W W1) : RunSt w W1 g gt vc vt vl U V L1 ids l X := by
  refine ⟨hb, (hk.2 gt h.gtlt h.gne.symm (fun hp => hp.1 rfl)).trans h.cell, h.gtb, ?_, ?_, fun k hu => ⟨Nat.lt_of_lt_of_le (h.hU k hu).1 hk.1, (h.hU k hu).2⟩, fun k hu => ⟨Nat.lt_of_lt_of_le (h.hV k hu).1 hk.1, (h.hV k hu).2⟩, ?_, hB⟩
  · exact Kd.R_mono (Kd.R_step (Kd.R_tight Eint h.things) (fun k ho hlt => hk.2 k hlt (h.things.1 k ho.symm).1 (fun hp => hp.2.1 ho))) (fun k ho => h.things.1 k ho.symm)
  · exact Kd.R_step h.row (fun k hu hlt => hk.2 k hlt (h.hU k hu).2.1 (fun hp => hp.2.2.1 hu))
  · exact h.keep.step hk.1 (fun k hv hlt => hk.2 k hlt (h.hV k hv).2.1 (fun hp => hp.2.2.2 hv)) (fun _ hk => hk)
/-- One more thing; its variable is stored later. -/
theorem RunSt.pushed (h : RunSt w W g gt vc vt vl U V L ids l X) {ids1 : List Int} (hR : (Kd.int .i64).R 3 W1 w.heap.size (fun k => k ≠ g ∧ k ≠ gt ∧ ¬ U k ∧ ¬ V k) v1 ids1) (hB : Below w.heap.size w W1) (hg : W.grownBy W1 vt.ownBlock)
    (hat : v1.ownBlock = vt.ownBlock ∨ ∃ b, v1.ownBlock = some b ∧ W.heap.size ≤ b) : RunSt w W1 g gt vc v1 vl U V L ids1 l X := by
  have hgt : some gt ≠ vt.ownBlock := fun he => (h.things.1 gt he.symm).2.1 rfl
  have hgg : some g ≠ vt.ownBlock := fun he => (h.things.1 g he.symm).1 rfl
  have hb := h.book.bound
  refine ⟨(hb.step (hg.block g h.book.lt hgg) (fun k hk hlt => hg.block k hlt hk.1.2.1)).mono (fun k hk => ⟨hk.1.1, ?_, hk.1.2.2⟩), blk_grown h.cell hg hgt, h.gtb, hR, ?_, fun k hu => ⟨Nat.lt_of_lt_of_le (h.hU k hu).1 hg.size, (h.hU k hu).2⟩, fun k hu => ⟨Nat.lt_of_lt_of_le (h.hV k hu).1 hg.size, (h.hV k hu).2⟩, ?_, hB⟩
  · rcases hat with hat | ⟨b, hb1, hb2⟩
    · rw [hat]; exact hk.1.2.1
    · rw [hb1]; intro he; injection he with he; have := hk.2; omega
  · exact Kd.R_grown h.row hg (fun k hu he => (h.things.1 k he.symm).2.2.1 hu)
  · exact h.keep.step hg.size (fun k hv hlt => hg.block k hlt (fun he => (h.things.1 k he.symm).2.2.2 hv)) (fun _ hk => hk)
theorem RunSt.stored (h : RunSt w W g gt vc vt vl U V L ids l X) : RunSt w (W.setCell ⟨gt, 0, none⟩ vt) g gt vt vt vl U V L ids l X := by
  have hfar : ∀ k, k ≠ gt → (W.setCell ⟨gt, 0, none⟩ vt).heap[k]? = W.heap[k]? := fun k hk => Below.heap_setCell W ⟨gt, 0, none⟩ vt k hk
  have hsz : (W.setCell ⟨gt, 0, none⟩ vt).heap.size = W.heap.size := by simp [World.setCell]
  refine ⟨h.book.step (hfar g h.gne) (fun k hk _ => hfar k hk.1), ?_, h.gtb, Kd.R_far (p := ⟨gt, 0, none⟩) h.things (fun k hk => hk.2.1) vt, Kd.R_far (p := ⟨gt, 0, none⟩) h.row (fun k hk => (h.hU k hk).2.2.1) vt, fun k hu => ⟨by rw [hsz]; exact (h.hU k hu).1, (h.hU k hu).2⟩, fun k hu => ⟨by rw [hsz]; exact (h.hV k hu).1, (h.hV k hu).2⟩, h.keep.step (by rw [hsz]; exact Nat.le_refl _) (fun k hv _ => hfar k (h.hV k hv).2.2) (fun _ hk => hk), below_set h.below h.gtb⟩
  have h2 := blk_set h.cell 0 vt
  simpa using h2
/-- What is laid beside. -/
theorem RunSt.tmp (h : RunSt w W g gt vc vt vl U V L ids l X) (hb : Below W.heap.size W W1) (hY : Keep Y W1 (fun k => V k ∨ (W.heap.size ≤ k ∧ k < W1.heap.size))) : RunSt w W1 g gt vc vt vl U (fun k => V k ∨ (W.heap.size ≤ k ∧ k < W1.heap.size)) L ids l (fun W V => X W V ∧ Y W V) := by
  have hg := h.book.lt
  have hgt := h.gtlt
  refine ⟨(h.book.bound.below hb).mono (fun k hk => ⟨hk.1.1, hk.1.2.1, hk.1.2.2.1, fun hv => ?_⟩), blk_below h.cell hb, h.gtb, ?_, Kd.R_below h.row hb, fun k hk => ⟨Nat.lt_of_lt_of_le (h.hU k hk).1 hb.size, (h.hU k hk).2.1, (h.hU k hk).2.2.1, fun hv => ?_⟩, fun k hk => ?_, (h.keep.step hb.size (fun k _ hlt => hb.block k hlt) (fun _ hk => .inl hk)).and hY, below_step h.below hb⟩
  · rcases hv with hv | hv
    · exact hk.1.2.2.2 hv
    · have := hk.2; omega
  · refine Kd.R_mono (Kd.R_below (Kd.R_bound h.things) hb) (fun k hk => ⟨hk.1.1, hk.1.2.1, hk.1.2.2.1, fun hv => ?_⟩)
    rcases hv with hv | hv
    · exact hk.1.2.2.2 hv
    · have := hk.2.2.1; omega
  · rcases hv with hv | hv
    · exact (h.hU k hk).2.2.2 hv
    · have := (h.hU k hk).1; omega
  · rcases hk with hk | hk
    · exact ⟨Nat.lt_of_lt_of_le (h.hV k hk).1 hb.size, (h.hV k hk).2⟩
    · exact ⟨hk.2, by omega, by omega⟩
/-- One more of the document's things; what was laid beside is let go. -/
theorem RunSt.rowed (h : RunSt w W g gt vc vt vl U V L ids l X) {l1 : List S51} (hR : k51.R 51 W1 w.heap.size (fun k => U k ∨ V k ∨ W.heap.size ≤ k) v1 l1) (hB : Below w.heap.size w W1) (hg : W.grownBy W1 vl.ownBlock) :
    RunSt w W1 g gt vc vt v1 (fun k => (U k ∨ V k ∨ W.heap.size ≤ k) ∧ k < W1.heap.size) (fun _ => False) L ids l1 (fun _ _ => True) := by
  have hgt : some gt ≠ vl.ownBlock := fun he => (h.hU gt (h.row.1 gt he.symm)).2.2.1 rfl
  have hgg : some g ≠ vl.ownBlock := fun he => (h.hU g (h.row.1 g he.symm)).2.1 rfl
  have hl1 := h.book.lt
  have hl2 := h.gtlt
  refine ⟨(h.book.bound.step (hg.block g h.book.lt hgg) (fun k hk hlt => hg.block k hlt (fun he => hk.1.2.2.1 (h.row.1 k he.symm)))).mono (fun k hk => ⟨hk.1.1, hk.1.2.1, fun hu => ?_, fun hf => hf⟩), blk_grown h.cell hg hgt, h.gtb, ?_, Kd.R_mono (Kd.R_bound hR) (fun k hk => ⟨hk.1, hk.2.2.1⟩), fun k hk => ⟨hk.2, ?_, ?_, fun hf => hf⟩, fun k hk => hk.elim, fun _ _ _ _ => trivial, hB⟩
  · rcases hu.1 with hu | hu | hu
    · exact hk.1.2.2.1 hu
    · exact hk.1.2.2.2 hu
    · have := hk.2; omega
  · refine Kd.R_mono (Kd.R_bound h.things |> fun h2 => Kd.R_grown2 h2 Eint hg (fun k hk he => (h.things.1 k he.symm).2.2.1 (h.row.1 k hk))) (fun k hk => ⟨hk.1.1, hk.1.2.1, fun hu => ?_, fun hf => hf⟩)
    rcases hu.1 with hu | hu | hu
    · exact hk.1.2.2.1 hu
    · exact hk.1.2.2.2 hu
    · have := hk.2.2.1; omega
  · rcases hk.1 with hu | hu | hu
    · exact (h.hU k hu).2.1
    · exact (h.hV k hu).2.1
    · omega
  · rcases hk.1 with hu | hu | hu
    · exact (h.hU k hu).2.2.1
    · exact (h.hV k hu).2.2
    · omega
/-- A variable of the document's becomes known. -/
theorem RunSt.putl {b n c : Nat} (h : RunSt w W g gt vc vt (.slice (some ⟨b, 0, none⟩) n c) U V L ids l X) (i : Int) (h0 : 0 ≤ i) (h1 : i < n) (v : Int) :
    RunSt w (W.setCell ⟨b, i.toNat * 3 + 2, none⟩ (.int .i64 v)) g gt vc vt (.slice (some ⟨b, 0, none⟩) n c) U V L ids (l.set i.toNat ⟨(l.getD i.toNat z51).f0, (l.getD i.toNat z51).f1, v⟩) X := by
  have hbU : U b := h.row.1 b (by simp [Value.ownBlock])
  have hu := h.hU b hbU
  have hfar : ∀ k, k ≠ b → (W.setCell ⟨b, i.toNat * 3 + 2, none⟩ (.int .i64 v)).heap[k]? = W.heap[k]? := fun k hk => Below.heap_setCell W ⟨b, i.toNat * 3 + 2, none⟩ _ k hk
  have hsz : (W.setCell ⟨b, i.toNat * 3 + 2, none⟩ (.int .i64 v)).heap.size = W.heap.size := by simp [World.setCell]
  obtain ⟨cs, hcl, hM, hcc⟩ := Kd.R_getA h.row z51 i h0 h1
  obtain ⟨v1, rfl, hv1⟩ := k51_openM hM
  have hcc' : ∀ j u, [Value.int .i64 (l.getD i.toNat z51).f0, v1, .int .i64 (l.getD i.toNat z51).f2][j]? = some u → W.cell? ⟨b, i.toNat * k51.sz + j, none⟩ = some u := fun j u hu => by
    have h3 := hcc j u hu
    rw [add_at, Nat.zero_add] at h3
    exact h3
  obtain ⟨hrow, hg⟩ := Kd.R_seg (d := k51) h.row i h0 h1 (c := [Value.int .i64 (l.getD i.toNat z51).f0, v1, .int .i64 (l.getD i.toNat z51).f2]) (seg := [.int .i64 v]) (j := 2) rfl hcc' (by show 2 + 1 ≤ 3; omega)
    (x' := ⟨(l.getD i.toNat z51).f0, (l.getD i.toNat z51).f1, v⟩) (okp := fun k => U k ∧ some k ≠ (Value.slice (some ⟨b, 0, none⟩) n c).ownBlock) (k51_mkM W _ _ ⟨(l.getD i.toNat z51).f0, (l.getD i.toNat z51).f1, v⟩ hv1) (fun k hk => ⟨hk.1, fun he => hk.2 (by simp [Value.ownBlock, he])⟩)
  refine ⟨h.book.step (hfar g (fun he => hu.2.1 he.symm)) (fun k hk _ => hfar k (fun he => hk.2.2.1 (he ▸ hbU))), (hfar gt (fun he => hu.2.2.1 he.symm)).trans h.cell, h.gtb, ?_, hrow, fun k hk => ⟨by rw [hsz]; exact (h.hU k hk).1, (h.hU k hk).2⟩, fun k hk => ⟨by rw [hsz]; exact (h.hV k hk).1, (h.hV k hk).2⟩, h.keep.step (by rw [hsz]; exact Nat.le_refl _) (fun k hv _ => hfar k (fun he => hu.2.2.2 (he ▸ hv))) (fun _ hk => hk), below_set h.below (Kd.R_base h.row b (by simp [Value.ownBlock]))⟩
  exact Kd.R_far (p := ⟨b, i.toNat * 3 + 2, none⟩) h.things (fun k hk he => hk.2.2.1 (he ▸ hbU)) _
/-- A row that lies beside has grown; what else lay beside is let go. -/
theorem RunSt.grew (h : RunSt w W g gt vc vt vl U V L ids l X) {v0 : Value} {ys : List Int} (hv : ∀ k, v0.ownBlock = some k → V k) (hR : (Kd.int .i64).R 3 W1 w.heap.size (fun k => V k ∨ W.heap.size ≤ k) v1 ys) (hB : Below w.heap.size w W1) (hg : W.grownBy W1 v0.ownBlock) :
    RunSt w W1 g gt vc vt vl U (fun k => (V k ∨ W.heap.size ≤ k) ∧ k < W1.heap.size) L ids l (fun W' V' => (Kd.int .i64).R 3 W' w.heap.size V' v1 ys) := by
  have hgt : some gt ≠ v0.ownBlock := fun he => (h.hV gt (hv gt he.symm)).2.2 rfl
  have hgg : some g ≠ v0.ownBlock := fun he => (h.hV g (hv g he.symm)).2.1 rfl
  have hl1 := h.book.lt
  have hl2 := h.gtlt
  refine ⟨(h.book.bound.step (hg.block g h.book.lt hgg) (fun k hk hlt => hg.block k hlt (fun he => hk.1.2.2.2 (hv k he.symm)))).mono (fun k hk => ⟨hk.1.1, hk.1.2.1, hk.1.2.2.1, fun hu => ?_⟩), blk_grown h.cell hg hgt, h.gtb, ?_, Kd.R_grown h.row hg (fun k hu he => (h.hU k hu).2.2.2 (hv k he.symm)), fun k hk => ⟨Nat.lt_of_lt_of_le (h.hU k hk).1 hg.size, (h.hU k hk).2.1, (h.hU k hk).2.2.1, fun hu => ?_⟩, fun k hk => ⟨hk.2, ?_, ?_⟩, Keep.row (Kd.R_mono (Kd.R_bound hR) (fun k hk => ⟨hk.1, hk.2.2.1⟩)), hB⟩
  · rcases hu.1 with hu | hu
    · exact hk.1.2.2.2 hu
    · have := hk.2; omega
  · refine Kd.R_mono (Kd.R_grown2 (Kd.R_bound h.things) Eint hg (fun k hk he => (h.things.1 k he.symm).2.2.2 (hv k hk))) (fun k hk => ⟨hk.1.1, hk.1.2.1, hk.1.2.2.1, fun hu => ?_⟩)
    rcases hu.1 with hu | hu
    · exact hk.1.2.2.2 hu
    · have := hk.2.2.1; omega
  · rcases hu.1 with hu | hu
    · exact (h.hU k hk).2.2.2 hu
    · have := (h.hU k hk).1; omega
  · rcases hk.1 with hu | hu
    · exact (h.hV k hu).2.1
    · omega
  · rcases hk.1 with hu | hu
    · exact (h.hV k hu).2.2
    · omega
/-! ### the same, with what lies where left open -/
def Run (w W : World) (g gt : Nat) (vc vt vl : Value) (L : List T) (ids : List Int) (l : List S51) (X : World → (Nat → Prop) → Prop) : Prop := ∃ U V, RunSt w W g gt vc vt vl U V L ids l X
theorem Run.below (h : Run w W g gt vc vt vl L ids l X) : Below w.heap.size w W := by obtain ⟨_, _, h⟩ := h; exact h.below
theorem Run.below_ (h : Run w W g gt vc vt vl L ids l X) (hb : Below W.heap.size W W1) : Run w W1 g gt vc vt vl L ids l X := by obtain ⟨U, V, h⟩ := h; exact ⟨U, V, h.below_ hb⟩
theorem Run.drew (h : Run w W g gt vc vt vl L ids l X) : Run w W.drew g gt vc vt vl L ids l X := h.below_ (below_drew (Below.refl _ _))
theorem Run.imp (h : Run w W g gt vc vt vl L ids l X) (hi : ∀ W V, X W V → Y W V) : Run w W g gt vc vt vl L ids l Y := by
  obtain ⟨U, V, h⟩ := h
  exact ⟨U, V, ⟨h.book, h.cell, h.gtb, h.things, h.row, h.hU, h.hV, h.keep.imp hi, h.below⟩⟩
theorem Run.has (h : Run w W g gt vc vt vl L ids l X) : ∃ V, X W V := by obtain ⟨_, V, h⟩ := h; exact ⟨V, h.keep.now⟩
theorem Run.now (h : Run w W g gt vc vt vl L ids l X) {p : Prop} (hp : ∀ V, X W V → p) : p := by obtain ⟨V, h⟩ := h.has; exact hp V h
theorem Run.cell (h : Run w W g gt vc vt vl L ids l X) : W.heap[gt]? = some (.cells #[vc] 42 (0, 0)) := by obtain ⟨_, _, h⟩ := h; exact h.cell
theorem Run.cell0 (h : Run w W g gt vc vt vl L ids l X) : W.cell? ⟨gt, 0, none⟩ = some vc := (blk_cell h.cell 0).trans rfl
theorem Run.thingsC (h : Run w W g gt vc vt vl L ids l X) : ∃ A c, vt = .slice A ids.length c ∧ ids.length ≤ c ∧ Kd.C (Kd.int .i64) W A ids.length ids := by obtain ⟨_, _, h⟩ := h; exact Kd.R_reads h.things
theorem Run.rowC (h : Run w W g gt vc vt vl L ids l X) : ∃ A c, vl = .slice A l.length c ∧ l.length ≤ c ∧ Kd.C k51 W A l.length l := by obtain ⟨_, _, h⟩ := h; exact Kd.R_reads h.row
theorem Run.stored (h : Run w W g gt vc vt vl L ids l X) : Run w (W.setCell ⟨gt, 0, none⟩ vt) g gt vt vt vl L ids l X := by obtain ⟨U, V, h⟩ := h; exact ⟨U, V, h.stored⟩
theorem Run.putl {b n c : Nat} (h : Run w W g gt vc vt (.slice (some ⟨b, 0, none⟩) n c) L ids l X) (i : Int) (h0 : 0 ≤ i) (h1 : i < n) (v : Int) :
    Run w (W.setCell ⟨b, i.toNat * 3 + 2, none⟩ (.int .i64 v)) g gt vc vt (.slice (some ⟨b, 0, none⟩) n c) L ids (l.set i.toNat ⟨(l.getD i.toNat z51).f0, (l.getD i.toNat z51).f1, v⟩) X := by obtain ⟨U, V, h⟩ := h; exact ⟨U, V, h.putl i h0 h1 v⟩
theorem Run.tmp (h : Run w W g gt vc vt vl L ids l X) (hb : Below W.heap.size W W1) (hY : ∀ V, Keep X W1 V → (∀ k, W.heap.size ≤ k → k < W1.heap.size → V k) → Keep Y W1 V) : Run w W1 g gt vc vt vl L ids l (fun W V => X W V ∧ Y W V) := by
  obtain ⟨U, V, h⟩ := h
  exact ⟨U, _, h.tmp hb (hY _ (h.keep.step hb.size (fun k _ hlt => hb.block k hlt) (fun _ hk => .inl hk)) (fun k h1 h2 => .inr ⟨h1, h2⟩))⟩
theorem Run.len_ (h : Run w W g gt vc vt vl L ids l X) : Calls Try.prog 40 #[.pointer (some ⟨g, 0, none⟩)] W fun e w' => e = .returned (.int .i64 L.length) ∧ W = w' := by obtain ⟨U, V, h⟩ := h; exact len_calls g _ L w W h.book
theorem Run.value_ (h : Run w W g gt vc vt vl L ids l X) (x : Int) : Calls Try.prog 38 #[.pointer (some ⟨g, 0, none⟩), .int .i64 x] W fun e w' => e = .returned (.int .i64 (valT L x : Nat)) ∧ W = w' := by obtain ⟨U, V, h⟩ := h; exact value_calls g _ L x w W h.book
theorem Run.no_ (h : Run w W g gt vc vt vl L ids l X) (x : Int) (yes : Bool) (hc : canSet L x = false) : Calls Try.prog 37 #[.pointer (some ⟨g, 0, none⟩), .int .i64 x, .bool yes] W fun e w' => e = .returned (.bool false) ∧ W = w' := by obtain ⟨U, V, h⟩ := h; exact set_no g _ L x yes w W h.book hc
theorem Run.var_ (h : Run w W g gt vc vt vl L ids l X) (hl : L.length < 1000000) : Calls Try.prog 34 #[.pointer (some ⟨g, 0, none⟩)] W fun e w' => e = .returned (.int .i64 L.length) ∧ Run w w' g gt vc vt vl (mkVar L) ids l X := by
  obtain ⟨U, V, h⟩ := h
  exact (var_calls g _ L w W h.book h.fresh h.below hl).mono (fun e w' hr => ⟨hr.1, U, V, h.call hr.2.1 hr.2.2.1 hr.2.2.2⟩)
theorem Run.and_ (h : Run w W g gt vc vt vl L ids l X) (hl : L.length < 1000000) (hInv : Inv L) (x y : Int) : Calls Try.prog 35 #[.pointer (some ⟨g, 0, none⟩), .int .i64 x, .int .i64 y] W fun e w' => e = .returned (.int .i64 (two L 2 x y).2) ∧ Run w w' g gt vc vt vl (two L 2 x y).1 ids l X := by
  obtain ⟨U, V, h⟩ := h
  exact (and_calls g _ L x y w W h.book h.fresh h.below hl hInv).mono (fun e w' hr => ⟨hr.1, U, V, h.call hr.2.1 hr.2.2.1 hr.2.2.2⟩)
theorem Run.or_ {A : Option Addr} {n c : Nat} {xs : List Int} (h : Run w W g gt vc vt vl L ids l X) (hl : L.length + n < 1000000) (hInv : Inv L) (hx : ∀ W V, X W V → Kd.C (Kd.int .i64) W A n xs) (hid : ∀ x ∈ xs, x < L.length) : Calls Try.prog 36 #[.pointer (some ⟨g, 0, none⟩), .slice A n c] W fun e w' => e = .returned (.int .i64 (orAll L 0 xs).2) ∧ Run w w' g gt vc vt vl (orAll L 0 xs).1 ids l X := by
  obtain ⟨U, V, h⟩ := h
  refine (or_calls g _ L A n c xs w W h.book h.fresh h.below hl hInv ?_ hid).mono (fun e w' hr => ⟨hr.1, U, V, h.call hr.2.1 hr.2.2.1 hr.2.2.2⟩)
  exact Kd.F_mono (ok := V) (fun W' hm => hx W' V (h.keep W' V (fun _ hk => hk) hm)) (fun k hk => ⟨(h.hV k hk).2.1, fun hp => hp.2.2.2 hk⟩)
theorem Run.set_ (h : Run w W g gt vc vt vl L ids l X) (hl : L.length < 1000000) (hInv : Inv L) {x : Int} {yes : Bool} {L' : List T} {k : Nat} (hx0 : 0 ≤ x) (hx1 : x < L.length) (hm : (gT L x.toNat).made = 1) (hp : prop k (Truth.start L x.toNat yes) [x.toNat] = some L') :
    Calls Try.prog 37 #[.pointer (some ⟨g, 0, none⟩), .int .i64 x, .bool yes] W fun e w' => e = .returned (.bool true) ∧ Run w w' g gt vc vt vl L' ids l X := by
  obtain ⟨U, V, h⟩ := h
  exact (set_calls g _ L x yes L' k w W h.book h.fresh h.below hl hInv hx0 hx1 hm hp).mono (fun e w' hr => ⟨hr.1, U, V, h.call hr.2.1 hr.2.2.1 hr.2.2.2⟩)
/-- A number's row laid beside. -/
theorem Run.one (h : Run w W g gt vc vt vl L ids l X) (x : Int) : Run w (W.alloc (.cells #[.int .i64 x] 3)) g gt vc vt vl L ids l (fun W' V' => X W' V' ∧ Kd.C (Kd.int .i64) W' (some ⟨W.heap.size, 0, none⟩) 1 [x]) := by
  refine h.tmp (Y := fun W' _ => Kd.C (Kd.int .i64) W' (some ⟨W.heap.size, 0, none⟩) 1 [x]) (below_alloc (Below.refl _ _) _) (fun V _ hV => Keep.ofF ?_)
  have h1 : (Kd.int .i64).R 3 (W.alloc (.cells #[.int .i64 x] 3)) W.heap.size (fun _ => True) (.slice (some ⟨W.heap.size, 0, none⟩) 1 1) [x] := Kd.R_of_own (own_lit_of (enc := fun z : Int => Value.int .i64 z) W W.heap.size 3 [x] (Nat.le_refl _) (by simp)) (fun _ _ => trivial)
  refine Kd.F_mono (Kd.R_F (Kd.R_tight Eint h1)) (fun k hk => ?_)
  have : W.heap.size = k := by simpa [Value.ownBlock] using hk.symm
  exact hV k (by omega) (by simp; omega)
/-- A row of numbers of one's own laid beside. -/
theorem Run.nums (h : Run w W g gt vc vt vl L ids l X) (xs : List Int) (hx : xs.length < 1000) : Run w (W.alloc (.cells (encs (Value.int .i64) xs).toArray 3)) g gt vc vt vl L ids l (fun W' V' => X W' V' ∧ (Kd.int .i64).R 3 W' w.heap.size V' (.slice (some ⟨W.heap.size, 0, none⟩) xs.length xs.length) xs) := by
  refine h.tmp (Y := fun W' V' => (Kd.int .i64).R 3 W' w.heap.size V' (.slice (some ⟨W.heap.size, 0, none⟩) xs.length xs.length) xs) (below_alloc (Below.refl _ _) _) (fun V _ hV => Keep.row ?_)
  refine Kd.R_of_own (own_lit_of (enc := fun z : Int => Value.int .i64 z) W w.heap.size 3 xs h.below.size (by omega)) (fun k hk => ?_)
  have : W.heap.size = k := by simpa [Value.ownBlock] using hk
  exact hV k (by omega) (by simp; omega)
/-- A thing of the document's laid beside; its row of numbers is v1. -/
theorem Run.thing (h : Run w W g gt vc vt vl L ids l X) (k : Int) (f1 : List Int) (x : Int) (v1 : Value) (hx : ∀ W V, X W V → (Kd.int .i64).R 3 W w.heap.size V v1 f1) : Run w (W.alloc (.cells #[.int .i64 k, v1, .int .i64 x] 51)) g gt vc vt vl L ids l (fun W' V' => X W' V' ∧ TX w.heap.size W.heap.size ⟨k, f1, x⟩ W' V') := by
  refine h.tmp (Y := TX w.heap.size W.heap.size ⟨k, f1, x⟩) (below_alloc (Below.refl _ _) _) (fun V hk hV => Keep.tx ⟨[.int .i64 k, v1, .int .i64 x], rfl, heap_alloc_new W _, k51_mkM _ _ _ ⟨k, f1, x⟩ (hx _ _ hk.now)⟩ (hV _ (Nat.le_refl _) (by simp)))
theorem Run.pair (h : Run w W g gt vc vt vl L ids l X) (x y : Int) : Run w (W.alloc (.cells #[.int .i64 x, .int .i64 y] 3)) g gt vc vt vl L ids l (fun W' V' => X W' V' ∧ (Kd.int .i64).R 3 W' w.heap.size V' (.slice (some ⟨W.heap.size, 0, none⟩) 2 2) [x, y]) := h.nums [x, y] (by simp)
theorem Run.empty_ (h : Run w W g gt vc vt vl L ids l X) : Run w (W.alloc (.cells #[] 3)) g gt vc vt vl L ids l (fun W' V' => X W' V' ∧ (Kd.int .i64).R 3 W' w.heap.size V' (.slice (some ⟨W.heap.size, 0, none⟩) 0 0) []) := h.nums [] (by simp)
theorem Run.at_ (h : Run w W g gt vt vt vl L ids l X) (x : Int) {r : Int} (hr : idAt ids ids.length x = r) : Calls Try.prog 39 #[.int .i64 x, .pointer (some ⟨gt, 0, none⟩)] W fun e w' => e = .returned (.int .i64 r) ∧ W = w' := by
  obtain ⟨A, c, e, _, hC⟩ := h.thingsC
  subst hr
  exact at_calls gt A c ids x W (by rw [h.cell0, e]) hC
theorem Run.and2 (h : Run w W g gt vc vt vl L ids l X) (hl : L.length < 1000000) (hInv : Inv L) (x y : Int) {LT : List T × Int} (ht : two L 2 x y = LT) : Calls Try.prog 35 #[.pointer (some ⟨g, 0, none⟩), .int .i64 x, .int .i64 y] W fun e w' => e = .returned (.int .i64 LT.2) ∧ Run w w' g gt vc vt vl LT.1 ids l X := by
  subst ht
  exact h.and_ hl hInv x y
theorem Run.or2 {A : Option Addr} {n c : Nat} {xs : List Int} (h : Run w W g gt vc vt vl L ids l X) (hl : L.length + n < 1000000) (hInv : Inv L) (hx : ∀ W V, X W V → Kd.C (Kd.int .i64) W A n xs) (hid : ∀ x ∈ xs, x < L.length) {LT : List T × Int} (ht : orAll L 0 xs = LT) : Calls Try.prog 36 #[.pointer (some ⟨g, 0, none⟩), .slice A n c] W fun e w' => e = .returned (.int .i64 LT.2) ∧ Run w w' g gt vc vt vl LT.1 ids l X := by
  subst ht
  exact h.or_ hl hInv hx hid
theorem Run.rowF (h : Run w W g gt vc vt vl L ids l X) (hn : 0 < l.length) : ∃ b c, vl = .slice (some ⟨b, 0, none⟩) l.length c := by
  obtain ⟨_, _, h⟩ := h
  obtain ⟨b, c, e, _⟩ := Kd.R_form h.row hn
  exact ⟨b, c, e⟩
theorem Run.lcell {b n c : Nat} (h : Run w W g gt vc vt (.slice (some ⟨b, 0, none⟩) n c) L ids l X) (i : Int) (h0 : 0 ≤ i) (h1 : i < n) :
    W.cell? ⟨b, i.toNat * 3, none⟩ = some (.int .i64 (l.getD i.toNat z51).f0) ∧ W.cell? ⟨b, i.toNat * 3 + 2, none⟩ = some (.int .i64 (l.getD i.toNat z51).f2) ∧ W.frozen? ⟨b, i.toNat * 3 + 2, none⟩ = false := by
  obtain ⟨_, _, h⟩ := h
  obtain ⟨cs, hcl, hM, hcc, hfr⟩ := Kd.R_elem h.row z51 i h0 h1
  obtain ⟨v1, rfl, _⟩ := k51_openM hM
  exact ⟨hcc 0 _ rfl, hcc 2 _ rfl, hfr 2⟩
theorem lens_same {i : Nat} (h : L.length ≤ 2 + 11 * i ∧ ids.length ≤ 2 + i ∧ ∀ t ∈ l, t.f1.length ≤ 10) : (L.length : Int) ≤ (L.length : Int) + 1 ∧ L.length ≤ 2 + 11 * (i + 1) ∧ ids.length ≤ 2 + (i + 1) ∧ ∀ t ∈ l, t.f1.length ≤ 10 := ⟨by omega, by omega, by omega, h.2.2⟩
theorem lens_set {i x : Nat} {v : Int} (h : L.length ≤ 2 + 11 * i ∧ ids.length ≤ 2 + i ∧ ∀ t ∈ l, t.f1.length ≤ 10) (hL : L1.length = L.length) (hx : x < l.length) : (L1.length : Int) ≤ (L.length : Int) + 1 ∧ L1.length ≤ 2 + 11 * (i + 1) ∧ ids.length ≤ 2 + (i + 1) ∧ ∀ t ∈ l.set x ⟨(l.getD x z51).f0, (l.getD x z51).f1, v⟩, t.f1.length ≤ 10 := by
  refine ⟨by omega, by omega, by omega, fun t ht => ?_⟩
  rcases List.mem_or_eq_of_mem_set ht with ht | rfl
  · exact h.2.2 t ht
  · show (l.getD x z51).f1.length ≤ 10
    exact h.2.2 _ (getD_in z51 hx)
theorem lens_more {i : Nat} {mo x : Int} {t : S51} (h : L.length ≤ 2 + 11 * i ∧ ids.length ≤ 2 + i ∧ ∀ t ∈ l, t.f1.length ≤ 10) (hL : L1.length ≤ L.length + 11) (hm : (L1.length : Int) ≤ mo) (ht : t.f1.length ≤ 10) :
    (L1.length : Int) ≤ mo ∧ L1.length ≤ 2 + 11 * (i + 1) ∧ (ids ++ [x]).length ≤ 2 + (i + 1) ∧ ∀ t' ∈ l ++ [t], t'.f1.length ≤ 10 := by
  obtain ⟨a, b, c⟩ := h
  refine ⟨hm, by omega, by rw [List.length_append, List.length_singleton]; omega, fun t' h' => ?_⟩
  rcases List.mem_append.1 h' with h' | h'
  · exact c t' h'
  · rw [List.mem_singleton.1 h']; exact ht
end
end Go.Proofs.Ytjfoppmpiklfiab.BookW
