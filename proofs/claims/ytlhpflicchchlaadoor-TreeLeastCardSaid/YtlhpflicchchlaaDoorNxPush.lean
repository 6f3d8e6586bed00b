/- Contracts of the stack of bits: asking, and pushing. Conditions: none. -/
import Derived.Test.YtlhpflicchchlaaDoorPPathPutsx0
import Derived.Test.YtlhpflicchchlaaDoorListedB
import Derived.Test.YtlhpflicchchlaaDoorCells
import Derived.Test.YtlhpflicchchlaaDoorBitsPure
import Derived.IntWalk
namespace Go.Proofs.YtlhpflicchchlaaDoor.BitsW
open Go.RowKit Go.Proofs.YtlhpflicchchlaaDoorW.PrintWords Go.Proofs.YtlhpflicchchlaaDoorW.PrintLast Go.Proofs.YtlhpflicchchlaaDoorW.PrintMore
set_option linter.unusedVariables false
set_option linter.unusedSimpArgs false
theorem info68 : (Tryd.prog.info? 169).map (fun i => (i.zero, i.size, i.bytes)) = some (some (.int .u64 0), 1, 8) := by kernel_rfl
/-- A Nest's other cells. -/
structure NB where
  most : Int
  lv : Value
  may : Int
  begun : Int
  began : Bool
/-- A stack of bits at block g, m words. -/
def IsB (w0 W : World) (g : Nat) (nb : NB) (m : Nat) (l : List Bool) : Prop :=
  ∃ v, W.heap[g]? = some (.cells #[.int .i64 nb.most, v, .int .i64 l.length, nb.lv, .int .i64 nb.may, .int .i64 nb.begun, .bool nb.began] 113 (0, 0)) ∧ W.ownsRow w0.heap.size 169 1 v m (nums .u64 (pk m l)) ∧ w0.heap.size ≤ g
theorem IsB.below {w0 W W1 : World} {nb : NB} {g m : Nat} {l : List Bool} (h : IsB w0 W g nb m l) (hb : Below W.heap.size W W1) : IsB w0 W1 g nb m l := by
  obtain ⟨v, h1, h2, h3⟩ := h
  exact ⟨v, blk_below h1 hb, pw_own_below h2 hb, h3⟩
/-- What is no row of words, nor the stack's own block, is as it was. -/
def KeepT (g : Nat) (w w' : World) : Prop := w.heap.size ≤ w'.heap.size ∧ ∀ k, k < w.heap.size → k ≠ g → (∀ c f, w.heap[k]? ≠ some (.cells c 169 f)) → w'.heap[k]? = w.heap[k]?
theorem KeepT.refl (g : Nat) (w : World) : KeepT g w w := ⟨Nat.le_refl _, fun _ _ _ _ => rfl⟩
theorem KeepT.trans {g : Nat} {a b c : World} (h : KeepT g a b) (h' : KeepT g b c) : KeepT g a c := by
  refine ⟨Nat.le_trans h.1 h'.1, fun k hk hg ht => ?_⟩
  have e := h.2 k hk hg ht
  rw [h'.2 k (by have := h.1; omega) hg (by rw [e]; exact ht), e]
theorem KeepT.of_below {g : Nat} {a b : World} (h : Below a.heap.size a b) : KeepT g a b := ⟨h.size, fun k hk _ _ => h.block k hk⟩
theorem KeepT.set_ {g : Nat} (a : World) (j : Nat) (u : Value) : KeepT g a (a.setCell ⟨g, j, none⟩ u) := by
  refine ⟨by simp [World.setCell], fun k hk hg _ => ?_⟩
  exact Below.heap_setCell a ⟨g, j, none⟩ u k hg
theorem KeepT.row {g gg : Nat} {a b : World} {c : Array Value} (h : a.heap[gg]? = some (.cells c 169 (0, 0))) (hg : a.grownBy b (some gg)) : KeepT g a b := by
  refine ⟨hg.size, fun k hk _ ht => hg.block k hk ?_⟩
  intro e
  injection e with e
  subst e
  exact ht _ _ h
theorem KeepT.grown {g : Nat} {a b : World} {v : Value} {B n : Nat} {xs : List Value} (h : a.ownsRow B 169 1 v n xs) (hg : a.grownBy b v.ownBlock) : KeepT g a b := by
  rcases h.2 with ⟨rfl, _⟩ | ⟨gg, cap, cur, rfl, _, hh, _⟩
  · exact ⟨hg.size, fun k hk _ ht => hg.block k hk (by simp [Value.ownBlock])⟩
  · exact KeepT.row hh hg
theorem at_calls (nb : NB) (g m j r : Nat) (x : Int) (l : List Bool) (w0 w : World) (hI : IsB w0 w g nb m l) (hx : x = 64 * j + r) (hr : r < 64) (hi : 64 * j + r < l.length) (hm : l.length ≤ 64 * m) (hl : l.length ≤ 1000000) (b : Bool) (hb : l[64 * j + r]? = some b) :
    Calls Tryd.prog 112 #[.pointer (some ⟨g, 1, none⟩), .int .i64 x] w fun e w' => e = .returned (.bool b) ∧ w = w' := by
  obtain ⟨v, hg, ho, hb0⟩ := hI
  obtain ⟨gg, cap, rfl, hgb, hlt⟩ := ho.form (by omega)
  have c0 := (blk_cell hg 1).trans rfl
  have c1 := (blk_cell hg 2).trans rfl
  have hcell : w.cell? ⟨gg, j, none⟩ = some (.int .u64 (num (chunk l j))) := by
    have := ho.cells (g := gg) rfl j (.int .u64 (num (chunk l j))) (by simp [nums, pk_at l (show j < m by omega)])
    have ha : (⟨gg, 0, none⟩ : Addr).add j = ⟨gg, j, none⟩ := by unfold Addr.add; split <;> simp_all
    rwa [ha] at this
  have q1 : (0 : Int) ≤ x := by omega
  have q2 : x < 1000000 := by omega
  have q3 : (0 : Int) ≤ (j : Int) := by omega
  have q4 : (j : Int) < (m : Int) := by omega
  have e1 : x / 64 = (j : Int) := by omega
  have e2 : x % 64 = (r : Int) := by omega
  have HA := Aside0.mk (and_bit (chunk l j) r b (chunk_len l j) (by rw [chunk_at l j r hr]; exact hb))
  clear hx hg ho hb
  go_enter Tryd.func112, Tryd.ntmps112
  go_wp2_with fail
  go_ret
  have h := HA.out
  exact ⟨by show Ending.returned (Value.bool _) = _; rw [h], rfl⟩
theorem len_calls (nb : NB) (g m : Nat) (l : List Bool) (w0 w : World) (hI : IsB w0 w g nb m l) : Calls Tryd.prog 79 #[.pointer (some ⟨g, 1, none⟩)] w fun e w' => e = .returned (.int .i64 l.length) ∧ w = w' := by
  obtain ⟨v, hg, ho, hb0⟩ := hI
  have c1 := (blk_cell hg 2).trans rfl
  clear hg ho
  go_enter Tryd.func79, Tryd.ntmps79
  go_wp2_with fail
  go_ret
  exact ⟨rfl, rfl⟩
theorem top_none (nb : NB) (g : Nat) (w0 w : World) (hI : IsB w0 w g nb 0 []) : Calls Tryd.prog 75 #[.pointer (some ⟨g, 1, none⟩)] w fun e w' => e = .returned (.tuple #[.bool false, .bool false]) ∧ w = w' := by
  obtain ⟨v, hg, ho, hb0⟩ := hI
  have c1 := (blk_cell hg 2).trans rfl
  clear hg ho
  go_enter Tryd.func75, Tryd.ntmps75
  go_wp2_with fail
  go_ret2
  exact ⟨rfl, rfl⟩
theorem top_some (nb : NB) (g m : Nat) (l : List Bool) (b : Bool) (w0 w : World) (hI : IsB w0 w g nb m (l ++ [b])) (hm : l.length + 1 ≤ 64 * m) (hl : l.length < 1000000) :
    Calls Tryd.prog 75 #[.pointer (some ⟨g, 1, none⟩)] w fun e w' => e = .returned (.tuple #[.bool b, .bool true]) ∧ w = w' := by
  have HA := Aside0.mk (fun x hx => at_calls nb g m (l.length / 64) (l.length % 64) x (l ++ [b]) w0 w hI hx (by omega) (by simp; omega) (by simp; omega) (by simp; omega) b (by rw [show 64 * (l.length / 64) + l.length % 64 = l.length by omega]; simp))
  obtain ⟨v, hg, ho, hb0⟩ := hI
  have c1 := (blk_cell hg 2).trans rfl
  have q3 : ((l.length : Int) + 1 == 0) = false := by simp; omega
  clear hg ho
  go_enter Tryd.func75, Tryd.ntmps75
  go_wp2_with fail
  refine (HA.out (l.length : Int) (by omega)).mono ?_
  rintro e w' ⟨rfl, rfl⟩
  go_wp2_with fail
  go_ret2
  exact ⟨rfl, rfl⟩

set_option maxHeartbeats 4000000 in
set_option maxRecDepth 100000 in
theorem push0_false (nb : NB) (g : Nat) (l : List Bool) (w0 w : World) (hI : IsB w0 w g nb (mw l.length) l) (hB : Below w0.heap.size w0 w) (hl : l.length ≤ 100000) (h0 : l.length % 64 = 0) :
    Calls Tryd.prog 113 #[.pointer (some ⟨g, 1, none⟩), .bool false] w fun e w' => e = .returned (.tuple #[]) ∧ IsB w0 w' g nb (mw (l.length + 1)) (l ++ [false]) ∧ Below w0.heap.size w0 w' ∧ KeepT g w w' := by
  obtain ⟨v, hg, ho, hb0⟩ := hI
  have HB := Aside0.mk hB
  have HG := Aside0.mk hb0
  have HO := Aside0.mk ho
  have HC := Aside0.mk (chunk_last_len l)
  obtain ⟨x, hx⟩ : ∃ x : Int, x = (l.length : Int) := ⟨_, rfl⟩
  rw [← hx] at hg
  have HX := Aside0.mk hx
  have K := Aside0.mk hg
  have q1 : (0 : Int) ≤ x := by omega
  have q2 : x ≤ 100000 := by omega
  obtain ⟨r, hr⟩ : ∃ r, r = l.length % 64 := ⟨_, rfl⟩
  have er : r < 64 := by omega
  have c0 := (blk_cell K.out 1).trans rfl
  have c1 := (blk_cell K.out 2).trans rfl
  have z0 := blk_frozen K.out 1
  have z1 := blk_frozen K.out 2
  have e3 : x % 64 = 0 := by omega
  have e2h := Aside0.mk (show x % 64 = (r : Int) by omega)
  have HR := Aside0.mk hr
  obtain ⟨q, hq⟩ : ∃ q, q = l.length / 64 := ⟨_, rfl⟩
  have hmw : mw l.length = q := by unfold mw; omega
  obtain ⟨ws, hws⟩ : ∃ ws, ws = pk q l := ⟨_, rfl⟩
  have hwl : ws.length = q := by rw [hws, pk_len]
  have HQ := Aside0.mk hq
  have HWS := Aside0.mk (show ws ++ [0] = pk (q + 1) l by rw [hws, hq]; exact pk_more l h0)
  have hlim : (ws.length + 1) * 8 ≤ 140737488355328 := by omega
  have HO2 : Aside0 (w.ownsRow w0.heap.size 169 1 v ws.length (nums .u64 ws)) := ⟨by rw [hwl, hws, ← hmw]; exact ho⟩
  clear hB hb0 ho hg hx hr h0 hws hq hmw HO
  go_enter Tryd.func113, Tryd.ntmps113
  go_upto_region 2 with (first | (at_builtin; refine print_append_num (w0 := w0) w0.heap.size rfl (.tmp 14) (.tmp 15) 108 169 .u64 8 rfl Tryd.underlying108 info68 (by omega) v ws 0 rfl rfl HO2.out HB.out HB.out.size hlim ?_; intro v1 w1 hown hbw hgrow hat; obtain ⟨A1, cc1, rfl⟩ := own_slice hown; have hk := blk_grown K.out hgrow (own_ne HO2.out K.out (by decide)); have z0 := blk_frozen hk 1; have z1 := blk_frozen hk 2; have c0 := (blk_cell hk 1).trans rfl; have c1 := (blk_cell hk 2).trans rfl))
  clear hat
  have hwl2 : (ws ++ [0]).length = q + 1 := by rw [List.length_append, hwl]; rfl
  rw [hwl2, HWS.out] at hown
  generalize hw2 : w1.setCell ⟨g, 1, none⟩ (Value.slice A1 (q + 1) cc1) = w2
  obtain ⟨v1, hv1⟩ : ∃ v1, v1 = Value.slice A1 (q + 1) cc1 := ⟨_, rfl⟩
  rw [← hv1] at hown hw2
  have K2 : Aside0 (w2.heap[g]? = some (.cells #[.int .i64 nb.most, v1, .int .i64 x, nb.lv, .int .i64 nb.may, .int .i64 nb.begun, .bool nb.began] 113 (0, 0))) := ⟨by subst hw2; simpa using blk_set hk 1 v1⟩
  have HO3 : Aside0 (w2.ownsRow w0.heap.size 169 1 v1 (q + 1) (nums .u64 (pk (q + 1) l))) := ⟨by subst hw2; exact own_setCell hown (own_ne hown hk (by decide)) _⟩
  have HB2 : Aside0 (Below w0.heap.size w0 w2) := ⟨by subst hw2; exact below_set hbw HG.out⟩
  have HK2 : Aside0 (KeepT g w w2) := ⟨by subst hw2; exact (KeepT.grown HO2.out hgrow).trans (KeepT.set_ _ _ _)⟩
  have e2 := e2h.out
  clear c0 c1 z0 z1 hw2 hk hown hbw hgrow HB HO2 K e3 hwl2 hlim
  clear c0 c1 z0 z1
  clear hwl HWS hv1
  have c1 := (blk_cell K2.out 2).trans rfl
  have z1 := blk_frozen K2.out 2
  go_wp2_with fail
  go_end0
  refine ⟨rfl, ⟨v1, ?_, ?_, HG.out⟩, below_set HB2.out HG.out, HK2.out.trans (KeepT.set_ _ _ _)⟩
  · have h := blk_set K2.out 2 (.int .i64 (x + 1))
    have hx := HX.out
    rw [hx] at h ⊢
    simpa using h
  · have hq := HQ.out
    have hm : mw (l.length + 1) = q + 1 := by unfold mw; omega
    rw [hm, hq, pk_false, ← hq]
    exact own_setCell HO3.out (own_ne HO3.out K2.out (by decide)) _

set_option maxHeartbeats 4000000 in
set_option maxRecDepth 100000 in
theorem push0_true (nb : NB) (g : Nat) (l : List Bool) (w0 w : World) (hI : IsB w0 w g nb (mw l.length) l) (hB : Below w0.heap.size w0 w) (hl : l.length ≤ 100000) (h0 : l.length % 64 = 0) :
    Calls Tryd.prog 113 #[.pointer (some ⟨g, 1, none⟩), .bool true] w fun e w' => e = .returned (.tuple #[]) ∧ IsB w0 w' g nb (mw (l.length + 1)) (l ++ [true]) ∧ Below w0.heap.size w0 w' ∧ KeepT g w w' := by
  obtain ⟨v, hg, ho, hb0⟩ := hI
  have HB := Aside0.mk hB
  have HG := Aside0.mk hb0
  have HO := Aside0.mk ho
  have HC := Aside0.mk (chunk_last_len l)
  obtain ⟨x, hx⟩ : ∃ x : Int, x = (l.length : Int) := ⟨_, rfl⟩
  rw [← hx] at hg
  have HX := Aside0.mk hx
  have K := Aside0.mk hg
  have q1 : (0 : Int) ≤ x := by omega
  have q2 : x ≤ 100000 := by omega
  obtain ⟨r, hr⟩ : ∃ r, r = l.length % 64 := ⟨_, rfl⟩
  have er : r < 64 := by omega
  have c0 := (blk_cell K.out 1).trans rfl
  have c1 := (blk_cell K.out 2).trans rfl
  have z0 := blk_frozen K.out 1
  have z1 := blk_frozen K.out 2
  have e3 : x % 64 = 0 := by omega
  have e2h := Aside0.mk (show x % 64 = (r : Int) by omega)
  have HR := Aside0.mk hr
  obtain ⟨q, hq⟩ : ∃ q, q = l.length / 64 := ⟨_, rfl⟩
  have hmw : mw l.length = q := by unfold mw; omega
  obtain ⟨ws, hws⟩ : ∃ ws, ws = pk q l := ⟨_, rfl⟩
  have hwl : ws.length = q := by rw [hws, pk_len]
  have HQ := Aside0.mk hq
  have HWS := Aside0.mk (show ws ++ [0] = pk (q + 1) l by rw [hws, hq]; exact pk_more l h0)
  have hlim : (ws.length + 1) * 8 ≤ 140737488355328 := by omega
  have HO2 : Aside0 (w.ownsRow w0.heap.size 169 1 v ws.length (nums .u64 ws)) := ⟨by rw [hwl, hws, ← hmw]; exact ho⟩
  clear hB hb0 ho hg hx hr h0 hws hq hmw HO
  go_enter Tryd.func113, Tryd.ntmps113
  go_upto_region 2 with (first | (at_builtin; refine print_append_num (w0 := w0) w0.heap.size rfl (.tmp 14) (.tmp 15) 108 169 .u64 8 rfl Tryd.underlying108 info68 (by omega) v ws 0 rfl rfl HO2.out HB.out HB.out.size hlim ?_; intro v1 w1 hown hbw hgrow hat; obtain ⟨A1, cc1, rfl⟩ := own_slice hown; have hk := blk_grown K.out hgrow (own_ne HO2.out K.out (by decide)); have z0 := blk_frozen hk 1; have z1 := blk_frozen hk 2; have c0 := (blk_cell hk 1).trans rfl; have c1 := (blk_cell hk 2).trans rfl))
  clear hat
  have hwl2 : (ws ++ [0]).length = q + 1 := by rw [List.length_append, hwl]; rfl
  rw [hwl2, HWS.out] at hown
  generalize hw2 : w1.setCell ⟨g, 1, none⟩ (Value.slice A1 (q + 1) cc1) = w2
  obtain ⟨v1, hv1⟩ : ∃ v1, v1 = Value.slice A1 (q + 1) cc1 := ⟨_, rfl⟩
  rw [← hv1] at hown hw2
  have K2 : Aside0 (w2.heap[g]? = some (.cells #[.int .i64 nb.most, v1, .int .i64 x, nb.lv, .int .i64 nb.may, .int .i64 nb.begun, .bool nb.began] 113 (0, 0))) := ⟨by subst hw2; simpa using blk_set hk 1 v1⟩
  have HO3 : Aside0 (w2.ownsRow w0.heap.size 169 1 v1 (q + 1) (nums .u64 (pk (q + 1) l))) := ⟨by subst hw2; exact own_setCell hown (own_ne hown hk (by decide)) _⟩
  have HB2 : Aside0 (Below w0.heap.size w0 w2) := ⟨by subst hw2; exact below_set hbw HG.out⟩
  have HK2 : Aside0 (KeepT g w w2) := ⟨by subst hw2; exact (KeepT.grown HO2.out hgrow).trans (KeepT.set_ _ _ _)⟩
  have e2 := e2h.out
  clear c0 c1 z0 z1 hw2 hk hown hbw hgrow HB HO2 K e3 hwl2 hlim
  clear c0 c1 z0 z1
  clear hwl HWS hv1
  obtain ⟨gg, cap, hvv, hgb, hlt⟩ := HO3.out.form (by omega)
  subst hvv
  have c0 := (blk_cell K2.out 1).trans rfl
  have c1 := (blk_cell K2.out 2).trans rfl
  have z0 := blk_frozen K2.out 1
  have z1 := blk_frozen K2.out 2
  obtain ⟨hcell, hfz⟩ : w2.cell? ⟨gg, q, none⟩ = some (.int .u64 (num (chunk l q))) ∧ w2.frozen? ⟨gg, q, none⟩ = false := by
    have := own_at HO3.out (q : Int) (by omega) (by omega)
    rw [Int.toNat_natCast] at this
    have e : rd (pk (q + 1) l) (q : Int) = (num (chunk l q) : Int) := by
      unfold rd; rw [Int.toNat_natCast, List.getD_eq_getElem?_getD, pk_at l (by omega)]; rfl
    rw [e] at this; exact this
  have hor : bits .or .u64 (num (chunk l q) : Int) (2 ^ r : Int) = (num (chunk l q ++ [true]) : Int) := by
    have h1 := HC.out
    have h2 := or_bit (chunk l q) (by rw [HQ.out, h1]; omega)
    rw [HQ.out, h1, ← HR.out] at h2
    rw [HQ.out]; exact h2
  have hshl : IntKind.u64.wrap (2 ^ r) = 2 ^ r := by
    have h1 := pow64 er
    have h2 : (2 : Int) ^ r = ((2 ^ r : Nat) : Int) := by simp
    rw [h2]
    generalize 2 ^ r = z at h1
    simp [IntKind.wrap, IntKind.bits, IntKind.signed]
    omega
  have q3 : (0 : Int) ≤ (r : Int) := by omega
  have q4 : (r : Int) < 64 := by omega
  have q5 : (0 : Int) ≤ (q : Int) := by omega
  have q6 : (q : Int) < 100000 := by have := HQ.out; omega
  clear hgb hlt
  go_wp2_with fail
  refine ListedB.wp_region_listed (G := []) (by kernel_rfl) (by kernel_rfl) ?_
  go_wp2_with fail
  refine ListedB.fin_intro (by kernel_rfl) ?_
  have hst := own_store HO3.out (q : Int) (num (chunk l q ++ [true]) : Int)
  rw [Int.toNat_natCast] at hst
  have hne : g ≠ gg := by
    have h := own_ne HO3.out K2.out (by decide)
    intro e
    exact h (by simp [Value.ownBlock, e])
  generalize hw3 : (w2.setCell ⟨gg, q, none⟩ (.int .u64 (num (chunk l q ++ [true]) : Int))).drew = w3
  have K3 : Aside0 (w3.heap[g]? = some (.cells #[.int .i64 nb.most, Value.slice (some ⟨gg, 0, none⟩) (q + 1) cap, .int .i64 x, nb.lv, .int .i64 nb.may, .int .i64 nb.begun, .bool nb.began] 113 (0, 0))) := ⟨by subst hw3; exact blk_drew (blk_far K2.out (p := ⟨gg, q, none⟩) hne _)⟩
  have HO4 : Aside0 (w3.ownsRow w0.heap.size 169 1 (Value.slice (some ⟨gg, 0, none⟩) (q + 1) cap) (q + 1) (nums .u64 (pk (q + 1) (l ++ [true])))) := ⟨by
    subst hw3
    have h := hst.1
    have hq := HQ.out
    rw [show (pk (q + 1) l).set q (num (chunk l q ++ [true]) : Int) = pk (q + 1) (l ++ [true]) by rw [hq]; exact pk_set l true] at h
    exact pw_own_drewN h 1⟩
  have HB3 : Aside0 (Below w0.heap.size w0 w3) := ⟨by subst hw3; exact below_drew (below_set HB2.out (own_base HO3.out gg rfl))⟩
  have HK3 : Aside0 (KeepT g w w3) := ⟨by
    subst hw3
    rcases HO3.out.2 with ⟨h, _⟩ | ⟨g2, cap2, cur, h, _, hh, _⟩
    · cases h
    · have hg2 : g2 = gg := by injection h with h; injection h with h; exact (Addr.mk.inj h).1.symm
      subst hg2
      exact HK2.out.trans ((KeepT.row hh hst.2).trans (KeepT.of_below (below_drew (Below.refl _ _))))⟩
  clear hw3 hst hne c0 c1 z0 z1 hcell hfz hor hshl q3 q4 q5 q6 HO3 K2 HB2 HK2 e2
  try clear e2h
  have c1 := (blk_cell K3.out 2).trans rfl
  have z1 := blk_frozen K3.out 2
  go_wp2_with fail
  go_end0
  refine ⟨rfl, ⟨Value.slice (some ⟨gg, 0, none⟩) (q + 1) cap, ?_, ?_, HG.out⟩, below_set HB3.out HG.out, HK3.out.trans (KeepT.set_ _ _ _)⟩
  · have h := blk_set K3.out 2 (.int .i64 (x + 1))
    have hx := HX.out
    rw [hx] at h ⊢
    simpa using h
  · have hq := HQ.out
    have hm : mw (l.length + 1) = q + 1 := by unfold mw; omega
    rw [hm]
    exact own_setCell HO4.out (own_ne HO4.out K3.out (by decide)) _

set_option maxHeartbeats 4000000 in
set_option maxRecDepth 100000 in
theorem push1_false (nb : NB) (g : Nat) (l : List Bool) (w0 w : World) (hI : IsB w0 w g nb (mw l.length) l) (hB : Below w0.heap.size w0 w) (hl : l.length ≤ 100000) (h0 : l.length % 64 ≠ 0) :
    Calls Tryd.prog 113 #[.pointer (some ⟨g, 1, none⟩), .bool false] w fun e w' => e = .returned (.tuple #[]) ∧ IsB w0 w' g nb (mw (l.length + 1)) (l ++ [false]) ∧ Below w0.heap.size w0 w' ∧ KeepT g w w' := by
  obtain ⟨v, hg, ho, hb0⟩ := hI
  have HB := Aside0.mk hB
  have HG := Aside0.mk hb0
  have HO := Aside0.mk ho
  have HC := Aside0.mk (chunk_last_len l)
  obtain ⟨x, hx⟩ : ∃ x : Int, x = (l.length : Int) := ⟨_, rfl⟩
  rw [← hx] at hg
  have HX := Aside0.mk hx
  have K := Aside0.mk hg
  have q1 : (0 : Int) ≤ x := by omega
  have q2 : x ≤ 100000 := by omega
  obtain ⟨r, hr⟩ : ∃ r, r = l.length % 64 := ⟨_, rfl⟩
  have er : r < 64 := by omega
  have c0 := (blk_cell K.out 1).trans rfl
  have c1 := (blk_cell K.out 2).trans rfl
  have z0 := blk_frozen K.out 1
  have z1 := blk_frozen K.out 2
  obtain ⟨v1, rfl⟩ : ∃ v1, v1 = v := ⟨v, rfl⟩
  have hr0 : ¬ r = 0 := by omega
  have e2 : x % 64 = (r : Int) := by omega
  have e4 : ((r : Int) == 0) = false := by simp; omega
  have HR := Aside0.mk hr
  obtain ⟨q, hq⟩ : ∃ q, q = l.length / 64 := ⟨_, rfl⟩
  have hmw : mw l.length = q + 1 := by unfold mw; omega
  have HQ := Aside0.mk hq
  clear hB hb0 ho hg hx hr h0 hq
  go_enter Tryd.func113, Tryd.ntmps113
  go_upto_region 2 with (fail)
  clear c0 c1 z0 z1
  obtain ⟨w2, hw2⟩ : ∃ w2, w2 = w := ⟨_, rfl⟩
  have K2 : Aside0 (w2.heap[g]? = some (.cells #[.int .i64 nb.most, v1, .int .i64 x, nb.lv, .int .i64 nb.may, .int .i64 nb.begun, .bool nb.began] 113 (0, 0))) := ⟨by rw [hw2]; exact K.out⟩
  have HO3 : Aside0 (w2.ownsRow w0.heap.size 169 1 v1 (q + 1) (nums .u64 (pk (q + 1) l))) := ⟨by rw [hw2, ← hmw]; exact HO.out⟩
  have HB2 : Aside0 (Below w0.heap.size w0 w2) := ⟨by rw [hw2]; exact HB.out⟩
  have HK2 : Aside0 (KeepT g w w2) := ⟨by rw [hw2]; exact KeepT.refl _ _⟩
  rw [← hw2]
  clear hw2 HB HO K hmw e4 hr0
  have c1 := (blk_cell K2.out 2).trans rfl
  have z1 := blk_frozen K2.out 2
  go_wp2_with fail
  go_end0
  refine ⟨rfl, ⟨v1, ?_, ?_, HG.out⟩, below_set HB2.out HG.out, HK2.out.trans (KeepT.set_ _ _ _)⟩
  · have h := blk_set K2.out 2 (.int .i64 (x + 1))
    have hx := HX.out
    rw [hx] at h ⊢
    simpa using h
  · have hq := HQ.out
    have hm : mw (l.length + 1) = q + 1 := by unfold mw; omega
    rw [hm, hq, pk_false, ← hq]
    exact own_setCell HO3.out (own_ne HO3.out K2.out (by decide)) _

set_option maxHeartbeats 4000000 in
set_option maxRecDepth 100000 in
theorem push1_true (nb : NB) (g : Nat) (l : List Bool) (w0 w : World) (hI : IsB w0 w g nb (mw l.length) l) (hB : Below w0.heap.size w0 w) (hl : l.length ≤ 100000) (h0 : l.length % 64 ≠ 0) :
    Calls Tryd.prog 113 #[.pointer (some ⟨g, 1, none⟩), .bool true] w fun e w' => e = .returned (.tuple #[]) ∧ IsB w0 w' g nb (mw (l.length + 1)) (l ++ [true]) ∧ Below w0.heap.size w0 w' ∧ KeepT g w w' := by
  obtain ⟨v, hg, ho, hb0⟩ := hI
  have HB := Aside0.mk hB
  have HG := Aside0.mk hb0
  have HO := Aside0.mk ho
  have HC := Aside0.mk (chunk_last_len l)
  obtain ⟨x, hx⟩ : ∃ x : Int, x = (l.length : Int) := ⟨_, rfl⟩
  rw [← hx] at hg
  have HX := Aside0.mk hx
  have K := Aside0.mk hg
  have q1 : (0 : Int) ≤ x := by omega
  have q2 : x ≤ 100000 := by omega
  obtain ⟨r, hr⟩ : ∃ r, r = l.length % 64 := ⟨_, rfl⟩
  have er : r < 64 := by omega
  have c0 := (blk_cell K.out 1).trans rfl
  have c1 := (blk_cell K.out 2).trans rfl
  have z0 := blk_frozen K.out 1
  have z1 := blk_frozen K.out 2
  obtain ⟨v1, rfl⟩ : ∃ v1, v1 = v := ⟨v, rfl⟩
  have hr0 : ¬ r = 0 := by omega
  have e2 : x % 64 = (r : Int) := by omega
  have e4 : ((r : Int) == 0) = false := by simp; omega
  have HR := Aside0.mk hr
  obtain ⟨q, hq⟩ : ∃ q, q = l.length / 64 := ⟨_, rfl⟩
  have hmw : mw l.length = q + 1 := by unfold mw; omega
  have HQ := Aside0.mk hq
  clear hB hb0 ho hg hx hr h0 hq
  go_enter Tryd.func113, Tryd.ntmps113
  go_upto_region 2 with (fail)
  clear c0 c1 z0 z1
  obtain ⟨w2, hw2⟩ : ∃ w2, w2 = w := ⟨_, rfl⟩
  have K2 : Aside0 (w2.heap[g]? = some (.cells #[.int .i64 nb.most, v1, .int .i64 x, nb.lv, .int .i64 nb.may, .int .i64 nb.begun, .bool nb.began] 113 (0, 0))) := ⟨by rw [hw2]; exact K.out⟩
  have HO3 : Aside0 (w2.ownsRow w0.heap.size 169 1 v1 (q + 1) (nums .u64 (pk (q + 1) l))) := ⟨by rw [hw2, ← hmw]; exact HO.out⟩
  have HB2 : Aside0 (Below w0.heap.size w0 w2) := ⟨by rw [hw2]; exact HB.out⟩
  have HK2 : Aside0 (KeepT g w w2) := ⟨by rw [hw2]; exact KeepT.refl _ _⟩
  rw [← hw2]
  clear hw2 HB HO K hmw e4 hr0
  obtain ⟨gg, cap, hvv, hgb, hlt⟩ := HO3.out.form (by omega)
  subst hvv
  have c0 := (blk_cell K2.out 1).trans rfl
  have c1 := (blk_cell K2.out 2).trans rfl
  have z0 := blk_frozen K2.out 1
  have z1 := blk_frozen K2.out 2
  obtain ⟨hcell, hfz⟩ : w2.cell? ⟨gg, q, none⟩ = some (.int .u64 (num (chunk l q))) ∧ w2.frozen? ⟨gg, q, none⟩ = false := by
    have := own_at HO3.out (q : Int) (by omega) (by omega)
    rw [Int.toNat_natCast] at this
    have e : rd (pk (q + 1) l) (q : Int) = (num (chunk l q) : Int) := by
      unfold rd; rw [Int.toNat_natCast, List.getD_eq_getElem?_getD, pk_at l (by omega)]; rfl
    rw [e] at this; exact this
  have hor : bits .or .u64 (num (chunk l q) : Int) (2 ^ r : Int) = (num (chunk l q ++ [true]) : Int) := by
    have h1 := HC.out
    have h2 := or_bit (chunk l q) (by rw [HQ.out, h1]; omega)
    rw [HQ.out, h1, ← HR.out] at h2
    rw [HQ.out]; exact h2
  have hshl : IntKind.u64.wrap (2 ^ r) = 2 ^ r := by
    have h1 := pow64 er
    have h2 : (2 : Int) ^ r = ((2 ^ r : Nat) : Int) := by simp
    rw [h2]
    generalize 2 ^ r = z at h1
    simp [IntKind.wrap, IntKind.bits, IntKind.signed]
    omega
  have q3 : (0 : Int) ≤ (r : Int) := by omega
  have q4 : (r : Int) < 64 := by omega
  have q5 : (0 : Int) ≤ (q : Int) := by omega
  have q6 : (q : Int) < 100000 := by have := HQ.out; omega
  clear hgb hlt
  go_wp2_with fail
  refine ListedB.wp_region_listed (G := []) (by kernel_rfl) (by kernel_rfl) ?_
  go_wp2_with fail
  refine ListedB.fin_intro (by kernel_rfl) ?_
  have hst := own_store HO3.out (q : Int) (num (chunk l q ++ [true]) : Int)
  rw [Int.toNat_natCast] at hst
  have hne : g ≠ gg := by
    have h := own_ne HO3.out K2.out (by decide)
    intro e
    exact h (by simp [Value.ownBlock, e])
  generalize hw3 : (w2.setCell ⟨gg, q, none⟩ (.int .u64 (num (chunk l q ++ [true]) : Int))).drew = w3
  have K3 : Aside0 (w3.heap[g]? = some (.cells #[.int .i64 nb.most, Value.slice (some ⟨gg, 0, none⟩) (q + 1) cap, .int .i64 x, nb.lv, .int .i64 nb.may, .int .i64 nb.begun, .bool nb.began] 113 (0, 0))) := ⟨by subst hw3; exact blk_drew (blk_far K2.out (p := ⟨gg, q, none⟩) hne _)⟩
  have HO4 : Aside0 (w3.ownsRow w0.heap.size 169 1 (Value.slice (some ⟨gg, 0, none⟩) (q + 1) cap) (q + 1) (nums .u64 (pk (q + 1) (l ++ [true])))) := ⟨by
    subst hw3
    have h := hst.1
    have hq := HQ.out
    rw [show (pk (q + 1) l).set q (num (chunk l q ++ [true]) : Int) = pk (q + 1) (l ++ [true]) by rw [hq]; exact pk_set l true] at h
    exact pw_own_drewN h 1⟩
  have HB3 : Aside0 (Below w0.heap.size w0 w3) := ⟨by subst hw3; exact below_drew (below_set HB2.out (own_base HO3.out gg rfl))⟩
  have HK3 : Aside0 (KeepT g w w3) := ⟨by
    subst hw3
    rcases HO3.out.2 with ⟨h, _⟩ | ⟨g2, cap2, cur, h, _, hh, _⟩
    · cases h
    · have hg2 : g2 = gg := by injection h with h; injection h with h; exact (Addr.mk.inj h).1.symm
      subst hg2
      exact HK2.out.trans ((KeepT.row hh hst.2).trans (KeepT.of_below (below_drew (Below.refl _ _))))⟩
  clear hw3 hst hne c0 c1 z0 z1 hcell hfz hor hshl q3 q4 q5 q6 HO3 K2 HB2 HK2 e2
  try clear e2h
  have c1 := (blk_cell K3.out 2).trans rfl
  have z1 := blk_frozen K3.out 2
  go_wp2_with fail
  go_end0
  refine ⟨rfl, ⟨Value.slice (some ⟨gg, 0, none⟩) (q + 1) cap, ?_, ?_, HG.out⟩, below_set HB3.out HG.out, HK3.out.trans (KeepT.set_ _ _ _)⟩
  · have h := blk_set K3.out 2 (.int .i64 (x + 1))
    have hx := HX.out
    rw [hx] at h ⊢
    simpa using h
  · have hq := HQ.out
    have hm : mw (l.length + 1) = q + 1 := by unfold mw; omega
    rw [hm]
    exact own_setCell HO4.out (own_ne HO4.out K3.out (by decide)) _
theorem push_calls (nb : NB) (g : Nat) (l : List Bool) (b : Bool) (w0 w : World) (hI : IsB w0 w g nb (mw l.length) l) (hB : Below w0.heap.size w0 w) (hl : l.length ≤ 100000) :
    Calls Tryd.prog 113 #[.pointer (some ⟨g, 1, none⟩), .bool b] w fun e w' => e = .returned (.tuple #[]) ∧ IsB w0 w' g nb (mw (l.length + 1)) (l ++ [b]) ∧ Below w0.heap.size w0 w' ∧ KeepT g w w' := by
  by_cases h0 : l.length % 64 = 0
  · cases b
    · exact push0_false nb g l w0 w hI hB hl h0
    · exact push0_true nb g l w0 w hI hB hl h0
  · cases b
    · exact push1_false nb g l w0 w hI hB hl h0
    · exact push1_true nb g l w0 w hI hB hl h0
end Go.Proofs.YtlhpflicchchlaaDoor.BitsW
