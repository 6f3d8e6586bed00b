/- Contracts of the stack of bits: popping, and all of it. Conditions: none. -/
import Derived.Test.YtlhpflicchchlaaDoorNxPush
namespace Go.Proofs.YtlhpflicchchlaaDoor.BitsW
open Go.RowKit Go.Proofs.YtlhpflicchchlaaDoorW.PrintWords Go.Proofs.YtlhpflicchchlaaDoorW.PrintLast Go.Proofs.YtlhpflicchchlaaDoorW.PrintMore
set_option linter.unusedVariables false
set_option linter.unusedSimpArgs false
theorem own_shorter {w : World} {B g n m cap : Nat} {e : TypeId} {xs : List Value} (h : w.ownsRow B e 1 (.slice (some ⟨g, 0, none⟩) n cap) n xs) (hm : m ≤ n) : w.ownsRow B e 1 (.slice (some ⟨g, 0, none⟩) m cap) m (xs.take m) := by
  obtain ⟨h1, h2⟩ := h
  rcases h2 with ⟨h2, _⟩ | ⟨g2, cap2, cur, h2, h3, h4, h5, h6, h7, h8⟩
  · cases h2
  · injection h2 with a b c
    injection a with a
    obtain rfl := (Addr.mk.inj a).1
    subst c
    refine ⟨by rw [List.length_take, h1]; omega, .inr ⟨g, cap, cur, rfl, h3, h4, by omega, h6, h7, ?_⟩⟩
    rw [← h8, List.take_take]
    congr 1
    omega
theorem pop_none (nb : NB) (g : Nat) (w0 w : World) (hI : IsB w0 w g nb 0 []) : Calls Tryd.prog 114 #[.pointer (some ⟨g, 1, none⟩)] w fun e w' => e = .returned (.tuple #[.bool false, .bool false]) ∧ w = w' := by
  have H := Aside0.mk (top_none nb g w0 w hI)
  go_enter Tryd.func114, Tryd.ntmps114
  go_wp2_with fail
  refine H.out.mono ?_
  rintro e w' ⟨rfl, rfl⟩
  go_wp2_with fail
  go_ret2
  exact ⟨rfl, rfl⟩
set_option maxHeartbeats 4000000 in
set_option maxRecDepth 100000 in
theorem pop1 (nb : NB) (g : Nat) (l : List Bool) (b : Bool) (w0 w : World) (hI : IsB w0 w g nb (mw (l.length + 1)) (l ++ [b])) (hB : Below w0.heap.size w0 w) (hl : l.length ≤ 100000) (h0 : l.length % 64 ≠ 0) :
    Calls Tryd.prog 114 #[.pointer (some ⟨g, 1, none⟩)] w fun e w' => e = .returned (.tuple #[.bool b, .bool true]) ∧ IsB w0 w' g nb (mw l.length) l ∧ Below w0.heap.size w0 w' ∧ KeepT g w w' := by
  have HT := Aside0.mk (top_some nb g _ l b w0 w hI (by unfold mw; omega) (by omega))
  obtain ⟨v, hg, ho, hb0⟩ := hI
  have HB := Aside0.mk hB
  have HG := Aside0.mk hb0
  have HC := Aside0.mk (chunk_last_len l)
  obtain ⟨x, hx⟩ : ∃ x : Int, x = (l.length : Int) := ⟨_, rfl⟩
  have hx1 : ((l ++ [b]).length : Int) = x + 1 := by rw [hx]; simp
  rw [hx1] at hg
  have HX := Aside0.mk hx
  have K := Aside0.mk hg
  have q1 : (0 : Int) ≤ x := by omega
  have q2 : x ≤ 100000 := by omega
  obtain ⟨r, hr⟩ : ∃ r, r = l.length % 64 := ⟨_, rfl⟩
  obtain ⟨q, hq⟩ : ∃ q, q = l.length / 64 := ⟨_, rfl⟩
  have er : r < 64 := by omega
  have hmw : mw (l.length + 1) = q + 1 := by unfold mw; omega
  rw [hmw] at ho
  have HO := Aside0.mk ho
  have HR := Aside0.mk hr
  have HQ := Aside0.mk hq
  have E1 := Aside0.mk (show x / 64 = (q : Int) by omega)
  have E2 := Aside0.mk (show x % 64 = (r : Int) by omega)
  have q5 : (0 : Int) ≤ (q : Int) := by omega
  have q6 : (q : Int) < 100000 := by omega
  have c0 := (blk_cell K.out 1).trans rfl
  have c1 := (blk_cell K.out 2).trans rfl
  have z0 := blk_frozen K.out 1
  have z1 := blk_frozen K.out 2
  have H0 := Aside0.mk h0
  clear hB hb0 ho hg hx hr h0 hx1 hq hmw
  go_enter Tryd.func114, Tryd.ntmps114
  go_upto_region 5 with (first | (go_at_call 75; refine HT.out.mono ?_; rintro e w' ⟨rfl, rfl⟩))
  generalize hw2 : w.setCell ⟨g, 2, none⟩ (.int .i64 x) = w2
  have K2 : Aside0 (w2.heap[g]? = some (.cells #[.int .i64 nb.most, v, .int .i64 x, nb.lv, .int .i64 nb.may, .int .i64 nb.begun, .bool nb.began] 113 (0, 0))) := ⟨by subst hw2; simpa using blk_set K.out 2 (.int .i64 x)⟩
  have HO3 : Aside0 (w2.ownsRow w0.heap.size 169 1 v (q + 1) (nums .u64 (pk (q + 1) (l ++ [b])))) := ⟨by subst hw2; exact own_setCell HO.out (own_ne HO.out K.out (by decide)) _⟩
  have HB2 : Aside0 (Below w0.heap.size w0 w2) := ⟨by subst hw2; exact below_set HB.out HG.out⟩
  have HK2 : Aside0 (KeepT g w w2) := ⟨by subst hw2; exact KeepT.set_ _ _ _⟩
  clear c0 c1 z0 z1 hw2 K HO HB HT
  obtain ⟨gg, cap, hvv, hgb, hlt⟩ := HO3.out.form (by omega)
  subst hvv
  have c0 := (blk_cell K2.out 1).trans rfl
  have c1 := (blk_cell K2.out 2).trans rfl
  obtain ⟨hcell, hfz⟩ : w2.cell? ⟨gg, q, none⟩ = some (.int .u64 (num (chunk l q ++ [b]))) ∧ w2.frozen? ⟨gg, q, none⟩ = false := by
    have := own_at HO3.out (q : Int) (by omega) (by omega)
    rw [Int.toNat_natCast] at this
    have e : rd (pk (q + 1) (l ++ [b])) (q : Int) = (num (chunk l q ++ [b]) : Int) := by
      unfold rd; rw [Int.toNat_natCast, List.getD_eq_getElem?_getD, pk_at _ (by omega), HQ.out, chunk_snoc]; rfl
    rw [e] at this; exact this
  have hor : bits .andNot .u64 (num (chunk l q ++ [b]) : Int) (2 ^ r : Int) = (num (chunk l q) : Int) := by
    have h1 := HC.out
    have h2 := andNot_bit (chunk l q) b (by rw [HQ.out, h1]; omega)
    rw [HQ.out, h1, ← HR.out] at h2
    rw [HQ.out]; exact h2
  have hshl : IntKind.u64.wrap (2 ^ r) = 2 ^ r := by
    have h1 := pow64 er
    have h2 : (2 : Int) ^ r = ((2 ^ r : Nat) : Int) := by simp
    rw [h2]
    generalize 2 ^ r = z at h1
    simp [IntKind.wrap, IntKind.bits, IntKind.signed]
    omega
  have q3 : (0 : Int) ≤ (r : Int) := by omega
  have q4 : (r : Int) < 64 := by omega
  have e1 := E1.out
  have e2 := E2.out
  have q7 : (q : Int) < ((q + 1 : Nat) : Int) := by omega
  clear hgb hlt
  generalize hcb : num (chunk l q ++ [b]) = cb at *
  generalize hcc : num (chunk l q) = cc at *
  refine ListedB.wp_region_listed (G := []) (by kernel_rfl) (by kernel_rfl) ?_
  go_wp2_with fail
  refine ListedB.fin_intro (by kernel_rfl) ?_
  have hst := own_store HO3.out (q : Int) (cc : Int)
  rw [Int.toNat_natCast] at hst
  have hne : g ≠ gg := by
    have h := own_ne HO3.out K2.out (by decide)
    intro e
    exact h (by simp [Value.ownBlock, e])
  generalize hw3 : (w2.setCell ⟨gg, q, none⟩ (.int .u64 (cc : Int))).drew = w3
  have K3 : Aside0 (w3.heap[g]? = some (.cells #[.int .i64 nb.most, Value.slice (some ⟨gg, 0, none⟩) (q + 1) cap, .int .i64 x, nb.lv, .int .i64 nb.may, .int .i64 nb.begun, .bool nb.began] 113 (0, 0))) := ⟨by subst hw3; exact blk_drew (blk_far K2.out (p := ⟨gg, q, none⟩) hne _)⟩
  have HO4 : Aside0 (w3.ownsRow w0.heap.size 169 1 (Value.slice (some ⟨gg, 0, none⟩) (q + 1) cap) (q + 1) (nums .u64 (pk (q + 1) l))) := ⟨by
    subst hw3
    have h := hst.1
    have hq := HQ.out
    rw [show (pk (q + 1) (l ++ [b])).set q (cc : Int) = pk (q + 1) l by rw [← hcc, hq]; exact pk_unset l b] at h
    exact pw_own_drewN h 1⟩
  have HB3 : Aside0 (Below w0.heap.size w0 w3) := ⟨by subst hw3; exact below_drew (below_set HB2.out (own_base HO3.out gg rfl))⟩
  have HK3 : Aside0 (KeepT g w w3) := ⟨by
    subst hw3
    rcases HO3.out.2 with ⟨h, _⟩ | ⟨g2, cap2, cur, h, _, hh, _⟩
    · cases h
    · have hg2 : g2 = gg := by injection h with h; injection h with h; exact (Addr.mk.inj h).1.symm
      subst hg2
      exact HK2.out.trans ((KeepT.row hh hst.2).trans (KeepT.of_below (below_drew (Below.refl _ _))))⟩
  clear hw3 hst hne c0 c1 hcell hfz hor hshl q3 q4 HO3 K2 HB2 HK2 hcb hcc e1 q7
  have c0 := (blk_cell K3.out 1).trans rfl
  have c1 := (blk_cell K3.out 2).trans rfl
  have z0 := blk_frozen K3.out 1
  have e4 : ((r : Int) == 0) = false := by have := H0.out; have := HR.out; simp; omega
  go_wp2_with fail
  go_ret2
  have hq := HQ.out
  have hm : mw l.length = q + 1 := by have := H0.out; unfold mw; omega
  refine ⟨rfl, ⟨Value.slice (some ⟨gg, 0, none⟩) (q + 1) cap, ?_, ?_, HG.out⟩, HB3.out, HK3.out⟩
  · rw [← HX.out]; exact K3.out
  · rw [hm]; exact HO4.out
set_option maxHeartbeats 4000000 in
set_option maxRecDepth 100000 in
theorem pop0 (nb : NB) (g : Nat) (l : List Bool) (b : Bool) (w0 w : World) (hI : IsB w0 w g nb (mw (l.length + 1)) (l ++ [b])) (hB : Below w0.heap.size w0 w) (hl : l.length ≤ 100000) (h0 : l.length % 64 = 0) :
    Calls Tryd.prog 114 #[.pointer (some ⟨g, 1, none⟩)] w fun e w' => e = .returned (.tuple #[.bool b, .bool true]) ∧ IsB w0 w' g nb (mw l.length) l ∧ Below w0.heap.size w0 w' ∧ KeepT g w w' := by
  have HT := Aside0.mk (top_some nb g _ l b w0 w hI (by unfold mw; omega) (by omega))
  obtain ⟨v, hg, ho, hb0⟩ := hI
  have HB := Aside0.mk hB
  have HG := Aside0.mk hb0
  have HC := Aside0.mk (chunk_last_len l)
  obtain ⟨x, hx⟩ : ∃ x : Int, x = (l.length : Int) := ⟨_, rfl⟩
  have hx1 : ((l ++ [b]).length : Int) = x + 1 := by rw [hx]; simp
  rw [hx1] at hg
  have HX := Aside0.mk hx
  have K := Aside0.mk hg
  have q1 : (0 : Int) ≤ x := by omega
  have q2 : x ≤ 100000 := by omega
  obtain ⟨r, hr⟩ : ∃ r, r = l.length % 64 := ⟨_, rfl⟩
  obtain ⟨q, hq⟩ : ∃ q, q = l.length / 64 := ⟨_, rfl⟩
  have er : r < 64 := by omega
  have hmw : mw (l.length + 1) = q + 1 := by unfold mw; omega
  rw [hmw] at ho
  have HO := Aside0.mk ho
  have HR := Aside0.mk hr
  have HQ := Aside0.mk hq
  have E1 := Aside0.mk (show x / 64 = (q : Int) by omega)
  have E2 := Aside0.mk (show x % 64 = (r : Int) by omega)
  have q5 : (0 : Int) ≤ (q : Int) := by omega
  have q6 : (q : Int) < 100000 := by omega
  have c0 := (blk_cell K.out 1).trans rfl
  have c1 := (blk_cell K.out 2).trans rfl
  have z0 := blk_frozen K.out 1
  have z1 := blk_frozen K.out 2
  have H0 := Aside0.mk h0
  clear hB hb0 ho hg hx hr h0 hx1 hq hmw
  go_enter Tryd.func114, Tryd.ntmps114
  go_upto_region 5 with (first | (go_at_call 75; refine HT.out.mono ?_; rintro e w' ⟨rfl, rfl⟩))
  generalize hw2 : w.setCell ⟨g, 2, none⟩ (.int .i64 x) = w2
  have K2 : Aside0 (w2.heap[g]? = some (.cells #[.int .i64 nb.most, v, .int .i64 x, nb.lv, .int .i64 nb.may, .int .i64 nb.begun, .bool nb.began] 113 (0, 0))) := ⟨by subst hw2; simpa using blk_set K.out 2 (.int .i64 x)⟩
  have HO3 : Aside0 (w2.ownsRow w0.heap.size 169 1 v (q + 1) (nums .u64 (pk (q + 1) (l ++ [b])))) := ⟨by subst hw2; exact own_setCell HO.out (own_ne HO.out K.out (by decide)) _⟩
  have HB2 : Aside0 (Below w0.heap.size w0 w2) := ⟨by subst hw2; exact below_set HB.out HG.out⟩
  have HK2 : Aside0 (KeepT g w w2) := ⟨by subst hw2; exact KeepT.set_ _ _ _⟩
  clear c0 c1 z0 z1 hw2 K HO HB HT
  obtain ⟨gg, cap, hvv, hgb, hlt⟩ := HO3.out.form (by omega)
  subst hvv
  have c0 := (blk_cell K2.out 1).trans rfl
  have c1 := (blk_cell K2.out 2).trans rfl
  obtain ⟨hcell, hfz⟩ : w2.cell? ⟨gg, q, none⟩ = some (.int .u64 (num (chunk l q ++ [b]))) ∧ w2.frozen? ⟨gg, q, none⟩ = false := by
    have := own_at HO3.out (q : Int) (by omega) (by omega)
    rw [Int.toNat_natCast] at this
    have e : rd (pk (q + 1) (l ++ [b])) (q : Int) = (num (chunk l q ++ [b]) : Int) := by
      unfold rd; rw [Int.toNat_natCast, List.getD_eq_getElem?_getD, pk_at _ (by omega), HQ.out, chunk_snoc]; rfl
    rw [e] at this; exact this
  have hor : bits .andNot .u64 (num (chunk l q ++ [b]) : Int) (2 ^ r : Int) = (num (chunk l q) : Int) := by
    have h1 := HC.out
    have h2 := andNot_bit (chunk l q) b (by rw [HQ.out, h1]; omega)
    rw [HQ.out, h1, ← HR.out] at h2
    rw [HQ.out]; exact h2
  have hshl : IntKind.u64.wrap (2 ^ r) = 2 ^ r := by
    have h1 := pow64 er
    have h2 : (2 : Int) ^ r = ((2 ^ r : Nat) : Int) := by simp
    rw [h2]
    generalize 2 ^ r = z at h1
    simp [IntKind.wrap, IntKind.bits, IntKind.signed]
    omega
  have q3 : (0 : Int) ≤ (r : Int) := by omega
  have q4 : (r : Int) < 64 := by omega
  have e1 := E1.out
  have e2 := E2.out
  have q7 : (q : Int) < ((q + 1 : Nat) : Int) := by omega
  clear hgb hlt
  generalize hcb : num (chunk l q ++ [b]) = cb at *
  generalize hcc : num (chunk l q) = cc at *
  refine ListedB.wp_region_listed (G := []) (by kernel_rfl) (by kernel_rfl) ?_
  go_wp2_with fail
  refine ListedB.fin_intro (by kernel_rfl) ?_
  have hst := own_store HO3.out (q : Int) (cc : Int)
  rw [Int.toNat_natCast] at hst
  have hne : g ≠ gg := by
    have h := own_ne HO3.out K2.out (by decide)
    intro e
    exact h (by simp [Value.ownBlock, e])
  generalize hw3 : (w2.setCell ⟨gg, q, none⟩ (.int .u64 (cc : Int))).drew = w3
  have K3 : Aside0 (w3.heap[g]? = some (.cells #[.int .i64 nb.most, Value.slice (some ⟨gg, 0, none⟩) (q + 1) cap, .int .i64 x, nb.lv, .int .i64 nb.may, .int .i64 nb.begun, .bool nb.began] 113 (0, 0))) := ⟨by subst hw3; exact blk_drew (blk_far K2.out (p := ⟨gg, q, none⟩) hne _)⟩
  have HO4 : Aside0 (w3.ownsRow w0.heap.size 169 1 (Value.slice (some ⟨gg, 0, none⟩) (q + 1) cap) (q + 1) (nums .u64 (pk (q + 1) l))) := ⟨by
    subst hw3
    have h := hst.1
    have hq := HQ.out
    rw [show (pk (q + 1) (l ++ [b])).set q (cc : Int) = pk (q + 1) l by rw [← hcc, hq]; exact pk_unset l b] at h
    exact pw_own_drewN h 1⟩
  have HB3 : Aside0 (Below w0.heap.size w0 w3) := ⟨by subst hw3; exact below_drew (below_set HB2.out (own_base HO3.out gg rfl))⟩
  have HK3 : Aside0 (KeepT g w w3) := ⟨by
    subst hw3
    rcases HO3.out.2 with ⟨h, _⟩ | ⟨g2, cap2, cur, h, _, hh, _⟩
    · cases h
    · have hg2 : g2 = gg := by injection h with h; injection h with h; exact (Addr.mk.inj h).1.symm
      subst hg2
      exact HK2.out.trans ((KeepT.row hh hst.2).trans (KeepT.of_below (below_drew (Below.refl _ _))))⟩
  clear hw3 hst hne c0 c1 hcell hfz hor hshl q3 q4 HO3 K2 HB2 HK2 hcb hcc e1 q7
  have c0 := (blk_cell K3.out 1).trans rfl
  have c1 := (blk_cell K3.out 2).trans rfl
  have z0 := blk_frozen K3.out 1
  have e4 : r = 0 := by have := H0.out; have := HR.out; omega
  subst e4
  have e3 : x % 64 = 0 := by simpa using e2
  clear e2
  go_upto_region 7 with (fail)
  clear c0 c1 z0 e3 q1 q2 q6 er
  generalize hn : q + 1 = n at *
  obtain ⟨hgb, hlt, hcap⟩ : ∃ cap', n ≤ cap' ∧ cap' = cap := by
    rcases HO4.out.2 with ⟨h, _⟩ | ⟨g2, cap2, cur, h, _, hh, h5, h6, _⟩
    · cases h
    · injection h with h1 h2 h3
      exact ⟨cap, by rw [h3]; omega, rfl⟩
  subst hcap
  obtain ⟨i8, hi⟩ : ∃ i, Tryd.prog.info? 169 = some i := by
    have h := info68
    cases h8 : Tryd.prog.info? 169 with
    | none => rw [h8] at h; cases h
    | some i => exact ⟨i, rfl⟩
  have hsl : ∀ W : World, (Instr.sliceAt 108 (.slice (some ⟨gg, 0, none⟩) n hgb) none (some (.int .i64 (q : Int))) none).run Tryd.prog W = .ok (.slice (some ⟨gg, 0, none⟩) q hgb) W := by
    intro W
    have h1 : q ≤ n := by omega
    have h2 : q ≤ hgb := by omega
    simp [Instr.sliceAt, Instr.slice, Instr.sliceBounds, Instr.sliceBound, asIntOf, run_underlying Tryd.underlying108, go_sem, sizeOf, typeInfo, Addr.add, hi, h2, pure, Sem.pure]
  have c0 := (blk_cell K3.out 1).trans rfl
  have c1 := (blk_cell K3.out 2).trans rfl
  have z0 := blk_frozen K3.out 1
  have hw1 : (n : Int) - 1 = (q : Int) := by omega
  have hw2 : IntKind.i64.wrap (q : Int) = (q : Int) := by have := HQ.out; simp [IntKind.wrap, IntKind.bits, IntKind.signed]; omega
  have HN := Aside0.mk hn
  clear hn hlt
  refine ListedB.wp_region_listed (G := []) (by kernel_rfl) (by kernel_rfl) ?_
  go_wp2_with fail
  refine ListedB.fin_intro (by kernel_rfl) ?_
  go_wp2_with fail
  go_ret2
  have hq := HQ.out
  have hm : mw l.length = q := by have := H0.out; unfold mw; omega
  have hnq := HN.out
  refine ⟨rfl, ⟨Value.slice (some ⟨gg, 0, none⟩) q hgb, ?_, ?_, HG.out⟩, below_drew (below_set HB3.out HG.out), HK3.out.trans ((KeepT.set_ _ _ _).trans (KeepT.of_below (below_drew (Below.refl _ _))))⟩
  · rw [← HX.out]
    have h := blk_drew (blk_set K3.out 1 (Value.slice (some ⟨gg, 0, none⟩) q hgb))
    simpa using h
  · rw [hm]
    have h := own_shorter HO4.out (m := q) (by omega)
    rw [← hnq, show (nums .u64 (pk (q + 1) l)).take q = nums .u64 (pk q l) by unfold nums; rw [← List.map_take, pk_take]] at h
    have h2 : (w3.setCell ⟨g, 1, none⟩ (Value.slice (some ⟨gg, 0, none⟩) q hgb)).ownsRow w0.heap.size 169 1 (Value.slice (some ⟨gg, 0, none⟩) q hgb) q (nums .u64 (pk q l)) := own_setCell h (own_ne h K3.out (by decide)) _
    exact pw_own_drewN h2 1
theorem pop_calls (nb : NB) (g : Nat) (l : List Bool) (b : Bool) (w0 w : World) (hI : IsB w0 w g nb (mw (l.length + 1)) (l ++ [b])) (hB : Below w0.heap.size w0 w) (hl : l.length ≤ 100000) :
    Calls Tryd.prog 114 #[.pointer (some ⟨g, 1, none⟩)] w fun e w' => e = .returned (.tuple #[.bool b, .bool true]) ∧ IsB w0 w' g nb (mw l.length) l ∧ Below w0.heap.size w0 w' ∧ KeepT g w w' := by
  by_cases h0 : l.length % 64 = 0
  · exact pop0 nb g l b w0 w hI hB hl h0
  · exact pop1 nb g l b w0 w hI hB hl h0
end Go.Proofs.YtlhpflicchchlaaDoor.BitsW
