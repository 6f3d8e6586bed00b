/- A Builder that counts, and the closure that takes tokens, walked. Conditions: none. -/
import Derived.Test.YtlhpflicchchlaaDoorTrB2
namespace Go.Proofs.YtlhpflicchchlaaDoor.Tr
open Go.RowKit Go.Proofs.YtlhpflicchchlaaDoorW.PrintWords Go.Proofs.YtlhpflicchchlaaDoorW.PrintLast Go.Proofs.YtlhpflicchchlaaDoorW.PrintMore
attribute [local go_sem] max2_int min2_int max_two min_two max_three min_three max_four min_four
open Go.Proofs.YtlhpflicchchlaaDoor.LexPure
open Go.Proofs.YtlhpflicchchlaaDoor.Nx (NS Nx takeV Ev Stp evCells stpVal KT KeepN row_type below_grownN ev_cells flat_ev flat_tk own_evs tokN_cells takeV_len)
set_option linter.unusedVariables false
set_option linter.unusedSimpArgs false
/-- How many items each open value has; how many the root has, once it has ended. -/
structure BS where
  opn : List Nat
  root : Option Nat
def bV (S : BS) (e : Ev) : BS :=
  if e.kind = 1 then ⟨S.opn ++ [0], S.root⟩
  else match S.opn.getLast? with
    | none => S
    | some n => match S.opn.dropLast.getLast? with
      | none => ⟨[], some n⟩
      | some q => ⟨S.opn.dropLast.dropLast ++ [q + 1], S.root⟩
def BxE (B : Nat) (W : World) (g : Nat) (S : BS) : Prop := ∃ ov sv l rt dn, Bx B W g ov sv l rt dn ∧ l.map (·.nit) = S.opn ∧ ∀ k, S.root = some k → rt.nit = k
def Bnd (S : BS) (m : Nat) : Prop := S.opn.length ≤ m ∧ ∀ n ∈ S.opn, n ≤ m
theorem bnd_step {S : BS} {m : Nat} (h : Bnd S m) (e : Ev) : Bnd (bV S e) (m + 1) := by
  obtain ⟨h1, h2⟩ := h
  unfold bV
  split
  · refine ⟨by simp; omega, fun n hn => ?_⟩
    simp only [List.mem_append, List.mem_singleton] at hn
    rcases hn with hn | rfl
    · have := h2 n hn; omega
    · omega
  · split
    · exact ⟨by omega, fun n hn => by have := h2 n hn; omega⟩
    · split
      · exact ⟨by simp, fun n hn => by simp at hn⟩
      · rename_i n hn q hq
        have hq1 : q ∈ S.opn := List.dropLast_subset _ (List.mem_of_getLast? hq)
        refine ⟨by simp; omega, fun a ha => ?_⟩
        simp only [List.mem_append, List.mem_singleton] at ha
        rcases ha with ha | rfl
        · have := h2 a (List.dropLast_subset _ (List.dropLast_subset _ ha)); omega
        · have := h2 q hq1; omega
theorem bxe_keep {B : Nat} {W W' : World} {g : Nat} {S : BS} {p : List TypeId} (h : BxE B W g S) (hk : KT p W W') (h1 : (120 : TypeId) ∉ p) (h2 : (68 : TypeId) ∉ p) (h3 : (26 : TypeId) ∉ p) (h4 : (9 : TypeId) ∉ p) : BxE B W' g S := by
  obtain ⟨ov, sv, l, rt, dn, H, h5, h6⟩ := h
  exact ⟨ov, sv, l, rt, dn, ⟨hk.blk H.blk h1, H.ge, hk.row H.row h2, (H.stp.imp fun ss h => hk.row h h3), (fun v hv => ⟨(H.its v hv).it.imp fun xs h => hk.row h h2, (H.its v hv).nm.imp fun ys h => hk.row h h4, (H.its v hv).le⟩), H.dis, H.disN, H.rts, H.rtn⟩, h5, h6⟩
theorem btake_calls {B : Nat} {W : World} {g m : Nat} {S : BS} (h : BxE B W g S) (hB : B ≤ W.heap.size) (hb : Bnd S m) (hm : m ≤ 1000000) (e : Ev) (hk : e.kind = 1 ∨ e.kind = 2) :
    Calls Tryd.prog 116 #[.pointer (some ⟨g, 0, none⟩), .agg (evCells e).toArray] W fun x w' => x = .returned (.tuple #[]) ∧ BxE B w' g (bV S e) ∧ Below B W w' ∧ KT [120, 68, 26, 9] W w' := by
  obtain ⟨ov, sv, l, rt, dn, H, h5, h6⟩ := h
  have hll : l.length = S.opn.length := by rw [← h5, List.length_map]
  by_cases h1 : e.kind = 1
  · refine (btake_open H hB (by have := hb.1; omega) e h1).mono fun x w' h => ?_
    obtain ⟨rfl, ⟨ov', sv', H'⟩, hbl, hkt⟩ := h
    refine ⟨rfl, ⟨_, _, _, _, _, H', ?_, ?_⟩, hbl, hkt⟩
    · unfold bV; rw [if_pos h1, List.map_append, h5]; rfl
    · unfold bV; rw [if_pos h1]; exact h6
  · have h2 : e.kind = 2 := hk.resolve_left h1
    rcases List.eq_nil_or_concat l with rfl | ⟨l1, v, rfl⟩
    · refine (btake_nil H hB e h2).mono fun x w' h => ?_
      obtain ⟨rfl, H', hbl, hkt⟩ := h
      refine ⟨rfl, ⟨_, _, _, _, _, H', ?_, ?_⟩, hbl, hkt⟩
      · unfold bV; rw [if_neg h1]; rw [← h5]; simp [← h5]
      · unfold bV; rw [if_neg h1]; rw [← h5]; simpa using h6
    · rw [List.concat_eq_append] at H h5 hll
      have hit : ∀ u ∈ l1 ++ [v], u.nit ≤ 1000000 := fun u hu => by
        have := hb.2 u.nit (by rw [← h5]; exact List.mem_map_of_mem hu)
        omega
      have hl1 : l1.length ≤ 1000000 := by have := hb.1; simp at hll; omega
      rcases List.eq_nil_or_concat l1 with rfl | ⟨l2, p, rfl⟩
      · refine (btake_root H hB hl1 hit e h2 rfl).mono fun x w' h => ?_
        obtain ⟨rfl, ⟨ov', sv', H'⟩, hbl, hkt⟩ := h
        have e1 : bV S e = ⟨[], some v.nit⟩ := by unfold bV; rw [if_neg h1, ← h5]; simp
        rw [e1]
        exact ⟨rfl, ⟨_, _, _, _, _, H', rfl, fun k hk => by injection hk⟩, hbl, hkt⟩
      · rw [List.concat_eq_append] at H h5 hit hl1
        refine (btake_put H hB hl1 hit e h2 l2 p rfl).mono fun x w' h => ?_
        obtain ⟨rfl, ⟨ov', sv', it, nm, mm, H'⟩, hbl, hkt⟩ := h
        have e1 : bV S e = ⟨l2.map (·.nit) ++ [p.nit + 1], S.root⟩ := by
          unfold bV; rw [if_neg h1, ← h5]
          simp [List.dropLast_append_of_ne_nil, ← List.append_assoc]
        rw [e1]
        exact ⟨rfl, ⟨_, _, _, _, _, H', by simp, h6⟩, hbl, hkt⟩
theorem take_kinds (n : NS) (t : Tk) : ∀ e ∈ (takeV n t).2.1, e.kind = 1 ∨ e.kind = 2 := by
  have h : ((takeV n t).2.1.all fun e => decide (e.kind = 1 ∨ e.kind = 2)) = true := by
    unfold takeV Nx.takeB Nx.behindV Nx.tbeginV Nx.downV Nx.upV Nx.badV
    repeat' split
    all_goals simp
  intro e he
  exact of_decide_eq_true (List.all_eq_true.1 h e he)
/-- The events of tokens, built. -/
def evsB : BS → NS → List Tk → BS
  | S, _, [] => S
  | S, n, t :: r => if (takeV n t).2.2 ≠ 0 then S else evsB ((takeV n t).2.1.foldl bV S) (takeV n t).1 r
/-- Each token finds the Nest as it should be. -/
def GoodT : NS → List Tk → Prop
  | _, [] => True
  | n, t :: r => Nx.Good n ∧ ((takeV n t).2.2 = 0 → GoodT (takeV n t).1 r)
abbrev PT : List TypeId := [113, 169, 161, 120, 68, 26, 9]
def tokAgg (t : Tk) : Value := .agg #[.int .i64 t.kind, .bool t.begun, .int .i64 (t.frm : Int), .int .i64 (t.to : Int), .string t.text]
set_option maxHeartbeats 16000000 in
set_option maxRecDepth 100000 in
/-- nest.Nest.Close. -/
theorem nclose_calls {w0 W : World} {g : Nat} {s : NS} {lvv : Value} (h : Nx w0 W g s lvv) : Calls Tryd.prog 117 #[.pointer (some ⟨g, 0, none⟩)] W fun e w' => e = .returned (.int .i64 (closeN s)) ∧ W = w' := by
  obtain ⟨wv, hb⟩ := h.blk
  have c4 := (blk_cell hb 4).trans rfl
  have c6 := (blk_cell hb 6).trans rfl
  clear h
  unfold closeN
  by_cases h7 : s.may = 7
  · rw [if_pos h7]
    have k7 : (s.may == 7) = true := by simp [h7]
    have l7 : decide (s.may = 7) = true := by simp [h7]
    clear h7
    go_enter Tryd.func117, Tryd.ntmps117
    go_wp2_with (fail)
    go_ret
    exact ⟨rfl, rfl⟩
  · rw [if_neg h7]
    have k7 : (s.may == 7) = false := by simp [h7]
    have l7 : decide (s.may = 7) = false := by simp [h7]
    by_cases h6 : s.may = 6
    · rw [if_pos h6]
      have k6 : (s.may == 6) = true := by simp [h6]
      have l6 : decide (s.may = 6) = true := by simp [h6]
      clear h7 h6
      go_enter Tryd.func117, Tryd.ntmps117
      go_wp2_with (fail)
      go_ret
      exact ⟨rfl, rfl⟩
    · rw [if_neg h6]
      have k6 : (s.may == 6) = false := by simp [h6]
      have l6 : decide (s.may = 6) = false := by simp [h6]
      clear h7 h6
      cases hbg : s.began with
      | true =>
        rw [hbg] at c6
        go_enter Tryd.func117, Tryd.ntmps117
        go_wp2_with (fail)
        go_ret
        exact ⟨rfl, rfl⟩
      | false =>
        rw [hbg] at c6
        go_enter Tryd.func117, Tryd.ntmps117
        go_wp2_with (fail)
        go_ret
        exact ⟨rfl, rfl⟩
/-- What the closure keeps. -/
structure TA (w0 W w : World) (g gb nb ob Bt : Nat) (T : List Tk) (vt : Value) (n : NS) (lvv : Value) (S : BS) : Prop where
  nx : Nx w0 w g n lvv
  bx : BxE w0.heap.size w gb S
  bel : Below w0.heap.size w0 w
  rt : w.ownsRow Bt 39 5 vt T.length (T.flatMap LxA.tkCells)
  nb_ : w.heap[nb]? = some (.cells #[.pointer (some ⟨g, 0, none⟩)] 55 (0, 0))
  ob_ : w.heap[ob]? = some (.cells #[.pointer (some ⟨gb, 0, none⟩)] 122 (0, 0))
  kt : KT PT W w
section
variable {w0 W w w1 : World} {g gb nb ob Bt : Nat} {T : List Tk} {vt lvv lvv' : Value} {n n' : NS} {S S' : BS}
theorem TA.below (h : TA w0 W w g gb nb ob Bt T vt n lvv S) (hb : Below w.heap.size w w1) : TA w0 W w1 g gb nb ob Bt T vt n lvv S :=
  have K := KT.of_below (p := []) hb
  ⟨K.nx h.nx (by simp) (by simp) (by simp), bxe_keep h.bx K (by simp) (by simp) (by simp) (by simp), h.bel.trans (hb.mono h.bel.size), K.row h.rt (by simp), K.blk h.nb_ (by simp), K.blk h.ob_ (by simp), h.kt.trans (KT.of_below hb)⟩
theorem TA.nest (h : TA w0 W w g gb nb ob Bt T vt n lvv S) (h1 : Nx w0 w1 g n' lvv') (h2 : Below w0.heap.size w w1) (h3 : KeepN g w w1) : TA w0 W w1 g gb nb ob Bt T vt n' lvv' S :=
  have K := KT.of_nest h3 h.nx
  ⟨h1, bxe_keep h.bx K (by decide) (by decide) (by decide) (by decide), h.bel.trans h2, K.row h.rt (by decide), K.blk h.nb_ (by decide), K.blk h.ob_ (by decide), h.kt.trans (K.mono (by decide))⟩
theorem TA.build (h : TA w0 W w g gb nb ob Bt T vt n lvv S) (h1 : BxE w0.heap.size w1 gb S') (h2 : Below w0.heap.size w w1) (h3 : KT [120, 68, 26, 9] w w1) : TA w0 W w1 g gb nb ob Bt T vt n lvv S' :=
  ⟨h3.nx h.nx (by decide) (by decide) (by decide), h1, h.bel.trans h2, h3.row h.rt (by decide), h3.blk h.nb_ (by decide), h3.blk h.ob_ (by decide), h.kt.trans (h3.mono (by decide))⟩
end
theorem drop_cons {α : Type} {l : List α} {j : Nat} {t : α} (h : l[j]? = some t) : l.drop j = t :: l.drop (j + 1) := by
  obtain ⟨hl, rfl⟩ := List.getElem?_eq_some_iff.1 h
  exact List.drop_eq_getElem_cons hl
theorem take_succ_foldl {l : List Ev} {i : Nat} {e : Ev} (h : l[i]? = some e) (S : BS) : (l.take (i + 1)).foldl bV S = bV ((l.take i).foldl bV S) e := by
  rw [List.take_add_one, h, List.foldl_append]
  rfl
set_option maxHeartbeats 16000000 in
set_option maxRecDepth 100000 in
/-- The closure takes tokens. -/
theorem tk_calls {w0 W : World} {g gb nb ob Bt m : Nat} {T : List Tk} {v : Value} {n : NS} {lvv : Value} {S : BS} (h : TA w0 W W g gb nb ob Bt T v n lvv S) (hT : LxN.Tab w0) (hg : GoodT n T) (hb : Bnd S m) (hm : m + T.length ≤ 1000000) :
    Calls Tryd.prog 115 #[v, .pointer (some ⟨nb, 0, none⟩), .pointer (some ⟨ob, 0, none⟩)] W fun e w' => e = .returned (.tuple #[.int .i64 (takesV n T).2.1, .int .i64 ((takesV n T).2.2 : Int)]) ∧ (∃ lvv', TA w0 W w' g gb nb ob Bt T v (takesV n T).1 lvv' (evsB S n T)) ∧ (T = [] → w' = W) := by
  obtain ⟨ao, cap, rfl, hao⟩ := own_evs h.rt
  have H := Aside0.mk h
  have HT := Aside0.mk hT
  have HG := Aside0.mk hg
  have HBD := Aside0.mk hb
  have HM := Aside0.mk hm
  have HAO := Aside0.mk hao
  clear h hT hg hb hm hao
  go_enter Tryd.func115, Tryd.ntmps115
  go_wp2_with (fail)
  go_loopg [14] T.length (fun kq v14 w' => ∃ (j : Nat) (n' : NS) (S' : BS) (lvv' : Value) (wj : World), wj = w' ∧ v14 = .int .i64 (j : Int) ∧ Aside0 (j + kq = T.length) ∧ Aside0 (TA w0 W wj g gb nb ob Bt T (.slice ao T.length cap) n' lvv' S') ∧ Aside0 (GoodT n' (T.drop j)) ∧ Aside0 (Bnd S' (m + j)) ∧ Aside0 (takesV n T = takesV n' (T.drop j) ∧ evsB S n T = evsB S' n' (T.drop j)) ∧ Aside0 (j = 0 → wj = W))
  case atStart => exact ⟨0, _, _, _, _, rfl, rfl, ⟨by omega⟩, H, HG, HBD, ⟨rfl, rfl⟩, ⟨fun _ => rfl⟩⟩
  case round =>
    obtain ⟨j, n', S', lvv', wj, rfl, rfl, HJ, AJ, GJ, BJ, EJ, WJ⟩ := hrel
    cases gk with
    | zero =>
      have hj : j = T.length := by have := HJ.out; omega
      have c1 : decide ((j : Int) < (T.length : Int)) = false := by simp; omega
      have c2 : decide (j < T.length) = false := by simp; omega
      have e1 := EJ.out
      rw [hj, List.drop_length] at e1
      have E1 := Aside0.mk e1
      have HJ2 := Aside0.mk hj
      clear e1 hj
      go_wp2_with (fail)
      go_ret2
      rw [E1.out.1, E1.out.2]
      exact ⟨rfl, ⟨_, AJ.out⟩, fun hn => WJ.out (by rw [HJ2.out, hn]; rfl)⟩
    | succ dd =>
      have hj : j < T.length := by have := HJ.out; omega
      have c1 : decide ((j : Int) < (T.length : Int)) = true := by simp; omega
      have c2 : decide (j < T.length) = true := by simp; omega
      have j1 : (0 : Int) ≤ (j : Int) := by omega
      have j2 : (j : Int) < (T.length : Int) := by omega
      have j3 := eq_true hj
      have J4 : Aside0 (wrap64 ((j : Int) + 1) = (j : Int) + 1) := ⟨by have := HM.out; unfold wrap64; omega⟩
      obtain ⟨gt, rfl, _, _⟩ := HAO.out (fun e => by omega)
      obtain ⟨t, ht⟩ : ∃ t, T[j]? = some t := ⟨T[j], List.getElem?_eq_getElem hj⟩
      have x0 := LxA.own_cell AJ.out.rt (j * 5 + 0) (.int .i64 t.kind) (by rw [flat_tk T j 0 t ht (by omega)]; rfl)
      have x1 := LxA.own_cell AJ.out.rt (j * 5 + 1) (.bool t.begun) (by rw [flat_tk T j 1 t ht (by omega)]; rfl)
      have x2 := LxA.own_cell AJ.out.rt (j * 5 + 2) (.int .i64 (t.frm : Int)) (by rw [flat_tk T j 2 t ht (by omega)]; rfl)
      have x3 := LxA.own_cell AJ.out.rt (j * 5 + 3) (.int .i64 (t.to : Int)) (by rw [flat_tk T j 3 t ht (by omega)]; rfl)
      have x4 := LxA.own_cell AJ.out.rt (j * 5 + 4) (.string t.text) (by rw [flat_tk T j 4 t ht (by omega)]; rfl)
      have hg := GJ.out
      have hE := EJ.out
      rw [drop_cons ht] at hg hE
      rw [takesV, evsB] at hE
      obtain ⟨hg1, hg2⟩ := hg
      have GD := Aside0.mk hg1
      have HLEN := Aside0.mk (takeV_len n' t)
      have HKD := Aside0.mk (take_kinds n' t)
      rw [Nat.add_zero] at x0
      go_upto_region 4 with (fail)
      generalize hwk : World.alloc wj _ = wk
      have TB : Aside0 (wk.heap[wj.heap.size]? = some (.cells #[.int .i64 t.kind, .bool t.begun, .int .i64 (t.frm : Int), .int .i64 (t.to : Int), .string t.text] 39 (0, 0))) := ⟨by subst hwk; exact blk_new wj _⟩
      have KK : Aside0 (Below wj.heap.size wj wk) := ⟨by subst hwk; exact below_alloc (Below.refl _ _) _⟩
      have AK := Aside0.mk (AJ.out.below KK.out)
      have HTK := Aside0.mk (Nx.take_calls AK.out.nx AK.out.bel (LxN.Tab.below HT.out AK.out.bel HT.out.1) GD.out t)
      have nbc : wk.cell? ⟨nb, 0, none⟩ = some (.pointer (some ⟨g, 0, none⟩)) := (blk_cell AK.out.nb_ 0).trans rfl
      clear hwk x0 x1 x2 x3 x4 c1 c2 j1 j2 j3 KK AJ hg1 GD GJ EJ WJ ht
      generalize wj.heap.size = g8 at *
      obtain ⟨y0, y1, y2, y3, y4⟩ := tokN_cells TB.out
      generalize takeV n' t = rr at *
      obtain ⟨s', evs, fault⟩ := rr
      dsimp only at hE hg2 HTK HLEN HKD
      have HE := Aside0.mk hE
      have HG2 := Aside0.mk hg2
      clear hE hg2
      go_wp2_with (fail)
      go_at_call 36
      refine HTK.out.mono ?_
      rintro e w6 ⟨v, rfl, lvv2, p1, p2, p3, p4, p5⟩
      have A6 := Aside0.mk (AK.out.nest p1 p2 p3)
      have TB6 := Aside0.mk ((KT.of_nest p3 AK.out.nx).blk TB.out (by decide))
      have V6 := Aside0.mk p4
      clear p1 p2 p3 p4 p5 HTK TB y0 y1 y2 y3 y4 AK nbc
      obtain ⟨av, capv, rfl, hav⟩ := own_evs V6.out
      have HAV := Aside0.mk hav
      clear hav
      by_cases hf : fault = 0
      · subst hf
        have HE0 := HE.out
        rw [if_neg (by simp), if_neg (by simp)] at HE0
        have HE := Aside0.mk HE0
        have HG3 := Aside0.mk (HG2.out rfl)
        clear HE0 HG2 TB6
        go_wp2_with (fail)
        go_loopg [31] evs.length (fun kq v31 w' => ∃ (i : Nat) (we : World), we = w' ∧ v31 = .int .i64 (i : Int) ∧ Aside0 (i + kq = evs.length) ∧ Aside0 (TA w0 W we g gb nb ob Bt T (.slice (some ⟨gt, 0, none⟩) T.length cap) s' lvv2 ((evs.take i).foldl bV S')) ∧ Aside0 (we.ownsRow wk.heap.size 62 8 (.slice av evs.length capv) evs.length (evs.flatMap evCells)) ∧ Aside0 (Bnd ((evs.take i).foldl bV S') (m + j + i)))
        case atStart => exact ⟨0, _, rfl, rfl, ⟨by omega⟩, A6, V6, BJ⟩
        case round =>
          obtain ⟨i, we, rfl, rfl, HI, AE, VE, BE⟩ := hrel
          cases gk with
          | zero =>
            have hi : i = evs.length := by have := HI.out; omega
            have c1 : decide ((i : Int) < (evs.length : Int)) = false := by simp; omega
            have c2 : decide (i < evs.length) = false := by simp; omega
            have AE2 := AE.out
            have BE2 := BE.out
            rw [hi, List.take_length] at AE2 BE2
            have AE2 := Aside0.mk AE2
            have BE2 : Aside0 (Bnd (evs.foldl bV S') (m + (j + 1))) := ⟨by
              have := HLEN.out
              exact ⟨by have := BE2.1; omega, fun q hq => by have := BE2.2 q hq; omega⟩⟩
            clear hi AE BE
            go_wp2_with (fail)
            go_roundg dd
            case measure => omega
            case rel => exact ⟨j + 1, s', _, lvv2, _, rfl, by rw [J4.out]; rfl, ⟨by have := HJ.out; omega⟩, AE2, HG3, BE2, HE, ⟨fun h => by omega⟩⟩
          | succ d2 =>
            have hi : i < evs.length := by have := HI.out; omega
            have c1 : decide ((i : Int) < (evs.length : Int)) = true := by simp; omega
            have c2 : decide (i < evs.length) = true := by simp; omega
            have i1 : (0 : Int) ≤ (i : Int) := by omega
            have i2 : (i : Int) < (evs.length : Int) := by omega
            have i3 := eq_true hi
            have I4 : Aside0 (wrap64 ((i : Int) + 1) = (i : Int) + 1) := ⟨by have := HLEN.out; unfold wrap64; omega⟩
            obtain ⟨ge, rfl, _, _⟩ := HAV.out (fun e => by omega)
            obtain ⟨e, he⟩ : ∃ e, evs[i]? = some e := ⟨evs[i], List.getElem?_eq_getElem hi⟩
            have x0 := LxA.own_cell VE.out (i * 8 + 0) (.int .i64 e.kind) (by rw [flat_ev evs i 0 e he (by omega)]; rfl)
            have x1 := LxA.own_cell VE.out (i * 8 + 1) (.int .i64 e.value) (by rw [flat_ev evs i 1 e he (by omega)]; rfl)
            have x2 := LxA.own_cell VE.out (i * 8 + 2) (.int .i64 (e.frm : Int)) (by rw [flat_ev evs i 2 e he (by omega)]; rfl)
            have x3 := LxA.own_cell VE.out (i * 8 + 3) (.int .i64 (e.til : Int)) (by rw [flat_ev evs i 3 e he (by omega)]; rfl)
            have x4 := LxA.own_cell VE.out (i * 8 + 4) (.bool e.step.named) (by rw [flat_ev evs i 4 e he (by omega)]; rfl)
            have x5 := LxA.own_cell VE.out (i * 8 + 5) (.string e.step.name) (by rw [flat_ev evs i 5 e he (by omega)]; rfl)
            have x6 := LxA.own_cell VE.out (i * 8 + 6) (.int .i64 (e.step.idx : Int)) (by rw [flat_ev evs i 6 e he (by omega)]; rfl)
            have x7 := LxA.own_cell VE.out (i * 8 + 7) (.string e.text) (by rw [flat_ev evs i 7 e he (by omega)]; rfl)
            rw [Nat.add_zero] at x0
            have HFT := Aside0.mk (take_succ_foldl he S')
            have HKE := Aside0.mk (HKD.out e (List.mem_of_getElem? he))
            go_upto_region 10 with (fail)
            generalize hwk2 : World.alloc we _ = wz
            have EB : Aside0 (wz.heap[we.heap.size]? = some (.cells (evCells e).toArray 62 (0, 0))) := ⟨by subst hwk2; exact blk_new we _⟩
            have KK : Aside0 (Below we.heap.size we wz) := ⟨by subst hwk2; exact below_alloc (Below.refl _ _) _⟩
            have AZ := Aside0.mk (AE.out.below KK.out)
            have VZ := Aside0.mk ((KT.of_below (p := []) KK.out).row VE.out (by simp))
            have HBT := Aside0.mk (btake_calls AZ.out.bx AZ.out.bel.size BE.out (by have := HM.out; have := HJ.out; have := HLEN.out; omega) e HKE.out)
            have obc : wz.cell? ⟨ob, 0, none⟩ = some (.pointer (some ⟨gb, 0, none⟩)) := (blk_cell AZ.out.ob_ 0).trans rfl
            have BE2 := Aside0.mk (bnd_step BE.out e)
            clear hwk2 x0 x1 x2 x3 x4 x5 x6 x7 c1 c2 i1 i2 i3 KK AE VE hi he BE
            generalize we.heap.size = g9 at *
            obtain ⟨z0, z1, z2, z3, z4, z5, z6, z7⟩ := ev_cells EB.out
            go_wp2_with (fail)
            go_at_call 116
            refine HBT.out.mono ?_
            rintro x w7 ⟨rfl, q1, q2, q3⟩
            have A7 := AZ.out.build q1 q2 q3
            rw [← HFT.out] at A7
            have A7 := Aside0.mk A7
            have V7 := Aside0.mk (q3.row VZ.out (by decide))
            have BE3 := BE2.out
            rw [← HFT.out] at BE3
            have BE3 := Aside0.mk BE3
            clear q1 q2 q3 AZ VZ HBT obc z0 z1 z2 z3 z4 z5 z6 z7 EB BE2
            go_wp2_with (fail)
            go_roundg d2
            case measure => omega
            case rel => exact ⟨i + 1, _, rfl, by rw [I4.out]; rfl, ⟨by have := HI.out; omega⟩, A7, V7, BE3⟩
      · have HE0 := HE.out
        rw [if_pos hf, if_pos hf] at HE0
        have HE := Aside0.mk HE0
        have k1 : (fault != 0) = true := by simp [hf]
        have k2 : (fault == 0) = false := by simp [hf]
        have k3 : decide (fault = 0) = false := by simp [hf]
        have y2 := (tokN_cells TB6.out).2.2.1
        clear hf HE0
        go_upto_region 6 with (fail)
        refine ListedB.wp_region_listed (G := []) (by kernel_rfl) (by kernel_rfl) ?_
        go_wp2_with (fail)
        refine ListedB.fin_intro (by kernel_rfl) ?_
        go_wp2_with (fail)
        go_ret2
        rw [HE.out.1, HE.out.2]
        have AF := A6.out.below (Below.refl w6.heap.size w6).drew
        have BJ2 := BJ.out
        exact ⟨rfl, ⟨_, AF⟩, fun hn => by have := HJ.out; rw [hn] at this; simp at this⟩
end Go.Proofs.YtlhpflicchchlaaDoor.Tr
