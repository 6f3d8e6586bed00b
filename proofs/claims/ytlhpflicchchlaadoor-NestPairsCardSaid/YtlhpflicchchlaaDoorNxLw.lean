/- rifflelaw09.NestPairs, walked: it returns true. Conditions: none. -/
import Derived.Test.YtlhpflicchchlaaDoorNxLq
import Derived.Test.YtlhpflicchchlaaDoorListedB
import Derived.Deep.DeepCutAuto
namespace Go.Proofs.YtlhpflicchchlaaDoor.Nx
open Go.RowKit Go.Proofs.YtlhpflicchchlaaDoorW.PrintWords Go.Proofs.YtlhpflicchchlaaDoorW.PrintLast Go.Proofs.YtlhpflicchchlaaDoorW.PrintMore
attribute [local go_sem] max2_int min2_int max_two min_two max_three min_three max_four min_four
open Go.Proofs.YtlhpflicchchlaaDoor.LexPure Go.Proofs.YtlhpflicchchlaaDoor.BitsW
set_option linter.unusedVariables false
set_option linter.unusedSimpArgs false
set_option maxHeartbeats 32000000 in
set_option maxRecDepth 100000 in
theorem pairs_walk (A : Option Addr) (n cp : Nat) (zs : List Int) (d : Nat) (W : World) (hr : ReadsOf (Value.int .u8) 0 W A n zs) (hz : ∀ z ∈ zs, 0 ≤ z ∧ z < 256) (hd : d < 256) (hT : LxN.Tab W) :
    Calls Tryd.prog 7 #[.slice A n cp, .int .u8 (d : Int)] W fun e w' => e = .returned (.bool true) ∧ Below W.heap.size W w' := by
  have HR := Aside0.mk hr
  have HZ := Aside0.mk hz
  have HT := Aside0.mk hT
  have HLZ := Aside0.mk hr.1
  have HDD := Aside0.mk hd
  have wd : IntKind.i64.wrap (d : Int) = (d : Int) := IntWalk.i64_in _ (by omega)
  clear hr hz hT hd
  go_enter Tryd.func7, Tryd.ntmps7
  go_wp2_with (fail)
  go_at_call 34
  refine (nestAlive_calls W HT.out).mono ?_
  rintro e w1 ⟨rfl, hb⟩
  have B1 := Aside0.mk hb
  clear hb
  by_cases hn : n ≤ 2000
  · have q1 : decide ((2000 : Int) < (n : Int)) = false := by simp; omega
    have HN := Aside0.mk hn
    clear hn
    go_wp2_with (fail)
    have HNEW := Aside0.mk (new_calls w1 w1 d (by have := HDD.out; omega) (Nat.le_refl _))
    go_at_call 35
    refine HNEW.out.mono ?_
    rintro e w2 ⟨rfl, hnn, hb⟩
    have N2 := Aside0.mk hnn
    have K2 := Aside0.mk hb
    have B2 : Aside0 (Below W.heap.size W w2) := ⟨B1.out.trans (hb.mono B1.out.size)⟩
    have HA := Aside0.mk (LxA.all_calls A n cp zs w2 (HR.out.below B2.out) HZ.out HN.out (LxN.Tab.below HT.out B2.out HT.out.1))
    obtain ⟨y, s1, s2, s3, s4⟩ := all_spans LxA.sub LxA.bads zs zs LxA.s0 (0, none) rfl (LxA.inv0 zs) (Nat.le_refl _)
    generalize allV LxA.sub zs LxA.s0 = R at *
    obtain ⟨T, K, AT⟩ := R
    dsimp only at HA s1 s2 s3 s4
    have S1 := Aside0.mk s1
    clear s1 s2 s3 s4 hnn hb HNEW
    generalize hg : w1.heap.size = g at N2 ⊢
    have HG := Aside0.mk hg
    clear hg
    go_wp2_with (fail)
    go_at_call 20
    refine HA.out.mono ?_
    rintro e w3 ⟨v, rfl, hb, hrow⟩
    have K3 := Aside0.mk hb
    have ROW := Aside0.mk hrow
    obtain ⟨ao, cap, rfl, hao⟩ := own_evs hrow
    have HAO := Aside0.mk hao
    have N3 : Aside0 (Nx w1 w3 g (ns0 d) (.slice none 0 0)) := ⟨(KT.of_below (p := []) K3.out).nx N2.out (by simp) (by simp) (by simp)⟩
    have BW3 : Aside0 (Below w1.heap.size w1 w3) := ⟨K2.out.trans (K3.out.mono K2.out.size)⟩
    clear hb hrow hao HA K3 K2
    go_upto_region 9 with (fail)
    generalize hw4 : World.alloc w3 _ = w4
    have K4 : Aside0 (Below w3.heap.size w3 w4) := ⟨by subst hw4; exact below_alloc (Below.refl _ _) _⟩
    clear hw4
    go_upto_region 10 with (fail)
    generalize hw5 : World.alloc w4 _ = w5
    have E5 : Aside0 (w5.ownsRow w1.heap.size 62 8 (.slice (some ⟨w4.heap.size, 0, none⟩) 0 0) ([] : List Ev).length (([] : List Ev).flatMap evCells)) := ⟨by subst hw5; exact row0 _ _ _ _ (Nat.le_trans BW3.out.size K4.out.size) _ rfl⟩
    have K5 : Aside0 (Below w4.heap.size w4 w5) := ⟨by subst hw5; exact below_alloc (Below.refl _ _) _⟩
    clear hw5
    go_wp2_with (fail)
    generalize hw6 : World.alloc w5 _ = w6
    have C6 : Aside0 (w6.ownsRow w1.heap.size 3 1 (.slice (some ⟨w5.heap.size, 0, none⟩) 1 1) [0].length (cIs [0])) := ⟨by subst hw6; exact cI1 _ _ (Nat.le_trans BW3.out.size (Nat.le_trans K4.out.size K5.out.size)) _ 0 rfl⟩
    have K6 : Aside0 (Below w5.heap.size w5 w6) := ⟨by subst hw6; exact below_alloc (Below.refl _ _) _⟩
    clear hw6
    have K36 : Below w3.heap.size w3 w6 := K4.out.trans ((K5.out.mono K4.out.size).trans (K6.out.mono (Nat.le_trans K4.out.size K5.out.size)))
    have AT6 : Aside0 (At w1 w6 g w2.heap.size T (.slice ao T.length cap) (ns0 d) (.slice none 0 0) [] [0] (.slice (some ⟨w4.heap.size, 0, none⟩) 0 0) (.slice (some ⟨w5.heap.size, 0, none⟩) 1 1)) :=
      ⟨⟨(KT.of_below (p := []) K36).nx N3.out (by simp) (by simp) (by simp), BW3.out.trans (K36.mono BW3.out.size), (KT.of_below (p := []) K6.out).row E5.out (by simp), C6.out, (KT.of_below (p := []) K36).row ROW.out (by simp)⟩⟩
    clear K36 K6 K5 K4 C6 E5 BW3 N3 N2
    go_loopg [8, 9, 38] T.length (fun kq v8 v9 v38 w' => ∃ (j : Nat) (s : NS) (O : List Ev) (C : List Nat) (lvv : Value) (x : Nat × Option Nat) (wj : World), wj = w' ∧ v38 = .int .i64 (j : Int) ∧ Aside0 (j + kq = T.length) ∧ Aside0 (spans zs (T.drop j) x = some y) ∧ Aside0 (InvE zs.length (max d 1) s O C x) ∧ Aside0 (At w1 wj g w2.heap.size T (.slice ao T.length cap) s lvv O C v8 v9))
    case atStart => exact ⟨0, _, _, _, _, _, _, rfl, rfl, ⟨by omega⟩, S1, ⟨inv_new _ _⟩, AT6⟩
    case round =>
      obtain ⟨j, s, O, C, lvv, x, wj, rfl, rfl, HJ, HS, HI, AJ⟩ := hrel
      cases gk with
      | zero =>
        have hj : j = T.length := by have := HJ.out; omega
        have c1 : decide ((j : Int) < (T.length : Int)) = false := by simp; omega
        have c2 : decide (j < T.length) = false := by simp; omega
        obtain ⟨c, Cr, rfl, hfin⟩ := HI.out.fin
        obtain ⟨ac, cpc, hvc, hac⟩ := own_evs AJ.out.rc
        obtain ⟨gc, rfl, _, _⟩ := hac (by simp)
        rw [hvc] at AJ ⊢
        have x0 := LxA.own_cell AJ.out.rc 0 (.int .i64 (c : Int)) rfl
        have HD := Aside0.mk (done_calls AJ.out.nx)
        obtain ⟨aq, cpo, hvo, hao⟩ := own_evs AJ.out.ro
        rw [hvo] at AJ ⊢
        have BF : Aside0 (Below W.heap.size W wj) := ⟨B1.out.trans (AJ.out.bel.mono B1.out.size)⟩
        clear hj hac hao hvc hvo
        by_cases hO : O = []
        · subst hO
          by_cases hc : c = 1
          · subst hc
            have h6 : s.may = 6 := hfin.2 ⟨rfl, rfl⟩
            rw [h6] at HD
            clear hfin h6
            go_wp2_with (fail)
            go_at_call 38
            refine HD.out.mono ?_
            rintro e w7 ⟨rfl, rfl⟩
            go_wp2_with (fail)
            go_ret
            exact ⟨rfl, BF.out⟩
          · have h6 : ¬ s.may = 6 := fun e => hc (hfin.1 e).2
            have h6d : decide (s.may = 6) = false := by simp [h6]
            have k1 : decide ((c : Int) = 1) = false := by simp; omega
            have k2 : decide (c = 1) = false := by simp; omega
            have k3 : ((c : Int) == 1) = false := by simp; omega
            rw [h6d] at HD
            clear hfin h6 h6d
            go_wp2_with (fail)
            go_at_call 38
            refine HD.out.mono ?_
            rintro e w7 ⟨rfl, rfl⟩
            go_wp2_with (fail)
            go_ret
            exact ⟨rfl, BF.out⟩
        · have h6 : ¬ s.may = 6 := fun e => hO (hfin.1 e).1
          have h6d : decide (s.may = 6) = false := by simp [h6]
          have hl : O.length ≠ 0 := fun e => hO (List.eq_nil_of_length_eq_zero e)
          have k1 : decide ((O.length : Int) = 0) = false := by simp; omega
          have k2 : decide (O.length = 0) = false := by simp; omega
          have k3 : ((O.length : Int) == 0) = false := by simp; omega
          rw [h6d] at HD
          clear hfin h6 h6d hl hO
          go_wp2_with (fail)
          go_at_call 38
          refine HD.out.mono ?_
          rintro e w7 ⟨rfl, rfl⟩
          go_wp2_with (fail)
          go_ret
          exact ⟨rfl, BF.out⟩
      | succ dd =>
        have hj : j < T.length := by have := HJ.out; omega
        have c1 : decide ((j : Int) < (T.length : Int)) = true := by simp; omega
        have c2 : decide (j < T.length) = true := by simp; omega
        have j1 : (0 : Int) ≤ (j : Int) := by omega
        have j2 : (j : Int) < (T.length : Int) := by omega
        have j3 := eq_true hj
        have j5 : IntKind.i64.wrap ((j : Int) + 1) = (j : Int) + 1 := IntWalk.i64_in _ (by have := own_maxN AJ.out.rt; omega)
        have J4 : Aside0 (wrap64 ((j : Int) + 1) = (j : Int) + 1) := ⟨by have := own_maxN AJ.out.rt; unfold wrap64; omega⟩
        obtain ⟨gt, rfl, _, _⟩ := HAO.out (fun e => by omega)
        obtain ⟨t, ht⟩ : ∃ t, T[j]? = some t := ⟨T[j], List.getElem?_eq_getElem hj⟩
        have x0 := LxA.own_cell AJ.out.rt (j * 5 + 0) (.int .i64 t.kind) (by rw [flat_tk T j 0 t ht (by omega)]; rfl)
        have x1 := LxA.own_cell AJ.out.rt (j * 5 + 1) (.bool t.begun) (by rw [flat_tk T j 1 t ht (by omega)]; rfl)
        have x2 := LxA.own_cell AJ.out.rt (j * 5 + 2) (.int .i64 (t.frm : Int)) (by rw [flat_tk T j 2 t ht (by omega)]; rfl)
        have x3 := LxA.own_cell AJ.out.rt (j * 5 + 3) (.int .i64 (t.to : Int)) (by rw [flat_tk T j 3 t ht (by omega)]; rfl)
        have x4 := LxA.own_cell AJ.out.rt (j * 5 + 4) (.string t.text) (by rw [flat_tk T j 4 t ht (by omega)]; rfl)
        have hsp := HS.out
        rw [drop_tkN ht] at hsp
        obtain ⟨x', hx1, hx2⟩ := Option.bind_eq_some_iff.1 hsp
        have OK := Aside0.mk (todo_of (take_okay HI.out (Nat.le_refl _) hx1))
        have SN := Aside0.mk hx2
        have GD := Aside0.mk (HI.out.good (by have := HLZ.out; have := HN.out; omega) (by have := HDD.out; omega))
        rw [Nat.add_zero] at x0
        clear hsp hx1 hx2 ht j5
        go_upto_region 14 with (fail)
        generalize hwk : World.alloc wj _ = wk
        have TB : Aside0 (wk.heap[wj.heap.size]? = some (.cells #[.int .i64 t.kind, .bool t.begun, .int .i64 (t.frm : Int), .int .i64 (t.to : Int), .string t.text] 39 (0, 0))) := ⟨by subst hwk; exact blk_new wj _⟩
        have KK : Aside0 (Below wj.heap.size wj wk) := ⟨by subst hwk; exact below_alloc (Below.refl _ _) _⟩
        have AK := Aside0.mk (AJ.out.below KK.out)
        have HTK := Aside0.mk (take_calls AK.out.nx AK.out.bel (LxN.Tab.below HT.out (B1.out.trans (AK.out.bel.mono B1.out.size)) HT.out.1) GD.out t)
        clear hwk x0 x1 x2 x3 x4 c1 c2 j1 j2 j3 KK AJ HI HS
        generalize wj.heap.size = g8 at *
        obtain ⟨y0, y1, y2, y3, y4⟩ := tokN_cells TB.out
        generalize takeV s t = rr at *
        obtain ⟨s', evs, fault⟩ := rr
        dsimp only at OK HTK
        go_wp2_with (fail)
        go_at_call 36
        refine HTK.out.mono ?_
        rintro e w6 ⟨v, rfl, lvv', p1, p2, p3, p4, p5⟩
        have K6 := KT.of_nest p3 AK.out.nx
        have A6 : Aside0 (At w1 w6 g w2.heap.size T (.slice (some ⟨gt, 0, none⟩) T.length cap) s' lvv' O C _ _) := ⟨⟨p1, AK.out.bel.trans p2, K6.row AK.out.ro (by simp), K6.row AK.out.rc (by simp), K6.row AK.out.rt (by simp)⟩⟩
        have V6 := Aside0.mk p4
        have HNIL := Aside0.mk p5
        clear p1 p2 p3 p4 p5 K6 HTK TB y0 y1 y2 y3 y4 AK GD
        rcases OK.out with ⟨h0, h1⟩ | ⟨h0, h1⟩
        · obtain rfl := HNIL.out h1
          have k1 : (fault != 0) = true := by simp [h0]
          have k2 : (fault == 0) = false := by simp [h0]
          have k3 : decide (fault = 0) = false := by simp [h0]
          have BF : Aside0 (Below W.heap.size W w6) := ⟨B1.out.trans (A6.out.bel.mono B1.out.size)⟩
          clear h0 h1 OK
          go_wp2_with (fail)
          go_ret
          exact ⟨rfl, BF.out⟩
        · subst h0
          have TD := Aside0.mk h1
          clear h1 OK
          obtain ⟨av, capv, rfl, hav⟩ := own_evs V6.out
          have HAV := Aside0.mk hav
          clear hav
          go_wp2_with (fail)
          go_loopg [8, 9, 55] evs.length (fun kq v8 v9 v55 w' => ∃ (i : Nat) (O : List Ev) (C : List Nat) (we : World), we = w' ∧ v55 = .int .i64 (i : Int) ∧ Aside0 (i + kq = evs.length) ∧ Aside0 (Todo zs.length (max d 1) s' x' O C (evs.drop i)) ∧ Aside0 (At w1 we g w2.heap.size T (.slice (some ⟨gt, 0, none⟩) T.length cap) s' lvv' O C v8 v9) ∧ Aside0 (evs.drop i ≠ [] → we.ownsRow wk.heap.size 62 8 (.slice av evs.length capv) evs.length (evs.flatMap evCells)))
          case atStart => exact ⟨0, _, _, _, rfl, rfl, ⟨by omega⟩, TD, A6, ⟨fun _ => V6.out⟩⟩
          case round =>
            obtain ⟨i, O, C, we, rfl, rfl, HI, TE, AE, VE⟩ := hrel
            cases gk with
            | zero =>
              as_aux_lemma =>
              have hi : i = evs.length := by have := HI.out; omega
              have c1 : decide ((i : Int) < (evs.length : Int)) = false := by simp; omega
              have c2 : decide (i < evs.length) = false := by simp; omega
              have IN := Aside0.mk (todo_nil (by have := TE.out; rwa [hi, List.drop_length] at this))
              obtain ⟨ao, cpo, hvo, hao⟩ := own_evs AE.out.ro
              rw [hvo] at AE ⊢
              have HAO2 := Aside0.mk hao
              clear hi hvo hao TE VE TD V6
              go_wp2_with (fail)
              go_loopg [16, 192] O.length (fun kq v16 v192 w' => ∃ (i : Nat) (wq : World), wq = w' ∧ v192 = .int .i64 (i : Int) ∧ v16 = .int .i64 (((O.take i).countP isCon : Nat) : Int) ∧ Aside0 (i + kq = O.length) ∧ Aside0 (At w1 wq g w2.heap.size T (.slice (some ⟨gt, 0, none⟩) T.length cap) s' lvv' O C (.slice ao O.length cpo) _))
              case atStart => exact ⟨0, _, rfl, rfl, rfl, ⟨by omega⟩, AE⟩
              case round =>
                obtain ⟨i, wq, rfl, rfl, rfl, HQ, AQ⟩ := hrel
                cases gk with
                | zero =>
                  have hi : i = O.length := by have := HQ.out; omega
                  have c3 : decide ((i : Int) < (O.length : Int)) = false := by simp; omega
                  have c4 : decide (i < O.length) = false := by simp; omega
                  obtain ⟨e1, e2, e3, e4, e5⟩ := IN.out.deep
                  rw [hi, List.take_length, e1]
                  have HDEP := Aside0.mk (depth_calls AQ.out.nx)
                  have wdd : IntKind.i64.wrap (d : Int) = (d : Int) := IntWalk.i64_in _ (by have := HDD.out; omega)
                  clear hi e1 e3 e4 e5
                  generalize s'.stk.length = L at *
                  by_cases hd1 : d < 1
                  · have q1 : (d : Int) < 1 := by omega
                    have q2 : decide ((d : Int) < 1) = true := by simp; omega
                    have g1 : decide ((1 : Int) < (L : Int)) = false := by simp; omega
                    have g2 : decide (1 < L) = false := by simp; omega
                    clear e2
                    go_wp2_with (fail)
                    go_at_call 37
                    refine HDEP.out.mono ?_
                    rintro e w9 ⟨rfl, rfl⟩
                    go_wp2_with (fail)
                    go_roundg dd
                    case measure => omega
                    case rel => exact ⟨j + 1, s', O, C, lvv', x', _, rfl, by rw [J4.out]; rfl, ⟨by have := HJ.out; omega⟩, SN, IN, AQ⟩
                  · have q1 : ¬ (d : Int) < 1 := by omega
                    have q2 : decide ((d : Int) < 1) = false := by simp; omega
                    have g1 : decide ((d : Int) < (L : Int)) = false := by simp; omega
                    have g2 : decide (d < L) = false := by simp; omega
                    clear e2
                    go_wp2_with (fail)
                    go_at_call 37
                    refine HDEP.out.mono ?_
                    rintro e w9 ⟨rfl, rfl⟩
                    go_wp2_with (fail)
                    go_roundg dd
                    case measure => omega
                    case rel => exact ⟨j + 1, s', O, C, lvv', x', _, rfl, by rw [J4.out]; rfl, ⟨by have := HJ.out; omega⟩, SN, IN, AQ⟩
                | succ d3 =>
                  have hi : i < O.length := by have := HQ.out; omega
                  have c3 : decide ((i : Int) < (O.length : Int)) = true := by simp; omega
                  have c4 : decide (i < O.length) = true := by simp; omega
                  have i1 : (0 : Int) ≤ (i : Int) := by omega
                  have i2 : (i : Int) < (O.length : Int) := by omega
                  have i3 := eq_true hi
                  have HI3 := Aside0.mk hi
                  have i5 : IntKind.i64.wrap ((i : Int) + 1) = (i : Int) + 1 := IntWalk.i64_in _ (by have := own_maxN AQ.out.ro; omega)
                  obtain ⟨gq, rfl, _, _⟩ := HAO2.out (fun e => by omega)
                  obtain ⟨e, he⟩ : ∃ e, O[i]? = some e := ⟨O[i], List.getElem?_eq_getElem hi⟩
                  have htk : (O.take (i + 1)).countP isCon = (O.take i).countP isCon + (if isCon e = true then 1 else 0) := by
                    rw [List.take_add_one, he, List.countP_append]
                    cases hc : isCon e <;> simp [hc]
                  have HTKE := Aside0.mk htk
                  have hcnt : (O.take i).countP isCon ≤ i := Nat.le_trans List.countP_le_length (List.length_take_le _ _)
                  generalize (O.take i).countP isCon = q at *
                  have q5 : IntKind.i64.wrap ((q : Int) + 1) = (q : Int) + 1 := IntWalk.i64_in _ (by have := own_maxN AQ.out.ro; omega)
                  have x0 := LxA.own_cell AQ.out.ro (i * 8 + 0) (.int .i64 e.kind) (by rw [flat_ev O i 0 e he (by omega)]; rfl)
                  have x1 := LxA.own_cell AQ.out.ro (i * 8 + 1) (.int .i64 e.value) (by rw [flat_ev O i 1 e he (by omega)]; rfl)
                  have x2 := LxA.own_cell AQ.out.ro (i * 8 + 2) (.int .i64 (e.frm : Int)) (by rw [flat_ev O i 2 e he (by omega)]; rfl)
                  have x3 := LxA.own_cell AQ.out.ro (i * 8 + 3) (.int .i64 (e.til : Int)) (by rw [flat_ev O i 3 e he (by omega)]; rfl)
                  have x4 := LxA.own_cell AQ.out.ro (i * 8 + 4) (.bool e.step.named) (by rw [flat_ev O i 4 e he (by omega)]; rfl)
                  have x5 := LxA.own_cell AQ.out.ro (i * 8 + 5) (.string e.step.name) (by rw [flat_ev O i 5 e he (by omega)]; rfl)
                  have x6 := LxA.own_cell AQ.out.ro (i * 8 + 6) (.int .i64 (e.step.idx : Int)) (by rw [flat_ev O i 6 e he (by omega)]; rfl)
                  have x7 := LxA.own_cell AQ.out.ro (i * 8 + 7) (.string e.text) (by rw [flat_ev O i 7 e he (by omega)]; rfl)
                  rw [Nat.add_zero] at x0
                  clear he hi hcnt htk
                  go_upto_region 33 with (fail)
                  generalize hwk : World.alloc wq _ = wz
                  have EB : Aside0 (wz.heap[wq.heap.size]? = some (.cells (evCells e).toArray 62 (0, 0))) := ⟨by subst hwk; exact blk_new wq _⟩
                  have KK : Aside0 (Below wq.heap.size wq wz) := ⟨by subst hwk; exact below_alloc (Below.refl _ _) _⟩
                  have AZ := Aside0.mk (AQ.out.below KK.out)
                  clear hwk x0 x1 x2 x3 x4 x5 x6 x7 c3 c4 i1 i2 i3 KK AQ
                  have y1 := (ev_cells EB.out).2.1
                  clear EB
                  generalize wq.heap.size = g8 at *
                  by_cases v4 : e.value = 4
                  · rw [v4] at y1
                    have HQ1 : Aside0 ((O.take (i + 1)).countP isCon = q + 1) := ⟨by rw [HTKE.out, if_pos (by unfold isCon; simp [v4])]⟩
                    clear v4 HTKE
                    go_wp2_with (fail)
                    go_roundg d3
                    case measure => omega
                    case rel => exact ⟨i + 1, _, rfl, rfl, by rw [HQ1.out]; rfl, ⟨by have := HQ.out; omega⟩, AZ⟩
                  · by_cases v5 : e.value = 5
                    · rw [v5] at y1
                      have HQ1 : Aside0 ((O.take (i + 1)).countP isCon = q + 1) := ⟨by rw [HTKE.out, if_pos (by unfold isCon; simp [v5])]⟩
                      clear v4 v5 HTKE
                      go_wp2_with (fail)
                      go_roundg d3
                      case measure => omega
                      case rel => exact ⟨i + 1, _, rfl, rfl, by rw [HQ1.out]; rfl, ⟨by have := HQ.out; omega⟩, AZ⟩
                    · have HQ1 : Aside0 ((O.take (i + 1)).countP isCon = q) := ⟨by rw [HTKE.out, if_neg (by unfold isCon; simp [v4, v5])]; rfl⟩
                      have k4 : decide (e.value = 4) = false := by simp [v4]
                      have k5 : decide (e.value = 5) = false := by simp [v5]
                      have m4 : (e.value == 4) = false := by simp [v4]
                      have m5 : (e.value == 5) = false := by simp [v5]
                      clear v4 v5 HTKE
                      go_wp2_with (fail)
                      go_roundg d3
                      case measure => omega
                      case rel => exact ⟨i + 1, _, rfl, rfl, by rw [HQ1.out], ⟨by have := HQ.out; omega⟩, AZ⟩
            | succ d2 =>
              have hi : i < evs.length := by have := HI.out; omega
              have c1 : decide ((i : Int) < (evs.length : Int)) = true := by simp; omega
              have c2 : decide (i < evs.length) = true := by simp; omega
              have i1 : (0 : Int) ≤ (i : Int) := by omega
              have i2 : (i : Int) < (evs.length : Int) := by omega
              have i3 := eq_true hi
              have i5 : IntKind.i64.wrap ((i : Int) + 1) = (i : Int) + 1 := IntWalk.i64_in _ (by have := own_maxN V6.out; omega)
              have hdr : evs.drop i ≠ [] := fun e => by have := congrArg List.length e; simp only [List.length_drop, List.length_nil] at this; omega
              have ROWE := VE.out hdr
              obtain ⟨ge, rfl, _, _⟩ := HAV.out (fun e => by omega)
              obtain ⟨e, he⟩ : ∃ e, evs[i]? = some e := ⟨evs[i], List.getElem?_eq_getElem hi⟩
              have hdc : evs.drop i = e :: evs.drop (i + 1) := by
                obtain ⟨hl, rfl⟩ := List.getElem?_eq_some_iff.1 he
                exact List.drop_eq_getElem_cons hl
              have x0 := LxA.own_cell ROWE (i * 8 + 0) (.int .i64 e.kind) (by rw [flat_ev evs i 0 e he (by omega)]; rfl)
              have x1 := LxA.own_cell ROWE (i * 8 + 1) (.int .i64 e.value) (by rw [flat_ev evs i 1 e he (by omega)]; rfl)
              have x2 := LxA.own_cell ROWE (i * 8 + 2) (.int .i64 (e.frm : Int)) (by rw [flat_ev evs i 2 e he (by omega)]; rfl)
              have x3 := LxA.own_cell ROWE (i * 8 + 3) (.int .i64 (e.til : Int)) (by rw [flat_ev evs i 3 e he (by omega)]; rfl)
              have x4 := LxA.own_cell ROWE (i * 8 + 4) (.bool e.step.named) (by rw [flat_ev evs i 4 e he (by omega)]; rfl)
              have x5 := LxA.own_cell ROWE (i * 8 + 5) (.string e.step.name) (by rw [flat_ev evs i 5 e he (by omega)]; rfl)
              have x6 := LxA.own_cell ROWE (i * 8 + 6) (.int .i64 (e.step.idx : Int)) (by rw [flat_ev evs i 6 e he (by omega)]; rfl)
              have x7 := LxA.own_cell ROWE (i * 8 + 7) (.string e.text) (by rw [flat_ev evs i 7 e he (by omega)]; rfl)
              rw [Nat.add_zero] at x0
              have TT := TE.out
              rw [hdc] at TT
              have TT := Aside0.mk TT
              clear he hi hdr hdc ROWE TE VE TD
              go_upto_region 20 with (fail)
              generalize hwk : World.alloc we _ = wz
              have EB : Aside0 (wz.heap[we.heap.size]? = some (.cells (evCells e).toArray 62 (0, 0))) := ⟨by subst hwk; exact blk_new we _⟩
              have KK : Aside0 (Below we.heap.size we wz) := ⟨by subst hwk; exact below_alloc (Below.refl _ _) _⟩
              have AZ := Aside0.mk (AE.out.below KK.out)
              clear hwk x0 x1 x2 x3 x4 x5 x6 x7 c1 c2 i1 i2 i3 KK AE
              generalize we.heap.size = g8 at *
              rcases TT.out with ⟨h, _⟩ | ⟨e', C1, c, hrem, hk, hC, hcond, hinv⟩ | ⟨e', O1, x, C1, c, hrem, hk, hO, hC, hfrm, hstep, hval, hlt, hinv⟩
              · cases h
              · obtain ⟨rfl, hnx⟩ : e = e' ∧ evs.drop (i + 1) = [] := by simpa using hrem
                have NXT := Aside0.mk hnx
                have INV := Aside0.mk hinv
                obtain ⟨_, _, hl1, hl2, hl3⟩ := hinv.deep
                have hNz : zs.length ≤ 2000 := by have := HLZ.out; have := HN.out; omega
                have hDz : d < 256 := HDD.out
                have hcb : c ≤ 2010 := by
                  have := hl3 (c + 1) (by simp)
                  omega
                have hob : O.length ≤ 300 := by
                  simp only [List.length_append, List.length_cons, List.length_nil] at hl1
                  omega
                obtain ⟨kc, hkc⟩ : ∃ kc, kc = C1.length := ⟨_, rfl⟩
                obtain ⟨nC, hnC⟩ : ∃ nC, nC = C.length := ⟨_, rfl⟩
                have hnk : nC = kc + 1 := by rw [hnC, hC, hkc]; simp
                have hCb : nC ≤ 400 := by
                  rw [hC] at hnC
                  simp only [List.length_append, List.length_cons, List.length_nil] at hl2 hnC
                  omega
                obtain ⟨ac, cpc, hvc, hac⟩ := own_evs AZ.out.rc
                obtain ⟨gc, rfl, _, _⟩ := hac (by rw [← hnC]; omega)
                obtain ⟨ao, cpo, hvo, hao⟩ := own_evs AZ.out.ro
                rw [hvc, hvo] at AZ ⊢
                have xc : wz.cell? ⟨gc, kc, none⟩ = some (.int .i64 (c : Int)) := LxA.own_cell AZ.out.rc kc _ (by rw [hC, hkc]; simp [cIs])
                have fc := own_frozen AZ.out.rc kc
                have RC := AZ.out.rc
                rw [← hnC] at RC ⊢
                have RC := Aside0.mk RC
                have HKC := Aside0.mk (And.intro hkc (And.intro hnC hnk))
                have n1 : wrap64 ((nC : Int) - 1) = (kc : Int) := by unfold wrap64; omega
                have n2 : (0 : Int) ≤ (kc : Int) := by omega
                have n3 : (kc : Int) < (nC : Int) := by omega
                have n4 : (kc < nC) = True := eq_true (by omega)
                have n5 : (nC : Int) - 1 = (kc : Int) := by omega
                have n6 : IntKind.i64.wrap (kc : Int) = (kc : Int) := IntWalk.i64_in _ (by omega)
                obtain ⟨w1c, w2c⟩ := wrap_small c (Nat.le_trans hcb (by decide))
                have HCC := Aside0.mk hC
                have HCND := Aside0.mk hcond
                have HOB := Aside0.mk hob
                have HCB := Aside0.mk hCb
                obtain ⟨z0, z1, z2, z3, z4, z5, z6, z7⟩ := ev_cells EB.out
                rw [hk] at z0
                clear hl1 hl2 hl3 hNz hDz hcb hob hkc hnC hnk hCb hvc hac hvo hC hcond hk hnx hinv hrem
                obtain ⟨nO, hnO⟩ : ∃ nO, nO = O.length := ⟨_, rfl⟩
                rw [← hnO] at AZ ⊢
                go_upto_region 21 with (fail)
                go_cut [112] (fun v112 wc => v112 = .bool false ∧ wc = wz.drew)
                case first =>
                  refine ListedB.wp_region_listed (G := []) (by kernel_rfl) (by kernel_rfl) ?_
                  by_cases hO : O = []
                  · have hO0 : nO = 0 := by rw [hnO, hO]; rfl
                    have e1 : decide ((0 : Int) < (nO : Int)) = false := by simp [hO0]
                    have e2 : decide (0 < nO) = false := by simp [hO0]
                    clear hao hO hO0 hnO
                    go_wp2_with (fail)
                    refine ListedB.fin_intro (by kernel_rfl) ?_
                    go_wp2_with (fail)
                    go_meet
                    case rel => exact ⟨rfl, rfl⟩
                  · obtain ⟨O1, x, hOx⟩ := snoc_of _ hO
                    have HOX := Aside0.mk hOx
                    obtain ⟨ko, hko⟩ : ∃ ko, ko = O1.length := ⟨_, rfl⟩
                    have hno : nO = ko + 1 := by rw [hnO, hOx, hko]; simp
                    obtain ⟨go_, rfl, _, _⟩ := hao (by rw [← hnO]; omega)
                    have xv : wz.cell? ⟨go_, ko * 8 + 1, none⟩ = some (.int .i64 x.value) := LxA.own_cell (n := nO) (by have h := AZ.out.ro; rw [← hnO] at h; exact h) (ko * 8 + 1) _ (by rw [flat_ev O ko 1 x (by rw [hOx, hko]; simp) (by omega)]; rfl)
                    have HCX := Aside0.mk (HCND.out O1 x hOx)
                    have m1 : wrap64 ((nO : Int) - 1) = (ko : Int) := by have := HOB.out; unfold wrap64; omega
                    have m2 : (0 : Int) ≤ (ko : Int) := by omega
                    have m3 : (ko : Int) < (nO : Int) := by omega
                    have m4 : (ko < nO) = True := eq_true (by omega)
                    have m5 : (nO : Int) - 1 = (ko : Int) := by omega
                    have m6 : IntKind.i64.wrap (ko : Int) = (ko : Int) := IntWalk.i64_in _ (by have := HOB.out; omega)
                    have m7 : decide ((0 : Int) < (nO : Int)) = true := by simp; omega
                    have m8 : decide (0 < nO) = true := by simp; omega
                    have HNO := Aside0.mk (And.intro hnO (And.intro hko hno))
                    clear hao hO hOx hko hnO hno
                    by_cases v4 : x.value = 4
                    · have v5 : x.value ≠ 5 := by omega
                      obtain ⟨hnm, hix⟩ := HCX.out.1 v4
                      rw [v4] at xv
                      rw [hnm] at z4
                      rw [hix] at z6
                      clear v4 v5 hnm hix
                      go_wp2_with (fail)
                      refine ListedB.fin_intro (by kernel_rfl) ?_
                      go_wp2_with (fail)
                      go_meet
                      case rel => exact ⟨rfl, rfl⟩
                    · by_cases v5 : x.value = 5
                      · have hnm := HCX.out.2 v5
                        rw [v5] at xv
                        rw [hnm] at z4
                        clear v4 v5 hnm
                        go_wp2_with (fail)
                        refine ListedB.fin_intro (by kernel_rfl) ?_
                        go_wp2_with (fail)
                        go_meet
                        case rel => exact ⟨rfl, rfl⟩
                      · have k4 : decide (x.value = 4) = false := by simp [v4]
                        have k5 : decide (x.value = 5) = false := by simp [v5]
                        have o4 : (x.value == 4) = false := by simp [v4]
                        have o5 : (x.value == 5) = false := by simp [v5]
                        generalize x.value = xvv at *
                        clear v4 v5
                        go_wp2_with (fail)
                        refine ListedB.fin_intro (by kernel_rfl) ?_
                        go_wp2_with (fail)
                        go_meet
                        case rel => exact ⟨rfl, rfl⟩
                case rest =>
                  obtain ⟨rfl, rfl⟩ := hcut
                  have AZ2 := Aside0.mk (AZ.out.below (Below.refl _ _).drew)
                  have EB2 : Aside0 (wz.drew.heap[g8]? = some (.cells (evCells e).toArray 62 (0, 0))) := ⟨(KT.of_below (p := []) (Below.refl _ _).drew).blk EB.out (by simp)⟩
                  clear z0 z1 z2 z3 z4 z5 z6 z7 xc fc EB AZ RC
                  generalize wz.drew = wx at AZ2 EB2 ⊢
                  have xc : wx.cell? ⟨gc, kc, none⟩ = some (.int .i64 (c : Int)) := LxA.own_cell AZ2.out.rc kc _ (by rw [HCC.out, HKC.out.1]; simp [cIs])
                  have fc := own_frozen AZ2.out.rc kc
                  go_upto_region 24 with (fail)
                  have AB := AZ2.out.bump HCC.out HKC.out.1 HKC.out.2.1
                  have EBB : Aside0 ((wx.setCell ⟨gc, kc, none⟩ (.int .i64 ((c : Int) + 1))).heap[g8]? = some (.cells (evCells e).toArray 62 (0, 0))) := ⟨by
                    obtain ⟨cc, hcc⟩ := row_type AZ2.out.rc gc rfl
                    exact (KT.of_set hcc _).blk EB2.out (by decide)⟩
                  have AB := Aside0.mk AB
                  clear xc fc EB2 AZ2 n1 n2 n3 n4 n5 n6 w1c w2c
                  generalize hwy : World.setCell wx _ _ = wy
                  rw [hwy] at AB EBB
                  clear hwy
                  obtain ⟨z0, z1, z2, z3, z4, z5, z6, z7⟩ := ev_cells EBB.out
                  have KA1 : Aside0 (Below wy.heap.size wy (wy.alloc (.cells (evCells e).toArray 62))) := ⟨below_alloc (Below.refl _ _) _⟩
                  have AB1 := Aside0.mk (AB.out.below KA1.out)
                  go_wp2_with (at_builtin; refine wpList_ev_append rfl _ _ rfl w1.heap.size wy.heap.size _ _ _ [e] rfl rfl AB1.out.ro (rowE wy wy.heap.size e (Nat.le_refl _) _ _ rfl rfl) (by simp) (by have := HOB.out; simp only [List.length_cons, List.length_nil]; omega) AB1.out.bel.size ?_)
                  intro v1 wp h1 h2 h3
                  have AP1 : Aside0 (At w1 wp g w2.heap.size T (.slice (some ⟨gt, 0, none⟩) T.length cap) s' lvv' (O ++ [e]) (C1 ++ [c + 1]) v1 _) := ⟨⟨h3.nx AB1.out.nx (by decide) (by decide) (by decide), AB1.out.bel.trans h2, by simpa using h1, h3.row AB1.out.rc (by decide), h3.row AB1.out.rt (by decide)⟩⟩
                  clear h1 h2 h3 AB1 AB KA1
                  have KA2 : Aside0 (Below wp.heap.size wp (wp.alloc (.cells #[.int .i64 (0 : Int)] 3))) := ⟨below_alloc (Below.refl _ _) _⟩
                  have AP2 := Aside0.mk (AP1.out.below KA2.out)
                  have HC1 : Aside0 ((C1 ++ [c + 1]).length ≤ 1000) := ⟨by have := HCB.out; have := HKC.out.2.1; have := HKC.out.2.2; have := HKC.out.1; simp only [List.length_append, List.length_cons, List.length_nil]; omega⟩
                  go_wp2_with (at_builtin; refine wpList_cnt_append rfl _ _ rfl w1.heap.size wp.heap.size _ _ (C1 ++ [c + 1]) 0 rfl rfl AP2.out.rc (cI1 wp wp.heap.size (Nat.le_refl _) _ 0 rfl) (by have := HC1.out; omega) AP2.out.bel.size ?_)
                  intro v2 wr k1 k2 k3
                  have AP3 : Aside0 (At w1 wr g w2.heap.size T (.slice (some ⟨gt, 0, none⟩) T.length cap) s' lvv' (O ++ [e]) (C1 ++ [c + 1] ++ [0]) v1 v2) := ⟨⟨k3.nx AP2.out.nx (by decide) (by decide) (by decide), AP2.out.bel.trans k2, k3.row AP2.out.ro (by decide), by simpa using k1, k3.row AP2.out.rt (by decide)⟩⟩
                  clear k1 k2 k3 AP2 AP1 KA2
                  go_wp2_with (fail)
                  go_roundg d2
                  case measure => omega
                  case rel => exact ⟨i + 1, O ++ [e], C1 ++ [c + 1] ++ [0], _, rfl, rfl, ⟨by have := HI.out; omega⟩, ⟨.inl ⟨NXT.out, INV.out⟩⟩, AP3, ⟨fun h => absurd NXT.out h⟩⟩
              · obtain ⟨rfl, hnx⟩ : e = e' ∧ evs.drop (i + 1) = [] := by simpa using hrem
                have NXT := Aside0.mk hnx
                have INV := Aside0.mk hinv
                obtain ⟨_, _, hl1, hl2, hl3⟩ := hinv.deep
                have hNz : zs.length ≤ 2000 := by have := HLZ.out; have := HN.out; omega
                have hDz : d < 256 := HDD.out
                have hob : O.length ≤ 301 := by
                  rw [hO]
                  simp only [List.length_append, List.length_cons, List.length_nil]
                  omega
                have hCb : C.length ≤ 401 := by
                  rw [hC]
                  simp only [List.length_append, List.length_cons, List.length_nil]
                  omega
                obtain ⟨kc, hkc⟩ : ∃ kc, kc = C1.length := ⟨_, rfl⟩
                obtain ⟨nC, hnC⟩ : ∃ nC, nC = C.length := ⟨_, rfl⟩
                have hnk : nC = kc + 1 := by rw [hnC, hC, hkc]; simp
                obtain ⟨ko, hko⟩ : ∃ ko, ko = O1.length := ⟨_, rfl⟩
                obtain ⟨nO, hnO⟩ : ∃ nO, nO = O.length := ⟨_, rfl⟩
                have hno : nO = ko + 1 := by rw [hnO, hO, hko]; simp
                rw [← hnO] at hob
                rw [← hnC] at hCb
                obtain ⟨ac, cpc, hvc, hac⟩ := own_evs AZ.out.rc
                obtain ⟨gc, rfl, _, _⟩ := hac (by rw [← hnC]; omega)
                obtain ⟨ao, cpo, hvo, hao⟩ := own_evs AZ.out.ro
                obtain ⟨go_, rfl, _, _⟩ := hao (by rw [← hnO]; omega)
                rw [hvc, hvo] at AZ ⊢
                have hcap1 := own_cap AZ.out.ro
                have hcap2 := own_cap AZ.out.rc
                have x1 : wz.cell? ⟨go_, ko * 8 + 1, none⟩ = some (.int .i64 x.value) := LxA.own_cell AZ.out.ro (ko * 8 + 1) _ (by rw [flat_ev O ko 1 x (by rw [hO, hko]; simp) (by omega)]; rfl)
                have x2 : wz.cell? ⟨go_, ko * 8 + 2, none⟩ = some (.int .i64 (e.frm : Int)) := LxA.own_cell AZ.out.ro (ko * 8 + 2) _ (by rw [flat_ev O ko 2 x (by rw [hO, hko]; simp) (by omega), ← hfrm]; rfl)
                have x4 : wz.cell? ⟨go_, ko * 8 + 4, none⟩ = some (.bool e.step.named) := LxA.own_cell AZ.out.ro (ko * 8 + 4) _ (by rw [flat_ev O ko 4 x (by rw [hO, hko]; simp) (by omega), ← hstep]; rfl)
                have x5 : wz.cell? ⟨go_, ko * 8 + 5, none⟩ = some (.string e.step.name) := LxA.own_cell AZ.out.ro (ko * 8 + 5) _ (by rw [flat_ev O ko 5 x (by rw [hO, hko]; simp) (by omega), ← hstep]; rfl)
                have x6 : wz.cell? ⟨go_, ko * 8 + 6, none⟩ = some (.int .i64 (e.step.idx : Int)) := LxA.own_cell AZ.out.ro (ko * 8 + 6) _ (by rw [flat_ev O ko 6 x (by rw [hO, hko]; simp) (by omega), ← hstep]; rfl)
                have AP := AZ.out.pop hO hC
                rw [← hkc, ← hko] at AP
                have AP := Aside0.mk AP
                rw [← hnO, ← hnC]
                rw [← hnO] at hcap1
                rw [← hnC] at hcap2
                have n1 : wrap64 ((nC : Int) - 1) = (kc : Int) := by unfold wrap64; omega
                have n2 : (0 : Int) ≤ (kc : Int) := by omega
                have n3 : (kc : Int) < (nC : Int) := by omega
                have n4 : (kc < nC) = True := eq_true (by omega)
                have n5 : (nC : Int) - 1 = (kc : Int) := by omega
                have n6 : IntKind.i64.wrap (kc : Int) = (kc : Int) := IntWalk.i64_in _ (by omega)
                have n7 : kc ≤ nC := by omega
                have n8 : kc ≤ cpc := by omega
                have n9 : (kc : Int) ≤ (cpc : Int) := by omega
                have n10 : (kc : Int) ≤ (nC : Int) := by omega
                have m1 : wrap64 ((nO : Int) - 1) = (ko : Int) := by unfold wrap64; omega
                have m2 : (0 : Int) ≤ (ko : Int) := by omega
                have m3 : (ko : Int) < (nO : Int) := by omega
                have m4 : (ko < nO) = True := eq_true (by omega)
                have m5 : (nO : Int) - 1 = (ko : Int) := by omega
                have m6 : IntKind.i64.wrap (ko : Int) = (ko : Int) := IntWalk.i64_in _ (by omega)
                have m7 : ko ≤ nO := by omega
                have m8 : ko ≤ cpo := by omega
                have m9 : (ko : Int) ≤ (cpo : Int) := by omega
                have m10 : (ko : Int) ≤ (nO : Int) := by omega
                have o1 : decide ((nO : Int) = 0) = false := by simp; omega
                have o2 : decide (nO = 0) = false := by simp; omega
                have o3 : ((nO : Int) == 0) = false := by simp; omega
                have p1 : decide ((e.til : Int) ≤ (e.frm : Int)) = false := by simp; omega
                have p2 : decide (e.til ≤ e.frm) = false := by simp; omega
                obtain ⟨z0, z1, z2, z3, z4, z5, z6, z7⟩ := ev_cells EB.out
                rw [hk] at z0
                have HVL := Aside0.mk hval
                have HCAPS := Aside0.mk (And.intro hcap1 (And.intro hcap2 (And.intro hnk hno)))
                clear hl1 hl2 hl3 hNz hDz hob hCb hkc hnC hnk hko hnO hno hvc hac hvo hao hC hO hk hnx hinv hrem hfrm hstep hval hlt AZ EB hcap1 hcap2
                by_cases hv : e.value = x.value
                · rw [← hv] at x1
                  clear hv
                  go_upto_region 25 with (fail)
                  refine ListedB.wp_region_listed (G := []) (by kernel_rfl) (by kernel_rfl) ?_
                  go_wp2_with (fail)
                  refine ListedB.fin_intro (by kernel_rfl) ?_
                  go_upto_region 27 with (fail)
                  refine ListedB.wp_region_listed (G := []) (by kernel_rfl) (by kernel_rfl) ?_
                  go_wp2_with (fail)
                  refine ListedB.fin_intro (by kernel_rfl) ?_
                  go_wp2_with (fail)
                  go_roundg d2
                  case measure => omega
                  case rel => exact ⟨i + 1, O1, C1, _, rfl, rfl, ⟨by have := HI.out; omega⟩, ⟨.inl ⟨NXT.out, INV.out⟩⟩, ⟨AP.out.below (Below.refl _ _).drew.drew⟩, ⟨fun h => absurd NXT.out h⟩⟩
                · have hv1 : e.value = 1 := HVL.out.resolve_left hv
                  have v1 : ¬ x.value = 1 := fun h => hv (by rw [hv1, h])
                  have v2 : decide ((1 : Int) = x.value) = false := by simp; omega
                  have v3 : ((1 : Int) == x.value) = false := by simp; omega
                  have v4 : ((1 : Int) != x.value) = true := by simp; omega
                  rw [hv1] at z1
                  clear hv hv1 v1
                  go_upto_region 25 with (fail)
                  refine ListedB.wp_region_listed (G := []) (by kernel_rfl) (by kernel_rfl) ?_
                  go_wp2_with (fail)
                  refine ListedB.fin_intro (by kernel_rfl) ?_
                  go_upto_region 27 with (fail)
                  refine ListedB.wp_region_listed (G := []) (by kernel_rfl) (by kernel_rfl) ?_
                  go_wp2_with (fail)
                  refine ListedB.fin_intro (by kernel_rfl) ?_
                  go_wp2_with (fail)
                  go_roundg d2
                  case measure => omega
                  case rel => exact ⟨i + 1, O1, C1, _, rfl, rfl, ⟨by have := HI.out; omega⟩, ⟨.inl ⟨NXT.out, INV.out⟩⟩, ⟨AP.out.below (Below.refl _ _).drew.drew⟩, ⟨fun h => absurd NXT.out h⟩⟩
  · have q1 : decide ((2000 : Int) < (n : Int)) = true := by simp; omega
    have HN := Aside0.mk hn
    clear hn
    go_wp2_with (fail)
    go_ret
    exact ⟨rfl, B1.out⟩
end Go.Proofs.YtlhpflicchchlaaDoor.Nx
