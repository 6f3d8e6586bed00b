/- The plain law of PathBack, and its walk. Conditions: the table of powers of ten reads as it is laid; the variables of a bad numeral's errors hold ones. -/
import Derived.Test.YthfhefkacmepkaaDoorWCa
import Derived.Test.YthfhefkacmepkaaDoorPWalk
import Derived.Laws.AppendOwnNone
namespace Go.Proofs.YthfhefkacmepkaaDoor.PS
open Go.RowKit Go.Proofs.YthfhefkacmepkaaDoorW.PrintWords Go.Lib
open Go.Proofs.YthfhefkacmepkaaDoor.PPathPuts Go.Proofs.YthfhefkacmepkaaDoor.Beg Go.Proofs.YthfhefkacmepkaaDoor.Bld Go.Proofs.YthfhefkacmepkaaDoor.PB Go.Proofs.YthfhefkacmepkaaDoor.PP
open Go.Proofs.YthfhefkacmepkaaDoor.Num (L L_len L_range)
set_option linter.unusedVariables false
set_option linter.unusedSimpArgs false
theorem back_of (l : List S26) (hr : l.all rightV = true) (hn : ∀ x ∈ l, x.f1.size ≤ 40000) : checkV ⟨(pathOf l).toArray⟩ (loopTop ⟨(pathOf l).toArray⟩) = some l := by
  rw [(loop_of l hr hn _ rfl).1, checkV_some, if_pos rfl]
theorem path_inj (l m : List S26) (hl : l.all rightV = true) (hm : m.all rightV = true) (hln : ∀ x ∈ l, x.f1.size ≤ 40000) (hmn : ∀ x ∈ m, x.f1.size ≤ 40000) : (⟨(pathOf l).toArray⟩ : ByteArray) = ⟨(pathOf m).toArray⟩ ↔ l = m := by
  constructor
  · intro h
    have h1 := (loop_of l hl hln _ rfl).1
    have h2 := (loop_of m hm hmn _ h).1
    rw [h1] at h2
    exact Option.some.inj h2
  · intro h; rw [h]
theorem putFrom_six (s : ByteArray) : ∀ (f pos : Nat), (putFrom s f pos).length ≤ 6 * f := putFrom_le s
theorem step_le (x : S26) (h : rightV x = true) (hs : x.f1.size ≤ 40000) : (stepOut x).length ≤ 25 * (x.f1.size + 1) := by
  have hr := (right_v x (by omega)).2.2 h
  unfold stepOut
  split
  · have := putFrom_le x.f1 x.f1.size 0
    simp [putOf]; omega
  · rename_i h0
    have h1 := hr (Bool.eq_false_iff.mpr h0)
    have := Lib.itoa_length_le x.f2 (by omega) (by omega)
    simp; omega
theorem outs_le (l : List S26) (h : l.all rightV = true) (hs : ∀ x ∈ l, x.f1.size ≤ 40000) : (outs l).length ≤ 25 * wsum l := by
  induction l with
  | nil => simp [outs]
  | cons y l ih =>
    simp only [List.all_cons, Bool.and_eq_true] at h
    have h1 := ih h.2 (fun x hx => hs x (by simp [hx]))
    have h2 := step_le y h.1 (hs y (by simp))
    unfold outs wsum at *
    rw [List.flatMap_cons, List.length_append, List.map_cons, List.sum_cons]
    omega
theorem path_le (l : List S26) (h : wsum l ≤ 1000) : (pathOf l).length ≤ 25001 := by
  by_cases hr : l.all rightV = true
  · have := outs_le l hr (fun x hx => by have := wsum_mem hx; omega)
    rw [path_of hr, List.length_cons]; omega
  · unfold pathOf; rw [if_neg hr]; simp
theorem check_eq (s : ByteArray) {k : List S26} (h : checkV s (loopTop s) = some k) : (⟨(pathOf k).toArray⟩ : ByteArray) = s := by
  cases hl : loopTop s with
  | none => rw [hl] at h; cases h
  | some l =>
    rw [hl, checkV_some] at h
    by_cases he : (⟨(pathOf l).toArray⟩ : ByteArray) = s
    · rw [if_pos he] at h
      obtain rfl := Option.some.inj h
      exact he
    · rw [if_neg he] at h; cases h
end Go.Proofs.YthfhefkacmepkaaDoor.PS
namespace Go.Proofs.YthfhefkacmepkaaDoor.PS
open Go.RowKit Go.Proofs.YthfhefkacmepkaaDoorW.PrintWords Go.Proofs.YthfhefkacmepkaaDoorW.PrintLast Go.Proofs.YthfhefkacmepkaaDoorW.PrintMore
open Go.Proofs.YthfhefkacmepkaaDoor.PPathPuts Go.Proofs.YthfhefkacmepkaaDoor.Beg Go.Proofs.YthfhefkacmepkaaDoor.Bld Go.Proofs.YthfhefkacmepkaaDoor.PB Go.Proofs.YthfhefkacmepkaaDoor.PP
attribute [local go_sem] max2_int min2_int max_two min_two max_three min_three max_four min_four
set_option linter.unusedVariables false
set_option linter.unusedSimpArgs false
theorem row_cells {w : World} {a : Addr} {n : Nat} {l : List S26} (h : Kd.C k26 w (some a) n l) : ∀ j u, (sc l)[j]? = some u → w.cell? (a.add j) = some u := by
  intro j u hu
  have hj : j < l.length * 3 := by
    have := (List.getElem?_eq_some_iff.1 hu).1
    rwa [sc_len] at this
  have hn := h.1
  obtain ⟨ad, he, hc⟩ := h.2.2 (by omega)
  obtain rfl := Option.some.inj he
  have hq : j / 3 < l.length := by omega
  obtain ⟨c, hcl, hK, hcell⟩ := hc (j / 3) l[j / 3] (List.getElem?_eq_getElem hq)
  obtain rfl := k26_open hK
  have h1 := sc_at l (j / 3) (j % 3) l[j / 3] (List.getElem?_eq_getElem hq) (by omega)
  rw [show j / 3 * 3 + j % 3 = j by omega, hu] at h1
  have h2 := hcell (j % 3) u h1.symm
  rw [show j / 3 * k26.sz + j % 3 = j by show j / 3 * 3 + j % 3 = j; omega] at h2
  exact h2
theorem sc_ones (l : List S26) : ∀ u ∈ sc l, u.oneCell' = true := by
  intro u hu
  unfold sc at hu
  obtain ⟨x, _, hx⟩ := List.mem_flatMap.1 hu
  exact sc_one x u hx
theorem sc_app (a b : List S26) : sc (a ++ b) = sc a ++ sc b := by unfold sc; simp
theorem steps_app {W : World} {B : Nat} {v : Value} {a b : List S26} {n : Nat} (hn : n = b.length) (h : W.ownsRow B 26 3 v (a.length + n) (sc a ++ sc b)) : W.ownsRow B 26 3 v (a ++ b).length (sc (a ++ b)) := by
  subst hn
  rw [List.length_append, sc_app]; exact h
theorem none_nil {w : World} {n : Nat} {l : List S26} (h : Kd.C k26 w none n l) : l = [] := by
  have hn := h.1
  cases n with
  | zero => exact List.length_eq_zero_iff.1 hn
  | succ n =>
    obtain ⟨ad, he, _⟩ := h.2.2 (by omega)
    cases he

set_option maxHeartbeats 32000000 in
set_option maxRecDepth 100000 in
theorem back_walk (A0 A1 : Option Addr) (c0 c1 : Nat) (l m : List S26) (s : ByteArray) (w : World) (hC0 : Kd.C k26 w A0 l.length l) (hc0 : l.length ≤ c0) (hz0 : A0 = none → c0 = 0) (hs0 : ∀ x ∈ l, x.f1.size ≤ 140737488355328) (hC1 : Kd.C k26 w A1 m.length m) (hc1 : m.length ≤ c1) (hz1 : A1 = none → c1 = 0) (hs1 : ∀ x ∈ m, x.f1.size ≤ 140737488355328) (htab : Lib.TabIs Tryd.prog w "internal/strconv.uint64pow10" .u64 Lib.pow10Tab) (herr : Errs w) :
    Calls Tryd.prog 5 #[.slice A0 l.length c0, .slice A1 m.length c1, .string s] w fun e w' => e = .returned (.bool true) ∧ Below w.heap.size w w' := by
  obtain ⟨j0, hj, hy0, hy1, hy2⟩ := info_parts info26
  have hu26 := Tryd.underlying26
  have HT := Aside0.mk (Lib.tabBelow_of_tabIs htab)
  have HER := Aside0.mk herr
  have HAL := Aside0.mk (alive w htab)
  have HC0 := Aside0.mk hC0
  have HC1 := Aside0.mk hC1
  have Hc0 := Aside0.mk hc0
  have Hc1 := Aside0.mk hc1
  have HZ0 := Aside0.mk hz0
  have HZ1 := Aside0.mk hz1
  have HS0 := Aside0.mk hs0
  have HS1 := Aside0.mk hs1
  clear hC0 hC1 hc0 hc1 hz0 hz1 hs0 hs1 htab herr
  go_enter Tryd.func5, Tryd.ntmps5
  go_wp2_with (fail)
  go_at_call 6
  refine HAL.out.mono ?_
  rintro e w1 ⟨rfl, hb⟩
  have HB1 := Aside0.mk hb
  clear hb
  obtain ⟨r0, hr0, hg0⟩ := great_calls A0 c0 l w1 (Kd.C_below HC0.out HB1.out) Hc0.out HS0.out
  have HR0 := Aside0.mk hr0
  have HG0 := Aside0.mk hg0
  clear hr0 hg0
  cases r0 with
  | true =>
    go_wp2_with (fail)
    go_at_call 7
    refine HG0.out.mono ?_
    rintro e w2 ⟨rfl, hb⟩
    have HB2 := Aside0.mk (below_step HB1.out hb)
    clear hb
    go_wp2_with (fail)
    go_ret
    exact ⟨rfl, HB2.out⟩
  | false =>
  have HW0 := Aside0.mk (HR0.out rfl)
  go_wp2_with (fail)
  go_at_call 7
  refine HG0.out.mono ?_
  rintro e w2 ⟨rfl, hb⟩
  have HB2 := Aside0.mk (below_step HB1.out hb)
  clear hb HG0 HR0
  obtain ⟨r1, hr1, hg1⟩ := great_calls A1 c1 m w2 (Kd.C_below HC1.out HB2.out) Hc1.out HS1.out
  have HR1 := Aside0.mk hr1
  have HG1 := Aside0.mk hg1
  clear hr1 hg1
  cases r1 with
  | true =>
    go_wp2_with (fail)
    go_at_call 7
    refine HG1.out.mono ?_
    rintro e w3 ⟨rfl, hb⟩
    have HB3 := Aside0.mk (below_step HB2.out hb)
    clear hb
    go_wp2_with (fail)
    go_ret
    exact ⟨rfl, HB3.out⟩
  | false =>
  have HW1 := Aside0.mk (HR1.out rfl)
  go_wp2_with (fail)
  go_at_call 7
  refine HG1.out.mono ?_
  rintro e w3 ⟨rfl, hb⟩
  have HB3 := Aside0.mk (below_step HB2.out hb)
  clear hb HG1 HR1 HB1 HB2
  by_cases hbig : (1000 : Int) < (s.size : Int)
  · have z1 : decide ((1000 : Int) < (s.size : Int)) = true := decide_eq_true hbig
    have z2 : decide (1000 < s.size) = true := decide_eq_true (by omega)
    clear hbig
    go_wp2_with (fail)
    go_ret
    exact ⟨rfl, HB3.out⟩
  have z1 : decide ((1000 : Int) < (s.size : Int)) = false := decide_eq_false hbig
  have z2 : decide (1000 < s.size) = false := decide_eq_false (by omega)
  have HNS : Aside0 (s.size ≤ 1000) := ⟨by omega⟩
  clear hbig
  go_upto_region 6 with (fail)
  clear z1 z2
  go_cut [31, 32, 33] (fun v31 v32 v33 wc => ∃ (A : Option Addr) (c : Nat), v31 = .slice A (l ++ m).length c ∧ v32 = .int .i64 ((l ++ m).length : Int) ∧ v33 = .int .i64 0 ∧ Aside0 (Kd.C k26 wc A (l ++ m).length (l ++ m)) ∧ Aside0 (Below w.heap.size w wc))
  case first =>
    have HML : Aside0 (m.length ≤ 1000) := ⟨by have := wsum_len m; have := HW1.out; omega⟩
    have HLL : Aside0 (l.length ≤ 1000) := ⟨by have := wsum_len l; have := HW0.out; omega⟩
    have HLB : Aside0 ((l ++ m).length ≤ 2000) := ⟨by rw [List.length_append]; have := HML.out; have := HLL.out; omega⟩
    have HB3a : Aside0 (Below w.heap.size w (w3.alloc (.cells #[] 26))) := ⟨below_alloc HB3.out _⟩
    have HO3 : Aside0 ((w3.alloc (.cells #[] 26)).ownsRow w.heap.size 26 3 (.slice (some ⟨w3.heap.size, 0, none⟩) 0 0) ([] : List S26).length (sc [])) := ⟨World.ownsRow_lit w3 #[] 0 HB3.out.size (by decide) (by simp)⟩
    cases A0 with
    | none =>
      have hl0 := none_nil HC0.out
      have hcz := HZ0.out rfl
      subst hl0
      subst hcz
      go_wp2_with (at_builtin; refine wpList_append_own_none rfl _ _ 22 rfl w.heap.size 26 j0 3 Tryd.underlying22 hj _ _ _ rfl HO3.out rfl ?_; refine Hid.out ?_)
      refine Lib.hid ?_
      cases A1 with
      | none =>
        have hm0 := none_nil HC1.out
        have hcz := HZ1.out rfl
        subst hm0
        subst hcz
        go_wp2_with (at_builtin; refine wpList_append_own_none rfl _ _ 22 rfl w.heap.size 26 j0 3 Tryd.underlying22 hj _ _ _ rfl HO3.out rfl ?_; refine Hid.out ?_)
        refine Lib.hid ?_
        have HOX : Aside0 ((w3.alloc (.cells #[] 26)).ownsRow w.heap.size 26 3 _ ([] ++ []).length (sc ([] ++ []))) := ⟨by rw [List.append_nil]; exact HO3.out⟩
        obtain ⟨A, c, hv, hc, hC⟩ := steps_of_own HOX.out (Nat.le_trans HLB.out (by decide))
        have HCC := Aside0.mk hC
        first | subst hv | (simp only [Value.slice.injEq] at hv; obtain ⟨rfl, -, rfl⟩ := hv)
        clear hc hC
        (first | go_wp2_with (fail) | skip)
        go_meet
        case rel => exact ⟨_, _, rfl, by first | rfl | simp, rfl, HCC, HB3a⟩
      | some a1 =>
        have HRC := Aside0.mk (row_cells (Kd.C_below HC1.out HB3a.out))
        go_wp2_with (at_builtin; refine wpList_append_own _ rfl _ _ 22 rfl w.heap.size 26 j0 stepZ 3 32 Tryd.underlying22 hj hy0 hy1 hy2 rfl (by decide) _ _ _ rfl HO3.out a1 m.length c1 (sc m) rfl (sc_len m) HRC.out (sc_ones m) ?c3 ?c4 ?c5 ?_)
        case c3 => have a := HML.out; have b := HLL.out; unfold maxLen; first | omega | (simp; omega)
        case c4 => have a := HML.out; have b := HLL.out; first | omega | (simp; omega)
        case c5 => exact HB3a.out.size
        intro v5 w5 hown5 hgrow5 _
        have HO5 : Aside0 (w5.ownsRow w.heap.size 26 3 v5 ([] ++ m).length (sc ([] ++ m))) := ⟨by first | exact steps_app rfl hown5 | exact hown5⟩
        have HB5 := Aside0.mk (grown_below3 HB3a.out HB3a.out.size HO3.out hgrow5)
        clear hown5 hgrow5
        obtain ⟨A, c, hv, hc, hC⟩ := steps_of_own HO5.out (Nat.le_trans HLB.out (by decide))
        have HCC := Aside0.mk hC
        first | subst hv | (simp only [Value.slice.injEq] at hv; obtain ⟨rfl, -, rfl⟩ := hv)
        clear hc hC
        (first | go_wp2_with (fail) | skip)
        go_meet
        case rel => exact ⟨_, _, rfl, by first | rfl | simp, rfl, HCC, HB5⟩
    | some a0 =>
      have HRC0 := Aside0.mk (row_cells (Kd.C_below HC0.out HB3a.out))
      go_wp2_with (at_builtin; refine wpList_append_own _ rfl _ _ 22 rfl w.heap.size 26 j0 stepZ 3 32 Tryd.underlying22 hj hy0 hy1 hy2 rfl (by decide) _ _ _ rfl HO3.out a0 l.length c0 (sc l) rfl (sc_len l) HRC0.out (sc_ones l) ?c3 ?c4 ?c5 ?_)
      case c3 => have := wsum_len l; have := HW0.out; unfold maxLen; simp; omega
      case c4 => have := wsum_len l; have := HW0.out; simp; omega
      case c5 => exact HB3a.out.size
      intro v4 w4 hown4 hgrow4 _
      have HO4 : Aside0 (w4.ownsRow w.heap.size 26 3 v4 l.length (sc l)) := ⟨by have h := hown4; rwa [show sc ([] : List S26) ++ sc l = sc l from rfl] at h⟩
      have HB4 := Aside0.mk (grown_below3 HB3a.out HB3a.out.size HO3.out hgrow4)
      clear hown4 hgrow4
      cases A1 with
      | none =>
        have hm0 := none_nil HC1.out
        have hcz := HZ1.out rfl
        subst hm0
        subst hcz
        go_wp2_with (at_builtin; refine wpList_append_own_none rfl _ _ 22 rfl w.heap.size 26 j0 3 Tryd.underlying22 hj _ _ _ rfl HO4.out rfl ?_; refine Hid.out ?_)
        refine Lib.hid ?_
        have HOX : Aside0 (w4.ownsRow w.heap.size 26 3 _ (l ++ []).length (sc (l ++ []))) := ⟨by rw [List.append_nil]; exact HO4.out⟩
        obtain ⟨A, c, hv, hc, hC⟩ := steps_of_own HOX.out (Nat.le_trans HLB.out (by decide))
        have HCC := Aside0.mk hC
        first | subst hv | (simp only [Value.slice.injEq] at hv; obtain ⟨rfl, -, rfl⟩ := hv)
        clear hc hC
        (first | go_wp2_with (fail) | skip)
        go_meet
        case rel => exact ⟨_, _, rfl, by first | rfl | simp, rfl, HCC, HB4⟩
      | some a1 =>
        have HRC := Aside0.mk (row_cells (Kd.C_below HC1.out HB4.out))
        go_wp2_with (at_builtin; refine wpList_append_own _ rfl _ _ 22 rfl w.heap.size 26 j0 stepZ 3 32 Tryd.underlying22 hj hy0 hy1 hy2 rfl (by decide) _ _ _ rfl HO4.out a1 m.length c1 (sc m) rfl (sc_len m) HRC.out (sc_ones m) ?c3 ?c4 ?c5 ?_)
        case c3 => have a := HML.out; have b := HLL.out; unfold maxLen; first | omega | (simp; omega)
        case c4 => have a := HML.out; have b := HLL.out; first | omega | (simp; omega)
        case c5 => exact HB4.out.size
        intro v5 w5 hown5 hgrow5 _
        have HO5 : Aside0 (w5.ownsRow w.heap.size 26 3 v5 (l ++ m).length (sc (l ++ m))) := ⟨by first | exact steps_app rfl hown5 | exact hown5⟩
        have HB5 := Aside0.mk (grown_below3 HB4.out HB4.out.size HO4.out hgrow5)
        clear hown5 hgrow5
        obtain ⟨A, c, hv, hc, hC⟩ := steps_of_own HO5.out (Nat.le_trans HLB.out (by decide))
        have HCC := Aside0.mk hC
        first | subst hv | (simp only [Value.slice.injEq] at hv; obtain ⟨rfl, -, rfl⟩ := hv)
        clear hc hC
        (first | go_wp2_with (fail) | skip)
        go_meet
        case rel => exact ⟨_, _, rfl, by first | rfl | simp, rfl, HCC, HB5⟩
  case rest =>
    clear HB3
    obtain ⟨A, c, rfl, rfl, rfl, HCR, HB⟩ := hcut
    obtain ⟨r, hr⟩ : ∃ r, l ++ m = r := ⟨_, rfl⟩
    have hrn : ∀ x ∈ r, x.f1.size ≤ 40000 := fun x hx => by
      rw [← hr] at hx
      rcases List.mem_append.1 hx with hx | hx
      · have := wsum_mem hx; have := HW0.out; omega
      · have := wsum_mem hx; have := HW1.out; omega
    have hrl : r.length ≤ 2000 := by rw [← hr, List.length_append]; have := wsum_len l; have := wsum_len m; have := HW0.out; have := HW1.out; omega
    rw [hr] at HCR ⊢
    have HR := Aside0.mk hr
    have HRN := Aside0.mk hrn
    have HRL := Aside0.mk hrl
    clear hr hrn hrl
    go_wp2_with (fail)
    go_loopg [7, 33] r.length (fun kq v7 v33 w' => ∃ (i : Nat) (W : World), W = w' ∧ v7 = .bool ((r.take i).all rightV) ∧ v33 = .int .i64 (i : Int) ∧ Aside0 (i + kq = r.length) ∧ Aside0 (Kd.C k26 w' A r.length r) ∧ Aside0 (Below w.heap.size w w'))
    case atStart => exact ⟨0, _, rfl, rfl, rfl, ⟨by omega⟩, HCR, HB⟩
    case round =>
      clear HCR HB
      obtain ⟨i, W, rfl, rfl, rfl, HK, HCR, HB⟩ := hrel
      have hk := HK.out
      have hlen := HRL.out
      cases gk with
      | zero =>
        have hil : i = r.length := by omega
        have cz1 : decide ((i : Int) < (r.length : Int)) = false := by simp; omega
        have cz1n : decide (i < r.length) = false := by simp; omega
        have HALL : Aside0 ((r.take i).all rightV = (l.all rightV && m.all rightV)) := ⟨by rw [hil, List.take_length, ← HR.out, List.all_append]⟩
        rw [HALL.out]
        clear hk hlen hil HALL
        by_cases hall : l.all rightV = true ∧ m.all rightV = true
        rotate_left
        · have hf : (l.all rightV && m.all rightV) = false := by
            cases h1 : l.all rightV with
            | false => rfl
            | true => cases h2 : m.all rightV with
              | false => rfl
              | true => exact absurd ⟨h1, h2⟩ hall
          rw [hf]
          clear hall hf
          have HP := Aside0.mk (pparse_calls s (by have := HNS.out; omega) _ (HT.out.on HB.out).here (HER.out.below HB.out))
          have HAN := Aside0.mk (answers s (by have := HNS.out; omega))
          obtain ⟨RR, hRR⟩ : ∃ R, checkV s (loopTop s) = R := ⟨_, rfl⟩
          rw [hRR] at HP HAN
          have HRR := Aside0.mk hRR
          clear hRR
          go_wp2_with (fail)
          go_at_call 14
          refine HP.out.mono ?_
          rintro e w7 ⟨ha, hb⟩
          have HB7 := Aside0.mk (below_step HB.out hb)
          clear hb
          cases RR with
          | none =>
            obtain rfl : e = _ := ha
            go_wp2_with (fail)
            go_ret
            exact ⟨by first | rfl | simp, HB7.out⟩
          | some k =>
            obtain ⟨v, rfl, hst⟩ := ha
            obtain ⟨Ak, ck, rfl, hck, hCk⟩ := hst
            obtain ⟨_, _, hkn, hkl⟩ := top_of s (by have := HNS.out; omega) HAN.out.symm
            have HPK := Aside0.mk (put_calls Ak ck k w7 hCk hck ⟨hkl, hkn⟩ (HT.out.on HB7.out).here)
            rw [check_eq s HRR.out] at HPK
            clear hCk hck hkn hkl
            go_wp2_with (fail)
            go_at_call 10
            refine HPK.out.mono ?_
            rintro e w8 ⟨rfl, hb⟩
            have HB8 := Aside0.mk (below_step HB7.out hb)
            clear hb
            go_wp2_with (fail)
            go_ret
            exact ⟨by first | rfl | simp, HB8.out⟩
        obtain ⟨hal, ham⟩ := hall
        rw [hal, ham]
        have hln : ∀ x ∈ l, x.f1.size ≤ 40000 := fun x hx => by have := wsum_mem hx; have := HW0.out; omega
        have hmn : ∀ x ∈ m, x.f1.size ≤ 40000 := fun x hx => by have := wsum_mem hx; have := HW1.out; omega
        have HBK := Aside0.mk (back_of l hal hln)
        have HIN := Aside0.mk (path_inj l m hal ham hln hmn)
        have hpl := path_le l HW0.out
        have HPL := Aside0.mk (fun W' hC hT => put_calls A0 c0 l W' hC Hc0.out (small_of l HW0.out) hT)
        have HPM := Aside0.mk (fun W' hC hT => put_calls A1 c1 m W' hC Hc1.out (small_of m HW1.out) hT)
        obtain ⟨pb, hpb⟩ : ∃ pb : ByteArray, ⟨(pathOf l).toArray⟩ = pb := ⟨_, rfl⟩
        obtain ⟨qb, hqb⟩ : ∃ qb : ByteArray, ⟨(pathOf m).toArray⟩ = qb := ⟨_, rfl⟩
        have hpz : pb.size ≤ 40000 := by rw [← hpb, size_list]; omega
        rw [hpb] at HBK HIN HPL
        rw [hqb] at HIN HPM
        have HPZ := Aside0.mk hpz
        clear hal ham hln hmn hpl hpb hqb hpz
        go_wp2_with (fail)
        go_at_call 10
        refine (HPL.out _ (Kd.C_below HC0.out HB.out) (HT.out.on HB.out).here).mono ?_
        rintro e w2a ⟨rfl, hb⟩
        have HBa := Aside0.mk (below_step HB.out hb)
        clear hb HB HCR
        have HPP := Aside0.mk (pparse_calls pb HPZ.out w2a (HT.out.on HBa.out).here (HER.out.below HBa.out))
        rw [HBK.out] at HPP
        go_wp2_with (fail)
        go_at_call 14
        refine HPP.out.mono ?_
        rintro e w2b ⟨ha, hb⟩
        have HBb := Aside0.mk (below_step HBa.out hb)
        clear hb HBa HPP
        obtain ⟨v, rfl, hst⟩ := ha
        obtain ⟨Ab, cb, rfl, hcb, hCb⟩ := hst
        have HS1b := Aside0.mk (same_true Ab A0 cb c0 l w2b hCb hcb (Kd.C_below HC0.out HBb.out) Hc0.out)
        clear hcb hCb
        go_wp2_with (fail)
        go_at_call 16
        refine HS1b.out.mono ?_
        rintro e w2c ⟨rfl, hb⟩
        have HBc := Aside0.mk (below_step HBb.out hb)
        clear hb HBb HS1b
        go_wp2_with (fail)
        go_at_call 10
        refine (HPL.out _ (Kd.C_below HC0.out HBc.out) (HT.out.on HBc.out).here).mono ?_
        rintro e w2d ⟨rfl, hb⟩
        have HBd := Aside0.mk (below_step HBc.out hb)
        clear hb HBc
        go_wp2_with (fail)
        go_at_call 10
        refine (HPM.out _ (Kd.C_below HC1.out HBd.out) (HT.out.on HBd.out).here).mono ?_
        rintro e w2e ⟨rfl, hb⟩
        have HBe := Aside0.mk (below_step HBd.out hb)
        clear hb HBd
        obtain ⟨b16, hb16, hs16⟩ := same_calls A0 A1 c0 c1 l m w2e (Kd.C_below HC0.out HBe.out) Hc0.out (Kd.C_below HC1.out HBe.out) Hc1.out
        have HS16 := Aside0.mk hs16
        have heq : (pb.toList == qb.toList) = b16 := by
          cases b16 with
          | true => exact beq_iff_eq.2 (toList_inj.2 (HIN.out.2 (hb16.1 rfl)))
          | false => exact beq_eq_false_iff_ne.2 (fun h => by have := hb16.2 (HIN.out.1 (toList_inj.1 h)); cases this)
        clear hb16 hs16
        go_wp2_with (fail)
        go_at_call 16
        refine HS16.out.mono ?_
        rintro e w2f ⟨rfl, hb⟩
        have HBf := Aside0.mk (below_step HBe.out hb)
        clear hb HBe HS16
        cases b16 with
        | true =>
          have HP := Aside0.mk (pparse_calls s (by have := HNS.out; omega) _ (HT.out.on HBf.out).here (HER.out.below HBf.out))
          have HAN := Aside0.mk (answers s (by have := HNS.out; omega))
          obtain ⟨RR, hRR⟩ : ∃ R, checkV s (loopTop s) = R := ⟨_, rfl⟩
          rw [hRR] at HP HAN
          have HRR := Aside0.mk hRR
          clear hRR
          go_wp2_with (fail)
          go_at_call 14
          refine HP.out.mono ?_
          rintro e w7 ⟨ha, hb⟩
          have HB7 := Aside0.mk (below_step HBf.out hb)
          clear hb
          cases RR with
          | none =>
            obtain rfl : e = _ := ha
            go_wp2_with (fail)
            go_ret
            exact ⟨by first | rfl | simp, HB7.out⟩
          | some k =>
            obtain ⟨v, rfl, hst⟩ := ha
            obtain ⟨Ak, ck, rfl, hck, hCk⟩ := hst
            obtain ⟨_, _, hkn, hkl⟩ := top_of s (by have := HNS.out; omega) HAN.out.symm
            have HPK := Aside0.mk (put_calls Ak ck k w7 hCk hck ⟨hkl, hkn⟩ (HT.out.on HB7.out).here)
            rw [check_eq s HRR.out] at HPK
            clear hCk hck hkn hkl
            go_wp2_with (fail)
            go_at_call 10
            refine HPK.out.mono ?_
            rintro e w8 ⟨rfl, hb⟩
            have HB8 := Aside0.mk (below_step HB7.out hb)
            clear hb
            go_wp2_with (fail)
            go_ret
            exact ⟨by first | rfl | simp, HB8.out⟩
        | false =>
          have HP := Aside0.mk (pparse_calls s (by have := HNS.out; omega) _ (HT.out.on HBf.out).here (HER.out.below HBf.out))
          have HAN := Aside0.mk (answers s (by have := HNS.out; omega))
          obtain ⟨RR, hRR⟩ : ∃ R, checkV s (loopTop s) = R := ⟨_, rfl⟩
          rw [hRR] at HP HAN
          have HRR := Aside0.mk hRR
          clear hRR
          go_wp2_with (fail)
          go_at_call 14
          refine HP.out.mono ?_
          rintro e w7 ⟨ha, hb⟩
          have HB7 := Aside0.mk (below_step HBf.out hb)
          clear hb
          cases RR with
          | none =>
            obtain rfl : e = _ := ha
            go_wp2_with (fail)
            go_ret
            exact ⟨by first | rfl | simp, HB7.out⟩
          | some k =>
            obtain ⟨v, rfl, hst⟩ := ha
            obtain ⟨Ak, ck, rfl, hck, hCk⟩ := hst
            obtain ⟨_, _, hkn, hkl⟩ := top_of s (by have := HNS.out; omega) HAN.out.symm
            have HPK := Aside0.mk (put_calls Ak ck k w7 hCk hck ⟨hkl, hkn⟩ (HT.out.on HB7.out).here)
            rw [check_eq s HRR.out] at HPK
            clear hCk hck hkn hkl
            go_wp2_with (fail)
            go_at_call 10
            refine HPK.out.mono ?_
            rintro e w8 ⟨rfl, hb⟩
            have HB8 := Aside0.mk (below_step HB7.out hb)
            clear hb
            go_wp2_with (fail)
            go_ret
            exact ⟨by first | rfl | simp, HB8.out⟩
      | succ d =>
        have hi : i < r.length := by omega
        obtain ⟨hx, hmem⟩ := rd_mem r i hi
        have hts := take_snoc r i hi
        have hsz := HRN.out _ hmem
        obtain ⟨ad, eA, h0, h1, h2⟩ := at_T26 HCR.out (i : Int) (by omega) (by omega)
        subst eA
        have hrv := right_v _ hsz
        generalize rd_T26 r i = x at *
        obtain ⟨x0, x1, x2⟩ := x
        simp only [Int.toNat_natCast] at h0 h1 h2
        have HRV := Aside0.mk hrv
        have HTS := Aside0.mk hts
        have k1 : decide ((i : Int) < (r.length : Int)) = true := by simp; omega
        have k1n : decide (i < r.length) = true := by simp; omega
        have k2 : (0 : Int) ≤ (i : Int) := by omega
        have k3 : (i : Int) < (r.length : Int) := by omega
        have k3n := eq_true hi
        have WI : Aside0 (wrap64 ((i : Int) + 1) = (i : Int) + 1) := ⟨by unfold wrap64; omega⟩
        clear hk hlen hi hx hmem hts hsz hrv
        go_upto_region 9 with (fail)
        generalize hg : World.alloc W _ = W1
        have BK : Aside0 (W1.heap[W.heap.size]? = some (.cells #[.bool x0, .string x1, .int .i64 x2] 26 (0, 0))) := ⟨by subst hg; exact blk_new _ _⟩
        have HB1 : Aside0 (Below w.heap.size w W1) := ⟨by subst hg; exact below_alloc HB.out _⟩
        have HC9 : Aside0 (Kd.C k26 W1 (some ad) r.length r) := ⟨by subst hg; exact Kd.C_below HCR.out (below_alloc (Below.refl _ _) _)⟩
        clear hg HB HCR h0 h1 h2
        generalize W.heap.size = gb at *
        have d0 : W1.cell? ⟨gb, 0, none⟩ = some (.bool x0) := (blk_cell BK.out 0).trans rfl
        have d1 : W1.cell? ⟨gb, 1, none⟩ = some (.string x1) := (blk_cell BK.out 1).trans rfl
        have d2 : W1.cell? ⟨gb, 2, none⟩ = some (.int .i64 x2) := (blk_cell BK.out 2).trans rfl
        obtain ⟨b, hb⟩ : ∃ b, (r.take i).all rightV = b := ⟨_, rfl⟩
        rw [hb]
        have HBB := Aside0.mk hb
        clear hb
        cases b with
        | false =>
          have HN : Aside0 ((r.take (i + 1)).all rightV = false) := ⟨by rw [HTS.out, List.all_append, HBB.out]; rfl⟩
          go_wp2_with (fail)
          go_roundg d
          case measure => omega
          case rel => exact ⟨i + 1, _, rfl, by rw [HN.out], by rw [WI.out]; simp, ⟨by have := HK.out; omega⟩, HC9, HB1⟩
        | true =>
          have HN : Aside0 ((r.take (i + 1)).all rightV = rightV ⟨x0, x1, x2⟩) := ⟨by rw [HTS.out, List.all_append, HBB.out]; simp⟩
          go_wp2_with (fail)
          go_at_call 9
          refine (HRV.out.2.1 _).mono ?_
          rintro e w4 ⟨rfl, hb⟩
          have HB4 := Aside0.mk (below_step HB1.out hb)
          have HC4 := Aside0.mk (Kd.C_below HC9.out hb)
          clear hb
          go_wp2_with (fail)
          go_roundg d
          case measure => omega
          case rel => exact ⟨i + 1, _, rfl, by rw [HN.out], by rw [WI.out]; simp, ⟨by have := HK.out; omega⟩, HC4, HB4⟩
end Go.Proofs.YthfhefkacmepkaaDoor.PS
