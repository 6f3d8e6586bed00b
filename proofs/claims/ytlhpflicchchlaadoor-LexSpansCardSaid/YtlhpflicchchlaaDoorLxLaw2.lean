/- rifflelaw07.LexSpans, walked: it returns true. Conditions: none. -/
import Derived.Test.YtlhpflicchchlaaDoorLxLaw
namespace Go.Proofs.YtlhpflicchchlaaDoor.LxA
open Go.RowKit Go.Proofs.YtlhpflicchchlaaDoorW.PrintWords Go.Proofs.YtlhpflicchchlaaDoorW.PrintLast Go.Proofs.YtlhpflicchchlaaDoorW.PrintMore
attribute [local go_sem] max2_int min2_int max_two min_two max_three min_three max_four min_four
open Go.Proofs.YtlhpflicchchlaaDoor.LexPure Go.Proofs.YtlhpflicchchlaaDoor.LxQ Go.Proofs.YtlhpflicchchlaaDoor.LxN
set_option linter.unusedVariables false
set_option linter.unusedSimpArgs false
theorem flat_at : ∀ (T : List Tk) (j i : Nat) (t : Tk), T[j]? = some t → i < 5 → (T.flatMap tkCells)[j * 5 + i]? = (tkCells t)[i]?
  | [], j, i, t, h, _ => by simp at h
  | x :: r, 0, i, t, h, hi => by
    obtain rfl : x = t := by simpa using h
    rw [List.flatMap_cons, List.getElem?_append_left (by simp [tkCells]; omega)]
    simp
  | x :: r, j + 1, i, t, h, hi => by
    rw [List.flatMap_cons, List.getElem?_append_right (by simp [tkCells]; omega), show (j + 1) * 5 + i - (tkCells x).length = j * 5 + i by simp [tkCells]; omega]
    exact flat_at r j i t (by simpa using h) hi
theorem own_max {W : World} {B n sz : Nat} {e : TypeId} {v : Value} {xs : List Value} (h : W.ownsRow B e sz v n xs) : n ≤ 9223372036854775807 := by
  rcases h.2 with ⟨_, h0⟩ | ⟨g, cap, cur, _, _, _, h1, h2, _⟩
  · omega
  · simp only [maxLen] at h2; omega
theorem drop_tk {T : List Tk} {j : Nat} {t : Tk} (h : T[j]? = some t) : T.drop j = t :: T.drop (j + 1) := by
  obtain ⟨hl, rfl⟩ := List.getElem?_eq_some_iff.1 h
  exact List.drop_eq_getElem_cons hl
theorem blank_at {zs : List Int} {a f k : Nat} {z : Int} (h : ((zs.drop a).take (f - a)).all blankB = true) (h1 : a ≤ k) (h2 : k < f) (hz : zs[k]? = some z) : z = 32 ∨ z = 9 ∨ z = 10 ∨ z = 13 := by
  have hm : z ∈ (zs.drop a).take (f - a) := by
    refine List.mem_of_getElem? (i := k - a) ?_
    rw [List.getElem?_take_of_lt (by omega), List.getElem?_drop, show a + (k - a) = k by omega]
    exact hz
  have := List.all_eq_true.1 h z hm
  simpa [blankB] using this
def opI : Option Nat → Int | none => -1 | some f => (f : Int)
theorem step_begun {zs : List Int} {x : Nat × Option Nat} {t : Tk} {y : Nat × Option Nat} (hb : t.begun = true) (h : spanStep zs x t = some y) : x.2 = none ∧ x.1 ≤ t.frm ∧ t.to = t.frm ∧ t.frm < zs.length ∧ y = (x.1, some t.frm) := by
  unfold spanStep at h
  rw [if_pos hb] at h
  split at h
  · simp at h
  · rename_i hn
    simp only [not_or] at hn
    obtain ⟨h1, h2, h3, h4⟩ := hn
    exact ⟨by simpa using h1, by omega, by simpa using h3, by omega, (Option.some.inj h).symm⟩
theorem step_end {zs : List Int} {x : Nat × Option Nat} {t : Tk} {y : Nat × Option Nat} (hb : t.begun = false) (h : spanStep zs x t = some y) : (x.2 = none ∨ x.2 = some t.frm) ∧ x.1 ≤ t.frm ∧ t.frm < t.to ∧ t.to ≤ zs.length ∧ ((zs.drop x.1).take (t.frm - x.1)).all blankB = true ∧ y = (t.to, none) := by
  unfold spanStep at h
  rw [if_neg (by simp [hb])] at h
  split at h
  · simp at h
  · rename_i hn
    simp only [not_or] at hn
    obtain ⟨h1, h2, h3, h4⟩ := hn
    split at h
    · rename_i ha
      refine ⟨?_, by omega, by omega, by omega, ha, (Option.some.inj h).symm⟩
      rcases hx : x.2 with _ | f
      · exact .inl rfl
      · right
        by_cases e : x.2 = some t.frm
        · rw [← hx]; exact e
        · exact absurd ⟨by simp [hx], e⟩ h1
    · simp at h
set_option maxHeartbeats 32000000 in
set_option maxRecDepth 100000 in
theorem spans_walk (A : Option Addr) (n cp : Nat) (zs : List Int) (W : World) (hr : ReadsOf (Value.int .u8) 0 W A n zs) (hz : ∀ z ∈ zs, 0 ≤ z ∧ z < 256) (hT : Tab W) :
    Calls Tryd.prog 4 #[.slice A n cp] W fun e w' => e = .returned (.bool true) ∧ Below W.heap.size W w' := by
  have HR := Aside0.mk hr
  have HZ := Aside0.mk hz
  have HT := Aside0.mk hT
  have HLZ := Aside0.mk hr.1
  clear hr hz hT
  go_enter Tryd.func4, Tryd.ntmps4
  go_wp2_with (fail)
  go_at_call 19
  refine (alive_calls W HT.out).mono ?_
  rintro e w1 ⟨rfl, hb⟩
  have B1 := Aside0.mk hb
  clear hb
  by_cases hn : n ≤ 2000
  · have q1 : decide ((2000 : Int) < (n : Int)) = false := by simp; omega
    have HN := Aside0.mk hn
    have HA := Aside0.mk (all_calls A n cp zs w1 (HR.out.below B1.out) HZ.out hn (Tab.below HT.out B1.out HT.out.1))
    obtain ⟨y, s1, s2, s3, s4⟩ := all_spans sub bads zs zs s0 (0, none) rfl (inv0 zs) (Nat.le_refl _)
    generalize allV sub zs s0 = R at *
    obtain ⟨T, K, AT⟩ := R
    dsimp only at HA s1 s2 s3 s4
    have S1 := Aside0.mk s1
    have S2 := Aside0.mk (And.intro s2 (And.intro s3 s4))
    clear s1 s2 s3 s4 hn
    go_wp2_with (fail)
    go_at_call 20
    refine HA.out.mono ?_
    rintro e w2 ⟨v, rfl, hb, hrow⟩
    have B2 := Aside0.mk (B1.out.trans (hb.mono B1.out.size))
    obtain ⟨ao, cap, rfl, hao⟩ : ∃ ao cap, v = .slice ao T.length cap ∧ (T ≠ [] → ∃ g, ao = some ⟨g, 0, none⟩) := by
      rcases own_toks hrow with ⟨h1, h2⟩ | ⟨g, cap, h1, _⟩
      · exact ⟨none, 0, by rw [h1, h2]; rfl, fun h => absurd h2 h⟩
      · exact ⟨_, cap, h1, fun _ => ⟨g, rfl⟩⟩
    have HAO := Aside0.mk hao
    have ROW := Aside0.mk hrow
    clear hb hrow HA hao
    go_upto_region 6 with (fail)
    generalize hw3 : World.alloc w2 _ = w3
    have VB : Aside0 (w3.heap[w2.heap.size]? = some (.cells #[.int .i64 K, .int .i64 (AT : Int)] 35 (0, 0))) := ⟨by subst hw3; exact blk_new w2 _⟩
    have B3' : Below w2.heap.size w2 w3 := by subst hw3; exact below_alloc (Below.refl w2.heap.size w2) _
    have ROW3 := Aside0.mk (own_more ROW.out (fun k hk => B3'.block k (own_lt ROW.out k hk).2))
    have B3 := Aside0.mk (B2.out.trans (B3'.mono B2.out.size))
    have LTG : Aside0 (w2.heap.size < w3.heap.size) := ⟨blk_lt VB.out⟩
    clear hw3 B3' ROW q1
    generalize w2.heap.size = g4 at *
    go_wp2_with (fail)
    go_loopg [5, 6, 22] T.length (fun kq v5 v6 v22 w' => ∃ (j a : Nat) (o : Option Nat) (wj : World), wj = w' ∧ v22 = .int .i64 (j : Int) ∧ v5 = .int .i64 (a : Int) ∧ v6 = .int .i64 (opI o) ∧ Aside0 (j + kq = T.length) ∧ Aside0 (spans zs (T.drop j) (a, o) = some y) ∧ Aside0 (Below w3.heap.size w3 wj))
    case atStart => exact ⟨0, 0, none, _, rfl, rfl, rfl, rfl, ⟨by omega⟩, S1, ⟨Below.refl _ _⟩⟩
    case round =>
      obtain ⟨j, a, o, wj, rfl, rfl, rfl, rfl, HJ, HS, HB⟩ := hrel
      have VBj := Aside0.mk ((HB.out.block g4 LTG.out).trans VB.out)
      cases gk with
      | zero =>
        have hj : j = T.length := by have := HJ.out; omega
        have c1 : decide ((j : Int) < (T.length : Int)) = false := by simp; omega
        have c2 : decide (j < T.length) = false := by simp; omega
        have hy : y = (a, o) := by
          have := HS.out
          rw [hj, List.drop_length] at this
          exact (Option.some.inj this).symm
        have hs := S2.out
        rw [hy] at hs
        dsimp only at hs
        have hlz := HLZ.out
        have n1 : decide (a ≤ AT) = true := by simp; omega
        have n1' : decide ((a : Int) ≤ (AT : Int)) = true := by simp; omega
        have n2 : decide (AT ≤ n) = true := by simp; omega
        have n2' : decide ((AT : Int) ≤ (n : Int)) = true := by simp; omega
        obtain ⟨z0, z1⟩ := ver_cells VBj.out
        have BF := Aside0.mk (B3.out.trans (HB.out.mono B3.out.size))
        by_cases hK : K = 1
        · have h3 := hs.2.2 hK
          have ho : opI o = -1 := by rw [h3.1]; rfl
          have hat : AT = n := by omega
          subst hat
          rw [ho]
          subst hK
          clear hs hj hy hlz h3 ho
          go_wp2_with (fail)
          go_ret
          exact ⟨rfl, BF.out⟩
        · have k1 : (K != 1) = true := by simp [hK]
          have k2 : (K == 1) = false := by simp [hK]
          have k3 : decide (K = 1) = false := by simp [hK]
          obtain ⟨oo, hoo⟩ : ∃ oo, opI o = oo := ⟨_, rfl⟩
          rw [hoo]
          clear hs hj hy hlz hK hoo
          go_wp2_with (fail)
          go_ret
          exact ⟨rfl, BF.out⟩
      | succ d =>
        have hj : j < T.length := by have := HJ.out; omega
        have c1 : decide ((j : Int) < (T.length : Int)) = true := by simp; omega
        have c2 : decide (j < T.length) = true := by simp; omega
        have j1 : (0 : Int) ≤ (j : Int) := by omega
        have j2 : (j : Int) < (T.length : Int) := by omega
        have j3 := eq_true hj
        have j4 : wrap64 ((j : Int) + 1) = (j : Int) + 1 := by have := own_max ROW3.out; unfold wrap64; omega
        have j5 : IntKind.i64.wrap ((j : Int) + 1) = (j : Int) + 1 := IntWalk.i64_in _ (by have := own_max ROW3.out; omega)
        obtain ⟨g, rfl⟩ := HAO.out (fun e => by rw [e] at hj; simp at hj)
        obtain ⟨t, ht⟩ : ∃ t, T[j]? = some t := ⟨T[j], List.getElem?_eq_getElem hj⟩
        have ROWj := Aside0.mk (own_more ROW3.out (fun k hk => HB.out.block k (own_lt ROW3.out k hk).2))
        have x0 := own_cell ROWj.out (j * 5 + 0) (.int .i64 t.kind) (by rw [flat_at T j 0 t ht (by omega)]; rfl)
        have x1 := own_cell ROWj.out (j * 5 + 1) (.bool t.begun) (by rw [flat_at T j 1 t ht (by omega)]; rfl)
        have x2 := own_cell ROWj.out (j * 5 + 2) (.int .i64 (t.frm : Int)) (by rw [flat_at T j 2 t ht (by omega)]; rfl)
        have x3 := own_cell ROWj.out (j * 5 + 3) (.int .i64 (t.to : Int)) (by rw [flat_at T j 3 t ht (by omega)]; rfl)
        have x4 := own_cell ROWj.out (j * 5 + 4) (.string t.text) (by rw [flat_at T j 4 t ht (by omega)]; rfl)
        have hsp := HS.out
        rw [drop_tk ht] at hsp
        obtain ⟨x, hx1, hx2⟩ := Option.bind_eq_some_iff.1 hsp
        have HX2 := Aside0.mk hx1
        have SN := Aside0.mk hx2
        rw [Nat.add_zero] at x0
        clear hsp hx1 hx2
        go_upto_region 10 with (fail)
        generalize hwk : World.alloc wj _ = wk
        have TB : Aside0 (wk.heap[wj.heap.size]? = some (.cells #[.int .i64 t.kind, .bool t.begun, .int .i64 (t.frm : Int), .int .i64 (t.to : Int), .string t.text] 39 (0, 0))) := ⟨by subst hwk; exact blk_new wj _⟩
        have BK : Aside0 (Below w3.heap.size w3 wk) := ⟨by subst hwk; exact HB.out.trans ((below_alloc (Below.refl _ _) _).mono HB.out.size)⟩
        clear hwk x0 x1 x2 x3 x4 c1 c2 j1 j2 j3
        generalize wj.heap.size = g8 at *
        obtain ⟨y0, y1, y2, y3, y4⟩ := tok_cells TB.out
        cases hbg : t.begun with
        | true =>
          obtain ⟨h1, h2, h3, h4, h5⟩ := step_begun hbg HX2.out
          dsimp only at h1 h2 h5
          subst h1
          subst h5
          have d1 : decide ((t.frm : Int) < (a : Int)) = false := by simp; omega
          have d2 : decide ((n : Int) ≤ (t.frm : Int)) = false := by have := HLZ.out; simp; omega
          have n1 : decide (t.frm < a) = false := by simp; omega
          have n2 : decide (n ≤ t.frm) = false := by have := HLZ.out; simp; omega
          rw [hbg] at y1
          rw [h3] at y3
          rw [show opI none = -1 from rfl]
          clear hbg h2 h3 h4
          go_wp2_with (fail)
          go_roundg d
          case measure => omega
          case rel => exact ⟨j + 1, a, some t.frm, _, rfl, rfl, rfl, rfl, ⟨by have := HJ.out; omega⟩, SN, BK⟩
        | false =>
          obtain ⟨h1, h2, h3, h4, h5, h6⟩ := step_end hbg HX2.out
          dsimp only at h1 h2 h5
          subst h6
          have HE := Aside0.mk (And.intro h2 (And.intro h3 (And.intro h4 h5)))
          have d1 : decide ((t.frm : Int) < (a : Int)) = false := by simp; omega
          have d2 : decide ((t.to : Int) ≤ (t.frm : Int)) = false := by simp; omega
          have d3 : decide ((n : Int) < (t.to : Int)) = false := by have := HLZ.out; simp; omega
          have n1 : decide (t.frm < a) = false := by simp; omega
          have n2 : decide (t.to ≤ t.frm) = false := by simp; omega
          have n3 : decide (n < t.to) = false := by have := HLZ.out; simp; omega
          rw [hbg] at y1
          obtain ⟨oo, hoo, hoc⟩ : ∃ oo, opI o = oo ∧ (oo = -1 ∨ oo = (t.frm : Int)) := by
            rcases h1 with e | e
            · exact ⟨_, rfl, .inl (by rw [e]; rfl)⟩
            · exact ⟨_, rfl, .inr (by rw [e]; rfl)⟩
          rw [hoo]
          clear hbg h1 h2 h3 h4 h5 hoo
          have d4 : (0 : Int) ≤ (t.frm : Int) := by omega
          have d5 : decide ((0 : Int) ≤ (t.frm : Int)) = true := by simp
          rcases hoc with rfl | rfl
          · skip
            go_wp2_with (fail)
            go_loopg [9] (t.frm - a) (fun kq v9 w' => ∃ k : Nat, v9 = .int .i64 (k : Int) ∧ Aside0 (a ≤ k ∧ k + kq = t.frm) ∧ w' = wk)
            case atStart => exact ⟨a, rfl, ⟨⟨Nat.le_refl _, by have := HE.out.1; omega⟩⟩, rfl⟩
            case round =>
              obtain ⟨k, rfl, HK, rfl⟩ := hrel
              cases gk with
              | zero =>
                have hk := HK.out
                have e1 : decide ((k : Int) < (t.frm : Int)) = false := by simp; omega
                have e2 : decide (k < t.frm) = false := by simp; omega
                clear hk
                go_wp2_with (fail)
                go_roundg d
                case measure => omega
                case rel => exact ⟨j + 1, t.to, none, _, rfl, rfl, rfl, rfl, ⟨by have := HJ.out; omega⟩, SN, BK⟩
              | succ dd =>
                have hk := HK.out
                have e1 : decide ((k : Int) < (t.frm : Int)) = true := by simp; omega
                have e2 : decide (k < t.frm) = true := by simp; omega
                obtain ⟨xk, hxk⟩ : ∃ x : Int, x = (k : Int) := ⟨_, rfl⟩
                have p1 : 0 ≤ xk := by omega
                have q1 : xk < (n : Int) := by have := HE.out; have := HLZ.out; omega
                obtain ⟨ad, rfl, hcell⟩ := (HR.out.below (B3.out.trans (BK.out.mono B3.out.size))).at_ xk p1 q1
                obtain ⟨z, hzz⟩ : ∃ z, z = rdOf 0 zs xk := ⟨_, rfl⟩
                rw [← hzz] at hcell
                have hl : k < zs.length := by have := HE.out; omega
                have hzi : zs[k]? = some z := by rw [hzz, hxk]; unfold rdOf; rw [Int.toNat_natCast, List.getD_eq_getElem?_getD, List.getElem?_eq_getElem hl]; rfl
                have hbl := blank_at HE.out.2.2.2 hk.1 (by omega) hzi
                have w1 : wrap64 (xk + 1) = xk + 1 := by have := HE.out; have := HN.out; have := HLZ.out; unfold wrap64; omega
                have HX := Aside0.mk hxk
                rw [← hxk] at e1 ⊢
                clear hzz hzi hl hxk hk
                replace p1 := eq_true p1
                replace q1 := eq_true q1
                rcases hbl with rfl | rfl | rfl | rfl
                all_goals
                  go_wp2_with (fail)
                  go_roundg dd
                  case measure => omega
                  case rel => exact ⟨k + 1, by rw [w1, HX.out]; rfl, ⟨by have := HK.out; omega⟩, rfl⟩
          · skip
            go_wp2_with (fail)
            go_loopg [9] (t.frm - a) (fun kq v9 w' => ∃ k : Nat, v9 = .int .i64 (k : Int) ∧ Aside0 (a ≤ k ∧ k + kq = t.frm) ∧ w' = wk)
            case atStart => exact ⟨a, rfl, ⟨⟨Nat.le_refl _, by have := HE.out.1; omega⟩⟩, rfl⟩
            case round =>
              obtain ⟨k, rfl, HK, rfl⟩ := hrel
              cases gk with
              | zero =>
                have hk := HK.out
                have e1 : decide ((k : Int) < (t.frm : Int)) = false := by simp; omega
                have e2 : decide (k < t.frm) = false := by simp; omega
                clear hk
                go_wp2_with (fail)
                go_roundg d
                case measure => omega
                case rel => exact ⟨j + 1, t.to, none, _, rfl, rfl, rfl, rfl, ⟨by have := HJ.out; omega⟩, SN, BK⟩
              | succ dd =>
                have hk := HK.out
                have e1 : decide ((k : Int) < (t.frm : Int)) = true := by simp; omega
                have e2 : decide (k < t.frm) = true := by simp; omega
                obtain ⟨xk, hxk⟩ : ∃ x : Int, x = (k : Int) := ⟨_, rfl⟩
                have p1 : 0 ≤ xk := by omega
                have q1 : xk < (n : Int) := by have := HE.out; have := HLZ.out; omega
                obtain ⟨ad, rfl, hcell⟩ := (HR.out.below (B3.out.trans (BK.out.mono B3.out.size))).at_ xk p1 q1
                obtain ⟨z, hzz⟩ : ∃ z, z = rdOf 0 zs xk := ⟨_, rfl⟩
                rw [← hzz] at hcell
                have hl : k < zs.length := by have := HE.out; omega
                have hzi : zs[k]? = some z := by rw [hzz, hxk]; unfold rdOf; rw [Int.toNat_natCast, List.getD_eq_getElem?_getD, List.getElem?_eq_getElem hl]; rfl
                have hbl := blank_at HE.out.2.2.2 hk.1 (by omega) hzi
                have w1 : wrap64 (xk + 1) = xk + 1 := by have := HE.out; have := HN.out; have := HLZ.out; unfold wrap64; omega
                have HX := Aside0.mk hxk
                rw [← hxk] at e1 ⊢
                clear hzz hzi hl hxk hk
                replace p1 := eq_true p1
                replace q1 := eq_true q1
                rcases hbl with rfl | rfl | rfl | rfl
                all_goals
                  go_wp2_with (fail)
                  go_roundg dd
                  case measure => omega
                  case rel => exact ⟨k + 1, by rw [w1, HX.out]; rfl, ⟨by have := HK.out; omega⟩, rfl⟩
  · have q1 : decide ((2000 : Int) < (n : Int)) = true := by simp; omega
    clear hn
    go_wp2_with (fail)
    go_ret
    exact ⟨rfl, B1.out⟩
end Go.Proofs.YtlhpflicchchlaaDoor.LxA
