-- PRINTED BY print.sh 35421559b90ae4d0a3588c463048766b98c2df88dd9212a6774a882060cdf62d: not written by this session
import Derived.Test.YtjfoppmpiklfiaaPOctetKindsx0
import Derived.Test.YtjfoppmpiklfiaaPOctetKindsx1
namespace Go.Proofs.Ytjfoppmpiklfiaa.POctetKinds
open Go.RowKit Go.Proofs.YtjfoppmpiklfiaaW.PrintWords Go.Proofs.YtjfoppmpiklfiaaW.PrintLast Go.Proofs.YtjfoppmpiklfiaaW.PrintMore
attribute [local go_sem] max2_int min2_int max_two min_two max_three min_three max_four min_four   -- for this text's walks alone
set_option linter.unusedVariables false
set_option linter.unusedSimpArgs false

/-! ### rifflelaw01_OctetKinds: function 6 -/
mutual
def rifflelaw01_OctetKinds.l0 : Nat → List Int → Int → Option (Bool)
  | 0, _, _ => none
  | k + 1, x1, x2 => if x2 < 256 then ((octet_Kind.f k ((x2) % 256)).bind fun t109 => (if t109 < 0 then (some false) else (if t109 > 10 then (some false) else (if 0 ≤ t109 then (if t109 < (x1.length : Int) then (rifflelaw01_OctetKinds.l0 k (x1.set (t109 : Int).toNat (wrap64 ((rd x1 t109) + 1))) (wrap64 (x2 + 1))) else (none)) else (none))))) else (rifflelaw01_OctetKinds.l1 k x1 2)
def rifflelaw01_OctetKinds.l1 : Nat → List Int → Int → Option (Bool)
  | 0, _, _ => none
  | k + 1, x1, x4 => if x4 ≤ 8 then (if 0 ≤ x4 then (if x4 < (x1.length : Int) then (if (rd x1 x4) = 1 then (rifflelaw01_OctetKinds.l1 k x1 (wrap64 (x4 + 1))) else (some false)) else (none)) else (none)) else (if 1 < (x1.length : Int) then (if (rd x1 1) = 4 then (if 9 < (x1.length : Int) then (if (rd x1 9) = 11 then (if 10 < (x1.length : Int) then (if (rd x1 10) = 3 then (if 0 < (x1.length : Int) then (some ((rd x1 0) == 231)) else (none)) else (some false)) else (none)) else (some false)) else (none)) else (some false)) else (none))
end
def rifflelaw01_OctetKinds.f (k : Nat)  : Option (Bool) := (rifflelaw01_octetAlive.f k).bind fun t105 => (if t105 = true then (if 11 ≤ 35184372088832 then (rifflelaw01_OctetKinds.l0 k (List.replicate 11 0) 0) else (none)) else (some false))
theorem rifflelaw01_OctetKinds.mono_l : ∀ k, (∀ y0 y1, LeO (rifflelaw01_OctetKinds.l0 k y0 y1) (rifflelaw01_OctetKinds.l0 (k + 1) y0 y1)) ∧ (∀ y0 y1, LeO (rifflelaw01_OctetKinds.l1 k y0 y1) (rifflelaw01_OctetKinds.l1 (k + 1) y0 y1))
  | 0 => ⟨fun _ _ r h => by simp [rifflelaw01_OctetKinds.l0] at h, fun _ _ r h => by simp [rifflelaw01_OctetKinds.l1] at h⟩
  | k + 1 => by
    obtain ⟨ih0, ih1⟩ := rifflelaw01_OctetKinds.mono_l k
    refine ⟨?_, ?_⟩
    · intro y0 y1
      unfold rifflelaw01_OctetKinds.l0
      repeat' first
      | (with_reducible exact ih0 _ _)
      | (with_reducible exact ih1 _ _)
      | (with_reducible exact octet_Kind.mono _ _)
      | (with_reducible exact rifflelaw01_octetAlive.mono _)
      | (with_reducible exact LeO.refl _)
      | (with_reducible exact LeO.none _)
      | (with_reducible refine LeO.ite ?_ ?_)
      | (with_reducible refine LeO.bind ?_ (fun _ => ?_))
      | exact ih0 _ _
      | exact ih1 _ _
      | exact octet_Kind.mono _ _
      | exact rifflelaw01_octetAlive.mono _
      | exact LeO.none _
      | refine LeO.ite ?_ ?_
      | refine LeO.bind ?_ (fun _ => ?_)
    · intro y0 y1
      unfold rifflelaw01_OctetKinds.l1
      repeat' first
      | (with_reducible exact ih0 _ _)
      | (with_reducible exact ih1 _ _)
      | (with_reducible exact octet_Kind.mono _ _)
      | (with_reducible exact rifflelaw01_octetAlive.mono _)
      | (with_reducible exact LeO.refl _)
      | (with_reducible exact LeO.none _)
      | (with_reducible refine LeO.ite ?_ ?_)
      | (with_reducible refine LeO.bind ?_ (fun _ => ?_))
      | exact ih0 _ _
      | exact ih1 _ _
      | exact octet_Kind.mono _ _
      | exact rifflelaw01_octetAlive.mono _
      | exact LeO.none _
      | refine LeO.ite ?_ ?_
      | refine LeO.bind ?_ (fun _ => ?_)
theorem rifflelaw01_OctetKinds.mono : ∀ k, LeO (rifflelaw01_OctetKinds.f k ) (rifflelaw01_OctetKinds.f (k + 1) ) := by
  intro  k
  obtain ⟨ih0, ih1⟩ := rifflelaw01_OctetKinds.mono_l k
  unfold rifflelaw01_OctetKinds.f
  repeat' first
      | (with_reducible exact ih0 _ _)
      | (with_reducible exact ih1 _ _)
      | (with_reducible exact octet_Kind.mono _ _)
      | (with_reducible exact rifflelaw01_octetAlive.mono _)
      | (with_reducible exact LeO.refl _)
      | (with_reducible exact LeO.none _)
      | (with_reducible refine LeO.ite ?_ ?_)
      | (with_reducible refine LeO.bind ?_ (fun _ => ?_))
      | exact ih0 _ _
      | exact ih1 _ _
      | exact octet_Kind.mono _ _
      | exact rifflelaw01_octetAlive.mono _
      | exact LeO.none _
      | refine LeO.ite ?_ ?_
      | refine LeO.bind ?_ (fun _ => ?_)
set_option maxHeartbeats 8000000 in
set_option maxRecDepth 100000 in
theorem rifflelaw01_OctetKinds.calls (k : Nat)  (r : Bool) (w : World) (h : rifflelaw01_OctetKinds.f k  = some r) :
    Calls Try.prog 6 #[] w fun e w' => e = .returned (.bool r) ∧ Below w.heap.size w w' := by
  have HB := Aside0.mk (Below.refl w.heap.size w)
  have H : ((rifflelaw01_octetAlive.f k).bind fun t105 => (if t105 = true then (if 11 ≤ 35184372088832 then (rifflelaw01_OctetKinds.l0 k (List.replicate 11 0) 0) else (none)) else (some false))) = some r := h
  clear h
  replace H := Option.bind_eq_some_iff.mp H
  obtain ⟨t105, A10, H⟩ := H
  replace H : (if t105 = true then (if 11 ≤ 35184372088832 then (rifflelaw01_OctetKinds.l0 k (List.replicate 11 0) 0) else (none)) else (some false)) = some r := H
  have A1 := Aside0.mk A10
  clear A10
  by_cases c2 : t105 = true
  · subst c2
    have H1 : (if 11 ≤ 35184372088832 then (rifflelaw01_OctetKinds.l0 k (List.replicate 11 0) 0) else (none)) = some r := by rw [if_pos rfl] at H; exact H
    clear H
    have H := H1
    clear H1
    by_cases c3 : 11 ≤ 35184372088832
    · rw [if_pos c3] at H
      have c3b0 := eq_true c3
      have c3b1 : decide (11 ≤ 35184372088832) = true := decide_eq_true c3
      clear c3
      obtain ⟨y106, hy106⟩ : ∃ y_ : List Int, y_ = (List.replicate 11 0) := ⟨_, rfl⟩
      replace H : (rifflelaw01_OctetKinds.l0 k y106 0) = some r := by first | (rw [hy106]; with_reducible exact H) | (have H2_ := (Option.bind_some _ _).symm.trans H; rw [hy106]; with_reducible exact H2_) | (have H2_ := (Option.bind_some _ _).symm.trans H; with_reducible exact H2_) | with_reducible exact H | (rw [hy106]; exact H) | exact H
      have Ny106 := Aside0.mk hy106
      clear hy106
      have H' := Aside0.mk H
      clear H
      go_enter Try.func6, Try.ntmps6
      go_wp2_with (first | ((with_reducible refine gate_callee (f := 31) rfl ?_); refine goesL_ (some 5) rfl rfl Try.func31 (by kernel_rfl) rfl #[] rfl (by (try simp only [List.map_toArray, List.map_cons, List.map_nil]); first | done | rfl | (simp only [List.length_drop, List.length_take]; rfl)) ?_; (with_reducible refine (rifflelaw01_octetAlive.calls k  true _ A1.out).mono ?_); rintro e w' ⟨rfl, ⟨nd, rfl⟩⟩; refine ⟨_, rfl, ?_⟩) | ((with_reducible refine gate_dst (N := 7) rfl ?_); refine Kd.R_make (Kd.int .i64) _ 3 rfl (N := 7) rfl 37 _ _ rfl 11 rfl rfl Try.underlying37 (.int .i64 0) 8 info3 rfl (by decide) (by omega) 0 (ok := fun _ => True) (okp := fun _ => True) rfl (fun _ hk => hk) trivial (by omega) (by omega) (Below.refl _ _) (Nat.le_refl _) ?_; intro v107 w4 ho5 hb hg_ hnew_; clear hg_ hnew_; (first | rw [← Ny106.out] at ho5 | (simp only [Int.reduceToNat] at ho5; rw [← Ny106.out] at ho5)); have n0_ := Aside0.mk (Kd.R_lower ho5 (below_size (by repeat (first | (with_reducible first | exact HB.out | apply below_alloc | apply pw_below_drewN | apply below_drew1) | exact HB.out)))); have n1_ := Aside0.mk (below_step (by repeat (first | (with_reducible first | exact HB.out | apply below_alloc | apply pw_below_drewN | apply below_drew1) | exact HB.out)) hb); clear HB; have HO108 := n0_; have HB := n1_; clear n0_ n1_; clear hb ho5))
      go_loopg [2] k (fun kq v2 w' => ∃ (x1_1 : List Int) (x2_1 : Int), v2 = .int .i64 x2_1 ∧ Aside0 (rifflelaw01_OctetKinds.l0 kq x1_1 x2_1 = some r) ∧ Aside0 (kq ≤ k) ∧ Aside0 (Kd.R (Kd.int .i64) 3 w' w.heap.size (fun _ => True) v107 x1_1) ∧ Aside0 (Below w.heap.size w w'))
      case atStart => exact ⟨(y106), (0), (by first | rfl | (simp; done) | (simp [*]; done)), H', ⟨Nat.le_refl _⟩, ⟨by (with_reducible repeat (first | apply Kd.R_alloc | apply Kd.R_drewN | apply Kd.R_drew)); exact HO108.out⟩, ⟨by repeat (first | (with_reducible first | exact HB.out | apply below_alloc | apply pw_below_drewN | apply below_drew1) | exact HB.out)⟩⟩
      case round =>
        clear H'
        try clear c2
        try clear p2
        try clear c3
        try clear c3b0
        try clear c3b1
        obtain ⟨x1_1, x2_1, rfl, HA, HK1, HO_1, HB⟩ := hrel
        cases gk with
        | zero => exact absurd HA.out (by simp [rifflelaw01_OctetKinds.l0])
        | succ k1 =>
          have H := HA.out
          clear HA
          simp only [rifflelaw01_OctetKinds.l0] at H
          by_cases c6 : x2_1 < 256
          · rw [if_pos c6] at H
            have c6b0 : decide (x2_1 < 256) = true := decide_eq_true c6
            clear c6
            replace H := Option.bind_eq_some_iff.mp H
            obtain ⟨t109, A70, H⟩ := H
            replace H : (if t109 < 0 then (some false) else (if t109 > 10 then (some false) else (if 0 ≤ t109 then (if t109 < (x1_1.length : Int) then (rifflelaw01_OctetKinds.l0 k1 (x1_1.set (t109 : Int).toNat (wrap64 ((rd x1_1 t109) + 1))) (wrap64 (x2_1 + 1))) else (none)) else (none)))) = some r := H
            have A7 := Aside0.mk A70
            clear A70
            by_cases c8 : t109 < 0
            · rw [if_pos c8] at H
              have c8b0 : decide (t109 < 0) = true := decide_eq_true c8
              clear c8
              obtain rfl := Option.some.inj H
              go_wp2_with (first | ((with_reducible refine gate_callee (f := 32) rfl ?_); refine goesL_ (some 14) rfl rfl Try.func32 (by kernel_rfl) rfl #[.int .u8 ((x2_1) % 256)] rfl (by (try simp only [List.map_toArray, List.map_cons, List.map_nil]); first | done | rfl | (simp only [List.length_drop, List.length_take]; rfl)) ?_; (with_reducible refine (octet_Kind.calls k1 ((x2_1) % 256) t109 _ A7.out).mono ?_); rintro e w' ⟨rfl, ⟨nd, rfl⟩⟩; refine ⟨_, rfl, ?_⟩))
              go_ret
              exact ⟨by first | rfl | (simp [errW_none, errW_some] <;> rfl) | (simp [*, errW_none, errW_some] <;> rfl), by repeat (first | (with_reducible first | exact HB.out | apply below_alloc | apply pw_below_drewN | apply below_drew1) | exact HB.out)⟩
            · rw [if_neg c8] at H
              have c8b0 : decide (t109 < 0) = false := decide_eq_false c8
              clear c8
              by_cases c9 : t109 > 10
              · rw [if_pos c9] at H
                have c9b0 : decide (10 < t109) = true := decide_eq_true c9
                clear c9
                obtain rfl := Option.some.inj H
                go_wp2_with (first | ((with_reducible refine gate_callee (f := 32) rfl ?_); refine goesL_ (some 14) rfl rfl Try.func32 (by kernel_rfl) rfl #[.int .u8 ((x2_1) % 256)] rfl (by (try simp only [List.map_toArray, List.map_cons, List.map_nil]); first | done | rfl | (simp only [List.length_drop, List.length_take]; rfl)) ?_; (with_reducible refine (octet_Kind.calls k1 ((x2_1) % 256) t109 _ A7.out).mono ?_); rintro e w' ⟨rfl, ⟨nd, rfl⟩⟩; refine ⟨_, rfl, ?_⟩))
                go_ret
                exact ⟨by first | rfl | (simp [errW_none, errW_some] <;> rfl) | (simp [*, errW_none, errW_some] <;> rfl), by repeat (first | (with_reducible first | exact HB.out | apply below_alloc | apply pw_below_drewN | apply below_drew1) | exact HB.out)⟩
              · rw [if_neg c9] at H
                have c9b0 : decide (10 < t109) = false := decide_eq_false c9
                clear c9
                by_cases c10 : 0 ≤ t109
                · rw [if_pos c10] at H
                  have c10b0 : decide (0 ≤ t109) = true := decide_eq_true c10
                  clear c10
                  by_cases c11 : t109 < (x1_1.length : Int)
                  · rw [if_pos c11] at H
                    have c11b0 : decide (t109 < (x1_1.length : Int)) = true := decide_eq_true c11
                    clear c11
                    obtain ⟨y111, hy111⟩ : ∃ y_ : List Int, y_ = (x1_1.set (t109 : Int).toNat (wrap64 ((rd x1_1 t109) + 1))) := ⟨_, rfl⟩
                    replace H : (rifflelaw01_OctetKinds.l0 k1 y111 (wrap64 (x2_1 + 1))) = some r := by first | (rw [hy111]; with_reducible exact H) | (have H2_ := (Option.bind_some _ _).symm.trans H; rw [hy111]; with_reducible exact H2_) | (have H2_ := (Option.bind_some _ _).symm.trans H; with_reducible exact H2_) | with_reducible exact H | (rw [hy111]; exact H) | exact H
                    have Ny111 := Aside0.mk hy111
                    clear hy111
                    have H' := Aside0.mk H
                    clear H
                    go_wp2_with (first | ((with_reducible refine gate_callee (f := 32) rfl ?_); refine goesL_ (some 14) rfl rfl Try.func32 (by kernel_rfl) rfl #[.int .u8 ((x2_1) % 256)] rfl (by (try simp only [List.map_toArray, List.map_cons, List.map_nil]); first | done | rfl | (simp only [List.length_drop, List.length_take]; rfl)) ?_; (with_reducible refine (octet_Kind.calls k1 ((x2_1) % 256) t109 _ A7.out).mono ?_); rintro e w' ⟨rfl, ⟨nd, rfl⟩⟩; refine ⟨_, rfl, ?_⟩; (try (rw [drewN_self wr]; generalize hq_ : World.drewN wr _ = wr; have n0_ : Aside0 (Kd.R (Kd.int .i64) 3 wr w.heap.size (fun _ => True) v107 x1_1) := ⟨by rw [← hq_]; exact (by (with_reducible repeat (first | apply Kd.R_alloc | apply Kd.R_drewN | apply Kd.R_drew)); exact HO_1.out)⟩; have n1_ : Aside0 (Below w.heap.size w wr) := ⟨by rw [← hq_]; exact (by repeat (first | (with_reducible first | exact HB.out | apply below_alloc | apply pw_below_drewN | apply below_drew1) | exact HB.out))⟩; clear HO_1 HB hq_; have HO_1 := n0_; have HB := n1_; clear n0_ n1_)); obtain ⟨Ao13, co13, eo13⟩ := Kd.R_slice HO_1.out; subst eo13; have p110 : 0 ≤ (t109 : Int) := of_decide_eq_true (by first | (with_reducible assumption) | assumption); have q110 : t109 < (x1_1.length : Int) := of_decide_eq_true (by first | (with_reducible assumption) | assumption); obtain ⟨ad110, e110, hx110_0⟩ := Kd.at_int (Kd.R_reads' HO_1.out).2.2 t109 p110 q110; cases e110; replace p110 := eq_true p110; replace q110 := eq_true q110; have p12 : 0 ≤ (t109 : Int) := of_decide_eq_true (by first | (with_reducible assumption) | assumption); have q12 : (t109 : Int) < ((x1_1.length : Int) : Int) := of_decide_eq_true (by first | (with_reducible assumption) | assumption); obtain ⟨go12, co12, eo12, gb12, gl12, cl12, HG12⟩ := Kd.R_form HO_1.out (by omega); (first | cases eo12 | (injection eo12 with ea_ en_ ec_; (first | subst ea_ | (injection ea_ with ea_; subst ea_)); subst ec_; clear en_)); have GB12 := Aside0.mk gb12; have GG12 := Aside0.mk HG12; clear gb12 gl12 HG12; (first | simp only [add_plain] at hx110_0 | skip); obtain ⟨hx12_0, hf12_0⟩ := Kd.R_celln 0 HO_1.out (t109 : Int) p12 q12; replace p12 := eq_true p12; replace q12 := eq_true q12; obtain ⟨hy14_, hz14_⟩ := Kd.R_celln 0 HO_1.out (t109 : Int) (of_decide_eq_true (by first | (with_reducible assumption) | assumption)) (of_decide_eq_true (by first | (with_reducible assumption) | assumption)); have HP14 := Kd.R_putg HO_1.out (t109 : Int) (wrap64 ((rd x1_1 t109) + 1))) | ((with_reducible refine gate_store (t := 3) (p := 26) rfl ?_); refine store_event (t := 3) (p := 26) (v := ?vo_w15) (w1 := (wr.setCell ⟨go12, (t109 : Int).toNat, none⟩ (.int .i64 (wrap64 ((rd x1_1 t109) + 1))))) ?hg ?ho ?hn ?hr ?_; (case ho => rfl); (case hg => rfl); (case hn => rfl); (case hr => first | (go_simp; done) | (go_simp; rfl)); intro w15 hw; have hg : wr.grownBy w15 (some go12) := (by rw [hw]; exact HP14.2); have hp_ : Kd.R (Kd.int .i64) 3 w15 w.heap.size (fun _ => True) (.slice (some ⟨go12, 0, none⟩) x1_1.length co13) y111 := (by rw [hw, Ny111.out]; exact HP14.1); clear HP14; have n0_ := Aside0.mk (hp_); have n1_ := Aside0.mk ((by rw [hw]; exact below_set (HB.out) GB12.out : Below w.heap.size w w15)); clear HO_1; clear HB; have HO_1 := n0_; have HB := n1_; clear n0_ n1_; clear hg hw hp_))
                    go_roundg k1
                    case measure => have := HK1.out; omega
                    case rel => exact ⟨(y111), (wrap64 (x2_1 + 1)), (by first | rfl | (simp; done) | (simp [*]; done)), H', ⟨by have := HK1.out; omega⟩, ⟨by (with_reducible repeat (first | apply Kd.R_alloc | apply Kd.R_drewN | apply Kd.R_drew)); exact HO_1.out⟩, ⟨by repeat (first | (with_reducible first | exact HB.out | apply below_alloc | apply pw_below_drewN | apply below_drew1) | exact HB.out)⟩⟩
                  · rw [if_neg c11] at H
                    exact absurd H (by simp)
                · rw [if_neg c10] at H
                  exact absurd H (by simp)
          · rw [if_neg c6] at H
            have c6b0 : decide (x2_1 < 256) = false := decide_eq_false c6
            clear c6
            have H' := Aside0.mk H
            clear H
            go_wp2
            go_loopg [4] k1 (fun kq v4 w' => ∃ (x4_2 : Int), v4 = .int .i64 x4_2 ∧ Aside0 (rifflelaw01_OctetKinds.l1 kq x1_1 x4_2 = some r) ∧ Aside0 (kq ≤ k1) ∧ Aside0 (Kd.R (Kd.int .i64) 3 w' w.heap.size (fun _ => True) v107 x1_1) ∧ Aside0 (Below w.heap.size w w'))
            case atStart => exact ⟨(2), (by first | rfl | (simp; done) | (simp [*]; done)), H', ⟨Nat.le_refl _⟩, ⟨by (with_reducible repeat (first | apply Kd.R_alloc | apply Kd.R_drewN | apply Kd.R_drew)); exact HO_1.out⟩, ⟨by repeat (first | (with_reducible first | exact HB.out | apply below_alloc | apply pw_below_drewN | apply below_drew1) | exact HB.out)⟩⟩
            case round =>
              clear H'
              try clear c1
              try clear p1
              try clear q1
              try clear hx1
              try clear hf1
              try clear c2
              try clear p2
              try clear c3
              try clear c3b0
              try clear c3b1
              try clear c6
              try clear c6b0
              try clear p6
              try clear c8
              try clear c8b0
              try clear c9
              try clear c9b0
              try clear c10
              try clear c10b0
              try clear c11
              try clear c11b0
              try clear p11
              try clear q11
              try clear hx11
              try clear p12
              try clear q12
              try clear hx12
              try clear hf12
              try clear hx110_0
              try clear hx12_0
              try clear p110
              try clear p12
              try clear p2
              try clear q110
              try clear q12
              obtain ⟨x4_2, rfl, HA, HK2, HO_1, HB⟩ := hrel
              cases gk with
              | zero => exact absurd HA.out (by simp [rifflelaw01_OctetKinds.l1])
              | succ k2 =>
                have H := HA.out
                clear HA
                simp only [rifflelaw01_OctetKinds.l1] at H
                by_cases c16 : x4_2 ≤ 8
                · rw [if_pos c16] at H
                  have c16b0 : decide (x4_2 ≤ 8) = true := decide_eq_true c16
                  clear c16
                  by_cases c17 : 0 ≤ x4_2
                  · rw [if_pos c17] at H
                    have c17b0 : decide (0 ≤ x4_2) = true := decide_eq_true c17
                    clear c17
                    by_cases c18 : x4_2 < (x1_1.length : Int)
                    · rw [if_pos c18] at H
                      have c18b0 : decide (x4_2 < (x1_1.length : Int)) = true := decide_eq_true c18
                      clear c18
                      by_cases c19 : (rd x1_1 x4_2) = 1
                      · rw [if_pos c19] at H
                        have c19b0 : ((rd x1_1 x4_2) == 1) = true := beq_iff_eq.mpr c19
                        have c19b1 : ((rd x1_1 x4_2) != 1) = false := bne_eq_false_iff_eq.mpr c19
                        clear c19
                        have H' := Aside0.mk H
                        clear H
                        obtain ⟨Ao20, co20, eo20⟩ := Kd.R_slice HO_1.out
                        subst eo20
                        have p112 : 0 ≤ (x4_2 : Int) := of_decide_eq_true (by first | (with_reducible assumption) | assumption)
                        have q112 : x4_2 < (x1_1.length : Int) := of_decide_eq_true (by first | (with_reducible assumption) | assumption)
                        obtain ⟨ad112, e112, hx112_0⟩ := Kd.at_int (Kd.R_reads' HO_1.out).2.2 x4_2 p112 q112
                        cases e112
                        replace p112 := eq_true p112
                        replace q112 := eq_true q112
                        go_wp2
                        go_roundg k2
                        case measure => have := HK1.out; have := HK2.out; omega
                        case rel => exact ⟨(wrap64 (x4_2 + 1)), (by first | rfl | (simp; done) | (simp [*]; done)), H', ⟨by have := HK1.out; have := HK2.out; omega⟩, ⟨by (with_reducible repeat (first | apply Kd.R_alloc | apply Kd.R_drewN | apply Kd.R_drew)); exact HO_1.out⟩, ⟨by repeat (first | (with_reducible first | exact HB.out | apply below_alloc | apply pw_below_drewN | apply below_drew1) | exact HB.out)⟩⟩
                      · rw [if_neg c19] at H
                        have c19b0 : ((rd x1_1 x4_2) == 1) = false := beq_eq_false_iff_ne.mpr c19
                        have c19b1 : ((rd x1_1 x4_2) != 1) = true := bne_iff_ne.mpr c19
                        obtain rfl := Option.some.inj H
                        obtain ⟨Ao21, co21, eo21⟩ := Kd.R_slice HO_1.out
                        subst eo21
                        have p112 : 0 ≤ (x4_2 : Int) := of_decide_eq_true (by first | (with_reducible assumption) | assumption)
                        have q112 : x4_2 < (x1_1.length : Int) := of_decide_eq_true (by first | (with_reducible assumption) | assumption)
                        obtain ⟨ad112, e112, hx112_0⟩ := Kd.at_int (Kd.R_reads' HO_1.out).2.2 x4_2 p112 q112
                        cases e112
                        replace p112 := eq_true p112
                        replace q112 := eq_true q112
                        go_wp2
                        go_ret
                        exact ⟨by first | rfl | (simp [errW_none, errW_some] <;> rfl) | (simp [*, errW_none, errW_some] <;> rfl), by repeat (first | (with_reducible first | exact HB.out | apply below_alloc | apply pw_below_drewN | apply below_drew1) | exact HB.out)⟩
                    · rw [if_neg c18] at H
                      exact absurd H (by simp)
                  · rw [if_neg c17] at H
                    exact absurd H (by simp)
                · rw [if_neg c16] at H
                  have c16b0 : decide (x4_2 ≤ 8) = false := decide_eq_false c16
                  clear c16
                  by_cases c22 : 1 < (x1_1.length : Int)
                  · rw [if_pos c22] at H
                    have c22b0 : decide (1 < (x1_1.length : Int)) = true := decide_eq_true c22
                    have c22b1 : decide (1 < x1_1.length) = true := decide_eq_true (by omega)
                    clear c22
                    by_cases c23 : (rd x1_1 1) = 4
                    · rw [if_pos c23] at H
                      have c23b0 : ((rd x1_1 1) == 4) = true := beq_iff_eq.mpr c23
                      have c23b1 : ((rd x1_1 1) != 4) = false := bne_eq_false_iff_eq.mpr c23
                      clear c23
                      by_cases c24 : 9 < (x1_1.length : Int)
                      · rw [if_pos c24] at H
                        have c24b0 : decide (9 < (x1_1.length : Int)) = true := decide_eq_true c24
                        have c24b1 : decide (9 < x1_1.length) = true := decide_eq_true (by omega)
                        clear c24
                        by_cases c25 : (rd x1_1 9) = 11
                        · rw [if_pos c25] at H
                          have c25b0 : ((rd x1_1 9) == 11) = true := beq_iff_eq.mpr c25
                          have c25b1 : ((rd x1_1 9) != 11) = false := bne_eq_false_iff_eq.mpr c25
                          clear c25
                          by_cases c26 : 10 < (x1_1.length : Int)
                          · rw [if_pos c26] at H
                            have c26b0 : decide (10 < (x1_1.length : Int)) = true := decide_eq_true c26
                            have c26b1 : decide (10 < x1_1.length) = true := decide_eq_true (by omega)
                            clear c26
                            by_cases c27 : (rd x1_1 10) = 3
                            · rw [if_pos c27] at H
                              have c27b0 : ((rd x1_1 10) == 3) = true := beq_iff_eq.mpr c27
                              have c27b1 : ((rd x1_1 10) != 3) = false := bne_eq_false_iff_eq.mpr c27
                              clear c27
                              by_cases c28 : 0 < (x1_1.length : Int)
                              · rw [if_pos c28] at H
                                have c28b0 : decide (0 < (x1_1.length : Int)) = true := decide_eq_true c28
                                have c28b1 : decide (0 < x1_1.length) = true := decide_eq_true (by omega)
                                clear c28
                                obtain rfl := Option.some.inj H
                                obtain ⟨Ao29, co29, eo29⟩ := Kd.R_slice HO_1.out
                                subst eo29
                                have p113 : 0 ≤ (1 : Int) := (by omega)
                                have q113 : 1 < (x1_1.length : Int) := of_decide_eq_true (by first | (with_reducible assumption) | assumption)
                                obtain ⟨ad113, e113, hx113_0⟩ := Kd.at_int (Kd.R_reads' HO_1.out).2.2 1 p113 q113
                                cases e113
                                (try simp only [show (1 : Int).toNat = 1 from rfl, Nat.reduceMul, Nat.reduceEqDiff, Go.Addr.add, ↓reduceIte] at hx113_0)
                                have qi113 : (1 < x1_1.length) = True := eq_true (by omega)
                                (try rw [show ((1 : Int)).toNat = 1 from rfl] at hx113_0)
                                replace p113 := eq_true p113
                                replace q113 := eq_true q113
                                have p114 : 0 ≤ (9 : Int) := (by omega)
                                have q114 : 9 < (x1_1.length : Int) := of_decide_eq_true (by first | (with_reducible assumption) | assumption)
                                obtain ⟨ad114, e114, hx114_0⟩ := Kd.at_int (Kd.R_reads' HO_1.out).2.2 9 p114 q114
                                obtain rfl : ad113 = ad114 := (by injection e114)
                                (try simp only [show (9 : Int).toNat = 9 from rfl, Nat.reduceMul, Nat.reduceEqDiff, Go.Addr.add, ↓reduceIte] at hx114_0)
                                have qi114 : (9 < x1_1.length) = True := eq_true (by omega)
                                (try rw [show ((9 : Int)).toNat = 9 from rfl] at hx114_0)
                                replace p114 := eq_true p114
                                replace q114 := eq_true q114
                                have p115 : 0 ≤ (10 : Int) := (by omega)
                                have q115 : 10 < (x1_1.length : Int) := of_decide_eq_true (by first | (with_reducible assumption) | assumption)
                                obtain ⟨ad115, e115, hx115_0⟩ := Kd.at_int (Kd.R_reads' HO_1.out).2.2 10 p115 q115
                                obtain rfl : ad113 = ad115 := (by injection e115)
                                (try simp only [show (10 : Int).toNat = 10 from rfl, Nat.reduceMul, Nat.reduceEqDiff, Go.Addr.add, ↓reduceIte] at hx115_0)
                                have qi115 : (10 < x1_1.length) = True := eq_true (by omega)
                                (try rw [show ((10 : Int)).toNat = 10 from rfl] at hx115_0)
                                replace p115 := eq_true p115
                                replace q115 := eq_true q115
                                have p116 : 0 ≤ (0 : Int) := (by omega)
                                have q116 : 0 < (x1_1.length : Int) := of_decide_eq_true (by first | (with_reducible assumption) | assumption)
                                obtain ⟨ad116, e116, hx116_0⟩ := Kd.at_int (Kd.R_reads' HO_1.out).2.2 0 p116 q116
                                obtain rfl : ad113 = ad116 := (by injection e116)
                                have qi116 : (0 < x1_1.length) = True := eq_true (by omega)
                                (try rw [show ((0 : Int)).toNat = 0 from rfl] at hx116_0)
                                (try rw [Addr.add_zero'] at hx116_0)
                                replace p116 := eq_true p116
                                replace q116 := eq_true q116
                                go_wp2
                                go_ret
                                exact ⟨by first | rfl | (simp [errW_none, errW_some] <;> rfl) | (simp [*, errW_none, errW_some] <;> rfl), by repeat (first | (with_reducible first | exact HB.out | apply below_alloc | apply pw_below_drewN | apply below_drew1) | exact HB.out)⟩
                              · rw [if_neg c28] at H
                                exact absurd H (by simp)
                            · rw [if_neg c27] at H
                              have c27b0 : ((rd x1_1 10) == 3) = false := beq_eq_false_iff_ne.mpr c27
                              have c27b1 : ((rd x1_1 10) != 3) = true := bne_iff_ne.mpr c27
                              obtain rfl := Option.some.inj H
                              obtain ⟨Ao30, co30, eo30⟩ := Kd.R_slice HO_1.out
                              subst eo30
                              have p113 : 0 ≤ (1 : Int) := (by omega)
                              have q113 : 1 < (x1_1.length : Int) := of_decide_eq_true (by first | (with_reducible assumption) | assumption)
                              obtain ⟨ad113, e113, hx113_0⟩ := Kd.at_int (Kd.R_reads' HO_1.out).2.2 1 p113 q113
                              cases e113
                              (try simp only [show (1 : Int).toNat = 1 from rfl, Nat.reduceMul, Nat.reduceEqDiff, Go.Addr.add, ↓reduceIte] at hx113_0)
                              have qi113 : (1 < x1_1.length) = True := eq_true (by omega)
                              (try rw [show ((1 : Int)).toNat = 1 from rfl] at hx113_0)
                              replace p113 := eq_true p113
                              replace q113 := eq_true q113
                              have p114 : 0 ≤ (9 : Int) := (by omega)
                              have q114 : 9 < (x1_1.length : Int) := of_decide_eq_true (by first | (with_reducible assumption) | assumption)
                              obtain ⟨ad114, e114, hx114_0⟩ := Kd.at_int (Kd.R_reads' HO_1.out).2.2 9 p114 q114
                              obtain rfl : ad113 = ad114 := (by injection e114)
                              (try simp only [show (9 : Int).toNat = 9 from rfl, Nat.reduceMul, Nat.reduceEqDiff, Go.Addr.add, ↓reduceIte] at hx114_0)
                              have qi114 : (9 < x1_1.length) = True := eq_true (by omega)
                              (try rw [show ((9 : Int)).toNat = 9 from rfl] at hx114_0)
                              replace p114 := eq_true p114
                              replace q114 := eq_true q114
                              have p115 : 0 ≤ (10 : Int) := (by omega)
                              have q115 : 10 < (x1_1.length : Int) := of_decide_eq_true (by first | (with_reducible assumption) | assumption)
                              obtain ⟨ad115, e115, hx115_0⟩ := Kd.at_int (Kd.R_reads' HO_1.out).2.2 10 p115 q115
                              obtain rfl : ad113 = ad115 := (by injection e115)
                              (try simp only [show (10 : Int).toNat = 10 from rfl, Nat.reduceMul, Nat.reduceEqDiff, Go.Addr.add, ↓reduceIte] at hx115_0)
                              have qi115 : (10 < x1_1.length) = True := eq_true (by omega)
                              (try rw [show ((10 : Int)).toNat = 10 from rfl] at hx115_0)
                              replace p115 := eq_true p115
                              replace q115 := eq_true q115
                              go_wp2
                              go_ret
                              exact ⟨by first | rfl | (simp [errW_none, errW_some] <;> rfl) | (simp [*, errW_none, errW_some] <;> rfl), by repeat (first | (with_reducible first | exact HB.out | apply below_alloc | apply pw_below_drewN | apply below_drew1) | exact HB.out)⟩
                          · rw [if_neg c26] at H
                            exact absurd H (by simp)
                        · rw [if_neg c25] at H
                          have c25b0 : ((rd x1_1 9) == 11) = false := beq_eq_false_iff_ne.mpr c25
                          have c25b1 : ((rd x1_1 9) != 11) = true := bne_iff_ne.mpr c25
                          obtain rfl := Option.some.inj H
                          obtain ⟨Ao31, co31, eo31⟩ := Kd.R_slice HO_1.out
                          subst eo31
                          have p113 : 0 ≤ (1 : Int) := (by omega)
                          have q113 : 1 < (x1_1.length : Int) := of_decide_eq_true (by first | (with_reducible assumption) | assumption)
                          obtain ⟨ad113, e113, hx113_0⟩ := Kd.at_int (Kd.R_reads' HO_1.out).2.2 1 p113 q113
                          cases e113
                          (try simp only [show (1 : Int).toNat = 1 from rfl, Nat.reduceMul, Nat.reduceEqDiff, Go.Addr.add, ↓reduceIte] at hx113_0)
                          have qi113 : (1 < x1_1.length) = True := eq_true (by omega)
                          (try rw [show ((1 : Int)).toNat = 1 from rfl] at hx113_0)
                          replace p113 := eq_true p113
                          replace q113 := eq_true q113
                          have p114 : 0 ≤ (9 : Int) := (by omega)
                          have q114 : 9 < (x1_1.length : Int) := of_decide_eq_true (by first | (with_reducible assumption) | assumption)
                          obtain ⟨ad114, e114, hx114_0⟩ := Kd.at_int (Kd.R_reads' HO_1.out).2.2 9 p114 q114
                          obtain rfl : ad113 = ad114 := (by injection e114)
                          (try simp only [show (9 : Int).toNat = 9 from rfl, Nat.reduceMul, Nat.reduceEqDiff, Go.Addr.add, ↓reduceIte] at hx114_0)
                          have qi114 : (9 < x1_1.length) = True := eq_true (by omega)
                          (try rw [show ((9 : Int)).toNat = 9 from rfl] at hx114_0)
                          replace p114 := eq_true p114
                          replace q114 := eq_true q114
                          go_wp2
                          go_ret
                          exact ⟨by first | rfl | (simp [errW_none, errW_some] <;> rfl) | (simp [*, errW_none, errW_some] <;> rfl), by repeat (first | (with_reducible first | exact HB.out | apply below_alloc | apply pw_below_drewN | apply below_drew1) | exact HB.out)⟩
                      · rw [if_neg c24] at H
                        exact absurd H (by simp)
                    · rw [if_neg c23] at H
                      have c23b0 : ((rd x1_1 1) == 4) = false := beq_eq_false_iff_ne.mpr c23
                      have c23b1 : ((rd x1_1 1) != 4) = true := bne_iff_ne.mpr c23
                      obtain rfl := Option.some.inj H
                      obtain ⟨Ao32, co32, eo32⟩ := Kd.R_slice HO_1.out
                      subst eo32
                      have p113 : 0 ≤ (1 : Int) := (by omega)
                      have q113 : 1 < (x1_1.length : Int) := of_decide_eq_true (by first | (with_reducible assumption) | assumption)
                      obtain ⟨ad113, e113, hx113_0⟩ := Kd.at_int (Kd.R_reads' HO_1.out).2.2 1 p113 q113
                      cases e113
                      (try simp only [show (1 : Int).toNat = 1 from rfl, Nat.reduceMul, Nat.reduceEqDiff, Go.Addr.add, ↓reduceIte] at hx113_0)
                      have qi113 : (1 < x1_1.length) = True := eq_true (by omega)
                      (try rw [show ((1 : Int)).toNat = 1 from rfl] at hx113_0)
                      replace p113 := eq_true p113
                      replace q113 := eq_true q113
                      go_wp2
                      go_ret
                      exact ⟨by first | rfl | (simp [errW_none, errW_some] <;> rfl) | (simp [*, errW_none, errW_some] <;> rfl), by repeat (first | (with_reducible first | exact HB.out | apply below_alloc | apply pw_below_drewN | apply below_drew1) | exact HB.out)⟩
                  · rw [if_neg c22] at H
                    exact absurd H (by simp)
    · rw [if_neg c3] at H
      exact absurd H (by simp)
  · replace c2 := Bool.eq_false_iff.mpr c2
    subst c2
    have H1 : (some false) = some r := by rw [if_neg (show ¬ (false = true) by decide)] at H; exact H
    clear H
    have H := H1
    clear H1
    obtain rfl := Option.some.inj H
    go_enter Try.func6, Try.ntmps6
    go_wp2_with (first | ((with_reducible refine gate_callee (f := 31) rfl ?_); refine goesL_ (some 5) rfl rfl Try.func31 (by kernel_rfl) rfl #[] rfl (by (try simp only [List.map_toArray, List.map_cons, List.map_nil]); first | done | rfl | (simp only [List.length_drop, List.length_take]; rfl)) ?_; (with_reducible refine (rifflelaw01_octetAlive.calls k  false _ A1.out).mono ?_); rintro e w' ⟨rfl, ⟨nd, rfl⟩⟩; refine ⟨_, rfl, ?_⟩))
    go_ret
    exact ⟨by first | rfl | (simp [errW_none, errW_some] <;> rfl) | (simp [*, errW_none, errW_some] <;> rfl), by repeat (first | (with_reducible first | exact HB.out | apply below_alloc | apply pw_below_drewN | apply below_drew1) | exact HB.out)⟩

/-- THE ONE PURE STATEMENT of rifflelaw01_OctetKinds: yours. -/
def rifflelaw01_OctetKinds.Pure : Prop := ∃ k, rifflelaw01_OctetKinds.f k  = some true
theorem rifflelaw01_OctetKinds.walk (P : rifflelaw01_OctetKinds.Pure)  (w : World)  :
    Calls Try.prog 6 #[] w fun e w' => e = .returned (.bool true) ∧ Below w.heap.size w w' := by
  obtain ⟨k, h⟩ := P  
  refine (rifflelaw01_OctetKinds.calls k  true w h).mono ?_
  rintro e w' ⟨rfl, hd⟩
  exact ⟨rfl, hd⟩

end Go.Proofs.Ytjfoppmpiklfiaa.POctetKinds
