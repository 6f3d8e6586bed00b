/- The walk of the law QuotePuts over the contracts of what it calls. Conditions: none. -/
import Derived.Test.YtlhpflicchchlaaQE
import Derived.Test.YtlhpflicchchlaaPutEq
namespace Go.Proofs.Ytlhpflicchchlaa.WalkQuotePuts
open Go.RowKit Go.Proofs.YtlhpflicchchlaaW.PrintWords Go.Proofs.YtlhpflicchchlaaW.PrintLast Go.Proofs.YtlhpflicchchlaaW.PrintMore
open Go.Proofs.Ytlhpflicchchlaa.QW Go.Proofs.Ytlhpflicchchlaa.Num Go.Proofs.Ytlhpflicchchlaa.RPut Go.Proofs.Ytlhpflicchchlaa.Bld
attribute [local go_sem] max2_int min2_int max_two min_two max_three min_three max_four min_four
set_option linter.unusedVariables false
set_option linter.unusedSimpArgs false
theorem read1 : qread q0 (L ⟨#[97, 92, 110, 34]⟩) 0 = ([97, 10], 4, 1) := by decide +kernel
theorem read2 : qread q0 (L ⟨#[92, 117, 100, 56, 51, 100, 120]⟩) 0 = ([], 6, 4) := by decide +kernel
theorem read3 : qread q0 (L ⟨#[92, 117, 100, 99]⟩) 0 = ([], 3, 4) := by decide +kernel
set_option maxHeartbeats 16000000 in
set_option maxRecDepth 100000 in
theorem alive (w : World) : Calls Try.prog 14 #[] w fun e w' => e = .returned (.bool true) ∧ Below w.heap.size w w' := by
  have R1 := Aside0.mk (fun W => read_calls ⟨#[97, 92, 110, 34]⟩ (by decide) _ _ _ read1 W)
  have R2 := Aside0.mk (fun W => read_calls ⟨#[92, 117, 100, 56, 51, 100, 120]⟩ (by decide) _ _ _ read2 W)
  have R3 := Aside0.mk (fun W => read_calls ⟨#[92, 117, 100, 99]⟩ (by decide) _ _ _ read3 W)
  go_enter Try.func14, Try.ntmps14
  go_wp2_with (fail)
  go_at_call 17
  refine (R1.out _).mono ?_
  rintro e w2 ⟨rfl, hb⟩
  have HB1 := Aside0.mk hb
  clear hb
  go_wp2_with (fail)
  go_at_call 17
  refine (R2.out _).mono ?_
  rintro e w3 ⟨rfl, hb⟩
  have HB2 := Aside0.mk (below_step HB1.out hb)
  clear hb
  go_wp2_with (fail)
  go_at_call 17
  refine (R3.out _).mono ?_
  rintro e w4 ⟨rfl, hb⟩
  have HB3 := Aside0.mk (below_step HB2.out hb)
  clear hb
  go_wp2_with (fail)
  go_ret
  exact ⟨by first | rfl | simp, HB3.out⟩
set_option maxHeartbeats 16000000 in
set_option maxRecDepth 100000 in
theorem walk (s : ByteArray) (_ : s.size ≤ 140737488351232) (w : World) : Calls Try.prog 5 #[.string s] w fun e w' => e = .returned (.bool true) ∧ Below w.heap.size w w' := by
  have HAL := Aside0.mk alive
  go_enter Try.func5, Try.ntmps5
  go_wp2_with (fail)
  go_at_call 14
  refine (HAL.out _).mono ?_
  rintro e w2 ⟨rfl, hb⟩
  have HB1 := Aside0.mk hb
  clear hb
  by_cases hbig : (1000 : Int) < (s.size : Int)
  · have z1 : decide ((1000 : Int) < (s.size : Int)) = true := decide_eq_true hbig
    have z2 : decide (1000 < s.size) = true := decide_eq_true (by omega)
    clear hbig
    go_wp2_with (fail)
    go_ret
    exact ⟨rfl, HB1.out⟩
  · have z1 : decide ((1000 : Int) < (s.size : Int)) = false := decide_eq_false hbig
    have z2 : decide (1000 < s.size) = false := decide_eq_false (by omega)
    have HP := Aside0.mk (fun W => put_calls s W (by omega))
    have HR := Aside0.mk (fun W => rput_calls s W (by omega))
    clear hbig
    go_wp2_with (fail)
    go_at_call 15
    refine (HP.out _).mono ?_
    rintro e w3 ⟨rfl, hb⟩
    have HB2 := Aside0.mk (below_step HB1.out hb)
    clear hb
    go_wp2_with (fail)
    go_at_call 16
    refine (HR.out _).mono ?_
    rintro e w4 ⟨rfl, hb⟩
    have HB3 := Aside0.mk (below_step HB2.out hb)
    clear hb
    rw [put_same]
    go_wp2_with (fail)
    go_ret
    exact ⟨by first | rfl | simp, HB3.out⟩
end Go.Proofs.Ytlhpflicchchlaa.WalkQuotePuts
