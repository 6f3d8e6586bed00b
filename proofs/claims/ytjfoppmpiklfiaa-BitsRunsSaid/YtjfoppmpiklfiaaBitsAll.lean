/- Contracts of the stack of bits: all of it. Conditions: none. -/
import Derived.Test.YtjfoppmpiklfiaaBitsPop
namespace Go.Proofs.Ytjfoppmpiklfiaa.BitsW
open Go.RowKit Go.Proofs.YtjfoppmpiklfiaaW.PrintWords Go.Proofs.YtjfoppmpiklfiaaW.PrintLast Go.Proofs.YtjfoppmpiklfiaaW.PrintMore
set_option linter.unusedVariables false
set_option linter.unusedSimpArgs false
theorem info4b : (Try.prog.info? 4).map (fun i => (i.zero, i.size, i.bytes)) = some (some (.bool false), 1, 1) := by kernel_rfl
/-- A row of bools of one's own. -/
def OwnB (B : Nat) (W : World) (v : Value) (l : List Bool) : Prop := W.ownsRow B 4 1 v l.length (encs Value.bool l)
set_option maxHeartbeats 4000000 in
set_option maxRecDepth 100000 in
theorem all_calls (g m : Nat) (l : List Bool) (w0 w : World) (hI : IsB w0 w g m l) (hm : l.length ≤ 64 * m) (hl : l.length ≤ 1000000) :
    Calls Try.prog 21 #[.pointer (some ⟨g, 0, none⟩)] w fun e w' => ∃ A c, e = .returned (.slice A l.length c) ∧ OwnB w.heap.size w' (.slice A l.length c) l ∧ Below w.heap.size w w' := by
  have HI := Aside0.mk hI
  obtain ⟨v, hg, ho, hb0⟩ := hI
  have c1 := (blk_cell hg 1).trans rfl
  have HL := Aside0.mk hm
  have HLL := Aside0.mk hl
  obtain ⟨n, hn⟩ : ∃ n : Int, n = (l.length : Int) := ⟨_, rfl⟩
  have HN := Aside0.mk hn
  rw [← hn] at c1
  clear hg ho hb0 hm hl hn
  go_enter Try.func21, Try.ntmps21
  go_wp2_with fail
  go_loopg [3, 9] l.length (fun kq v3 v9 w' => ∃ i : Nat, Aside0 (kq + i = l.length) ∧ v9 = .int .i64 (i : Int) ∧ Aside0 (OwnB w.heap.size w' v3 (l.take i)) ∧ Aside0 (Below w.heap.size w w'))
  case atStart => exact ⟨0, ⟨by omega⟩, rfl, ⟨by simp [OwnB, encs]; exact own_nil _ _ _ _⟩, ⟨Below.refl _ _⟩⟩
  case round =>
    try clear c1
    obtain ⟨i, hi, rfl, HO, HB⟩ := hrel
    have HI2 := Aside0.mk (HI.out.below HB.out)
    by_cases c3 : i < l.length
    · obtain ⟨x, hx⟩ : ∃ x : Int, x = (i : Int) := ⟨_, rfl⟩
      have HXi := Aside0.mk hx
      have hlim : (l.take i).length < 1000000 := by have := HLL.out; simp; omega
      have q1 : decide (x < n) = true := by have := HN.out; simp; omega
      have q2 : (0 : Int) ≤ x := by omega
      have q3 : x < 1000000 := by have := HLL.out; omega
      obtain ⟨b, hb⟩ : ∃ b, l[i]? = some b := ⟨l[i], List.getElem?_eq_getElem c3⟩
      have HA := Aside0.mk (at_calls g m (i / 64) (i % 64) x l w0 _ HI2.out (by omega) (by omega) (by omega) HL.out HLL.out b (by rw [show 64 * (i / 64) + i % 64 = i by omega]; exact hb))
      have HT := Aside0.mk (show l.take i ++ [b] = l.take (i + 1) by rw [List.take_add_one, hb]; rfl)
      rw [← hx]
      have C3 := Aside0.mk c3
      clear hx c3 hb
      go_wp2_with (first | (go_at_call 57; refine HA.out.mono ?_; rintro e w6 ⟨rfl, rfl⟩) | (at_builtin; refine print_append_of (w0 := w) Value.bool w.heap.size rfl (.tmp 12) (.tmp 16) 27 4 (.bool false) 1 rfl Try.underlying27 info4b rfl (by decide) _ (l.take i) b rfl rfl rfl HO.out HB.out HB.out.size (by omega) ?_; intro v1 w1 hown hbw hgrow hat; obtain ⟨A1, cc1, rfl⟩ := own_slice hown))
      have e : (l.take i ++ [b]).length = min i l.length + 1 := by simp
      have hown2 : OwnB w.heap.size w1 (.slice A1 (min i l.length + 1) cc1) (l.take (i + 1)) := by
        unfold OwnB
        rw [← HT.out, e]
        rw [e] at hown
        exact hown
      have hl1 : min i l.length + 1 = i + 1 := by have := C3.out; omega
      clear hat hgrow hown
      go_roundg (l.length - (i + 1))
      case measure => have := hi.out; have := C3.out; omega
      case rel => exact ⟨i + 1, ⟨by have := C3.out; omega⟩, by rw [HXi.out]; simp, ⟨hown2⟩, ⟨hbw⟩⟩
    · have hi' : i = l.length := by have := hi.out; omega
      have q1 : decide ((i : Int) < n) = false := by have := HN.out; simp; omega
      obtain ⟨x, hx⟩ : ∃ x : Int, x = (i : Int) := ⟨_, rfl⟩
      rw [← hx] at q1 ⊢
      have HT : OwnB w.heap.size wr u3 l := by have h := HO.out; rwa [hi', List.take_length] at h
      obtain ⟨A1, cc1, rfl⟩ := own_slice HT
      have HT' := Aside0.mk HT
      clear hx hi' c3 HT
      go_wp2_with fail
      go_ret
      exact ⟨A1, cc1, rfl, HT'.out, HB.out⟩
end Go.Proofs.Ytjfoppmpiklfiaa.BitsW
