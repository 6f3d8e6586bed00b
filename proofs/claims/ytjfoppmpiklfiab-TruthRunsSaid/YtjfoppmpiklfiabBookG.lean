/- The book of things: the chapter's example. Conditions: none. -/
import Derived.Test.YtjfoppmpiklfiabBookF
namespace Go.Proofs.Ytjfoppmpiklfiab.BookW
open Go.RowKit Go.Proofs.YtjfoppmpiklfiabW.PrintWords Go.Proofs.YtjfoppmpiklfiabW.PrintLast Go.Proofs.YtjfoppmpiklfiabW.PrintMore Go.Proofs.Ytjfoppmpiklfiab.PTruthRuns Go.Proofs.Ytjfoppmpiklfiab.Truth
set_option linter.unusedVariables false
set_option linter.unusedSimpArgs false
theorem set_calls (g : Nat) (P : Nat → Prop) (L : List T) (x : Int) (yes : Bool) (L' : List T) (k : Nat) (w0 w : World) (hI : IsB w0 w g P L) (hf : ∀ k, w.heap.size ≤ k → P k) (hB : Below w0.heap.size w0 w) (hl : L.length < 1000000) (hInv : Inv L)
    (hx0 : 0 ≤ x) (hx1 : x < L.length) (hm : (gT L x.toNat).made = 1) (hp : prop k (Truth.start L x.toNat yes) [x.toNat] = some L') :
    Calls Try.prog 37 #[.pointer (some ⟨g, 0, none⟩), .int .i64 x, .bool yes] w fun e w' => e = .returned (.bool true) ∧ IsB w0 w' g P L' ∧ Below w0.heap.size w0 w' ∧ KeepB g P w w' := by
  cases yes
  · exact set_false g P L x L' k w0 w hI hf hB hl hInv hx0 hx1 hm hp
  · exact set_true g P L x L' k w0 w hI hf hB hl hInv hx0 hx1 hm hp
/-- A row that is new is none of the book's. -/
theorem IsB.beside {w0 W W1 : World} {g b : Nat} {P : Nat → Prop} {L : List T} (h : IsB w0 W g P L) (hb : Below W.heap.size W W1) (hn : W.heap.size ≤ b) : IsB w0 W1 g (fun k => P k ∧ k ≠ b) L :=
  (h.bound.below hb).mono (fun k hk => ⟨hk.1, fun he => by have := hk.2; omega⟩)
theorem newL_inv : Inv newL := by
  have g0 : gT newL 0 = ⟨0, 2, 0, 0, []⟩ := rfl
  have g1 : gT newL 1 = ⟨0, 1, 0, 0, []⟩ := rfl
  have g2 : ∀ k, gT newL (k + 2) = none_ := fun k => rfl
  refine ⟨fun k => ?_, fun k hk h1 => ?_, fun k hk h1 => ?_, fun k hk => ?_, fun k hk h1 => ?_, fun k hk h1 h2 => ?_, fun k hk h1 h2 => ?_, fun k hk h1 h2 => ?_, fun k w hw => ?_, fun k => ?_, fun t ht => (by cases ht), fun w hw => (by cases hw), Nat.le_refl _, rfl, rfl⟩
  all_goals match k with
    | 0 => ?_
    | 1 => ?_
    | k + 2 => ?_
  all_goals first
    | (rw [g0] at *; first | decide | (simp at h1; done) | (cases hw; done) | (simp; done))
    | (rw [g1] at *; first | decide | (simp at h1; done) | (cases hw; done) | (simp; done))
    | (rw [g2] at *; first | exact Nat.zero_le _ | (cases hw; done))
    | (exfalso; have : newL.length = 2 := rfl; omega)
def aL1 : List T := [⟨0, 2, 0, 0, []⟩, ⟨0, 1, 0, 0, []⟩, ⟨1, 0, 0, 0, []⟩]
def aL2 : List T := [⟨0, 2, 0, 0, []⟩, ⟨0, 1, 0, 0, []⟩, ⟨1, 0, 0, 0, []⟩, ⟨1, 0, 0, 0, []⟩]
def aL3 : List T := [⟨0, 2, 0, 0, []⟩, ⟨0, 1, 0, 0, []⟩, ⟨1, 0, 0, 0, [4]⟩, ⟨1, 0, 0, 0, [4]⟩, ⟨2, 0, 2, 3, []⟩]
def aL4 : List T := [⟨0, 2, 0, 0, []⟩, ⟨0, 1, 0, 0, []⟩, ⟨0, 2, 0, 0, []⟩, ⟨1, 0, 0, 0, [4]⟩, ⟨2, 2, 2, 3, []⟩]
theorem a1 : mkVar newL = aL1 := rfl
theorem a2 : mkVar aL1 = aL2 := rfl
theorem a3 : two aL2 2 2 3 = (aL3, 4) := rfl
theorem a4 : orAll aL3 0 [1, 3] = (aL3, 1) := rfl
theorem a5 : prop 9 (Truth.start aL3 2 false) [2] = some aL4 := rfl
theorem i1 : Inv aL1 := by rw [← a1]; exact (inv_var newL_inv).1
theorem i2 : Inv aL2 := by rw [← a2]; exact (inv_var i1).1
theorem i3 : Inv aL3 := by
  have h := (two_inv i2 (.inl rfl : (2 : Nat) = 2 ∨ 2 = 3) (x := 2) (y := 3) (by decide) (by decide)).1
  rw [a3] at h
  exact h
/-- A literal of numbers beside the book. -/
theorem lit_beside {w0 W : World} {g : Nat} {P : Nat → Prop} {L : List T} (hI : IsB w0 W g P L) (hB : Below w0.heap.size w0 W) (hf : ∀ k, W.heap.size ≤ k → P k) (xs : List Int) (hm : xs.length ≤ 1000000) (W1 : World) (hW : W1 = W.alloc (.cells (encs (fun z : Int => Value.int .i64 z) xs).toArray 3)) :
    IsB w0 W1 g (fun k => P k ∧ k ≠ W.heap.size) L ∧ Below w0.heap.size w0 W1 ∧ (∀ k, W1.heap.size ≤ k → P k ∧ k ≠ W.heap.size) ∧ Kd.F (Kd.int .i64) W1 (fun k => k ≠ g ∧ ¬ (P k ∧ k ≠ W.heap.size)) (some ⟨W.heap.size, 0, none⟩) xs.length xs ∧ KeepB g P W W1 := by
  have hs : W1.heap.size = W.heap.size + 1 := by rw [hW]; simp
  have ho := own_lit_of (enc := fun z : Int => Value.int .i64 z) W W.heap.size 3 xs (Nat.le_refl _) (by omega)
  rw [← hW] at ho
  have hb : Below W.heap.size W W1 := by rw [hW]; exact below_alloc (Below.refl _ _) _
  refine ⟨hI.beside hb (Nat.le_refl _), by rw [hW]; exact below_alloc hB _, fun k hk => ⟨hf k (by omega), by omega⟩, ?_, KeepB.of_below hb⟩
  refine Kd.F_mono (Kd.R_F (Kd.R_tight Eint (Kd.R_of_own ho (ok := fun _ => True) (fun _ _ => trivial)))) (fun k hk => ?_)
  have hk2 : k = W.heap.size := by simpa [Value.ownBlock] using hk
  have := hI.lt
  exact ⟨by omega, fun h => h.2 hk2⟩
set_option maxHeartbeats 4000000 in
set_option maxRecDepth 100000 in
theorem alive_calls (w : World) : Calls Try.prog 29 #[] w fun e w' => e = .returned (.bool true) ∧ Below w.heap.size w w' := by
  have HNew := Aside0.mk (new_calls w w (Below.refl _ _) (fun k => w.heap.size ≤ k) (fun k hk => hk))
  go_enter Try.func29, Try.ntmps29
  go_upto_region 2 with (first | (go_at_call 30; refine HNew.out.mono ?_; rintro e w1 ⟨rfl, hI, hb, hs⟩; have HI := Aside0.mk hI; have HB := Aside0.mk hb; clear hI hb hs HNew))
  generalize w.heap.size + 1 = g at HI ⊢
  go_upto_region 4 with (fail)
  have HV1 := Aside0.mk (var_calls g _ newL w w1 HI.out (fun k hk => Nat.le_trans HB.out.size hk) HB.out (by decide))
  go_upto_region 5 with (first | (go_at_call 34; refine HV1.out.mono ?_; rintro e w2 ⟨rfl, hI, hb, -⟩; rw [a1] at hI; have HI2 := Aside0.mk hI; have HB2 := Aside0.mk hb; have HV2 := Aside0.mk (var_calls g _ aL1 w w2 HI2.out (fun k hk => Nat.le_trans HB2.out.size hk) HB2.out (by decide)); clear hI hb HV1) | (go_at_call 34; refine HV2.out.mono ?_; rintro e w3 ⟨rfl, hI, hb, -⟩; rw [a2] at hI; have HI3 := Aside0.mk hI; have HB3 := Aside0.mk hb; clear hI hb HV2))
  have e1 : ((newL.length : Nat) : Int) = 2 := rfl
  have e2 : ((aL1.length : Nat) : Int) = 3 := rfl
  rw [e1, e2]
  clear e1 e2
  have HAnd := Aside0.mk (and_calls g _ aL2 2 3 w w3 HI3.out (fun k hk => Nat.le_trans HB3.out.size hk) HB3.out (by decide) i2)
  rw [a3] at HAnd
  go_upto_region 6 with (first | (go_at_call 35; refine HAnd.out.mono ?_; rintro e w4 ⟨rfl, hI, hb, -⟩; have HLit := Aside0.mk (lit_beside hI hb (fun k hk => Nat.le_trans hb.size hk) [1, 3] (by decide) _ rfl); clear hI hb HAnd) | (go_at_call 32; refine (yes_calls _ _).mono ?_; rintro e w5 ⟨rfl, rfl⟩; have HOr := Aside0.mk (or_calls g _ aL3 _ 2 2 [1, 3] w _ HLit.out.1 HLit.out.2.2.1 HLit.out.2.1 (by decide) i3 HLit.out.2.2.2.1 (by decide)); rw [a4] at HOr) | (go_at_call 36; refine HOr.out.mono ?_; rintro e w6 ⟨rfl, hI, hb, hk⟩; have HI6 := Aside0.mk hI; have HB6 := Aside0.mk hb; have HF6 := Aside0.mk (fun k (hk2 : w6.heap.size ≤ k) => HLit.out.2.2.1 k (Nat.le_trans hk.1 hk2)); clear hI hb hk HOr HLit))
  have HV6 := Aside0.mk (value_calls g _ aL3 4 w w6 HI6.out)
  have HS6 := Aside0.mk (set_calls g _ aL3 2 false aL4 9 w w6 HI6.out HF6.out HB6.out (by decide) i3 (by decide) (by decide) rfl a5)
  rw [show valT aL3 4 = 0 from rfl] at HV6
  go_wp2_with (first | (go_at_call_of 37 (Value.int .i64 2); refine HS6.out.mono ?_; rintro e w7 ⟨rfl, hI, hb, -⟩; have HB7 := Aside0.mk hb; have HV7 := Aside0.mk (value_calls g _ aL4 4 w w7 hI); have HV8 := Aside0.mk (value_calls g _ aL4 1 w w7 hI); rw [show valT aL4 4 = 2 from rfl] at HV7; rw [show valT aL4 1 = 1 from rfl] at HV8; clear hI hb HV6 HS6) | (go_at_call_of 38 (Value.int .i64 4); refine HV6.out.mono ?_; rintro e w8 ⟨rfl, rfl⟩) | (go_at_call_of 38 (Value.int .i64 4); refine HV7.out.mono ?_; rintro e w8 ⟨rfl, rfl⟩) | (go_at_call_of 38 (Value.int .i64 1); refine HV8.out.mono ?_; rintro e w8 ⟨rfl, rfl⟩))
  go_ret
  exact ⟨rfl, HB7.out⟩
end Go.Proofs.Ytjfoppmpiklfiab.BookW
