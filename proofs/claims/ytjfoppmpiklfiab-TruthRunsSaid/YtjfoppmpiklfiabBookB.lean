/- Contracts of the book of things: New, Len, Value, Var, worth, own. Conditions: none. -/
import Derived.Test.YtjfoppmpiklfiabBookA
namespace Go.Proofs.Ytjfoppmpiklfiab.BookW
open Go.RowKit Go.Proofs.YtjfoppmpiklfiabW.PrintWords Go.Proofs.YtjfoppmpiklfiabW.PrintLast Go.Proofs.YtjfoppmpiklfiabW.PrintMore Go.Proofs.Ytjfoppmpiklfiab.PTruthRuns Go.Proofs.Ytjfoppmpiklfiab.Truth
set_option linter.unusedVariables false
set_option linter.unusedSimpArgs false
theorem no_calls (p : Value) (w : World) : Calls Try.prog 31 #[p] w fun e w' => e = .returned (.int .i64 0) ∧ w = w' := by
  go_enter Try.func31, Try.ntmps31
  go_wp2
  go_ret
  exact ⟨rfl, rfl⟩
theorem yes_calls (p : Value) (w : World) : Calls Try.prog 32 #[p] w fun e w' => e = .returned (.int .i64 1) ∧ w = w' := by
  go_enter Try.func32, Try.ntmps32
  go_wp2
  go_ret
  exact ⟨rfl, rfl⟩
def ownOf (x : Int) (v : Nat) : Int := if v = 1 then 1 else if v = 2 then 0 else x
theorem own_calls (p : Value) (x : Int) (v : Nat) (hv : v = 0 ∨ v = 1 ∨ v = 2) (w : World) : Calls Try.prog 60 #[p, .int .i64 x, .int .i64 (v : Int)] w fun e w' => e = .returned (.int .i64 (ownOf x v)) ∧ w = w' := by
  rcases hv with rfl | rfl | rfl <;>
  · go_enter Try.func60, Try.ntmps60
    go_wp2_with (first | (go_at_call 31; refine (no_calls p w).mono ?_; rintro e w1 ⟨rfl, rfl⟩) | (go_at_call 32; refine (yes_calls p w).mono ?_; rintro e w1 ⟨rfl, rfl⟩))
    go_ret
    exact ⟨rfl, rfl⟩
set_option maxHeartbeats 4000000 in
theorem worth_calls (m v u : Nat) (hm : m = 2 ∨ m = 3) (hv : v ≤ 2) (hu : u ≤ 2) (w : World) : Calls Try.prog 56 #[.int .i64 (m : Int), .int .i64 (v : Int), .int .i64 (u : Int)] w fun e w' => e = .returned (.int .i64 (worth m v u : Nat)) ∧ w = w' := by
  have hv' : v = 0 ∨ v = 1 ∨ v = 2 := by omega
  have hu' : u = 0 ∨ u = 1 ∨ u = 2 := by omega
  clear hv hu
  rcases hm with rfl | rfl <;> rcases hv' with rfl | rfl | rfl <;> rcases hu' with rfl | rfl | rfl <;>
  · go_enter Try.func56, Try.ntmps56
    go_wp2
    go_ret
    exact ⟨rfl, rfl⟩
theorem len_calls (g : Nat) (P : Nat → Prop) (L : List T) (w0 w : World) (hI : IsB w0 w g P L) : Calls Try.prog 40 #[.pointer (some ⟨g, 0, none⟩)] w fun e w' => e = .returned (.int .i64 L.length) ∧ w = w' := by
  obtain ⟨A, c, hg, hb, hS⟩ := hI.slice
  have c0 := (blk_cell hg 0).trans rfl
  clear hg hb hS
  go_enter Try.func40, Try.ntmps40
  go_wp2
  go_ret
  exact ⟨rfl, rfl⟩
theorem value_calls (g : Nat) (P : Nat → Prop) (L : List T) (x : Int) (w0 w : World) (hI : IsB w0 w g P L) : Calls Try.prog 38 #[.pointer (some ⟨g, 0, none⟩), .int .i64 x] w fun e w' => e = .returned (.int .i64 (valT L x : Nat)) ∧ w = w' := by
  by_cases h0 : x < 0
  · have hv : valT L x = 2 := by unfold valT; rw [if_pos (.inl h0)]
    have q0 : decide (x < 0) = true := decide_eq_true h0
    rw [hv]
    clear h0 hv
    go_enter Try.func38, Try.ntmps38
    go_wp2
    go_ret
    exact ⟨rfl, rfl⟩
  · by_cases h1 : (L.length : Int) ≤ x
    · have hv : valT L x = 2 := by unfold valT; rw [if_pos (.inr h1)]
      have q0 : decide (x < 0) = false := decide_eq_false h0
      have q1 : decide ((L.length : Int) ≤ x) = true := decide_eq_true h1
      obtain ⟨A, c, hg, hb, hS⟩ := hI.slice
      have c0 := (blk_cell hg 0).trans rfl
      rw [hv]
      clear hg hb hS h0 h1 hv
      go_enter Try.func38, Try.ntmps38
      go_wp2
      go_ret
      exact ⟨rfl, rfl⟩
    · obtain ⟨gr, c, v, oki, hg, hb, hR, c0, c1, c2, c3, c4, hfr, hok, hne, hPg, hbg, hH⟩ := hI.elem x.toNat (by omega)
      have hv : valT L x = (gT L x.toNat).val := by unfold valT; rw [if_neg (by omega)]
      have q0 : decide (x < 0) = false := decide_eq_false h0
      have q1 : decide ((L.length : Int) ≤ x) = false := decide_eq_false h1
      have p0 : 0 ≤ x := by omega
      have p1 : x < (L.length : Int) := by omega
      have cg := (blk_cell hg 0).trans rfl
      rw [hv]
      clear hg hb hR c0 c2 c3 c4 hfr hok hne hPg hbg hH h0 h1 hv
      replace p0 := eq_true p0
      replace p1 := eq_true p1
      go_enter Try.func38, Try.ntmps38
      go_wp2
      go_ret
      exact ⟨rfl, rfl⟩
theorem none_M (w : World) (b : Nat) : k65.M w b (fun _ => False) (enc ⟨1, 0, 0, 0, []⟩) [.int .i64 1, .int .i64 0, .int .i64 0, .int .i64 0, .slice none 0 0] :=
  k65_mkM w b _ (enc ⟨1, 0, 0, 0, []⟩) (Kd.R_nil _ _ _ _ _)
theorem made_M (w : World) (b m v x y : Nat) : k65.M w b (fun _ => False) (enc ⟨m, v, x, y, []⟩) [.int .i64 m, .int .i64 v, .int .i64 x, .int .i64 y, .slice none 0 0] :=
  k65_mkM w b _ (enc ⟨m, v, x, y, []⟩) (Kd.R_nil _ _ _ _ _)
/-- Behind an append to the things, and the store of their slice. -/
theorem IsB.appended {w0 W w1 : World} {g : Nat} {P : Nat → Prop} {L : List T} {t : T} {v1 : Value} {A : Option Addr} {c : Nat} (hg : W.heap[g]? = some (.cells #[.slice A L.length c] 68 (0, 0))) (hb : w0.heap.size ≤ g)
    (hS0 : Kd.S k65 65 W w0.heap.size (fun k => k ≠ g ∧ P k) (.slice A L.length c) (L.map enc))
    (hS : Kd.S k65 65 w1 w0.heap.size (fun k => k ≠ g ∧ P k) v1 (L.map enc ++ [enc t])) (hB : Below w0.heap.size w0 w1) (hgr : W.grownBy w1 (Value.slice A L.length c).ownBlock) :
    IsB w0 (w1.setCell ⟨g, 0, none⟩ v1) g P (L ++ [t]) ∧ Below w0.heap.size w0 (w1.setCell ⟨g, 0, none⟩ v1) ∧ KeepB g P W (w1.setCell ⟨g, 0, none⟩ v1) := by
  have hk := blk_grown hg hgr (Kd.S_ne hS0 hg (by decide))
  refine ⟨⟨v1, ?_, hb, ?_⟩, below_set hB hb, ⟨?_, fun k hk1 hkg hkP => ?_⟩⟩
  · have h := blk_set hk 0 v1
    simpa using h
  · rw [List.map_append]
    exact Kd.S_far (p := ⟨g, 0, none⟩) hS (fun k hk => hk.1) v1
  · simp [World.setCell]
    exact hgr.size
  · rw [Below.heap_setCell w1 ⟨g, 0, none⟩ v1 k hkg]
    refine hgr.block k hk1 (fun he => ?_)
    exact hkP ((Kd.S_R hS0).1 k he.symm).2
set_option maxHeartbeats 4000000 in
set_option maxRecDepth 100000 in
theorem var_calls (g : Nat) (P : Nat → Prop) (L : List T) (w0 w : World) (hI : IsB w0 w g P L) (hf : ∀ k, w.heap.size ≤ k → P k) (hB : Below w0.heap.size w0 w) (hl : L.length < 1000000) :
    Calls Try.prog 34 #[.pointer (some ⟨g, 0, none⟩)] w fun e w' => e = .returned (.int .i64 L.length) ∧ IsB w0 w' g P (mkVar L) ∧ Below w0.heap.size w0 w' ∧ KeepB g P w w' := by
  obtain ⟨A, c, hg, hb, hS⟩ := hI.slice
  have HG := Aside0.mk hg
  have HBG := Aside0.mk hb
  have HS := Aside0.mk hS
  have HF := Aside0.mk hf
  have HB := Aside0.mk hB
  have HL := Aside0.mk hl
  have HLT := Aside0.mk hI.lt
  have c0 := (blk_cell hg 0).trans rfl
  have z0 := blk_frozen hg 0
  clear hg hb hS hf hB hl hI
  go_enter Try.func34, Try.ntmps34
  go_upto_region 2 with (first | (at_builtin; refine Kd.S_append k65 (w0 := w0) w0.heap.size rfl (.tmp 7) (.tmp 9) 66 65 _ 56 rfl Try.underlying66 info65 rfl (by decide) (by decide) _ (L.map enc) (enc ⟨1, 0, 0, 0, []⟩) _ (fun k => k ≠ g ∧ P k) (fun _ => False) rfl rfl (none_M _ _) (fun _ h => h.elim) (fun k hk => ⟨by have := HLT.out; omega, HF.out k hk⟩) (Kd.S_mono HS.out (fun k hk => ⟨hk, fun h => h⟩)) HB.out HB.out.size (by rw [List.length_map]; have := HL.out; omega) ?_; intro v1 w1 hS hB hgr hat; obtain ⟨A1, cc1, rfl⟩ := Kd.S_slice hS; have HA := Aside0.mk (IsB.appended HG.out HBG.out HS.out hS hB hgr); have hk := blk_grown HG.out hgr (Kd.S_ne HS.out HG.out (by decide)); have z0 := blk_frozen hk 0; have c0 := (blk_cell hk 0).trans rfl; clear hS hB hgr hat hk))
  rw [List.length_append, List.length_map, List.length_singleton] at HA
  obtain ⟨hI2, hB2, hK2⟩ := HA.out
  have hg2 := hI2.slice
  obtain ⟨A2, c2, hg2, -, -⟩ := hg2
  have e2 : (L ++ [(⟨1, 0, 0, 0, []⟩ : T)]).length = L.length + 1 := by simp
  rw [e2] at hg2
  have HI2 := Aside0.mk hI2
  have HB2 := Aside0.mk hB2
  have HK2 := Aside0.mk hK2
  have c0' := (blk_cell hg2 0).trans rfl
  generalize hw : w1.setCell _ _ = w2 at HI2 HB2 HK2 c0' ⊢
  clear hw hI2 hB2 hK2 HA hg2 e2 c0 z0
  have hl := HL.out
  go_wp2_with fail
  go_ret
  exact ⟨by simp, HI2.out, HB2.out, HK2.out⟩
end Go.Proofs.Ytjfoppmpiklfiab.BookW
