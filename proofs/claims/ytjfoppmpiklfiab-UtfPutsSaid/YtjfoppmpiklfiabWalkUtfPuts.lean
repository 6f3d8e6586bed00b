/- The walk of UtfPuts over the contracts of what it calls: it returns true. Conditions: none but that the numbers are of 32 bits, and the slice one that can be read. -/
import Derived.Test.YtjfoppmpiklfiabPutFull
import Derived.Test.YtjfoppmpiklfiabPutsOf
import Derived.Test.YtjfoppmpiklfiabCells
import Derived.Test.YtjfoppmpiklfiabLinkUtfBads
import Derived.Test.YtjfoppmpiklfiabPutsPure
namespace Go.Proofs.Ytjfoppmpiklfiab.PutsW
open Go.RowKit Go.Proofs.Ytjfoppmpiklfiab.PUtfBads Go.Proofs.Ytjfoppmpiklfiab.Puts Go.Proofs.Ytjfoppmpiklfiab.PutFull Go.Proofs.YtjfoppmpiklfiabW.PrintWords Go.Proofs.YtjfoppmpiklfiabW.PrintLast Go.Proofs.YtjfoppmpiklfiabW.PrintMore Go.Proofs.Ytjfoppmpiklfiab.LinkUtfBads
attribute [local go_sem] max2_int min2_int max_two min_two max_three min_three max_four min_four
set_option linter.unusedVariables false
set_option linter.unusedSimpArgs false

theorem reads_int {w : World} {A : Option Addr} {n : Nat} {l : List Int} (h : ReadsInt w .u8 A n l) (hA : ∀ ad, A = some ad → 0 < n → ad.block < w.heap.size) : Cells.Reads w w.heap.size 1 A n (nums .u8 l) := by
  refine ⟨by rw [nums_length, h.1]; omega, fun h0 => ?_⟩
  obtain ⟨ad, e, hc⟩ := h.2.2 h0
  refine ⟨ad, e, hA ad e h0, fun j u hj => ?_⟩
  have hjl : j < l.length := by
    have := (List.getElem?_eq_some_iff.1 hj).1
    rwa [nums_length] at this
  rw [hc j (by have := h.1; omega)]
  rw [← hj]
  simp [nums, List.getElem?_eq_getElem hjl, List.getD_eq_getElem?_getD]
theorem own_empty (w : World) (B : Nat) (hB : B ≤ w.heap.size) : (w.alloc (.cells #[] 5)).ownsRow B 5 1 (.slice (some ⟨w.heap.size, 0, none⟩) 0 0) 0 (nums .u8 []) :=
  ⟨rfl, .inr ⟨w.heap.size, 0, #[], rfl, hB, heap_alloc_new w _, Nat.le_refl _, by simp [maxLen], rfl, rfl⟩⟩
theorem own_full {w : World} {B n : Nat} {v : Value} {l : List Int} (h : w.ownsRow B 5 1 v n (nums .u8 l)) : ∃ A c, v = .slice A n c ∧ n ≤ c ∧ c ≤ maxLen ∧ Full w A n (nums .u8 l) := by
  rcases h.2 with ⟨rfl, rfl⟩ | ⟨g, cap, cur, rfl, _, _, h1, h2, _⟩
  · exact ⟨none, 0, rfl, Nat.le_refl _, by simp [maxLen], fun _ => ⟨rfl, rfl⟩, h.1, fun b hb => by cases hb⟩
  · exact ⟨_, cap, rfl, h1, h2, fun e => by (cases e), h.1, fun b hb j u hu => by cases hb; exact h.cells (g := g) rfl j u hu⟩
theorem put_calls (A : Option Addr) (n : Nat) (xs : List Value) (r : Int) (hr0 : -2147483648 ≤ r) (hr1 : r ≤ 2147483647) (w : World) (hF : Full w A n xs) (hlen : n ≤ 100000) :
    Calls Try.prog 42 #[.slice A n n, .int .i32 r] w fun e w' => ∃ v', e = .returned v' ∧ w'.ownsRow w.heap.size 5 1 v' (n + (Lib.runeCells r).length) (xs ++ Lib.runeCells r) ∧ Below w.heap.size w w' := by
  go_enter Try.func42, Try.ntmps42
  go_wp2_with (go_at_call 58; refine (app A n xs r hr0 hr1 _ hF hlen).mono ?_)
  rintro e w1 ⟨v', rfl, h1, h2⟩
  go_wp2
  go_ret
  exact ⟨_, rfl, h1, h2⟩
theorem src_of_R {w : World} {B : Nat} {ok : Nat → Prop} {v : Value} {xs : List Int} (h : Kd.R (Kd.int .u8) 5 w B ok v xs) : ∃ A c, v = .slice A xs.length c ∧ Cells.Reads w w.heap.size 1 A xs.length (nums .u8 xs) ∧ ReadsInt w .u8 A xs.length xs := by
  obtain ⟨A, c, rfl, hc, hC⟩ := Kd.R_reads h
  have hr : ReadsInt w .u8 A xs.length xs := Kd.reads_of_C (enc := Value.int .u8) (d := (0 : Int)) (h1 := fun _ => rfl) hC
  refine ⟨A, c, rfl, reads_int hr ?_, hr⟩
  intro ad hA h0
  obtain ⟨g, cap, hv, _, hlt, _⟩ := Kd.R_form h h0
  injection hv with hv
  rw [hA] at hv
  injection hv with hv
  subst hv
  exact hlt
set_option maxHeartbeats 8000000 in
set_option maxRecDepth 100000 in
theorem puts_walk (a : Option Addr) (l : List Int) (cap : Nat) (r : Int) (h0 : -2147483648 ≤ r) (h1 : r ≤ 2147483647) (w : World) (hl : ReadsInt w .u8 a l.length l) (hA : ∀ ad, a = some ad → 0 < l.length → ad.block < w.heap.size)
    (hb1 : riffleref02_Bad.f 3000 (strOfNums (Lib.encodeRuneZ r)) = some (-1)) (hb2 : utf_Bad.f 3000 (strOfNums (Lib.encodeRuneZ r)) = some (-1)) (u : Int) (hu1 : utf_Unit.f 9 r = some u) (hu2 : riffleref02_Unit.f 9 r = some u) :
    Calls Try.prog 11 #[.slice a l.length cap, .int .i32 r] w fun e w' => e = .returned (.bool true) ∧ Below w.heap.size w w' := by
  obtain ⟨i0, hi, hz0, hz1, hz2⟩ := info_parts byte_info
  have HL := Aside0.mk (reads_int hl hA)
  have HB1 := Aside0.mk hb1
  have HB2 := Aside0.mk hb2
  have HU1 := Aside0.mk hu1
  have HU2 := Aside0.mk hu2
  clear hl hA hb1 hb2 hu1 hu2
  go_enter Try.func11, Try.ntmps11
  go_wp2_with fail
  refine (rifflelaw02_utfAlive.calls 3000 true _ alive_so).mono ?_
  rintro e w1 ⟨rfl, hb⟩
  have HB := Aside0.mk hb
  clear hb
  by_cases hbig : (200 : Int) < (l.length : Int)
  · go_wp2_with fail
    go_ret
    exact ⟨rfl, HB.out⟩
  have z1 : decide ((200 : Int) < (l.length : Int)) = false := decide_eq_false hbig
  have hs : l.length ≤ 200 := by omega
  clear hbig
  go_wp2_with (at_builtin; refine Cells.wpList_append_any _ rfl (.tmp 13) (.tmp 14) 55 rfl w.heap.size 5 i0 (.int .u8 0) 1 1 Try.underlying55 hi hz0 hz1 hz2 rfl (by decide) (.slice (some ⟨w1.heap.size, 0, none⟩) 0 0) 0 (nums .u8 []) rfl (own_empty w1 w.heap.size HB.out.size) w.heap.size a l.length cap (nums .u8 l) rfl ((HL.out.below HB.out).alloc HB.out.size _) (by intro u hu; simp [nums] at hu; obtain ⟨x, _, rfl⟩ := hu; rfl) (by unfold maxLen; omega) (by omega) (by have := HB.out.size; simp; omega) ?_)
  intro v5 w2 hown hg hat
  have hown2 : w2.ownsRow w.heap.size 5 1 v5 l.length (nums .u8 l) := by simpa [nums] using hown
  have HB2w : Aside0 (Below w.heap.size w w2) := ⟨(below_alloc HB.out _).grown hg (by have := HB.out.size; simp; omega) (by intro k hk; simp [Value.ownBlock] at hk; have := HB.out.size; omega)⟩
  obtain ⟨A5, c5, rfl, hc1, hc2, hF⟩ := own_full hown2
  have HF := Aside0.mk hF
  have hsl : ∀ W : World, (Instr.sliceAt 55 (.slice A5 l.length c5) none (some (.int .i64 l.length)) (some (.int .i64 l.length))).run Try.prog W = .ok (.slice A5 l.length l.length) W := by
    intro W
    have hx : A5.map (fun b => b.add (0 * 1)) = A5 := by cases A5 <;> simp [Addr.add]
    simp [Instr.sliceAt, Instr.slice, Instr.sliceBounds, Instr.sliceBound, asIntOf, run_underlying Try.underlying55, go_sem, hc1, sizeOf, typeInfo, hi, hz1]
  clear hown hg hat hF hown2
  go_wp2_with fail
  refine (put_calls A5 l.length _ r h0 h1 w2 HF.out (by omega)).mono ?_
  rintro e w3 ⟨v6, rfl, ho6, hb⟩
  have HO6 := Aside0.mk ho6
  have HB3 := Aside0.mk (below_step HB2w.out hb)
  clear ho6 hb HF hsl
  have c0 := hs
  have hRn : (Lib.runeCells r) = nums .u8 (Lib.encodeRuneZ r) := rfl
  have hRl := Lib.encodeRuneZ_length r
  have HO6' : Aside0 (w3.ownsRow w2.heap.size 5 1 v6 (l ++ Lib.encodeRuneZ r).length (nums .u8 (l ++ Lib.encodeRuneZ r))) := ⟨by have := HO6.out; rw [hRn] at this; simpa [nums] using this⟩
  have HOf := Aside0.mk (PutsPure.of_eq 8 r)
  have HLen := Aside0.mk hRl
  clear HO6 hRn hRl
  go_wp2_with (at_builtin; refine Cells.wpList_append_any _ rfl (.tmp 24) (.tmp 25) 55 rfl w.heap.size 5 i0 (.int .u8 0) 1 1 Try.underlying55 hi hz0 hz1 hz2 rfl (by decide) (.slice (some ⟨w3.heap.size, 0, none⟩) 0 0) 0 (nums .u8 []) rfl (own_empty w3 w.heap.size HB3.out.size) w.heap.size a l.length cap (nums .u8 l) rfl ((HL.out.below HB3.out).alloc HB3.out.size _) (by intro u hu; simp [nums] at hu; obtain ⟨x, _, rfl⟩ := hu; rfl) (by unfold maxLen; omega) (by omega) (by have := HB3.out.size; simp; omega) ?_)
  intro v26 w4 hown hg hat
  have hown4 : w4.ownsRow w.heap.size 5 1 v26 l.length (nums .u8 l) := by simpa [nums] using hown
  have hb34 : Below w3.heap.size w3 w4 := (below_alloc (Below.refl _ _) _).grown hg (by simp) (by intro k hk; simp [Value.ownBlock] at hk; omega)
  have HB4 : Aside0 (Below w.heap.size w w4) := ⟨below_step HB3.out hb34⟩
  have h26 : ∀ k, v26.ownBlock = some k → w3.heap.size ≤ k := by
    intro k hk
    rcases hat with e | e <;> rw [e] at hk <;> simp [Value.ownBlock] at hk <;> omega
  have h6 : ∀ k, v6.ownBlock = some k → k < w3.heap.size := own_lt HO6'.out
  have hne6 : v6.ownBlock = none ∨ v6.ownBlock ≠ v26.ownBlock := by
    cases hv : v6.ownBlock with
    | none => exact .inl rfl
    | some k =>
      refine .inr fun e => ?_
      have h1 := h6 k hv
      have h2 := h26 k e.symm
      omega
  have HNE := Aside0.mk hne6
  clear h26 h6 hne6
  have HO6 := Aside0.mk (pw_own_below HO6'.out hb34)
  have HO4 := Aside0.mk hown4
  clear hown hg hat hown4 hb34 HO6'
  go_wp2_with fail
  refine (riffleref02_Of.calls 9 r _ w4 HOf.out).mono ?_
  rintro e w5 ⟨v29, rfl, hR, hb⟩
  have HR := Aside0.mk hR
  have HB5 := Aside0.mk (below_step HB4.out hb)
  replace HO6 := Aside0.mk (pw_own_below HO6.out hb)
  replace HO4 := Aside0.mk (pw_own_below HO4.out hb)
  clear hb hR HB4
  obtain ⟨A29, c29, rfl, hr29, _⟩ := src_of_R HR.out
  have HR29 := Aside0.mk hr29
  have hlen1 := HLen.out
  clear hr29 HR
  go_wp2_with (at_builtin; refine Cells.wpList_append_any _ rfl (.tmp 26) (.tmp 29) 55 rfl w.heap.size 5 i0 (.int .u8 0) 1 1 Try.underlying55 hi hz0 hz1 hz2 rfl (by decide) v26 l.length (nums .u8 l) rfl HO4.out w5.heap.size A29 _ c29 (nums .u8 (Lib.encodeRuneZ r)) rfl HR29.out (by intro u hu; simp [nums] at hu; obtain ⟨x, _, rfl⟩ := hu; rfl) (by unfold maxLen; omega) (by omega) HB5.out.size ?_)
  intro v7 w6 hown hg hat
  have hown6 : w6.ownsRow w.heap.size 5 1 v7 (l ++ Lib.encodeRuneZ r).length (nums .u8 (l ++ Lib.encodeRuneZ r)) := by simpa [nums] using hown
  have HB6 : Aside0 (Below w.heap.size w w6) := ⟨HB5.out.grown hg HB5.out.size (fun k hk => own_base HO4.out k hk)⟩
  have hO66 : w6.ownsRow w2.heap.size 5 1 v6 (l ++ Lib.encodeRuneZ r).length (nums .u8 (l ++ Lib.encodeRuneZ r)) := own_other HO6.out hg HNE.out
  have hc6 : (convert 55 9 v6).run Try.prog w6 = .ok (.string (strOfNums (l ++ Lib.encodeRuneZ r))) w6 := own_string Try.underlying55 Try.underlying5 Try.underlying9 hO66
  have hc7 : (convert 55 9 v7).run Try.prog w6 = .ok (.string (strOfNums (l ++ Lib.encodeRuneZ r))) w6 := own_string Try.underlying55 Try.underlying5 Try.underlying9 hown6
  have HO66 := Aside0.mk hO66
  clear hown hg hat hown6 HO6 HO4 HR29 hO66 hlen1
  generalize hS : strOfNums (l ++ Lib.encodeRuneZ r) = S at *
  clear hS
  go_wp2_with fail
  clear hc6 hc7
  refine (riffleref02_Of.calls 9 r _ w6 HOf.out).mono ?_
  rintro e w7 ⟨v39, rfl, hR, hb⟩
  obtain ⟨A39, c39, rfl, _, hrd⟩ := src_of_R hR
  have hc39 : (convert 55 9 (.slice A39 (Lib.encodeRuneZ r).length c39)).run Try.prog w7 = .ok (.string (strOfNums (Lib.encodeRuneZ r))) w7 := string_of_reads Try.underlying55 Try.underlying5 Try.underlying9 hrd
  have HB7 := Aside0.mk (below_step HB6.out hb)
  replace HO66 := Aside0.mk (pw_own_below HO66.out hb)
  clear hb hR hrd
  go_wp2_with fail
  clear hc39
  refine (riffleref02_Bad.calls 3000 _ (-1) _ HB1.out).mono ?_
  rintro e w8 ⟨rfl, hb⟩
  have HB8 := Aside0.mk (below_step HB7.out hb)
  replace HO66 := Aside0.mk (pw_own_below HO66.out hb)
  clear hb HB7
  obtain ⟨A6, c6, rfl, hc6, hc6m, _⟩ := own_full HO66.out
  have hrd := own_reads' HO66.out
  have hm : (l ++ Lib.encodeRuneZ r).length = l.length + (Lib.encodeRuneZ r).length := List.length_append
  have hsl : ∀ W : World, (Instr.sliceAt 55 (.slice A6 (l ++ Lib.encodeRuneZ r).length c6) (some (.int .i64 (l.length : Int))) none none).run Try.prog W = .ok (.slice (if c6 = l.length then A6 else A6.map (fun b => b.add l.length)) ((l ++ Lib.encodeRuneZ r).length - l.length) (c6 - l.length)) W := by
    intro W
    have h1 : l.length ≤ (l ++ Lib.encodeRuneZ r).length := by omega
    have h2 : (0 : Int) ≤ (l.length : Int) ∧ (l.length : Int) ≤ ((l ++ Lib.encodeRuneZ r).length : Int) := ⟨by omega, by omega⟩
    simp [Instr.sliceAt, Instr.slice, Instr.sliceBounds, Instr.sliceBound, asIntOf, run_underlying Try.underlying55, go_sem, sizeOf, typeInfo, hi, hz1]
  have hdrop := hrd.drop_ l.length (by omega) hc6
  rw [List.drop_left] at hdrop
  have hcv := string_of_reads (c := c6 - l.length) Try.underlying55 Try.underlying5 Try.underlying9 hdrop
  have HCV := Aside0.mk hcv
  have HSL := Aside0.mk hsl
  clear hcv hsl hdrop hrd hm hc6 hc6m HO66
  generalize (l ++ Lib.encodeRuneZ r).length = m at *
  generalize (if c6 = l.length then A6 else A6.map (fun b => b.add l.length)) = A7 at *
  generalize m - l.length = m7 at *
  generalize c6 - l.length = c7 at *
  have hcv := HCV.out
  have hsl := HSL.out
  go_wp2_with fail
  clear hcv hsl
  refine (utf_Bad.calls 3000 _ (-1) _ HB2.out).mono ?_
  rintro e w9 ⟨rfl, hb⟩
  have HB9 := Aside0.mk (below_step HB8.out hb)
  clear hb HB8
  go_wp2_with fail
  refine (utf_Unit.calls 9 r u _ HU1.out).mono ?_
  rintro e w10 ⟨rfl, ⟨nd, rfl⟩⟩
  go_wp2_with fail
  refine (riffleref02_Unit.calls 9 r u _ HU2.out).mono ?_
  rintro e w11 ⟨rfl, ⟨nd2, rfl⟩⟩
  go_wp2_with fail
  go_ret
  exact ⟨by first | rfl | (simp; done), pw_below_drewN HB9.out _⟩
theorem law_walk (a : Option Addr) (len cap : Nat) (zs : List Int) (n : Int) (w : World)
    (hrow : (a = none ∧ len = 0 ∧ cap = 0 ∧ zs = []) ∨ ∃ x, a = some x ∧ len ≤ cap ∧ cap ≤ maxLen ∧ zs.length = cap ∧ (∀ i, i < zs.length → w.cell? (x.add i) = some (.int .u8 (zs.getD i 0))) ∧ ∀ n ∈ zs, (Lit.int .u8 n).wf = true)
    (_ : len * 1 ≤ 140737488351232) (wn : (Lit.int .i32 n).wf = true) :
    Calls Try.prog 11 #[.slice a len cap, .int .i32 n] w fun e w' => e = .returned (.bool true) ∧ Below w.heap.size w w' := by
  obtain ⟨l, rfl, hl, _, _⟩ := ReadsInt.ofRow hrow
  have hA : ∀ ad, a = some ad → 0 < l.length → ad.block < w.heap.size := by
    intro ad e h0
    obtain ⟨ad', e', hc⟩ := hl.2.2 h0
    rw [e] at e'
    injection e' with e'
    subst e'
    have := World.block_lt_of_cell? w _ (hc 0 h0)
    rwa [Cells.block_of_add] at this
  have hw : -2147483648 ≤ n ∧ n ≤ 2147483647 := by
    simp [Lit.wf, IntKind.min, IntKind.max, IntKind.signed, IntKind.bits] at wn
    omega
  obtain ⟨u, hu1, hu2⟩ := PutsPure.unit_eq 8 n
  obtain ⟨hb1, hb2⟩ := PutsPure.bads_ok n
  exact puts_walk a l cap n hw.1 hw.2 w hl hA hb1 hb2 u hu1 hu2
end Go.Proofs.Ytjfoppmpiklfiab.PutsW
