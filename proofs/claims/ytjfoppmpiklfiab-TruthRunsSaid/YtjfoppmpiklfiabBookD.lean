/- Contracts of the book of things: two, And, Or. Conditions: none. -/
import Derived.Test.YtjfoppmpiklfiabBookC
namespace Go.Proofs.Ytjfoppmpiklfiab.BookW
open Go.RowKit Go.Proofs.YtjfoppmpiklfiabW.PrintWords Go.Proofs.YtjfoppmpiklfiabW.PrintLast Go.Proofs.YtjfoppmpiklfiabW.PrintMore Go.Proofs.Ytjfoppmpiklfiab.PTruthRuns Go.Proofs.Ytjfoppmpiklfiab.Truth
set_option linter.unusedVariables false
set_option linter.unusedSimpArgs false
set_option maxHeartbeats 4000000 in
set_option maxRecDepth 100000 in
theorem two_calls (g : Nat) (P : Nat → Prop) (L : List T) (m : Nat) (x y : Int) (w0 w : World) (hI : IsB w0 w g P L) (hf : ∀ k, w.heap.size ≤ k → P k) (hB : Below w0.heap.size w0 w) (hl : L.length < 1000000) (hm : m = 2 ∨ m = 3) (hInv : Inv L) :
    Calls Try.prog 55 #[.pointer (some ⟨g, 0, none⟩), .int .i64 (m : Int), .int .i64 x, .int .i64 y] w fun e w' => e = .returned (.int .i64 (two L m x y).2) ∧ IsB w0 w' g P (two L m x y).1 ∧ Below w0.heap.size w0 w' ∧ KeepB g P w w' := by
  have hvl := valT_le hInv x
  have hul := valT_le hInv y
  by_cases h1 : worth m (valT L x) (valT L y) = 0 ∧ valT L x = 0 ∧ valT L y = 0 ∧ x ≠ y
  · rw [two_n h1.1 h1.2.1 h1.2.2.1 h1.2.2.2]
    exact two_new g P L m x y w0 w hI hf hB hl hm h1.2.1 h1.2.2.1 h1.2.2.2 (fun k => by have := hInv.many k; omega)
  · have HV := Aside0.mk (value_calls g P L x w0 w hI)
    have HU := Aside0.mk (value_calls g P L y w0 w hI)
    have HW := Aside0.mk (worth_calls m (valT L x) (valT L y) hm hvl hul w)
    have hwl := worth_le m (valT L x) (valT L y)
    have HE := Aside0.mk (And.intro hI (And.intro hB (KeepB.refl g P w)))
    obtain ⟨mi, hmi⟩ : ∃ mi : Int, mi = (m : Int) := ⟨_, rfl⟩
    by_cases h2 : worth m (valT L x) (valT L y) = 0
    · by_cases h3 : valT L x = 0
      · have h4 : valT L y ≠ 0 ∨ x = y := by
          by_cases e : valT L y = 0
          · right
            by_cases e2 : x = y
            · exact e2
            · exact absurd ⟨h2, h3, e, e2⟩ h1
          · exact .inl e
        rw [two_x h2 h3 h4]
        rw [← hmi] at HW ⊢
        rw [h2] at HW
        rw [h3] at HV HW
        by_cases h5 : valT L y = 0
        · have h6 : x = y := by
            rcases h4 with h4 | h4
            · exact absurd h5 h4
            · exact h4
          have q0 : (x == y) = true := by simp [h6]
          rw [h5] at HU HW
          clear h1 h2 h3 h4 h5 h6 hI hf hB hl hm hInv hvl hul hwl hmi
          go_enter Try.func55, Try.ntmps55
          go_wp2_with (first | (go_at_call_of 38 (Value.int .i64 x); refine HV.out.mono ?_; rintro e w1 ⟨rfl, rfl⟩) | (go_at_call_of 38 (Value.int .i64 y); refine HU.out.mono ?_; rintro e w1 ⟨rfl, rfl⟩) | (go_at_call 56; refine HW.out.mono ?_; rintro e w1 ⟨rfl, rfl⟩))
          go_ret
          exact ⟨rfl, HE.out⟩
        · obtain ⟨u, hu⟩ : ∃ u : Int, u = (valT L y : Nat) := ⟨_, rfl⟩
          have q1 : (u != 0) = true := by simp; omega
          have q2 : (u == 0) = false := by simp; omega
          rw [← hu] at HU HW
          clear h1 h2 h3 h4 h5 hI hf hB hl hm hInv hvl hul hwl hmi hu
          go_enter Try.func55, Try.ntmps55
          go_wp2_with (first | (go_at_call_of 38 (Value.int .i64 x); refine HV.out.mono ?_; rintro e w1 ⟨rfl, rfl⟩) | (go_at_call_of 38 (Value.int .i64 y); refine HU.out.mono ?_; rintro e w1 ⟨rfl, rfl⟩) | (go_at_call 56; refine HW.out.mono ?_; rintro e w1 ⟨rfl, rfl⟩))
          go_ret
          exact ⟨rfl, HE.out⟩
      · rw [two_y h2 h3]
        rw [← hmi] at HW ⊢
        rw [h2] at HW
        obtain ⟨u, hu⟩ : ∃ u : Int, u = (valT L y : Nat) := ⟨_, rfl⟩
        obtain ⟨v, hv⟩ : ∃ v : Int, v = (valT L x : Nat) := ⟨_, rfl⟩
        have q1 : (v != 0) = true := by simp; omega
        have q2 : (v == 0) = false := by simp; omega
        rw [← hu] at HU HW
        rw [← hv] at HV HW
        clear h1 h2 h3 hI hf hB hl hm hInv hvl hul hwl hmi hu hv
        go_enter Try.func55, Try.ntmps55
        go_wp2_with (first | (go_at_call_of 38 (Value.int .i64 x); refine HV.out.mono ?_; rintro e w1 ⟨rfl, rfl⟩) | (go_at_call_of 38 (Value.int .i64 y); refine HU.out.mono ?_; rintro e w1 ⟨rfl, rfl⟩) | (go_at_call 56; refine HW.out.mono ?_; rintro e w1 ⟨rfl, rfl⟩))
        go_ret
        exact ⟨rfl, HE.out⟩
    · rw [two_one h2]
      have HO := Aside0.mk (own_calls (.pointer (some ⟨g, 0, none⟩)) x (worth m (valT L x) (valT L y)) (by omega) w)
      rw [← hmi] at HW ⊢
      obtain ⟨u, hu⟩ : ∃ u : Int, u = (valT L y : Nat) := ⟨_, rfl⟩
      obtain ⟨v, hv⟩ : ∃ v : Int, v = (valT L x : Nat) := ⟨_, rfl⟩
      obtain ⟨z, hz⟩ : ∃ z : Int, z = ownOf x (worth m (valT L x) (valT L y)) := ⟨_, rfl⟩
      obtain ⟨wo, hwo⟩ : ∃ wo : Int, wo = (worth m (valT L x) (valT L y) : Nat) := ⟨_, rfl⟩
      have q1 : (wo != 0) = true := by simp; omega
      have q2 : (wo == 0) = false := by simp; omega
      rw [← hu] at HU HW
      rw [← hv] at HV HW
      rw [← hwo] at HW HO
      rw [← hz] at HO ⊢
      clear h1 h2 hI hf hB hl hm hInv hvl hul hwl hmi hu hv hz hwo
      go_enter Try.func55, Try.ntmps55
      go_wp2_with (first | (go_at_call_of 38 (Value.int .i64 x); refine HV.out.mono ?_; rintro e w1 ⟨rfl, rfl⟩) | (go_at_call_of 38 (Value.int .i64 y); refine HU.out.mono ?_; rintro e w1 ⟨rfl, rfl⟩) | (go_at_call 56; refine HW.out.mono ?_; rintro e w1 ⟨rfl, rfl⟩) | (go_at_call 60; refine HO.out.mono ?_; rintro e w1 ⟨rfl, rfl⟩))
      go_ret
      exact ⟨rfl, HE.out⟩
theorem and_calls (g : Nat) (P : Nat → Prop) (L : List T) (x y : Int) (w0 w : World) (hI : IsB w0 w g P L) (hf : ∀ k, w.heap.size ≤ k → P k) (hB : Below w0.heap.size w0 w) (hl : L.length < 1000000) (hInv : Inv L) :
    Calls Try.prog 35 #[.pointer (some ⟨g, 0, none⟩), .int .i64 x, .int .i64 y] w fun e w' => e = .returned (.int .i64 (two L 2 x y).2) ∧ IsB w0 w' g P (two L 2 x y).1 ∧ Below w0.heap.size w0 w' ∧ KeepB g P w w' := by
  have H := Aside0.mk (two_calls g P L 2 x y w0 w hI hf hB hl (.inl rfl) hInv)
  clear hI hf hB hl hInv
  go_enter Try.func35, Try.ntmps35
  go_wp2_with (first | (go_at_call 55; refine H.out.mono ?_; rintro e w1 ⟨rfl, hr⟩; have HR := Aside0.mk hr; clear hr))
  go_ret
  exact ⟨rfl, HR.out⟩
theorem drop_one (xs : List Int) (i : Nat) (h : i < xs.length) : xs.drop i = rd xs (i : Int) :: xs.drop (i + 1) := by
  unfold rd
  rw [Int.toNat_natCast, List.getD_eq_getElem?_getD, List.getElem?_eq_getElem h]
  exact List.drop_eq_getElem_cons h
theorem rd_in (xs : List Int) (i : Nat) (h : i < xs.length) : rd xs (i : Int) ∈ xs := by
  unfold rd
  rw [Int.toNat_natCast, List.getD_eq_getElem?_getD, List.getElem?_eq_getElem h]
  exact List.getElem_mem _
theorem F_cell {W : World} {ok : Nat → Prop} {A : Option Addr} {n : Nat} {xs : List Int} (h : Kd.F (Kd.int .i64) W ok A n xs) (z : Int) (h0 : 0 ≤ z) (h1 : z < n) : ∃ ad, A = some ad ∧ W.cell? (ad.add z.toNat) = some (.int .i64 (rd xs z)) := by
  obtain ⟨ad, e, hc⟩ := (Kd.reads_of_C (enc := Value.int .i64) (d := (0 : Int)) (h1 := fun _ => rfl) (Kd.F_now h)).at_ z h0 h1
  exact ⟨ad, e, hc⟩
theorem F_keepB {α : Type} {d : Kd α} {W W' : World} {g : Nat} {P ok : Nat → Prop} {A : Option Addr} {n : Nat} {xs : List α} (h : Kd.F d W ok A n xs) (hk : KeepB g P W W') (hok : ∀ k, ok k → k ≠ g ∧ ¬ P k) : Kd.F d W' ok A n xs :=
  Kd.F_step h (fun k ho hlt => hk.2 k hlt (hok k ho).1 (hok k ho).2)
set_option maxHeartbeats 4000000 in
set_option maxRecDepth 100000 in
theorem or_calls (g : Nat) (P : Nat → Prop) (L : List T) (A : Option Addr) (n c : Nat) (xs : List Int) (w0 w : World) (hI : IsB w0 w g P L) (hf : ∀ k, w.heap.size ≤ k → P k) (hB : Below w0.heap.size w0 w) (hl : L.length + n < 1000000) (hInv : Inv L)
    (hx : Kd.F (Kd.int .i64) w (fun k => k ≠ g ∧ ¬ P k) A n xs) (hid : ∀ x ∈ xs, x < L.length) :
    Calls Try.prog 36 #[.pointer (some ⟨g, 0, none⟩), .slice A n c] w fun e w' => e = .returned (.int .i64 (orAll L 0 xs).2) ∧ IsB w0 w' g P (orAll L 0 xs).1 ∧ Below w0.heap.size w0 w' ∧ KeepB g P w w' := by
  have HN := Aside0.mk (Kd.F_len hx)
  have HX := Aside0.mk hx
  have HF := Aside0.mk hf
  have HI0 := Aside0.mk hI
  have HB0 := Aside0.mk hB
  have HL := Aside0.mk hl
  have HInv := Aside0.mk hInv
  have HId := Aside0.mk hid
  clear hI hf hB hl hInv hx hid
  go_enter Try.func36, Try.ntmps36
  go_wp2_with (first | (go_at_call 31; refine (no_calls _ w).mono ?_; rintro e w1 ⟨rfl, rfl⟩))
  go_loopg [5, 12] n (fun kq v5 v12 w' => ∃ (i : Nat) (out : Int) (L' : List T), Aside0 (kq + i = n) ∧ v5 = .int .i64 out ∧ v12 = .int .i64 (i : Int) ∧ Aside0 (orAll L' out (xs.drop i) = orAll L 0 xs) ∧ Aside0 (Inv L') ∧ Aside0 (out < L'.length) ∧ Aside0 (L.length ≤ L'.length ∧ L'.length ≤ L.length + i) ∧ Aside0 (IsB w0 w' g P L') ∧ Aside0 (Below w0.heap.size w0 w') ∧ Aside0 (KeepB g P w w'))
  case atStart => exact ⟨0, 0, L, ⟨by omega⟩, rfl, rfl, ⟨by simp⟩, HInv, ⟨by have := HInv.out.two_; omega⟩, ⟨by omega⟩, HI0, HB0, ⟨KeepB.refl _ _ _⟩⟩
  case round =>
    obtain ⟨i, out, L', hi, rfl, rfl, hor, hinv, hout, hlen, hI, hB, hK⟩ := hrel
    by_cases c3 : i < n
    · obtain ⟨z, hz⟩ : ∃ z : Int, z = (i : Int) := ⟨_, rfl⟩
      have p0 : 0 ≤ z := by omega
      have p1 : z < (n : Int) := by omega
      obtain ⟨ad, rfl, hcell⟩ := F_cell (F_keepB HX.out hK.out (fun k hk => hk)) z p0 p1
      have hil : i < xs.length := by have := HN.out; omega
      obtain ⟨x, hx⟩ : ∃ x, x = rd xs z := ⟨_, rfl⟩
      have hxs : xs.drop i = x :: xs.drop (i + 1) := by rw [hx, hz]; exact drop_one xs i hil
      have hxl : x < L.length := HId.out x (by rw [hx, hz]; exact rd_in xs i hil)
      have hxl' : x < L'.length := by have := hlen.out; omega
      have htwo := two_inv hinv.out (.inr rfl : (3 : Nat) = 2 ∨ 3 = 3) hout.out hxl'
      have HT := Aside0.mk htwo
      have HNx := Aside0.mk (show orAll (two L' 3 out x).1 (two L' 3 out x).2 (xs.drop (i + 1)) = orAll L 0 xs by have := hor.out; rw [hxs] at this; exact this)
      have hC := two_calls g P L' 3 out x w0 wr hI.out (fun k hk => HF.out k (Nat.le_trans hK.out.1 hk)) hB.out (by have := hlen.out; have := HL.out; omega) (.inr rfl) hinv.out
      have HC := Aside0.mk hC
      have Z1 := Aside0.mk (show z + 1 = ((i + 1 : Nat) : Int) by omega)
      have p2 : z < 1000000 := by have := HL.out; omega
      have C3 := Aside0.mk c3
      have q3 : decide (z < (n : Int)) = true := decide_eq_true p1
      rw [← hx] at hcell
      rw [← hz]
      have P0 := Aside0.mk p0
      have P2 := Aside0.mk p2
      clear htwo hC hxl hxl' hxs hil hz c3 hx p2
      replace p0 := eq_true p0
      replace p1 := eq_true p1
      go_wp2_with (first | (go_at_call 55; refine HC.out.mono ?_; rintro e w5 ⟨rfl, hI5, hB5, hK5⟩; have I5 := Aside0.mk hI5; have B5 := Aside0.mk hB5; have K5 := Aside0.mk (hK.out.trans hK5); clear hI5 hB5 hK5 HC p0 p1 q3 hcell; have p0 := P0.out; have p2 := P2.out))
      go_roundg (n - (i + 1))
      case measure => have := hi.out; have := C3.out; omega
      case rel => exact ⟨i + 1, _, _, ⟨by have := C3.out; omega⟩, rfl, by rw [Z1.out], HNx, ⟨HT.out.1⟩, ⟨HT.out.2.2.2.1⟩, ⟨by have h1 := HT.out.2.1.len; have h2 := HT.out.2.2.2.2; have := hlen.out; omega⟩, I5, B5, K5⟩
    · have hin : i = xs.length := by have := hi.out; have := HN.out; omega
      have q3 : decide ((i : Int) < (n : Int)) = false := by simp; omega
      have ho : orAll L' out [] = orAll L 0 xs := by have := hor.out; rw [hin, List.drop_length] at this; exact this
      have HO := Aside0.mk ho
      obtain ⟨z, hz⟩ : ∃ z : Int, z = (i : Int) := ⟨_, rfl⟩
      rw [← hz] at q3 ⊢
      clear ho c3 hin hz hi
      go_wp2_with fail
      go_ret
      exact ⟨by rw [← HO.out]; rfl, by rw [← HO.out]; exact hI.out, hB.out, hK.out⟩
end Go.Proofs.Ytjfoppmpiklfiab.BookW
