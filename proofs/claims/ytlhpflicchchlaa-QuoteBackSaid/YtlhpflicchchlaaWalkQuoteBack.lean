/- The walk of the law QuoteBack over the contracts of what it calls. Conditions: none. -/
import Derived.Test.YtlhpflicchchlaaRB2
import Derived.Test.YtlhpflicchchlaaWalkQuotePuts
namespace Go.Proofs.Ytlhpflicchchlaa.WalkQuoteBack
open Go.RowKit Go.Proofs.YtlhpflicchchlaaW.PrintWords Go.Proofs.YtlhpflicchchlaaW.PrintLast Go.Proofs.YtlhpflicchchlaaW.PrintMore
open Go.Proofs.Ytlhpflicchchlaa.QW Go.Proofs.Ytlhpflicchchlaa.Num Go.Proofs.Ytlhpflicchchlaa.Bld Go.Proofs.Ytlhpflicchchlaa.RB
attribute [local go_sem] max2_int min2_int max_two min_two max_three min_three max_four min_four
set_option linter.unusedVariables false
set_option linter.unusedSimpArgs false
theorem runeOut_le (r : Nat) : (runeOut r).length ≤ 6 := by
  unfold runeOut
  split
  · have := enc_len r; omega
  · exact escOf_le _
theorem putFrom_le (s : ByteArray) : ∀ (f pos : Nat), (putFrom s f pos).length ≤ 6 * f
  | 0, _ => by simp [putFrom]
  | f + 1, pos => by
    unfold putFrom
    split
    · have := putFrom_le s f (pos + (Utf8.decode s pos).2)
      have := runeOut_le (Utf8.decode s pos).1
      rw [List.length_append]; omega
    · simp
theorem putOf_le (s : ByteArray) : (putOf s).length ≤ 6 * s.size + 2 := by
  have := putFrom_le s s.size 0
  unfold putOf; simp; omega
theorem textFrom_le (s : ByteArray) : ∀ (f pos : Nat), (textFrom s f pos).length ≤ 4 * f
  | 0, _ => by simp [textFrom]
  | f + 1, pos => by
    unfold textFrom
    split
    · have := textFrom_le s f (pos + (Utf8.decode s pos).2)
      have := enc_len (Utf8.decode s pos).1
      rw [List.length_append]; omega
    · simp
theorem qread_len : ∀ (l : List Int) (q : QS) (i : Nat), GQ q i → (∀ c ∈ l, 0 ≤ c ∧ c < 256) → (qread q l i).1.length ≤ 4 * (i + l.length)
  | [], q, i, h, _ => by simp [qread]
  | c :: r, q, i, h, hl => by
    have hc := hl c (by simp)
    have hg := qstep_good h c hc.1 hc.2
    simp only [qread]
    split
    · have := qread_len r (qstep q c).1 (i + 1) hg (fun x hx => hl x (by simp [hx]))
      simp only [List.length_cons]; omega
    split
    · have := hg.len; simp only [List.length_cons]; omega
    · simp
structure PutFacts (s p : ByteArray) : Prop where
  two : 2 ≤ p.size
  top : p.size ≤ 6 * s.size + 2
  mark : ∀ h : 0 < p.size, ((p[0]'h).toNat : Int) = 34
  read : qread q0 (L (p.extract 1 p.size)) 0 = (textOf s, p.size - 1, 1)
theorem put_facts (s : ByteArray) : PutFacts s ⟨(putOf s).toArray⟩ := by
  have hsz : (⟨(putOf s).toArray⟩ : ByteArray).size = (putOf s).length := by simp [ByteArray.size]
  refine ⟨by rw [hsz]; simp [putOf], by rw [hsz]; exact putOf_le s, fun h => rfl, ?_⟩
  have hL : L ((⟨(putOf s).toArray⟩ : ByteArray).extract 1 (⟨(putOf s).toArray⟩ : ByteArray).size) = ints ((putOf s).drop 1) := by
    rw [ext_L]
    simp [L, ints]
  rw [hL, read_put, hsz]
theorem text_back (s : ByteArray) (h : okL s.size (L s) = true) : (⟨(textOf s).toArray⟩ : ByteArray) = s := by
  rw [text_ok s h]
set_option maxHeartbeats 32000000 in
set_option maxRecDepth 100000 in
theorem walk (s raw : ByteArray) (_ : s.size ≤ 140737488351232) (_ : raw.size ≤ 140737488351232) (w : World) : Calls Try.prog 6 #[.string s, .string raw] w fun e w' => e = .returned (.bool true) ∧ Below w.heap.size w w' := by
  have HAL := Aside0.mk WalkQuotePuts.alive
  go_enter Try.func6, Try.ntmps6
  go_wp2_with (fail)
  go_at_call 14
  refine (HAL.out _).mono ?_
  rintro e w2 ⟨rfl, hb⟩
  have HB1 := Aside0.mk hb
  clear hb
  by_cases hbig : (1000 : Int) < (s.size : Int)
  · have z1 : decide ((1000 : Int) < (s.size : Int)) = true := decide_eq_true hbig
    have z2 : decide (1000 < s.size) = true := decide_eq_true (by omega)
    clear hbig
    go_wp2_with (fail)
    go_ret
    exact ⟨rfl, HB1.out⟩
  have z1 : decide ((1000 : Int) < (s.size : Int)) = false := decide_eq_false hbig
  have z2 : decide (1000 < s.size) = false := decide_eq_false (by omega)
  by_cases hbig2 : (1000 : Int) < (raw.size : Int)
  · have z3 : decide ((1000 : Int) < (raw.size : Int)) = true := decide_eq_true hbig2
    have z4 : decide (1000 < raw.size) = true := decide_eq_true (by omega)
    clear hbig hbig2
    go_wp2_with (fail)
    go_ret
    exact ⟨rfl, HB1.out⟩
  have z3 : decide ((1000 : Int) < (raw.size : Int)) = false := decide_eq_false hbig2
  have z4 : decide (1000 < raw.size) = false := decide_eq_false (by omega)
  -- the first text
  have hpf := put_facts s
  have hcp := fun W => put_calls s W (by omega)
  obtain ⟨p, hp⟩ : ∃ p : ByteArray, p = ⟨(putOf s).toArray⟩ := ⟨_, rfl⟩
  rw [← hp] at hpf
  simp only [← hp] at hcp
  have hle : p.size ≤ 6002 := by have := hpf.top; omega
  have hcr := fun W => read_calls (p.extract 1 p.size) (by rw [ByteArray.size_extract]; omega) _ _ _ hpf.read W
  obtain ⟨r, hr, hbs⟩ := bad_calls s (by omega) w
  have hbs' := fun W => (bad_calls s (by omega) W)
  have htl : (textOf s).length ≤ 4000 := by have := textFrom_le s s.size 0; unfold textOf; omega
  obtain ⟨rs, hrs⟩ := text_enc s s.size 0
  have hbt : ∀ W, Calls Try.prog 18 #[.string ⟨(textOf s).toArray⟩] W fun e w' => e = .returned (.int .i64 (-1)) ∧ Below W.heap.size W w' := by
    intro W
    obtain ⟨r2, h2, h3⟩ := bad_calls ⟨(textOf s).toArray⟩ (by simp [ByteArray.size]; omega) W
    have h4 : r2 = -1 := h2.2 (ok_text rs (textOf s) hrs)
    rw [h4] at h3
    exact h3
  have hbs2 : ∀ W, ∃ r : Int, (r = -1 ↔ okL s.size (L s) = true) ∧ Calls Try.prog 18 #[.string s] W fun e w' => e = .returned (.int .i64 r) ∧ Below W.heap.size W w' := hbs'
  have hts := text_back s
  obtain ⟨tt, htt⟩ : ∃ t : ByteArray, t = ⟨(textOf s).toArray⟩ := ⟨_, rfl⟩
  rw [← htt] at hts
  simp only [← htt] at hcr hbt
  -- the second text
  have hrng := L_range raw
  have htell := qread_tells (L raw) q0 0 ⟨[], rfl⟩ hrng
  have hulen := qread_len (L raw) q0 0 good0 hrng
  obtain ⟨⟨u, m, j⟩, hq⟩ : ∃ x, qread q0 (L raw) 0 = x := ⟨_, rfl⟩
  have hcraw := fun W => read_calls raw (by omega) u m j hq W
  rw [hq] at htell hulen
  simp only at htell hulen
  rw [L_len] at htell hulen
  have hul : u.length ≤ 4000 := by omega
  have hml : m ≤ raw.size := by omega
  obtain ⟨uu, huu⟩ : ∃ t : ByteArray, t = ⟨u.toArray⟩ := ⟨_, rfl⟩
  have huul : uu.size ≤ 4000 := by rw [huu]; simp [ByteArray.size]; omega
  obtain ⟨rs2, hrs2⟩ := htell.1
  have huok : okL uu.size (L uu) = true := by rw [huu]; exact ok_text rs2 u hrs2
  have huback := text_back uu huok
  have hunil := htell.2.2
  have hpf2 := put_facts uu
  have hcp2 := fun W => put_calls uu W (by omega)
  obtain ⟨p2, hp2⟩ : ∃ p : ByteArray, p = ⟨(putOf uu).toArray⟩ := ⟨_, rfl⟩
  rw [← hp2] at hpf2
  simp only [← hp2] at hcp2
  have hle2 : p2.size ≤ 24002 := by have := hpf2.top; omega
  have hcr2 := fun W => read_calls (p2.extract 1 p2.size) (by rw [ByteArray.size_extract]; omega) _ _ _ hpf2.read W
  simp only [huback] at hcr2
  have hbu : ∀ W, Calls Try.prog 18 #[.string uu] W fun e w' => e = .returned (.int .i64 (-1)) ∧ Below W.heap.size W w' := by
    intro W
    obtain ⟨r2, h2, h3⟩ := bad_calls uu (by omega) W
    have h4 : r2 = -1 := h2.2 huok
    rw [h4] at h3
    exact h3
  simp only [← huu] at hcraw
  -- facts for the walk
  have x1 : decide ((p.size : Int) < 2) = false := by have := hpf.two; simp; omega
  have x1n : decide (p.size < 2) = false := by have := hpf.two; simp; omega
  have x2 := hpf.mark
  have x3 : (1 : Int) ≤ (p.size : Int) := by have := hpf.two; omega
  have x3n : 1 ≤ p.size := by have := hpf.two; omega
  have x4 : (0 : Int) < (p.size : Int) := by have := hpf.two; omega
  have x4n := eq_true (show 0 < p.size by omega)
  have x5 : wrap64 ((p.size : Int) - 1) = ((p.size - 1 : Nat) : Int) := by have := hpf.two; unfold wrap64; omega
  have x6 : (1 : Int) ≤ (p2.size : Int) := by have := hpf2.two; omega
  have x6n : 1 ≤ p2.size := by have := hpf2.two; omega
  have x7 : decide ((m : Int) ≤ (raw.size : Int)) = true := by simp; omega
  have x7n : decide (m ≤ raw.size) = true := by simp; omega
  obtain ⟨n1, hn1⟩ : ∃ n1, n1 = p.size - 1 := ⟨_, rfl⟩
  simp only [← hn1] at hcr x5
  obtain ⟨n2, hn2⟩ : ∃ n2, n2 = p2.size - 1 := ⟨_, rfl⟩
  simp only [← hn2] at hcr2
  have HCP := Aside0.mk hcp
  have HCR := Aside0.mk hcr
  have HBT := Aside0.mk hbt
  have HBS := Aside0.mk hbs2
  have HTS := Aside0.mk hts
  have HRAW := Aside0.mk hcraw
  have HNIL := Aside0.mk hunil
  have HUU := Aside0.mk huu
  have HCP2 := Aside0.mk hcp2
  have HCR2 := Aside0.mk hcr2
  have HBU := Aside0.mk hbu
  clear hbig hbig2 hpf hcp hp hle hcr hr hbs hbs' htl hrs hbt hbs2 hts htt hrng htell hulen hq hcraw hul hml huu huul hrs2 huok huback hunil hpf2 hcp2 hp2 hle2 hcr2 hbu hn1 hn2
  go_wp2_with (fail)
  go_at_call 15
  refine (HCP.out _).mono ?_
  rintro e w3 ⟨rfl, hb⟩
  have HB2 := Aside0.mk (below_step HB1.out hb)
  clear hb
  go_wp2_with (fail)
  go_at_call 17
  refine (HCR.out _).mono ?_
  rintro e w4 ⟨rfl, hb⟩
  have HB3 := Aside0.mk (below_step HB2.out hb)
  clear hb
  obtain ⟨rb, hrb, hcb⟩ := HBS.out w4
  have HRB := Aside0.mk hrb
  have HCB := Aside0.mk hcb
  clear hrb hcb
  by_cases hrb1 : rb = -1
  · subst hrb1
    have hts := HTS.out (HRB.out.1 rfl)
    subst hts
    go_wp2_with (fail)
    go_at_call 18
    refine HCB.out.mono ?_
    rintro e w5 ⟨rfl, hb⟩
    have HB4 := Aside0.mk (below_step HB3.out hb)
    clear hb
    go_wp2_with (fail)
    go_at_call 18
    refine (HBT.out _).mono ?_
    rintro e w6 ⟨rfl, hb⟩
    have HB5 := Aside0.mk (below_step HB4.out hb)
    clear hb
    go_wp2_with (fail)
    go_at_call 17
    refine (HRAW.out _).mono ?_
    rintro e w7 ⟨rfl, hb⟩
    have HB6 := Aside0.mk (below_step HB5.out hb)
    clear hb
    by_cases j1 : j = 1
    · subst j1
      go_wp2_with (fail)
      go_at_call 15
      refine (HCP2.out _).mono ?_
      rintro e w8 ⟨rfl, hb⟩
      have HB7 := Aside0.mk (below_step HB6.out hb)
      clear hb
      go_wp2_with (fail)
      go_at_call 17
      refine (HCR2.out _).mono ?_
      rintro e w9 ⟨rfl, hb⟩
      have HB8 := Aside0.mk (below_step HB7.out hb)
      clear hb
      go_wp2_with (fail)
      go_at_call 18
      refine (HBU.out _).mono ?_
      rintro e w10 ⟨rfl, hb⟩
      have HB9 := Aside0.mk (below_step HB8.out hb)
      clear hb
      go_wp2_with (fail)
      go_ret
      exact ⟨by first | rfl | simp, HB9.out⟩
    · have j2 : (j == 1) = false := by simp; exact j1
      have j3 : decide (j = 1) = false := by simp; exact j1
      have j4 : (j != 1) = true := by simp; exact j1
      have hu0 : uu = ⟨#[]⟩ := by rw [HUU.out, HNIL.out j1]
      subst hu0
      clear j1
      go_wp2_with (fail)
      go_ret
      exact ⟨by first | rfl | simp, HB6.out⟩
  · have k1 : (rb == -1) = false := by simp; exact hrb1
    have k2 : decide (rb = -1) = false := by simp; exact hrb1
    clear hrb1
    go_wp2_with (fail)
    go_at_call 18
    refine HCB.out.mono ?_
    rintro e w5 ⟨rfl, hb⟩
    have HB4 := Aside0.mk (below_step HB3.out hb)
    clear hb
    go_wp2_with (fail)
    go_at_call 18
    refine (HBT.out _).mono ?_
    rintro e w6 ⟨rfl, hb⟩
    have HB5 := Aside0.mk (below_step HB4.out hb)
    clear hb
    go_wp2_with (fail)
    go_at_call 17
    refine (HRAW.out _).mono ?_
    rintro e w7 ⟨rfl, hb⟩
    have HB6 := Aside0.mk (below_step HB5.out hb)
    clear hb
    by_cases j1 : j = 1
    · subst j1
      go_wp2_with (fail)
      go_at_call 15
      refine (HCP2.out _).mono ?_
      rintro e w8 ⟨rfl, hb⟩
      have HB7 := Aside0.mk (below_step HB6.out hb)
      clear hb
      go_wp2_with (fail)
      go_at_call 17
      refine (HCR2.out _).mono ?_
      rintro e w9 ⟨rfl, hb⟩
      have HB8 := Aside0.mk (below_step HB7.out hb)
      clear hb
      go_wp2_with (fail)
      go_at_call 18
      refine (HBU.out _).mono ?_
      rintro e w10 ⟨rfl, hb⟩
      have HB9 := Aside0.mk (below_step HB8.out hb)
      clear hb
      go_wp2_with (fail)
      go_ret
      exact ⟨by first | rfl | simp, HB9.out⟩
    · have j2 : (j == 1) = false := by simp; exact j1
      have j3 : decide (j = 1) = false := by simp; exact j1
      have j4 : (j != 1) = true := by simp; exact j1
      have hu0 : uu = ⟨#[]⟩ := by rw [HUU.out, HNIL.out j1]
      subst hu0
      clear j1
      go_wp2_with (fail)
      go_ret
      exact ⟨by first | rfl | simp, HB6.out⟩
end Go.Proofs.Ytlhpflicchchlaa.WalkQuoteBack
