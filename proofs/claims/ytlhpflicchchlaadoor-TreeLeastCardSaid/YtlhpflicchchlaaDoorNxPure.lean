/- What a Nest's events say of the tokens of a text: plain law. Conditions: none. -/
import Derived.Test.YtlhpflicchchlaaDoorNx8
namespace Go.Proofs.YtlhpflicchchlaaDoor.Nx
open Go.RowKit Go.Proofs.YtlhpflicchchlaaDoorW.PrintWords Go.Proofs.YtlhpflicchchlaaDoorW.PrintLast Go.Proofs.YtlhpflicchchlaaDoorW.PrintMore
open Go.Proofs.YtlhpflicchchlaaDoor.LexPure Go.Proofs.YtlhpflicchchlaaDoor.BitsW
set_option linter.unusedVariables false
set_option linter.unusedSimpArgs false
theorem step_begunN {zs : List Int} {x : Nat × Option Nat} {t : Tk} {y : Nat × Option Nat} (hb : t.begun = true) (h : spanStep zs x t = some y) : x.2 = none ∧ x.1 ≤ t.frm ∧ t.to = t.frm ∧ t.frm < zs.length ∧ y = (x.1, some t.frm) := by
  unfold spanStep at h
  rw [if_pos hb] at h
  split at h
  · simp at h
  · rename_i hn
    simp only [not_or] at hn
    obtain ⟨h1, h2, h3, h4⟩ := hn
    exact ⟨by simpa using h1, by omega, by simpa using h3, by omega, (Option.some.inj h).symm⟩
theorem step_endN {zs : List Int} {x : Nat × Option Nat} {t : Tk} {y : Nat × Option Nat} (hb : t.begun = false) (h : spanStep zs x t = some y) : (x.2 = none ∨ x.2 = some t.frm) ∧ x.1 ≤ t.frm ∧ t.frm < t.to ∧ t.to ≤ zs.length ∧ y = (t.to, none) := by
  unfold spanStep at h
  rw [if_neg (by simp [hb])] at h
  split at h
  · simp at h
  · rename_i hn
    simp only [not_or] at hn
    obtain ⟨h1, h2, h3, h4⟩ := hn
    split at h
    · rename_i ha
      refine ⟨?_, by omega, by omega, by omega, (Option.some.inj h).symm⟩
      rcases hx : x.2 with _ | f
      · exact .inl rfl
      · right
        by_cases e : x.2 = some t.frm
        · rw [← hx]; exact e
        · exact absurd ⟨by simp [hx], e⟩ h1
    · simp at h
abbrev Z1 := Bool × Lv
def oEv (z : Z1) : Ev := ⟨1, if z.1 = true then 5 else 4, z.2.frm, 0, z.2.step, ⟨#[]⟩⟩
/-- How many values each open thing has, the innermost first. -/
def cntR : List Z1 → Nat → Nat → List Nat
  | [], k, m0 => [m0 + k]
  | z :: Z, k, m0 => (z.2.many + k) :: cntR Z 1 m0
def scV (k : Int) : Int := if k = 8 then 3 else if k = 9 then 2 else 0
def rootN (s : NS) : Nat := if s.may = 6 then 1 else 0
structure Inv (N M : Nat) (s : NS) (O : List Ev) (C : List Nat) (a : Nat) (o : Option Nat) (Z : List Z1) (sc : List Ev) : Prop where
  stk : s.stk = (Z.map (·.1)).reverse
  lv : s.lv = (Z.map (·.2)).reverse
  op : O = (Z.map oEv).reverse ++ sc
  cn : C = (cntR Z sc.length (rootN s)).reverse ++ sc.map (fun _ => 0)
  non : s.begun = 0 → o = none
  sc0 : s.begun = 0 ∨ s.may = 2 ∨ s.may = 3 → sc = []
  sc1 : s.begun ≠ 0 → s.may ≠ 2 → s.may ≠ 3 → ∃ f, o = some f ∧ sc = [⟨1, scV s.begun, f, 0, stepV s, ⟨#[]⟩⟩]
  bg : s.begun ≠ 0 → s.may = 0 ∨ s.may = 1 ∨ s.may = 2 ∨ s.may = 3
  bk : s.begun ≠ 0 → s.begun = 8 ∨ s.begun = 9 ∨ s.begun = 10
  frm : ∀ z ∈ Z, z.2.frm < a
  many : ∀ z ∈ Z, z.2.many ≤ a
  lo : 0 ≤ s.may
  hi : s.may ≤ 6
  top0 : s.may = 1 → ∃ l Z', Z = (false, l) :: Z'
  top1 : s.may = 2 ∨ s.may = 3 ∨ s.may = 4 → ∃ l Z', Z = (true, l) :: Z'
  top5 : s.may = 5 → Z ≠ []
  six : s.may = 6 → Z = [] ∧ s.begun = 0
  len : Z.length ≤ s.most
  most : s.most = M
  al : a ≤ N
def InvE (N M : Nat) (s : NS) (O : List Ev) (C : List Nat) (y : Nat × Option Nat) : Prop := ∃ Z sc, Inv N M s O C y.1 y.2 Z sc
/-- What the law asks of a token's answer. -/
def Okay (N M : Nat) (O : List Ev) (C : List Nat) (r : NS × List Ev × Int) (y : Nat × Option Nat) : Prop :=
  (r.2.2 ≠ 0 ∧ r.2.1 = []) ∨
  (r.2.2 = 0 ∧ ((r.2.1 = [] ∧ InvE N M r.1 O C y) ∨
   (∃ e C1 c, r.2.1 = [e] ∧ e.kind = 1 ∧ C = C1 ++ [c] ∧ (∀ O1 x, O = O1 ++ [x] → (x.value = 4 → e.step.named = false ∧ e.step.idx = c) ∧ (x.value = 5 → e.step.named = true)) ∧ InvE N M r.1 (O ++ [e]) (C1 ++ [c + 1] ++ [0]) y) ∨
   (∃ e O1 x C1 c, r.2.1 = [e] ∧ e.kind = 2 ∧ O = O1 ++ [x] ∧ C = C1 ++ [c] ∧ x.frm = e.frm ∧ x.step = e.step ∧ (e.value = x.value ∨ e.value = 1) ∧ e.frm < e.til ∧ InvE N M r.1 O1 C1 y)))
theorem okay_bad {N M : Nat} {O : List Ev} {C : List Nat} (s : NS) (k : Int) (hk : k ≠ 0) (y : Nat × Option Nat) : Okay N M O C (badV s k) y := .inl ⟨hk, rfl⟩
theorem cntR_len : ∀ (Z : List Z1) (k m : Nat), (cntR Z k m).length = Z.length + 1
  | [], _, _ => rfl
  | z :: Z, k, m => by simp [cntR, cntR_len Z 1 m]
theorem stepV_cons {s : NS} {b : Bool} {l : Lv} {Z : List Z1} (h1 : s.stk = (((b, l) :: Z).map (·.1)).reverse) (h2 : s.lv = (((b, l) :: Z).map (·.2)).reverse) : stepV s = if b = true then ⟨true, l.nm, 0⟩ else ⟨false, ⟨#[]⟩, l.many⟩ := by
  unfold stepV
  rw [h1, h2]
  simp
  cases b <;> simp
theorem obj_cons {b : Bool} {l : Lv} {Z : List Z1} {k : List Bool} (h1 : k = (((b, l) :: Z).map (·.1)).reverse) : objS k = b := by
  unfold objS
  rw [h1]
  cases b <;> simp
theorem kindL_val (t : ByteArray) (h : (kindL t).2 = true) : (kindL t).1 = 0 ∨ (kindL t).1 = 1 := by
  unfold kindL at h ⊢
  repeat' split
  all_goals simp_all
theorem ended_inv {N M a : Nat} {s : NS} {Z : List Z1} (h1 : s.stk = (Z.map (·.1)).reverse) (h2 : s.lv = (Z.map (·.2)).reverse) (hb : s.begun = 0) (hf : ∀ z ∈ Z, z.2.frm < a) (hm : ∀ z ∈ Z, z.2.many + 1 ≤ a) (hl : Z.length ≤ s.most) (hM : s.most = M) (ha : a ≤ N) : InvE N M (endedV s) (Z.map oEv).reverse (cntR Z 1 0).reverse (a, none) := by
  unfold endedV
  cases Z with
  | nil =>
    have h1 : s.stk = [] := by simpa using h1
    have h2 : s.lv = [] := by simpa using h2
    rw [if_pos h1]
    refine ⟨[], [], ?_⟩
    exact {
      stk := by simpa using h1
      lv := by simpa using h2
      op := rfl
      cn := rfl
      non := fun _ => rfl
      sc0 := fun _ => rfl
      sc1 := fun h => absurd hb h
      bg := fun h => absurd hb h
      bk := fun h => absurd hb h
      frm := fun z hz => by simp at hz
      many := fun z hz => by simp at hz
      lo := by simp
      hi := by simp
      top0 := fun h => by simp at h
      top1 := fun h => by simp at h
      top5 := fun h => by simp at h
      six := fun _ => ⟨rfl, hb⟩
      len := by simp
      most := hM
      al := ha }
  | cons z Z =>
    obtain ⟨b, l⟩ := z
    rw [if_neg (by rw [h1]; simp)]
    refine ⟨(b, { l with many := l.many + 1 }) :: Z, [], ?_⟩
    exact {
      stk := by simpa using h1
      lv := by
        simp only [List.map_cons, List.reverse_cons] at h2 ⊢
        show bump s.lv = _
        rw [h2, bump_snoc]
      op := by simp [oEv]
      cn := by simp [cntR, rootN]
      non := fun _ => rfl
      sc0 := fun _ => rfl
      sc1 := fun h => absurd hb h
      bg := fun h => absurd hb h
      bk := fun h => absurd hb h
      frm := fun z hz => by
        rcases List.mem_cons.1 hz with rfl | hz
        · have := hf _ List.mem_cons_self; simp only at this ⊢; omega
        · exact hf z (List.mem_cons_of_mem _ hz)
      many := fun z hz => by
        rcases List.mem_cons.1 hz with rfl | hz
        · have := hm _ List.mem_cons_self; simp only at this ⊢; omega
        · have := hm z (List.mem_cons_of_mem _ hz); simp only; omega
      lo := by simp
      hi := by simp
      top0 := fun h => by simp at h
      top1 := fun h => by simp at h
      top5 := fun h => by simp
      six := fun h => by simp at h
      len := by simpa using hl
      most := hM
      al := ha }
/-- A scalar, or a name, has begun and now another token comes. -/
theorem behind_okay {N M : Nat} {s : NS} {O : List Ev} {C : List Nat} {a : Nat} {o : Option Nat} {Z : List Z1} {sc : List Ev} (I : Inv N M s O C a o Z sc) {zs : List Int} (hN : zs.length ≤ N) {t : Tk} {y : Nat × Option Nat} (hs : spanStep zs (a, o) t = some y) (hb : s.begun ≠ 0) : Okay N M O C (behindV s t) y := by
  unfold behindV
  by_cases hbad : t.begun = true ∨ t.kind ≠ s.begun ∨ (behK t).2 = false
  · rw [if_pos hbad]
    exact okay_bad _ _ (by decide) _
  rw [if_neg hbad]
  simp only [not_or] at hbad
  obtain ⟨hb1, hb2, hb3⟩ := hbad
  have hb1 : t.begun = false := by simpa using hb1
  have hb2 : t.kind = s.begun := by simpa using hb2
  have hb3 : (behK t).2 = true := by simpa using hb3
  obtain ⟨h1, h2, h3, h4, rfl⟩ := step_endN hb1 hs
  dsimp only at h1 h2
  by_cases hm : s.may = 2 ∨ s.may = 3
  · rw [if_pos hm]
    refine .inr ⟨rfl, .inl ⟨rfl, ?_⟩⟩
    obtain ⟨l, Z', hZ⟩ := I.top1 (by omega)
    have hsc := I.sc0 (.inr hm)
    subst hZ
    subst hsc
    refine ⟨(true, { l with nm := t.text }) :: Z', [], ?_⟩
    exact {
      stk := by simpa using I.stk
      lv := by
        have := I.lv
        simp only [List.map_cons, List.reverse_cons] at this ⊢
        show setNm s.lv t.text = _
        rw [this, setNm_snoc]
      op := by simpa [oEv] using I.op
      cn := by
        have := I.cn
        have e : rootN s = 0 := by unfold rootN; rw [if_neg (by omega)]
        rw [e] at this
        simpa [cntR, rootN] using this
      non := fun _ => rfl
      sc0 := fun _ => rfl
      sc1 := fun h => absurd rfl h
      bg := fun h => absurd rfl h
      bk := fun h => absurd rfl h
      frm := fun z hz => by
        rcases List.mem_cons.1 hz with rfl | hz
        · have := I.frm _ List.mem_cons_self; simp only at this ⊢; omega
        · have := I.frm z (List.mem_cons_of_mem _ hz); simp only; omega
      many := fun z hz => by
        rcases List.mem_cons.1 hz with rfl | hz
        · have := I.many _ List.mem_cons_self; simp only at this ⊢; omega
        · have := I.many z (List.mem_cons_of_mem _ hz); simp only; omega
      lo := by simp
      hi := by simp
      top0 := fun h => by simp at h
      top1 := fun _ => ⟨_, _, rfl⟩
      top5 := fun h => by simp at h
      six := fun h => by simp at h
      len := by simpa using I.len
      most := I.most
      al := by simp only; omega }
  · rw [if_neg hm]
    simp only [not_or] at hm
    obtain ⟨f, ho, hsc⟩ := I.sc1 hb hm.1 hm.2
    have hf : f = t.frm := by
      rcases h1 with e | e
      · rw [ho] at e; cases e
      · rw [ho] at e; exact Option.some.inj e
    subst hf
    have hmay : s.may = 0 ∨ s.may = 1 := by have := I.bg hb; omega
    have hroot : rootN s = 0 := by unfold rootN; rw [if_neg (by omega)]
    refine .inr ⟨rfl, .inr (.inr ⟨_, (Z.map oEv).reverse, ⟨1, scV s.begun, t.frm, 0, stepV s, ⟨#[]⟩⟩, (cntR Z 1 0).reverse, 0, rfl, rfl, ?_, ?_, rfl, rfl, ?_, h3, ?_⟩)⟩
    · rw [I.op, hsc]
    · rw [I.cn, hsc, hroot]; rfl
    · show (behK t).1 = scV s.begun ∨ (behK t).1 = 1
      rw [← hb2]
      unfold behK scV at *
      by_cases k9 : t.kind = 9
      · simp [k9]
      · by_cases k10 : t.kind = 10
        · rw [if_neg k9, if_pos k10] at hb3 ⊢
          rcases kindL_val _ hb3 with e | e
          · left; rw [e]; simp [k10]
          · right; exact e
        · left
          have hk : t.kind = 8 := by have := I.bk hb; omega
          rw [if_neg k9, if_neg k10, if_pos hk]
    · exact ended_inv (s := { s with begun := 0 }) I.stk I.lv rfl (fun z hz => by have := I.frm z hz; omega) (fun z hz => by have := I.many z hz; omega) I.len I.most (by omega)
/-- A token ahead of which nothing has begun. -/
theorem begin_okay {N M : Nat} {s : NS} {O : List Ev} {C : List Nat} {a : Nat} {o : Option Nat} {Z : List Z1} {sc : List Ev} (I : Inv N M s O C a o Z sc) {zs : List Int} (hN : zs.length ≤ N) {t : Tk} {y : Nat × Option Nat} (hs : spanStep zs (a, o) t = some y) (hb : s.begun = 0) (h6 : s.may ≠ 6) (ht : t.begun = true) : Okay N M O C (tbeginV { s with began := true } t (decide (s.may = 0 ∨ s.may = 1))) y := by
  obtain ⟨h1, h2, h3, h4, rfl⟩ := step_begunN ht hs
  dsimp only at h1 h2
  have hsc := I.sc0 (.inl hb)
  subst hsc
  unfold tbeginV
  dsimp only
  by_cases hn : t.kind = 8 ∧ (s.may = 2 ∨ s.may = 3)
  · rw [if_pos hn]
    refine .inr ⟨rfl, .inl ⟨rfl, Z, [], ?_⟩⟩
    exact {
      stk := I.stk
      lv := I.lv
      op := I.op
      cn := I.cn
      non := fun h => by simp at h
      sc0 := fun _ => rfl
      sc1 := fun _ h2 h3 => absurd hn.2 (by simp only at h2 h3; omega)
      bg := fun _ => by simp only; omega
      bk := fun _ => .inl rfl
      frm := I.frm
      many := I.many
      lo := I.lo
      hi := I.hi
      top0 := I.top0
      top1 := I.top1
      top5 := I.top5
      six := fun h => absurd h h6
      len := I.len
      most := I.most
      al := I.al }
  rw [if_neg hn]
  by_cases hbad : decide (s.may = 0 ∨ s.may = 1) = false ∨ t.kind < 8 ∨ t.kind > 10
  · rw [if_pos hbad]
    exact okay_bad _ _ (by decide) _
  rw [if_neg hbad]
  simp only [not_or, decide_eq_false_iff_not, Classical.not_not] at hbad
  obtain ⟨hm, hk1, hk2⟩ := hbad
  have hroot : rootN s = 0 := by unfold rootN; rw [if_neg (by omega)]
  have hcn := I.cn
  rw [hroot] at hcn
  have hop := I.op
  simp only [List.append_nil, List.map_nil, List.length_nil] at hcn hop
  have hstep : stepV { s with began := true } = stepV s := rfl
  obtain ⟨C1, c, hC, hC1, htop⟩ : ∃ C1 c, C = C1 ++ [c] ∧ (cntR Z 1 0).reverse = C1 ++ [c + 1] ∧ (∀ O1 x, O = O1 ++ [x] → (x.value = 4 → (stepV s).named = false ∧ (stepV s).idx = c) ∧ (x.value = 5 → (stepV s).named = true)) := by
    cases Z with
    | nil => exact ⟨[], 0, by simpa [cntR] using hcn, by simp [cntR], fun O1 x hO => by rw [hop] at hO; simp at hO⟩
    | cons z Z =>
      obtain ⟨b, l⟩ := z
      refine ⟨(cntR Z 1 0).reverse, l.many, by simpa [cntR] using hcn, by simp [cntR], fun O1 x hO => ?_⟩
      rw [hop] at hO
      simp only [List.map_cons, List.reverse_cons] at hO
      obtain ⟨_, hx⟩ := List.append_inj' hO rfl
      obtain rfl : oEv (b, l) = x := by simpa using hx
      rw [stepV_cons I.stk I.lv]
      cases b <;> simp [oEv]
  refine .inr ⟨rfl, .inr (.inl ⟨_, C1, c, rfl, rfl, hC, ?_, Z, [⟨1, scV t.kind, t.frm, 0, stepV s, ⟨#[]⟩⟩], ?_⟩)⟩
  · exact htop
  · exact {
      stk := I.stk
      lv := I.lv
      op := by rw [hop]; rfl
      cn := by
        show C1 ++ [c + 1] ++ [0] = (cntR Z 1 (rootN s)).reverse ++ [0]
        rw [hroot, hC1]
      non := fun h => by simp only at h; omega
      sc0 := fun h => by simp only at h; omega
      sc1 := fun _ _ _ => ⟨t.frm, rfl, rfl⟩
      bg := fun _ => by simp only; omega
      bk := fun _ => by simp only; omega
      frm := I.frm
      many := I.many
      lo := I.lo
      hi := I.hi
      top0 := I.top0
      top1 := I.top1
      top5 := I.top5
      six := fun h => absurd h h6
      len := I.len
      most := I.most
      al := I.al }
theorem down_okay {N M : Nat} {s : NS} {O : List Ev} {C : List Nat} {a : Nat} {o : Option Nat} {Z : List Z1} {sc : List Ev} (I : Inv N M s O C a o Z sc) {zs : List Int} (hN : zs.length ≤ N) {t : Tk} {y : Nat × Option Nat} (hs : spanStep zs (a, o) t = some y) (hb : s.begun = 0) (hm : s.may = 0 ∨ s.may = 1) (ht : t.begun = false) (hk : t.kind = 2 ∨ t.kind = 4) : Okay N M O C (downV { s with began := true } t) y := by
  obtain ⟨h1, h2, h3, h4, rfl⟩ := step_endN ht hs
  dsimp only at h1 h2
  have hsc := I.sc0 (.inl hb)
  subst hsc
  unfold downV
  dsimp only
  by_cases hd : s.stk.length = s.most
  · rw [if_pos hd]
    exact okay_bad _ _ (by decide) _
  rw [if_neg hd]
  have hlen : s.stk.length = Z.length := by rw [I.stk]; simp
  have hroot : rootN s = 0 := by unfold rootN; rw [if_neg (by omega)]
  have hcn := I.cn
  rw [hroot] at hcn
  have hop := I.op
  simp only [List.append_nil, List.map_nil, List.length_nil] at hcn hop
  have hstep : stepV { s with began := true } = stepV s := rfl
  obtain ⟨C1, c, hC, hC1, htop⟩ : ∃ C1 c, C = C1 ++ [c] ∧ (cntR Z 1 0).reverse = C1 ++ [c + 1] ∧ (∀ O1 x, O = O1 ++ [x] → (x.value = 4 → (stepV s).named = false ∧ (stepV s).idx = c) ∧ (x.value = 5 → (stepV s).named = true)) := by
    cases Z with
    | nil => exact ⟨[], 0, by simpa [cntR] using hcn, by simp [cntR], fun O1 x hO => by rw [hop] at hO; simp at hO⟩
    | cons z Z =>
      obtain ⟨b, l⟩ := z
      refine ⟨(cntR Z 1 0).reverse, l.many, by simpa [cntR] using hcn, by simp [cntR], fun O1 x hO => ?_⟩
      rw [hop] at hO
      simp only [List.map_cons, List.reverse_cons] at hO
      obtain ⟨_, hx⟩ := List.append_inj' hO rfl
      obtain rfl : oEv (b, l) = x := by simpa using hx
      rw [stepV_cons I.stk I.lv]
      cases b <;> simp [oEv]
  refine .inr ⟨rfl, .inr (.inl ⟨_, C1, c, rfl, rfl, hC, ?_, (decide (t.kind = 4), ⟨t.frm, stepV s, 0, ⟨#[]⟩⟩) :: Z, [], ?_⟩)⟩
  · exact htop
  · exact {
      stk := by simpa using I.stk
      lv := by
        simp only [List.map_cons, List.reverse_cons]
        rw [← I.lv]
        rfl
      op := by
        rw [hop]
        simp [oEv, hstep]
      cn := by
        have e : rootN { s with may := (if t.kind = 4 then 2 else 1), stk := s.stk ++ [decide (t.kind = 4)], lv := s.lv ++ [⟨t.frm, stepV { s with began := true }, 0, ⟨#[]⟩⟩], began := true } = 0 := by
          unfold rootN
          rcases hk with e | e <;> simp [e]
        simp only
        rw [e, ← hC1]
        simp [cntR]
      non := fun _ => rfl
      sc0 := fun _ => rfl
      sc1 := fun h => absurd hb h
      bg := fun h => absurd hb h
      bk := fun h => absurd hb h
      frm := fun z hz => by
        rcases List.mem_cons.1 hz with rfl | hz
        · exact h3
        · have := I.frm z hz; simp only; omega
      many := fun z hz => by
        rcases List.mem_cons.1 hz with rfl | hz
        · simp
        · have := I.many z hz; simp only; omega
      lo := by rcases hk with e | e <;> simp [e]
      hi := by rcases hk with e | e <;> simp [e]
      top0 := fun h => by
        rcases hk with e | e <;> simp [e] at h ⊢
      top1 := fun h => by
        rcases hk with e | e <;> simp [e] at h ⊢
      top5 := fun h => by simp
      six := fun h => by rcases hk with e | e <;> simp [e] at h
      len := by
        have := I.len
        simp only [List.length_cons]
        omega
      most := I.most
      al := by simp only; omega }
theorem up_okay {N M : Nat} {s : NS} {O : List Ev} {C : List Nat} {a : Nat} {o : Option Nat} {b : Bool} {l : Lv} {Z : List Z1} {sc : List Ev} (I : Inv N M s O C a o ((b, l) :: Z) sc) {zs : List Int} (hN : zs.length ≤ N) {t : Tk} {y : Nat × Option Nat} (hs : spanStep zs (a, o) t = some y) (hb : s.begun = 0) (h6 : s.may ≠ 6) (ht : t.begun = false) (k : Int) (hk : k = if b = true then 5 else 4) : Okay N M O C (upV { s with began := true } t k) y := by
  obtain ⟨h1, h2, h3, h4, rfl⟩ := step_endN ht hs
  dsimp only at h1 h2
  have hsc := I.sc0 (.inl hb)
  subst hsc
  have hroot : rootN s = 0 := by unfold rootN; rw [if_neg (by omega)]
  have hcn := I.cn
  rw [hroot] at hcn
  have hop := I.op
  have hlv := I.lv
  have hst := I.stk
  simp only [List.append_nil, List.map_nil, List.length_nil, List.map_cons, List.reverse_cons] at hcn hop hlv hst
  have hv : upV { s with began := true } t k = (endedV { s with began := true, stk := (Z.map (·.1)).reverse, lv := (Z.map (·.2)).reverse }, [⟨2, k, l.frm, t.to, l.step, ⟨#[]⟩⟩], 0) := by
    unfold upV
    simp only [hlv, hst, List.getLast?_append, List.getLast?_singleton, Option.some_or, List.dropLast_concat]
  rw [hv]
  have hfl : l.frm < a := I.frm _ List.mem_cons_self
  refine .inr ⟨rfl, .inr (.inr ⟨_, (Z.map oEv).reverse, oEv (b, l), (cntR Z 1 0).reverse, l.many, rfl, rfl, hop, ?_, rfl, rfl, .inl ?_, ?_, ?_⟩)⟩
  · rw [hcn]; simp [cntR]
  · simpa [oEv] using hk
  · show l.frm < t.to
    omega
  · exact ended_inv (s := { s with began := true, stk := (Z.map (·.1)).reverse, lv := (Z.map (·.2)).reverse }) rfl rfl hb (fun z hz => by have := I.frm z (List.mem_cons_of_mem _ hz); omega) (fun z hz => by have := I.many z (List.mem_cons_of_mem _ hz); omega) (by have := I.len; simp only [List.length_cons] at this; show Z.length ≤ s.most; omega) I.most (by omega)
theorem take_okay {N M : Nat} {s : NS} {O : List Ev} {C : List Nat} {x : Nat × Option Nat} (I : InvE N M s O C x) {zs : List Int} (hN : zs.length ≤ N) {t : Tk} {y : Nat × Option Nat} (hs : spanStep zs x t = some y) : Okay N M O C (takeV s t) y := by
  obtain ⟨Z, sc, I⟩ := I
  obtain ⟨a, o⟩ := x
  dsimp only at I
  unfold takeV
  rw [if_neg (by have := I.hi; omega)]
  by_cases hb : s.begun = 0
  · rw [if_neg (by simpa using hb)]
    by_cases h6 : s.may = 6
    · rw [if_pos h6]
      exact okay_bad _ _ (by decide) _
    rw [if_neg h6]
    unfold takeB
    by_cases ht : t.begun = true
    · rw [if_pos ht]
      exact begin_okay I hN hs hb h6 ht
    have ht' : t.begun = false := by simpa using ht
    rw [if_neg ht]
    dsimp only
    by_cases hd : (s.may = 0 ∨ s.may = 1) ∧ (t.kind = 2 ∨ t.kind = 4)
    · rw [if_pos hd]
      exact down_okay I hN hs hb hd.1 ht' hd.2
    rw [if_neg hd]
    by_cases hu : t.kind = 3 ∧ (s.may = 1 ∨ (s.may = 5 ∧ objS s.stk = false))
    · rw [if_pos hu]
      cases Z with
      | nil =>
        rcases hu.2 with e | e
        · obtain ⟨l, Z', h⟩ := I.top0 e; cases h
        · exact absurd rfl (I.top5 e.1)
      | cons z Z =>
        obtain ⟨b, l⟩ := z
        have hbf : b = false := by
          rcases hu.2 with e | e
          · obtain ⟨l', Z', h⟩ := I.top0 e; cases h; rfl
          · rw [obj_cons I.stk] at e; exact e.2
        subst hbf
        exact up_okay I hN hs hb h6 ht' 4 rfl
    rw [if_neg hu]
    by_cases hv : t.kind = 5 ∧ (s.may = 2 ∨ (s.may = 5 ∧ objS s.stk = true))
    · rw [if_pos hv]
      cases Z with
      | nil =>
        rcases hv.2 with e | e
        · obtain ⟨l, Z', h⟩ := I.top1 (.inl e); cases h
        · exact absurd rfl (I.top5 e.1)
      | cons z Z =>
        obtain ⟨b, l⟩ := z
        have hbf : b = true := by
          rcases hv.2 with e | e
          · obtain ⟨l', Z', h⟩ := I.top1 (.inl e); cases h; rfl
          · rw [obj_cons I.stk] at e; exact e.2
        subst hbf
        exact up_okay I hN hs hb h6 ht' 5 rfl
    rw [if_neg hv]
    obtain ⟨h1, h2, h3, h4, rfl⟩ := step_endN ht' hs
    dsimp only at h1 h2
    have hsc := I.sc0 (.inl hb)
    subst hsc
    have hroot : rootN s = 0 := by unfold rootN; rw [if_neg (by omega)]
    by_cases hc : t.kind = 6 ∧ s.may = 5
    · rw [if_pos hc]
      refine .inr ⟨rfl, .inl ⟨rfl, Z, [], ?_⟩⟩
      have hZ := I.top5 hc.2
      cases Z with
      | nil => exact absurd rfl hZ
      | cons z Z =>
        obtain ⟨b, l⟩ := z
        rw [obj_cons I.stk]
        have hr2 : rootN { s with may := (if b = true then 3 else 0), began := true } = 0 := by unfold rootN; cases b <;> simp
        exact {
          stk := I.stk
          lv := I.lv
          op := I.op
          cn := by rw [hr2, ← hroot]; exact I.cn
          non := fun _ => rfl
          sc0 := fun _ => rfl
          sc1 := fun h => absurd hb h
          bg := fun h => absurd hb h
          bk := fun h => absurd hb h
          frm := fun z hz => by have := I.frm z hz; simp only; omega
          many := fun z hz => by have := I.many z hz; simp only; omega
          lo := by cases b <;> simp
          hi := by cases b <;> simp
          top0 := fun h => by cases b <;> simp at h
          top1 := fun h => by cases b <;> simp at h ⊢
          top5 := fun h => by simp
          six := fun h => by cases b <;> simp at h
          len := I.len
          most := I.most
          al := by simp only; omega }
    rw [if_neg hc]
    by_cases hl : t.kind = 7 ∧ s.may = 4
    · rw [if_pos hl]
      refine .inr ⟨rfl, .inl ⟨rfl, Z, [], ?_⟩⟩
      have hr2 : rootN { s with may := 0, began := true } = 0 := by simp [rootN]
      exact {
          stk := I.stk
          lv := I.lv
          op := I.op
          cn := by rw [hr2, ← hroot]; exact I.cn
          non := fun _ => rfl
          sc0 := fun _ => rfl
          sc1 := fun h => absurd hb h
          bg := fun h => absurd hb h
          bk := fun h => absurd hb h
          frm := fun z hz => by have := I.frm z hz; simp only; omega
          many := fun z hz => by have := I.many z hz; simp only; omega
          lo := by simp
          hi := by simp
          top0 := fun h => by simp at h
          top1 := fun h => by simp at h
          top5 := fun h => by simp at h
          six := fun h => by simp at h
          len := I.len
          most := I.most
          al := by simp only; omega }
    rw [if_neg hl]
    exact okay_bad _ _ (by decide) _
  · rw [if_pos (by simpa using hb)]
    exact behind_okay I hN hs hb
/-- What the walk of Take asks, out of the law's invariant. -/
theorem InvE.good {N M : Nat} {s : NS} {O : List Ev} {C : List Nat} {x : Nat × Option Nat} (I : InvE N M s O C x) (hN : N ≤ 2000) (hM : M ≤ 256) : Good s := by
  obtain ⟨Z, sc, I⟩ := I
  have hl : s.stk.length = Z.length := by rw [I.stk]; simp
  have h1 := I.len
  have h2 := I.most
  have h3 := I.al
  refine ⟨I.lo, by have := I.hi; omega, fun a b hn => ?_, by omega, by omega, fun l hl => ?_⟩
  · have hZ : Z = [] := by rw [hn] at hl; exact List.eq_nil_of_length_eq_zero (by simpa using hl.symm)
    subst hZ
    have : s.may = 1 ∨ (s.may = 2 ∨ s.may = 3 ∨ s.may = 4) ∨ s.may = 5 := by omega
    rcases this with e | e | e
    · obtain ⟨l, Z', h⟩ := I.top0 e; cases h
    · obtain ⟨l, Z', h⟩ := I.top1 e; cases h
    · exact I.top5 e rfl
  · rw [I.lv] at hl
    obtain ⟨z, hz, rfl⟩ := List.mem_map.1 (List.mem_reverse.1 hl)
    have := I.many z hz
    omega
def isCon (e : Ev) : Bool := decide (e.value = 4 ∨ e.value = 5)
theorem InvE.deep {N M : Nat} {s : NS} {O : List Ev} {C : List Nat} {x : Nat × Option Nat} (I : InvE N M s O C x) : O.countP isCon = s.stk.length ∧ s.stk.length ≤ M ∧ O.length ≤ M + 1 ∧ C.length = O.length + 1 ∧ (∀ c ∈ C, c ≤ N + 2) := by
  obtain ⟨Z, sc, I⟩ := I
  have hl : s.stk.length = Z.length := by rw [I.stk]; simp
  have h1 := I.len
  have h2 := I.most
  have h3 := I.al
  have hsc : sc = [] ∨ ∃ e, sc = [e] ∧ isCon e = false := by
    by_cases hb : s.begun = 0 ∨ s.may = 2 ∨ s.may = 3
    · exact .inl (I.sc0 hb)
    · simp only [not_or] at hb
      obtain ⟨f, _, h⟩ := I.sc1 hb.1 hb.2.1 hb.2.2
      refine .inr ⟨_, h, ?_⟩
      unfold isCon scV
      dsimp only
      split
      · decide
      · split <;> decide
  have hz : ∀ Z : List Z1, (Z.map oEv).reverse.countP isCon = Z.length := fun Z => by
    rw [List.countP_reverse]
    induction Z with
    | nil => rfl
    | cons z Z ih =>
      rw [List.map_cons, List.countP_cons_of_pos, ih]
      · rfl
      · unfold isCon oEv
        cases z.1 <;> simp
  have hc : ∀ (Z : List Z1) (k m : Nat), k ≤ 1 → m ≤ 1 → (∀ z ∈ Z, z.2.many ≤ N) → ∀ c ∈ cntR Z k m, c ≤ N + 2 := by
    intro Z
    induction Z with
    | nil =>
      intro k m hk hm _ c hc
      simp only [cntR, List.mem_singleton] at hc
      omega
    | cons z Z ih =>
      intro k m hk hm hz c hc
      rcases List.mem_cons.1 hc with rfl | hc
      · have := hz z List.mem_cons_self
        omega
      · exact ih 1 m (Nat.le_refl _) hm (fun z h => hz z (List.mem_cons_of_mem _ h)) c hc
  refine ⟨?_, by omega, ?_, ?_, ?_⟩
  · rw [I.op, List.countP_append, hz, hl]
    rcases hsc with e | ⟨e, h, h'⟩
    · rw [e]; rfl
    · rw [h]; simp [h']
  · rw [I.op]
    rcases hsc with e | ⟨e, h, h'⟩ <;> simp_all <;> omega
  · rw [I.op, I.cn]
    rcases hsc with e | ⟨e, h, h'⟩ <;> simp_all [cntR_len] <;> omega
  · intro c hcc
    rw [I.cn] at hcc
    rcases List.mem_append.1 hcc with h | h
    · refine hc Z sc.length (rootN s) ?_ ?_ (fun z hz => Nat.le_trans (I.many z hz) I.al) c (List.mem_reverse.1 h)
      · rcases hsc with e | ⟨e, h, _⟩ <;> simp_all
      · unfold rootN; split <;> omega
    · obtain ⟨_, _, rfl⟩ := List.mem_map.1 h
      omega
theorem InvE.fin {N M : Nat} {s : NS} {O : List Ev} {C : List Nat} {x : Nat × Option Nat} (I : InvE N M s O C x) : ∃ c Cr, C = c :: Cr ∧ (s.may = 6 ↔ O = [] ∧ c = 1) := by
  obtain ⟨Z, sc, I⟩ := I
  have hsc : sc = [] ∨ ∃ e, sc = [e] := by
    by_cases hb : s.begun = 0 ∨ s.may = 2 ∨ s.may = 3
    · exact .inl (I.sc0 hb)
    · simp only [not_or] at hb
      obtain ⟨f, _, h⟩ := I.sc1 hb.1 hb.2.1 hb.2.2
      exact .inr ⟨_, h⟩
  have hcons : ∃ c Cr, C = c :: Cr := by
    cases hC : C with
    | nil =>
      have := I.cn
      rw [hC] at this
      have := congrArg List.length this
      simp [cntR_len] at this
      omega
    | cons c Cr => exact ⟨c, Cr, rfl⟩
  obtain ⟨c, Cr, hC⟩ := hcons
  refine ⟨c, Cr, hC, fun h6 => ?_, fun ⟨hO, hc⟩ => ?_⟩
  · obtain ⟨rfl, hb⟩ := I.six h6
    have hs := I.sc0 (.inl hb)
    subst hs
    refine ⟨by simpa using I.op, ?_⟩
    have := I.cn
    rw [hC] at this
    simp [cntR, rootN, h6] at this
    exact this.1
  · have hop := I.op
    rw [hO] at hop
    have hZ : Z = [] := by
      cases Z with
      | nil => rfl
      | cons z Z => simp at hop
    subst hZ
    have hs : sc = [] := by simpa using hop
    subst hs
    have := I.cn
    rw [hC, hc] at this
    simp [cntR, rootN] at this
    exact this.1
theorem inv_new (N d : Nat) : InvE N (max d 1) (ns0 d) [] [0] (0, none) := by
  refine ⟨[], [], ?_⟩
  exact {
    stk := rfl
    lv := rfl
    op := rfl
    cn := rfl
    non := fun _ => rfl
    sc0 := fun _ => rfl
    sc1 := fun h => absurd rfl h
    bg := fun h => absurd rfl h
    bk := fun h => absurd rfl h
    frm := fun z hz => by simp at hz
    many := fun z hz => by simp at hz
    lo := by simp [ns0]
    hi := by simp [ns0]
    top0 := fun h => by simp [ns0] at h
    top1 := fun h => by simp [ns0] at h
    top5 := fun h => by simp [ns0] at h
    six := fun h => by simp [ns0] at h
    len := by simp
    most := rfl
    al := Nat.zero_le _ }
end Go.Proofs.YtlhpflicchchlaaDoor.Nx
