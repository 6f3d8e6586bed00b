/- The verdict of a text, byte by byte, and that it is found at the least place: plain law. Conditions: none. -/
import Derived.Test.YtlhpflicchchlaaDoorNxA0
namespace Go.Proofs.YtlhpflicchchlaaDoor.Tr
open Go.Proofs.YtlhpflicchchlaaDoor.LexPure
open Go.Proofs.YtlhpflicchchlaaDoor.LxA (SS sub)
open Go.Proofs.YtlhpflicchchlaaDoor.Nx (NS Ev takeV takeB behindV tbeginV downV upV badV endedV behK kindL)
set_option linter.unusedVariables false
set_option linter.unusedSimpArgs false
/-- Tokens, taken in order: the first fault, and where. -/
def takesV : NS → List Tk → NS × Int × Nat
  | n, [] => (n, 0, 0)
  | n, t :: r => if (takeV n t).2.2 ≠ 0 then ((takeV n t).1, (takeV n t).2.2, t.frm) else takesV (takeV n t).1 r
def closeN (n : NS) : Int := if n.may = 7 then 14 else if n.may = 6 then 1 else if n.began = true then 10 else 11
def closeT (s : St SS) (n : NS) : Int :=
  if s.within = 0 then closeN n
  else if s.within = 9 then (match sub.close s.sub with
    | some t => closeN (takesV n [⟨9, false, s.frm, s.at_, t⟩]).1
    | none => 10)
  else 10
def faultT (n : NS) (f : Int) : Int := if f = 8 ∧ n.may = 6 then 9 else f
/-- The verdict: its kind, and at which byte. -/
def thr : List Int → St SS → NS → Int × Nat
  | [], s, n => (closeT s n, s.at_)
  | c :: r, s, n =>
    if (takesV n (lookV sub s c).2.1).2.1 ≠ 0 then ((takesV n (lookV sub s c).2.1).2.1, (takesV n (lookV sub s c).2.1).2.2)
    else if faultT (takesV n (lookV sub s c).2.1).1 (lookV sub s c).2.2 ≠ 0 then (faultT (takesV n (lookV sub s c).2.1).1 (lookV sub s c).2.2, s.at_)
    else thr r { (lookV sub s c).1 with at_ := s.at_ + 1 } (takesV n (lookV sub s c).2.1).1
def EndK (k : Int) : Prop := k = 1 ∨ k = 10 ∨ k = 11
structure J (s : St SS) (n : NS) : Prop where
  may : n.may ≠ 7
  out : s.within = 0 → n.begun = 0
  wit : s.within ≠ 0 → n.begun = s.within ∧ (s.within = 8 ∨ s.within = 9 ∨ s.within = 10)
  wa : s.sub.wa < 3
theorem take_fault (n : NS) (t : Tk) : ¬ EndK (takeV n t).2.2 := by
  unfold takeV takeB behindV tbeginV downV upV badV EndK
  repeat' split
  all_goals simp
theorem take_end {n : NS} {t : Tk} (hm : n.may ≠ 7) (hb : n.begun = t.kind) (h0 : t.kind ≠ 0) (h1 : t.begun = false) (h2 : (behK t).2 = true) : (takeV n t).2.2 = 0 ∧ (takeV n t).1.begun = 0 ∧ (takeV n t).1.may ≠ 7 := by
  unfold takeV
  rw [if_neg hm, if_pos (by rw [hb]; exact h0)]
  unfold behindV
  rw [if_neg (by rw [h1, h2, hb]; simp)]
  split
  · exact ⟨rfl, rfl, by simp⟩
  · unfold endedV
    split
    · exact ⟨rfl, rfl, by simp⟩
    · exact ⟨rfl, rfl, by simp⟩
theorem take_begun {n : NS} {t : Tk} (hm : n.may ≠ 7) (hb : n.begun = 0) (h1 : t.begun = true) (h2 : (takeV n t).2.2 = 0) : (takeV n t).1.begun = t.kind ∧ (takeV n t).1.may ≠ 7 := by
  unfold takeV at h2 ⊢
  rw [if_neg hm, if_neg (by simp [hb])] at h2 ⊢
  split at h2
  · simp [badV] at h2
  · rename_i h6
    rw [if_neg h6]
    unfold takeB at h2 ⊢
    rw [if_pos h1] at h2 ⊢
    unfold tbeginV at h2 ⊢
    split at h2
    · rename_i h3
      rw [if_pos h3]
      exact ⟨h3.1.symm, hm⟩
    · rename_i h3
      rw [if_neg h3]
      split at h2
      · simp [badV] at h2
      · rename_i h4
        rw [if_neg h4]
        exact ⟨rfl, hm⟩
theorem take_other {n : NS} {t : Tk} (hm : n.may ≠ 7) (hb : n.begun = 0) (h1 : t.begun = false) (h2 : (takeV n t).2.2 = 0) : (takeV n t).1.begun = 0 ∧ (takeV n t).1.may ≠ 7 := by
  unfold takeV takeB downV upV badV endedV at h2 ⊢
  rw [if_neg hm, if_neg (by simp [hb])] at h2 ⊢
  rw [h1] at h2 ⊢
  simp only [Bool.false_eq_true, if_false] at h2 ⊢
  split
  · rename_i h; rw [if_pos h] at h2; simp at h2
  · rename_i h
    rw [if_neg h] at h2
    repeat' split
    all_goals first
      | exact ⟨hb, hm⟩
      | (refine ⟨hb, ?_⟩; simp; done)
      | (refine ⟨hb, ?_⟩; simp only; split <;> decide)
      | (exfalso; simp_all; done)
theorem stepF_wa {a i : Nat} {c : Int} (h : a < 3) : (LxN.stepF a i c).2.1 < 3 := by
  unfold LxN.stepF
  repeat' split
  all_goals first | exact h | (simp; done)
theorem done_kind {a i : Nat} {c : Int} (h : a < 3) (hd : (LxN.stepF a i c).1 = 1) : (kindL ((LxN.word (LxN.stepF a i c).2.1).extract 0 (LxN.stepF a i c).2.2)).2 = true := by
  unfold LxN.stepF at hd ⊢
  split at hd
  · repeat' split at hd
    all_goals simp at hd
  · rename_i h0
    rw [if_neg h0]
    split at hd
    · simp at hd
    · rename_i h1
      rw [if_neg h1]
      split at hd
      · simp at hd
      · rename_i h2
        rw [if_neg h2]
        split at hd
        · rename_i h3
          rw [if_pos h3]
          simp only [h3]
          match a, h with
          | 0, _ => decide +kernel
          | 1, _ => decide +kernel
          | 2, _ => decide +kernel
        · simp at hd
theorem bad_end (z : SS) (w c f : Int) (h : (sub.go z w c).2 = .bad f) : f ≠ 0 ∧ ¬ EndK f := by
  refine ⟨(LxA.bads z w c f h).1, ?_⟩
  have h : (LxA.goS z w c).2 = .bad f := h
  unfold EndK
  unfold LxA.goS LxA.strS LxA.litS LxA.numS at h
  split at h
  · simp only at h
    split at h
    · simp at h
    · split at h
      · simp at h
      · rename_i h0 h1
        obtain rfl := Res.bad.inj h
        clear h
        revert h0 h1
        unfold LxQ.qstep LxQ.amongS LxQ.slashS LxQ.digitS LxQ.digitT LxQ.amongT
        repeat' split
        all_goals simp
  · split at h
    · simp only at h
      split at h
      · obtain rfl := Res.bad.inj h; decide
      · split at h <;> simp at h
    · split at h
      · obtain rfl := Res.bad.inj h; decide
      · split at h <;> simp at h
theorem start_wa (z : SS) (k c : Int) (h : z.wa < 3) : (sub.start z k c).wa < 3 := by
  show (LxA.startS z k c).wa < 3
  unfold LxA.startS
  repeat' split
  · exact h
  · exact h
  · exact stepF_wa (by decide)
theorem go_wa (z : SS) (k c : Int) (h : z.wa < 3) : (sub.go z k c).1.wa < 3 := by
  show (LxA.goS z k c).1.wa < 3
  unfold LxA.goS LxA.strS LxA.litS LxA.numS
  repeat' split
  all_goals first | exact h | exact stepF_wa h
/-- What a byte does: a token's fault lies at it; a fault is no end; else both go on as they should. -/
structure Ok (at_ : Nat) (n : NS) (L : St SS × List Tk × Int) : Prop where
  tok : (takesV n L.2.1).2.1 ≠ 0 → (takesV n L.2.1).2.2 = at_ ∧ ¬ EndK (takesV n L.2.1).2.1
  bad : L.2.2 ≠ 0 → ¬ EndK L.2.2
  on : (takesV n L.2.1).2.1 = 0 → L.2.2 = 0 → J { L.1 with at_ := at_ + 1 } (takesV n L.2.1).1
theorem begin_ok {s : St SS} {n : NS} (c : Int) (hw : s.within = 0) (hj : J s n) : Ok s.at_ n (beginV sub s c) := by
  have hb := hj.out hw
  unfold beginV
  split
  · exact ⟨fun h => absurd rfl h, fun _ => by simp [EndK], fun _ h => by simp at h⟩
  split
  · exact ⟨fun h => absurd rfl h, fun h => absurd rfl h, fun _ _ => ⟨hj.may, hj.out, hj.wit, hj.wa⟩⟩
  split
  · rename_i hk
    refine ⟨fun h => ?_, fun h => absurd rfl h, fun h _ => ?_⟩
    · dsimp only [takesV] at h ⊢
      split
      · exact ⟨rfl, take_fault _ _⟩
      · rename_i h1; rw [if_neg h1] at h; exact absurd rfl h
    · dsimp only [takesV] at h ⊢
      split at h
      · rename_i h1; exact absurd h h1
      · rename_i h1
        rw [if_neg h1]
        obtain ⟨h2, h3⟩ := take_begun (t := ⟨kindOf c, true, s.at_, s.at_, ⟨#[]⟩⟩) hj.may hb rfl (by simpa using h1)
        exact ⟨h3, fun e => by simp only at e; omega, fun _ => ⟨h2, hk⟩, start_wa _ _ _ hj.wa⟩
  · rename_i hk
    refine ⟨fun h => ?_, fun h => absurd rfl h, fun h _ => ?_⟩
    · dsimp only [takesV] at h ⊢
      split
      · exact ⟨rfl, take_fault _ _⟩
      · rename_i h1; rw [if_neg h1] at h; exact absurd rfl h
    · dsimp only [takesV] at h ⊢
      split at h
      · rename_i h1; exact absurd h h1
      · rename_i h1
        rw [if_neg h1]
        obtain ⟨h2, h3⟩ := take_other (t := ⟨kindOf c, false, s.at_, s.at_ + 1, ⟨#[]⟩⟩) hj.may hb rfl (by simpa using h1)
        exact ⟨h3, fun _ => h2, fun e => absurd hw e, hj.wa⟩
theorem look_ok {s : St SS} {n : NS} (c : Int) (hj : J s n) : Ok s.at_ n (lookV sub s c) := by
  unfold lookV
  by_cases hw : s.within = 0
  · rw [if_pos hw]; exact begin_ok c hw hj
  rw [if_neg hw]
  obtain ⟨w1, w2⟩ := hj.wit hw
  have hwa := go_wa s.sub s.within c hj.wa
  rcases hg : sub.go s.sub s.within c with ⟨z, r⟩
  rw [hg] at hwa
  cases r with
  | on => exact ⟨fun h => absurd rfl h, fun h => absurd rfl h, fun _ _ => ⟨hj.may, fun e => absurd e hw, fun _ => ⟨w1, w2⟩, hwa⟩⟩
  | done t =>
    have hk : (behK ⟨s.within, false, s.frm, s.at_ + 1, t⟩).2 = true := by
      unfold behK
      simp only
      split
      · rfl
      split
      · rename_i h9 h10
        have h : LxA.goS s.sub s.within c = (z, .done t) := hg
        unfold LxA.goS at h
        rw [if_neg (by omega), if_pos h10] at h
        unfold LxA.litS at h
        have h2 := congrArg Prod.snd h
        simp only at h2
        split at h2
        · simp at h2
        · split at h2
          · rename_i h3
            obtain rfl := Res.done.inj h2
            exact done_kind hj.wa h3
          · simp at h2
      · rfl
    obtain ⟨e1, e2, e3⟩ := take_end (t := ⟨s.within, false, s.frm, s.at_ + 1, t⟩) hj.may w1 hw rfl hk
    refine ⟨fun h => ?_, fun h => absurd rfl h, fun _ _ => ?_⟩
    · dsimp only [takesV] at h
      rw [if_neg (by simp [e1])] at h
      exact absurd rfl h
    · dsimp only [takesV]
      rw [if_neg (by simp [e1])]
      exact ⟨e3, fun _ => e2, fun e => absurd rfl e, hwa⟩
  | past t =>
    have h9 : s.within = 9 := by
      have h : LxA.goS s.sub s.within c = (z, .past t) := hg
      rcases w2 with h8 | h9 | h10
      · unfold LxA.goS at h
        rw [if_pos h8] at h
        unfold LxA.strS at h
        have h2 := congrArg Prod.snd h
        simp only at h2
        repeat' split at h2
        all_goals simp at h2
      · exact h9
      · unfold LxA.goS at h
        rw [if_neg (by omega), if_pos h10] at h
        unfold LxA.litS at h
        have h2 := congrArg Prod.snd h
        simp only at h2
        repeat' split at h2
        all_goals simp at h2
    obtain ⟨e1, e2, e3⟩ := take_end (t := ⟨s.within, false, s.frm, s.at_, t⟩) hj.may w1 hw rfl (by unfold behK; rw [if_pos h9])
    have hb := begin_ok (s := { s with sub := z, within := 0 }) (n := (takeV n ⟨s.within, false, s.frm, s.at_, t⟩).1) c rfl ⟨e3, fun _ => e2, fun e => absurd rfl e, hwa⟩
    have hs : takesV n (⟨s.within, false, s.frm, s.at_, t⟩ :: (beginV sub { s with sub := z, within := 0 } c).2.1) = takesV (takeV n ⟨s.within, false, s.frm, s.at_, t⟩).1 (beginV sub { s with sub := z, within := 0 } c).2.1 := by
      rw [takesV, if_neg (by simp [e1])]
    refine ⟨?_, hb.bad, ?_⟩
    · dsimp only
      rw [hs]
      exact hb.tok
    · dsimp only
      rw [hs]
      exact hb.on
  | bad f =>
    obtain ⟨h1, h2⟩ := bad_end s.sub s.within c f (by rw [hg])
    exact ⟨fun h => absurd rfl h, fun _ => h2, fun _ h => absurd h h1⟩
theorem close_end {n : NS} (h : n.may ≠ 7) : EndK (closeN n) := by
  unfold closeN EndK
  rw [if_neg h]
  repeat' split
  all_goals simp
theorem closeT_end {s : St SS} {n : NS} (hj : J s n) : EndK (closeT s n) := by
  unfold closeT
  split
  · exact close_end hj.may
  split
  · rename_i hw h9
    split
    · rename_i t _
      obtain ⟨e1, e2, e3⟩ := take_end (n := n) (t := ⟨9, false, s.frm, s.at_, t⟩) hj.may (by rw [(hj.wit hw).1, h9]) (by simp) rfl rfl
      dsimp only [takesV]
      rw [if_neg (by simp [e1])]
      exact close_end e3
    · exact .inr (.inl rfl)
  · exact .inr (.inl rfl)
theorem fault_end {n : NS} {f : Int} (h : f ≠ 0 → ¬ EndK f) (h1 : faultT n f ≠ 0) : ¬ EndK (faultT n f) := by
  unfold faultT at h1 ⊢
  split
  · simp [EndK]
  · rename_i h2; rw [if_neg h2] at h1; exact h h1
theorem fault_zero {n : NS} {f : Int} (h : ¬ faultT n f ≠ 0) : f = 0 := by
  unfold faultT at h
  split at h
  · simp at h
  · simpa using h
/-- THE LEAST PLACE. -/
theorem thr_least : ∀ (r : List Int) (s : St SS) (n : NS), J s n → (EndK (thr r s n).1 ∧ (thr r s n).2 = s.at_ + r.length) ∨
    ∃ i, i < r.length ∧ (thr r s n).2 = s.at_ + i ∧ ¬ EndK (thr r s n).1 ∧ (∀ more, thr (r.take (i + 1) ++ more) s n = thr r s n) ∧ EndK (thr (r.take i) s n).1
  | [], s, n, hj => .inl ⟨closeT_end hj, rfl⟩
  | c :: r, s, n, hj => by
    have hk := look_ok c hj
    by_cases h1 : (takesV n (lookV sub s c).2.1).2.1 ≠ 0
    · have e : ∀ m, thr (c :: m) s n = ((takesV n (lookV sub s c).2.1).2.1, (takesV n (lookV sub s c).2.1).2.2) := fun m => by rw [thr, if_pos h1]
      refine .inr ⟨0, by simp, ?_, ?_, ?_, closeT_end hj⟩
      · rw [e]; exact (hk.tok h1).1
      · rw [e]; exact (hk.tok h1).2
      · intro more
        rw [e]
        exact e _
    · by_cases h2 : faultT (takesV n (lookV sub s c).2.1).1 (lookV sub s c).2.2 ≠ 0
      · have e : ∀ m, thr (c :: m) s n = (faultT (takesV n (lookV sub s c).2.1).1 (lookV sub s c).2.2, s.at_) := fun m => by rw [thr, if_neg h1, if_pos h2]
        refine .inr ⟨0, by simp, ?_, ?_, ?_, closeT_end hj⟩
        · rw [e]; rfl
        · rw [e]; exact fault_end hk.bad h2
        · intro more
          rw [e]
          exact e _
      · have e : ∀ m, thr (c :: m) s n = thr m { (lookV sub s c).1 with at_ := s.at_ + 1 } (takesV n (lookV sub s c).2.1).1 := fun m => by rw [thr, if_neg h1, if_neg h2]
        have hj2 := hk.on (by simpa using h1) (fault_zero h2)
        rcases thr_least r _ _ hj2 with ⟨k1, k2⟩ | ⟨i, k0, k1, k2, k3, k4⟩
        · left
          rw [e]
          exact ⟨k1, by rw [k2]; simp only [List.length_cons]; omega⟩
        · right
          refine ⟨i + 1, by simp only [List.length_cons]; omega, ?_, ?_, ?_, ?_⟩
          · rw [e, k1]; simp only; omega
          · rw [e]; exact k2
          · intro more
            rw [e, List.take_succ_cons, List.cons_append, e]
            exact k3 more
          · rw [List.take_succ_cons, e]
            exact k4
theorem j0 (d : Nat) : J LxA.s0 (Nx.ns0 d) := ⟨by show (0 : Int) ≠ 7; decide, fun _ => rfl, fun h => absurd rfl h, by decide⟩
end Go.Proofs.YtlhpflicchchlaaDoor.Tr
