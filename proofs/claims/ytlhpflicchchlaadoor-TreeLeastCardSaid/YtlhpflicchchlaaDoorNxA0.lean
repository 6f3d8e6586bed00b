/- Frames by the kind of block, rows of events and of numbers. Conditions: none. -/
import Derived.Test.YtlhpflicchchlaaDoorNxPure
import Derived.Test.YtlhpflicchchlaaDoorLxLaw
namespace Go.Proofs.YtlhpflicchchlaaDoor.Nx
open Go.RowKit Go.Proofs.YtlhpflicchchlaaDoorW.PrintWords Go.Proofs.YtlhpflicchchlaaDoorW.PrintLast Go.Proofs.YtlhpflicchchlaaDoorW.PrintMore
attribute [local go_sem] max2_int min2_int max_two min_two max_three min_three max_four min_four
open Go.Proofs.YtlhpflicchchlaaDoor.LexPure Go.Proofs.YtlhpflicchchlaaDoor.BitsW
set_option linter.unusedVariables false
set_option linter.unusedSimpArgs false
/-- Blocks of other kinds than these are as they were. -/
def KT (p : List TypeId) (W W' : World) : Prop := W.heap.size ≤ W'.heap.size ∧ ∀ k, k < W.heap.size → (∀ c t f, W.heap[k]? = some (.cells c t f) → t ∉ p) → W'.heap[k]? = W.heap[k]?
theorem KT.refl (p : List TypeId) (W : World) : KT p W W := ⟨Nat.le_refl _, fun _ _ _ => rfl⟩
theorem KT.trans {p : List TypeId} {a b c : World} (h : KT p a b) (h' : KT p b c) : KT p a c := by
  refine ⟨Nat.le_trans h.1 h'.1, fun k hk ht => ?_⟩
  have e := h.2 k hk ht
  rw [h'.2 k (by have := h.1; omega) (by rw [e]; exact ht), e]
theorem KT.mono {p q : List TypeId} {a b : World} (h : KT p a b) (hq : ∀ t ∈ p, t ∈ q) : KT q a b := ⟨h.1, fun k hk ht => h.2 k hk (fun c t f e hp => ht c t f e (hq t hp))⟩
theorem KT.of_below {p : List TypeId} {a b : World} (h : Below a.heap.size a b) : KT p a b := ⟨h.size, fun k hk _ => h.block k hk⟩
theorem KT.blk {p : List TypeId} {a b : World} (h : KT p a b) {k : Nat} {c : Array Value} {t : TypeId} {f : Nat × Nat} (hk : a.heap[k]? = some (.cells c t f)) (ht : t ∉ p) : b.heap[k]? = some (.cells c t f) :=
  (h.2 k (blk_lt hk) (fun c' t' f' e => by rw [hk] at e; simp at e; rw [← e.2.1]; exact ht)).trans hk
theorem KT.row {p : List TypeId} {a b : World} (h : KT p a b) {B n sz : Nat} {e : TypeId} {v : Value} {xs : List Value} (hr : a.ownsRow B e sz v n xs) (he : e ∉ p) : b.ownsRow B e sz v n xs := by
  refine ⟨hr.1, ?_⟩
  rcases hr.2 with hn | ⟨gg, cap, cur, hv, hbg, hgg, rest⟩
  · exact .inl hn
  · exact .inr ⟨gg, cap, cur, hv, hbg, h.blk hgg he, rest⟩
theorem KT.nx {p : List TypeId} {a b w0 : World} (h : KT p a b) {g : Nat} {s : NS} {v : Value} (hn : Nx w0 a g s v) (h1 : (113 : TypeId) ∉ p) (h2 : (169 : TypeId) ∉ p) (h3 : (161 : TypeId) ∉ p) : Nx w0 b g s v := by
  obtain ⟨⟨wv, hg, ho, hgg⟩, hr, hl⟩ := hn
  exact ⟨⟨wv, h.blk hg h1, h.row ho h2, hgg⟩, h.row hr h3, hl⟩
theorem KT.of_nest {a b w0 : World} {g : Nat} {s : NS} {v : Value} (h : KeepN g a b) (hn : Nx w0 a g s v) : KT [113, 169, 161] a b := by
  refine ⟨h.1, fun k hk ht => h.2 k hk (fun e => ?_) (fun c f e => ht _ _ _ e (by simp)) (fun c f e => ht _ _ _ e (by simp))⟩
  obtain ⟨wv, hg⟩ := hn.blk
  subst e
  exact ht _ _ _ hg (by simp)
theorem KT.of_grown {a b : World} {B n sz : Nat} {e : TypeId} {v : Value} {xs : List Value} (hr : a.ownsRow B e sz v n xs) (h : a.grownBy b v.ownBlock) : KT [e] a b := by
  refine ⟨h.size, fun k hk ht => h.block k hk (fun e1 => ?_)⟩
  obtain ⟨c, hc⟩ := row_type hr k e1.symm
  exact ht _ _ _ hc (by simp)
theorem KT.of_set {a : World} {k j : Nat} {c : Array Value} {t : TypeId} {f : Nat × Nat} (hk : a.heap[k]? = some (.cells c t f)) (u : Value) : KT [t] a (a.setCell ⟨k, j, none⟩ u) := by
  refine ⟨by simp [World.setCell], fun m hm ht => Below.heap_setCell a ⟨k, j, none⟩ u m (fun e => ?_)⟩
  have e : m = k := e
  subst e
  exact ht _ _ _ hk (by simp)
theorem below_grownN {B n sz : Nat} {W W' : World} {e : TypeId} {v : Value} {xs : List Value} (h : W.ownsRow B e sz v n xs) (hg : W.grownBy W' v.ownBlock) (hB : B ≤ W.heap.size) : Below B W W' :=
  (Below.refl B W).grown hg hB (fun k hk => (h.lt k hk).1)
theorem ev_one (l : List Ev) : ∀ u ∈ l.flatMap evCells, u.oneCell' = true := by
  intro u hu
  obtain ⟨t, _, ht⟩ := List.mem_flatMap.1 hu
  simp only [evCells, List.mem_cons, List.not_mem_nil, or_false] at ht
  rcases ht with rfl | rfl | rfl | rfl | rfl | rfl | rfl | rfl <;> rfl
/-- append of events. -/
theorem wpList_ev_append {w : World} {ops : Array Oper} {rest : List Oper} {o : Oper} {a : Act} {Q : Exit → Act → World → Prop} (hgd : o.guard = none) (x y : Operand)
    (ho : o.op = .call { callee := .builtin .append, args := #[x, y], argTypes := #[57, 57] }) (B B' : Nat) (vo vm : Value) (lo lm : List Ev) (hs : a.eval x = vo) (hx : a.eval y = vm)
    (ro : w.ownsRow B 62 8 vo lo.length (lo.flatMap evCells)) (rm : w.ownsRow B' 62 8 vm lm.length (lm.flatMap evCells)) (hnil : lm = [] → vm = .slice none 0 0) (hlen : lo.length + lm.length ≤ 1000000) (hB : B ≤ w.heap.size)
    (h : ∀ v' w', w'.ownsRow B 62 8 v' (lo ++ lm).length ((lo ++ lm).flatMap evCells) → Below B w w' → KT [62] w w' → wpList Tryd.prog ops Q rest (a.put o.dst v') w') : wpList Tryd.prog ops Q (o :: rest) a w := by
  obtain ⟨i, hi, hz0, hz1, hz2⟩ := info_parts einfo
  cases lm with
  | nil =>
    obtain rfl := hnil rfl
    refine wpList_append_own_none hgd x y 57 ho B 62 i 8 Tryd.underlying57 hi vo lo.length (lo.flatMap evCells) hs ro hx ?_
    exact h vo w (by simpa using ro) (Below.refl _ _) (KT.refl _ _)
  | cons t r =>
    rcases rm.2 with ⟨_, hn⟩ | ⟨g, cap, cur, hv, hbg, hg, rest'⟩
    · simp at hn
    · subst hv
      refine wpList_append_own_at w hgd x y 57 ho B 62 i _ 8 80 Tryd.underlying57 hi hz0 hz1 hz2 rfl (by decide) vo lo.length (lo.flatMap evCells) hs ro ⟨g, 0, none⟩ (t :: r).length cap ((t :: r).flatMap evCells) hx rm.1 (rm.cells (g := g) rfl) (ev_one _) (by unfold maxLen; omega) (by omega) hB ?_
      intro v' w' h1 h2 h3 h4
      refine h v' w' ?_ (below_grownN ro h2 hB) (KT.of_grown ro h2)
      rw [List.length_append, List.flatMap_append]
      exact h1
def cIs (l : List Nat) : List Value := l.map fun (n : Nat) => Value.int .i64 (n : Int)
theorem iinfo : (Tryd.prog.info? 3).map (fun i => (i.zero, i.size, i.bytes)) = some (some (.int .i64 0), 1, 8) := by kernel_rfl
theorem flat_ev : ∀ (T : List Ev) (j i : Nat) (t : Ev), T[j]? = some t → i < 8 → (T.flatMap evCells)[j * 8 + i]? = (evCells t)[i]?
  | [], j, i, t, h, _ => by simp at h
  | x :: r, 0, i, t, h, hi => by
    obtain rfl : x = t := by simpa using h
    rw [List.flatMap_cons, List.getElem?_append_left (by simp [evCells]; omega)]
    simp
  | x :: r, j + 1, i, t, h, hi => by
    rw [List.flatMap_cons, List.getElem?_append_right (by simp [evCells]; omega), show (j + 1) * 8 + i - (evCells x).length = j * 8 + i by simp [evCells]; omega]
    exact flat_ev r j i t (by simpa using h) hi
theorem flat_tk : ∀ (T : List Tk) (j i : Nat) (t : Tk), T[j]? = some t → i < 5 → (T.flatMap LxA.tkCells)[j * 5 + i]? = (LxA.tkCells t)[i]?
  | [], j, i, t, h, _ => by simp at h
  | x :: r, 0, i, t, h, hi => by
    obtain rfl : x = t := by simpa using h
    rw [List.flatMap_cons, List.getElem?_append_left (by simp [LxA.tkCells]; omega)]
    simp
  | x :: r, j + 1, i, t, h, hi => by
    rw [List.flatMap_cons, List.getElem?_append_right (by simp [LxA.tkCells]; omega), show (j + 1) * 5 + i - (LxA.tkCells x).length = j * 5 + i by simp [LxA.tkCells]; omega]
    exact flat_tk r j i t (by simpa using h) hi
/-- A row of events: nil, or at a block of its own. -/
theorem own_evs {W : World} {B n : Nat} {v : Value} {xs : List Value} {e sz : Nat} (h : W.ownsRow B e sz v n xs) : ∃ ao cap, v = .slice ao n cap ∧ (n ≠ 0 → ∃ g, ao = some ⟨g, 0, none⟩ ∧ B ≤ g ∧ g < W.heap.size) := by
  rcases h.2 with ⟨hv, hn⟩ | ⟨g, cap, cur, hv, hbg, hg, _⟩
  · exact ⟨none, 0, by rw [hv, hn], fun h => absurd hn h⟩
  · exact ⟨_, cap, hv, fun _ => ⟨g, rfl, hbg, (Array.getElem?_eq_some_iff.1 hg).1⟩⟩
theorem drop_tkN {T : List Tk} {j : Nat} {t : Tk} (h : T[j]? = some t) : T.drop j = t :: T.drop (j + 1) := by
  obtain ⟨hl, rfl⟩ := List.getElem?_eq_some_iff.1 h
  exact List.drop_eq_getElem_cons hl
theorem tokN_cells {W : World} {g : Nat} {a b c d e : Value} (h : W.heap[g]? = some (.cells #[a, b, c, d, e] 39 (0, 0))) : W.cell? ⟨g, 0, none⟩ = some a ∧ W.cell? ⟨g, 1, none⟩ = some b ∧ W.cell? ⟨g, 2, none⟩ = some c ∧ W.cell? ⟨g, 3, none⟩ = some d ∧ W.cell? ⟨g, 4, none⟩ = some e :=
  ⟨(blk_cell h 0).trans rfl, (blk_cell h 1).trans rfl, (blk_cell h 2).trans rfl, (blk_cell h 3).trans rfl, (blk_cell h 4).trans rfl⟩
theorem takeV_len (s : NS) (t : Tk) : (takeV s t).2.1.length ≤ 1 := by
  unfold takeV takeB behindV tbeginV downV upV badV
  repeat' split
  all_goals simp
/-- All tokens, one by one, without a fault. -/
def goodB (s : NS) : Bool := decide (0 ≤ s.may ∧ s.may ≤ 7) && (decide (s.may = 0 ∨ 6 ≤ s.may) || !s.stk.isEmpty) && decide (s.stk.length ≤ 80000 ∧ s.most ≤ 1000000) && s.lv.all (fun l => decide (l.many ≤ 1000000))
theorem goodB_good {s : NS} (h : goodB s = true) : Good s := by
  unfold goodB at h
  simp only [Bool.and_eq_true, Bool.or_eq_true, decide_eq_true_eq, List.all_eq_true, Bool.not_eq_true', List.isEmpty_eq_false_iff] at h
  obtain ⟨⟨⟨⟨h1, h2⟩, h3⟩, h4, h5⟩, h6⟩ := h
  exact ⟨h1, h2, fun a b => h3.resolve_left (by omega), h4, h5, h6⟩
def runV : NS → List Ev → List Tk → Option (NS × List Ev)
  | s, E, [] => some (s, E)
  | s, E, t :: r => if (takeV s t).2.2 = 0 ∧ goodB s = true then runV (takeV s t).1 (E ++ (takeV s t).2.1) r else none
def tk7 : List Tk := [⟨2, false, 0, 1, ⟨#[]⟩⟩, ⟨9, true, 1, 1, ⟨#[]⟩⟩, ⟨9, false, 1, 2, ⟨#[55]⟩⟩, ⟨3, false, 2, 3, ⟨#[]⟩⟩]
theorem alive7 : allV LxA.sub [91, 55, 93] LxA.s0 = (tk7, 1, 3) := by rfl
def ev7 : List Ev := [⟨1, 4, 0, 0, stp0, ⟨#[]⟩⟩, ⟨1, 2, 1, 0, stp0, ⟨#[]⟩⟩, ⟨2, 2, 1, 2, stp0, ⟨#[55]⟩⟩, ⟨2, 4, 0, 3, stp0, ⟨#[]⟩⟩]
theorem run7 : runV (ns0 3) [] tk7 = some (⟨3, [], [], 6, 0, true⟩, ev7) := by rfl
end Go.Proofs.YtlhpflicchchlaaDoor.Nx
