/- tree.through and tree.Parse, walked. Conditions: none. -/
import Derived.Test.YtlhpflicchchlaaDoorTrTk
import Derived.Test.YtlhpflicchchlaaDoorLxSt
namespace Go.Proofs.YtlhpflicchchlaaDoor.Tr
open Go.RowKit Go.Proofs.YtlhpflicchchlaaDoorW.PrintWords Go.Proofs.YtlhpflicchchlaaDoorW.PrintLast Go.Proofs.YtlhpflicchchlaaDoorW.PrintMore
attribute [local go_sem] max2_int min2_int max_two min_two max_three min_three max_four min_four
open Go.Proofs.YtlhpflicchchlaaDoor.LexPure
open Go.Proofs.YtlhpflicchchlaaDoor.LxQ (LP)
open Go.Proofs.YtlhpflicchchlaaDoor.LxA (SS sub Lx Post PostE Free)
open Go.Proofs.YtlhpflicchchlaaDoor.Nx (NS Nx takeV Ev Stp evCells stpVal KT KeepN row_type)
set_option linter.unusedVariables false
set_option linter.unusedSimpArgs false
theorem lx_free {W : World} {b : Nat} {s : St SS} {p : LP} {tx : Value} {n : Nat} (h : Lx W b s p tx n) {k : Nat} (hk : k < W.heap.size) (ht : ∀ c t f, W.heap[k]? = some (.cells c t f) → t ∉ ([149, 5] : List TypeId)) : k ≠ b ∧ p.text.ownBlock ≠ some k := by
  refine ⟨fun e => ?_, fun e => ?_⟩
  · subst e
    exact ht _ _ _ h.blk.1 (by simp)
  · obtain ⟨c, hc⟩ := row_type h.text k e
    exact ht _ _ _ hc (by simp)
theorem lx_kt {W W' : World} {b : Nat} {s : St SS} {p : LP} {tx : Value} {n : Nat} (h : Lx W b s p tx n) (hs : W.heap.size ≤ W'.heap.size) (hk : ∀ k, Free W b s p k → W'.heap[k]? = W.heap[k]?) {Wt : World} (h1 : KT [149, 5] Wt W) (h2 : ∀ k, k < Wt.heap.size → (∀ c t f, Wt.heap[k]? = some (.cells c t f) → t ∉ ([149, 5] : List TypeId)) → Free W b s p k) : KT [149, 5] Wt W' :=
  ⟨Nat.le_trans h1.1 hs, fun k hlt ht => (hk k (h2 k hlt ht)).trans (h1.2 k hlt ht)⟩
/-- What other calls leave of a Lexer. -/
theorem lx_keep {W W' : World} {b : Nat} {s : St SS} {p : LP} {tx : Value} {n : Nat} {q : List TypeId} (h : Lx W b s p tx n) (hk : KT q W W') (h1 : (149 : TypeId) ∉ q) (h2 : (5 : TypeId) ∉ q) : Lx W' b s p tx n :=
  ⟨⟨hk.blk h.blk.1 h1, Nat.le_trans h.blk.2 hk.1⟩, h.at_, h.frm, h.within, h.ended, h.num, h.which, h.wat, hk.row h.text h2, h.num0, h.num8, h.wa, h.wi, h.kinds, h.good, h.len, fun h8 => ⟨hk.row (h.str h8).1 h2, (h.str h8).2⟩⟩
/-- What lies behind the last tokens: since then a Lexer alone has worked. -/
structure Lz (Wt W : World) (b : Nat) (s : St SS) (p : LP) (tx : Value) (n : Nat) : Prop where
  lx : Lx W b s p tx n
  kt : KT [149, 5] Wt W
  fr : ∀ k, k < Wt.heap.size → (∀ c t f, Wt.heap[k]? = some (.cells c t f) → t ∉ ([149, 5] : List TypeId)) → Free W b s p k
/-- A step that gives no token. -/
theorem Lz.step {Wt W W' : World} {b : Nat} {s s' : St SS} {p : LP} {tx v : Value} {n n' : Nat} {toks : List Tk} (h : Lz Wt W b s p tx n) (hp : Post W b s p s' n' toks v W') : ∃ p' tx', Lz Wt W' b s' p' tx' n' := by
  obtain ⟨p', tx', h1, h2, h3, h4, h5, h6⟩ := hp
  exact ⟨p', tx', h1, lx_kt h.lx h2.size (fun k hk => (h3 k hk).1) h.kt h.fr, fun k hlt ht => (h3 k (h.fr k hlt ht)).2⟩
/-- A step that gives some, and what is done with them. -/
theorem Lz.fresh {W W' : World} {b : Nat} {s : St SS} {p : LP} {tx : Value} {n : Nat} {q : List TypeId} (h : Lx W b s p tx n) (h5 : s.within = 8 → tx = .slice none 0 0) (hk : KT q W W') (h1 : (149 : TypeId) ∉ q) (h2 : (5 : TypeId) ∉ q) : Lz W' W' b s { p with B := W'.heap.size } tx n := by
  have hl := lx_keep h hk h1 h2
  have hr := hl.raise (fun h8 => ⟨h5 h8, LxA.nil_text (n := 0) (hl.str h8).1 (h5 h8)⟩)
  refine ⟨hr, KT.refl _ _, fun k hlt ht => ?_⟩
  obtain ⟨e1, e2⟩ := lx_free hl hlt ht
  exact ⟨hlt, e1, e2, fun _ => hlt⟩
set_option maxHeartbeats 8000000 in
set_option maxRecDepth 100000 in
/-- lex.Lexer.Step once more: its block stays a Lexer's. -/
theorem step_callsT {W : World} {b : Nat} {s : St SS} {p : LP} {tx : Value} {n : Nat} (h : Lx W b s p tx n) (hT : LxN.Tab W) (hb0 : 0 < b) (hn : n ≤ 1000000) (hn2 : s.at_ ≤ 1000000) (c : Int) (k0 : 0 ≤ c) (k1 : c < 256) :
    Calls Tryd.prog 56 #[.pointer (some ⟨b, 0, none⟩), .int .u8 c] W fun e w' => ∃ v, e = .returned (.tuple #[v, .int .i64 (lookV sub s c).2.2]) ∧ ((lookV sub s c).2.2 = 0 → Post W b s p { (lookV sub s c).1 with at_ := s.at_ + 1 } (n + 1) (lookV sub s c).2.1 v w') ∧ ((lookV sub s c).2.2 ≠ 0 → PostE W b s p (lookV sub s c).2.1 v w' ∧ ∃ cs, w'.heap[b]? = some (.cells cs 149 (0, 0))) := by
  have H := Aside0.mk h
  have HC := Aside0.mk (LxA.look_calls h hT hb0 hn hn2 c k0 k1)
  have HA := Aside0.mk (LxA.lookV_at s c)
  have c3 := h.blk.p3
  rw [h.ended] at c3
  have ha : wrap64 ((s.at_ : Int) + 1) = (s.at_ : Int) + 1 := by unfold wrap64; omega
  generalize lookV sub s c = z at *
  obtain ⟨s', toks, r⟩ := z
  dsimp only at HC HA ⊢
  clear h hT hb0 hn hn2 k0 k1
  go_enter Tryd.func56, Tryd.ntmps56
  go_wp2_with (fail)
  go_at_call 98
  refine HC.out.mono ?_
  rintro e w3 ⟨v, rfl, hP⟩
  have HP := Aside0.mk hP
  obtain ⟨p', tx', h1, h2⟩ := hP
  have c0 := h1.blk.p0
  have f0 := h1.blk.fz 0
  have c3' := h1.blk.p3
  have f3 := h1.blk.fz 3
  rw [h1.at_, HA.out] at c0
  have BT := Aside0.mk h1.blk.1
  clear h1 h2 c3
  by_cases hr : r = 0
  · subst hr
    go_wp2_with (fail)
    go_ret2
    refine ⟨_, rfl, ?_⟩
    have := HP.out.on H.out.blk.lt
    rw [HA.out] at this
    exact this
  · have g1 : (r != 0) = true := by simp [hr]
    have g2 : decide (r = 0) = false := by simp [hr]
    have g3 : (r == 0) = false := by simp [hr]
    have HR := Aside0.mk hr
    clear hr
    go_wp2_with (fail)
    go_ret2
    exact ⟨_, rfl, fun h0 => absurd h0 HR.out, fun _ => ⟨HP.out.off H.out.blk.lt HA.out, _, blk_set BT.out 3 (.bool true)⟩⟩
/-- The builder at the end. -/
def bldr : List Int → St SS → NS → BS → BS
  | [], s, n, S => evsB S n (LxA.closeV s).1
  | c :: r, s, n, S =>
    if (takesV n (lookV sub s c).2.1).2.1 ≠ 0 then evsB S n (lookV sub s c).2.1
    else if faultT (takesV n (lookV sub s c).2.1).1 (lookV sub s c).2.2 ≠ 0 then evsB S n (lookV sub s c).2.1
    else bldr r { (lookV sub s c).1 with at_ := s.at_ + 1 } (takesV n (lookV sub s c).2.1).1 (evsB S n (lookV sub s c).2.1)
theorem closeT_eq (s : St SS) (n : NS) : closeT s n = if (LxA.closeV s).2 = 1 then closeN (takesV n (LxA.closeV s).1).1 else (LxA.closeV s).2 := by
  unfold closeT LxA.closeV
  split
  · rw [if_pos rfl]; rfl
  split
  · show (match (if LxN.wholeV s.sub.num = true then some (⟨s.sub.text.toArray⟩ : ByteArray) else none) with | some t => _ | none => _) = _
    split
    · rename_i h
      split at h
      · rename_i hw
        rw [if_pos hw]
        obtain rfl := Option.some.inj h
        rfl
      · cases h
    · rename_i h
      split at h
      · cases h
      · rename_i hw
        rw [if_neg hw]
        rfl
  · rfl
theorem closeV_len (s : St SS) : (LxA.closeV s).1.length ≤ 1 := by
  unfold LxA.closeV
  repeat' split
  all_goals simp
def EI (N M : Nat) (n : NS) (x : Nat × Option Nat) : Prop := ∃ O C, Nx.InvE N M n O C x
theorem ei_step {zs : List Int} {M : Nat} {n : NS} {x y : Nat × Option Nat} {t : Tk} (h : EI zs.length M n x) (hs : spanStep zs x t = some y) (h0 : (takeV n t).2.2 = 0) : EI zs.length M (takeV n t).1 y := by
  obtain ⟨O, C, I⟩ := h
  rcases Nx.todo_of (Nx.take_okay I (Nat.le_refl _) hs) with ⟨h1, _⟩ | ⟨_, h1⟩
  · exact absurd h0 h1
  · rcases h1 with ⟨_, h⟩ | ⟨e, C1, c, _, _, _, _, h⟩ | ⟨e, O1, x', C1, c, _, _, _, _, _, _, _, _, h⟩
    · exact ⟨_, _, h⟩
    · exact ⟨_, _, h⟩
    · exact ⟨_, _, h⟩
theorem toks_good {zs : List Int} {M : Nat} (hN : zs.length ≤ 2000) (hM : M ≤ 256) : ∀ (T : List Tk) (n : NS) (x y : Nat × Option Nat), EI zs.length M n x → spans zs T x = some y → GoodT n T ∧ ((takesV n T).2.1 = 0 → EI zs.length M (takesV n T).1 y)
  | [], n, x, y, h, hs => by
    obtain rfl := Option.some.inj hs
    exact ⟨trivial, fun _ => h⟩
  | t :: r, n, x, y, h, hs => by
    obtain ⟨z, h1, h2⟩ := Option.bind_eq_some_iff.1 hs
    have hg : Nx.Good n := by obtain ⟨O, C, I⟩ := h; exact I.good hN hM
    rw [takesV]
    by_cases h0 : (takeV n t).2.2 = 0
    · obtain ⟨k1, k2⟩ := toks_good hN hM r _ z y (ei_step h h1 h0) h2
      rw [if_neg (by simp [h0])]
      exact ⟨⟨hg, fun _ => k1⟩, k2⟩
    · rw [if_pos h0]
      exact ⟨⟨hg, fun e => absurd e h0⟩, fun e => absurd e h0⟩
theorem evs_bnd : ∀ (E : List Ev) (S : BS) (m : Nat), Bnd S m → Bnd (E.foldl bV S) (m + E.length)
  | [], S, m, h => h
  | e :: r, S, m, h => by
    have := evs_bnd r (bV S e) (m + 1) (bnd_step h e)
    rw [List.foldl_cons, List.length_cons]
    exact ⟨by have := this.1; omega, fun q hq => by have := this.2 q hq; omega⟩
theorem evsB_bnd' : ∀ (T : List Tk) (S : BS) (m : Nat) (n : NS), Bnd S m → Bnd (evsB S n T) (m + T.length)
  | [], S, m, n, h => h
  | t :: r, S, m, n, h => by
    rw [evsB]
    split
    · exact ⟨by have := h.1; simp only [List.length_cons]; omega, fun q hq => by have := h.2 q hq; simp only [List.length_cons]; omega⟩
    · have h1 := evs_bnd (takeV n t).2.1 S m h
      have h2 := evsB_bnd' r _ _ (takeV n t).1 h1
      have h3 := Nx.takeV_len n t
      simp only [List.length_cons]
      exact ⟨by have := h2.1; omega, fun q hq => by have := h2.2 q hq; omega⟩
theorem evsB_bnd {S : BS} {i : Nat} {T : List Tk} (h : Bnd S (2 * i)) (n : NS) (hT : T.length ≤ 2) : Bnd (evsB S n T) (2 * (i + 1)) := by
  have := evsB_bnd' T S _ n h
  exact ⟨by have := this.1; omega, fun q hq => by have := this.2 q hq; omega⟩
theorem fin_ver {w0 w4 : World} {vb gb : Nat} {S : BS} (hv : w4.heap[vb]? = some (.cells #[.int .i64 0, .int .i64 0] 35 (0, 0))) (hvb : w0.heap.size ≤ vb) (hb : Below w0.heap.size w0 w4) (hx : BxE w0.heap.size w4 gb S) (k a : Int) :
    Below w0.heap.size w0 ((w4.setCell ⟨vb, 0, none⟩ (.int .i64 k)).setCell ⟨vb, 1, none⟩ (.int .i64 a)) ∧ BxE w0.heap.size ((w4.setCell ⟨vb, 0, none⟩ (.int .i64 k)).setCell ⟨vb, 1, none⟩ (.int .i64 a)) gb S :=
  have X := ((Six.refl vb w4).set 0 (.int .i64 k)).set 1 (.int .i64 a)
  ⟨hb.trans (X.bel _ hvb), bxe_keep hx (X.kt hv) (by decide) (by decide) (by decide) (by decide)⟩
/-- Ahead of a token's taking: what stands in the world in which a Lexer has worked. -/
theorem TA.lexed {w0 W Wt w : World} {g gb nb ob B1 Bt : Nat} {T1 T : List Tk} {v1 v lvv : Value} {n : NS} {S : BS} (h : TA w0 W Wt g gb nb ob B1 T1 v1 n lvv S) (hk : KT [149, 5] Wt w) (hb : Below w0.heap.size w0 w) (hr : w.ownsRow Bt 39 5 v T.length (T.flatMap LxA.tkCells)) : TA w0 w w g gb nb ob Bt T v n lvv S :=
  ⟨hk.nx h.nx (by decide) (by decide) (by decide), bxe_keep h.bx hk (by decide) (by decide) (by decide) (by decide), hb, hr, hk.blk h.nb_ (by decide), hk.blk h.ob_ (by decide), KT.refl _ _⟩
theorem TA.forget {w0 W w : World} {g gb nb ob Bt : Nat} {T : List Tk} {v lvv : Value} {n : NS} {S : BS} (h : TA w0 W w g gb nb ob Bt T v n lvv S) : TA w0 w w g gb nb ob 0 [] (.slice none 0 0) n lvv S :=
  ⟨h.nx, h.bx, h.bel, World.ownsRow_nil _ _ _ _, h.nb_, h.ob_, KT.refl _ _⟩
theorem thr_next {w0 W0 Wt W w3 w4 : World} {b g gb nb ob vb i : Nat} {s s' : St SS} {p : LP} {tx v lvv lvv' : Value} {n : NS} {S : BS} {toks : List Tk} {o : Obj} (hl : Lz Wt W b s p tx i) (ht : TA w0 W0 Wt g gb nb ob 0 [] (.slice none 0 0) n lvv S) (hv : Wt.heap[vb]? = some (.cells #[.int .i64 0, .int .i64 0] 35 (0, 0)))
    (hp : Post W b s p s' (i + 1) toks v w3) (h4 : TA w0 w3 w4 g gb nb ob W.heap.size toks v (takesV n toks).1 lvv' (evsB S n toks)) (hn : toks = [] → w4 = w3) :
    ∃ wt' W0' p' tx' lvv'', Lz wt' w4 b s' p' tx' (i + 1) ∧ TA w0 W0' wt' g gb nb ob 0 [] (.slice none 0 0) (takesV n toks).1 lvv'' (evsB S n toks) ∧ wt'.heap[vb]? = some (.cells #[.int .i64 0, .int .i64 0] 35 (0, 0)) := by
  by_cases h0 : toks = []
  · subst h0
    obtain rfl := hn rfl
    obtain ⟨p', tx', h⟩ := hl.step hp
    exact ⟨Wt, W0, p', tx', lvv, h, ht, hv⟩
  · obtain ⟨p', tx', h1, h2, h3, _, h5, _⟩ := hp
    have k3 : KT [149, 5] Wt w3 := lx_kt hl.lx h2.size (fun k hk => (h3 k hk).1) hl.kt hl.fr
    exact ⟨w4, w4, _, _, lvv', Lz.fresh h1 (h5 h0) h4.kt (by decide) (by decide), h4.forget, h4.kt.blk (k3.blk hv (by decide)) (by decide)⟩
set_option maxHeartbeats 32000000 in
set_option maxRecDepth 100000 in
/-- Bytes gone through. -/
theorem thr_calls {w0 W : World} {gb d : Nat} (A : Option Addr) (n cp : Nat) (zs : List Int) (hr : ReadsOf (Value.int .u8) 0 w0 A n zs) (hz : ∀ z ∈ zs, 0 ≤ z ∧ z < 256) (hn : n ≤ 2000) (hd : d ≤ 256) (hT : LxN.Tab w0) (hB : Below w0.heap.size w0 W) (hbx : BxE w0.heap.size W gb ⟨[], none⟩) :
    Calls Tryd.prog 80 #[.slice A n cp, .int .i64 (d : Int), .bool true, .pointer (some ⟨gb, 0, none⟩)] W fun e w' => e = .returned (.agg #[.int .i64 (thr zs LxA.s0 (Nx.ns0 d)).1, .int .i64 ((thr zs LxA.s0 (Nx.ns0 d)).2 : Int)]) ∧ Below w0.heap.size w0 w' ∧ BxE w0.heap.size w' gb (bldr zs LxA.s0 (Nx.ns0 d) ⟨[], none⟩) := by
  have HR := Aside0.mk hr
  have HZ := Aside0.mk hz
  have HN := Aside0.mk hn
  have HD := Aside0.mk hd
  have HT := Aside0.mk hT
  have HB := Aside0.mk hB
  have HBX := Aside0.mk hbx
  have HLZ := Aside0.mk hr.1
  clear hr hz hn hd hT hB hbx
  go_enter Tryd.func80, Tryd.ntmps80
  go_upto_region 1 with (fail)
  generalize hw1 : World.alloc W _ = w1
  have s1 : w1.heap.size = W.heap.size + 1 := by subst hw1; simp
  rw [← s1]
  generalize hw2 : World.alloc w1 _ = w2
  have B1 : Below W.heap.size W w1 := by subst hw1; exact below_alloc (Below.refl _ _) _
  have B2 : Below w1.heap.size w1 w2 := by subst hw2; exact below_alloc (Below.refl _ _) _
  have OB1 : w1.heap[W.heap.size]? = some (.cells #[.pointer (some ⟨gb, 0, none⟩)] 122 (0, 0)) := by subst hw1; exact blk_new W _
  have VB2 : Aside0 (w2.heap[w1.heap.size]? = some (.cells #[.int .i64 0, .int .i64 0] 35 (0, 0))) := ⟨by subst hw2; exact blk_new w1 _⟩
  have OB2 : Aside0 (w2.heap[W.heap.size]? = some (.cells #[.pointer (some ⟨gb, 0, none⟩)] 122 (0, 0))) := ⟨(KT.of_below (p := []) B2).blk OB1 (by simp)⟩
  have BW2 : Aside0 (Below W.heap.size W w2) := ⟨B1.trans (B2.mono B1.size)⟩
  have HS1 := s1
  clear hw1 hw2 s1 B1 B2 OB1
  have HVB : Aside0 (w0.heap.size ≤ w1.heap.size) := ⟨by have := HB.out.size; omega⟩
  clear HS1
  generalize w1.heap.size = vb at *
  generalize hob : W.heap.size = ob at OB2 ⊢
  have HOB := Aside0.mk hob
  clear hob
  have HL := Aside0.mk (LxA.new_calls w2)
  go_wp2_with (fail)
  go_at_call 55
  refine HL.out.mono ?_
  rintro e w3 ⟨rfl, hl, hb3, hlt3⟩
  have L3 := Aside0.mk hl
  have B3 := Aside0.mk hb3
  have BW3 : Aside0 (Below w0.heap.size w0 w3) := ⟨(HB.out.trans (BW2.out.mono HB.out.size)).trans (B3.out.mono (Nat.le_trans HB.out.size BW2.out.size))⟩
  have HNW := Aside0.mk (Nx.new_calls w0 w3 d (by have := HD.out; omega) BW3.out.size)
  have HLB : Aside0 (w0.heap.size ≤ w2.heap.size) := ⟨Nat.le_trans HB.out.size BW2.out.size⟩
  clear hl hb3 hlt3 HL
  have HBW : Aside0 (w2.heap.size = w2.heap.size) := ⟨rfl⟩
  generalize hbb : w2.heap.size = b at L3 B3 HLB HBW ⊢
  replace HBW := Aside0.mk hbb
  clear hbb
  go_wp2_with (fail)
  go_at_call 35
  refine HNW.out.mono ?_
  rintro e w4 ⟨rfl, hnn, hb4⟩
  have N4 := Aside0.mk hnn
  have B4 := Aside0.mk hb4
  clear hnn hb4 HNW
  have HGW : Aside0 (w3.heap.size = w3.heap.size) := ⟨rfl⟩
  generalize hgg : w3.heap.size = g at N4 B4 HGW ⊢
  replace HGW := Aside0.mk hgg
  clear hgg
  go_upto_region 2 with (fail)
  generalize hw5 : World.alloc w4 _ = w5
  have NB5 : Aside0 (w5.heap[w4.heap.size]? = some (.cells #[.pointer (some ⟨g, 0, none⟩)] 55 (0, 0))) := ⟨by subst hw5; exact blk_new w4 _⟩
  have B5 : Below w4.heap.size w4 w5 := by subst hw5; exact below_alloc (Below.refl _ _) _
  have K35 : KT [] w3 w5 := KT.trans (b := w4) ⟨B4.out.size, fun k hk _ => B4.out.block k (by have := HGW.out; omega)⟩ (KT.of_below B5)
  have K25 : KT [] w2 w5 := KT.trans (b := w3) ⟨B3.out.size, fun k hk _ => B3.out.block k (by have := HBW.out; omega)⟩ K35
  have KW5 : KT [] W w5 := (KT.of_below (HOB.out ▸ BW2.out)).trans K25
  have BW5 : Aside0 (Below w0.heap.size w0 w5) := ⟨BW3.out.trans ((B4.out.mono (by have := HGW.out; have := BW3.out.size; omega)).trans (B5.mono (by have := BW3.out.size; have := B4.out.size; omega)))⟩
  have TA5 : Aside0 (TA w0 w5 w5 g gb w4.heap.size ob 0 [] (.slice none 0 0) (Nx.ns0 d) (.slice none 0 0) ⟨[], none⟩) := ⟨⟨(KT.of_below (p := []) B5).nx N4.out (by simp) (by simp) (by simp), bxe_keep HBX.out KW5 (by simp) (by simp) (by simp) (by simp), BW5.out, World.ownsRow_nil _ _ _ _, NB5.out, K25.blk OB2.out (by simp), KT.refl _ _⟩⟩
  have VB5 : Aside0 (w5.heap[vb]? = some (.cells #[.int .i64 0, .int .i64 0] 35 (0, 0))) := ⟨K25.blk VB2.out (by simp)⟩
  have LZ5 := Aside0.mk (Lz.fresh L3.out (fun h => by simp [LxA.s0] at h) K35 (by simp) (by simp))
  clear hw5 B5 K35 K25 KW5 NB5 VB2 OB2 BW2 L3 B3 BW3 N4 B4
  generalize w4.heap.size = nb at *
  go_wp2_with (fail)
  go_loopg [25] n (fun kq v25 w' => ∃ (i : Nat) (wj wt W0 : World) (s : St SS) (p : LP) (tx lvv : Value) (nn : NS) (S : BS) (x : Nat × Option Nat), wj = w' ∧ v25 = .int .i64 (i : Int) ∧ Aside0 (i + kq = n) ∧ Aside0 (Lz wt wj b s p tx i) ∧ Aside0 (TA w0 W0 wt g gb nb ob 0 [] (.slice none 0 0) nn lvv S) ∧ Aside0 (wt.heap[vb]? = some (.cells #[.int .i64 0, .int .i64 0] 35 (0, 0))) ∧ Aside0 (Below w0.heap.size w0 wj) ∧ Aside0 (s.at_ = i ∧ Bnd S (2 * i)) ∧ Aside0 (thr zs LxA.s0 (Nx.ns0 d) = thr (zs.drop i) s nn ∧ bldr zs LxA.s0 (Nx.ns0 d) ⟨[], none⟩ = bldr (zs.drop i) s nn S) ∧ Aside0 (LexPure.Inv zs s x ∧ x.1 ≤ s.at_ ∧ EI zs.length (max d 1) nn x))
  case atStart => exact ⟨0, _, _, _, LxA.s0, _, _, _, _, _, (0, none), rfl, rfl, ⟨by omega⟩, LZ5, TA5, VB5, BW5, ⟨rfl, ⟨Nat.zero_le _, fun q hq => by cases hq⟩⟩, ⟨rfl, rfl⟩, ⟨LxA.inv0 zs, Nat.le_refl _, _, _, Nx.inv_new _ _⟩⟩
  case round =>
    obtain ⟨i, wj, wt, W0, s, p, tx, lvv, nn, S, x, rfl, rfl, HI, LZ, TT, VT, BJ, HS, HE, HV⟩ := hrel
    clear LZ5 TA5 VB5 BW5 HBX
    cases gk with
    | zero =>
      have hi : i = n := by have := HI.out; omega
      have c1 : decide ((i : Int) < (n : Int)) = false := by simp; omega
      have c2 : decide (i < n) = false := by simp; omega
      have hdr : zs.drop i = [] := by rw [hi, ← HLZ.out, List.drop_length]
      have hE := HE.out
      rw [hdr, thr, bldr, closeT_eq, HS.out.1, hi] at hE
      have HE2 := Aside0.mk hE
      have HC := Aside0.mk (LxA.close_calls LZ.out.lx)
      obtain ⟨y, hy1, _⟩ := all_spans sub LxA.bads zs [] s x (by rw [HS.out.1]; exact hdr) HV.out.1 HV.out.2.1
      rw [LxA.closeV_eq] at hy1
      obtain ⟨hg1, hg2⟩ := toks_good (by have := HLZ.out; have := HN.out; omega) (by have := HD.out; omega) (LxA.closeV s).1 nn x y HV.out.2.2 hy1
      have HG1 := Aside0.mk hg1
      have HCL := Aside0.mk (closeV_len s)
      have HII := Aside0.mk hi
      clear hE hdr hy1 hg1 hg2 hi HE
      generalize LxA.closeV s = L at *
      obtain ⟨toks, k⟩ := L
      dsimp only at HC HE2 HG1 HCL
      go_wp2_with (fail)
      go_at_call 58
      refine HC.out.mono ?_
      rintro e w3 ⟨v, rfl, hpe⟩
      have PE := Aside0.mk hpe
      have B33 : Aside0 (Below w0.heap.size w0 w3) := ⟨BJ.out.trans (PE.out.2.1.mono HLB.out)⟩
      have TA3 : Aside0 (TA w0 w3 w3 g gb nb ob wj.heap.size toks v nn lvv S) := ⟨TT.out.lexed (lx_kt LZ.out.lx PE.out.2.1.size PE.out.2.2.1 LZ.out.kt LZ.out.fr) B33.out PE.out.2.2.2.1⟩
      have HTK := Aside0.mk (tk_calls TA3.out HT.out HG1.out HS.out.2 (by have := HN.out; have := HII.out; have := HCL.out; omega))
      clear hpe HC
      go_wp2_with (fail)
      refine HTK.out.mono ?_
      rintro e w4 ⟨rfl, ⟨lvv2, hTA⟩, hnil⟩
      have A4 := Aside0.mk hTA
      have VB4 : Aside0 (w4.heap[vb]? = some (.cells #[.int .i64 0, .int .i64 0] 35 (0, 0))) := ⟨hTA.kt.blk ((lx_kt LZ.out.lx PE.out.2.1.size PE.out.2.2.1 LZ.out.kt LZ.out.fr).blk VT.out (by decide)) (by decide)⟩
      clear hTA hnil HTK
      by_cases h1 : k = 1
      · have HE5 := HE2.out
        rw [if_pos h1] at HE5
        have HE5 := Aside0.mk HE5
        have HNC := Aside0.mk (nclose_calls A4.out.nx)
        have nbc : w4.cell? ⟨nb, 0, none⟩ = some (.pointer (some ⟨g, 0, none⟩)) := (blk_cell A4.out.nb_ 0).trans rfl
        subst h1
        clear HE2
        go_wp2_with (fail)
        go_at_call 117
        refine HNC.out.mono ?_
        rintro e w5 ⟨rfl, rfl⟩
        have v0 := (blk_cell VB4.out 0).trans rfl
        have v1 := (blk_cell VB4.out 1).trans rfl
        have y0 := blk_frozen VB4.out 0
        have y1 := blk_frozen VB4.out 1
        go_wp2_with (fail)
        refine bodyPost_ret (results_cell_row rfl _ _ vb 35 #[.int .i64 (closeN (takesV nn toks).1), .int .i64 (n : Int)] (0, 0) _ rfl (LxA.ver_put VB4.out (closeN (takesV nn toks).1) (n : Int)) Tryd.underlying35 rfl (by kernel_rfl)) rfl ?_
        rw [HE5.out.1, HE5.out.2]
        exact ⟨rfl, fin_ver VB4.out HVB.out A4.out.bel A4.out.bx (closeN (takesV nn toks).1) (n : Int)⟩
      · have HE5 := HE2.out
        rw [if_neg h1] at HE5
        have HE5 := Aside0.mk HE5
        have g1 : (k == 1) = false := by simp [h1]
        have g2 : decide (k = 1) = false := by simp [h1]
        clear h1 HE2
        have v0 := (blk_cell VB4.out 0).trans rfl
        have v1 := (blk_cell VB4.out 1).trans rfl
        have y0 := blk_frozen VB4.out 0
        have y1 := blk_frozen VB4.out 1
        go_wp2_with (fail)
        refine bodyPost_ret (results_cell_row rfl _ _ vb 35 #[.int .i64 k, .int .i64 (n : Int)] (0, 0) _ rfl (LxA.ver_put VB4.out k (n : Int)) Tryd.underlying35 rfl (by kernel_rfl)) rfl ?_
        rw [HE5.out.1, HE5.out.2]
        exact ⟨rfl, fin_ver VB4.out HVB.out A4.out.bel A4.out.bx k (n : Int)⟩
    | succ dd =>
      have hi : i < n := by have := HI.out; omega
      have c1 : decide ((i : Int) < (n : Int)) = true := by simp; omega
      have c2 : decide (i < n) = true := by simp; omega
      have I4 : Aside0 (wrap64 ((i : Int) + 1) = (i : Int) + 1) := ⟨by have := HN.out; unfold wrap64; omega⟩
      obtain ⟨xx, hx⟩ : ∃ xx : Int, xx = (i : Int) := ⟨_, rfl⟩
      have p1 : 0 ≤ xx := by omega
      have q1 : xx < (n : Int) := by omega
      obtain ⟨ad, rfl, hcell⟩ := (HR.out.below BJ.out).at_ xx p1 q1
      obtain ⟨z, hzz⟩ : ∃ z, z = rdOf 0 zs xx := ⟨_, rfl⟩
      rw [← hzz] at hcell
      have hl : i < zs.length := by rw [HLZ.out]; exact hi
      have hzi : zs[i]? = some z := by rw [hzz, hx]; unfold rdOf; rw [Int.toNat_natCast, List.getD_eq_getElem?_getD, List.getElem?_eq_getElem hl]; rfl
      have hz1 : 0 ≤ z ∧ z < 256 := HZ.out z (List.mem_of_getElem? hzi)
      have HST := Aside0.mk (step_callsT LZ.out.lx (LxN.Tab.below HT.out BJ.out HT.out.1) (by have := HLB.out; have := HT.out.1; omega) (by have := HN.out; omega) (by have := HS.out.1; have := HN.out; omega) z hz1.1 hz1.2)
      have HLI := Aside0.mk (look_inv sub LxA.bads zs s x z (by rw [HS.out.1]; exact hzi) HV.out.1 HV.out.2.1)
      have HLEN := Aside0.mk (LxA.lookV_len s z)
      have hE := HE.out
      rw [drop_cons hzi, thr, bldr] at hE
      have HE2 := Aside0.mk hE
      have q2 : decide (xx < (n : Int)) = true := decide_eq_true q1
      have w1 : wrap64 (xx + 1) = xx + 1 := by have := HN.out; unfold wrap64; omega
      have HX := Aside0.mk hx
      have HII := Aside0.mk hi
      rw [← hx]
      clear hzz hzi hz1 hl hx hi hE HE c1 c2
      replace p1 := eq_true p1
      replace q1 := eq_true q1
      generalize lookV sub s z = L at *
      obtain ⟨s', toks, f⟩ := L
      dsimp only at HST HLI HLEN HE2
      go_wp2_with (fail)
      go_at_call 56
      refine HST.out.mono ?_
      rintro e w3 ⟨v, rfl, hP0, hP1⟩
      have HP0 := Aside0.mk hP0
      have HP1 := Aside0.mk hP1
      clear hP0 hP1 HST hcell p1 q1 q2
      by_cases hf : f = 0
      · subst hf
        have POST := Aside0.mk (HP0.out rfl)
        obtain ⟨y, hy1, hy2, hy3⟩ : ∃ y, spans zs toks x = some y ∧ LexPure.Inv zs { s' with at_ := s.at_ + 1 } y ∧ y.1 ≤ s.at_ + 1 := by
          rcases HLI.out with ⟨_, h⟩ | ⟨h, _⟩
          · exact h
          · exact absurd rfl h
        obtain ⟨hg1, hg2⟩ := toks_good (by have := HLZ.out; have := HN.out; omega) (by have := HD.out; omega) toks nn x y HV.out.2.2 hy1
        have B33 : Aside0 (Below w0.heap.size w0 w3) := ⟨by obtain ⟨p', tx', h1, h2, _⟩ := POST.out; exact BJ.out.trans (h2.mono HLB.out)⟩
        have TA3 : Aside0 (TA w0 w3 w3 g gb nb ob wj.heap.size toks v nn lvv S) := ⟨by
          obtain ⟨p', tx', h1, h2, h3, h4, _⟩ := POST.out
          exact TT.out.lexed (lx_kt LZ.out.lx h2.size (fun k hk => (h3 k hk).1) LZ.out.kt LZ.out.fr) B33.out h4⟩
        have HTK := Aside0.mk (tk_calls TA3.out HT.out hg1 HS.out.2 (by have := HN.out; have := HII.out; have := HLEN.out; omega))
        have HY := Aside0.mk (And.intro hy2 (And.intro hy3 hg2))
        clear hy1 hy2 hy3 hg1 hg2
        go_wp2_with (fail)
        refine HTK.out.mono ?_
        rintro e w4 ⟨rfl, ⟨lvv2, hTA⟩, hnil⟩
        have A4 := Aside0.mk hTA
        have HNIL := Aside0.mk hnil
        have HN2 := Aside0.mk (thr_next (o := .cells #[] 0) LZ.out TT.out VT.out POST.out hTA hnil)
        have VB4 : Aside0 (w4.heap[vb]? = some (.cells #[.int .i64 0, .int .i64 0] 35 (0, 0))) := ⟨by
          obtain ⟨p', tx', h1, h2, h3, h4, _⟩ := POST.out
          exact hTA.kt.blk ((lx_kt LZ.out.lx h2.size (fun k hk => (h3 k hk).1) LZ.out.kt LZ.out.fr).blk VT.out (by decide)) (by decide)⟩
        clear hTA hnil HTK
        by_cases hq : (takesV nn toks).2.1 = 0
        · have HE3 := HE2.out
          have hf0 : ¬ faultT (takesV nn toks).1 0 ≠ 0 := by simp [faultT]
          have hq0 : ¬ (takesV nn toks).2.1 ≠ 0 := by simp [hq]
          rw [if_neg hq0, if_neg hq0, if_neg hf0, if_neg hf0] at HE3
          have HE4 := Aside0.mk HE3
          have HEI := Aside0.mk (HY.out.2.2 hq)
          have B44 : Aside0 (Below w0.heap.size w0 w4) := ⟨A4.out.bel⟩
          have HBS : Aside0 (Bnd (evsB S nn toks) (2 * (i + 1))) := ⟨evsB_bnd HS.out.2 nn (by have := HLEN.out; omega)⟩
          rw [hq]
          clear HE3 hq hq0 hf0 HE2
          go_wp2_with (fail)
          obtain ⟨wt', W0', p', tx', lvv'', n1, n2, n3⟩ := HN2.out
          have hxi : xx + 1 = ((i + 1 : Nat) : Int) := by have := HX.out; omega
          go_roundg dd
          case measure => omega
          case rel => exact ⟨i + 1, w4, wt', W0', { s' with at_ := s.at_ + 1 }, p', tx', lvv'', _, _, _, rfl, by rw [w1, hxi], ⟨by have := HI.out; omega⟩, ⟨n1⟩, ⟨n2⟩, ⟨n3⟩, B44, ⟨by have := HS.out.1; simp only; omega, HBS.out⟩, HE4, ⟨HY.out.1, HY.out.2.1, HEI.out⟩⟩
        · have HE3 := HE2.out
          rw [if_pos hq, if_pos hq] at HE3
          have HE4 := Aside0.mk HE3
          have k1 : ((takesV nn toks).2.1 != 0) = true := by simp [hq]
          have k2 : ((takesV nn toks).2.1 == 0) = false := by simp [hq]
          have k3 : decide ((takesV nn toks).2.1 = 0) = false := by simp [hq]
          clear HE3 hq HE2
          have v0 := (blk_cell VB4.out 0).trans rfl
          have v1 := (blk_cell VB4.out 1).trans rfl
          have y0 := blk_frozen VB4.out 0
          have y1 := blk_frozen VB4.out 1
          generalize takesV nn toks = Z at *
          obtain ⟨n9, k9, a9⟩ := Z
          dsimp only at HE4 A4 k1 k2 k3 ⊢
          go_wp2_with (fail)
          refine bodyPost_ret (results_cell_row rfl _ _ vb 35 #[.int .i64 k9, .int .i64 (a9 : Int)] (0, 0) _ rfl (LxA.ver_put VB4.out k9 (a9 : Int)) Tryd.underlying35 rfl (by kernel_rfl)) rfl ?_
          rw [HE4.out.1, HE4.out.2]
          exact ⟨rfl, fin_ver VB4.out HVB.out A4.out.bel A4.out.bx k9 (a9 : Int)⟩
      · have HF := Aside0.mk hf
        obtain ⟨hpe, cs, hcs⟩ := HP1.out hf
        have PE := Aside0.mk hpe
        have CS3 := Aside0.mk hcs
        obtain ⟨y, hy1⟩ : ∃ y, spans zs toks x = some y := by
          rcases HLI.out with ⟨h, _⟩ | ⟨_, _, y, h, _⟩
          · exact absurd h hf
          · exact ⟨y, h⟩
        obtain ⟨hg1, hg2⟩ := toks_good (by have := HLZ.out; have := HN.out; omega) (by have := HD.out; omega) toks nn x y HV.out.2.2 hy1
        have B33 : Aside0 (Below w0.heap.size w0 w3) := ⟨BJ.out.trans (PE.out.2.1.mono HLB.out)⟩
        have TA3 : Aside0 (TA w0 w3 w3 g gb nb ob wj.heap.size toks v nn lvv S) := ⟨TT.out.lexed (lx_kt LZ.out.lx PE.out.2.1.size PE.out.2.2.1 LZ.out.kt LZ.out.fr) B33.out PE.out.2.2.2.1⟩
        have HTK := Aside0.mk (tk_calls TA3.out HT.out hg1 HS.out.2 (by have := HN.out; have := HII.out; have := HLEN.out; omega))
        have g1 : (f != 0) = true := by simp [hf]
        have g2 : decide (f = 0) = false := by simp [hf]
        have g3 : (f == 0) = false := by simp [hf]
        clear hy1 hg1 hg2 hpe hcs hf
        go_wp2_with (fail)
        refine HTK.out.mono ?_
        rintro e w4 ⟨rfl, ⟨lvv2, hTA⟩, hnil⟩
        have A4 := Aside0.mk hTA
        have VB4 : Aside0 (w4.heap[vb]? = some (.cells #[.int .i64 0, .int .i64 0] 35 (0, 0))) := ⟨hTA.kt.blk ((lx_kt LZ.out.lx PE.out.2.1.size PE.out.2.2.1 LZ.out.kt LZ.out.fr).blk VT.out (by decide)) (by decide)⟩
        have LA4 : Aside0 (w4.cell? ⟨b, 0, none⟩ = some (.int .i64 (s.at_ : Int))) := ⟨cell_same ((hTA.kt.blk CS3.out (by decide)).trans CS3.out.symm) PE.out.1⟩
        clear hTA hnil HTK
        by_cases hq : (takesV nn toks).2.1 = 0
        · have hq0 : ¬ (takesV nn toks).2.1 ≠ 0 := by simp [hq]
          have HE3 := HE2.out
          rw [if_neg hq0, if_neg hq0] at HE3
          have HE4 := Aside0.mk HE3
          have HDN := Aside0.mk (Nx.done_calls A4.out.nx)
          have HAT := Aside0.mk (LxA.at_calls LA4.out)
          have nbc : w4.cell? ⟨nb, 0, none⟩ = some (.pointer (some ⟨g, 0, none⟩)) := (blk_cell A4.out.nb_ 0).trans rfl
          rw [hq]
          clear HE3 hq hq0 HE2
          generalize takesV nn toks = Z at *
          obtain ⟨n9, k9, a9⟩ := Z
          dsimp only at HE4 A4 HDN
          by_cases h8 : f = 8
          · subst h8
            by_cases h6 : n9.may = 6
            · have HE5 := HE4.out
              rw [show faultT n9 8 = 9 by unfold faultT; rw [if_pos ⟨rfl, h6⟩], if_pos (by decide), if_pos (by decide)] at HE5
              have HE5 := Aside0.mk HE5
              rw [show decide (n9.may = 6) = true by simp [h6]] at HDN
              clear h6 HE4
              go_wp2_with (fail)
              go_at_call 38
              refine HDN.out.mono ?_
              rintro e w5 ⟨rfl, rfl⟩
              go_wp2_with (fail)
              go_at_call 57
              refine HAT.out.mono ?_
              rintro e w5 ⟨rfl, rfl⟩
              have v0 := (blk_cell VB4.out 0).trans rfl
              have v1 := (blk_cell VB4.out 1).trans rfl
              have y0 := blk_frozen VB4.out 0
              have y1 := blk_frozen VB4.out 1
              go_wp2_with (fail)
              refine bodyPost_ret (results_cell_row rfl _ _ vb 35 #[.int .i64 9, .int .i64 (s.at_ : Int)] (0, 0) _ rfl (LxA.ver_put VB4.out 9 (s.at_ : Int)) Tryd.underlying35 rfl (by kernel_rfl)) rfl ?_
              rw [HE5.out.1, HE5.out.2]
              exact ⟨rfl, fin_ver VB4.out HVB.out A4.out.bel A4.out.bx 9 (s.at_ : Int)⟩
            · have HE5 := HE4.out
              rw [show faultT n9 8 = 8 by unfold faultT; rw [if_neg (fun h => h6 h.2)], if_pos (by decide), if_pos (by decide)] at HE5
              have HE5 := Aside0.mk HE5
              rw [show decide (n9.may = 6) = false by simp [h6]] at HDN
              clear h6 HE4
              go_wp2_with (fail)
              go_at_call 38
              refine HDN.out.mono ?_
              rintro e w5 ⟨rfl, rfl⟩
              go_wp2_with (fail)
              go_at_call 57
              refine HAT.out.mono ?_
              rintro e w5 ⟨rfl, rfl⟩
              have v0 := (blk_cell VB4.out 0).trans rfl
              have v1 := (blk_cell VB4.out 1).trans rfl
              have y0 := blk_frozen VB4.out 0
              have y1 := blk_frozen VB4.out 1
              go_wp2_with (fail)
              refine bodyPost_ret (results_cell_row rfl _ _ vb 35 #[.int .i64 8, .int .i64 (s.at_ : Int)] (0, 0) _ rfl (LxA.ver_put VB4.out 8 (s.at_ : Int)) Tryd.underlying35 rfl (by kernel_rfl)) rfl ?_
              rw [HE5.out.1, HE5.out.2]
              exact ⟨rfl, fin_ver VB4.out HVB.out A4.out.bel A4.out.bx 8 (s.at_ : Int)⟩
          · have HE5 := HE4.out
            rw [show faultT n9 f = f by unfold faultT; rw [if_neg (fun h => h8 h.1)], if_pos HF.out, if_pos HF.out] at HE5
            have HE5 := Aside0.mk HE5
            have i1 : (f == 8) = false := by simp [h8]
            have i2 : decide (f = 8) = false := by simp [h8]
            clear h8 HE4 HDN
            go_wp2_with (fail)
            go_at_call 57
            refine HAT.out.mono ?_
            rintro e w5 ⟨rfl, rfl⟩
            have v0 := (blk_cell VB4.out 0).trans rfl
            have v1 := (blk_cell VB4.out 1).trans rfl
            have y0 := blk_frozen VB4.out 0
            have y1 := blk_frozen VB4.out 1
            go_wp2_with (fail)
            refine bodyPost_ret (results_cell_row rfl _ _ vb 35 #[.int .i64 f, .int .i64 (s.at_ : Int)] (0, 0) _ rfl (LxA.ver_put VB4.out f (s.at_ : Int)) Tryd.underlying35 rfl (by kernel_rfl)) rfl ?_
            rw [HE5.out.1, HE5.out.2]
            exact ⟨rfl, fin_ver VB4.out HVB.out A4.out.bel A4.out.bx f (s.at_ : Int)⟩
        · have HE3 := HE2.out
          rw [if_pos hq, if_pos hq] at HE3
          have HE4 := Aside0.mk HE3
          have k1 : ((takesV nn toks).2.1 != 0) = true := by simp [hq]
          have k2 : ((takesV nn toks).2.1 == 0) = false := by simp [hq]
          have k3 : decide ((takesV nn toks).2.1 = 0) = false := by simp [hq]
          clear HE3 hq HE2
          have v0 := (blk_cell VB4.out 0).trans rfl
          have v1 := (blk_cell VB4.out 1).trans rfl
          have y0 := blk_frozen VB4.out 0
          have y1 := blk_frozen VB4.out 1
          generalize takesV nn toks = Z at *
          obtain ⟨n9, k9, a9⟩ := Z
          dsimp only at HE4 A4 k1 k2 k3 ⊢
          go_wp2_with (fail)
          refine bodyPost_ret (results_cell_row rfl _ _ vb 35 #[.int .i64 k9, .int .i64 (a9 : Int)] (0, 0) _ rfl (LxA.ver_put VB4.out k9 (a9 : Int)) Tryd.underlying35 rfl (by kernel_rfl)) rfl ?_
          rw [HE4.out.1, HE4.out.2]
          exact ⟨rfl, fin_ver VB4.out HVB.out A4.out.bel A4.out.bx k9 (a9 : Int)⟩
end Go.Proofs.YtlhpflicchchlaaDoor.Tr
