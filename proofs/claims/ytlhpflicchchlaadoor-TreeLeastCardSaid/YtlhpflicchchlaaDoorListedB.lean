/- A region that draws its order is walked in the order of its listing, where a look at its operations shows that all orders come to one. Conditions: none. -/
import Derived.Tactics
import Derived.Orders
import Derived.Laws.Panics
import Derived.Laws.Sem
namespace Go.Proofs.YtlhpflicchchlaaDoor.ListedB
open Go

/-- What holds of the normal end alone: nothing else may happen. -/
def onN (Q : Exit → Act → World → Prop) : Exit → Act → World → Prop
  | .normal, a, w => Q .normal a w
  | _, _, _ => False
theorem onN_out {Q : Exit → Act → World → Prop} : ¬ LetsOut (onN Q) := fun ⟨_, _, h⟩ => h

/-! ### what does not look at the world -/
section
variable {α β : Type} {P : Program}
def Flat (P : Program) (s : Sem α) : Prop := ∀ w v w1, s.run P w = .ok v w1 → w1 = w ∧ ∀ w2, s.run P w2 = .ok v w2
def Mild (P : Program) (s : Sem α) : Prop := ∀ w v w1, s.run P w = .ok v w1 → w1 = w
theorem Flat.mild {s : Sem α} (h : Flat P s) : Mild P s := fun w v w1 e => (h w v w1 e).1
theorem andThen_ok {r : Result α} {f : α → World → Result β} {b : β} {w' : World} (h : r.andThen f = .ok b w') : ∃ a w1, r = .ok a w1 ∧ f a w1 = .ok b w' := by
  cases r with
  | ok a w1 => exact ⟨a, w1, rfl, h⟩
  | halt x w1 => simp [Result.andThen] at h
theorem Flat.pure (a : α) : Flat P (Pure.pure a : Sem α) := fun w v w1 h => by
  have h : Result.ok a w = Result.ok v w1 := h
  injection h with h1 h2
  subst h1; subst h2
  exact ⟨rfl, fun _ => rfl⟩
theorem Flat.bind {s : Sem α} {f : α → Sem β} (h : Flat P s) (hf : ∀ a, Flat P (f a)) : Flat P (s >>= f) := fun w v w1 e => by
  rw [Sem.run_bind] at e
  obtain ⟨a, w', e1, e2⟩ := andThen_ok e
  obtain ⟨rfl, h2⟩ := h _ _ _ e1
  obtain ⟨rfl, h4⟩ := hf a _ _ _ e2
  exact ⟨rfl, fun w2 => by rw [Sem.run_bind, h2 w2]; exact h4 w2⟩
theorem Mild.bind {s : Sem α} {f : α → Sem β} (h : Mild P s) (hf : ∀ a, Mild P (f a)) : Mild P (s >>= f) := fun w v w1 e => by
  rw [Sem.run_bind] at e
  obtain ⟨a, w', e1, e2⟩ := andThen_ok e
  obtain rfl := h _ _ _ e1
  exact hf a _ _ _ e2
theorem Flat.halt (h : Halt) : Flat P (.halt h : Sem α) := fun w v w1 e => by cases e
theorem Flat.stuck (s : String) : Flat P (stuck s : Sem α) := Flat.halt _
theorem Flat.unsupported (s : Unsupported) : Flat P (unsupported s : Sem α) := Flat.halt _
theorem Flat.bounds (k : IntKind) (x y : Int) (c : BoundsCode) : Flat P (boundsPanic k x y c : Sem α) := fun w v w1 e => by
  obtain ⟨s, w', h⟩ := run_boundsPanic (α := α) (P := P) (w := w) k x y c
  rw [h] at e; cases e
theorem Flat.error (m : String) : Flat P (runtimePanic (.error m) : Sem α) := fun w v w1 e => by cases e
theorem Flat.nilDeref : Flat P (runtimePanic .nilDeref : Sem α) := fun w v w1 e => by cases e
theorem Flat.program : Flat P (program : Sem Program) := fun w v w1 h => by
  have h : Result.ok P w = Result.ok v w1 := h
  injection h with h1 h2
  subst h1; subst h2
  exact ⟨rfl, fun _ => rfl⟩
theorem Flat.typeInfo (t : TypeId) : Flat P (typeInfo t) := by
  unfold Go.typeInfo
  refine Flat.bind Flat.program fun p => ?_
  split
  · exact Flat.pure _
  · exact Flat.stuck _
theorem Flat.underlying (t : TypeId) : Flat P (underlying t) := by
  unfold Go.underlying
  refine Flat.bind Flat.program fun p => ?_
  split
  · exact Flat.pure _
  · exact Flat.stuck _
theorem Flat.sizeOf (t : TypeId) : Flat P (sizeOf t) := Flat.bind (Flat.typeInfo t) fun _ => Flat.pure _
theorem Flat.isAgg (t : TypeId) : Flat P (isAgg t) := by
  unfold Go.isAgg
  refine Flat.bind (Flat.underlying t) fun d => ?_
  split <;> exact Flat.pure _
theorem Flat.asInt (v : Value) : Flat P (asIntOf v) := by
  unfold asIntOf
  split
  · exact Flat.pure _
  · exact Flat.unsupported _
  · exact Flat.stuck _
theorem Flat.asBool (v : Value) : Flat P (asBool v) := by
  unfold Go.asBool
  split
  · exact Flat.pure _
  · exact Flat.stuck _
theorem Flat.part (t : TypeId) (cs : Array Value) (off : Nat) : Flat P (part t cs off) := by
  unfold Go.part
  refine Flat.bind (Flat.isAgg t) fun b => ?_
  split
  · exact Flat.bind (Flat.sizeOf t) fun _ => Flat.pure _
  · split
    · exact Flat.pure _
    · exact Flat.stuck _
theorem Flat.sureAddr (v : Value) : Flat P (Instr.sureAddr v) := by
  unfold Instr.sureAddr
  split
  · exact Flat.pure _
  · exact Flat.stuck _
theorem Flat.sliceBound (x : Value) (y : Nat) (c : BoundsCode) : Flat P (Instr.sliceBound x y c) := by
  unfold Instr.sliceBound
  refine Flat.bind (Flat.asInt x) fun p => ?_
  split
  split
  · exact Flat.pure _
  · exact Flat.bounds _ _ _ _
theorem Flat.sliceBounds (b : Bool) (len cap : Nat) (lo hi mx : Option Value) : Flat P (Instr.sliceBounds b len cap lo hi mx) := by
  unfold Instr.sliceBounds
  repeat' first
    | exact Flat.pure _
    | exact Flat.stuck _
    | exact Flat.unsupported _
    | exact Flat.bounds _ _ _ _
    | exact Flat.error _
    | exact Flat.nilDeref
    | exact Flat.program
    | exact Flat.underlying _
    | exact Flat.sizeOf _
    | exact Flat.asInt _
    | exact Flat.sureAddr _
    | exact Flat.part _ _ _
    | exact Flat.sliceBound _ _ _
    | refine Flat.bind ?_ fun _ => ?_
    | split
    | dsimp only
theorem Flat.asAddr (v : Value) : Flat P (asAddr v) := by
  unfold Go.asAddr
  split
  · exact Flat.pure _
  · exact Flat.nilDeref
  · exact Flat.stuck _
theorem Flat.slice (t : TypeId) (x : Value) (lo hi mx : Option Value) : Flat P (Instr.slice t x lo hi mx) := by
  unfold Instr.slice
  repeat' first
    | exact Flat.pure _
    | exact Flat.stuck _
    | exact Flat.unsupported _
    | exact Flat.bounds _ _ _ _
    | exact Flat.error _
    | exact Flat.nilDeref
    | exact Flat.program
    | exact Flat.underlying _
    | exact Flat.sizeOf _
    | exact Flat.asInt _
    | exact Flat.asAddr _
    | exact Flat.sureAddr _
    | exact Flat.part _ _ _
    | exact Flat.sliceBounds _ _ _ _ _ _
    | refine Flat.bind ?_ fun _ => ?_
    | split
    | dsimp only
theorem Flat.sliceAt (t : TypeId) (x : Value) (lo hi mx : Option Value) : Flat P (Instr.sliceAt t x lo hi mx) := by
  unfold Instr.sliceAt
  refine Flat.bind (Flat.underlying t) fun d => ?_
  split
  · exact Flat.bind (Flat.sureAddr _) fun a => Flat.bind (Flat.sliceBounds _ _ _ _ _ _) fun _ => Flat.bind (Flat.sizeOf _) fun _ => Flat.pure _
  · exact Flat.slice _ _ _ _ _
theorem Flat.index (t : TypeId) (x i : Value) : Flat P (Instr.index t x i) := by
  unfold Instr.index
  refine Flat.bind (Flat.asInt i) fun p => ?_
  split
  refine Flat.bind (Flat.underlying t) fun d => ?_
  split
  · split
    · exact Flat.bind (Flat.sizeOf _) fun _ => Flat.part _ _ _
    · exact Flat.bounds _ _ _ _
  · split
    · exact Flat.pure _
    · exact Flat.bounds _ _ _ _
  · exact Flat.stuck _
theorem Flat.indexAt (t : TypeId) (x i : Value) : Flat P (Instr.indexAt t x i) := by
  unfold Instr.indexAt
  repeat' first
    | exact Flat.pure _
    | exact Flat.stuck _
    | exact Flat.unsupported _
    | exact Flat.bounds _ _ _ _
    | exact Flat.error _
    | exact Flat.nilDeref
    | exact Flat.program
    | exact Flat.underlying _
    | exact Flat.sizeOf _
    | exact Flat.asInt _
    | exact Flat.asAddr _
    | exact Flat.sureAddr _
    | exact Flat.part _ _ _
    | exact Flat.sliceBounds _ _ _ _ _ _
    | refine Flat.bind ?_ fun _ => ?_
    | split
    | dsimp only
theorem Flat.extract (v : Value) (i : Nat) : Flat P (Instr.extract v i) := by
  unfold Instr.extract
  split
  · split
    · exact Flat.pure _
    · exact Flat.stuck _
  · exact Flat.stuck _
theorem Flat.asAgg (v : Value) : Flat P (asAgg v) := by
  unfold Go.asAgg
  split
  · exact Flat.pure _
  · exact Flat.stuck _
theorem Flat.field (t : TypeId) (x : Value) (i : Nat) : Flat P (Instr.field t x i) := by
  unfold Instr.field
  refine Flat.bind (Flat.underlying t) fun d => ?_
  split
  · split
    · exact Flat.bind (Flat.asAgg _) fun _ => Flat.part _ _ _
    · exact Flat.stuck _
  · exact Flat.stuck _
theorem Flat.unary (op : UnOp) (x : Value) : Flat P (Op.unary op x) := by
  unfold Op.unary
  split
  · unfold Op.intArith; exact Flat.pure _
  · unfold Op.intBits; exact Flat.pure _
  · exact Flat.pure _
  · exact Flat.pure _
  · exact Flat.pure _
  · exact Flat.unsupported _
  · exact Flat.unsupported _
  · exact Flat.stuck _
/-- Two operands whose operation looks at nothing else. -/
def okPair : BinOp → Value → Value → Bool
  | _, .int .., .int .. => true
  | _, .string _, .string _ => true
  | _, .bool _, .bool _ => true
  | .eql, .agg _, .agg _ => true
  | .neq, .agg _, .agg _ => true
  | _, _, _ => false
/-- Whose values are compared part by part. -/
def aggT (P : Program) (t : TypeId) : Bool := match P.underlying t with | some (.struct _) => true | some (.array _ _) => true | none => true | _ => false
theorem Flat.under {t : TypeId} {d : TypeDesc} (h : P.underlying t = some d) {f : TypeDesc → Sem α} (hf : Flat P (f d)) : Flat P (Go.underlying t >>= f) := fun w v w1 e => by
  rw [Sem.run_bind, run_underlying h] at e
  obtain ⟨h1, h2⟩ := hf w v w1 e
  exact ⟨h1, fun w2 => by rw [Sem.run_bind, run_underlying h]; exact h2 w2⟩
theorem Flat.eqAgg {t : TypeId} (ht : aggT P t = false) (u v : Array Value) : Flat P (Op.equal t (.agg u) (.agg v)) := by
  show Flat P (Op.equalIn (9999 + 1) t _ _)
  unfold Op.equalIn
  unfold aggT at ht
  cases hd : P.underlying t with
  | none => simp [hd] at ht
  | some d =>
    rw [hd] at ht
    refine Flat.under hd ?_
    cases d <;> first | exact Flat.stuck _ | (exfalso; simp at ht; done)
theorem Flat.guardAgg {t : TypeId} (ht : aggT P t = false) (op : BinOp) (x y : Operand) (u v : Array Value) : Flat P (eqGuard op t x y (.agg u) (.agg v)) := by
  have h1 : Flat P (Op.eqGuardIn Op.maxDepth t (.agg u) (.agg v)) := by
    show Flat P (Op.eqGuardIn (9999 + 1) t _ _)
    unfold Op.eqGuardIn
    unfold aggT at ht
    cases hd : P.underlying t with
    | none => simp [hd] at ht
    | some d =>
      rw [hd] at ht
      refine Flat.under hd ?_
      cases d <;> first | exact Flat.pure _ | (exfalso; simp at ht; done)
  unfold eqGuard
  repeat' first
    | exact Flat.pure _
    | exact Flat.unsupported _
    | exact h1
    | refine Flat.bind Flat.program fun _ => ?_
    | refine Flat.bind h1 fun _ => ?_
    | split
    | dsimp only
theorem Flat.binAgg {t : TypeId} (ht : aggT P t = false) (op : BinOp) (u v : Array Value) (h : okPair op (.agg u) (.agg v) = true) : Flat P (binOp op t (.agg u) (.agg v)) := by
  cases op <;> first
    | (exfalso; simp [okPair] at h; done)
    | exact Flat.bind (Flat.eqAgg ht u v) fun _ => Flat.pure _
theorem Flat.binInt (op : BinOp) (t : TypeId) (k k' : IntKind) (x y : Int) : Flat P (binOp op t (.int k x) (.int k' y)) := by
  cases op <;> simp only [binOp] <;> first
    | (unfold Op.shift; split
       · exact Flat.error _
       · exact Flat.pure _)
    | (split
       · exact Flat.stuck _
       · first
         | (unfold Op.intArith; exact Flat.pure _)
         | (unfold Op.intBits; exact Flat.pure _)
         | (unfold Op.intCmp; first | exact Flat.pure _ | exact Flat.stuck _)
         | (unfold Op.intDiv; split
            · exact Flat.error _
            · exact Flat.pure _))
theorem Flat.binStr (op : BinOp) (t : TypeId) (x y : ByteArray) : Flat P (binOp op t (.string x) (.string y)) := by
  cases op <;> simp only [binOp, Op.stringOp] <;> first
    | exact Flat.pure _
    | exact Flat.stuck _
    | (split
       · exact Flat.unsupported _
       · exact Flat.pure _)
theorem Flat.eqBool (t : TypeId) (x y : Bool) : Flat P (Op.equal t (.bool x) (.bool y)) := by
  show Flat P (Op.equalIn (9999 + 1) t _ _)
  unfold Op.equalIn
  refine Flat.bind (Flat.underlying t) fun d => ?_
  cases d <;> first | exact Flat.pure _ | exact Flat.stuck _
theorem Flat.binBool (op : BinOp) (t : TypeId) (x y : Bool) : Flat P (binOp op t (.bool x) (.bool y)) := by
  cases op <;> simp only [binOp] <;> first
    | exact Flat.stuck _
    | exact Flat.bind (Flat.eqBool t x y) fun _ => Flat.pure _
theorem Flat.guardInt (op : BinOp) (t : TypeId) (x y : Operand) (a b : Value) (h2 : ∀ u v, ¬ (a = .agg u ∧ b = .agg v)) (h : okPair op a b = true) : Flat P (eqGuard op t x y a b) := by
  have h1 : ¬ (a = .nilIface ∧ b = .nilIface) := by rintro ⟨rfl, rfl⟩; cases op <;> simp [okPair] at h
  unfold eqGuard
  cases op <;> dsimp only <;> first
    | exact Flat.pure _
    | (split
       · exact Flat.pure _
       · split
         · exact absurd ⟨rfl, rfl⟩ h1
         · exact absurd ⟨rfl, rfl⟩ (h2 _ _)
         · exact Flat.pure _)
theorem Flat.len (t ty : TypeId) (x : Value) (h : P.underlying t = some .string ∨ ∃ e, P.underlying t = some (.slice e)) : Flat P (Builtin.len_ #[t] ty #[x]) := by
  intro w v w1 e
  rcases h with h | ⟨d, h⟩
  · cases x <;> simp [Builtin.len_, run_underlying h, go_sem] at e
    obtain ⟨rfl, rfl⟩ := e
    exact ⟨rfl, fun w2 => by simp [Builtin.len_, run_underlying h, go_sem]⟩
  · cases x <;> simp [Builtin.len_, run_underlying h, go_sem] at e
    obtain ⟨rfl, rfl⟩ := e
    exact ⟨rfl, fun w2 => by simp [Builtin.len_, run_underlying h, go_sem]⟩
end

/-! ### an operation's kind -/
def isInt (P : Program) (t : TypeId) : Bool := match P.underlying t with | some (.int _) => true | _ => false
def isRow (P : Program) (t : TypeId) : Bool := match P.underlying t with | some .string => true | some (.slice _) => true | _ => false
def fieldOk (P : Program) (s : TypeId) (f : Nat) : Bool := match P.underlying s with
  | some (.struct fs) => match fs[f]? with
    | some fl => match P.info? fl.type with
      | some i => i.size != 0
      | none => false
    | none => false
  | _ => false
def isBytes (P : Program) (t : TypeId) : Bool := match P.underlying t with
  | some (.slice e) => match P.underlying e with
    | some (.int .u8) => true
    | _ => false
  | _ => false
def isStr (P : Program) (t : TypeId) : Bool := match P.underlying t with | some .string => true | _ => false
/-- 0: it looks at no memory, and turns none; 1: it turns none; 2: what else there is. -/
def kindOf (P : Program) (o : Oper) : Nat := match o.op with
  | .move _ | .assign _ | .pick .. | .extract .. | .unOp .. | .index .. | .slice .. | .indexAddr .. | .field .. => 0
  | .binOp _ t .. => if aggT P t then 2 else 0
  | .convert s d _ => if isInt P s && isInt P d then 0 else if isBytes P s && isStr P d then 1 else 2
  | .nilCheck _ => 0
  | .fieldAddr s _ f => if fieldOk P s f then 0 else 2
  | .call c => match c.callee with
    | .builtin .len => if c.argTypes.size = 1 && isRow P (c.argTypes.getD 0 0) && c.args.size = 1 then 0 else 2
    | _ => 2
  | .load .. => 1
  | _ => 2
def fit (ops : Array Oper) (o : Oper) (a : Act) : Bool := match o.op with
  | .binOp op _ x y _ => !Region.wanted o (yielded ops a.tmps) || okPair op (a.eval x) (a.eval y)
  | .convert _ _ x => !Region.wanted o (yielded ops a.tmps) || (match a.eval x with | .int .. => true | .slice .. => true | _ => false)
  | .nilCheck x => !Region.wanted o (yielded ops a.tmps) || (match a.eval x with | .pointer (some _) => true | _ => false)
  | _ => true
def FlatV (P : Program) (s : Sem Next) : Prop := ∀ w n w1, s.run P w = .ok n w1 → w1 = w ∧ (∃ v, n = .value v) ∧ ∀ w2, s.run P w2 = .ok n w2
def MildV (P : Program) (s : Sem Next) : Prop := ∀ w n w1, s.run P w = .ok n w1 → w1 = w ∧ ∃ v, n = .value v
section
variable {P : Program} {ops : Array Oper}
theorem FlatV.mild {s : Sem Next} (h : FlatV P s) : MildV P s := fun w n w1 e => ⟨(h w n w1 e).1, (h w n w1 e).2.1⟩
theorem FlatV.pure (v : Value) : FlatV P (Pure.pure (.value v)) := fun w n w1 e => by
  have e : Result.ok (Next.value v) w = Result.ok n w1 := e
  injection e with h1 h2
  subst h1; subst h2
  exact ⟨rfl, ⟨_, rfl⟩, fun _ => rfl⟩
theorem Flat.v {s : Sem Value} (h : Flat P s) : FlatV P (do Pure.pure (.value (← s))) := fun w n w1 e => by
  rw [Sem.run_bind] at e
  obtain ⟨v, w', e1, e2⟩ := andThen_ok e
  obtain ⟨rfl, h2⟩ := h _ _ _ e1
  have e2 : Result.ok (Next.value v) w' = Result.ok n w1 := e2
  injection e2 with h3 h4
  subst h3; subst h4
  exact ⟨rfl, ⟨_, rfl⟩, fun w2 => by rw [Sem.run_bind, h2 w2]; rfl⟩
theorem Mild.v {s : Sem Value} (h : Mild P s) : MildV P (do Pure.pure (.value (← s))) := fun w n w1 e => by
  rw [Sem.run_bind] at e
  obtain ⟨v, w', e1, e2⟩ := andThen_ok e
  obtain rfl := h _ _ _ e1
  have e2 : Result.ok (Next.value v) w' = Result.ok n w1 := e2
  injection e2 with h3 h4
  subst h3; subst h4
  exact ⟨rfl, _, rfl⟩
theorem Flat.bin {op : BinOp} {t : TypeId} {x y : Operand} {a b : Value} (ht : aggT P t = false) (h : okPair op a b = true) : Flat P (do eqGuard op t x y a b; binOp op t a b) := by
  by_cases hag : ∃ u v, a = .agg u ∧ b = .agg v
  · obtain ⟨u, v, rfl, rfl⟩ := hag
    exact Flat.bind (Flat.guardAgg ht op x y u v) fun _ => Flat.binAgg ht op u v h
  · refine Flat.bind (Flat.guardInt op t x y a b (fun u v hh => hag ⟨u, v, hh.1, hh.2⟩) h) fun _ => ?_
    cases a <;> cases b <;> try (first | exact Flat.binInt _ _ _ _ _ _ | exact Flat.binStr _ _ _ _ | exact Flat.binBool _ _ _ _ | exact absurd ⟨_, _, rfl, rfl⟩ hag | (exfalso; simp [okPair] at h; done))
theorem Mild.load1 (a : Addr) : Mild P (load a) := fun w v w1 e => by
  unfold Go.load at e
  simp only [Sem.run] at e
  split at e
  · cases e; rfl
  · split at e <;> cases e
    rfl
theorem Mild.cellsFrom (a : Addr) : ∀ (n i : Nat) (acc : Array Value), Mild P (loadCellsFrom a i n acc)
  | 0, _, _ => (Flat.pure _).mild
  | n + 1, i, acc => Mild.bind (Mild.load1 _) fun v => Mild.cellsFrom a n (i + 1) (acc.push v)
theorem Mild.cells (n : Nat) (a : Addr) : Mild P (loadCells a n) := Mild.cellsFrom a n 0 #[]
theorem Mild.load (t : TypeId) (x : Value) : Mild P (Instr.loadAt t x) := by
  unfold Instr.loadAt
  refine Mild.bind (Flat.sureAddr x).mild fun a => ?_
  unfold loadVar
  refine Mild.bind (Flat.isAgg t).mild fun b => ?_
  split
  · refine Mild.bind (Flat.sizeOf t).mild fun n => Mild.bind (Mild.cells n a) fun cs => (Flat.pure _).mild
  · exact Mild.load1 a
theorem Flat.conv {s d : TypeId} (hs : isInt P s = true) (hd : isInt P d = true) (k : IntKind) (n : Int) : Flat P (convert s d (.int k n)) := by
  unfold isInt at hs hd
  split at hs <;> try (cases hs; done)
  rename_i k1 e1
  split at hd <;> try (cases hd; done)
  rename_i k2 e2
  intro w v w1 e
  simp [convert, run_underlying e1, run_underlying e2, Conv.intToInt, go_sem] at e
  obtain ⟨rfl, rfl⟩ := e
  exact ⟨rfl, fun w2 => by simp [convert, run_underlying e1, run_underlying e2, Conv.intToInt, go_sem]⟩
theorem Flat.convSlice {s d : TypeId} (hs : isInt P s = true) (hd : isInt P d = true) (A : Option Addr) (n c : Nat) : Flat P (convert s d (.slice A n c)) := by
  unfold isInt at hs hd
  split at hs <;> try (cases hs; done)
  rename_i k1 e1
  split at hd <;> try (cases hd; done)
  rename_i k2 e2
  intro w v w1 e
  simp [convert, run_underlying e1, run_underlying e2, go_sem] at e
theorem Mild.forList {α β : Type} (f : α → β → Sem (ForInStep β)) (hf : ∀ x b, Mild P (f x b)) : ∀ (l : List α) (b : β), Mild P (forIn l b f)
  | [], b => by rw [List.forIn_nil]; exact (Flat.pure b).mild
  | x :: l, b => by
    rw [List.forIn_cons]
    refine Mild.bind (hf x b) fun r => ?_
    cases r with
    | done b => exact (Flat.pure b).mild
    | yield b => exact Mild.forList f hf l b
theorem Mild.bytes (x : Value) : Mild P (Conv.bytesToString x) := by
  unfold Conv.bytesToString
  split
  · exact (Flat.pure _).mild
  · refine Mild.bind (Mild.cells _ _) fun cs => ?_
    refine Mild.bind ?_ fun s => (Flat.pure _).mild
    rw [← Array.forIn_toList]
    refine Mild.forList _ (fun c b => ?_) _ _
    split
    · exact (Flat.pure _).mild
    · exact (Flat.stuck _).mild
  · exact (Flat.stuck _).mild
theorem Mild.convBytes {s d : TypeId} (hs : isBytes P s = true) (hd : isStr P d = true) (x : Value) : Mild P (convert s d x) := by
  unfold isBytes at hs
  split at hs <;> try (cases hs; done)
  rename_i e e1
  split at hs <;> try (cases hs; done)
  rename_i e2
  unfold isStr at hd
  split at hd <;> try (cases hd; done)
  rename_i e3
  intro w v w1 h
  have hb := Mild.bytes (P := P) x
  cases x <;> simp [convert, run_underlying e1, run_underlying e2, run_underlying e3, go_sem] at h <;> first
    | exact hb _ _ _ h
    | (simp [Conv.intToString, go_sem] at h; exact h.2.symm)
    | exact h.2.symm
theorem Flat.fieldAt {s : TypeId} {f : Nat} (h : fieldOk P s f = true) (v : Value) : Flat P (Instr.fieldAt s v f) := by
  unfold fieldOk at h
  split at h <;> try (cases h; done)
  rename_i fs hs
  split at h <;> try (cases h; done)
  rename_i fl hf
  split at h <;> try (cases h; done)
  rename_i i hi
  intro w v1 w1 e
  cases v with
  | pointer a =>
    cases a with
    | none => simp [Instr.fieldAt, Instr.sureAddr, run_underlying hs, go_sem, hf] at e
    | some a =>
      have h0 : ¬ i.size = 0 := by simpa using h
      simp [Instr.fieldAt, Instr.sureAddr, run_underlying hs, go_sem, hf, fieldPlace, Go.sizeOf, Go.typeInfo, hi, h0] at e
      obtain ⟨rfl, rfl⟩ := e
      exact ⟨rfl, fun w2 => by simp [Instr.fieldAt, Instr.sureAddr, run_underlying hs, go_sem, hf, fieldPlace, Go.sizeOf, Go.typeInfo, hi, h0]⟩
  | _ => simp [Instr.fieldAt, Instr.sureAddr, run_underlying hs, go_sem, hf] at e
theorem flat_op {o : Oper} {a : Act} (hk : kindOf P o = 0) (hf : fit ops o a = true) (hw : Region.wanted o (yielded ops a.tmps) = true) : FlatV P (execOp a.eval o) := by
  obtain ⟨dst, op, type, pos, after, guard⟩ := o
  cases op <;> simp only [kindOf] at hk <;> simp only [execOp] <;> try (cases hk; done)
  case move x => exact FlatV.pure _
  case assign x => exact FlatV.pure _
  case pick c x y =>
    have := (Flat.bind (Flat.asBool (P := P) (a.eval c)) fun b => Flat.pure (if b then a.eval x else a.eval y)).v
    simpa using this
  case extract t i => exact (Flat.extract _ _).v
  case unOp op t x => exact (Flat.unary _ _).v
  case index t x i => exact (Flat.index _ _ _).v
  case slice t x lo hi mx => exact (Flat.sliceAt _ _ _ _ _).v
  case indexAddr t x i => exact (Flat.indexAt _ _ _).v
  case field t x i => exact (Flat.field _ _ _).v
  case binOp op t x y ty =>
    split at hk <;> try (cases hk; done)
    rename_i hag
    simp only [fit, hw, Bool.not_true, Bool.false_or] at hf
    exact (Flat.bin (by simpa using hag) hf).v
  case nilCheck x =>
    simp only [fit, hw, Bool.not_true, Bool.false_or] at hf
    split at hf <;> try (cases hf; done)
    rename_i b hx
    rw [hx]
    exact FlatV.pure _
  case fieldAddr s x f =>
    split at hk <;> try (cases hk; done)
    rename_i hfo
    exact (Flat.fieldAt hfo _).v
  case convert s d x =>
    simp only [fit, hw, Bool.not_true, Bool.false_or] at hf
    split at hk
    · rename_i hsd
      simp only [Bool.and_eq_true] at hsd
      split at hf
      · rename_i k n hx
        rw [hx]
        exact (Flat.conv hsd.1 hsd.2 k n).v
      · rename_i A n c hx
        rw [hx]
        exact (Flat.convSlice hsd.1 hsd.2 A n c).v
      · cases hf
    · split at hk <;> cases hk
  case call c =>
    obtain ⟨callee, args, argTypes⟩ := c
    split at hk <;> try (cases hk; done)
    rename_i hc
    dsimp only at hc
    subst hc
    split at hk <;> try (cases hk; done)
    rename_i hs
    simp only [Bool.and_eq_true, decide_eq_true_eq] at hs
    obtain ⟨⟨h1, h2⟩, h3⟩ := hs
    obtain ⟨at_⟩ := argTypes
    obtain ⟨ar⟩ := args
    match at_, h1, h2, ar, h3 with
    | [t], _, h2, [x], _ =>
      have h2 : P.underlying t = some .string ∨ ∃ e, P.underlying t = some (.slice e) := by
        simp only [isRow] at h2
        split at h2
        · rename_i e; exact .inl e
        · rename_i e; exact .inr ⟨_, e⟩
        · cases h2
      have := (Flat.len (P := P) t type (a.eval x) h2).v
      have hargs : Array.map a.eval (#[x] : Array Operand) = #[a.eval x] := by simp
      unfold resolve
      dsimp only
      rw [hargs]
      exact this
theorem mild_op {o : Oper} {a : Act} (hk : kindOf P o = 1) : MildV P (execOp a.eval o) := by
  obtain ⟨dst, op, type, pos, after, guard⟩ := o
  cases op <;> simp only [kindOf] at hk <;> simp only [execOp] <;> try (cases hk; done)
  case load t x => exact (Mild.load _ _).v
  case convert s d x =>
    split at hk
    · cases hk
    · split at hk
      · rename_i h
        simp only [Bool.and_eq_true] at h
        exact (Mild.convBytes h.1 h.2 _).v
      · cases hk
  case fieldAddr s x f => split at hk <;> cases hk
  case binOp op t x y ty => split at hk <;> cases hk
  case call c => (repeat' split at hk) <;> cases hk

/-- Guarded by one of the operations G, which are known to say no. -/
def off (G : List Nat) (o : Oper) : Bool := match o.guard with | some (g, _) => G.contains g | none => false
def kindG (P : Program) (G : List Nat) (o : Oper) : Nat := if off G o then 0 else kindOf P o
def fitG (G : List Nat) (ops : Array Oper) (o : Oper) (a : Act) : Bool := if off G o then !Region.wanted o (yielded ops a.tmps) else fit ops o a
theorem flat_opG {G : List Nat} {o : Oper} {a : Act} (hk : kindG P G o = 0) (hf : fitG G ops o a = true) (hw : Region.wanted o (yielded ops a.tmps) = true) : FlatV P (execOp a.eval o) := by
  unfold kindG at hk
  unfold fitG at hf
  split at hf
  · rw [hw] at hf; cases hf
  · rename_i hoff
    rw [if_neg hoff] at hk
    exact flat_op hk hf hw
theorem mild_opG {G : List Nat} {o : Oper} {a : Act} (hk : kindG P G o = 1) : MildV P (execOp a.eval o) := by
  unfold kindG at hk
  split at hk
  · cases hk
  · exact mild_op hk

/-! ### one operation's step, where nothing but the normal end is let by -/
variable {Q : Exit → Act → World → Prop}
/-- The value that an operation has at a state, the world left alone. -/
def At (P : Program) (ops : Array Oper) (w : World) (o : Oper) (v : Value) (a : Act) : Prop :=
  (Region.wanted o (yielded ops a.tmps) = true ∧ (execOp a.eval o).run P w = .ok (.value v) w) ∨ (Region.wanted o (yielded ops a.tmps) = false ∧ v = undef)
theorem At.of_same {w : World} {o : Oper} {v : Value} {a a' : Act} (hy : At P ops w o v a) (he : execOp a'.eval o = execOp a.eval o)
    (hw : Region.wanted o (yielded ops a'.tmps) = Region.wanted o (yielded ops a.tmps)) : At P ops w o v a' := by
  unfold At at *
  rw [he, hw]
  exact hy
theorem At.wpOp {w : World} {i : Nat} {o : Oper} {v : Value} {a : Act} (hi : ops[i]? = some o) (hy : At P ops w o v a) {K : Act → World → Prop} (h : K (a.put o.dst v) w) : wpOp P ops Q i K a w := by
  unfold Go.wpOp
  simp only [hi]
  rcases hy with ⟨hw, hv⟩ | ⟨hw, rfl⟩
  · simp only [hw, if_true, Oper.wp, hv, Oper.upon]; exact .inl h
  · simp only [hw, Bool.false_eq_true, if_false]; exact h
theorem _root_.Go.Yields.at_ {w : World} {o : Oper} {v : Value} {a : Act} (hy : Yields P ops o v a) : At P ops w o v a := by
  rcases hy with ⟨hw, hv⟩ | h
  · exact .inl ⟨hw, hv w⟩
  · exact .inr h
theorem mild_step {i : Nat} {o : Oper} {a : Act} {w : World} {K : Act → World → Prop} (hi : ops[i]? = some o)
    (hm : Region.wanted o (yielded ops a.tmps) = true → MildV P (execOp a.eval o)) (h : wpOp P ops (onN Q) i K a w) : ∃ v, At P ops w o v a ∧ K (a.put o.dst v) w := by
  unfold wpOp at h
  simp only [hi] at h
  split at h
  · rename_i hw
    rcases h with h | ⟨_, h⟩
    · unfold Oper.wp at h
      cases hr : (execOp a.eval o).run P w with
      | ok n w' =>
        obtain ⟨rfl, v, rfl⟩ := hm hw _ _ _ hr
        rw [hr] at h
        exact ⟨v, .inl ⟨hw, hr⟩, h⟩
      | halt x w' => rw [hr] at h; cases x <;> exact h.elim
    · exact absurd h onN_out
  · rename_i hw
    exact ⟨undef, .inr ⟨by simpa using hw, rfl⟩, h⟩
theorem flat_step {i : Nat} {o : Oper} {a : Act} {w : World} {K : Act → World → Prop} (hi : ops[i]? = some o)
    (hm : Region.wanted o (yielded ops a.tmps) = true → FlatV P (execOp a.eval o)) (h : wpOp P ops (onN Q) i K a w) : ∃ v, Yields P ops o v a ∧ K (a.put o.dst v) w := by
  obtain ⟨v, hv, hK⟩ := mild_step hi (fun hw => (hm hw).mild) h
  refine ⟨v, ?_, hK⟩
  rcases hv with ⟨hw, hr⟩ | h
  · exact .inl ⟨hw, (hm hw _ _ _ hr).2.2⟩
  · exact .inr h
/-- What an operation yields it yields whenever it is stepped through. -/
theorem yields_out {i : Nat} {o : Oper} {v : Value} {a : Act} {w : World} {K : Act → World → Prop} (hi : ops[i]? = some o) (hy : Yields P ops o v a) (h : wpOp P ops (onN Q) i K a w) : K (a.put o.dst v) w := by
  unfold wpOp at h
  simp only [hi] at h
  rcases hy with ⟨hw, hv⟩ | ⟨hw, rfl⟩
  · rw [if_pos hw] at h
    rcases h with h | ⟨_, h⟩
    · unfold Oper.wp at h
      rw [hv w] at h
      exact h
    · exact absurd h onN_out
  · simp only [hw, Bool.false_eq_true, if_false] at h
    exact h
/-- A step comes to an end somewhere. -/
theorem step_some {i : Nat} {o : Oper} {a : Act} {w : World} {K : Act → World → Prop} (hi : ops[i]? = some o) (h : wpOp P ops (onN Q) i K a w) :
    ∃ ds u w1, K (({ a with defers := ds } : Act).put o.dst u) w1 := by
  unfold wpOp at h
  simp only [hi] at h
  split at h
  · rcases h with h | ⟨_, h⟩
    · unfold Oper.wp at h
      generalize (execOp a.eval o).run P w = r at h
      cases r with
      | ok n w' =>
        cases n <;> simp only [Oper.upon] at h
        case value v => exact ⟨a.defers, v, w', h⟩
        case skip => exact ⟨a.defers, undef, w', h⟩
        case defer d => exact ⟨d :: a.defers, undef, w', h⟩
        case enter f args =>
          obtain ⟨e, w1, fr, hR, _⟩ := h []
          cases e with
          | returned v => exact ⟨a.defers, v, w1, hR⟩
          | panicked c => exact hR.elim
          | outgrown => exact absurd hR onN_out
        case row row args =>
          obtain ⟨v, w1, hR, _⟩ := h (Frame.ofRow P row args .normal) []
          exact ⟨a.defers, v, w1, hR⟩
      | halt x w' => cases x <;> exact h.elim
    · exact absurd h onN_out
  · exact ⟨a.defers, undef, w, h⟩
theorem put_keep {o oj : Oper} {v : Value} {a : Act} (hs : ∀ cs b, o.op ≠ .select cs b) (h3 : ∀ d, oj.dst = some d → d ∉ o.looksAt ops) (hy : Yields P ops o v a) (ds : List Deferred) (u : Value) :
    Yields P ops o v (({ a with defers := ds } : Act).put oj.dst u) := by
  have hd : Yields P ops o v { a with defers := ds } := hy.of_same rfl rfl
  exact hd.of_same (execOp_put o hs _ oj.dst u h3) (wanted_put o _ oj.dst u h3)
/-- Back: an operation that yields is taken ahead of another one. -/
theorem unput {x i : Nat} {ox oi : Oper} {v : Value} {a : Act} {w : World} {K : Act → World → Prop} (hx : ops[x]? = some ox) (hi : ops[i]? = some oi) (hap : oi.apart ops ox = true)
    (hsx : ∀ cs b, ox.op ≠ .select cs b) (hsi : ∀ cs b, oi.op ≠ .select cs b) (hy : Yields P ops oi v a)
    (h : wpOp P ops (onN Q) x (wpOp P ops (onN Q) i K) a w) : wpOp P ops (onN Q) x K (a.put oi.dst v) w := by
  obtain ⟨h1, h2, h3⟩ := Oper.apart_spec hap
  have out : ∀ (ds : List Deferred) (u : Value) (w1 : World), wpOp P ops (onN Q) i K (({ a with defers := ds } : Act).put ox.dst u) w1 → K ((({ a with defers := ds } : Act).put ox.dst u).put oi.dst v) w1 :=
    fun ds u w1 hh => yields_out hi (put_keep hsi h3 hy ds u) hh
  unfold wpOp at h ⊢
  simp only [hx] at h ⊢
  rw [wanted_put ox a oi.dst v h1]
  split
  · rename_i hw
    rw [if_pos hw] at h
    rcases h with h | ⟨_, h⟩
    case inr => exact absurd h onN_out
    refine .inl ?_
    unfold Oper.wp at h ⊢
    rw [execOp_put ox hsx a oi.dst v h1]
    generalize (execOp a.eval ox).run P w = r at h ⊢
    cases r with
    | ok n w' =>
      cases n <;> simp only [Oper.upon] at h ⊢
      case value u => rw [Act.put_comm a v u h2]; exact out a.defers u w' h
      case skip => rw [Act.put_comm a v undef h2]; exact out a.defers undef w' h
      case defer d =>
        rw [Act.put_defers, Act.put_comm _ v undef h2]
        exact out (d :: a.defers) undef w' h
      case enter f args =>
        refine Calls.mono h fun e w'' he => ?_
        cases e with
        | returned u =>
          show K ((a.put oi.dst v).put ox.dst u) w''
          rw [Act.put_comm a v u h2]
          exact out a.defers u w'' he
        | panicked c => exact he.elim
        | outgrown => exact absurd he onN_out
      case row row args => exact Rows.mono h fun u w'' he => by rw [Act.put_comm a v u h2]; exact out a.defers u w'' he
    | halt x w' => cases x <;> exact h.elim
  · rename_i hw
    rw [if_neg hw] at h
    rw [Act.put_comm a v undef h2]
    exact out a.defers undef w h

/-- Two steps, the other way round. -/
theorem swap {G : List Nat} {x i : Nat} {ox oi : Oper} {a : Act} {w : World} {K : Act → World → Prop} (hx : ops[x]? = some ox) (hi : ops[i]? = some oi) (hap : ox.apart ops oi = true) (hap' : oi.apart ops ox = true)
    (hsx : ∀ cs b, ox.op ≠ .select cs b) (hsi : ∀ cs b, oi.op ≠ .select cs b) (fx : fitG G ops ox a = true) (fi : fitG G ops oi a = true)
    (hk : kindG P G ox = 0 ∨ kindG P G oi = 0 ∨ (kindG P G ox = 1 ∧ kindG P G oi = 1))
    (h : wpOp P ops (onN Q) x (wpOp P ops (onN Q) i K) a w) : wpOp P ops (onN Q) i (wpOp P ops (onN Q) x K) a w := by
  obtain ⟨h1, h2, h3⟩ := Oper.apart_spec hap
  rcases hk with hk | hk | ⟨hk, hk'⟩
  · obtain ⟨v, hy, hh⟩ := flat_step hx (fun hw => flat_opG hk fx hw) h
    exact wpOp_mono (fun a' w' hh => hh.1.wpOp hx hh.2) (wpOp_put hi hap hsx hsi (fun _ _ _ h => h) hy hh)
  · obtain ⟨ds, u, w1, hh⟩ := step_some hx h
    have he : execOp (({ a with defers := ds } : Act).put ox.dst u).eval oi = execOp a.eval oi := execOp_put oi hsi { a with defers := ds } ox.dst u h1
    have hw0 : Region.wanted oi (yielded ops (({ a with defers := ds } : Act).put ox.dst u).tmps) = Region.wanted oi (yielded ops a.tmps) := wanted_put oi { a with defers := ds } ox.dst u h1
    obtain ⟨v, hy, _⟩ := flat_step hi (fun hw => by rw [he]; exact flat_opG hk fi (hw0 ▸ hw)) hh
    have hy' : Yields P ops oi v a := hy.of_same he.symm hw0.symm
    exact hy'.wpOp hi (unput hx hi hap' hsx hsi hy' h)
  · obtain ⟨v, hy, hh⟩ := mild_step hx (fun _ => mild_opG hk) h
    obtain ⟨u, hy2, hh2⟩ := mild_step hi (fun _ => mild_opG hk') hh
    have hi0 : At P ops w oi u a := hy2.of_same (execOp_put oi hsi a ox.dst v h1).symm (wanted_put oi a ox.dst v h1).symm
    have hx0 : At P ops w ox v (a.put oi.dst u) := hy.of_same (execOp_put ox hsx a oi.dst u h3) (wanted_put ox a oi.dst u h3)
    refine hi0.wpOp hi (hx0.wpOp hx ?_)
    rw [← Act.put_comm a v u h2]
    exact hh2
end

/-! ### the look at a region's operations -/
def isBin (o : Oper) : Bool := match o.op with | .binOp .. => true | .convert .. => true | .nilCheck _ => true | _ => false
def plainOp (o : Oper) : Bool := match o.op with | .select .. => false | _ => true
def bit (T : Array Nat) (i p : Nat) : Bool := (T.getD i 0).testBit p
def pairOk (P : Program) (G : List Nat) (ops : Array Oper) (oi op : Oper) : Bool :=
  op.apart ops oi && oi.apart ops op && (kindG P G op == 0 || kindG P G oi == 0 || (kindG P G op == 1 && kindG P G oi == 1))
def listedB (P : Program) (G : List Nat) (ops : Array Oper) : Bool :=
  let T := Region.before ops
  (List.range ops.size).all fun i => match ops[i]? with
    | none => true
    | some oi => plainOp oi && (oi.after.all fun e => !Region.binds .any e || decide (e.on < i)) &&
      ((List.range ops.size).all fun p => !bit T i p || oi.after.any fun e => Region.binds .any e && (e.on == p || bit T e.on p)) &&
      ((List.range i).all fun p => bit T i p || match ops[p]? with | none => true | some op => pairOk P G ops oi op) &&
      (!(isBin oi || off G oi) || (List.range ops.size).all fun j => (decide (j < i) && bit T i j) || match ops[j]? with | none => true | some oj => match oj.dst with | none => true | some d => !(oi.looksAt ops).contains d)
def fitAll (G : List Nat) (ops : Array Oper) (a : Act) : Bool := ops.all fun o => fitG G ops o a
section
variable {P : Program} {ops : Array Oper} {Q : Exit → Act → World → Prop} {G : List Nat}

structure Look (P : Program) (G : List Nat) (ops : Array Oper) (T : Array Nat) : Prop where
  plain : ∀ (i : Nat) (oi : Oper), ops[i]? = some oi → ∀ cs b, oi.op ≠ .select cs b
  down : ∀ (i : Nat) (oi : Oper), ops[i]? = some oi → ∀ e ∈ oi.after, Region.binds .any e = true → e.on < i
  anc : ∀ (i : Nat) (oi : Oper), ops[i]? = some oi → ∀ p : Nat, p < ops.size → bit T i p = true → ∃ e ∈ oi.after, Region.binds .any e = true ∧ (e.on = p ∨ bit T e.on p = true)
  pair : ∀ (i : Nat) (oi : Oper), ops[i]? = some oi → ∀ (p : Nat) (op : Oper), p < i → ops[p]? = some op → bit T i p = false →
    op.apart ops oi = true ∧ oi.apart ops op = true ∧ (kindG P G op = 0 ∨ kindG P G oi = 0 ∨ (kindG P G op = 1 ∧ kindG P G oi = 1))
  stay : ∀ (i : Nat) (oi : Oper), ops[i]? = some oi → (isBin oi || off G oi) = true → ∀ (j : Nat) (oj : Oper) (d : Tmp), ops[j]? = some oj → (i ≤ j ∨ bit T i j = false) → oj.dst = some d → d ∉ oi.looksAt ops

theorem look_of (h : listedB P G ops = true) : Look P G ops (Region.before ops) := by
  have hlt : ∀ {i : Nat} {oi : Oper}, ops[i]? = some oi → i < ops.size := fun h => (Array.getElem?_eq_some_iff.1 h).1
  unfold listedB at h
  simp only [List.all_eq_true, List.mem_range] at h
  have row : ∀ i oi, ops[i]? = some oi → _ := fun i oi hi => by
    have := h i (hlt hi)
    simp only [hi, Bool.and_eq_true] at this
    exact this
  refine ⟨?_, ?_, ?_, ?_, ?_⟩
  · intro i oi hi cs b he
    have := (row i oi hi).1.1.1.1
    simp [plainOp, he] at this
  · intro i oi hi e he hb
    have := (row i oi hi).1.1.1.2
    rw [Array.all_eq_true_iff_forall_mem] at this
    have := this e he
    simp only [hb, Bool.not_true, Bool.false_or, decide_eq_true_eq] at this
    exact this
  · intro i oi hi p hp hb
    have := (row i oi hi).1.1.2
    simp only [List.all_eq_true, List.mem_range] at this
    have := this p hp
    simp only [hb, Bool.not_true, Bool.false_or] at this
    rw [Array.any_eq_true] at this
    obtain ⟨k, hk, hh⟩ := this
    simp only [Bool.and_eq_true, Bool.or_eq_true, beq_iff_eq] at hh
    exact ⟨_, Array.getElem_mem hk, hh.1, hh.2⟩
  · intro i oi hi p op hpi hp hb
    have := (row i oi hi).1.2
    simp only [List.all_eq_true, List.mem_range] at this
    have := this p hpi
    simp only [hb, Bool.false_or, hp, pairOk, Bool.and_eq_true, Bool.or_eq_true, beq_iff_eq] at this
    exact ⟨this.1.1, this.1.2, this.2.elim (fun h => h.elim .inl (fun h => .inr (.inl h))) (fun h => .inr (.inr h))⟩
  · intro i oi hi hbin j oj d hj hor hd hmem
    have := (row i oi hi).2
    simp only [hbin, Bool.not_true, Bool.false_or, List.all_eq_true, List.mem_range] at this
    have := this j (hlt hj)
    simp only [hj, hd, Bool.or_eq_true, Bool.and_eq_true, decide_eq_true_eq, Bool.not_eq_true'] at this
    rcases this with ⟨h1, h2⟩ | h
    · rcases hor with h | h
      · omega
      · rw [h] at h2; cases h2
    · rw [List.contains_iff_mem.2 hmem] at h; cases h

/-- The end of a row of steps, and what it left alone. -/
theorem reach : ∀ (s : List Nat) (a : Act) (w : World), wpOps P ops (onN Q) s a w →
    ∃ a' w', Q .normal a' w' ∧ ∀ t, (∀ j ∈ s, ∀ oj, ops[j]? = some oj → oj.dst ≠ some t) → a'.tmps[t]? = a.tmps[t]?
  | [], a, w, h => ⟨a, w, h, fun _ _ => rfl⟩
  | j :: s, a, w, h => by
    rw [wpOps_cons] at h
    cases hj : ops[j]? with
    | none =>
      unfold wpOp at h
      simp only [hj] at h
      obtain ⟨a', w', hq, ht⟩ := reach s a w h
      exact ⟨a', w', hq, fun t hh => ht t fun k hk => hh k (List.mem_cons_of_mem _ hk)⟩
    | some oj =>
      obtain ⟨ds, u, w1, hh⟩ := step_some hj h
      obtain ⟨a', w', hq, ht⟩ := reach s _ w1 hh
      refine ⟨a', w', hq, fun t hn => ?_⟩
      rw [ht t fun k hk => hn k (List.mem_cons_of_mem _ hk)]
      have := hn j List.mem_cons_self oj hj
      cases hd : oj.dst with
      | none => rfl
      | some d =>
        have hne : d ≠ t := fun e => this (by rw [hd, e])
        simp [Act.put, Array.getElem?_setIfInBounds_ne hne]
theorem eval_same {a a' : Act} {o : Oper} (h : ∀ t, t ∈ o.looksAt ops → a'.tmps[t]? = a.tmps[t]?) (x : Operand) (hx : x ∈ o.op.operands) : a'.eval x = a.eval x := by
  cases x with
  | tmp t =>
    have := h t (List.mem_append_left _ (List.mem_filterMap.2 ⟨.tmp t, by simpa using hx, rfl⟩))
    simp only [Act.eval, Array.getD_eq_getD_getElem?, this]
  | _ => rfl
theorem wanted_same {a a' : Act} {o : Oper} (h : ∀ t, t ∈ o.looksAt ops → a'.tmps[t]? = a.tmps[t]?) : Region.wanted o (yielded ops a'.tmps) = Region.wanted o (yielded ops a.tmps) := by
  unfold Region.wanted
  cases hg : o.guard with
  | none => rfl
  | some gw =>
    obtain ⟨g, want⟩ := gw
    have hy : yielded ops a'.tmps g = yielded ops a.tmps g := by
      unfold yielded
      cases ht : (ops[g]?).bind (·.dst) with
      | none => rfl
      | some t =>
        have := h t (List.mem_append_right _ (by simp [hg, ht]))
        simp only [Option.bind_some, this]
    simp only [hy]
theorem fit_same {G : List Nat} {a a' : Act} {o : Oper} (h : ∀ t, t ∈ o.looksAt ops → a'.tmps[t]? = a.tmps[t]?) : fitG G ops o a' = fitG G ops o a := by
  have hw := wanted_same h
  have he := eval_same h
  unfold fitG
  rw [hw]
  split
  · rfl
  unfold fit
  split
  · rename_i op t x y ty ho
    rw [hw, he x (by simp [ho, Op.operands]), he y (by simp [ho, Op.operands])]
  · rename_i s d x ho
    rw [hw, he x (by simp [ho, Op.operands])]
  · rename_i x ho
    rw [hw, he x (by simp [ho, Op.operands])]
  · rfl
/-- The end's look, and the row of steps. -/
def Fin (G : List Nat) (ops : Array Oper) (Q : Exit → Act → World → Prop) : Exit → Act → World → Prop := fun e a w => fitAll G ops a = true ∧ Q e a w
theorem fit_of {s : List Nat} {a : Act} {w : World} {b : Nat} {ob : Oper} (hb : ops[b]? = some ob) (hbin : (isBin ob || off G ob) = true → ∀ j ∈ s, ∀ oj d, ops[j]? = some oj → oj.dst = some d → d ∉ ob.looksAt ops)
    (h : wpOps P ops (onN (Fin G ops Q)) s a w) : fitG G ops ob a = true := by
  cases hc : (isBin ob || off G ob) with
  | false =>
    rw [Bool.or_eq_false_iff] at hc
    obtain ⟨hc, ho⟩ := hc
    unfold isBin at hc
    unfold fitG
    rw [if_neg (by rw [ho]; decide)]
    unfold fit
    split
    · rename_i ho; simp [ho] at hc
    · rename_i ho; simp [ho] at hc
    · rename_i ho; simp [ho] at hc
    · rfl
  | true =>
    obtain ⟨a', w', ⟨hf, _⟩, ht⟩ := reach s a w h
    have h1 : fitG G ops ob a' = true := by
      unfold fitAll at hf
      rw [Array.all_eq_true] at hf
      obtain ⟨hlt, he⟩ := Array.getElem?_eq_some_iff.1 hb
      rw [← he]; exact hf b hlt
    rw [← fit_same (a := a) (a' := a') fun t hmem => ht t fun j hj oj hoj he => hbin hc j hj oj t hoj he hmem]
    exact h1
theorem move {T : Array Nat} (L : Look P G ops T) {i : Nat} {oi : Oper} (hi : ops[i]? = some oi) (ys : List Nat) (hys : ∀ y ∈ ys, i < y) : ∀ (xs : List Nat) (a : Act) (w : World),
    (∀ p ∈ xs, p < i ∧ bit T i p = false) → xs.Pairwise (· < ·) → wpOps P ops (onN (Fin G ops Q)) (xs ++ i :: ys) a w → wpOps P ops (onN (Fin G ops Q)) (i :: (xs ++ ys)) a w
  | [], _, _, _, _, h => h
  | x :: xs, a, w, hp, hs, h => by
    have hp' : ∀ p ∈ xs, p < i ∧ bit T i p = false := fun p hm => hp p (List.mem_cons_of_mem _ hm)
    obtain ⟨hlt, hs'⟩ := List.pairwise_cons.1 hs
    have hxi := hp x List.mem_cons_self
    have h1 : wpOps P ops (onN (Fin G ops Q)) (x :: i :: (xs ++ ys)) a w := by
      rw [List.cons_append, wpOps_cons] at h
      rw [wpOps_cons]
      exact wpOp_mono (fun a w => move L hi ys hys xs a w hp' hs') h
    cases hx : ops[x]? with
    | none =>
      rw [wpOps_cons] at h1
      unfold wpOp at h1
      simp only [hx] at h1
      rw [wpOps_cons] at h1 ⊢
      refine wpOp_mono (fun a w hh => ?_) h1
      rw [List.cons_append, wpOps_cons]
      unfold wpOp
      simp only [hx]
      exact hh
    | some ox =>
      obtain ⟨hap, hap', hk⟩ := L.pair i oi hi x ox hxi.1 hx hxi.2
      have fx : fitG G ops ox a = true := fit_of hx (fun hb j hj oj d hoj hd => L.stay x ox hx hb j oj d hoj (.inl (by
        rcases List.mem_cons.1 hj with rfl | hj
        · exact Nat.le_refl _
        · rcases List.mem_cons.1 hj with rfl | hj
          · exact Nat.le_of_lt hxi.1
          · rcases List.mem_append.1 hj with hj | hj
            · exact Nat.le_of_lt (hlt j hj)
            · exact Nat.le_of_lt (Nat.lt_trans hxi.1 (hys j hj)))) hd) h1
      have fi : fitG G ops oi a = true := fit_of hi (fun hb j hj oj d hoj hd => L.stay i oi hi hb j oj d hoj (by
        rcases List.mem_cons.1 hj with rfl | hj
        · exact .inr hxi.2
        · rcases List.mem_cons.1 hj with rfl | hj
          · exact .inl (Nat.le_refl _)
          · rcases List.mem_append.1 hj with hj | hj
            · exact .inr (hp' j hj).2
            · exact .inl (Nat.le_of_lt (hys j hj))) hd) h1
      rw [wpOps_cons] at h1
      rw [wpOps_cons]
      have h2 : wpOp P ops (onN (Fin G ops Q)) x (wpOp P ops (onN (Fin G ops Q)) i (wpOps P ops (onN (Fin G ops Q)) (xs ++ ys))) a w := wpOp_mono (fun a w hh => by rw [wpOps_cons] at hh; exact hh) h1
      have h3 := swap hx hi hap hap' (L.plain x ox hx) (L.plain i oi hi) fx fi hk h2
      exact wpOp_mono (fun a w hh => by rw [List.cons_append, wpOps_cons]; exact hh) h3

theorem ready_iff {listed : Array Bool} {i : Nat} : i ∈ Region.ready .any ops listed ↔ listed.getD i true = false ∧ ∃ oi, ops[i]? = some oi ∧ ∀ e ∈ oi.after, Region.binds .any e = true → listed.getD e.on false = true := mem_ready

theorem all_orders {T : Array Nat} (L : Look P G ops T) : ∀ (fuel : Nat) (rem : List Nat) (listed : Array Bool) (a : Act) (w : World), rem.length = fuel → listed.size = ops.size → rem.Pairwise (· < ·) →
    (∀ j, j ∈ rem ↔ j < ops.size ∧ listed.getD j false = false) → (∀ i, listed.getD i false = true → ∀ p, p < ops.size → bit T i p = true → listed.getD p false = true) →
    wpOps P ops (onN (Fin G ops Q)) rem a w → wpAny P .any ops (onN Q) fuel listed a w
  | 0, rem, listed, a, w, hl, hsz, hs, hm, hc, h => by
    obtain rfl := List.eq_nil_of_length_eq_zero hl
    refine ⟨?_, h.2⟩
    rw [List.eq_nil_iff_forall_not_mem]
    intro i hi
    obtain ⟨h1, oi, h2, _⟩ := ready_iff.1 hi
    have hlt : i < ops.size := (Array.getElem?_eq_some_iff.1 h2).1
    have : i ∈ ([] : List Nat) := (hm i).2 ⟨hlt, by rw [Array.getD_eq_getD_getElem?] at h1 ⊢; rw [Array.getElem?_eq_getElem (by omega)] at h1 ⊢; exact h1⟩
    cases this
  | fuel + 1, rem, listed, a, w, hl, hsz, hs, hm, hc, h => by
    have same : ∀ i, i < ops.size → listed.getD i true = listed.getD i false := fun i hi => by
      rw [Array.getD_eq_getD_getElem?, Array.getD_eq_getD_getElem?, Array.getElem?_eq_getElem (by omega)]; rfl
    refine ⟨fun h0 => ?_, fun i hi => ?_⟩
    · exfalso
      cases rem with
      | nil => cases hl
      | cons r rest =>
        obtain ⟨hr1, hr2⟩ := (hm r).1 List.mem_cons_self
        have : r ∈ Region.ready .any ops listed := by
          refine ready_iff.2 ⟨by rw [same r hr1]; exact hr2, ops[r], Array.getElem?_eq_getElem hr1, fun e he hb => ?_⟩
          have hd := L.down r _ (Array.getElem?_eq_getElem hr1) e he hb
          cases hcase : listed.getD e.on false with
          | true => rfl
          | false =>
            exfalso
            have hmem := (hm e.on).2 ⟨by omega, hcase⟩
            rcases List.mem_cons.1 hmem with h | h
            · omega
            · have := (List.pairwise_cons.1 hs).1 _ h; omega
        rw [h0] at this
        cases this
    · obtain ⟨h1, oi, h2, h3⟩ := ready_iff.1 hi
      have hlt : i < ops.size := (Array.getElem?_eq_some_iff.1 h2).1
      have hin : i ∈ rem := (hm i).2 ⟨hlt, by rw [← same i hlt]; exact h1⟩
      obtain ⟨xs, ys, rfl⟩ := List.append_of_mem hin
      obtain ⟨hs1, hs2, hs3⟩ := List.pairwise_append.1 hs
      obtain ⟨hs4, hs5⟩ := List.pairwise_cons.1 hs2
      -- what is not an ancestor
      have hanc : ∀ p ∈ xs, bit T i p = false := fun p hp => by
        have hpl := (hm p).1 (List.mem_append_left _ hp)
        cases hb : bit T i p with
        | false => rfl
        | true =>
          exfalso
          obtain ⟨e, he, hbb, hor⟩ := L.anc i oi h2 p hpl.1 hb
          have := h3 e he hbb
          rcases hor with rfl | hor
          · rw [this] at hpl; cases hpl.2
          · have := hc _ this p hpl.1 hor
            rw [this] at hpl; cases hpl.2
      have h4 := move L h2 ys hs4 xs a w (fun p hp => ⟨hs3 p hp i List.mem_cons_self, hanc p hp⟩) hs1 h
      rw [wpOps_cons] at h4
      -- the rest
      have hone : wpOp P ops (onN Q) i (wpOps P ops (onN (Fin G ops Q)) (xs ++ ys)) a w := by
        unfold wpOp at h4 ⊢
        simp only [h2] at h4 ⊢
        split
        · rename_i hw
          rw [if_pos hw] at h4
          rcases h4 with h4 | ⟨_, h4⟩
          · refine .inl ?_
            unfold Oper.wp at h4 ⊢
            generalize (execOp a.eval oi).run P w = r at h4 ⊢
            cases r with
            | ok n w' =>
              cases n <;> exact h4
            | halt x w' => cases x <;> exact h4.elim
          · exact absurd h4 onN_out
        · rename_i hw
          rw [if_neg hw] at h4
          exact h4
      refine wpOp_mono (fun a w hh => ?_) hone
      have getset : ∀ j, (listed.setIfInBounds i true).getD j false = if j = i then true else listed.getD j false := fun j => by
        rw [Array.getD_eq_getD_getElem?, Array.getElem?_setIfInBounds]
        by_cases hji : i = j
        · subst hji; simp [hsz, hlt]
        · have hji' : ¬ j = i := fun e => hji e.symm
          simp [hji, hji', Array.getD_eq_getD_getElem?]
      refine all_orders L fuel (xs ++ ys) _ a w (by simp only [List.length_append, List.length_cons] at hl ⊢; omega) (by simp [hsz]) ?_ ?_ ?_ hh
      · exact List.pairwise_append.2 ⟨hs1, hs5, fun p hp q hq => hs3 p hp q (List.mem_cons_of_mem _ hq)⟩
      · intro j
        rw [getset]
        have := hm j
        constructor
        · intro hj
          have hj' : j ∈ xs ++ i :: ys := by
            rcases List.mem_append.1 hj with h | h
            · exact List.mem_append_left _ h
            · exact List.mem_append_right _ (List.mem_cons_of_mem _ h)
          have hne : ¬ j = i := by
            rintro rfl
            rcases List.mem_append.1 hj with h | h
            · have := hs3 j h j List.mem_cons_self; omega
            · have := hs4 j h; omega
          rw [if_neg hne]
          exact this.1 hj'
        · intro ⟨hj1, hj2⟩
          by_cases hne : j = i
          · rw [if_pos hne] at hj2; cases hj2
          · rw [if_neg hne] at hj2
            have := this.2 ⟨hj1, hj2⟩
            rcases List.mem_append.1 this with h | h
            · exact List.mem_append_left _ h
            · rcases List.mem_cons.1 h with h | h
              · exact absurd h hne
              · exact List.mem_append_right _ h
      · intro j hj p hp hb
        rw [getset] at hj ⊢
        by_cases hpi : p = i
        · rw [if_pos hpi]
        · rw [if_neg hpi]
          by_cases hji : j = i
          · subst hji
            obtain ⟨e, he, hbb, hor⟩ := L.anc j oi h2 p hp hb
            have := h3 e he hbb
            rcases hor with rfl | hor
            · exact this
            · exact hc _ this p hp hor
          · rw [if_neg hji] at hj
            exact hc j hj p hp hb

/-- A REGION THAT DRAWS ITS ORDER, WALKED IN THE ORDER OF ITS LISTING. -/
theorem wp_region_listed {id : Nat} {l : List Oper} {a : Act} {w : World} (hm : P.follows .mixedOrders = true) (hB : listedB P G l.toArray = true)
    (h : wpList P l.toArray (onN (Fin G l.toArray Q)) l a w.drew) : (Code.region id l.toArray true).wp P Q a w := by
  have L := look_of hB
  refine Code.wp_mono (Q := onN Q) (fun e a w hh => by cases e <;> first | exact hh | exact hh.elim) (wp_region_any hm ?_)
  refine all_orders L l.toArray.size (List.range l.toArray.size) _ a w.drew (by simp) (by simp) List.pairwise_lt_range ?_ ?_ ?_
  · intro j
    simp only [List.mem_range, List.size_toArray]
    refine ⟨fun hj => ⟨hj, ?_⟩, fun hj => hj.1⟩
    rw [Array.getD_eq_getD_getElem?]
    simp [Array.getElem?_replicate]
    split <;> rfl
  · intro i hi
    exfalso
    rw [Array.getD_eq_getD_getElem?] at hi
    simp [Array.getElem?_replicate] at hi
    split at hi <;> simp at hi
  · rw [List.range_eq_range', List.size_toArray, wpOps_eq_wpList l 0 (by simp)]
    exact h
theorem fin_intro {a : Act} {w : World} (h1 : fitAll G ops a = true) (h2 : Q .normal a w) : onN (Fin G ops Q) .normal a w := ⟨h1, h2⟩
end
end Go.Proofs.YtlhpflicchchlaaDoor.ListedB
