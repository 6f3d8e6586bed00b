/- path.Name, walked: rune by rune. Conditions: a text of at most 2^40 bytes. -/
import Derived.Test.YthfhefkacmepkaaDoorEsc
import Derived.BigCall
namespace Go.Proofs.YthfhefkacmepkaaDoor.Bld
open Go.RowKit Go.Proofs.YthfhefkacmepkaaDoorW.PrintWords
set_option linter.unusedVariables false
set_option linter.unusedSimpArgs false
/-- One rune's bytes in a string. -/
def runeOut (r : Nat) : List UInt8 := if escOf (r : Int) = [] then Lib.encodeRune r else escOf (r : Int)
def putFrom (s : ByteArray) : Nat → Nat → List UInt8
  | 0, _ => []
  | fuel + 1, pos => if pos < s.size then runeOut (Utf8.decode s pos).1 ++ putFrom s fuel (pos + (Utf8.decode s pos).2) else []
def putOf (s : ByteArray) : List UInt8 := 39 :: (putFrom s s.size 0 ++ [39])
theorem width_pos (s : ByteArray) (pos : Nat) (h : pos < s.size) : 1 ≤ (Utf8.decode s pos).2 := by
  by_cases ha : (s[pos]'h).toNat < 128
  · rw [decode_ascii s pos h ha]
    exact Nat.le_refl _
  · exact (decode_high s pos h (by omega)).2
theorem putFrom_end (s : ByteArray) (fuel pos : Nat) (h : ¬ pos < s.size) : putFrom s fuel pos = [] := by
  cases fuel with
  | zero => rfl
  | succ f => simp [putFrom, h]
theorem escOf_le (n : Int) : (escOf n).length ≤ 6 := by
  unfold escOf
  repeat' split
  all_goals simp
theorem own_iterAt {w : World} {B : Nat} {e : TypeId} {n m : Nat} {v : Value} {xs : List Value} (h : w.ownsRow B e n v m xs) {k : Nat} {s : ByteArray} {pos : Nat} (hk : w.heap[k]? = some (.stringIter s pos)) (pos' : Nat) : (w.iterAt k s pos').ownsRow B e n v m xs := by
  refine ⟨h.1, ?_⟩
  rcases h.2 with hn | ⟨g, cap, cur, hv, hbg, hg, rest⟩
  · exact .inl hn
  · have hkg : g ≠ k := by
      intro e1
      rw [e1, hk] at hg
      cases hg
    exact .inr ⟨g, cap, cur, hv, hbg, (Lib.iterAt_other w k g s pos' hkg).trans hg, rest⟩
theorem at_iterAt {T e : TypeId} {B b : Nat} {p : Value} {bs : List Value} {w : World} (h : Lib.BuilderAt T e B b p bs w) {k : Nat} {s : ByteArray} {pos : Nat} (hk : w.heap[k]? = some (.stringIter s pos)) (pos' : Nat) : Lib.BuilderAt T e B b p bs (w.iterAt k s pos') := by
  obtain ⟨hB, v, hb, hown, hne⟩ := h
  have hkb : b ≠ k := by
    intro e1
    rw [e1, hk] at hb
    cases hb
  exact ⟨hB, v, (Lib.iterAt_other w k b s pos' hkb).trans hb, own_iterAt hown hk pos', hne⟩
theorem at_alloc {T e : TypeId} {B b : Nat} {p : Value} {bs : List Value} {w : World} (h : Lib.BuilderAt T e B b p bs w) (o : Obj) : Lib.BuilderAt T e B b p bs (w.alloc o) := by
  have hlt := h.lt
  obtain ⟨hB, v, hb, hown, hne⟩ := h
  exact ⟨hB, v, (Lib.alloc_old w o b hlt).trans hb, hown.alloc o, hne⟩
theorem at_below {T e : TypeId} {B b : Nat} {p : Value} {bs : List Value} {w w' : World} (h : Lib.BuilderAt T e B b p bs w) (hb : Below w.heap.size w w') : Lib.BuilderAt T e B b p bs w' := by
  have hlt := h.lt
  obtain ⟨hB, v, hbk, hown, hne⟩ := h
  refine ⟨hB, v, (hb.block b hlt).trans hbk, ⟨hown.1, ?_⟩, hne⟩
  rcases hown.2 with hn | ⟨g, cap, cur, hv, hbg, hg, rest⟩
  · exact .inl hn
  · exact .inr ⟨g, cap, cur, hv, hbg, (hb.block g (Array.getElem?_eq_some_iff.1 hg).1).trans hg, rest⟩
theorem byteCells_str (l : List UInt8) : Lib.strCells ⟨l.toArray⟩ = Lib.byteCells l := by
  simp [Lib.strCells, Lib.byteCells]
set_option maxHeartbeats 4000000 in
set_option maxRecDepth 1000000 in
theorem name_calls (s : ByteArray) (w : World) (hs : s.size ≤ 1099511627776) :
    Calls Tryd.prog 12 #[.string s] w fun e w' => e = .returned (.string ⟨(putOf s).toArray⟩) ∧ Below w.heap.size w w' := by
  have HE := Aside0.mk (fun n h W => escape_calls n h W)
  go_enter Tryd.func12, Tryd.ntmps12
  go_wp2_with (go_at_call 19; refine (byte_calls w.heap.size w.heap.size [] 39 _ (Lib.fresh_isBuilder 41 5 w) (by simp) (by simp)).mono ?_)
  rintro e w1 ⟨rfl, hI1, hb1, hk1⟩
  have hB1 : Below w.heap.size w w1 := ((Below.refl _ w).alloc (Nat.le_refl _) _).trans hb1
  have hlt1 := hI1.lt
  go_wp2
  go_loopw [] (fun wr => ∃ (pos fuel : Nat) (acc : List UInt8), Lib.BuilderAt 41 5 w.heap.size w.heap.size (.pointer (some ⟨w.heap.size, 0, none⟩)) (Lib.byteCells acc) wr ∧ wr.heap[w1.heap.size]? = some (.stringIter s pos) ∧ Below w.heap.size w wr ∧ acc ++ putFrom s fuel pos = 39 :: putFrom s s.size 0 ∧ s.size ≤ pos + fuel ∧ acc.length + 6 * fuel ≤ 6 * s.size + 1) (fun wr => s.size - wr.iterPos w1.heap.size)
  case atStart =>
    refine ⟨0, s.size, [39], at_alloc hI1 _, ?_, hB1.alloc hB1.size _, rfl, by omega, by simp; omega⟩
    have := World.iter_heap w1 s 0
    simpa using this
  case round =>
    obtain ⟨pos, fuel, acc, hI, hit, hbw, hacc, hfu, hal⟩ := hrel
    have hsz : w1.heap.size < wr.heap.size := (Array.getElem?_eq_some_iff.1 hit).1
    by_cases hp : pos < s.size
    · have hnx : ∀ ty, (Instr.next (.pointer (some ⟨w1.heap.size, 0, none⟩)) true ty).run Tryd.prog wr = _ := fun ty => Lib.run_next_any_at wr w1.heap.size s pos ty hit hp
      have hwd := width_pos s pos hp
      have hd1 := decode_le s pos
      have hI2 := at_iterAt hI hit (pos + (Utf8.decode s pos).2)
      have hit2 := Lib.iterAt_heap wr w1.heap.size s pos (pos + (Utf8.decode s pos).2) hit
      have hbw2 := Lib.below_iterAt hbw (k := w1.heap.size) (by omega) s (pos + (Utf8.decode s pos).2)
      have hsz2 : w1.heap.size < (wr.iterAt w1.heap.size s (pos + (Utf8.decode s pos).2)).heap.size := by rw [Lib.iterAt_size]; omega
      obtain ⟨f, rfl⟩ : ∃ f, fuel = f + 1 := ⟨fuel - 1, by omega⟩
      go_wp2_with (go_at_call 24; refine (HE.out ((Utf8.decode s pos).1 : Int) (by omega) _).mono ?_)
      rintro e W1 ⟨rfl, b1⟩
      have hI3 := at_below hI2 b1
      have hit3 : W1.heap[w1.heap.size]? = some (.stringIter s (pos + (Utf8.decode s pos).2)) := (b1.block _ hsz2).trans hit2
      have hbw3 := below_then hbw2 (by omega) b1
      have hsz3 : w.heap.size ≤ W1.heap.size := hbw3.size
      have hle := escOf_le ((Utf8.decode s pos).1 : Int)
      by_cases he : escOf ((Utf8.decode s pos).1 : Int) = []
      · have hro : runeOut (Utf8.decode s pos).1 = Lib.encodeRune (Utf8.decode s pos).1 := by unfold runeOut; rw [if_pos he]
        rw [he]
        go_wp2_with (go_at_call 25; refine (rune_calls w.heap.size w.heap.size _ _ (by omega) (by omega) _ (Or.inr hI3) (by rw [Lib.byteCells_length]; omega) hsz3).mono ?_)
        rintro e W2 ⟨rfl, h2, b2, k2⟩
        go_wp2
        go_roundw
        case rel =>
          have hl4 := Lib.runeCells_le ((Utf8.decode s pos).1 : Int)
          rw [Lib.runeCells_length] at hl4
          refine ⟨pos + (Utf8.decode s pos).2, f, acc ++ Lib.encodeRune (Utf8.decode s pos).1, ?_, k2.iter hit3 (by omega), hbw3.trans b2, ?_, by omega, by simp; omega⟩
          · rw [Lib.byteCells_append, Lib.byteCells_encodeRune]; exact h2
          · rw [← hacc]; simp [putFrom, hp, hro]
        case measure =>
          simp only [World.iterPos, k2.iter hit3 (by omega), hit]
          omega
      · have hro : runeOut (Utf8.decode s pos).1 = escOf ((Utf8.decode s pos).1 : Int) := by unfold runeOut; rw [if_neg he]
        generalize hL : escOf ((Utf8.decode s pos).1 : Int) = L at *
        have hnb : L.isEmpty = false := by cases L with
          | nil => exact absurd rfl he
          | cons => rfl
        have hsl : (⟨L.toArray⟩ : ByteArray).size = L.length := by simp [ByteArray.size]
        go_wp2_with (fail)
        go_at_call 20
        refine (string_calls w.heap.size w.heap.size _ ⟨L.toArray⟩ _ (Or.inr hI3) (by rw [Lib.byteCells_length, hsl]; omega) hsz3).mono ?_
        rintro e W2 ⟨rfl, h2, b2, k2⟩
        go_wp2
        go_roundw
        case rel =>
          refine ⟨pos + (Utf8.decode s pos).2, f, acc ++ L, ?_, k2.iter hit3 (by omega), hbw3.trans b2, ?_, by omega, by simp; omega⟩
          · rw [Lib.byteCells_append, ← byteCells_str]; exact h2
          · rw [← hacc]; simp [putFrom, hp, hro]
        case measure =>
          simp only [World.iterPos, k2.iter hit3 (by omega), hit]
          omega
    · have hnx : ∀ ty, (Instr.next (.pointer (some ⟨w1.heap.size, 0, none⟩)) true ty).run Tryd.prog wr = _ := fun ty => Lib.run_next_end_at wr w1.heap.size s pos ty hit hp
      go_wp2_with (go_at_call 19; refine (byte_calls w.heap.size w.heap.size _ 39 _ (Or.inr hI) (by rw [Lib.byteCells_length]; omega) hbw.size).mono ?_)
      rintro e W1 ⟨rfl, h1, b1, _⟩
      go_wp2_with (go_at_call 22; refine (Tryd.Builder_String_any w.heap.size w.heap.size (acc ++ [39]) _ (by rw [Lib.byteCells_append]; exact Or.inr h1) (by have := b1.size; have := hbw.size; omega)).mono ?_)
      rintro e W2 ⟨rfl, b2⟩
      go_wp2
      go_ret
      rw [putFrom_end s fuel pos hp, List.append_nil] at hacc
      subst hacc
      exact ⟨rfl, (hbw.trans b1).trans b2⟩
end Go.Proofs.YthfhefkacmepkaaDoor.Bld
