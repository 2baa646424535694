/- Package cursor: what the methods of its writer and its reader compute. -/
import Derived.Test.YtllhoadbocnldaaWriter
set_option linter.unusedVariables false
set_option linter.unusedSimpArgs false
set_option maxRecDepth 100000
namespace Go.Proofs.Ytllhoadbocnldaa
open Go.RowKit

/-! ### fault -/
/-! ### put -/
/-- The j-th byte of a number's, so many, the highest first. -/
def nb (size : Nat) (n : Int) (j : Nat) : UInt8 := UInt8.ofNat (n / 2 ^ (8 * (size - 1 - j)) % 256).toNat
def numBytes (size : Nat) (n : Int) : List UInt8 := (List.range size).map (nb size n)
def putOne (size : Nat) (most : Int) (st : Bool × List UInt8) (n : Int) : Bool × List UInt8 :=
  if st.1 || decide (n < 0) || decide (most < n) then (true, st.2) else (false, st.2 ++ numBytes size n)
def putAll (size : Nat) (most : Int) (st : Bool × List UInt8) (l : List Int) : Bool × List UInt8 := l.foldl (putOne size most) st
theorem numBytes_length (size : Nat) (n : Int) : (numBytes size n).length = size := by simp [numBytes]
theorem putOne_len (size : Nat) (most : Int) (st : Bool × List UInt8) (n : Int) : (putOne size most st n).2.length ≤ st.2.length + size := by
  unfold putOne; split <;> simp [numBytes_length]
theorem putAll_len (size : Nat) (most : Int) (l : List Int) : ∀ st : Bool × List UInt8, (putAll size most st l).2.length ≤ st.2.length + size * l.length := by
  induction l with
  | nil => intro st; simp [putAll]
  | cons n l ih => intro st; have h1 := ih (putOne size most st n); have h2 := putOne_len size most st n; simp only [putAll, List.foldl_cons, List.length_cons] at *; rw [Nat.mul_succ]; omega
theorem nb_eq (size : Nat) (n : Int) (j : Nat) (h : j < size) : UInt8.ofNat (IntKind.u8.wrap (n / 2 ^ (8 * ((size : Int) - 1 - (j : Int))).toNat)).toNat = nb size n j := by
  rw [IntKind.wrap_u8, show (8 * ((size : Int) - 1 - (j : Int))).toNat = 8 * (size - 1 - j) from by omega]; rfl
theorem u8_range (x : Int) : 0 ≤ IntKind.u8.wrap x ∧ IntKind.u8.wrap x ≤ 255 := by rw [IntKind.wrap_u8]; omega
theorem numBytes_snoc (size : Nat) (n : Int) (j : Nat) (h : j < size) : (numBytes size n).take (j + 1) = (numBytes size n).take j ++ [nb size n j] := by
  rw [List.take_succ_eq_append_getElem (by rw [numBytes_length]; exact h)]; simp [numBytes]
theorem putAll_snoc (size : Nat) (most : Int) (st : Bool × List UInt8) (l : List Int) (k : Nat) (h : k < l.length) : putAll size most st (l.take (k + 1)) = putOne size most (putAll size most st (l.take k)) l[k] := by
  unfold putAll; rw [List.take_succ_eq_append_getElem h, List.foldl_append]; rfl

/-- Behind put. -/
def PutPost (B p : Nat) (size : Nat) (most : Int) (st : Bool × List UInt8) (l : List Int) (w : World) (e : Ending) (w' : World) : Prop :=
  e = .returned (.pointer (some ⟨p, 0, none⟩)) ∧ Wr B w' p (putAll size most st l).1 (putAll size most st l).2 ∧ WMod B p w w'
theorem Wr.blk {B p : Nat} {w : World} {f : Bool} {bs : List UInt8} (h : Wr B w p f bs) : ∃ l, Blk w p l 9999999 := by
  obtain ⟨_, _, ad, v, hb, _⟩ := h
  exact ⟨_, hb⟩
/-! ### Byte, Short, Word, Text, Done -/
/-- Behind a writing method: the writer's new state. -/
def WPost (B p : Nat) (st : Bool × List UInt8) (w : World) (e : Ending) (w' : World) : Prop :=
  e = .returned (.pointer (some ⟨p, 0, none⟩)) ∧ Wr B w' p st.1 st.2 ∧ WMod B p w w'
/-- A text more. -/
def textOne (st : Bool × List UInt8) (s : ByteArray) : Bool × List UInt8 := if st.1 then (true, st.2) else (false, st.2 ++ s.data.toList)
def textAll (st : Bool × List UInt8) (l : List ByteArray) : Bool × List UInt8 := l.foldl textOne st
def textLen (l : List ByteArray) : Nat := l.foldr (fun s n => s.size + n) 0
theorem textOne_len (st : Bool × List UInt8) (s : ByteArray) : (textOne st s).2.length ≤ st.2.length + s.size := by
  unfold textOne; split <;> simp
theorem textAll_len (l : List ByteArray) : ∀ st : Bool × List UInt8, (textAll st l).2.length ≤ st.2.length + textLen l := by
  induction l with
  | nil => intro st; simp [textAll, textLen]
  | cons s l ih => intro st; have h1 := ih (textOne st s); have h2 := textOne_len st s; simp only [textAll, textLen, List.foldl_cons, List.foldr_cons] at *; omega
theorem textLen_take (l : List ByteArray) : ∀ k : Nat, (h : k < l.length) → textLen (l.take k) + l[k].size ≤ textLen l := by
  induction l with
  | nil => intro k h; simp at h
  | cons s l ih =>
    intro k h
    cases k with
    | zero => simp [textLen]
    | succ k => have := ih k (by simpa using h); simp only [textLen, List.take_succ_cons, List.foldr_cons, List.getElem_cons_succ] at *; omega
theorem textAll_snoc (st : Bool × List UInt8) (l : List ByteArray) (k : Nat) (h : k < l.length) : textAll st (l.take (k + 1)) = textOne (textAll st (l.take k)) l[k] := by
  unfold textAll; rw [List.take_succ_eq_append_getElem h, List.foldl_append]; rfl
/-- What is written, or the mistake. -/
def doneOf (st : Bool × List UInt8) : ByteArray × Int := if st.1 then (⟨#[]⟩, 1) else if 65535 < st.2.length then (⟨#[]⟩, 5) else (⟨st.2.toArray⟩, 0)
def DonePost (B p : Nat) (st : Bool × List UInt8) (w : World) (e : Ending) (w' : World) : Prop :=
  e = .returned (.tuple #[.string (doneOf st).1, .int .i64 (doneOf st).2]) ∧ Wr B w' p st.1 st.2 ∧ WMod B p w w'
end Go.Proofs.Ytllhoadbocnldaa

