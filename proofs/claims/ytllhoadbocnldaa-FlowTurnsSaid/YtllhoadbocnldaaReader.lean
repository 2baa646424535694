/- Package cursor's reader: what its methods compute. -/
import Derived.Test.YtllhoadbocnldaaCursor
set_option linter.unusedVariables false
set_option linter.unusedSimpArgs false
set_option maxRecDepth 100000
namespace Go.Proofs.Ytllhoadbocnldaa
open Go.RowKit

/-- A reader at the block p: whether it has failed, and what is left. -/
def Rd (w : World) (p : Nat) (st : Bool × ByteArray) : Prop := Blk w p [.bool st.1, .string st.2] 9999999 ∧ st.2.size ≤ 140737488351232
theorem Rd.mod {S : List Nat} {w w' : World} {p : Nat} {st : Bool × ByteArray} (h : Rd w p st) (hm : Mod S w w') (hp : p ∉ S) : Rd w' p st := ⟨h.1.mod hm hp, h.2⟩
theorem Rd.drew {w : World} {p : Nat} {st : Bool × ByteArray} (h : Rd w p st) : Rd w.drew p st := h
theorem Rd.drewN {w : World} {p : Nat} {st : Bool × ByteArray} (h : Rd w p st) (n : Nat) : Rd (w.drewN n) p st := h
theorem Rd.alloc {w : World} {p : Nat} {st : Bool × ByteArray} (h : Rd w p st) (o : Obj) : Rd (w.alloc o) p st := ⟨h.1.alloc o, h.2⟩
theorem Rd.lt {w : World} {p : Nat} {st : Bool × ByteArray} (h : Rd w p st) : p < w.heap.size := h.1.lt
/-- So many bytes. -/
def rTake (st : Bool × ByteArray) (n : Int) : ByteArray × (Bool × ByteArray) :=
  if st.1 then (⟨#[]⟩, st) else if n < 0 ∨ (st.2.size : Int) < n then (⟨#[]⟩, (true, st.2)) else (st.2.extract 0 n.toNat, (false, st.2.extract n.toNat st.2.size))
def rLeft (st : Bool × ByteArray) : Nat := if st.1 then 0 else st.2.size
def numOf (l : List UInt8) : Int := l.foldl (fun x b => x * 256 + (b.toNat : Int)) 0
def rNum (st : Bool × ByteArray) (n : Int) : Int := numOf (rTake st n).1.data.toList
def rRest (st : Bool × ByteArray) : ByteArray × (Bool × ByteArray) := rTake st (rLeft st)
theorem numOf_snoc (l : List UInt8) (b : UInt8) : numOf (l ++ [b]) = numOf l * 256 + b.toNat := by simp [numOf]
theorem numOf_rng : ∀ (n : Nat) (l : List UInt8), l.length = n → 0 ≤ numOf l ∧ numOf l < 256 ^ n := by
  intro n
  induction n with
  | zero => intro l h; obtain rfl := List.eq_nil_of_length_eq_zero h; simp [numOf]
  | succ n ih =>
    intro l h
    have hne : l ≠ [] := by intro e; subst e; simp at h
    obtain ⟨m, b, rfl⟩ : ∃ m b, l = m ++ [b] := ⟨l.dropLast, l.getLast hne, (List.dropLast_concat_getLast hne).symm⟩
    have h1 := ih m (by simp at h; exact h)
    have h2 := b.toNat_lt
    rw [numOf_snoc, Int.pow_succ]
    omega

theorem Rd.new {w : World} {s : ByteArray} (hs : s.size ≤ 140737488351232) {n : Nat} (hn : n = w.heap.size) : Rd (w.alloc (.cells #[.bool false, .string s] 9999999)) n (false, s) := ⟨by (repeat' (first | (with_reducible assumption) | (with_reducible rfl) | (with_reducible apply Blk.drew) | (with_reducible apply Blk.drewN) | (with_reducible refine Blk.new_ _ _ ?_; focus (first | assumption | (simp; omega) | (simp; done) | omega | (simp at *; omega))) | (with_reducible apply Blk.alloc) | (with_reducible apply Blk.other_; focus (first | assumption | (simp; omega) | (simp; done) | omega | (simp at *; omega))) | (with_reducible apply Blk.set_) | (with_reducible apply Blk.mod_ ‹Mod _ _ _›; focus (first | assumption | (simp; omega) | (simp; done) | omega | (simp at *; omega))) | (simp; done))), hs⟩
/-- Behind a reading method that answers so: the reader's new state. -/
def RPost (p : Nat) (v : Value) (st : Bool × ByteArray) (w : World) (e : Ending) (w' : World) : Prop := e = .returned v ∧ Rd w' p st ∧ Mod [p] w w'
theorem rTake_size (st : Bool × ByteArray) (n : Int) (h0 : 0 ≤ n) : (rTake st n).1.size ≤ n := by
  unfold rTake; split
  · exact h0
  · split
    · exact h0
    · simp only [ByteArray.size_extract]; omega
theorem two32 : (2 : Int) ^ 32 = 4294967296 := by decide
theorem u32_join (x b : Int) (h0 : 0 ≤ x) (h1 : x < 16777216) (hb : 0 ≤ b) (hb1 : b ≤ 255) : bits .or .u32 (x * 256) b = x * 256 + b :=
  bits_join .u32 32 (by decide) (fun n a c => IntWalk.u32_in n ⟨a, by rw [two32] at c; omega⟩) 8 (x * 256) b (by omega) (by omega) (by rw [two32]; omega) hb (by omega) (by rw [two32]; omega)
theorem rNum_rng (st : Bool × ByteArray) (n : Nat) : 0 ≤ rNum st n ∧ rNum st n < 256 ^ n := by
  have h := rTake_size st n (by omega)
  have h1 := numOf_rng _ (rTake st n).1.data.toList rfl
  refine ⟨h1.1, Int.lt_of_lt_of_le h1.2 ?_⟩
  have : (rTake st n).1.data.toList.length ≤ n := by simp; omega
  have h2 := Nat.pow_le_pow_right (show 0 < 256 by decide) this
  have h3 := Int.ofNat_le.2 h2
  rw [Int.natCast_pow, Int.natCast_pow] at h3
  exact h3
end Go.Proofs.Ytllhoadbocnldaa
