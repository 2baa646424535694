/- A writer over a list of bytes: numbers and texts one behind the other. -/
import Derived.Test.YtllhoadbocnldaaRd
set_option linter.unusedVariables false
set_option linter.unusedSimpArgs false
namespace Go.Proofs.Ytllhoadbocnldaa
set_option maxRecDepth 8000
attribute [local irreducible] blk wpS seqS ordS OpVal RV endS LoadV StoreV Calls
open Go.RowKit
def b8 (x : Int) : UInt8 := UInt8.ofNat (x % 256).toNat
theorem nbs1 (x : Int) : numBytes 1 x = [b8 x] := by simp [numBytes, nb, b8, List.range_succ]
theorem strOf_add (bs : List UInt8) (x : Int) : strOf bs ++ strOfNums [IntKind.u8.wrap x] = strOf (bs ++ [b8 x]) := by
  rw [IntKind.wrap_u8]; apply ByteArray.ext; simp [strOfNums, b8]
theorem strOf_cat (bs : List UInt8) (s : ByteArray) : strOf bs ++ s = strOf (bs ++ s.data.toList) := by
  apply ByteArray.ext; simp
theorem Sep.turns {w0 w : World} {S : List Nat} {rs : List Res} {r : Res} (h : Sep w0 S rs w) (hm : r ∈ rs) : r.holds w ∧ Mod S w0 w ∧ ∀ n ∈ r.foot, n ∈ S ∨ w0.heap.size ≤ n :=
  ⟨h.all r hm, h.mod, fun n hn => by
    rcases Nat.lt_or_ge n w0.heap.size with h1 | h1
    · exact .inl (h.old r hm n hn h1)
    · exact .inr h1⟩
theorem Sep.writer {w0 w : World} {S : List Nat} {rs : List Res} {p : Nat} (h : Sep w0 S (blk p [.bool false, .pointer none, .slice none 0 0] 9999999 :: rs) w) : Sep w0 S (wtr p none (false, []) :: rs) w :=
  h.updU .head (Mod.refl _ _) (wtr_new (h.getBlk (.head _))) (fun n hn => .inl (by unfold blk; exact hn))
section
variable {p : Nat} {row : Option Nat} {bs : List UInt8} {w : World} {b : Nat}
theorem put1 (x : Int) (hx : 0 ≤ x ∧ x ≤ 255) : putAll 1 255 (false, bs) [x] = (false, bs ++ [b8 x]) := by
  simp only [putAll, List.foldl_cons, List.foldl_nil, putOne, nbs1]
  rw [if_neg (by simp; omega)]
end
theorem Sep.turned {w0 w : World} {S : List Nat} {rs : List Res} {r : Res} (h : Sep w0 S rs w) (hm : r ∈ rs) : r.holds w ∧ Mod S w0 w := ⟨h.all r hm, h.mod⟩
theorem strOf_get (l : List UInt8) (k : Nat) (h : k < l.length) : (strOf l)[k]'(by rw [strOf_size]; exact h) = l[k] := rfl
theorem nbs2 (x : Int) : numBytes 2 x = [b8 (x / 256), b8 x] := by simp [numBytes, nb, b8, List.range_succ]
theorem nbs4 (x : Int) : numBytes 4 x = [b8 (x / 16777216), b8 (x / 65536), b8 (x / 256), b8 x] := by simp [numBytes, nb, b8, List.range_succ]
theorem putAll_ok (size : Nat) (most : Int) : ∀ (l : List Int) (bs : List UInt8), (∀ x ∈ l, 0 ≤ x ∧ x ≤ most) → putAll size most (false, bs) l = (false, bs ++ l.flatMap (numBytes size))
  | [], bs, _ => by simp [putAll]
  | x :: l, bs, h => by
    have hx := h x (by simp)
    have ih := putAll_ok size most l (bs ++ numBytes size x) (fun y hy => h y (by simp [hy]))
    simp only [putAll, List.foldl_cons] at ih ⊢
    rw [show putOne size most (false, bs) x = (false, bs ++ numBytes size x) from by rw [putOne, if_neg (by simp; omega)], ih, List.flatMap_cons, List.append_assoc]
section
variable {p : Nat} {row : Option Nat} {bs : List UInt8} {w : World} {b n : Nat}
end
end Go.Proofs.Ytllhoadbocnldaa
