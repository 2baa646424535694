/- A reader over a list of bytes, as a thing of the walk. -/
import Derived.Test.YtllhoadbocnldaaOwn
set_option linter.unusedVariables false
set_option linter.unusedSimpArgs false
namespace Go.Proofs.Ytllhoadbocnldaa
open Go.RowKit
theorem strOf_self (s : ByteArray) : strOf s.data.toList = s := by cases s; rfl
theorem strOf_data (l : List UInt8) : (strOf l).data.toList = l := rfl
theorem strOf_extract (l : List UInt8) (i j : Nat) : (strOf l).extract i j = strOf ((l.drop i).take (j - i)) := by
  apply ByteArray.ext
  rw [ByteArray.data_extract]
  simp
theorem rTake_list (l : List UInt8) (n : Nat) (hn : n ≤ l.length) : rTake (false, strOf l) n = (strOf (l.take n), (false, strOf (l.drop n))) := by
  have hs : (strOf l).size = l.length := strOf_size l
  simp only [rTake]
  rw [if_neg (by simp), if_neg (by omega), strOf_extract, strOf_extract, hs]
  simp [List.take_of_length_le]
theorem rTake_nil (n : Nat) (hn : 0 < n) : rTake (false, strOf []) n = (⟨#[]⟩, (true, strOf [])) := by
  have hs : (strOf []).size = 0 := strOf_size []
  simp only [rTake]
  rw [if_neg (by simp), if_pos (by omega)]
section
variable {p : Nat} {w : World} {l : List UInt8} {b : UInt8}
end
theorem Sep.made {w0 w : World} {rs : List Res} {r : Res} (h : Sep w0 [] rs w) (hm : r ∈ rs) : r.holds w ∧ Mod [] w0 w ∧ ∀ n ∈ r.foot, w0.heap.size ≤ n :=
  ⟨h.all r hm, h.mod, fun n hn => by
    rcases Nat.lt_or_ge n w0.heap.size with h1 | h1
    · exact absurd (h.old r hm n hn h1) (by simp)
    · exact h1⟩
theorem Sep.nil {w0 w : World} {S : List Nat} {rs : List Res} (e s : Nat) (h : Sep w0 S rs w) : Sep w0 S (own none 0 e s 0 [] :: rs) w :=
  h.add (Mod.refl _ _) (own_nil w e s) (by simp [own, Value.ownBlock])
/-- The length of a slice. -/
def slLen : Value → Nat
  | .slice _ n _ => n
  | _ => 0
end Go.Proofs.Ytllhoadbocnldaa
