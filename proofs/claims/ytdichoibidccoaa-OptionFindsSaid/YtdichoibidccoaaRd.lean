/- A reader over a list of bytes, as a thing of the walk. -/
import Derived.Test.YtdichoibidccoaaOwn
set_option linter.unusedVariables false
set_option linter.unusedSimpArgs false
namespace Go.Proofs.Ytdichoibidccoaa
open Go.RowKit
theorem strOf_self (s : ByteArray) : strOf s.data.toList = s := by cases s; rfl
theorem strOf_data (l : List UInt8) : (strOf l).data.toList = l := rfl
theorem strOf_extract (l : List UInt8) (i j : Nat) : (strOf l).extract i j = strOf ((l.drop i).take (j - i)) := by
  apply ByteArray.ext
  rw [ByteArray.data_extract]
  simp
theorem rTake_list (l : List UInt8) (n : Nat) (hn : n ≤ l.length) : rTake (false, strOf l) n = (strOf (l.take n), (false, strOf (l.drop n))) := by
  have hs : (strOf l).size = l.length := strOf_size l
  simp only [rTake]
  rw [if_neg (by simp), if_neg (by omega), strOf_extract, strOf_extract, hs]
  simp [List.take_of_length_le]
theorem rTake_nil (n : Nat) (hn : 0 < n) : rTake (false, strOf []) n = (⟨#[]⟩, (true, strOf [])) := by
  have hs : (strOf []).size = 0 := strOf_size []
  simp only [rTake]
  rw [if_neg (by simp), if_pos (by omega)]
section
variable {p : Nat} {w : World} {l : List UInt8} {b : UInt8}
theorem rOk_R {st : Bool × ByteArray} (h : (rdr p st).holds w) : Calls Try.prog 82 #[ptr0 p] w fun e w' => e = .returned (.bool !st.1) ∧ Mod [] w w' :=
  (Ok_any h).mono fun e w' ⟨h1, h2⟩ => ⟨h1, h2 ▸ Mod.refl _ _⟩
theorem rLeft_R (h : (rdr p (false, strOf l)).holds w) : Calls Try.prog 55 #[ptr0 p] w fun e w' => e = .returned (.int .i64 l.length) ∧ Mod [] w w' :=
  (Left_any h).mono fun e w' ⟨h1, h2⟩ => ⟨by rw [h1, rLeft, if_neg (by simp), strOf_size], h2 ▸ Mod.refl _ _⟩
theorem rByte_cons (h : (rdr p (false, strOf (b :: l))).holds w) : Calls Try.prog 56 #[ptr0 p] w fun e w' => e = .returned (.int .i64 b.toNat) ∧ (rdr p (false, strOf l)).holds w' ∧ Mod (rdr p (false, strOf (b :: l))).foot w w' := by
  have e := rTake_list (b :: l) 1 (by simp)
  refine (rByte_any h).mono fun e' w' ⟨h1, h2, h3⟩ => ⟨?_, ?_, h3⟩
  · rw [h1, rNum, show ((1 : Int)) = ((1 : Nat) : Int) from rfl, e]; simp [numOf]
  · rw [show ((1 : Int)) = ((1 : Nat) : Int) from rfl, e] at h2; exact h2
theorem rByte_nil (h : (rdr p (false, strOf [])).holds w) : Calls Try.prog 56 #[ptr0 p] w fun e w' => e = .returned (.int .i64 0) ∧ (rdr p (true, strOf [])).holds w' ∧ Mod (rdr p (false, strOf [])).foot w w' := by
  have e := rTake_nil 1 (by simp)
  refine (rByte_any h).mono fun e' w' ⟨h1, h2, h3⟩ => ⟨?_, ?_, h3⟩
  · rw [h1, rNum, show ((1 : Int)) = ((1 : Nat) : Int) from rfl, e]; simp [numOf]
  · rw [show ((1 : Int)) = ((1 : Nat) : Int) from rfl, e] at h2; exact h2
theorem rTake_R (n : Nat) (hn : n ≤ l.length) (h : (rdr p (false, strOf l)).holds w) : Calls Try.prog 84 #[ptr0 p, .int .i64 n] w fun e w' => e = .returned (.string (strOf (l.take n))) ∧ (rdr p (false, strOf (l.drop n))).holds w' ∧ Mod (rdr p (false, strOf l)).foot w w' := by
  have e := rTake_list l n hn
  refine (Take_any h n).mono fun e' w' ⟨h1, h2, h3⟩ => ⟨?_, ?_, h3⟩
  · rw [h1, e]
  · rw [e] at h2; exact h2
theorem rRest_R (h : (rdr p (false, strOf l)).holds w) : Calls Try.prog 58 #[ptr0 p] w fun e w' => e = .returned (.string (strOf l)) ∧ (rdr p (false, strOf [])).holds w' ∧ Mod (rdr p (false, strOf l)).foot w w' := by
  have e : rRest (false, strOf l) = (strOf l, (false, strOf [])) := by
    rw [rRest, rLeft, if_neg (by simp), strOf_size, rTake_list l l.length (Nat.le_refl _)]; simp
  refine (rRest_any h).mono fun e' w' ⟨h1, h2, h3⟩ => ⟨?_, ?_, h3⟩
  · rw [h1, e]
  · rw [e] at h2; exact h2
theorem Read_R (s : ByteArray) (hs : s.size ≤ 140737488351232) : Calls Try.prog 54 #[.string s] w (Makes (fun p => ptr0 p) (fun p => rdr p (false, s)) w) := by
  refine (Read_any s hs w).mono ?_
  rintro e w' ⟨rfl, rfl⟩
  exact ⟨w.heap.size, rfl, Rd.new hs rfl, (Mod.refl [] w).alloc _, fun n hn => by simp [rdr] at hn; omega⟩
end
theorem Sep.made {w0 w : World} {rs : List Res} {r : Res} (h : Sep w0 [] rs w) (hm : r ∈ rs) : r.holds w ∧ Mod [] w0 w ∧ ∀ n ∈ r.foot, w0.heap.size ≤ n :=
  ⟨h.all r hm, h.mod, fun n hn => by
    rcases Nat.lt_or_ge n w0.heap.size with h1 | h1
    · exact absurd (h.old r hm n hn h1) (by simp)
    · exact h1⟩
theorem Sep.nil {w0 w : World} {S : List Nat} {rs : List Res} (e s : Nat) (h : Sep w0 S rs w) : Sep w0 S (own none 0 e s 0 [] :: rs) w :=
  h.add (Mod.refl _ _) (own_nil w e s) (by simp [own, Value.ownBlock])
/-- The length of a slice. -/
def slLen : Value → Nat
  | .slice _ n _ => n
  | _ => 0
end Go.Proofs.Ytdichoibidccoaa
