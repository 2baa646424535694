/- A reader over a list of bytes, as a thing of the walk. -/
import Derived.Test.YtmcaigmpcbkfpaaOwn
set_option linter.unusedVariables false
set_option linter.unusedSimpArgs false
namespace Go.Proofs.Ytmcaigmpcbkfpaa
open Go.RowKit
theorem strOf_self (s : ByteArray) : strOf s.data.toList = s := by cases s; rfl
theorem strOf_data (l : List UInt8) : (strOf l).data.toList = l := rfl
theorem strOf_extract (l : List UInt8) (i j : Nat) : (strOf l).extract i j = strOf ((l.drop i).take (j - i)) := by
  apply ByteArray.ext
  rw [ByteArray.data_extract]
  simp
theorem rTake_list (l : List UInt8) (n : Nat) (hn : n ≤ l.length) : rTake (false, strOf l) n = (strOf (l.take n), (false, strOf (l.drop n))) := by
  have hs : (strOf l).size = l.length := strOf_size l
  simp only [rTake]
  rw [if_neg (by simp), if_neg (by omega), strOf_extract, strOf_extract, hs]
  simp [List.take_of_length_le]
theorem rTake_nil (n : Nat) (hn : 0 < n) : rTake (false, strOf []) n = (⟨#[]⟩, (true, strOf [])) := by
  have hs : (strOf []).size = 0 := strOf_size []
  simp only [rTake]
  rw [if_neg (by simp), if_pos (by omega)]
section
variable {p : Nat} {w : World} {l : List UInt8} {b : UInt8}
theorem rOk_R {st : Bool × ByteArray} (h : (rdr p st).holds w) : Calls Try.prog 88 #[ptr0 p] w fun e w' => e = .returned (.bool !st.1) ∧ Mod [] w w' :=
  (Ok_any h).mono fun e w' ⟨h1, h2⟩ => ⟨h1, h2 ▸ Mod.refl _ _⟩
theorem rLeft_R (h : (rdr p (false, strOf l)).holds w) : Calls Try.prog 78 #[ptr0 p] w fun e w' => e = .returned (.int .i64 l.length) ∧ Mod [] w w' :=
  (Left_any h).mono fun e w' ⟨h1, h2⟩ => ⟨by rw [h1, rLeft, if_neg (by simp), strOf_size], h2 ▸ Mod.refl _ _⟩
theorem rByte_cons (h : (rdr p (false, strOf (b :: l))).holds w) : Calls Try.prog 56 #[ptr0 p] w fun e w' => e = .returned (.int .i64 b.toNat) ∧ (rdr p (false, strOf l)).holds w' ∧ Mod (rdr p (false, strOf (b :: l))).foot w w' := by
  have e := rTake_list (b :: l) 1 (by simp)
  refine (rByte_any h).mono fun e' w' ⟨h1, h2, h3⟩ => ⟨?_, ?_, h3⟩
  · rw [h1, rNum, show ((1 : Int)) = ((1 : Nat) : Int) from rfl, e]; simp [numOf]
  · rw [show ((1 : Int)) = ((1 : Nat) : Int) from rfl, e] at h2; exact h2
theorem rByte_nil (h : (rdr p (false, strOf [])).holds w) : Calls Try.prog 56 #[ptr0 p] w fun e w' => e = .returned (.int .i64 0) ∧ (rdr p (true, strOf [])).holds w' ∧ Mod (rdr p (false, strOf [])).foot w w' := by
  have e := rTake_nil 1 (by simp)
  refine (rByte_any h).mono fun e' w' ⟨h1, h2, h3⟩ => ⟨?_, ?_, h3⟩
  · rw [h1, rNum, show ((1 : Int)) = ((1 : Nat) : Int) from rfl, e]; simp [numOf]
  · rw [show ((1 : Int)) = ((1 : Nat) : Int) from rfl, e] at h2; exact h2
theorem rTake_R (n : Nat) (hn : n ≤ l.length) (h : (rdr p (false, strOf l)).holds w) : Calls Try.prog 77 #[ptr0 p, .int .i64 n] w fun e w' => e = .returned (.string (strOf (l.take n))) ∧ (rdr p (false, strOf (l.drop n))).holds w' ∧ Mod (rdr p (false, strOf l)).foot w w' := by
  have e := rTake_list l n hn
  refine (Take_any h n).mono fun e' w' ⟨h1, h2, h3⟩ => ⟨?_, ?_, h3⟩
  · rw [h1, e]
  · rw [e] at h2; exact h2
theorem rRest_R (h : (rdr p (false, strOf l)).holds w) : Calls Try.prog 59 #[ptr0 p] w fun e w' => e = .returned (.string (strOf l)) ∧ (rdr p (false, strOf [])).holds w' ∧ Mod (rdr p (false, strOf l)).foot w w' := by
  have e : rRest (false, strOf l) = (strOf l, (false, strOf [])) := by
    rw [rRest, rLeft, if_neg (by simp), strOf_size, rTake_list l l.length (Nat.le_refl _)]; simp
  refine (rRest_any h).mono fun e' w' ⟨h1, h2, h3⟩ => ⟨?_, ?_, h3⟩
  · rw [h1, e]
  · rw [e] at h2; exact h2
theorem Read_R (s : ByteArray) (hs : s.size ≤ 140737488351232) : Calls Try.prog 55 #[.string s] w (Makes (fun p => ptr0 p) (fun p => rdr p (false, s)) w) := by
  refine (Read_any s hs w).mono ?_
  rintro e w' ⟨rfl, rfl⟩
  exact ⟨w.heap.size, rfl, Rd.new hs rfl, (Mod.refl [] w).alloc _, fun n hn => by simp [rdr] at hn; omega⟩
end
theorem Sep.made {w0 w : World} {rs : List Res} {r : Res} (h : Sep w0 [] rs w) (hm : r ∈ rs) : r.holds w ∧ Mod [] w0 w ∧ ∀ n ∈ r.foot, w0.heap.size ≤ n :=
  ⟨h.all r hm, h.mod, fun n hn => by
    rcases Nat.lt_or_ge n w0.heap.size with h1 | h1
    · exact absurd (h.old r hm n hn h1) (by simp)
    · exact h1⟩
theorem Sep.nil {w0 w : World} {S : List Nat} {rs : List Res} (e s : Nat) (h : Sep w0 S rs w) : Sep w0 S (own none 0 e s 0 [] :: rs) w :=
  h.add (Mod.refl _ _) (own_nil w e s) (by simp [own, Value.ownBlock])
/-- The length of a slice. -/
def slLen : Value → Nat
  | .slice _ n _ => n
  | _ => 0
end Go.Proofs.Ytmcaigmpcbkfpaa
namespace Go.Proofs.Ytmcaigmpcbkfpaa
set_option maxRecDepth 8000
attribute [local irreducible] blk wpS seqS ordS OpVal RV endS LoadV StoreV Calls
open Go.RowKit
def b8 (x : Int) : UInt8 := UInt8.ofNat (x % 256).toNat
theorem nbs1 (x : Int) : numBytes 1 x = [b8 x] := by simp [numBytes, nb, b8, List.range_succ]
theorem strOf_add (bs : List UInt8) (x : Int) : strOf bs ++ strOfNums [IntKind.u8.wrap x] = strOf (bs ++ [b8 x]) := by
  rw [IntKind.wrap_u8]; apply ByteArray.ext; simp [strOfNums, b8]
theorem strOf_cat (bs : List UInt8) (s : ByteArray) : strOf bs ++ s = strOf (bs ++ s.data.toList) := by
  apply ByteArray.ext; simp
theorem Sep.turns {w0 w : World} {S : List Nat} {rs : List Res} {r : Res} (h : Sep w0 S rs w) (hm : r ∈ rs) : r.holds w ∧ Mod S w0 w ∧ ∀ n ∈ r.foot, n ∈ S ∨ w0.heap.size ≤ n :=
  ⟨h.all r hm, h.mod, fun n hn => by
    rcases Nat.lt_or_ge n w0.heap.size with h1 | h1
    · exact .inl (h.old r hm n hn h1)
    · exact .inr h1⟩
theorem Sep.writer {w0 w : World} {S : List Nat} {rs : List Res} {p : Nat} (h : Sep w0 S (blk p [.bool false, .pointer none, .slice none 0 0] 86 :: rs) w) : Sep w0 S (wtr p none (false, []) :: rs) w :=
  h.updU .head (Mod.refl _ _) (wtr_new (h.getBlk (.head _))) (fun n hn => .inl (by unfold blk; exact hn))
section
variable {p : Nat} {row : Option Nat} {bs : List UInt8} {w : World} {b : Nat}
theorem put1 (x : Int) (hx : 0 ≤ x ∧ x ≤ 255) : putAll 1 255 (false, bs) [x] = (false, bs ++ [b8 x]) := by
  simp only [putAll, List.foldl_cons, List.foldl_nil, putOne, nbs1]
  rw [if_neg (by simp; omega)]
theorem wByte1 (x : Int) (hx : 0 ≤ x ∧ x ≤ 255) (hb : bs.length ≤ 1000000) (h : (wtr p row (false, bs)).holds w) (hr : Blk w b [.int .i64 x] 3) :
    Calls Try.prog 39 #[ptr0 p, .slice (some ⟨b, 0, none⟩) 1 1] w (Turns (wtr p row (false, bs)) (fun _ => ptr0 p) (fun row' => wtr p row' (false, bs ++ [b8 x])) w) := by
  have := wByte_R [x] h hr (by simp; omega) rfl (by simp)
  rwa [put1 x hx] at this
theorem wText1 (s : ByteArray) (hs : s.size ≤ 1000000) (hb : bs.length ≤ 1000000) (h : (wtr p row (false, bs)).holds w) (hr : Blk w b [.string s] 9) :
    Calls Try.prog 42 #[ptr0 p, .slice (some ⟨b, 0, none⟩) 1 1] w (Turns (wtr p row (false, bs)) (fun _ => ptr0 p) (fun row' => wtr p row' (false, bs ++ s.data.toList)) w) := by
  have := wText_R [s] h hr (by simp [textLen]; omega) rfl (by simp)
  rwa [show textAll (false, bs) [s] = (false, bs ++ s.data.toList) from by simp [textAll, textOne]] at this
end
theorem Sep.turned {w0 w : World} {S : List Nat} {rs : List Res} {r : Res} (h : Sep w0 S rs w) (hm : r ∈ rs) : r.holds w ∧ Mod S w0 w := ⟨h.all r hm, h.mod⟩
theorem strOf_get (l : List UInt8) (k : Nat) (h : k < l.length) : (strOf l)[k]'(by rw [strOf_size]; exact h) = l[k] := rfl
theorem nbs2 (x : Int) : numBytes 2 x = [b8 (x / 256), b8 x] := by simp [numBytes, nb, b8, List.range_succ]
theorem nbs4 (x : Int) : numBytes 4 x = [b8 (x / 16777216), b8 (x / 65536), b8 (x / 256), b8 x] := by simp [numBytes, nb, b8, List.range_succ]
theorem putAll_ok (size : Nat) (most : Int) : ∀ (l : List Int) (bs : List UInt8), (∀ x ∈ l, 0 ≤ x ∧ x ≤ most) → putAll size most (false, bs) l = (false, bs ++ l.flatMap (numBytes size))
  | [], bs, _ => by simp [putAll]
  | x :: l, bs, h => by
    have hx := h x (by simp)
    have ih := putAll_ok size most l (bs ++ numBytes size x) (fun y hy => h y (by simp [hy]))
    simp only [putAll, List.foldl_cons] at ih ⊢
    rw [show putOne size most (false, bs) x = (false, bs ++ numBytes size x) from by rw [putOne, if_neg (by simp; omega)], ih, List.flatMap_cons, List.append_assoc]
section
variable {p : Nat} {row : Option Nat} {bs : List UInt8} {w : World} {b n : Nat}
theorem wShort_L (l : List Int) (hl : ∀ x ∈ l, 0 ≤ x ∧ x ≤ 65535) (hb : bs.length ≤ 1000000) (hn : n = l.length) (hk : l.length ≤ 1000) (h : (wtr p row (false, bs)).holds w) (hr : Blk w b (l.map (.int .i64)) 3) :
    Calls Try.prog 40 #[ptr0 p, .slice (some ⟨b, 0, none⟩) n n] w (Turns (wtr p row (false, bs)) (fun _ => ptr0 p) (fun row' => wtr p row' (false, bs ++ l.flatMap (numBytes 2))) w) := by
  have := wShort_R (n := n) l h hr (by simp; omega) hn hk
  rwa [putAll_ok _ _ _ _ hl] at this
theorem wByte_L (l : List Int) (hl : ∀ x ∈ l, 0 ≤ x ∧ x ≤ 255) (hb : bs.length ≤ 1000000) (hn : n = l.length) (hk : l.length ≤ 1000) (h : (wtr p row (false, bs)).holds w) (hr : Blk w b (l.map (.int .i64)) 3) :
    Calls Try.prog 39 #[ptr0 p, .slice (some ⟨b, 0, none⟩) n n] w (Turns (wtr p row (false, bs)) (fun _ => ptr0 p) (fun row' => wtr p row' (false, bs ++ l.flatMap (numBytes 1))) w) := by
  have := wByte_R (n := n) l h hr (by simp; omega) hn hk
  rwa [putAll_ok _ _ _ _ hl] at this
theorem wWord_L (l : List Int) (hl : ∀ x ∈ l, 0 ≤ x ∧ x ≤ 4294967295) (hb : bs.length ≤ 1000000) (hn : n = l.length) (hk : l.length ≤ 1000) (h : (wtr p row (false, bs)).holds w) (hr : Blk w b (l.map (.int .u32)) 22) :
    Calls Try.prog 41 #[ptr0 p, .slice (some ⟨b, 0, none⟩) n n] w (Turns (wtr p row (false, bs)) (fun _ => ptr0 p) (fun row' => wtr p row' (false, bs ++ l.flatMap (numBytes 4))) w) := by
  have := wWord_R (n := n) l h hr (by simp; omega) hn hk hl
  rwa [putAll_ok _ _ _ _ hl] at this
theorem wDone_ok (hb : bs.length ≤ 65535) (h : (wtr p row (false, bs)).holds w) :
    Calls Try.prog 43 #[ptr0 p] w (Turns (wtr p row (false, bs)) (fun _ => .tuple #[.string (strOf bs), .int .i64 0]) (fun row' => wtr p row' (false, bs)) w) := by
  have := wDone_R h
  rwa [show doneOf (false, bs) = (strOf bs, 0) from by rw [doneOf, if_neg (by simp), if_neg (by simp; omega)]] at this
end
end Go.Proofs.Ytmcaigmpcbkfpaa
