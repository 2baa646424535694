/- Bytes written are bytes read: the plain lists behind package cursor. -/
import Derived.Test.YtodhhnljeojpaaaReader
set_option linter.unusedVariables false
set_option linter.unusedSimpArgs false
set_option maxRecDepth 100000
namespace Go.Proofs.Ytodhhnljeojpaaa

theorem size_mk (l : List UInt8) : (⟨l.toArray⟩ : ByteArray).size = l.length := rfl
theorem putAll_one (size : Nat) (most : Int) (bs : List UInt8) (n : Int) (h0 : 0 ≤ n) (h1 : n ≤ most) : putAll size most (false, bs) [n] = (false, bs ++ numBytes size n) := by
  simp [putAll, putOne]; omega
theorem putAll_cons (size : Nat) (most : Int) (bs : List UInt8) (n : Int) (l : List Int) (h0 : 0 ≤ n) (h1 : n ≤ most) : putAll size most (false, bs) (n :: l) = putAll size most (false, bs ++ numBytes size n) l := by
  have : putOne size most (false, bs) n = (false, bs ++ numBytes size n) := by simp [putOne]; omega
  simp [putAll, this]
theorem putAll_nil (size : Nat) (most : Int) (st : Bool × List UInt8) : putAll size most st [] = st := rfl
theorem textAll_one (bs : List UInt8) (s : ByteArray) : textAll (false, bs) [s] = (false, bs ++ s.data.toList) := by simp [textAll, textOne]
theorem doneOf_ok (bs : List UInt8) (h : bs.length ≤ 65535) : doneOf (false, bs) = (⟨bs.toArray⟩, 0) := by simp [doneOf]; omega
theorem extract_front (x y : List UInt8) : (⟨(x ++ y).toArray⟩ : ByteArray).extract 0 x.length = ⟨x.toArray⟩ := by
  apply ByteArray.ext; simp [ByteArray.data_extract]
theorem extract_back (x y : List UInt8) : (⟨(x ++ y).toArray⟩ : ByteArray).extract x.length (⟨(x ++ y).toArray⟩ : ByteArray).size = ⟨y.toArray⟩ := by
  apply ByteArray.ext
  rw [ByteArray.data_extract]
  apply Array.ext'
  simp [ByteArray.size]
theorem rTake_split (x y : List UInt8) : rTake (false, ⟨(x ++ y).toArray⟩) x.length = (⟨x.toArray⟩, (false, ⟨y.toArray⟩)) := by
  have hs : (⟨(x ++ y).toArray⟩ : ByteArray).size = x.length + y.length := by simp [ByteArray.size]
  unfold rTake
  rw [if_neg (by simp), if_neg (by rw [hs]; omega)]
  simp only [Int.toNat_natCast]
  rw [extract_front, extract_back]
theorem rTake_split' (x y : List UInt8) (n : Int) (h : n = x.length) : rTake (false, ⟨(x ++ y).toArray⟩) n = (⟨x.toArray⟩, (false, ⟨y.toArray⟩)) := by rw [h]; exact rTake_split x y
theorem byte_toNat (x : Int) : ((UInt8.ofNat (x % 256).toNat).toNat : Int) = x % 256 := by rw [UInt8.toNat_ofNat']; omega
theorem numBytes1 (n : Int) : numBytes 1 n = [UInt8.ofNat (n % 256).toNat] := by simp [numBytes, nb, List.range_succ]
theorem numBytes2 (n : Int) : numBytes 2 n = [UInt8.ofNat (n / 256 % 256).toNat, UInt8.ofNat (n % 256).toNat] := by simp [numBytes, nb, List.range_succ]
theorem numBytes4 (n : Int) : numBytes 4 n = [UInt8.ofNat (n / 16777216 % 256).toNat, UInt8.ofNat (n / 65536 % 256).toNat, UInt8.ofNat (n / 256 % 256).toNat, UInt8.ofNat (n % 256).toNat] := by simp [numBytes, nb, List.range_succ]
theorem numOf_1 (n : Int) (h0 : 0 ≤ n) (h1 : n ≤ 255) : numOf (numBytes 1 n) = n := by rw [numBytes1]; simp only [numOf, List.foldl_cons, List.foldl_nil, byte_toNat]; omega
theorem numOf_2 (n : Int) (h0 : 0 ≤ n) (h1 : n ≤ 65535) : numOf (numBytes 2 n) = n := by rw [numBytes2]; simp only [numOf, List.foldl_cons, List.foldl_nil, byte_toNat]; omega
theorem numOf_4 (n : Int) (h0 : 0 ≤ n) (h1 : n ≤ 4294967295) : numOf (numBytes 4 n) = n := by rw [numBytes4]; simp only [numOf, List.foldl_cons, List.foldl_nil, byte_toNat]; omega
end Go.Proofs.Ytodhhnljeojpaaa
