/- The sum of the shorts of a text one of whose shorts is another one. -/
import Derived.Test.YtodhhnljeojpaaaSumRef
set_option linter.unusedVariables false
set_option linter.unusedSimpArgs false
namespace Go.Proofs.Ytodhhnljeojpaaa
open Go.RowKit

theorem toList_extract (s : ByteArray) (i j : Nat) : (s.extract i j).data.toList = (s.data.toList.drop i).take (j - i) := by
  rw [ByteArray.data_extract]; simp
theorem upd_s (s : ByteArray) (m : Nat) (hm : m + 2 ≤ s.size) (hp : m % 2 = 0) :
    wsum true s.data.toList = wsum true (s.data.toList.take m) + ((s[m]'(by omega)).toNat * 256 + (s[m + 1]'(by omega)).toNat : Int) + wsum true (s.data.toList.drop (m + 2)) := by
  have hl : s.data.toList.length = s.size := by simp
  have e : s.data.toList = s.data.toList.take m ++ ([s[m]'(by omega), s[m + 1]'(by omega)] ++ s.data.toList.drop (m + 2)) := by
    conv => lhs; rw [← List.take_append_drop m s.data.toList]
    congr 1
    rw [List.drop_eq_getElem_cons (by omega), List.drop_eq_getElem_cons (by omega)]; rfl
  conv => lhs; rw [e]
  rw [wsum_even _ _ _ (by rw [List.length_take]; omega), wsum_even _ _ _ (by simp)]
  simp [wsum]; omega
theorem upd_t (s : ByteArray) (m : Nat) (hm : m + 2 ≤ s.size) (hp : m % 2 = 0) (now : Int) (h0 : 0 ≤ now) (h1 : now ≤ 65535) :
    wsum true ((s.extract 0 m ++ strOfNums [now / 256, now % 256]) ++ s.extract (m + 2) s.size).data.toList = wsum true (s.data.toList.take m) + now + wsum true (s.data.toList.drop (m + 2)) := by
  have hl : s.data.toList.length = s.size := by simp
  have e : ((s.extract 0 m ++ strOfNums [now / 256, now % 256]) ++ s.extract (m + 2) s.size).data.toList = s.data.toList.take m ++ ([UInt8.ofNat (now / 256).toNat, UInt8.ofNat (now % 256).toNat] ++ s.data.toList.drop (m + 2)) := by
    rw [ByteArray.data_append, ByteArray.data_append, Array.toList_append, Array.toList_append, toList_extract, toList_extract, List.append_assoc]
    simp [strOfNums]
    rw [List.take_of_length_le (by simp)]
  rw [e, wsum_even _ _ _ (by rw [List.length_take]; omega), wsum_even _ _ _ (by simp)]
  have b1 : (UInt8.ofNat (now / 256).toNat).toNat = (now / 256).toNat := by rw [UInt8.toNat_ofNat']; omega
  have b2 : (UInt8.ofNat (now % 256).toNat).toNat = (now % 256).toNat := by rw [UInt8.toNat_ofNat']; omega
  simp only [wsum, b1, b2]; simp; omega
end Go.Proofs.Ytodhhnljeojpaaa
