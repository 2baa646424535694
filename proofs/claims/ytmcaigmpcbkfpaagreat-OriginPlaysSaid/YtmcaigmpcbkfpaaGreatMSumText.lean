/- Bytes written are bytes read: the plain lists behind package cursor. -/
import Derived.Test.YtmcaigmpcbkfpaaGreatReader
import Derived.Test.YtmcaigmpcbkfpaaGreatMSumRef
set_option linter.unusedVariables false
set_option linter.unusedSimpArgs false
set_option maxRecDepth 100000
namespace Go.Proofs.YtmcaigmpcbkfpaaGreat

theorem size_mk (l : List UInt8) : (⟨l.toArray⟩ : ByteArray).size = l.length := rfl
theorem putAll_one (size : Nat) (most : Int) (bs : List UInt8) (n : Int) (h0 : 0 ≤ n) (h1 : n ≤ most) : putAll size most (false, bs) [n] = (false, bs ++ numBytes size n) := by
  simp [putAll, putOne]; omega
theorem putAll_cons (size : Nat) (most : Int) (bs : List UInt8) (n : Int) (l : List Int) (h0 : 0 ≤ n) (h1 : n ≤ most) : putAll size most (false, bs) (n :: l) = putAll size most (false, bs ++ numBytes size n) l := by
  have : putOne size most (false, bs) n = (false, bs ++ numBytes size n) := by simp [putOne]; omega
  simp [putAll, this]
theorem putAll_nil (size : Nat) (most : Int) (st : Bool × List UInt8) : putAll size most st [] = st := rfl
theorem textAll_one (bs : List UInt8) (s : ByteArray) : textAll (false, bs) [s] = (false, bs ++ s.data.toList) := by simp [textAll, textOne]
theorem doneOf_ok (bs : List UInt8) (h : bs.length ≤ 65535) : doneOf (false, bs) = (⟨bs.toArray⟩, 0) := by simp [doneOf]; omega
theorem extract_front (x y : List UInt8) : (⟨(x ++ y).toArray⟩ : ByteArray).extract 0 x.length = ⟨x.toArray⟩ := by
  apply ByteArray.ext; simp [ByteArray.data_extract]
theorem extract_back (x y : List UInt8) : (⟨(x ++ y).toArray⟩ : ByteArray).extract x.length (⟨(x ++ y).toArray⟩ : ByteArray).size = ⟨y.toArray⟩ := by
  apply ByteArray.ext
  rw [ByteArray.data_extract]
  apply Array.ext'
  simp [ByteArray.size]
theorem rTake_split (x y : List UInt8) : rTake (false, ⟨(x ++ y).toArray⟩) x.length = (⟨x.toArray⟩, (false, ⟨y.toArray⟩)) := by
  have hs : (⟨(x ++ y).toArray⟩ : ByteArray).size = x.length + y.length := by simp [ByteArray.size]
  unfold rTake
  rw [if_neg (by simp), if_neg (by rw [hs]; omega)]
  simp only [Int.toNat_natCast]
  rw [extract_front, extract_back]
theorem rTake_split' (x y : List UInt8) (n : Int) (h : n = x.length) : rTake (false, ⟨(x ++ y).toArray⟩) n = (⟨x.toArray⟩, (false, ⟨y.toArray⟩)) := by rw [h]; exact rTake_split x y
theorem byte_toNat (x : Int) : ((UInt8.ofNat (x % 256).toNat).toNat : Int) = x % 256 := by rw [UInt8.toNat_ofNat']; omega
theorem numBytes1 (n : Int) : numBytes 1 n = [UInt8.ofNat (n % 256).toNat] := by simp [numBytes, nb, List.range_succ]
theorem numBytes2 (n : Int) : numBytes 2 n = [UInt8.ofNat (n / 256 % 256).toNat, UInt8.ofNat (n % 256).toNat] := by simp [numBytes, nb, List.range_succ]
theorem numBytes4 (n : Int) : numBytes 4 n = [UInt8.ofNat (n / 16777216 % 256).toNat, UInt8.ofNat (n / 65536 % 256).toNat, UInt8.ofNat (n / 256 % 256).toNat, UInt8.ofNat (n % 256).toNat] := by simp [numBytes, nb, List.range_succ]
theorem numOf_1 (n : Int) (h0 : 0 ≤ n) (h1 : n ≤ 255) : numOf (numBytes 1 n) = n := by rw [numBytes1]; simp only [numOf, List.foldl_cons, List.foldl_nil, byte_toNat]; omega
theorem numOf_2 (n : Int) (h0 : 0 ≤ n) (h1 : n ≤ 65535) : numOf (numBytes 2 n) = n := by rw [numBytes2]; simp only [numOf, List.foldl_cons, List.foldl_nil, byte_toNat]; omega
theorem numOf_4 (n : Int) (h0 : 0 ≤ n) (h1 : n ≤ 4294967295) : numOf (numBytes 4 n) = n := by rw [numBytes4]; simp only [numOf, List.foldl_cons, List.foldl_nil, byte_toNat]; omega
end Go.Proofs.YtmcaigmpcbkfpaaGreat
set_option maxRecDepth 100000
namespace Go.Proofs.YtmcaigmpcbkfpaaGreat
open Go.RowKit

def ncells (size : Nat) (n : Int) (j : Nat) : List Value := (List.range size).map fun i => .int .u8 (if size - j ≤ i then ((nb size n i).toNat : Int) else 0)
theorem ncells_set (size : Nat) (n : Int) (j : Nat) (h : j < size) : (ncells size n j).set (size - 1 - j) (.int .u8 ((nb size n (size - 1 - j)).toNat : Int)) = ncells size n (j + 1) := by
  apply List.ext_getElem
  · simp [ncells]
  · intro i h1 h2
    simp only [ncells, List.getElem_set, List.getElem_map, List.getElem_range]
    split
    · rename_i e; subst e; rw [if_pos (by omega)]
    · rename_i e
      have h3 : i < size := by simpa [ncells] using h2
      by_cases hi : size - j ≤ i
      · rw [if_pos hi, if_pos (by omega)]
      · rw [if_neg hi, if_neg (by omega)]
theorem ncells_all (size : Nat) (n : Int) : ncells size n size = Lib.byteCells (numBytes size n) := by
  simp [ncells, Lib.byteCells, numBytes]
theorem nb_step (size : Nat) (n : Int) (j : Nat) (h : j < size) (h4 : size ≤ 4) (h0 : 0 ≤ n) : (n / 256 ^ j) % 256 = ((nb size n (size - 1 - j)).toNat : Int) := by
  have e : size - 1 - (size - 1 - j) = j := by omega
  unfold nb
  rw [byte_toNat, e, show (2 : Int) ^ (8 * j) = 256 ^ j from by rw [Int.pow_mul]; rfl]
theorem div_step (n : Int) (j : Nat) (h0 : 0 ≤ n) : n / 256 ^ j / 256 = n / 256 ^ (j + 1) := by
  rw [Int.ediv_ediv_of_nonneg (by exact Int.pow_nonneg (by decide)), Int.pow_succ]

theorem Blk.at_ {w : World} {b : Nat} {l : List Value} {t : TypeId} (h : Blk w b l t) {i : Nat} (hi : i < l.length) : ∃ c, w.cell? ⟨b, i, none⟩ = some c := ⟨l[i], by rw [h.cell]; simp [hi]⟩
/-- So many bytes that are 0. -/
def zeroBytes (n : Nat) : List Value := List.replicate n (.int .u8 0)
theorem make_bytes (n : Nat) (hn : n ≤ 16777216) (w : World) :
    (Instr.makeSlice 118 (.int .i64 n) (.int .i64 n)).run Tryz.prog w = .ok (.slice (some ⟨w.heap.size, 0, none⟩) n n) (w.alloc (.cells (zeroBytes n).toArray 5)) := by
  obtain ⟨i0, hi, hz0, hz1, hz2⟩ := info_parts infoByte
  have h := run_makeSlice (P := Tryz.prog) w 118 5 i0 (.int .u8 0) Tryz.underlying118 hi hz0 .i64 .i64 (n : Int) (n : Int) (by omega) (Int.le_refl _) (by rw [hz1]; omega) (by rw [hz2]; omega) (by omega)
  rw [h, hz1, Nat.mul_one, Int.toNat_natCast]
  congr 2
  apply congrArg (fun c => Obj.cells c _ _)
  apply Array.ext'
  exact toList_madeCells_one _ _
theorem ncells_zero (size : Nat) (n : Int) : ncells size n 0 = zeroBytes size := by
  apply List.ext_getElem
  · simp [ncells, zeroBytes]
  · intro i h1 h2
    have h3 : i < size := by simpa [zeroBytes] using h2
    simp only [ncells, zeroBytes, List.getElem_map, List.getElem_range, List.getElem_replicate]
    rw [if_neg (by omega)]
/-- The string of a row of bytes. -/
theorem bytes_string (w : World) (g : Nat) (l : List UInt8) (n : Nat) (hn : n = l.length) (hb : Blk w g (Lib.byteCells l) 5) :
    (convert 118 9 (.slice (some ⟨g, 0, none⟩) n n)).run Tryz.prog w = .ok (.string ⟨l.toArray⟩) w := by
  have h := run_convert_bytes_arg (P := Tryz.prog) w 118 5 Tryz.underlying118 Tryz.underlying5 g 0 n n (l.map fun b => (b.toNat : Int)) (by simp [hn]) (by
    intro i hi
    rw [Nat.zero_add, hb.cell]
    simp only [Lib.byteCells, List.getElem?_toArray, List.getElem?_map, List.getD_eq_getElem?_getD]
    rw [List.getElem?_eq_getElem (by omega)]; rfl) 9 Tryz.underlying9
  rw [h]
  congr 1
  simp only [strOfNums, List.map_map]
  congr 3
  have : ((fun n : Int => UInt8.ofNat n.toNat) ∘ fun b : UInt8 => (b.toNat : Int)) = id := by funext b; simp
  rw [this, List.map_id]

end Go.Proofs.YtmcaigmpcbkfpaaGreat
set_option maxRecDepth 100000
namespace Go.Proofs.YtmcaigmpcbkfpaaGreat
open Go.RowKit

/-- A mask of low bits, whatever the number's sign. -/
theorem i64_low (i : Nat) (hi : i ≤ 62) (x : Int) : bits .and .i64 x (2 ^ i - 1) = x % 2 ^ i := by
  have hc : ((2 : Int) ^ i - 1) = ((2 ^ i - 1 : Nat) : Int) := by
    rw [Int.natCast_sub (Nat.two_pow_pos i)]; simp
  have hp : 2 ^ i ≤ 2 ^ 62 := Nat.pow_le_pow_right (by decide) hi
  have hpos : 0 < 2 ^ i := Nat.two_pow_pos i
  have h62 : (2 : Nat) ^ 62 = 4611686018427387904 := by decide
  have h64 : (2 : Nat) ^ 64 = 18446744073709551616 := by decide
  have hmod : (2 ^ i - 1) % 2 ^ 64 = 2 ^ i - 1 := Nat.mod_eq_of_lt (by omega)
  have hb : IntKind.i64.bits = 64 := rfl
  rw [hc]
  simp only [bits, hb, BitVec.ofInt_natCast, BitVec.toNat_and, BitVec.toNat_ofNat, hmod, BitVec.toNat_ofInt, Nat.and_two_pow_sub_one_eq_mod]
  have hlt : ((x % (2 ^ 64 : Nat)).toNat % 2 ^ i) < 2 ^ 62 := Nat.lt_of_lt_of_le (Nat.mod_lt _ hpos) hp
  rw [IntWalk.i64_in _ (by omega)]
  have h0 : 0 ≤ x % ((2 ^ 64 : Nat) : Int) := Int.emod_nonneg _ (by rw [h64]; decide)
  rw [Int.natCast_emod, Int.toNat_of_nonneg h0, Int.natCast_pow]
  exact Int.emod_emod_of_dvd _ (by rw [Int.natCast_pow]; exact ⟨((2 : Nat) : Int) ^ (64 - i), by rw [← Int.pow_add, show i + (64 - i) = 64 from by omega]⟩)
theorem low255 (x : Int) : bits .and .i64 x 255 = x % 256 := i64_low 8 (by decide) x
theorem low65535 (x : Int) : bits .and .i64 x 65535 = x % 65536 := i64_low 16 (by decide) x
set_option maxHeartbeats 400000 in
theorem Good_any (v : Value) (ss : List ByteArray) (w : World) (hr : Row w v ss.length (ss.map Value.string)) (hs : ∀ s ∈ ss, s.size ≤ 9223372036854775807) :
    Calls Tryz.prog 66 #[v] w fun e w' => e = .returned (.bool (sumOf ss == 0)) ∧ Mod [] w w' := by
  go_enter Tryz.func66, Tryz.ntmps66
  go_wp2_with fail
  refine (Of_any _ ss _ hr hs).mono ?_
  rintro e w1 ⟨rfl, hm1⟩
  go_wp2_with fail
  go_ret
  exact ⟨rfl, hm1⟩
end Go.Proofs.YtmcaigmpcbkfpaaGreat
namespace Go.Proofs.YtmcaigmpcbkfpaaGreat
open Go.RowKit

theorem toList_extract (s : ByteArray) (i j : Nat) : (s.extract i j).data.toList = (s.data.toList.drop i).take (j - i) := by
  rw [ByteArray.data_extract]; simp
theorem upd_s (s : ByteArray) (m : Nat) (hm : m + 2 ≤ s.size) (hp : m % 2 = 0) :
    wsum true s.data.toList = wsum true (s.data.toList.take m) + ((s[m]'(by omega)).toNat * 256 + (s[m + 1]'(by omega)).toNat : Int) + wsum true (s.data.toList.drop (m + 2)) := by
  have hl : s.data.toList.length = s.size := by simp
  have e : s.data.toList = s.data.toList.take m ++ ([s[m]'(by omega), s[m + 1]'(by omega)] ++ s.data.toList.drop (m + 2)) := by
    conv => lhs; rw [← List.take_append_drop m s.data.toList]
    congr 1
    rw [List.drop_eq_getElem_cons (by omega), List.drop_eq_getElem_cons (by omega)]; rfl
  conv => lhs; rw [e]
  rw [wsum_even _ _ _ (by rw [List.length_take]; omega), wsum_even _ _ _ (by simp)]
  simp [wsum]; omega
theorem upd_t (s : ByteArray) (m : Nat) (hm : m + 2 ≤ s.size) (hp : m % 2 = 0) (now : Int) (h0 : 0 ≤ now) (h1 : now ≤ 65535) :
    wsum true ((s.extract 0 m ++ strOfNums [now / 256, now % 256]) ++ s.extract (m + 2) s.size).data.toList = wsum true (s.data.toList.take m) + now + wsum true (s.data.toList.drop (m + 2)) := by
  have hl : s.data.toList.length = s.size := by simp
  have e : ((s.extract 0 m ++ strOfNums [now / 256, now % 256]) ++ s.extract (m + 2) s.size).data.toList = s.data.toList.take m ++ ([UInt8.ofNat (now / 256).toNat, UInt8.ofNat (now % 256).toNat] ++ s.data.toList.drop (m + 2)) := by
    rw [ByteArray.data_append, ByteArray.data_append, Array.toList_append, Array.toList_append, toList_extract, toList_extract, List.append_assoc]
    simp [strOfNums]
    rw [List.take_of_length_le (by simp)]
  rw [e, wsum_even _ _ _ (by rw [List.length_take]; omega), wsum_even _ _ _ (by simp)]
  have b1 : (UInt8.ofNat (now / 256).toNat).toNat = (now / 256).toNat := by rw [UInt8.toNat_ofNat']; omega
  have b2 : (UInt8.ofNat (now % 256).toNat).toNat = (now % 256).toNat := by rw [UInt8.toNat_ofNat']; omega
  simp only [wsum, b1, b2]; simp; omega
end Go.Proofs.YtmcaigmpcbkfpaaGreat
