/- What the document's answer for cursors writes: gueriteref01.Bytes. -/
import Derived.Test.YtodhhnljeojpaaaCurMath
set_option linter.unusedVariables false
set_option linter.unusedSimpArgs false
set_option maxRecDepth 100000
namespace Go.Proofs.Ytodhhnljeojpaaa
open Go.RowKit

def ncells (size : Nat) (n : Int) (j : Nat) : List Value := (List.range size).map fun i => .int .u8 (if size - j ≤ i then ((nb size n i).toNat : Int) else 0)
theorem ncells_set (size : Nat) (n : Int) (j : Nat) (h : j < size) : (ncells size n j).set (size - 1 - j) (.int .u8 ((nb size n (size - 1 - j)).toNat : Int)) = ncells size n (j + 1) := by
  apply List.ext_getElem
  · simp [ncells]
  · intro i h1 h2
    simp only [ncells, List.getElem_set, List.getElem_map, List.getElem_range]
    split
    · rename_i e; subst e; rw [if_pos (by omega)]
    · rename_i e
      have h3 : i < size := by simpa [ncells] using h2
      by_cases hi : size - j ≤ i
      · rw [if_pos hi, if_pos (by omega)]
      · rw [if_neg hi, if_neg (by omega)]
theorem ncells_all (size : Nat) (n : Int) : ncells size n size = Lib.byteCells (numBytes size n) := by
  simp [ncells, Lib.byteCells, numBytes]
theorem nb_step (size : Nat) (n : Int) (j : Nat) (h : j < size) (h4 : size ≤ 4) (h0 : 0 ≤ n) : (n / 256 ^ j) % 256 = ((nb size n (size - 1 - j)).toNat : Int) := by
  have e : size - 1 - (size - 1 - j) = j := by omega
  unfold nb
  rw [byte_toNat, e, show (2 : Int) ^ (8 * j) = 256 ^ j from by rw [Int.pow_mul]; rfl]
theorem div_step (n : Int) (j : Nat) (h0 : 0 ≤ n) : n / 256 ^ j / 256 = n / 256 ^ (j + 1) := by
  rw [Int.ediv_ediv_of_nonneg (by exact Int.pow_nonneg (by decide)), Int.pow_succ]

theorem Blk.at_ {w : World} {b : Nat} {l : List Value} {t : TypeId} (h : Blk w b l t) {i : Nat} (hi : i < l.length) : ∃ c, w.cell? ⟨b, i, none⟩ = some c := ⟨l[i], by rw [h.cell]; simp [hi]⟩
/-- So many bytes that are 0. -/
def zeroBytes (n : Nat) : List Value := List.replicate n (.int .u8 0)
theorem make_bytes (n : Nat) (hn : n ≤ 16777216) (w : World) :
    (Instr.makeSlice 52 (.int .i64 n) (.int .i64 n)).run Try.prog w = .ok (.slice (some ⟨w.heap.size, 0, none⟩) n n) (w.alloc (.cells (zeroBytes n).toArray 5)) := by
  obtain ⟨i0, hi, hz0, hz1, hz2⟩ := info_parts infoByte
  have h := run_makeSlice (P := Try.prog) w 52 5 i0 (.int .u8 0) Try.underlying52 hi hz0 .i64 .i64 (n : Int) (n : Int) (by omega) (Int.le_refl _) (by rw [hz1]; omega) (by rw [hz2]; omega) (by omega)
  rw [h, hz1, Nat.mul_one, Int.toNat_natCast]
  congr 2
  apply congrArg (fun c => Obj.cells c _ _)
  apply Array.ext'
  exact toList_madeCells_one _ _
theorem ncells_zero (size : Nat) (n : Int) : ncells size n 0 = zeroBytes size := by
  apply List.ext_getElem
  · simp [ncells, zeroBytes]
  · intro i h1 h2
    have h3 : i < size := by simpa [zeroBytes] using h2
    simp only [ncells, zeroBytes, List.getElem_map, List.getElem_range, List.getElem_replicate]
    rw [if_neg (by omega)]
/-- The string of a row of bytes. -/
theorem bytes_string (w : World) (g : Nat) (l : List UInt8) (n : Nat) (hn : n = l.length) (hb : Blk w g (Lib.byteCells l) 5) :
    (convert 52 9 (.slice (some ⟨g, 0, none⟩) n n)).run Try.prog w = .ok (.string ⟨l.toArray⟩) w := by
  have h := run_convert_bytes_arg (P := Try.prog) w 52 5 Try.underlying52 Try.underlying5 g 0 n n (l.map fun b => (b.toNat : Int)) (by simp [hn]) (by
    intro i hi
    rw [Nat.zero_add, hb.cell]
    simp only [Lib.byteCells, List.getElem?_toArray, List.getElem?_map, List.getD_eq_getElem?_getD]
    rw [List.getElem?_eq_getElem (by omega)]; rfl) 9 Try.underlying9
  rw [h]
  congr 1
  simp only [strOfNums, List.map_map]
  congr 3
  have : ((fun n : Int => UInt8.ofNat n.toNat) ∘ fun b : UInt8 => (b.toNat : Int)) = id := by funext b; simp
  rw [this, List.map_id]

end Go.Proofs.Ytodhhnljeojpaaa
