/- What the document's answer for cursors writes: gueriteref01.Bytes. -/
import Derived.Test.YtbcebihjehneaaaCurMath
set_option linter.unusedVariables false
set_option linter.unusedSimpArgs false
namespace Go.Proofs.Ytbcebihjehneaaa
open Go.RowKit

def bcells (size : Nat) (n : Int) (j : Nat) : List Value := (List.range size).map fun i => .int .u8 (if size - j ≤ i then ((nb size n i).toNat : Int) else 0)
theorem bcells_set (size : Nat) (n : Int) (j : Nat) (h : j < size) : (bcells size n j).set (size - 1 - j) (.int .u8 ((nb size n (size - 1 - j)).toNat : Int)) = bcells size n (j + 1) := by
  apply List.ext_getElem
  · simp [bcells]
  · intro i h1 h2
    simp only [bcells, List.getElem_set, List.getElem_map, List.getElem_range]
    split
    · rename_i e; subst e; rw [if_pos (by omega)]
    · rename_i e
      have h3 : i < size := by simpa [bcells] using h2
      by_cases hi : size - j ≤ i
      · rw [if_pos hi, if_pos (by omega)]
      · rw [if_neg hi, if_neg (by omega)]
theorem bcells_all (size : Nat) (n : Int) : bcells size n size = Lib.byteCells (numBytes size n) := by
  simp [bcells, Lib.byteCells, numBytes]
theorem nb_step (size : Nat) (n : Int) (j : Nat) (h : j < size) (h4 : size ≤ 4) (h0 : 0 ≤ n) : (n / 256 ^ j) % 256 = ((nb size n (size - 1 - j)).toNat : Int) := by
  have e : size - 1 - (size - 1 - j) = j := by omega
  unfold nb
  rw [byte_toNat, e, show (2 : Int) ^ (8 * j) = 256 ^ j from by rw [Int.pow_mul]; rfl]
theorem div_step (n : Int) (j : Nat) (h0 : 0 ≤ n) : n / 256 ^ j / 256 = n / 256 ^ (j + 1) := by
  rw [Int.ediv_ediv_of_nonneg (by exact Int.pow_nonneg (by decide)), Int.pow_succ]

theorem Blk.at_ {w : World} {b : Nat} {l : List Value} {t : TypeId} (h : Blk w b l t) {i : Nat} (hi : i < l.length) : ∃ c, w.cell? ⟨b, i, none⟩ = some c := ⟨l[i], by rw [h.cell]; simp [hi]⟩
/-- So many bytes that are 0. -/
def zeroBytes (n : Nat) : List Value := List.replicate n (.int .u8 0)
theorem make_bytes (n : Nat) (hn : n ≤ 16777216) (w : World) :
    (Instr.makeSlice 35 (.int .i64 n) (.int .i64 n)).run Try.prog w = .ok (.slice (some ⟨w.heap.size, 0, none⟩) n n) (w.alloc (.cells (zeroBytes n).toArray 5)) := by
  obtain ⟨i0, hi, hz0, hz1, hz2⟩ := info_parts infoByte
  have h := run_makeSlice (P := Try.prog) w 35 5 i0 (.int .u8 0) Try.underlying35 hi hz0 .i64 .i64 (n : Int) (n : Int) (by omega) (Int.le_refl _) (by rw [hz1]; omega) (by rw [hz2]; omega) (by omega)
  rw [h, hz1, Nat.mul_one, Int.toNat_natCast]
  congr 2
  apply congrArg (fun c => Obj.cells c _ _)
  apply Array.ext'
  exact toList_madeCells_one _ _
theorem bcells_zero (size : Nat) (n : Int) : bcells size n 0 = zeroBytes size := by
  apply List.ext_getElem
  · simp [bcells, zeroBytes]
  · intro i h1 h2
    have h3 : i < size := by simpa [zeroBytes] using h2
    simp only [bcells, zeroBytes, List.getElem_map, List.getElem_range, List.getElem_replicate]
    rw [if_neg (by omega)]
/-- The string of a row of bytes. -/
theorem bytes_string (w : World) (g : Nat) (l : List UInt8) (n : Nat) (hn : n = l.length) (hb : Blk w g (Lib.byteCells l) 5) :
    (convert 35 9 (.slice (some ⟨g, 0, none⟩) n n)).run Try.prog w = .ok (.string ⟨l.toArray⟩) w := by
  have h := run_convert_bytes_arg (P := Try.prog) w 35 5 Try.underlying35 Try.underlying5 g 0 n n (l.map fun b => (b.toNat : Int)) (by simp [hn]) (by
    intro i hi
    rw [Nat.zero_add, hb.cell]
    simp only [Lib.byteCells, List.getElem?_toArray, List.getElem?_map, List.getD_eq_getElem?_getD]
    rw [List.getElem?_eq_getElem (by omega)]; rfl) 9 Try.underlying9
  rw [h]
  congr 1
  simp only [strOfNums, List.map_map]
  congr 3
  have : ((fun n : Int => UInt8.ofNat n.toNat) ∘ fun b : UInt8 => (b.toNat : Int)) = id := by funext b; simp
  rw [this, List.map_id]

set_option maxRecDepth 100000 in
set_option maxHeartbeats 2000000 in
theorem rBytes_any (n : Int) (size : Nat) (hs : size = 1 ∨ size = 2 ∨ size = 4) (h0 : 0 ≤ n) (h1 : n ≤ 4294967295) (w : World) :
    Calls Try.prog 20 #[.int .u32 n, .int .i64 size] w fun e w' => e = .returned (.string ⟨(numBytes size n).toArray⟩) ∧ Mod [] w w' := by
  have hs4 : 1 ≤ size ∧ size ≤ 4 := by omega
  have mk := make_bytes size (by omega)
  go_enter Try.func20, Try.ntmps20
  go_wp2_with fail
  clear mk
  have hb0 : Blk (w.alloc (.cells (zeroBytes size).toArray 5)) w.heap.size (bcells size n 0) 5 := by rw [bcells_zero]; (repeat' (first | (with_reducible assumption) | (with_reducible rfl) | (with_reducible apply Blk.drew) | (with_reducible apply Blk.drewN) | (with_reducible refine Blk.new_ _ _ ?_; focus (first | assumption | (simp; omega) | (simp; done) | omega | (simp at *; omega))) | (with_reducible apply Blk.alloc) | (with_reducible apply Blk.other_; focus (first | assumption | (simp; omega) | (simp; done) | omega | (simp at *; omega))) | (with_reducible apply Blk.set_) | (with_reducible apply Blk.mod_ ‹Mod _ _ _›; focus (first | assumption | (simp; omega) | (simp; done) | omega | (simp at *; omega))) | (simp; done)))
  have hm0 : Mod [] w (w.alloc (.cells (zeroBytes size).toArray 5)) := by (repeat' (first | (with_reducible exact Mod.refl _ _) | (with_reducible assumption) | (with_reducible refine Mod.drew ?_) | (with_reducible refine Mod.drewN ?_ _) | (with_reducible refine Mod.alloc ?_ _) | (with_reducible refine Mod.setCell_ ?_ ?_; focus (first | (intro hlt_; simp; done) | (intro hlt_; exfalso; simp at hlt_; done) | (intro hlt_; exfalso; simp at hlt_; omega) | (intro hlt_; exfalso; omega) | (intro hlt_; simp at hlt_ ⊢; omega))) | (with_reducible refine Mod.trans_ ‹Mod _ _ _› ?_ ?_; focus (first | (intro x_ hx_ hl_; simp at hx_; done) | (intro x_ hx_ hl_; simp at hx_ ⊢; omega) | (intro x_ hx_ hl_; simp at hx_ hl_ ⊢; omega) | (intro x_ hx_ hl_; simp_all; done) | (intro x_ hx_ hl_; simp_all; omega)))))
  go_loopw [0, 6] (fun x i wr => ∃ j : Nat, j ≤ size ∧ x = .int .u32 (n / 256 ^ j) ∧ i = .int .i64 ((size : Int) - 1 - (j : Int)) ∧ Blk wr w.heap.size (bcells size n j) 5 ∧ Mod [] w wr) (fun _ i _ => (intOf i + 1).toNat)
  case atStart => exact ⟨0, Nat.zero_le _, by simp, by simp, hb0, hm0⟩
  case round =>
    obtain ⟨j, hj, rfl, rfl, hb, hm⟩ := hrel
    by_cases hlt : j < size
    · have hx0 : 0 ≤ n / 256 ^ j := Int.ediv_nonneg h0 (Int.pow_nonneg (by decide))
      have hx1 : n / 256 ^ j ≤ n := Int.ediv_le_self _ h0
      have e1 := Lib.hid (nb_step size n j hlt hs4.2 h0)
      have e2 := Lib.hid (div_step n j h0)
      have e3 := Lib.hid (bcells_set size n j hlt)
      generalize n / 256 ^ j = x at e1 e2 hx0 hx1 ⊢
      obtain ⟨i, hi⟩ : ∃ i : Nat, (size : Int) - 1 - (j : Int) = (i : Int) := ⟨size - 1 - j, by omega⟩
      rw [hi]
      have hi' : i = size - 1 - j := by omega
      rw [← hi'] at e1 e3
      have hil : i < size := by omega
      have Hi := Lib.hid hi
      clear hi hi'
      have fz := hb.free
      obtain ⟨c, hcell⟩ := hb.at_ (i := i) (by simpa [bcells] using hil)
      go_wp2_with fail
      go_roundw
      case rel => exact ⟨j + 1, hlt, by rw [e2.out], by rw [← Hi.out]; exact congrArg (Value.int .i64) (by omega), by rw [← e3.out, ← e1.out]; exact hb.set i _, by (repeat' (first | (with_reducible exact Mod.refl _ _) | (with_reducible assumption) | (with_reducible refine Mod.drew ?_) | (with_reducible refine Mod.drewN ?_ _) | (with_reducible refine Mod.alloc ?_ _) | (with_reducible refine Mod.setCell_ ?_ ?_; focus (first | (intro hlt_; simp; done) | (intro hlt_; exfalso; simp at hlt_; done) | (intro hlt_; exfalso; simp at hlt_; omega) | (intro hlt_; exfalso; omega) | (intro hlt_; simp at hlt_ ⊢; omega))) | (with_reducible refine Mod.trans_ ‹Mod _ _ _› ?_ ?_; focus (first | (intro x_ hx_ hl_; simp at hx_; done) | (intro x_ hx_ hl_; simp at hx_ ⊢; omega) | (intro x_ hx_ hl_; simp at hx_ hl_ ⊢; omega) | (intro x_ hx_ hl_; simp_all; done) | (intro x_ hx_ hl_; simp_all; omega)))))⟩
      case measure => simp [intOf] <;> omega
    · obtain rfl : j = size := by omega
      rw [bcells_all] at hb
      have kc := bytes_string wr w.heap.size (numBytes j n) j (numBytes_length _ _).symm hb
      go_wp2_with fail
      go_ret
      exact ⟨rfl, hm⟩
end Go.Proofs.Ytbcebihjehneaaa
