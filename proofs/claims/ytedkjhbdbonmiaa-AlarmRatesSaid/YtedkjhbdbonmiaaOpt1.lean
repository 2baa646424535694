/- Package option: options that came in; which are right, how many bytes they have. -/
import Derived.Test.YtedkjhbdbonmiaaAuto
import Derived.Test.YtedkjhbdbonmiaaOpen
set_option linter.unusedVariables false
set_option linter.unusedSimpArgs false
namespace Go.Proofs.Ytedkjhbdbonmiaa
set_option maxRecDepth 8000
attribute [local irreducible] blk wpS seqS ordS OpVal RV endS LoadV StoreV Calls
open Go.RowKit

abbrev Opt := Int × ByteArray
abbrev enOpt (o : Opt) : List Value := [.int .i64 o.1, .string o.2]
abbrev ov (o : Opt) : Value := .agg #[.int .i64 o.1, .string o.2]
/-- Is an option right? -/
def optRight (o : Opt) : Bool := if o.1 == 1 then o.2.toList.isEmpty else decide (1 < o.1) && decide (o.1 ≤ 255) && decide ((o.2.size : Int) ≤ 38)
theorem isEmpty_size (s : ByteArray) : s.toList.isEmpty = decide (s.size = 0) := by
  rw [ByteArray.toList_eq]
  rcases s with ⟨⟨l⟩⟩
  cases l <;> simp [ByteArray.size]
theorem isEmpty_eq (s : ByteArray) : ((s.size : Int) == 0) = s.toList.isEmpty := by
  rw [isEmpty_size, Bool.eq_iff_iff]; simp
/-! ### The first of a kind -/
def idxOf {α : Type} (p : α → Bool) (l : List α) : Int := match l.findIdx? p with | none => -1 | some i => i
theorem idxOf_some {α : Type} {p : α → Bool} {l : List α} {k : Nat} (hk : k < l.length) (h : p l[k] = true) (hb : ∀ j (hj : j < l.length), j < k → p l[j] = false) : idxOf p l = k := by
  have : l.findIdx? p = some k := by
    rw [List.findIdx?_eq_some_iff_getElem]
    exact ⟨hk, h, fun j hj => by rw [hb j (by omega) hj]; simp⟩
  simp [idxOf, this]
theorem idxOf_none {α : Type} {p : α → Bool} {l : List α} (hb : ∀ j (hj : j < l.length), p l[j] = false) : idxOf p l = -1 := by
  have : l.findIdx? p = none := by
    rw [List.findIdx?_eq_none_iff]
    intro x hx
    obtain ⟨j, hj, rfl⟩ := List.getElem_of_mem hx
    exact hb j hj
  simp [idxOf, this]
theorem idxOf_any {α : Type} (p : α → Bool) (l : List α) : decide (0 ≤ idxOf p l) = l.any p := by
  unfold idxOf
  cases h : l.findIdx? p with
  | none => rw [List.findIdx?_eq_none_iff] at h; simp; exact fun x hx => by simpa using h x hx
  | some i =>
    rw [List.findIdx?_eq_some_iff_getElem] at h
    obtain ⟨hi, hp, _⟩ := h
    simp only [Int.natCast_nonneg, decide_true]
    exact (List.any_eq_true.2 ⟨l[i], List.getElem_mem hi, hp⟩).symm
end Go.Proofs.Ytedkjhbdbonmiaa
