/- Package option: an option is written; the options' bytes, as the package and as the document has them. -/
import Derived.Test.YtedkjhbdbonmiaaOpt2
import Derived.Test.YtedkjhbdbonmiaaWl
set_option linter.unusedVariables false
set_option linter.unusedSimpArgs false
namespace Go.Proofs.Ytedkjhbdbonmiaa
set_option maxRecDepth 8000
attribute [local irreducible] blk wpS seqS ordS OpVal RV endS LoadV StoreV Calls
open Go.RowKit
/-- An option's bytes. -/
def optBytes (o : Opt) : List UInt8 := if o.1 == 1 then [b8 o.1] else b8 o.1 :: b8 (optSize o) :: o.2.data.toList
theorem optRight_rng {o : Opt} (h : optRight o = true) : 0 ≤ o.1 ∧ o.1 ≤ 255 ∧ o.2.size ≤ 38 := by
  unfold optRight at h
  split at h
  · rename_i e
    rw [isEmpty_size] at h
    have := of_decide_eq_true h
    simp at e; omega
  · simp at h; omega
theorem optBytes_len {o : Opt} (h : optRight o = true) : ((optBytes o).length : Int) = optSize o := by
  unfold optBytes optSize
  split <;> simp
  omega
/-! ### Encode -/
theorem opts_len (l : List Opt) (h : l.all optRight = true) (k : Nat) : (((l.take k).flatMap optBytes).length : Int) = rawSize (l.take k) := by
  induction k with
  | zero => simp [rawSize]
  | succ k ih =>
    by_cases hk : k < l.length
    · rw [rawSize_snoc l k hk, ← ih, ← optBytes_len (List.all_eq_true.1 h _ (List.getElem_mem hk)), List.take_succ_eq_append_getElem hk, List.flatMap_append, List.length_append]; simp
    · rw [List.take_of_length_le (by omega)] at ih ⊢; exact ih
theorem opts_snoc (l : List Opt) (k : Nat) (hk : k < l.length) : (l.take (k + 1)).flatMap optBytes = (l.take k).flatMap optBytes ++ optBytes l[k] := by
  rw [List.take_succ_eq_append_getElem hk, List.flatMap_append]; simp
def encBytes (l : List Opt) : List UInt8 := l.flatMap optBytes ++ List.replicate (allSize l - rawSize l).toNat 0
def encOf (l : List Opt) : ByteArray × Int := if l.all optRight = true then (if 40 < allSize l then (⟨#[]⟩, 5) else (strOf (encBytes l), 0)) else (⟨#[]⟩, 1)
theorem encBytes_len (l : List Opt) (h : l.all optRight = true) : ((encBytes l).length : Int) = allSize l := by
  have := opts_len l h l.length
  rw [List.take_length] at this
  unfold encBytes
  rw [List.length_append, List.length_replicate]
  unfold allSize at *
  omega
end Go.Proofs.Ytedkjhbdbonmiaa
