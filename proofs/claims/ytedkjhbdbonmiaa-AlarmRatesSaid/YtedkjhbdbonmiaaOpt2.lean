/- Package option and its reference: which options are right, how many bytes they have, and these bytes. -/
import Derived.Test.YtedkjhbdbonmiaaOpt1
import Derived.Test.YtedkjhbdbonmiaaOwn
set_option linter.unusedVariables false
set_option linter.unusedSimpArgs false
namespace Go.Proofs.Ytedkjhbdbonmiaa
set_option maxRecDepth 8000
attribute [local irreducible] blk wpS seqS ordS OpVal RV endS LoadV StoreV Calls
open Go.RowKit
/-! ### Right -/
theorem all_any (l : List Opt) : (!l.any fun o => !optRight o) = l.all optRight := by
  induction l <;> simp_all
theorem all_upto {α : Type} {p : α → Bool} {l : List α} (h : ∀ j (hj : j < l.length), p l[j] = true) : l.all p = true := by
  rw [List.all_eq_true]; intro x hx; obtain ⟨j, hj, rfl⟩ := List.getElem_of_mem hx; exact h j hj
theorem all_not {α : Type} {p : α → Bool} {l : List α} {k : Nat} (hk : k < l.length) (h : p l[k] = false) : l.all p = false := by
  rw [Bool.eq_false_iff]; intro ha; rw [List.all_eq_true.1 ha _ (List.getElem_mem hk)] at h; cases h
/-- Is there more than is asked of? -/
def great (l : List Opt) : Bool := l.any (fun o => decide (100 < o.2.size)) || decide (60 < l.length)
theorem great_not {l : List Opt} (h : great l = false) : l.length ≤ 60 ∧ ∀ j (hj : j < l.length), l[j].2.size ≤ 100 := by
  unfold great at h
  rw [Bool.or_eq_false_iff, List.any_eq_false] at h
  refine ⟨by simpa using h.2, fun j hj => ?_⟩
  have := h.1 _ (List.getElem_mem hj)
  simp at this; omega

/-! ### How many bytes -/
def optSize (o : Opt) : Int := if o.1 == 1 then 1 else 2 + o.2.size
def rawSize (l : List Opt) : Int := (l.map optSize).sum
theorem rawSize_snoc (l : List Opt) (k : Nat) (h : k < l.length) : rawSize (l.take (k + 1)) = rawSize (l.take k) + optSize l[k] := by
  unfold rawSize; rw [List.take_succ_eq_append_getElem h, List.map_append, List.sum_append]; simp
theorem rawSize_all (l : List Opt) (k : Nat) (h : l.length ≤ k) : rawSize (l.take k) = rawSize l := by rw [List.take_of_length_le h]
theorem optSize_rng (o : Opt) (h : o.2.size ≤ 100) : 1 ≤ optSize o ∧ optSize o ≤ 102 := by unfold optSize; split <;> omega
theorem rawSize_rng (l : List Opt) (k : Nat) (h : k ≤ l.length) (h1 : ∀ j (hj : j < l.length), l[j].2.size ≤ 100) : 0 ≤ rawSize (l.take k) ∧ rawSize (l.take k) ≤ 102 * k := by
  induction k with
  | zero => simp [rawSize]
  | succ k ih =>
    have := ih (by omega)
    rw [rawSize_snoc l k (by omega)]
    have := optSize_rng l[k] (h1 k (by omega))
    omega
def allSize (l : List Opt) : Int := (rawSize l + 3) / 4 * 4
end Go.Proofs.Ytedkjhbdbonmiaa
