/- The document's bytes of options, and its example. -/
import Derived.Test.YtedkjhbdbonmiaaOpt3
set_option linter.unusedVariables false
set_option linter.unusedSimpArgs false
namespace Go.Proofs.Ytedkjhbdbonmiaa
set_option maxRecDepth 8000
attribute [local irreducible] blk wpS seqS ordS OpVal RV endS LoadV StoreV Calls
open Go.RowKit
def strLen : Value → Nat
  | .string s => s.size
  | _ => 0
/-- A slice that was built of structs. -/
theorem Structs.ofBlk {α : Type} {en : α → List Value} {sz : Nat} {w : World} {b : Nat} {t : TypeId} (l : List α) (h : ∀ x ∈ l, (en x).length = sz) (hb : Blk w b (l.flatMap en) t) (hn : l.length ≤ 1000) : Structs en sz w (.slice (some ⟨b, 0, none⟩) l.length l.length) l := by
  refine ⟨_, _, rfl, by omega, Nat.le_refl _, by simp, fun i hi j x hx => ⟨b, 0, rfl, ?_⟩⟩
  rw [hb.cell]
  have key : ∀ (l : List α) (i : Nat) (hi : i < l.length), (∀ x ∈ l, (en x).length = sz) → ∀ j x, (en l[i])[j]? = some x → (l.flatMap en)[i * sz + j]? = some x := by
    intro l
    induction l with
    | nil => intro i hi; simp at hi
    | cons a l ih =>
      intro i hi hall j x hx
      have ha := hall a (by simp)
      cases i with
      | zero =>
        have hj := (List.getElem?_eq_some_iff.1 hx).1
        simp only [List.getElem_cons_zero] at hx hj
        rw [Nat.zero_mul, Nat.zero_add, List.flatMap_cons, List.getElem?_append_left hj]; exact hx
      | succ i =>
        rw [List.flatMap_cons, List.getElem?_append_right (by rw [ha, Nat.succ_mul]; omega), ha]
        rw [show (i + 1) * sz + j - sz = i * sz + j from by rw [Nat.succ_mul]; omega]
        exact ih i (by simpa using hi) (fun x hx => hall x (by simp [hx])) j x (by simpa using hx)
  simpa using key l i hi h j x hx
def exOpts : List Opt := [(1, ⟨#[]⟩), (134, ⟨#[55, 55]⟩)]
end Go.Proofs.Ytedkjhbdbonmiaa
