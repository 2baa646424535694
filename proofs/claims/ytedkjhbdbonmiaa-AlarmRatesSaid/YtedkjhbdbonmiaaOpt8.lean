/- Package option: two lists of options; what was encoded is read as it was. -/
import Derived.Test.YtedkjhbdbonmiaaOpt6
set_option linter.unusedVariables false
set_option linter.unusedSimpArgs false
namespace Go.Proofs.Ytedkjhbdbonmiaa
set_option maxRecDepth 8000
attribute [local irreducible] blk wpS seqS ordS OpVal RV endS LoadV StoreV Calls
open Go.RowKit Go.ChangeShapes Go.WideShapes Go.Deep
/-! ### Comparing -/
theorem bytes_inj {a b : ByteArray} : a.toList = b.toList ↔ a = b :=
  ⟨fun h => ByteArray.ext (Array.toList_inj.1 (by rw [ByteArray.toList_eq, ByteArray.toList_eq] at h; exact h)), fun h => by rw [h]⟩
/-- Rows of one's own are read as any are. -/
theorem flat_at {α : Type} {en : α → List Value} {sz : Nat} : ∀ (l : List α) (i : Nat) (hi : i < l.length), (∀ x ∈ l, (en x).length = sz) → ∀ j x, (en l[i])[j]? = some x → (l.flatMap en)[i * sz + j]? = some x := by
  intro l
  induction l with
  | nil => intro i hi; simp at hi
  | cons a l ih =>
    intro i hi hall j x hx
    have ha := hall a (by simp)
    cases i with
    | zero =>
      have hj := (List.getElem?_eq_some_iff.1 hx).1
      simp only [List.getElem_cons_zero] at hx hj
      rw [Nat.zero_mul, Nat.zero_add, List.flatMap_cons, List.getElem?_append_left hj]; exact hx
    | succ i =>
      rw [List.flatMap_cons, List.getElem?_append_right (by rw [ha, Nat.succ_mul]; omega), ha]
      rw [show (i + 1) * sz + j - sz = i * sz + j from by rw [Nat.succ_mul]; omega]
      exact ih i (by simpa using hi) (fun x hx => hall x (by simp [hx])) j x (by simpa using hx)
theorem own_structs {α : Type} {en : α → List Value} {sz e cap : Nat} {A : Option Addr} {l : List α} {w : World} (h : (own A cap e sz l.length (l.flatMap en)).holds w) (hall : ∀ x ∈ l, (en x).length = sz) : Structs en sz w (.slice A l.length cap) l := by
  have h' : w.ownsRowF 0 e sz (.slice A l.length cap) l.length (l.flatMap en) := h
  rcases h'.2 with ⟨hv, hn⟩ | ⟨g, cap', cur, fz, hv, _, hg, _, h1, h2, _, _⟩
  · injection hv with hA hl hc
    subst hA; subst hc
    obtain rfl := List.eq_nil_of_length_eq_zero hl
    exact Structs.nil _ _ _
  · injection hv with hA hl hc
    subst hA; subst hc
    refine ⟨_, _, rfl, by unfold maxLen at h2; omega, h1, by simp, fun i hi j x hx => ⟨g, 0, rfl, ?_⟩⟩
    have := h'.cells (g := g) rfl (i * sz + j) x (flat_at l i hi hall j x hx)
    rw [show (⟨g, 0, none⟩ : Addr).add (i * sz + j) = ⟨g, 0 + i * sz + j, none⟩ from by unfold Addr.add; split <;> simp_all] at this
    exact this
end Go.Proofs.Ytedkjhbdbonmiaa
