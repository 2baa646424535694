/- Right options' bytes, read again. Plain laws. -/
import Derived.Test.YtmcaigmpcbkfpaaOpt6
set_option linter.unusedVariables false
set_option linter.unusedSimpArgs false
namespace Go.Proofs.Ytmcaigmpcbkfpaa
open Go.RowKit
theorem b8_toNat (x : Int) (h : 0 ≤ x ∧ x ≤ 255) : (b8 x).toNat = x.toNat := by
  unfold b8
  rw [UInt8.toNat_ofNat']
  omega
theorem b8_ne (x : Int) (h : 0 ≤ x ∧ x ≤ 255) (n : UInt8) (hn : x ≠ (n.toNat : Int)) : b8 x ≠ n := fun e => by
  have := b8_toNat x h
  rw [e] at this
  omega
/-- Right options' bytes, read again. -/
theorem pOpts_enc (j : Nat) (l : List Opt) : ∀ (f : Nat), l.all optRight = true → (l.flatMap optBytes ++ List.replicate j (0 : UInt8)).length ≤ f → pOpts f (l.flatMap optBytes ++ List.replicate j 0) = .inl l := by
  induction l with
  | nil =>
    intro f _ hf
    cases j with
    | zero => exact pOpts_nil f
    | succ j =>
      simp at hf
      obtain ⟨f, rfl⟩ : ∃ f', f = f' + 1 := ⟨f - 1, by omega⟩
      rw [List.flatMap_nil, List.nil_append, List.replicate_succ, pOpts_cons, if_pos rfl, if_pos (by simp)]
  | cons o l ih =>
    intro f hall hf
    rw [List.all_cons, Bool.and_eq_true] at hall
    obtain ⟨ho, hl⟩ := hall
    have hr := optRight_rng ho
    rw [List.flatMap_cons, List.append_assoc] at hf ⊢
    by_cases h1 : o.1 = 1
    · have hs : o.2.size = 0 := by
        have := ho
        rw [optRight, if_pos (by simpa using h1), isEmpty_size] at this
        simpa using this
      have he : o = (1, ⟨#[]⟩) := by
        obtain ⟨a, b⟩ := o
        have h1' : a = 1 := h1
        have h2 : b = ⟨#[]⟩ := ByteArray.ext (Array.eq_empty_of_size_eq_zero hs)
        rw [h1', h2]
      rw [optBytes, if_pos (by simpa using h1), h1] at hf ⊢
      rw [List.cons_append, List.nil_append] at hf ⊢
      rw [List.length_cons] at hf
      obtain ⟨f, rfl⟩ : ∃ f', f = f' + 1 := ⟨f - 1, by omega⟩
      rw [pOpts_cons, if_neg (by decide), if_pos (by decide), ih f hl (by omega), he]
      rfl
    · have hsz : optSize o = 2 + (o.2.size : Int) := by rw [optSize, if_neg (by simpa using h1)]
      have h0 : 2 ≤ o.1 := by
        have := ho
        rw [optRight, if_neg (by simpa using h1)] at this
        simp at this
        omega
      rw [optBytes, if_neg (by simpa using h1)] at hf ⊢
      rw [List.cons_append, List.cons_append] at hf ⊢
      rw [List.length_cons, List.length_cons, List.length_append] at hf
      obtain ⟨f, rfl⟩ : ∃ f', f = f' + 1 := ⟨f - 1, by omega⟩
      have hm : (b8 (optSize o)).toNat = o.2.size + 2 := by rw [b8_toNat _ (by omega)]; omega
      have hk : ((b8 o.1).toNat : Int) = o.1 := by rw [b8_toNat _ (by omega)]; omega
      have hd : o.2.data.toList.length = o.2.size := by simp
      rw [pOpts_cons, if_neg (b8_ne _ (by omega) 0 (by simp; omega)), if_neg (b8_ne _ (by omega) 1 (by simp; omega))]
      simp only [hm, hk]
      rw [if_neg (by rw [List.length_append]; omega), if_neg (by omega), show o.2.size + 2 - 2 = o.2.data.toList.length from by omega, List.take_left, List.drop_left, ih f hl (by omega), strOf_self]
      rfl
theorem optParse_enc (l : List Opt) (h : l.all optRight = true) (h40 : ¬ 40 < allSize l) : optParse (encBytes l) = .inl l := by
  have hl := encBytes_len l h
  have ha : allSize l = (rawSize l + 3) / 4 * 4 := rfl
  unfold optParse
  rw [if_neg (by omega), if_pos (by omega)]
  exact pOpts_enc _ l _ h (Nat.le_refl _)
end Go.Proofs.Ytmcaigmpcbkfpaa
