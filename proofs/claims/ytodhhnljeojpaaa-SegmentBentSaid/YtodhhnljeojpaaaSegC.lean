/- One byte of a segment's bytes turned: it isn't read, but of UDP where its check sum is 0 then. Plain laws. -/
import Derived.Test.YtodhhnljeojpaaaSegA
set_option linter.unusedVariables false
set_option linter.unusedSimpArgs false
namespace Go.Proofs.Ytodhhnljeojpaaa
open Go.RowKit
theorem wsum_set : ∀ (l : List UInt8) (h : Bool) (k : Nat) (y : UInt8) (hk : k < l.length), ∃ c : Int, (c = 1 ∨ c = 256) ∧ wsum h (l.set k y) = wsum h l + ((y.toNat : Int) - l[k].toNat) * c
  | [], _, _, _, hk => by simp at hk
  | a :: l, h, 0, y, _ => by
    refine ⟨if h then 256 else 1, by cases h <;> simp, ?_⟩
    rw [List.set_cons_zero, List.getElem_cons_zero, wsum, wsum]
    cases h
    · simp only [Bool.false_eq_true, if_false]; omega
    · simp only [if_true]; omega
  | a :: l, h, k + 1, y, hk => by
    obtain ⟨c, hc, e⟩ := wsum_set l (!h) k y (by simpa using hk)
    refine ⟨c, hc, ?_⟩
    rw [List.set_cons_succ, List.getElem_cons_succ, wsum, wsum, e]
    omega
theorem sumOf_two_zero (a b : ByteArray) : sumOf [a, b] = 0 ↔ wsum true (a.data.toList ++ b.data.toList) ≠ 0 ∧ wsum true (a.data.toList ++ b.data.toList) % 65535 = 0 := by
  have h := wsum_nonneg (a.data.toList ++ b.data.toList) true
  rw [sumOf_two]
  generalize wsum true (a.data.toList ++ b.data.toList) = W at *
  unfold foldZ
  split <;> omega
theorem sum_turned (PS : ByteArray) (hPS : PS.size % 2 = 0) (l : List UInt8) (k : Nat) (y : UInt8) (hk : k < l.length) (hy : y ≠ l[k]) (h : sumOf [PS, strOf l] = 0) : sumOf [PS, strOf (l.set k y)] ≠ 0 := by
  have hPl : PS.data.toList.length % 2 = 0 := by rw [Array.length_toList, ByteArray.size_data]; exact hPS
  rw [sumOf_two_zero, strOf_data, wsum_even _ _ _ hPl] at h
  rw [ne_eq, sumOf_two_zero, strOf_data, wsum_even _ _ _ hPl]
  obtain ⟨c, hc, e⟩ := wsum_set l true k y hk
  rw [e]
  have u1 := y.toNat_lt
  have u2 := l[k].toNat_lt
  have hne : (y.toNat : Int) ≠ l[k].toNat := fun e => hy (UInt8.toNat_inj.1 (by omega))
  generalize wsum true PS.data.toList = A at *
  generalize wsum true l = W at *
  rcases hc with rfl | rfl <;> omega
theorem segParse_bad {p src dst : Int} {l : List UInt8} (hp : p = 6 ∨ p = 17) (hg : segGood p src dst l = false) : (∃ x, segParse p src dst l = .inr x ∧ 1 ≤ x ∧ x ≤ 5) ∨ (p = 17 ∧ l[6]? = some 0 ∧ l[7]? = some 0) := by
  unfold segParse
  rw [hg]
  rcases hp with rfl | rfl
  · rw [if_pos rfl]
    left
    unfold tcpParse
    split
    · split
      · exact ⟨_, rfl, by omega, by omega⟩
      split
      · exact ⟨_, rfl, by omega, by omega⟩
      · rw [if_pos rfl]; exact ⟨_, rfl, by omega, by omega⟩
    · exact ⟨_, rfl, by omega, by omega⟩
  · rw [if_neg (by decide), if_pos rfl]
    unfold udpParse
    split
    · rename_i a0 a1 a2 a3 a4 a5 a6 a7 r
      split
      · exact .inl ⟨_, rfl, by omega, by omega⟩
      split
      · exact .inl ⟨_, rfl, by omega, by omega⟩
      split
      · exact .inl ⟨_, rfl, by omega, by omega⟩
      by_cases hz : sh a6 a7 = 0
      · right
        have e6 : a6 = 0 := UInt8.toNat_inj.1 (by unfold sh at hz; simp; omega)
        have e7 : a7 = 0 := UInt8.toNat_inj.1 (by unfold sh at hz; simp; omega)
        subst e6 e7
        exact ⟨rfl, rfl, rfl⟩
      · rw [if_pos ⟨hz, rfl⟩]; exact .inl ⟨_, rfl, by omega, by omega⟩
    · exact .inl ⟨_, rfl, by omega, by omega⟩
theorem seg_bent {p src dst : Int} {s : Seg} (hp : p = 6 ∨ p = 17) (k : Nat) (y : UInt8) (hk : k < (segBytes p src dst s).length) (hy : y ≠ (segBytes p src dst s)[k]) :
    (∃ x, segParse p src dst ((segBytes p src dst s).set k y) = .inr x ∧ 1 ≤ x ∧ x ≤ 5) ∨ (p = 17 ∧ ((segBytes p src dst s).set k y)[6]? = some 0 ∧ ((segBytes p src dst s).set k y)[7]? = some 0) := by
  refine segParse_bad hp ?_
  have hg := segGood_enc p src dst s hp
  unfold segGood at hg ⊢
  rw [beq_iff_eq] at hg
  rw [beq_eq_false_iff_ne, List.length_set]
  exact sum_turned _ (by rw [pseudo_size]) _ k y hk hy hg
end Go.Proofs.Ytodhhnljeojpaaa
