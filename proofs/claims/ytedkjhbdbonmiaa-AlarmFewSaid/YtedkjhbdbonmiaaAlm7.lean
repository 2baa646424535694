/- Package alarm: there are no more alarms than lines, divided (plain law). -/
import Derived.Test.YtedkjhbdbonmiaaAlm3
set_option linter.unusedVariables false
set_option linter.unusedSimpArgs false
namespace Go.Proofs.Ytedkjhbdbonmiaa
def cntR (r : Int) (l : List Line) : Nat := (l.filter fun y => decide (y.reason = r)).length
theorem cntR_snoc (r : Int) (l : List Line) (i : Nat) (h : i < l.length) : cntR r (l.take (i + 1)) = cntR r (l.take i) + (if l[i].reason = r then 1 else 0) := by
  unfold cntR
  rw [List.take_succ_eq_append_getElem h, List.filter_append, List.length_append]
  congr 1
  by_cases h : l[i].reason = r
  · rw [if_pos h]; simp [h]
  · rw [if_neg h]; simp [h]
theorem cntR_le (r : Int) (l : List Line) : cntR r l ≤ l.length := List.length_filter_le _ _
def sumT (T : FKey → List Int) (K : List FKey) : Nat := (K.map fun k => (T k).length).sum
theorem sumT_other {T T' : FKey → List Int} {k0 : FKey} (h : ∀ k, k ≠ k0 → T' k = T k) : ∀ {K : List FKey}, k0 ∉ K → sumT T' K = sumT T K
  | [], _ => rfl
  | a :: K, hn => by
    have ih := sumT_other (K := K) h (fun hk => hn (by simp [hk]))
    unfold sumT at *
    simp only [List.map_cons, List.sum_cons]
    rw [ih, h a (fun e => hn (by simp [e]))]
theorem sumT_add {T T' : FKey → List Int} {k0 : FKey} (h : ∀ k, k ≠ k0 → T' k = T k) (h1 : (T' k0).length ≤ (T k0).length + 1) : ∀ {K : List FKey}, K.Nodup → sumT T' K ≤ sumT T K + 1
  | [], _ => by simp [sumT]
  | a :: K, hn => by
    obtain ⟨hna, hnK⟩ := List.nodup_cons.1 hn
    by_cases e : a = k0
    · subst e
      have ih := sumT_other (K := K) h hna
      unfold sumT at *
      simp only [List.map_cons, List.sum_cons]
      omega
    · have ih := sumT_add (K := K) h h1 hnK
      unfold sumT at *
      simp only [List.map_cons, List.sum_cons]
      rw [h a e]
      omega
theorem sumT_drop {T T' : FKey → List Int} {k0 : FKey} (h : ∀ k, k ≠ k0 → T' k = T k) (h0 : T' k0 = []) : ∀ {K : List FKey}, sumT T' K ≤ sumT T (K.filter fun k => decide (k ≠ k0))
  | [] => by simp [sumT]
  | a :: K => by
    have ih := sumT_drop (K := K) h h0
    by_cases e : a = k0
    · subst e
      rw [List.filter_cons_of_neg (by simp)]
      unfold sumT at *
      simp only [List.map_cons, List.sum_cons]
      rw [h0]
      simpa using ih
    · rw [List.filter_cons_of_pos (by simpa using e)]
      unfold sumT at *
      simp only [List.map_cons, List.sum_cons]
      rw [h a e]
      omega
theorem few_inv (x : Wtc) (hx : 1 ≤ x.many) (l : List Line) : ∀ (i : Nat), i ≤ l.length → ∀ K : List FKey, K.Nodup → sumT (almSt x l i).T K + x.many.toNat * (almSt x l i).out.length ≤ cntR x.reason (l.take i)
  | 0, _, K, _ => by
    have : sumT (almSt x l 0).T K = 0 := by
      unfold sumT
      induction K with
      | nil => rfl
      | cons a t ih =>
        rename_i hnd
        simp only [List.map_cons, List.sum_cons]
        rw [ih (List.nodup_cons.1 hnd).2]
        rfl
    rw [this]
    show 0 + x.many.toNat * 0 ≤ _
    omega
  | i + 1, hi, K, hK => by
    have ih := few_inv x hx l i (by omega)
    rw [almSt_snoc x l i (by omega), cntR_snoc x.reason l i (by omega)]
    generalize l[i] = y
    generalize almSt x l i = s at ih ⊢
    unfold aStep
    by_cases hre : y.reason = x.reason
    · rw [if_pos hre, if_pos hre]
      generalize keyBy x.group y = k0
      have hle := lateN_le (s.T k0 ++ [y.time]) y.time x.time
      rw [List.length_append] at hle
      simp only [List.length_cons, List.length_nil] at hle
      split
      · rename_i hm
        have hd := sumT_drop (T := s.T) (T' := fun k => if k = k0 then [] else s.T k) (k0 := k0) (fun k hk => by simp [hk]) (by simp) (K := K)
        have h2 := ih (k0 :: K.filter fun k => decide (k ≠ k0)) (List.nodup_cons.2 ⟨by simp, hK.filter _⟩)
        have h3 : sumT s.T (k0 :: K.filter fun k => decide (k ≠ k0)) = (s.T k0).length + sumT s.T (K.filter fun k => decide (k ≠ k0)) := by
          unfold sumT; simp only [List.map_cons, List.sum_cons]
        have h4 : x.many.toNat ≤ (s.T k0).length + 1 := by omega
        simp only [List.length_append, List.length_cons, List.length_nil, Nat.mul_add, Nat.mul_one]
        omega
      · have ha := sumT_add (T := s.T) (T' := fun k => if k = k0 then s.T k0 ++ [y.time] else s.T k) (k0 := k0) (fun k hk => by simp [hk]) (by simp) hK
        have h2 := ih K hK
        simp only
        omega
    · rw [if_neg hre, if_neg hre]
      exact ih K hK
theorem few_law (x : Wtc) (hx : 1 ≤ x.many) (l : List Line) : ((almSt x l l.length).out.length : Int) ≤ (cntR x.reason l : Int) / x.many := by
  have h := few_inv x hx l l.length (Nat.le_refl _) [] List.nodup_nil
  rw [List.take_length] at h
  have h0 : sumT (almSt x l l.length).T [] = 0 := rfl
  rw [Int.le_ediv_iff_mul_le (by omega)]
  have e : (x.many.toNat : Int) = x.many := by omega
  have : ((x.many.toNat * (almSt x l l.length).out.length : Nat) : Int) ≤ (cntR x.reason l : Int) := by omega
  rw [Int.natCast_mul, e] at this
  rw [Int.mul_comm]
  exact this
end Go.Proofs.Ytedkjhbdbonmiaa
