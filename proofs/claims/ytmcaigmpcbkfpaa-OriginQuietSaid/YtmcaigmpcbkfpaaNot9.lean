/- Package notice: what a packet's beginning tells of (plain law). -/
import Derived.Test.YtmcaigmpcbkfpaaNot7
set_option linter.unusedVariables false
set_option linter.unusedSimpArgs false
namespace Go.Proofs.Ytmcaigmpcbkfpaa
theorem ports_take (q : Int) (x : List UInt8) : portsIn q (x.take (if 8 ≤ x.length then 8 else x.length)) = portsIn q x := by
  by_cases h : 8 ≤ x.length
  · rw [if_pos h]
    obtain ⟨b0, b1, b2, b3, b4, b5, b6, b7, t, rfl⟩ := nt_peel x h
    rfl
  · rw [if_neg h, List.take_length]
theorem inner_beg {l : List UInt8} {p : Pkt} (h : hdrParse l = .inl p) : innerOf (begOf l) = innerOf l ∧ ∀ k, innerOf l = some k → k.src = p.src ∧ k.dst = p.dst ∧ k.proto = p.proto := by
  by_cases h20 : l.length < 20
  · rw [hdr_short h20] at h; cases h
  obtain ⟨a0, a1, a2, a3, a4, a5, a6, a7, a8, a9, a10, a11, a12, a13, a14, a15, a16, a17, a18, a19, r, rfl⟩ := peel20 l (by omega)
  have hB : begOf (a0 :: a1 :: a2 :: a3 :: a4 :: a5 :: a6 :: a7 :: a8 :: a9 :: a10 :: a11 :: a12 :: a13 :: a14 :: a15 :: a16 :: a17 :: a18 :: a19 :: r) = (a0 :: a1 :: a2 :: a3 :: a4 :: a5 :: a6 :: a7 :: a8 :: a9 :: a10 :: a11 :: a12 :: a13 :: a14 :: a15 :: a16 :: a17 :: a18 :: a19 :: r).take (begLen (r.length + 20) p.data.size) := by
    unfold begOf
    rw [h]
    simp only [List.length_cons]
  obtain ⟨k, L, hr⟩ := hdrRead_of h
  have hds : p.data.size = r.length - k := by
    rw [hr.pkt]
    show (strOf (r.drop k)).size = _
    rw [strOf_size, List.length_drop]
  have hroom := hr.room
  have hwords := hr.words
  have u0 := a0.toNat_lt
  have hbl : begLen (r.length + 20) p.data.size = (k + (if 8 ≤ r.length - k then 8 else r.length - k)) + 20 := by
    unfold begLen
    rw [hds]
    split <;> omega
  rw [hB, hbl]
  have h5 : 5 ≤ (a0.toNat : Int) % 16 := by omega
  have hk : ((a0.toNat : Int) % 16 * 4 - 20).toNat = k := by omega
  have hk2 : (a0.toNat : Int) % 16 * 4 - 20 = k := by omega
  have hI : ∀ r, innerOf (a0 :: a1 :: a2 :: a3 :: a4 :: a5 :: a6 :: a7 :: a8 :: a9 :: a10 :: a11 :: a12 :: a13 :: a14 :: a15 :: a16 :: a17 :: a18 :: a19 :: r) =
    if (a0.toNat : Int) / 16 ≠ 4 ∨ (a0.toNat : Int) % 16 < 5 then none
    else if (r.length : Int) < (a0.toNat : Int) % 16 * 4 - 20 then none
    else if sh a6 a7 % 8192 ≠ 0 then none
    else match portsIn a9.toNat (r.drop ((a0.toNat : Int) % 16 * 4 - 20).toNat) with
      | some (x, y) => some ⟨w4 a12 a13 a14 a15, w4 a16 a17 a18 a19, a9.toNat, x, y⟩
      | none => none := fun _ => rfl
  simp only [List.take_succ_cons]
  refine ⟨?_, fun K hK => ?_⟩
  · rw [hI, hI, hk, hk2]
    have hp := ports_take a9.toNat (r.drop k)
    rw [List.length_drop] at hp
    have hq : (r.take (k + (if 8 ≤ r.length - k then 8 else r.length - k))).drop k = (r.drop k).take (if 8 ≤ r.length - k then 8 else r.length - k) := by
      rw [List.drop_take, Nat.add_sub_cancel_left]
    rw [hq, hp]
    have hl : ¬ ((r.take (k + (if 8 ≤ r.length - k then 8 else r.length - k))).length : Int) < k := by rw [List.length_take]; split <;> omega
    rw [if_neg hl, if_neg (show ¬ (r.length : Int) < k by omega)]
  · rw [hI] at hK
    split at hK
    · cases hK
    split at hK
    · cases hK
    split at hK
    · cases hK
    split at hK
    · injection hK with hK
      subst hK
      rw [hr.pkt]
      exact ⟨rfl, rfl, rfl⟩
    · cases hK
end Go.Proofs.Ytmcaigmpcbkfpaa
