/- One byte of a packet's bytes turned: they aren't read as that packet. Plain laws. -/
import Derived.Test.YtdichoibidccoaaHdrC
set_option linter.unusedVariables false
set_option linter.unusedSimpArgs false
namespace Go.Proofs.Ytdichoibidccoaa
open Go.RowKit
theorem u8_inj {a b : UInt8} (h : (a.toNat : Int) = b.toNat) : a = b := UInt8.toNat_inj.1 (by omega)
theorem sh_inj {a b c d : UInt8} (h : sh a b = sh c d) : a = c ∧ b = d := by
  have h1 := a.toNat_lt
  have h2 := b.toNat_lt
  have h3 := c.toNat_lt
  have h4 := d.toNat_lt
  unfold sh at h
  exact ⟨u8_inj (by omega), u8_inj (by omega)⟩
theorem w4_shs (a b c d : UInt8) : w4 a b c d = sh a b * 65536 + sh c d := by unfold w4 sh; omega
theorem w4_inj {a b c d a' b' c' d' : UInt8} (h : w4 a b c d = w4 a' b' c' d') : a = a' ∧ b = b' ∧ c = c' ∧ d = d' := by
  rw [w4_shs, w4_shs] at h
  have h1 := sh_rng' a b
  have h2 := sh_rng' c d
  have h3 := sh_rng' a' b'
  have h4 := sh_rng' c' d'
  obtain ⟨e1, e2⟩ := sh_inj (show sh a b = sh a' b' by omega)
  obtain ⟨e3, e4⟩ := sh_inj (show sh c d = sh c' d' by omega)
  exact ⟨e1, e2, e3, e4⟩
theorem hFlag_bit (x : Int) : (hFlag x 16384 = true ↔ x / 16384 % 2 = 1) ∧ (hFlag x 8192 = true ↔ x / 8192 % 2 = 1) := by
  unfold hFlag
  simp only [bne_iff_ne, ne_eq]
  omega
theorem flags_inj {x y : Int} (hx : 0 ≤ x ∧ x < 32768) (hy : 0 ≤ y ∧ y < 32768) (h1 : hFlag x 16384 = hFlag y 16384) (h2 : hFlag x 8192 = hFlag y 8192) (h3 : x % 8192 * 8 = y % 8192 * 8) : x = y := by
  have a := (hFlag_bit x).1
  have b := (hFlag_bit y).1
  have c := (hFlag_bit x).2
  have d := (hFlag_bit y).2
  rw [h1] at a
  rw [h2] at c
  have e1 := a.symm.trans b
  have e2 := c.symm.trans d
  omega
theorem hdr_same {l l' : List UInt8} {p : Pkt} (h : hdrParse l = .inl p) (h' : hdrParse l' = .inl p) (i : Nat) (y : UInt8) (hi : i < l.length) (e : l' = l.set i y) : l[i] = y := by
  have hlen : l'.length = l.length := by rw [e, List.length_set]
  have h20 : 20 ≤ l.length := by
    rcases Nat.lt_or_ge l.length 20 with h1 | h1
    · rw [hdr_short h1] at h; cases h
    · exact h1
  have hyi : l'[i]? = some y := by rw [e, List.getElem?_set_self hi]
  have hne : ∀ j, j ≠ i → l'[j]? = l[j]? := fun j hj => by rw [e, List.getElem?_set_ne (Ne.symm hj)]
  have hli : l[i]? = some l[i] := List.getElem?_eq_getElem hi
  generalize l[i] = z at hli ⊢
  clear e hi
  obtain ⟨a0, a1, a2, a3, a4, a5, a6, a7, a8, a9, a10, a11, a12, a13, a14, a15, a16, a17, a18, a19, r, rfl⟩ := peel20 l h20
  obtain ⟨b0, b1, b2, b3, b4, b5, b6, b7, b8, b9, b10, b11, b12, b13, b14, b15, b16, b17, b18, b19, r', rfl⟩ := peel20 l' (by omega)
  obtain ⟨k, L, h1, h2, h3, h4, h5, h6, h7, h8, h9⟩ := hdrRead_of h
  obtain ⟨k', L', g1, g2, g3, g4, g5, g6, g7, g8, g9⟩ := hdrRead_of h'
  have hlr : r'.length = r.length := by simpa using hlen
  rw [h9] at g9
  clear h9 h h' hlen h20
  injection g9 with e1 e2 e3 e4 e5 e6 e7 e8 e9 e10 e11
  subst e10
  have hdr : r.drop k = r'.drop k' := by
    have := congrArg (fun s : ByteArray => s.data.toList) e11
    simpa using this
  have hk : k = k' := by
    have := congrArg List.length hdr
    rw [List.length_drop, List.length_drop] at this
    omega
  subst hk
  have u0 := a0.toNat_lt
  have v0 := b0.toNat_lt
  have q0 : a0 = b0 := u8_inj (by omega)
  have q1 : a1 = b1 := u8_inj e1
  obtain ⟨q2, q3⟩ := sh_inj (show sh a2 a3 = sh b2 b3 by omega)
  obtain ⟨q4, q5⟩ := sh_inj e2
  obtain ⟨q6, q7⟩ := sh_inj (flags_inj ⟨(sh_rng' a6 a7).1, h3⟩ ⟨(sh_rng' b6 b7).1, g3⟩ e3 e4 e5)
  have q8 : a8 = b8 := u8_inj e6
  have q9 : a9 = b9 := u8_inj e7
  obtain ⟨q12, q13, q14, q15⟩ := w4_inj e8
  obtain ⟨q16, q17, q18, q19⟩ := w4_inj e9
  have hr : r = r' := by
    rw [← List.take_append_drop k r, ← List.take_append_drop k r', hdr, optParse_inj (by rw [List.length_take, List.length_take]; omega) h7 g7]
  subst q0 q1 q2 q3 q4 q5 q6 q7 q8 q9 q12 q13 q14 q15 q16 q17 q18 q19 hr
  rw [sumOf_zero, strOf_data, wsum20] at h6 g6
  have hs : sh a10 a11 % 65535 = sh b10 b11 % 65535 := by omega
  have u10 := a10.toNat_lt
  have u11 := a11.toNat_lt
  have v10 := b10.toNat_lt
  have v11 := b11.toNat_lt
  by_cases hi10 : i = 10
  · subst hi10
    have := hne 11 (by decide)
    simp only [List.getElem?_cons_succ, List.getElem?_cons_zero, Option.some.injEq] at hyi hli this
    subst hyi hli this
    apply u8_inj
    unfold sh at hs
    omega
  · by_cases hi11 : i = 11
    · subst hi11
      have := hne 10 (by decide)
      simp only [List.getElem?_cons_succ, List.getElem?_cons_zero, Option.some.injEq] at hyi hli this
      subst hyi hli this
      apply u8_inj
      unfold sh at hs
      omega
    · have e10 := hne 10 (by omega)
      have e11 := hne 11 (by omega)
      simp only [List.getElem?_cons_succ, List.getElem?_cons_zero, Option.some.injEq] at e10 e11
      subst e10 e11
      rw [hyi] at hli
      injection hli with hli
      exact hli.symm
end Go.Proofs.Ytdichoibidccoaa
