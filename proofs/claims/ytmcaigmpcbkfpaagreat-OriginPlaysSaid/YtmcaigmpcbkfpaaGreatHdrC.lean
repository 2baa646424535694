/- Packets' bytes: with a lesser Ttl; that no other bytes are read as the same packet, but for the sum; one byte turned. Plain laws. -/
import Derived.Test.YtmcaigmpcbkfpaaGreatMHdr6
set_option linter.unusedVariables false
set_option linter.unusedSimpArgs false
namespace Go.Proofs.YtmcaigmpcbkfpaaGreat
open Go.RowKit
theorem hdrParse_inr {l : List UInt8} {x : Int} (h : hdrParse l = .inr x) : 1 < x ∧ x < 6 := by
  unfold hdrParse at h
  split at h
  · split at h
    · injection h with h; omega
    · split at h
      · rename_i hE
        have := lenE_rng
        injection h with h
        rw [← h]
        rcases lenE_rng _ _ _ _ with h1 | h1 | h1 | h1 | h1
        · exact absurd h1 hE
        all_goals rw [h1]; omega
      · split at h
        · rename_i ho
          injection h with h
          have := optParse_inr ho
          omega
        · split at h
          · injection h with h; omega
          · cases h
  · injection h with h; omega
theorem sumOf_zero (s : ByteArray) : sumOf [s] = 0 ↔ wsum true s.data.toList ≠ 0 ∧ wsum true s.data.toList % 65535 = 0 := by
  have h := wsum_nonneg s.data.toList true
  rw [sumOf_eq, show flat [s] = s.data.toList from by simp [flat]]
  generalize wsum true s.data.toList = W at *
  unfold foldZ
  split <;> omega
/-- What a packet that was read tells of the bytes. -/
structure HdrRead (a0 a1 a2 a3 a4 a5 a6 a7 a8 a9 a10 a11 a12 a13 a14 a15 a16 a17 a18 a19 : UInt8) (r : List UInt8) (k : Nat) (L : List Opt) (p : Pkt) : Prop where
  ver : (a0.toNat : Int) / 16 = 4
  words : ((a0.toNat : Int) % 16 * 4).toNat = k + 20
  kept : sh a6 a7 < 32768
  size : sh a2 a3 = r.length + 20
  room : k ≤ r.length
  good : sumOf [strOf (a0 :: a1 :: a2 :: a3 :: a4 :: a5 :: a6 :: a7 :: a8 :: a9 :: a10 :: a11 :: a12 :: a13 :: a14 :: a15 :: a16 :: a17 :: a18 :: a19 :: r.take k)] = 0
  opts : optParse (r.take k) = .inl L
  last : sh a6 a7 % 8192 * 8 + (r.drop k).length ≤ 65535
  pkt : p = fullPkt (frontPkt a1 a4 a5 a6 a7) a8 a9 a12 a13 a14 a15 a16 a17 a18 a19 L (r.drop k)
theorem hdr_prefix (a0 a1 a2 a3 a4 a5 a6 a7 a8 a9 a10 a11 a12 a13 a14 a15 a16 a17 a18 a19 : UInt8) (r : List UInt8) (k : Nat) :
    (strOf (a0 :: a1 :: a2 :: a3 :: a4 :: a5 :: a6 :: a7 :: a8 :: a9 :: a10 :: a11 :: a12 :: a13 :: a14 :: a15 :: a16 :: a17 :: a18 :: a19 :: r)).extract 0 (k + 20) = strOf (a0 :: a1 :: a2 :: a3 :: a4 :: a5 :: a6 :: a7 :: a8 :: a9 :: a10 :: a11 :: a12 :: a13 :: a14 :: a15 :: a16 :: a17 :: a18 :: a19 :: r.take k) := by
  rw [strOf_extract, List.drop_zero, Nat.sub_zero]
  simp only [List.take_succ_cons]
theorem hdrRead_of {a0 a1 a2 a3 a4 a5 a6 a7 a8 a9 a10 a11 a12 a13 a14 a15 a16 a17 a18 a19 : UInt8} {r : List UInt8} {p : Pkt} (h : hdrParse (a0 :: a1 :: a2 :: a3 :: a4 :: a5 :: a6 :: a7 :: a8 :: a9 :: a10 :: a11 :: a12 :: a13 :: a14 :: a15 :: a16 :: a17 :: a18 :: a19 :: r) = .inl p) :
    ∃ k L, HdrRead a0 a1 a2 a3 a4 a5 a6 a7 a8 a9 a10 a11 a12 a13 a14 a15 a16 a17 a18 a19 r k L p := by
  rw [hdrParse_eq a0 a1 a2 a3 a4 a5 a6 a7 a8 a9 a10 a11 a12 a13 a14 a15 a16 a17 a18 a19 r _ rfl] at h
  split at h
  · cases h
  rename_i hs
  split at h
  · cases h
  rename_i hE
  have hs0 : ¬ ((a0.toNat : Int) / 16 ≠ 4 ∨ (a0.toNat : Int) % 16 < 5 ∨ 32768 ≤ sh a6 a7) := fun e => hs (by unfold shapeE; rw [if_pos e]; decide)
  obtain ⟨h1, h2, h3⟩ := lenE_ok (Classical.not_not.1 hE)
  have u0 := a0.toNat_lt
  obtain ⟨k, hk⟩ : ∃ k : Nat, ((a0.toNat : Int) % 16 * 4).toNat = k + 20 := ⟨((a0.toNat : Int) % 16 * 4).toNat - 20, by omega⟩
  have hk2 : ((a0.toNat : Int) % 16 * 4 - 20).toNat = k := by omega
  rw [hk, hdr_prefix] at h3
  rw [hk2] at h
  split at h
  · cases h
  rename_i L hO
  split at h
  · cases h
  rename_i hL
  injection h with h
  exact ⟨k, L, by omega, hk, by omega, by omega, by omega, h3, hO, by omega, h.symm⟩
theorem hdrParse_of {a0 a1 a2 a3 a4 a5 a6 a7 a8 a9 a10 a11 a12 a13 a14 a15 a16 a17 a18 a19 : UInt8} {r : List UInt8} {p : Pkt} {k : Nat} {L : List Opt} (h : HdrRead a0 a1 a2 a3 a4 a5 a6 a7 a8 a9 a10 a11 a12 a13 a14 a15 a16 a17 a18 a19 r k L p) :
    hdrParse (a0 :: a1 :: a2 :: a3 :: a4 :: a5 :: a6 :: a7 :: a8 :: a9 :: a10 :: a11 :: a12 :: a13 :: a14 :: a15 :: a16 :: a17 :: a18 :: a19 :: r) = .inl p := by
  obtain ⟨h1, h2, h3, h4, h5, h6, h7, h8, h9⟩ := h
  have u0 := a0.toNat_lt
  rw [hdrParse_eq a0 a1 a2 a3 a4 a5 a6 a7 a8 a9 a10 a11 a12 a13 a14 a15 a16 a17 a18 a19 r _ rfl]
  have hs : shapeE a0 a6 a7 = 0 := by unfold shapeE; rw [if_neg (by omega)]
  rw [hs, if_neg (by decide), h2, hdr_prefix, h6, h4]
  have hE : lenE (r.length + 20 : Nat) ((a0.toNat : Int) % 16) (r.length + 20) 0 = 0 := by
    unfold lenE
    rw [if_neg (by omega), if_neg (by omega), if_neg (by omega), if_neg (by omega), if_neg (by decide)]
  rw [hE, if_neg (by decide), show ((a0.toNat : Int) % 16 * 4 - 20).toNat = k from by omega, h7]
  dsimp only
  rw [if_neg (by omega), h9]
theorem wsum20 (a0 a1 a2 a3 a4 a5 a6 a7 a8 a9 a10 a11 a12 a13 a14 a15 a16 a17 a18 a19 : UInt8) (r : List UInt8) : wsum true (a0 :: a1 :: a2 :: a3 :: a4 :: a5 :: a6 :: a7 :: a8 :: a9 :: a10 :: a11 :: a12 :: a13 :: a14 :: a15 :: a16 :: a17 :: a18 :: a19 :: r) =
    sh a0 a1 + sh a2 a3 + sh a4 a5 + sh a6 a7 + sh a8 a9 + sh a10 a11 + (sh a12 a13 + sh a14 a15 + sh a16 a17 + sh a18 a19 + wsum true r) := by
  simp only [wsum, sh, Bool.not_true, Bool.not_false, if_true, if_false, Bool.false_eq_true]
  omega
/-- The short that Update answers. -/
def updN (old was now : Int) : Int := 65535 - foldZ (65535 - old + (65535 - was) + now)
theorem updN_rng (old was now : Int) : 0 ≤ updN old was now ∧ updN old was now ≤ 65535 := by unfold updN; have := foldZ_rng (65535 - old + (65535 - was) + now); omega
/-- A lesser Ttl, and its sum: read as what it was, but for that. -/
theorem hdr_lower {a0 a1 a2 a3 a4 a5 a6 a7 a8 a9 a10 a11 a12 a13 a14 a15 a16 a17 a18 a19 : UInt8} {r : List UInt8} {p : Pkt} {k : Nat} {L : List Opt} (h : HdrRead a0 a1 a2 a3 a4 a5 a6 a7 a8 a9 a10 a11 a12 a13 a14 a15 a16 a17 a18 a19 r k L p) (h8 : (a8.toNat : Int) ≠ 0) :
    HdrRead a0 a1 a2 a3 a4 a5 a6 a7 (b8 ((a8.toNat : Int) - 1)) a9 (b8 (updN (sh a10 a11) (sh a8 a9) (sh a8 a9 - 256) / 256)) (b8 (updN (sh a10 a11) (sh a8 a9) (sh a8 a9 - 256))) a12 a13 a14 a15 a16 a17 a18 a19 r k L { p with ttl := p.ttl - 1 } := by
  obtain ⟨h1, h2, h3, h4, h5, h6, h7, hl, h9⟩ := h
  have u0 := a0.toNat_lt
  have u8 := a8.toNat_lt
  have hr := updN_rng (sh a10 a11) (sh a8 a9) (sh a8 a9 - 256)
  refine ⟨h1, h2, h3, h4, h5, ?_, h7, hl, ?_⟩
  · rw [sumOf_zero, strOf_data, wsum20] at h6 ⊢
    have e1 : sh (b8 ((a8.toNat : Int) - 1)) a9 = sh a8 a9 - 256 := by unfold sh; rw [b8_i]; omega
    rw [e1, sh_nb _ hr]
    have r0 := sh_rng' a0 a1
    have r8 := sh_rng' a8 a9
    have r10 := sh_rng' a10 a11
    have hb : 16384 ≤ sh a0 a1 := by unfold sh; omega
    have h256 : 256 ≤ sh a8 a9 := by unfold sh; omega
    have n2 := (sh_rng' a2 a3).1
    have n4 := (sh_rng' a4 a5).1
    have n6 := (sh_rng' a6 a7).1
    have n12 := (sh_rng' a12 a13).1
    have n14 := (sh_rng' a14 a15).1
    have n16 := (sh_rng' a16 a17).1
    have n18 := (sh_rng' a18 a19).1
    have nr := wsum_nonneg (r.take k) true
    unfold updN foldZ at *
    rw [if_neg (by omega)] at hr ⊢
    omega
  · subst h9
    show _ = Pkt.mk _ _ _ _ _ _ _ _ _ _ _
    simp only [Pkt.mk.injEq, and_true, true_and]
    rw [b8_i]; omega
/-! ### Options' bytes are told by the options, and their number -/
theorem pOpts_inj : ∀ (f f' : Nat) (l l' : List UInt8) (L : List Opt), l.length ≤ f → l'.length ≤ f' → l.length = l'.length → pOpts f l = .inl L → pOpts f' l' = .inl L → l = l' := by
  have zer : ∀ (l : List UInt8), l.all (· == 0) = true → l = List.replicate l.length 0 := fun l h => by
    rw [List.eq_replicate_iff]
    exact ⟨rfl, fun x hx => by simpa using List.all_eq_true.1 h x hx⟩
  have addL_inl : ∀ {x : Opt} {R : List Opt ⊕ Int} {L : List Opt}, addL [x] R = .inl L → ∃ L', R = .inl L' ∧ L = x :: L' := fun {x R L} h => by
    cases R with
    | inl L' => exact ⟨L', rfl, by simp only [addL, List.cons_append, List.nil_append] at h; injection h with h; exact h.symm⟩
    | inr e => cases h
  intro f
  induction f with
  | zero =>
    intro f' l l' L h1 h2 hl _ _
    have e1 := List.eq_nil_of_length_eq_zero (Nat.le_zero.1 h1)
    subst e1
    exact (List.eq_nil_of_length_eq_zero hl.symm).symm
  | succ f ih =>
    intro f' l l' L h1 h2 hl hp hp'
    cases l with
    | nil => exact (List.eq_nil_of_length_eq_zero hl.symm).symm
    | cons k r =>
      cases l' with
      | nil => simp at hl
      | cons k' r' =>
        simp only [List.length_cons] at h1 h2 hl
        obtain ⟨f', rfl⟩ : ∃ g, f' = g + 1 := ⟨f' - 1, by omega⟩
        rw [pOpts_cons] at hp hp'
        by_cases hk : k = 0
        · rw [if_pos hk] at hp
          split at hp
          case isFalse => cases hp
          rename_i hz
          injection hp with hp
          subst hp
          by_cases hk' : k' = 0
          · rw [if_pos hk'] at hp'
            split at hp'
            case isFalse => cases hp'
            rename_i hz'
            rw [hk, hk', zer r hz, zer r' hz', show r.length = r'.length from by omega]
          · rw [if_neg hk'] at hp'
            split at hp'
            · obtain ⟨L', _, e⟩ := addL_inl hp'; cases e
            · split at hp'
              · cases hp'
              · split at hp'
                · cases hp'
                · split at hp'
                  · cases hp'
                  · obtain ⟨L', _, e⟩ := addL_inl hp'; cases e
        · rw [if_neg hk] at hp
          by_cases hk' : k' = 0
          · rw [if_pos hk'] at hp'
            split at hp'
            case isFalse => cases hp'
            injection hp' with hp'
            subst hp'
            split at hp
            · obtain ⟨L', _, e⟩ := addL_inl hp; cases e
            · split at hp
              · cases hp
              · split at hp
                · cases hp
                · split at hp
                  · cases hp
                  · obtain ⟨L', _, e⟩ := addL_inl hp; cases e
          · rw [if_neg hk'] at hp'
            by_cases h1k : k = 1
            · rw [if_pos h1k] at hp
              obtain ⟨L1, hp1, rfl⟩ := addL_inl hp
              by_cases h1k' : k' = 1
              · rw [if_pos h1k'] at hp'
                obtain ⟨L2, hp2, e⟩ := addL_inl hp'
                injection e with e1 e2
                subst e2
                rw [h1k, h1k', ih f' r r' L1 (by omega) (by omega) (by omega) hp1 hp2]
              · rw [if_neg h1k'] at hp'
                split at hp'
                · cases hp'
                · split at hp'
                  · cases hp'
                  · split at hp'
                    · cases hp'
                    · obtain ⟨L2, hp2, e⟩ := addL_inl hp'
                      injection e with e1 e2
                      injection e1 with e3 e4
                      exact absurd (UInt8.toNat_inj.1 (show k'.toNat = (1 : UInt8).toNat by have : (1 : UInt8).toNat = 1 := rfl
                                                                                            omega)) h1k'
            · rw [if_neg h1k] at hp
              split at hp
              · cases hp
              rename_i m t
              split at hp
              · cases hp
              rename_i q1
              split at hp
              · cases hp
              rename_i q2
              obtain ⟨L1, hp1, rfl⟩ := addL_inl hp
              by_cases h1k' : k' = 1
              · rw [if_pos h1k'] at hp'
                obtain ⟨L2, hp2, e⟩ := addL_inl hp'
                injection e with e1 e2
                injection e1 with e3 e4
                exact absurd (UInt8.toNat_inj.1 (show k.toNat = (1 : UInt8).toNat by have : (1 : UInt8).toNat = 1 := rfl
                                                                                     omega)) h1k
              · rw [if_neg h1k'] at hp'
                split at hp'
                · cases hp'
                rename_i m' t'
                split at hp'
                · cases hp'
                rename_i q1'
                split at hp'
                · cases hp'
                rename_i q2'
                obtain ⟨L2, hp2, e⟩ := addL_inl hp'
                injection e with e1 e2
                subst e2
                injection e1 with e3 e4
                simp only [List.length_cons] at h1 h2 hl
                have e5 : t.take (m.toNat - 2) = t'.take (m'.toNat - 2) := by
                  have := congrArg (fun s : ByteArray => s.data.toList) e4
                  simpa using this
                have e6 : m.toNat = m'.toNat := by
                  have := congrArg List.length e5
                  rw [List.length_take, List.length_take] at this
                  omega
                have em : m = m' := UInt8.toNat_inj.1 e6
                subst em
                have e7 := ih f' _ _ L1 (by rw [List.length_drop]; omega) (by rw [List.length_drop]; omega) (by rw [List.length_drop, List.length_drop]; omega) hp1 hp2
                have ek : k = k' := UInt8.toNat_inj.1 (by omega)
                rw [ek]
                congr 2
                rw [← List.take_append_drop (m.toNat - 2) t, ← List.take_append_drop (m.toNat - 2) t', e5, e7]
theorem optParse_inj {l l' : List UInt8} {L : List Opt} (hl : l.length = l'.length) (h : optParse l = .inl L) (h' : optParse l' = .inl L) : l = l' := by
  unfold optParse at h h'
  split at h
  · cases h
  split at h
  case isFalse => cases h
  split at h'
  · cases h'
  split at h'
  case isFalse => cases h'
  exact pOpts_inj _ _ _ _ L (Nat.le_refl _) (Nat.le_refl _) hl h h'
end Go.Proofs.YtmcaigmpcbkfpaaGreat
