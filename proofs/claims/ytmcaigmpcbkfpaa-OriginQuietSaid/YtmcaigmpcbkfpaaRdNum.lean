/- Numbers that are read of a list of bytes. -/
import Derived.Test.YtmcaigmpcbkfpaaMWl
set_option linter.unusedVariables false
set_option linter.unusedSimpArgs false
namespace Go.Proofs.Ytmcaigmpcbkfpaa
set_option maxRecDepth 8000
attribute [local irreducible] blk wpS seqS ordS OpVal RV endS LoadV StoreV Calls
open Go.RowKit
theorem rShort_list {p : Nat} {w : World} {a b : UInt8} {l : List UInt8} (h : (rdr p (false, strOf (a :: b :: l))).holds w) :
    Calls Try.prog 57 #[ptr0 p] w fun e w' => e = .returned (.int .i64 ((a.toNat : Int) * 256 + b.toNat)) ∧ (rdr p (false, strOf l)).holds w' ∧ Mod (rdr p (false, strOf (a :: b :: l))).foot w w' := by
  have e := rTake_list (a :: b :: l) 2 (by simp)
  refine (rShort_any' h).mono fun e' w' ⟨h1, h2, h3⟩ => ⟨?_, ?_, h3⟩
  · rw [h1, rNum, show ((2 : Int)) = ((2 : Nat) : Int) from rfl, e]; simp [numOf]
  · rw [show ((2 : Int)) = ((2 : Nat) : Int) from rfl, e] at h2; exact h2
def sh (a b : UInt8) : Int := (a.toNat : Int) * 256 + b.toNat
theorem wf_i64 {x : Int} (h : (Lit.int .i64 x).wf = true) : -9223372036854775808 ≤ x ∧ x ≤ 9223372036854775807 := by
  have h1 : IntKind.i64.min = -9223372036854775808 := by decide
  have h2 : IntKind.i64.max = 9223372036854775807 := by decide
  simp only [Lit.wf, Bool.and_eq_true, decide_eq_true_eq, h1, h2] at h
  exact h
theorem wf_u32 {x : Int} (h : (Lit.int .u32 x).wf = true) : 0 ≤ x ∧ x ≤ 4294967295 := by
  have h1 : IntKind.u32.min = 0 := by decide
  have h2 : IntKind.u32.max = 4294967295 := by decide
  simp only [Lit.wf, Bool.and_eq_true, decide_eq_true_eq, h1, h2] at h
  exact h
theorem wf_u16 {x : Int} (h : (Lit.int .u16 x).wf = true) : 0 ≤ x ∧ x ≤ 65535 := by
  have h1 : IntKind.u16.min = 0 := by decide
  have h2 : IntKind.u16.max = 65535 := by decide
  simp only [Lit.wf, Bool.and_eq_true, decide_eq_true_eq, h1, h2] at h
  exact h
theorem wf_u8 {x : Int} (h : (Lit.int .u8 x).wf = true) : 0 ≤ x ∧ x ≤ 255 := by
  have h1 : IntKind.u8.min = 0 := by decide
  have h2 : IntKind.u8.max = 255 := by decide
  simp only [Lit.wf, Bool.and_eq_true, decide_eq_true_eq, h1, h2] at h
  exact h
theorem sh_nb (x : Int) (h : 0 ≤ x ∧ x ≤ 65535) : sh (b8 (x / 256)) (b8 x) = x := by
  unfold sh
  have h1 : ((b8 (x / 256)).toNat : Int) = x / 256 := by unfold b8; rw [UInt8.toNat_ofNat']; omega
  have h2 : ((b8 x).toNat : Int) = x % 256 := by unfold b8; rw [UInt8.toNat_ofNat']; omega
  rw [h1, h2]; omega
theorem rWord_list {p : Nat} {w : World} {a b c d : UInt8} {l : List UInt8} (h : (rdr p (false, strOf (a :: b :: c :: d :: l))).holds w) :
    Calls Try.prog 58 #[ptr0 p] w fun e w' => e = .returned (.int .u32 ((((a.toNat : Int) * 256 + b.toNat) * 256 + c.toNat) * 256 + d.toNat)) ∧ (rdr p (false, strOf l)).holds w' ∧ Mod (rdr p (false, strOf (a :: b :: c :: d :: l))).foot w w' := by
  have e := rTake_list (a :: b :: c :: d :: l) 4 (by simp)
  refine (rWord_any h).mono fun e' w' ⟨h1, h2, h3⟩ => ⟨?_, ?_, h3⟩
  · rw [h1, rNum, show ((4 : Int)) = ((4 : Nat) : Int) from rfl, e]; simp [numOf]
  · rw [show ((4 : Int)) = ((4 : Nat) : Int) from rfl, e] at h2; exact h2
theorem rTake4_list {p : Nat} {w : World} {a b c d : UInt8} {l : List UInt8} (h : (rdr p (false, strOf (a :: b :: c :: d :: l))).holds w) :
    Calls Try.prog 77 #[ptr0 p, .int .i64 4] w fun e w' => e = .returned (.string (strOf [a, b, c, d])) ∧ (rdr p (false, strOf l)).holds w' ∧ Mod (rdr p (false, strOf (a :: b :: c :: d :: l))).foot w w' := by
  have := rTake_R 4 (l := a :: b :: c :: d :: l) (by simp) h
  simpa using this
def w4 (a b c d : UInt8) : Int := (((a.toNat : Int) * 256 + b.toNat) * 256 + c.toNat) * 256 + d.toNat
end Go.Proofs.Ytmcaigmpcbkfpaa
