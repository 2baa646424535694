/- Numbers that are read of a list of bytes. -/
import Derived.Test.YtllhoadbocnldaaWl
set_option linter.unusedVariables false
set_option linter.unusedSimpArgs false
namespace Go.Proofs.Ytllhoadbocnldaa
set_option maxRecDepth 8000
attribute [local irreducible] blk wpS seqS ordS OpVal RV endS LoadV StoreV Calls
open Go.RowKit
def sh (a b : UInt8) : Int := (a.toNat : Int) * 256 + b.toNat
theorem wf_i64 {x : Int} (h : (Lit.int .i64 x).wf = true) : -9223372036854775808 ≤ x ∧ x ≤ 9223372036854775807 := by
  have h1 : IntKind.i64.min = -9223372036854775808 := by decide
  have h2 : IntKind.i64.max = 9223372036854775807 := by decide
  simp only [Lit.wf, Bool.and_eq_true, decide_eq_true_eq, h1, h2] at h
  exact h
theorem wf_u32 {x : Int} (h : (Lit.int .u32 x).wf = true) : 0 ≤ x ∧ x ≤ 4294967295 := by
  have h1 : IntKind.u32.min = 0 := by decide
  have h2 : IntKind.u32.max = 4294967295 := by decide
  simp only [Lit.wf, Bool.and_eq_true, decide_eq_true_eq, h1, h2] at h
  exact h
theorem wf_u16 {x : Int} (h : (Lit.int .u16 x).wf = true) : 0 ≤ x ∧ x ≤ 65535 := by
  have h1 : IntKind.u16.min = 0 := by decide
  have h2 : IntKind.u16.max = 65535 := by decide
  simp only [Lit.wf, Bool.and_eq_true, decide_eq_true_eq, h1, h2] at h
  exact h
theorem wf_u8 {x : Int} (h : (Lit.int .u8 x).wf = true) : 0 ≤ x ∧ x ≤ 255 := by
  have h1 : IntKind.u8.min = 0 := by decide
  have h2 : IntKind.u8.max = 255 := by decide
  simp only [Lit.wf, Bool.and_eq_true, decide_eq_true_eq, h1, h2] at h
  exact h
theorem sh_nb (x : Int) (h : 0 ≤ x ∧ x ≤ 65535) : sh (b8 (x / 256)) (b8 x) = x := by
  unfold sh
  have h1 : ((b8 (x / 256)).toNat : Int) = x / 256 := by unfold b8; rw [UInt8.toNat_ofNat']; omega
  have h2 : ((b8 x).toNat : Int) = x % 256 := by unfold b8; rw [UInt8.toNat_ofNat']; omega
  rw [h1, h2]; omega
def w4 (a b c d : UInt8) : Int := (((a.toNat : Int) * 256 + b.toNat) * 256 + c.toNat) * 256 + d.toNat
end Go.Proofs.Ytllhoadbocnldaa
