/- Package notice: the key of what is begun; what a fault tells of. -/
import Derived.Test.YtmcaigmpcbkfpaaMNot5
import Derived.Test.YtmcaigmpcbkfpaaOpt6
import Derived.Test.YtmcaigmpcbkfpaaHdr3
set_option linter.unusedVariables false
set_option linter.unusedSimpArgs false
namespace Go.Proofs.Ytmcaigmpcbkfpaa
set_option maxRecDepth 8000
attribute [local irreducible] blk wpS seqS ordS OpVal RV endS LoadV StoreV Calls
open Go.RowKit
structure Key where
  src : Int
  dst : Int
  proto : Int
  sport : Int
  dport : Int
abbrev kv (k : Key) : Value := .agg #[.int .u32 k.src, .int .u32 k.dst, .int .i64 k.proto, .int .i64 k.sport, .int .i64 k.dport]
def noKey : Key := ⟨0, 0, 0, 0, 0⟩
/-- The ports of what is begun, or its identifier. -/
def portsIn (p : Int) : List UInt8 → Option (Int × Int)
  | b0 :: b1 :: b2 :: b3 :: b4 :: b5 :: _ :: _ :: _ => if p = 1 then (if b0 = 8 ∨ b0 = 0 then some (sh b4 b5, sh b4 b5) else none) else if p = 6 ∨ p = 17 then some (sh b0 b1, sh b2 b3) else none
  | _ => none
def innerOf : List UInt8 → Option Key
  | a0 :: _ :: _ :: _ :: _ :: _ :: a6 :: a7 :: _ :: a9 :: _ :: _ :: a12 :: a13 :: a14 :: a15 :: a16 :: a17 :: a18 :: a19 :: r =>
    if (a0.toNat : Int) / 16 ≠ 4 ∨ (a0.toNat : Int) % 16 < 5 then none
    else if (r.length : Int) < (a0.toNat : Int) % 16 * 4 - 20 then none
    else if sh a6 a7 % 8192 ≠ 0 then none
    else match portsIn a9.toNat (r.drop ((a0.toNat : Int) % 16 * 4 - 20).toNat) with
      | some (x, y) => some ⟨w4 a12 a13 a14 a15, w4 a16 a17 a18 a19, a9.toNat, x, y⟩
      | none => none
  | _ => none
theorem inner_short {l : List UInt8} (h : l.length < 20) : innerOf l = none := by
  unfold innerOf
  split
  · simp only [List.length_cons] at h; omega
  · rfl
abbrev keyVal (k : Option Key) : Value := match k with
  | some k => .tuple #[kv k, .bool true]
  | none => .tuple #[kv noKey, .bool false]
theorem rTake3_list {p : Nat} {w : World} {a b c : UInt8} {l : List UInt8} (h : (rdr p (false, strOf (a :: b :: c :: l))).holds w) :
    Calls Try.prog 77 #[ptr0 p, .int .i64 3] w fun x w' => x = .returned (.string (strOf [a, b, c])) ∧ (rdr p (false, strOf l)).holds w' ∧ Mod (rdr p (false, strOf (a :: b :: c :: l))).foot w w' := by
  have := rTake_R 3 (l := a :: b :: c :: l) (by simp) h
  simpa using this
end Go.Proofs.Ytmcaigmpcbkfpaa
namespace Go.Proofs.Ytmcaigmpcbkfpaa
set_option maxRecDepth 8000
attribute [local irreducible] blk wpS seqS ordS OpVal RV endS LoadV StoreV Calls
open Go.RowKit
theorem drop_all {l : List UInt8} {k : Nat} (h : ∀ j (hj : j < l.length), k ≤ j → l[j] = 0) : (l.drop k).all (· == 0) = true := by
  rw [List.all_eq_true]
  intro x hx
  obtain ⟨j, hj, rfl⟩ := List.getElem_of_mem hx
  rw [List.getElem_drop]
  simpa using h (k + j) (by simp at hj; omega) (by omega)
theorem drop_not {l : List UInt8} {k j : Nat} (hj : j < l.length) (hk : k ≤ j) (h : l[j] ≠ 0) : (l.drop k).all (· == 0) = false := by
  rw [Bool.eq_false_iff]
  intro ha
  have := List.all_eq_true.1 ha l[j] (by
    rw [List.mem_iff_getElem]
    exact ⟨j - k, by simp; omega, by rw [List.getElem_drop]; congr 1; omega⟩)
  exact h (by simpa using this)
end Go.Proofs.Ytmcaigmpcbkfpaa
namespace Go.Proofs.Ytmcaigmpcbkfpaa
set_option maxRecDepth 8000
attribute [local irreducible] blk wpS seqS ordS OpVal RV endS LoadV StoreV Calls
open Go.RowKit
theorem w4_sh (a b c d : UInt8) : w4 a b c d = sh a b * 65536 + sh c d := by unfold w4 sh; omega
theorem refOf_one (s : ByteArray) (hs : s.size ≤ 1000000) (w : World) : Calls Try.prog 25 #[.string s] w fun e w' => e = .returned (.int .i64 (sumOf [s])) ∧ Mod [] w w' := by
  refine (refOf_any s (by omega) w).mono fun e w' ⟨h1, h2⟩ => ⟨?_, h2 ▸ Mod.refl _ _⟩
  rw [h1, sumOf_eq]
  simp [flat]
end Go.Proofs.Ytmcaigmpcbkfpaa
namespace Go.Proofs.Ytmcaigmpcbkfpaa
set_option maxRecDepth 8000
attribute [local irreducible] blk wpS seqS ordS OpVal RV endS LoadV StoreV Calls
open Go.RowKit
theorem hFlag_eq (x : Int) : (x / 16384 % 2 == 1) = hFlag x 16384 ∧ (x / 8192 % 2 == 1) = hFlag x 8192 := by
  unfold hFlag
  have h1 : x / 16384 % 2 = 0 ∨ x / 16384 % 2 = 1 := by omega
  have h2 : x / 8192 % 2 = 0 ∨ x / 8192 % 2 = 1 := by omega
  constructor
  · rcases h1 with h | h <;> rw [h] <;> rfl
  · rcases h2 with h | h <;> rw [h] <;> rfl
end Go.Proofs.Ytmcaigmpcbkfpaa
