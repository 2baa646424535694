/- sum.Good; masks of low bits. -/
import Derived.Test.YtodhhnljeojpaaaSumRef
import Derived.Test.YtodhhnljeojpaaaCurMath
import Derived.Test.YtodhhnljeojpaaaBytes
set_option linter.unusedVariables false
set_option linter.unusedSimpArgs false
set_option maxRecDepth 100000
namespace Go.Proofs.Ytodhhnljeojpaaa
open Go.RowKit

/-- A mask of low bits, whatever the number's sign. -/
theorem i64_low (i : Nat) (hi : i ≤ 62) (x : Int) : bits .and .i64 x (2 ^ i - 1) = x % 2 ^ i := by
  have hc : ((2 : Int) ^ i - 1) = ((2 ^ i - 1 : Nat) : Int) := by
    rw [Int.natCast_sub (Nat.two_pow_pos i)]; simp
  have hp : 2 ^ i ≤ 2 ^ 62 := Nat.pow_le_pow_right (by decide) hi
  have hpos : 0 < 2 ^ i := Nat.two_pow_pos i
  have h62 : (2 : Nat) ^ 62 = 4611686018427387904 := by decide
  have h64 : (2 : Nat) ^ 64 = 18446744073709551616 := by decide
  have hmod : (2 ^ i - 1) % 2 ^ 64 = 2 ^ i - 1 := Nat.mod_eq_of_lt (by omega)
  have hb : IntKind.i64.bits = 64 := rfl
  rw [hc]
  simp only [bits, hb, BitVec.ofInt_natCast, BitVec.toNat_and, BitVec.toNat_ofNat, hmod, BitVec.toNat_ofInt, Nat.and_two_pow_sub_one_eq_mod]
  have hlt : ((x % (2 ^ 64 : Nat)).toNat % 2 ^ i) < 2 ^ 62 := Nat.lt_of_lt_of_le (Nat.mod_lt _ hpos) hp
  rw [IntWalk.i64_in _ (by omega)]
  have h0 : 0 ≤ x % ((2 ^ 64 : Nat) : Int) := Int.emod_nonneg _ (by rw [h64]; decide)
  rw [Int.natCast_emod, Int.toNat_of_nonneg h0, Int.natCast_pow]
  exact Int.emod_emod_of_dvd _ (by rw [Int.natCast_pow]; exact ⟨((2 : Nat) : Int) ^ (64 - i), by rw [← Int.pow_add, show i + (64 - i) = 64 from by omega]⟩)
theorem low255 (x : Int) : bits .and .i64 x 255 = x % 256 := i64_low 8 (by decide) x
theorem low65535 (x : Int) : bits .and .i64 x 65535 = x % 65536 := i64_low 16 (by decide) x
set_option maxHeartbeats 400000 in
theorem Good_any (v : Value) (ss : List ByteArray) (w : World) (hr : Row w v ss.length (ss.map Value.string)) (hs : ∀ s ∈ ss, s.size ≤ 9223372036854775807) :
    Calls Try.prog 51 #[v] w fun e w' => e = .returned (.bool (sumOf ss == 0)) ∧ Mod [] w w' := by
  go_enter Try.func51, Try.ntmps51
  go_wp2_with fail
  refine (Of_any _ ss _ hr hs).mono ?_
  rintro e w1 ⟨rfl, hm1⟩
  go_wp2_with fail
  go_ret
  exact ⟨rfl, hm1⟩
end Go.Proofs.Ytodhhnljeojpaaa
