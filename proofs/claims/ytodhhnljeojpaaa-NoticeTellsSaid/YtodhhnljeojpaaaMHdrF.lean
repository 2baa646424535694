/- Package header: which packets are right, how many bytes they have, their flags. -/
import Derived.Test.YtodhhnljeojpaaaMHdrC
import Derived.Test.YtodhhnljeojpaaaHdr4
import Derived.Test.YtodhhnljeojpaaaOpt8
import Derived.Test.YtodhhnljeojpaaaByt
import Derived.Test.YtodhhnljeojpaaaHdr1
set_option linter.unusedVariables false
set_option linter.unusedSimpArgs false
namespace Go.Proofs.Ytodhhnljeojpaaa
set_option maxRecDepth 8000
attribute [local irreducible] blk wpS seqS ordS OpVal RV endS LoadV StoreV Calls
open Go.RowKit
def pkSize (p : Pkt) : Int := 20 + allSize p.opts + (p.data.size : Int)
theorem allSize_small (l : List Opt) (hg : great l = false) : 0 ≤ allSize l ∧ allSize l ≤ 7000 := by
  obtain ⟨h60, h100⟩ := great_not hg
  have := rawSize_rng l l.length (Nat.le_refl _) h100
  rw [List.take_length] at this
  unfold allSize; omega
end Go.Proofs.Ytodhhnljeojpaaa
namespace Go.Proofs.Ytodhhnljeojpaaa
set_option maxRecDepth 8000
attribute [local irreducible] blk wpS seqS ordS OpVal RV endS LoadV StoreV Calls
open Go.RowKit
theorem or_i64 (x m : Nat) (hx : x < 2 ^ 62) (hm : m < 2 ^ 62) : bits .or .i64 (x : Int) (m : Int) = ((x ||| m : Nat) : Int) := by
  have hlt : x ||| m < 2 ^ 62 := Nat.or_lt_two_pow hx hm
  have h62 : (2 : Nat) ^ 62 = 4611686018427387904 := by decide
  have h64 : (2 : Nat) ^ 64 = 18446744073709551616 := by decide
  have hb : IntKind.i64.bits = 64 := rfl
  have e1 : x % 2 ^ 64 = x := Nat.mod_eq_of_lt (by omega)
  have e2 : m % 2 ^ 64 = m := Nat.mod_eq_of_lt (by omega)
  simp only [bits, hb, BitVec.ofInt_natCast, BitVec.toNat_or, BitVec.toNat_ofNat, e1, e2]
  rw [IntWalk.i64_in _ (by omega)]
theorem or_16384 (x : Int) (h : 0 ≤ x ∧ x ≤ 8191) : bits .or .i64 x 16384 = x + 16384 := by
  obtain ⟨n, rfl⟩ : ∃ n : Nat, x = n := ⟨x.toNat, by omega⟩
  have h62 : (2 : Nat) ^ 62 = 4611686018427387904 := by decide
  have := Nat.two_pow_add_eq_or_of_lt (i := 14) (show n < 2 ^ 14 by have : (2 : Nat) ^ 14 = 16384 := by decide
                                                                    omega) 1
  rw [show (16384 : Int) = ((16384 : Nat) : Int) from rfl, or_i64 _ _ (by omega) (by omega), Nat.or_comm, show (16384 : Nat) = 2 ^ 14 * 1 from by decide, ← this]
  simp; omega
theorem or_8192 (x : Int) (h : 0 ≤ x ∧ x ≤ 8191) : bits .or .i64 x 8192 = x + 8192 := by
  obtain ⟨n, rfl⟩ : ∃ n : Nat, x = n := ⟨x.toNat, by omega⟩
  have h62 : (2 : Nat) ^ 62 = 4611686018427387904 := by decide
  have := Nat.two_pow_add_eq_or_of_lt (i := 13) (show n < 2 ^ 13 by have : (2 : Nat) ^ 13 = 8192 := by decide
                                                                    omega) 1
  rw [show (8192 : Int) = ((8192 : Nat) : Int) from rfl, or_i64 _ _ (by omega) (by omega), Nat.or_comm, show (8192 : Nat) = 2 ^ 13 * 1 from by decide, ← this]
  simp; omega
theorem or_8192b (x : Int) (h : 0 ≤ x ∧ x ≤ 8191) : bits .or .i64 (x + 16384) 8192 = x + 16384 + 8192 := by
  obtain ⟨n, rfl⟩ : ∃ n : Nat, x = n := ⟨x.toNat, by omega⟩
  have h62 : (2 : Nat) ^ 62 = 4611686018427387904 := by decide
  have h13 : (2 : Nat) ^ 13 = 8192 := by decide
  have h14 : (2 : Nat) ^ 14 = 16384 := by decide
  have e1 := Nat.two_pow_add_eq_or_of_lt (i := 14) (show n < 2 ^ 14 by omega) 1
  have e2 := Nat.two_pow_add_eq_or_of_lt (i := 13) (show n < 2 ^ 13 by omega) 1
  have e3 := Nat.two_pow_add_eq_or_of_lt (i := 14) (show 2 ^ 13 * 1 + n < 2 ^ 14 by omega) 1
  have key : (n + 16384) ||| 8192 = 16384 + (8192 + n) := by
    rw [show n + 16384 = 2 ^ 14 * 1 + n from by omega, e1, Nat.or_assoc, Nat.or_comm n, show (8192 : Nat) = 2 ^ 13 * 1 from by decide, ← e2, ← e3]
  rw [show (8192 : Int) = ((8192 : Nat) : Int) from rfl, show (n : Int) + 16384 = ((n + 16384 : Nat) : Int) from by simp, or_i64 _ _ (by omega) (by omega), key]
  simp; omega
theorem or_64 (x : Int) (h : 0 ≤ x ∧ x ≤ 63) : bits .or .i64 64 x = 64 + x := by
  obtain ⟨n, rfl⟩ : ∃ n : Nat, x = n := ⟨x.toNat, by omega⟩
  have h62 : (2 : Nat) ^ 62 = 4611686018427387904 := by decide
  have := Nat.two_pow_add_eq_or_of_lt (i := 6) (show n < 2 ^ 6 by have : (2 : Nat) ^ 6 = 64 := by decide
                                                                  omega) 1
  rw [show (64 : Int) = ((64 : Nat) : Int) from rfl, or_i64 _ _ (by omega) (by omega), show (64 : Nat) = 2 ^ 6 * 1 from by decide, ← this]
  simp
/-- What is answered: the bytes, or that it isn't right. -/
def hdrEnc (p : Pkt) : ByteArray × Int := if pkRight p = true then (strOf (hdrBytes p), 0) else (⟨#[]⟩, 1)
end Go.Proofs.Ytodhhnljeojpaaa
namespace Go.Proofs.Ytodhhnljeojpaaa
set_option maxRecDepth 8000
attribute [local irreducible] blk wpS seqS ordS OpVal RV endS LoadV StoreV Calls
open Go.RowKit
set_option maxHeartbeats 1000000 in
theorem in05_any (n most : Int) (w : World) : Calls Try.prog 72 #[.int .i64 n, .int .i64 most] w fun e w' => e = .returned (.bool (inB n most)) ∧ Mod [] w w' := by
  (refine enterS ([]) (Sep.start _ []) Try.func72 rfl ?_; simp only [Try.ntmps72, List.size_toArray, List.length_cons, List.length_nil, Nat.reduceAdd, Nat.reduceSub, Array.replicate_succ, Array.replicate_zero, List.push_toArray, List.append_toArray, List.nil_append, List.cons_append])
  (repeat' (first | ((with_reducible refine isOps ?_); first | (refine seqS_nil ?_; (try simp only [thenS, blockS])) | refine aV ?_ | refine aNo ?_ | refine aNo' ?_ | ((fail_if_success (refine aIsT ?_)); (fail_if_success (refine aIsF ?_)); refine seqS_guard rfl rfl rfl (fun l_ hl_ h_ => ?_) (fun l_ hl_ h_ => ?_) <;> (dsimp only [sS, sZ] at hl_; subst hl_; (try (simp only [beq_iff_eq, bne_iff_ne, beq_eq_false_iff_ne, bne_eq_false_iff_eq, ne_eq, decide_eq_true_eq, decide_eq_false_iff_not, Bool.and_eq_true, Bool.or_eq_true, Bool.and_eq_false_iff, Bool.or_eq_false_iff, Bool.not_eq_true', Bool.not_eq_false', Bool.false_eq_true, Bool.true_eq_false, reduceCtorEq] at h_)); (try (first | (with_reducible contradiction) | (exfalso; omega)))))) | ((with_reducible refine isWp ?_); first | (refine wpS_seq (fun K_ hK_ => ?_)) | (refine wpS_region ?_) | (refine wpS_cond rfl (fun h_ => ?_) (fun h_ => ?_) <;> (try (simp only [beq_iff_eq, bne_iff_ne, beq_eq_false_iff_ne, bne_eq_false_iff_eq, ne_eq, decide_eq_true_eq, decide_eq_false_iff_not, Bool.and_eq_true, Bool.or_eq_true, Bool.and_eq_false_iff, Bool.or_eq_false_iff, Bool.false_eq_true, Bool.true_eq_false, reduceCtorEq] at h_)) <;> (try (first | (with_reducible contradiction) | (exfalso; omega)))) | (refine wpS_block ?_) | (refine wpS_ret ?_; (try simp only [thenS, blockS])) | (refine wpS_exit ?_; simp only [thenS, blockS, ↓reduceIte, Nat.reduceEqDiff]) | (refine wpS_skip ?_; (try simp only [thenS, blockS]))) | (refine useK (by with_reducible assumption) ?_)))
  all_goals
    (first | refine r1_ Try.results72 (fun w_ hs_ => ?_) | refine r2_ Try.results72 (fun w_ hs_ => ?_) | refine r3_ Try.results72 (fun w_ hs_ => ?_) | refine retS0 Try.results72 (fun w_ hs_ => ?_) | refine retN0 Try.results72 (fun w_ hs_ => ?_))
    exact ⟨by simp [inB, *], hs_.mod⟩
set_option maxHeartbeats 4000000 in
theorem refRight05_any (p : Pkt) (v : Value) (w : World) (hr : Structs enOpt 2 w v p.opts) (hg : great p.opts = false) (hd : p.data.size ≤ 1000000) :
    Calls Try.prog 34 #[pv p v] w fun e w' => e = .returned (.bool (pkRight p)) ∧ Mod [] w w' := by
  have hA : Hid (∀ w', Mod [] w w' → Calls Try.prog 73 #[v] w' fun e w'' => e = .returned (.bool (p.opts.all optRight)) ∧ Mod [] w' w'') := Lib.hid fun w' hm => refAll_any v p.opts w' (hr.mod0 hm)
  have hS : Hid (∀ w', Mod [] w w' → Calls Try.prog 74 #[v] w' fun e w'' => e = .returned (.int .i64 (allSize p.opts)) ∧ Mod [] w' w'') := Lib.hid fun w' hm => refSize_any v p.opts w' (hr.mod0 hm) hg
  have hF := Lib.hid (show pkRight p = ((inB p.tos 255 && inB p.ttl 255 && inB p.proto 255 && inB p.id 65535 && inB p.off 65528) && (p.opts.all optRight && decide (allSize p.opts ≤ 40) && decide (p.off % 8 = 0) && decide (20 + allSize p.opts + (p.data.size : Int) ≤ 65535) && decide (p.off + (p.data.size : Int) ≤ 65535))) from rfl)
  have hz := allSize_small p.opts hg
  have hI : Hid (∀ {x m : Int}, inB x m = true → 0 ≤ x ∧ x ≤ m) := Lib.hid (fun h => inB_t.1 h)
  generalize allSize p.opts = z at hS hF hz
  generalize p.opts.all optRight = A at hA hF
  generalize pkRight p = R at hF ⊢
  by_cases hoff : inB p.off 65528 = true
  · have ho := hI.out hoff
    (refine enterS ([]) (Sep.start _ []) Try.func34 rfl ?_; simp only [Try.ntmps34, List.size_toArray, List.length_cons, List.length_nil, Nat.reduceAdd, Nat.reduceSub, Array.replicate_succ, Array.replicate_zero, List.push_toArray, List.append_toArray, List.nil_append, List.cons_append])
    (repeat' (first | ((with_reducible refine isOps ?_); first | (refine seqS_nil ?_; (try simp only [thenS, blockS])) | ((first | ((with_reducible refine isCallF ?_); refine aCF ?_) | ((with_reducible refine isCallV ?_); refine aCV ?_)); first | refine cS0 (fun w_ hs_ => in05_any _ _ _) ?_ | refine cS0 (fun w_ hs_ => hA.out _ hs_.mod) ?_ | refine cS0 (fun w_ hs_ => hS.out _ hs_.mod) ?_) | ((with_reducible refine isBox ?_); first | (refine aBox (fun n_ l_ hl_ => ?_); dsimp only [sS, sZ] at hl_; subst hl_)) | refine aV ?_ | refine aNo ?_ | refine aNo' ?_ | ((fail_if_success (refine aIsT ?_)); (fail_if_success (refine aIsF ?_)); refine seqS_guard rfl rfl rfl (fun l_ hl_ h_ => ?_) (fun l_ hl_ h_ => ?_) <;> (dsimp only [sS, sZ] at hl_; subst hl_; (try (simp only [beq_iff_eq, bne_iff_ne, beq_eq_false_iff_ne, bne_eq_false_iff_eq, ne_eq, decide_eq_true_eq, decide_eq_false_iff_not, Bool.and_eq_true, Bool.or_eq_true, Bool.and_eq_false_iff, Bool.or_eq_false_iff, Bool.not_eq_true', Bool.not_eq_false', Bool.false_eq_true, Bool.true_eq_false, reduceCtorEq] at h_)); (try (first | (with_reducible contradiction) | (exfalso; omega)))))) | ((with_reducible refine isOrd ?_); first | (refine ordS_nil ?_; (try simp only [thenS, blockS, blks, List.map_cons, List.map_nil, List.cons_append, List.nil_append])) | refine oV ?_ | refine oNo ?_ | ((fail_if_success (refine oIsT ?_)); (refine ordS_guard rfl rfl rfl rfl (fun l_ hl_ h_ => ?_) (fun l_ hl_ h_ => ?_) <;> (dsimp only [sS, sZ] at hl_; subst hl_; (try (simp only [beq_iff_eq, bne_iff_ne, beq_eq_false_iff_ne, bne_eq_false_iff_eq, ne_eq, decide_eq_true_eq, decide_eq_false_iff_not, Bool.and_eq_true, Bool.or_eq_true, Bool.and_eq_false_iff, Bool.or_eq_false_iff, Bool.not_eq_true', Bool.not_eq_false', Bool.false_eq_true, Bool.true_eq_false, reduceCtorEq] at h_)); (try (first | (with_reducible contradiction) | (exfalso; omega)))))) | (refine oC ?_; first | refine cD0 (fun w_ hs_ hg_ => in05_any _ _ _) ?_ | refine cD0 (fun w_ hs_ hg_ => hA.out _ hs_.mod) ?_ | refine cD0 (fun w_ hs_ hg_ => hS.out _ hs_.mod) ?_) | (refine oBox (fun n_ l_ hl_ => ?_); dsimp only [sS, sZ] at hl_; subst hl_) | refine oLd ?_) | ((with_reducible refine isWp ?_); first | (refine wpS_seq (fun K_ hK_ => ?_)) | (refine wpS_region ?_) | (refine wpS_cond rfl (fun h_ => ?_) (fun h_ => ?_) <;> (try (simp only [beq_iff_eq, bne_iff_ne, beq_eq_false_iff_ne, bne_eq_false_iff_eq, ne_eq, decide_eq_true_eq, decide_eq_false_iff_not, Bool.and_eq_true, Bool.or_eq_true, Bool.and_eq_false_iff, Bool.or_eq_false_iff, Bool.false_eq_true, Bool.true_eq_false, reduceCtorEq] at h_)) <;> (try (first | (with_reducible contradiction) | (exfalso; omega)))) | (refine wpS_block ?_) | (refine wpS_ret ?_; (try simp only [thenS, blockS])) | (refine wpS_exit ?_; simp only [thenS, blockS, ↓reduceIte, Nat.reduceEqDiff]) | (refine wpS_skip ?_; (try simp only [thenS, blockS]))) | ((with_reducible refine isDraw ?_); refine wpS_drawT (by simp only [List.length_cons, List.length_nil, Nat.zero_add, Nat.reduceAdd, List.range'_succ, List.range'_zero]; rfl) (by kernel_rfl) (by kernel_rfl) (fun B_ hB_ hf_ => ?_)) | (refine useK (by with_reducible assumption) ?_)))
    all_goals
      (first | refine r1_ Try.results34 (fun w_ hs_ => ?_) | refine r2_ Try.results34 (fun w_ hs_ => ?_) | refine r3_ Try.results34 (fun w_ hs_ => ?_) | refine retS0 Try.results34 (fun w_ hs_ => ?_) | refine retN0 Try.results34 (fun w_ hs_ => ?_))
      refine ⟨?_, hs_.mod⟩
      rw [hF.out]
      first
        | (simp [*]; done)
        | (simp_all; done)
        | (simp_all; omega)
  · replace hoff : inB p.off 65528 = false := by simpa using hoff
    (refine enterS ([]) (Sep.start _ []) Try.func34 rfl ?_; simp only [Try.ntmps34, List.size_toArray, List.length_cons, List.length_nil, Nat.reduceAdd, Nat.reduceSub, Array.replicate_succ, Array.replicate_zero, List.push_toArray, List.append_toArray, List.nil_append, List.cons_append])
    (repeat' (first | ((with_reducible refine isOps ?_); first | (refine seqS_nil ?_; (try simp only [thenS, blockS])) | ((first | ((with_reducible refine isCallF ?_); refine aCF ?_) | ((with_reducible refine isCallV ?_); refine aCV ?_)); first | refine cS0 (fun w_ hs_ => in05_any _ _ _) ?_) | ((with_reducible refine isBox ?_); first | (refine aBox (fun n_ l_ hl_ => ?_); dsimp only [sS, sZ] at hl_; subst hl_)) | refine aV ?_ | refine aNo ?_ | refine aNo' ?_ | ((fail_if_success (refine aIsT ?_)); (fail_if_success (refine aIsF ?_)); refine seqS_guard rfl rfl rfl (fun l_ hl_ h_ => ?_) (fun l_ hl_ h_ => ?_) <;> (dsimp only [sS, sZ] at hl_; subst hl_; (try (simp only [beq_iff_eq, bne_iff_ne, beq_eq_false_iff_ne, bne_eq_false_iff_eq, ne_eq, decide_eq_true_eq, decide_eq_false_iff_not, Bool.and_eq_true, Bool.or_eq_true, Bool.and_eq_false_iff, Bool.or_eq_false_iff, Bool.not_eq_true', Bool.not_eq_false', Bool.false_eq_true, Bool.true_eq_false, reduceCtorEq] at h_)); (try (first | (with_reducible contradiction) | (exfalso; omega)))))) | ((with_reducible refine isOrd ?_); first | (refine ordS_nil ?_; (try simp only [thenS, blockS, blks, List.map_cons, List.map_nil, List.cons_append, List.nil_append])) | refine oV ?_ | refine oNo ?_ | ((fail_if_success (refine oIsT ?_)); (refine ordS_guard rfl rfl rfl rfl (fun l_ hl_ h_ => ?_) (fun l_ hl_ h_ => ?_) <;> (dsimp only [sS, sZ] at hl_; subst hl_; (try (simp only [beq_iff_eq, bne_iff_ne, beq_eq_false_iff_ne, bne_eq_false_iff_eq, ne_eq, decide_eq_true_eq, decide_eq_false_iff_not, Bool.and_eq_true, Bool.or_eq_true, Bool.and_eq_false_iff, Bool.or_eq_false_iff, Bool.not_eq_true', Bool.not_eq_false', Bool.false_eq_true, Bool.true_eq_false, reduceCtorEq] at h_)); (try (first | (with_reducible contradiction) | (exfalso; omega)))))) | (refine oC ?_; first | refine cD0 (fun w_ hs_ hg_ => in05_any _ _ _) ?_) | (refine oBox (fun n_ l_ hl_ => ?_); dsimp only [sS, sZ] at hl_; subst hl_) | refine oLd ?_) | ((with_reducible refine isWp ?_); first | (refine wpS_seq (fun K_ hK_ => ?_)) | (refine wpS_region ?_) | (refine wpS_cond rfl (fun h_ => ?_) (fun h_ => ?_) <;> (try (simp only [beq_iff_eq, bne_iff_ne, beq_eq_false_iff_ne, bne_eq_false_iff_eq, ne_eq, decide_eq_true_eq, decide_eq_false_iff_not, Bool.and_eq_true, Bool.or_eq_true, Bool.and_eq_false_iff, Bool.or_eq_false_iff, Bool.false_eq_true, Bool.true_eq_false, reduceCtorEq] at h_)) <;> (try (first | (with_reducible contradiction) | (exfalso; omega)))) | (refine wpS_block ?_) | (refine wpS_ret ?_; (try simp only [thenS, blockS])) | (refine wpS_exit ?_; simp only [thenS, blockS, ↓reduceIte, Nat.reduceEqDiff]) | (refine wpS_skip ?_; (try simp only [thenS, blockS]))) | ((with_reducible refine isDraw ?_); refine wpS_drawT (by simp only [List.length_cons, List.length_nil, Nat.zero_add, Nat.reduceAdd, List.range'_succ, List.range'_zero]; rfl) (by kernel_rfl) (by kernel_rfl) (fun B_ hB_ hf_ => ?_)) | (refine useK (by with_reducible assumption) ?_)))
    all_goals
      (first | refine r1_ Try.results34 (fun w_ hs_ => ?_) | refine r2_ Try.results34 (fun w_ hs_ => ?_) | refine r3_ Try.results34 (fun w_ hs_ => ?_) | refine retS0 Try.results34 (fun w_ hs_ => ?_) | refine retN0 Try.results34 (fun w_ hs_ => ?_))
      refine ⟨?_, hs_.mod⟩
      rw [hF.out]
      first
        | (simp [*]; done)
        | (simp_all; done)
end Go.Proofs.Ytodhhnljeojpaaa
namespace Go.Proofs.Ytodhhnljeojpaaa
set_option maxRecDepth 8000
attribute [local irreducible] blk wpS seqS ordS OpVal RV endS LoadV StoreV Calls
open Go.RowKit
end Go.Proofs.Ytodhhnljeojpaaa
namespace Go.Proofs.Ytodhhnljeojpaaa
set_option maxRecDepth 8000
attribute [local irreducible] blk wpS seqS ordS OpVal RV endS LoadV StoreV Calls
open Go.RowKit
theorem refShort05 (n : Int) (h0 : 0 ≤ n) (h1 : n ≤ 65535) (w : World) : Calls Try.prog 62 #[.int .i64 n] w fun e w' => e = .returned (.string (strOf (numBytes 2 n))) ∧ Mod [] w w' := by
  have := refShort_any n h0 h1 w
  rwa [show strOfNums [n / 256, n % 256] = strOf (numBytes 2 n) from by
    rw [nbs2]; apply ByteArray.ext; simp [strOfNums, b8]; rw [show n / 256 % 256 = n / 256 from by omega]] at this
set_option maxHeartbeats 1000000 in
theorem refWord05 (n : Int) (h0 : 0 ≤ n) (h1 : n ≤ 4294967295) (w : World) : Calls Try.prog 76 #[.int .u32 n] w fun e w' => e = .returned (.string (strOf (numBytes 4 n))) ∧ Mod [] w w' := by
  (refine enterS ([]) (Sep.start _ []) Try.func76 rfl ?_; simp only [Try.ntmps76, List.size_toArray, List.length_cons, List.length_nil, Nat.reduceAdd, Nat.reduceSub, Array.replicate_succ, Array.replicate_zero, List.push_toArray, List.append_toArray, List.nil_append, List.cons_append])
  (repeat' (first | ((with_reducible refine isOps ?_); first | (refine seqS_nil ?_; (try simp only [thenS, blockS])) | ((with_reducible refine isBuildSlice ?_); first | (refine aBs (fun n_ l_ hl_ => ?_); dsimp only [sS, sZ] at hl_; subst hl_)) | ((with_reducible refine isConvert ?_); first | refine aBy ?_) | refine aV ?_) | ((with_reducible refine isWp ?_); first | (refine wpS_seq (fun K_ hK_ => ?_)) | (refine wpS_region ?_) | (refine wpS_cond rfl (fun h_ => ?_) (fun h_ => ?_) <;> (try (simp only [beq_iff_eq, bne_iff_ne, beq_eq_false_iff_ne, bne_eq_false_iff_eq, ne_eq, decide_eq_true_eq, decide_eq_false_iff_not, Bool.and_eq_true, Bool.or_eq_true, Bool.and_eq_false_iff, Bool.or_eq_false_iff, Bool.false_eq_true, Bool.true_eq_false, reduceCtorEq] at h_)) <;> (try (first | (with_reducible contradiction) | (exfalso; omega)))) | (refine wpS_block ?_) | (refine wpS_ret ?_; (try simp only [thenS, blockS])) | (refine wpS_exit ?_; simp only [thenS, blockS, ↓reduceIte, Nat.reduceEqDiff]) | (refine wpS_skip ?_; (try simp only [thenS, blockS]))) | (refine useK (by with_reducible assumption) ?_)))
  (first | refine r1_ Try.results76 (fun w_ hs_ => ?_) | refine r2_ Try.results76 (fun w_ hs_ => ?_) | refine r3_ Try.results76 (fun w_ hs_ => ?_) | refine retS0 Try.results76 (fun w_ hs_ => ?_) | refine retN0 Try.results76 (fun w_ hs_ => ?_))
  refine ⟨?_, hs_.mod⟩
  rw [nbs4]
  congr 2
  apply ByteArray.ext
  simp [strOfNums, b8, IntKind.wrap_u8]
  rw [show n / 16777216 % 256 = n / 16777216 from by omega]
theorem strOf_app5 (a b : List UInt8) : strOf a ++ strOf b = strOf (a ++ b) := by apply ByteArray.ext; simp
theorem sn2 (x y : Int) (hx : 0 ≤ x ∧ x ≤ 255) (hy : 0 ≤ y ∧ y ≤ 255) : strOfNums [x, y] = strOf [b8 x, b8 y] := by
  have e1 : x % 256 = x := by omega
  have e2 : y % 256 = y := by omega
  apply ByteArray.ext; simp [strOfNums, b8, e1, e2]
theorem sn4 (x y : Int) (hx : 0 ≤ x ∧ x ≤ 255) (hy : 0 ≤ y ∧ y ≤ 255) : strOfNums [x, y, 0, 0] = strOf [b8 x, b8 y, 0, 0] := by
  have e1 : x % 256 = x := by omega
  have e2 : y % 256 = y := by omega
  apply ByteArray.ext; simp [strOfNums, b8, e1, e2]
set_option maxHeartbeats 16000000 in
theorem refHdrEncode_any (p : Pkt) (v : Value) (w : World) (hr : Structs enOpt 2 w v p.opts) (hg : great p.opts = false) (hrt : pkRight p = true) (hsrc : 0 ≤ p.src ∧ p.src ≤ 4294967295) (hdst : 0 ≤ p.dst ∧ p.dst ≤ 4294967295) :
    Calls Try.prog 35 #[pv p v] w fun e w' => e = .returned (.string (strOf (hdrBytes p))) ∧ Mod [] w w' := by
  obtain ⟨f1, f2, f3, f4, f5, f6, f7, f8, f9, f10⟩ := pkRight_iff.1 hrt
  have hd : p.data.size ≤ 70000 := by have := allSize_rng p.opts f6; omega
  have hE : Hid (∀ w', Mod [] w w' → Calls Try.prog 75 #[v] w' fun e w'' => e = .returned (.string (strOf (encBytes p.opts))) ∧ Mod [] w' w'') := Lib.hid fun w' hm => refEncode_any v p.opts w' (hr.mod0 hm) hg f6
  have hfr := flagsOf_rng f5
  have hza := allSize_rng p.opts f6
  have hzr : 0 ≤ pkSize p ∧ pkSize p ≤ 65535 := by unfold pkSize; omega
  have hsz : ((strOf (encBytes p.opts)).size : Int) = allSize p.opts := by rw [strOf_size]; exact encBytes_len p.opts f6
  have hs40 : (strOf (encBytes p.opts)).size ≤ 40 := by omega
  have hk : IntKind.u8.wrap (69 + ((strOf (encBytes p.opts)).size : Int) / 4) = 69 + ((strOf (encBytes p.opts)).size : Int) / 4 := IntWalk.u8_in _ (by omega)
  have hk1 : IntKind.u8.wrap p.tos = p.tos := IntWalk.u8_in _ (by omega)
  have hk2 : IntKind.u8.wrap p.ttl = p.ttl := IntWalk.u8_in _ (by omega)
  have hk3 : IntKind.u8.wrap p.proto = p.proto := IntWalk.u8_in _ (by omega)
  have hz : Hid (20 + ((strOf (encBytes p.opts)).size : Int) + (p.data.size : Int) = pkSize p) := Lib.hid (by rw [hsz]; rfl)
  have hS1 : Hid (∀ n w', n = pkSize p → Calls Try.prog 62 #[.int .i64 n] w' fun e w'' => e = .returned (.string (strOf (numBytes 2 (pkSize p)))) ∧ Mod [] w' w'') := Lib.hid fun n w' hn => by subst hn; exact refShort05 _ hzr.1 hzr.2 w'
  have hS2 := Lib.hid (fun w' => refShort05 p.id f4.1 f4.2 w')
  have hS3 : Hid (∀ n w', n = flagsOf p → Calls Try.prog 62 #[.int .i64 n] w' fun e w'' => e = .returned (.string (strOf (numBytes 2 (flagsOf p)))) ∧ Mod [] w' w'') := Lib.hid fun n w' hn => by subst hn; exact refShort05 _ hfr.1 (by omega) w'
  have hW1 := Lib.hid (fun w' => refWord05 p.src hsrc.1 hsrc.2 w')
  have hW2 := Lib.hid (fun w' => refWord05 p.dst hdst.1 hdst.2 w')
  have hhz := hdrZero_len f6
  have hPut : Hid (∀ x w', x = strOf (hdrZero p) → Calls Try.prog 55 #[.string x, .int .i64 10] w' fun e w'' => e = .returned (.string (hdrHead p)) ∧ Mod [] w' w'') := Lib.hid fun x w' hx => by
    subst hx
    exact rPut_any _ 10 (by rw [strOf_size]; omega) (by rw [strOf_size]; omega) (by decide) w'
  have hZ : Hid (strOfNums [69 + ((strOf (encBytes p.opts)).size : Int) / 4, p.tos] ++ strOf (numBytes 2 (pkSize p)) ++ strOf (numBytes 2 p.id) ++ strOf (numBytes 2 (flagsOf p)) ++ strOfNums [p.ttl, p.proto, 0, 0] ++ strOf (numBytes 4 p.src) ++ strOf (numBytes 4 p.dst) ++ strOf (encBytes p.opts) = strOf (hdrZero p)) := Lib.hid (by
    rw [hsz, sn2 _ _ (by omega) f1, sn4 _ _ f2 f3, hdrZero, hdrFront, hdrTail]
    simp only [strOf_app5]
    simp only [List.flatMap_cons, List.flatMap_nil, nbs1, nbs2, List.append_nil, List.cons_append, List.nil_append, List.append_assoc]
    rfl)
  have hhs : (hdrHead p).size ≤ 100 := by have := hdrHead_size f6; omega
  have hcat := Lib.hid (strOf_head p)
  have hfl : Hid (flagsOf p = p.off / 8 + (if p.df then 16384 else 0) + (if p.mf then 8192 else 0)) := Lib.hid rfl
  have z1 : (strOf (numBytes 2 (pkSize p))).size = 2 := by rw [strOf_size, numBytes_length]
  have z2 : (strOf (numBytes 2 p.id)).size = 2 := by rw [strOf_size, numBytes_length]
  have z3 : (strOf (numBytes 2 (flagsOf p))).size = 2 := by rw [strOf_size, numBytes_length]
  have z4 : (strOf (numBytes 4 p.src)).size = 4 := by rw [strOf_size, numBytes_length]
  have z5 : (strOf (numBytes 4 p.dst)).size = 4 := by rw [strOf_size, numBytes_length]
  clear hsz hhz hza
  generalize strOf (numBytes 2 (pkSize p)) = x1 at hS1 hZ z1
  generalize strOf (numBytes 2 p.id) = x2 at hS2 hZ z2
  generalize strOf (numBytes 2 (flagsOf p)) = x3 at hS3 hZ z3
  generalize strOf (numBytes 4 p.src) = x4 at hW1 hZ z4
  generalize strOf (numBytes 4 p.dst) = x5 at hW2 hZ z5
  generalize strOf (encBytes p.opts) = s at hE hs40 hk hz hZ
  generalize strOf (hdrZero p) = Z at hPut hZ
  generalize hdrHead p = H at hPut hhs hcat
  generalize pkSize p = z at hS1 hzr hz
  generalize flagsOf p = f at hS3 hfr hfl
  (refine enterS ([]) (Sep.start _ []) Try.func35 rfl ?_; simp only [Try.ntmps35, List.size_toArray, List.length_cons, List.length_nil, Nat.reduceAdd, Nat.reduceSub, Array.replicate_succ, Array.replicate_zero, List.push_toArray, List.append_toArray, List.nil_append, List.cons_append])
  (repeat' (first | ((with_reducible refine isOps ?_); first | (refine seqS_nil ?_; (try simp only [thenS, blockS])) | ((first | ((with_reducible refine isCallF ?_); refine aCF ?_) | ((with_reducible refine isCallV ?_); refine aCV ?_)); first | refine cS0 (fun w_ hs_ => hE.out _ hs_.mod) ?_) | ((with_reducible refine isBuildSlice ?_); first | (refine aBs (fun n_ l_ hl_ => ?_); dsimp only [sS, sZ] at hl_; subst hl_)) | ((with_reducible refine isConvert ?_); first | refine aBy ?_) | ((with_reducible refine isBox ?_); first | (refine aBox (fun n_ l_ hl_ => ?_); dsimp only [sS, sZ] at hl_; subst hl_)) | refine aV ?_) | ((with_reducible refine isOrd ?_); first | (refine ordS_nil ?_; (try simp only [thenS, blockS, blks, List.map_cons, List.map_nil, List.cons_append, List.nil_append])) | refine oV ?_ | (refine oC ?_; first | refine cD0 (fun w_ hs_ hg_ => hE.out _ hs_.mod) ?_) | (refine oBs (fun n_ l_ hl_ => ?_); dsimp only [sS, sZ] at hl_; subst hl_) | refine oBy ?_ | (refine oBox (fun n_ l_ hl_ => ?_); dsimp only [sS, sZ] at hl_; subst hl_) | refine oLd ?_) | ((with_reducible refine isWp ?_); first | (refine wpS_seq (fun K_ hK_ => ?_)) | (refine wpS_region ?_) | (refine wpS_cond rfl (fun h_ => ?_) (fun h_ => ?_) <;> (try (simp only [beq_iff_eq, bne_iff_ne, beq_eq_false_iff_ne, bne_eq_false_iff_eq, ne_eq, decide_eq_true_eq, decide_eq_false_iff_not, Bool.and_eq_true, Bool.or_eq_true, Bool.and_eq_false_iff, Bool.or_eq_false_iff, Bool.false_eq_true, Bool.true_eq_false, reduceCtorEq] at h_)) <;> (try (first | (with_reducible contradiction) | (exfalso; omega)))) | (refine wpS_block ?_) | (refine wpS_ret ?_; (try simp only [thenS, blockS])) | (refine wpS_exit ?_; simp only [thenS, blockS, ↓reduceIte, Nat.reduceEqDiff]) | (refine wpS_skip ?_; (try simp only [thenS, blockS]))) | (refine useK (by with_reducible assumption) ?_)))
  all_goals
    ((with_reducible refine isDraw ?_); refine wpS_drawO [10, 11, 12, 13, 14, 15, 16, 17, 19, 20, 21, 23, 24, 0, 1, 2, 3, 4, 5, 6, 7, 8, 9, 18, 22, 25, 26] (by kernel_rfl) (by kernel_rfl) (fun B_ hB_ hf_ => ?_))
    (repeat' (first | ((with_reducible refine isOps ?_); first | (refine seqS_nil ?_; (try simp only [thenS, blockS])) | ((first | ((with_reducible refine isCallF ?_); refine aCF ?_) | ((with_reducible refine isCallV ?_); refine aCV ?_)); first | refine cS0 (fun w_ hs_ => hS1.out _ _ hz.out) ?_ | refine cS0 (fun w_ hs_ => hS2.out _) ?_ | refine cS0 (fun w_ hs_ => hS3.out _ _ (by rw [hfl.out]; simp [*]; done)) ?_) | ((with_reducible refine isBuildSlice ?_); first | (refine aBs (fun n_ l_ hl_ => ?_); dsimp only [sS, sZ] at hl_; subst hl_)) | ((with_reducible refine isConvert ?_); first | refine aBy ?_) | ((with_reducible refine isBox ?_); first | (refine aBox (fun n_ l_ hl_ => ?_); dsimp only [sS, sZ] at hl_; subst hl_)) | refine aV ?_) | ((with_reducible refine isOrd ?_); first | (refine ordS_nil ?_; (try simp only [thenS, blockS, blks, List.map_cons, List.map_nil, List.cons_append, List.nil_append])) | refine oV ?_ | (refine oC ?_; first | refine cD0 (fun w_ hs_ hg_ => hS1.out _ _ hz.out) ?_ | refine cD0 (fun w_ hs_ hg_ => hS2.out _) ?_ | refine cD0 (fun w_ hs_ hg_ => hS3.out _ _ (by rw [hfl.out]; simp [*]; done)) ?_) | (refine oBs (fun n_ l_ hl_ => ?_); dsimp only [sS, sZ] at hl_; subst hl_) | refine oBy ?_ | (refine oBox (fun n_ l_ hl_ => ?_); dsimp only [sS, sZ] at hl_; subst hl_) | refine oLd ?_) | ((with_reducible refine isWp ?_); first | (refine wpS_seq (fun K_ hK_ => ?_)) | (refine wpS_region ?_) | (refine wpS_cond rfl (fun h_ => ?_) (fun h_ => ?_) <;> (try (simp only [beq_iff_eq, bne_iff_ne, beq_eq_false_iff_ne, bne_eq_false_iff_eq, ne_eq, decide_eq_true_eq, decide_eq_false_iff_not, Bool.and_eq_true, Bool.or_eq_true, Bool.and_eq_false_iff, Bool.or_eq_false_iff, Bool.false_eq_true, Bool.true_eq_false, reduceCtorEq] at h_)) <;> (try (first | (with_reducible contradiction) | (exfalso; omega)))) | (refine wpS_block ?_) | (refine wpS_ret ?_; (try simp only [thenS, blockS])) | (refine wpS_exit ?_; simp only [thenS, blockS, ↓reduceIte, Nat.reduceEqDiff]) | (refine wpS_skip ?_; (try simp only [thenS, blockS]))) | (refine useK (by with_reducible assumption) ?_)))
    ((with_reducible refine isDraw ?_); refine wpS_drawO [10, 11, 12, 14, 15, 16, 0, 1, 2, 3, 4, 5, 6, 7, 8, 9, 13, 17, 18, 19, 20] (by kernel_rfl) (by kernel_rfl) (fun B_ hB_ hf_ => ?_))
    (repeat' (first | ((with_reducible refine isOps ?_); first | (refine seqS_nil ?_; (try simp only [thenS, blockS])) | ((first | ((with_reducible refine isCallF ?_); refine aCF ?_) | ((with_reducible refine isCallV ?_); refine aCV ?_)); first | refine cS0 (fun w_ hs_ => hW1.out _) ?_ | refine cS0 (fun w_ hs_ => hW2.out _) ?_ | refine cS0 (fun w_ hs_ => hPut.out _ _ hZ.out) ?_) | ((with_reducible refine isBuildSlice ?_); first | (refine aBs (fun n_ l_ hl_ => ?_); dsimp only [sS, sZ] at hl_; subst hl_)) | ((with_reducible refine isConvert ?_); first | refine aBy ?_) | ((with_reducible refine isBox ?_); first | (refine aBox (fun n_ l_ hl_ => ?_); dsimp only [sS, sZ] at hl_; subst hl_)) | refine aV ?_) | ((with_reducible refine isOrd ?_); first | (refine ordS_nil ?_; (try simp only [thenS, blockS, blks, List.map_cons, List.map_nil, List.cons_append, List.nil_append])) | refine oV ?_ | (refine oC ?_; first | refine cD0 (fun w_ hs_ hg_ => hW1.out _) ?_ | refine cD0 (fun w_ hs_ hg_ => hW2.out _) ?_ | refine cD0 (fun w_ hs_ hg_ => hPut.out _ _ hZ.out) ?_) | (refine oBs (fun n_ l_ hl_ => ?_); dsimp only [sS, sZ] at hl_; subst hl_) | refine oBy ?_ | (refine oBox (fun n_ l_ hl_ => ?_); dsimp only [sS, sZ] at hl_; subst hl_) | refine oLd ?_) | ((with_reducible refine isWp ?_); first | (refine wpS_seq (fun K_ hK_ => ?_)) | (refine wpS_region ?_) | (refine wpS_cond rfl (fun h_ => ?_) (fun h_ => ?_) <;> (try (simp only [beq_iff_eq, bne_iff_ne, beq_eq_false_iff_ne, bne_eq_false_iff_eq, ne_eq, decide_eq_true_eq, decide_eq_false_iff_not, Bool.and_eq_true, Bool.or_eq_true, Bool.and_eq_false_iff, Bool.or_eq_false_iff, Bool.false_eq_true, Bool.true_eq_false, reduceCtorEq] at h_)) <;> (try (first | (with_reducible contradiction) | (exfalso; omega)))) | (refine wpS_block ?_) | (refine wpS_ret ?_; (try simp only [thenS, blockS])) | (refine wpS_exit ?_; simp only [thenS, blockS, ↓reduceIte, Nat.reduceEqDiff]) | (refine wpS_skip ?_; (try simp only [thenS, blockS]))) | ((with_reducible refine isDraw ?_); refine wpS_drawT (by simp only [List.length_cons, List.length_nil, Nat.zero_add, Nat.reduceAdd, List.range'_succ, List.range'_zero]; rfl) (by kernel_rfl) (by kernel_rfl) (fun B_ hB_ hf_ => ?_)) | (refine useK (by with_reducible assumption) ?_)))
  all_goals
    (first | refine r1_ Try.results35 (fun w_ hs_ => ?_) | refine r2_ Try.results35 (fun w_ hs_ => ?_) | refine r3_ Try.results35 (fun w_ hs_ => ?_) | refine retS0 Try.results35 (fun w_ hs_ => ?_) | refine retN0 Try.results35 (fun w_ hs_ => ?_))
    exact ⟨by rw [hcat.out], hs_.mod⟩
def great05 (p : Pkt) : Bool := great p.opts || (decide ((2000 : Int) < (p.data.size : Int)) && decide ((p.data.size : Int) < 65000) || decide ((66000 : Int) < (p.data.size : Int)))
theorem great05_not {p : Pkt} (h : great05 p = false) : great p.opts = false ∧ p.data.size ≤ 66000 := by
  unfold great05 at h
  simp only [Bool.or_eq_false_iff, decide_eq_false_iff_not] at h
  exact ⟨h.1, by omega⟩
set_option maxHeartbeats 4000000 in
theorem great05_any (p : Pkt) (v : Value) (w : World) (hr : Structs enOpt 2 w v p.opts) : Calls Try.prog 33 #[pv p v] w fun e w' => e = .returned (.bool (great05 p)) ∧ Mod [] w w' := by
  have hG : Hid (∀ w', Mod [] w w' → Calls Try.prog 71 #[v] w' fun e w'' => e = .returned (.bool (great p.opts)) ∧ Mod [] w' w'') := Lib.hid fun w' hm => Great_any v p.opts w' (hr.mod0 hm)
  have hF : Hid (great05 p = (great p.opts || (decide ((2000 : Int) < (p.data.size : Int)) && decide ((p.data.size : Int) < 65000) || decide ((66000 : Int) < (p.data.size : Int))))) := Lib.hid rfl
  generalize great05 p = R at hF ⊢
  generalize great p.opts = G at hG hF
  rcases h1 : decide ((2000 : Int) < (p.data.size : Int)) with _ | _ <;> rcases h2 : decide ((p.data.size : Int) < 65000) with _ | _ <;> rcases h3 : decide ((66000 : Int) < (p.data.size : Int)) with _ | _
  all_goals
    rw [h1, h2, h3] at hF
    (refine enterS ([]) (Sep.start _ []) Try.func33 rfl ?_; simp only [Try.ntmps33, List.size_toArray, List.length_cons, List.length_nil, Nat.reduceAdd, Nat.reduceSub, Array.replicate_succ, Array.replicate_zero, List.push_toArray, List.append_toArray, List.nil_append, List.cons_append])
    (repeat' (first | ((with_reducible refine isOps ?_); first | (refine seqS_nil ?_; (try simp only [thenS, blockS])) | ((first | ((with_reducible refine isCallF ?_); refine aCF ?_) | ((with_reducible refine isCallV ?_); refine aCV ?_)); first | refine cS0 (fun w_ hs_ => hG.out _ hs_.mod) ?_) | ((with_reducible refine isBox ?_); first | (refine aBox (fun n_ l_ hl_ => ?_); dsimp only [sS, sZ] at hl_; subst hl_)) | refine aV ?_ | refine aNo ?_ | refine aNo' ?_ | ((fail_if_success (refine aIsT ?_)); (fail_if_success (refine aIsF ?_)); refine seqS_guard rfl rfl rfl (fun l_ hl_ h_ => ?_) (fun l_ hl_ h_ => ?_) <;> (dsimp only [sS, sZ] at hl_; subst hl_; (try (simp only [beq_iff_eq, bne_iff_ne, beq_eq_false_iff_ne, bne_eq_false_iff_eq, ne_eq, decide_eq_true_eq, decide_eq_false_iff_not, Bool.and_eq_true, Bool.or_eq_true, Bool.and_eq_false_iff, Bool.or_eq_false_iff, Bool.not_eq_true', Bool.not_eq_false', Bool.false_eq_true, Bool.true_eq_false, reduceCtorEq] at h_)); (try (first | (with_reducible contradiction) | (exfalso; omega)))))) | ((with_reducible refine isWp ?_); first | (refine wpS_seq (fun K_ hK_ => ?_)) | (refine wpS_region ?_) | (refine wpS_cond rfl (fun h_ => ?_) (fun h_ => ?_) <;> (try (simp only [beq_iff_eq, bne_iff_ne, beq_eq_false_iff_ne, bne_eq_false_iff_eq, ne_eq, decide_eq_true_eq, decide_eq_false_iff_not, Bool.and_eq_true, Bool.or_eq_true, Bool.and_eq_false_iff, Bool.or_eq_false_iff, Bool.false_eq_true, Bool.true_eq_false, reduceCtorEq] at h_)) <;> (try (first | (with_reducible contradiction) | (exfalso; omega)))) | (refine wpS_block ?_) | (refine wpS_ret ?_; (try simp only [thenS, blockS])) | (refine wpS_exit ?_; simp only [thenS, blockS, ↓reduceIte, Nat.reduceEqDiff]) | (refine wpS_skip ?_; (try simp only [thenS, blockS]))) | (refine useK (by with_reducible assumption) ?_)))
    all_goals
      (first | refine r1_ Try.results33 (fun w_ hs_ => ?_) | refine r2_ Try.results33 (fun w_ hs_ => ?_) | refine r3_ Try.results33 (fun w_ hs_ => ?_) | refine retS0 Try.results33 (fun w_ hs_ => ?_) | refine retN0 Try.results33 (fun w_ hs_ => ?_))
      refine ⟨?_, hs_.mod⟩
      rw [hF.out]
      first
        | rfl
        | (simp [*]; done)
end Go.Proofs.Ytodhhnljeojpaaa
set_option maxRecDepth 100000
namespace Go.Proofs.Ytodhhnljeojpaaa
open Go.RowKit Go.ChangeShapes Go.WideShapes Go.Deep
structure PkWf (p : Pkt) : Prop where
  tos : -9223372036854775808 ≤ p.tos ∧ p.tos ≤ 9223372036854775807
  id : -9223372036854775808 ≤ p.id ∧ p.id ≤ 9223372036854775807
  off : -9223372036854775808 ≤ p.off ∧ p.off ≤ 9223372036854775807
  ttl : -9223372036854775808 ≤ p.ttl ∧ p.ttl ≤ 9223372036854775807
  proto : -9223372036854775808 ≤ p.proto ∧ p.proto ≤ 9223372036854775807
  src : 0 ≤ p.src ∧ p.src ≤ 4294967295
  dst : 0 ≤ p.dst ∧ p.dst ≤ 4294967295
  data : p.data.size ≤ maxLen
/-- A packet as a value in a world: its options as they lie there. -/
def PkIn (w : World) (u : Value) (p : Pkt) : Prop := ∃ v, u = pv p v ∧ Structs enOpt 2 w v p.opts
theorem open_structs1 {H : Type} {enc : TypeId × Value → H} {w : World} {α : Type} (en : α → List Value) (Ok : α → Prop) {t e : TypeId} {sz fuel : Nat} {v : Value} {x : DataW H × List MemPlace} (ht : Try.prog.underlying t = some (.slice e)) (hC : Try.prog.cellsOf e = sz)
    (he : ∀ n cs y, cs.length = sz → DataW.trod enc Try.prog w 0 (fun _ => true) true n e cs = some y → ∃ x : α, cs = en x ∧ Ok x)
    (h : DataW.trod enc Try.prog w 0 (fun _ => true) true fuel t [v] = some x) (hpos : 0 < sz) : ∃ l : List α, Structs en sz w v l ∧ (∀ x ∈ l, Ok x) := by
  have hv : ∃ a len cap, v = .slice a len cap := by
    rcases open_slice ht h with ⟨h0, _⟩ | ⟨a, len, cap, m, n, D, Pl, hcs, _⟩
    · injection h0 with h0; exact ⟨_, _, _, h0⟩
    · injection hcs with h0; exact ⟨_, _, _, h0⟩
  obtain ⟨a, len, cap, rfl⟩ := hv
  exact open_structs en Ok ht hC he ⟨_, _, _, rfl⟩ (by simpa [Value.cells] using h) hpos
theorem open_pktF {H : Type} {enc : TypeId × Value → H} {w : World} (n : Nat) (cs : List Value) (y : DataW H × List MemPlace) (hl : cs.length = 11)
    (h : DataW.trod enc Try.prog w 0 (fun _ => true) true n 66 cs = some y) : ∃ (p : Pkt) (v : Value), cs = pkCells p v ∧ Structs enOpt 2 w v p.opts ∧ PkWf p := by
  obtain ⟨m, hf⟩ := open_fields Try.underlying66 (by kernel_rfl) hl h
  match cs, hl with
  | [c0, c1, c2, c3, c4, c5, c6, c7, c8, c9, c10], _ =>
    obtain ⟨v0, y0, e0, h0⟩ := hf 0 _ rfl
    obtain ⟨v1, y1, e1, h1⟩ := hf 1 _ rfl
    obtain ⟨v2, y2, e2, h2⟩ := hf 2 _ rfl
    obtain ⟨v3, y3, e3, h3⟩ := hf 3 _ rfl
    obtain ⟨v4, y4, e4, h4⟩ := hf 4 _ rfl
    obtain ⟨v5, y5, e5, h5⟩ := hf 5 _ rfl
    obtain ⟨v6, y6, e6, h6⟩ := hf 6 _ rfl
    obtain ⟨v7, y7, e7, h7⟩ := hf 7 _ rfl
    obtain ⟨v8, y8, e8, h8⟩ := hf 8 _ rfl
    obtain ⟨v9, y9, e9, h9⟩ := hf 9 _ rfl
    obtain ⟨v10, y10, e10, h10⟩ := hf 10 _ rfl
    obtain ⟨a0, ha0, _, w0⟩ := DataW.trod_int Try.underlying3 h0
    obtain ⟨a1, ha1, _, w1⟩ := DataW.trod_int Try.underlying3 h1
    obtain ⟨a2, ha2, _⟩ := DataW.trod_bool Try.underlying4 h2
    obtain ⟨a3, ha3, _⟩ := DataW.trod_bool Try.underlying4 h3
    obtain ⟨a4, ha4, _, w4⟩ := DataW.trod_int Try.underlying3 h4
    obtain ⟨a5, ha5, _, w5⟩ := DataW.trod_int Try.underlying3 h5
    obtain ⟨a6, ha6, _, w6⟩ := DataW.trod_int Try.underlying3 h6
    obtain ⟨a7, ha7, _, w7⟩ := DataW.trod_int Try.underlying22 h7
    obtain ⟨a8, ha8, _, w8⟩ := DataW.trod_int Try.underlying22 h8
    obtain ⟨l, hs, -⟩ := open_structs1 enOpt _ Try.underlying64 (by kernel_rfl) open_opt h9 (by decide)
    obtain ⟨a10, ha10, _, w10⟩ := DataW.trod_string Try.underlying9 h10
    simp at ha0 ha1 ha2 ha3 ha4 ha5 ha6 ha7 ha8 ha10 e0 e1 e2 e3 e4 e5 e6 e7 e8 e9 e10
    subst ha0 ha1 ha2 ha3 ha4 ha5 ha6 ha7 ha8 ha10 e0 e1 e2 e3 e4 e5 e6 e7 e8 e9 e10
    exact ⟨⟨a0, a1, a2, a3, a4, a5, a6, a7, a8, l, a10⟩, _, rfl, hs, wf_i64 w0, wf_i64 w1, wf_i64 w4, wf_i64 w5, wf_i64 w6, wf_u32 w7, wf_u32 w8, w10⟩
theorem open_pktv {H : Type} {enc : TypeId × Value → H} {w : World} {n : Nat} {u : Value} {y : DataW H × List MemPlace} {r : Reach} {b0 : Nat} (hv : Value.okWide Try.prog w r b0 66 u)
    (h : DataW.trod enc Try.prog w 0 (fun _ => true) true n 66 u.cells.toList = some y) : ∃ (p : Pkt) (v : Value), u = pv p v ∧ Structs enOpt 2 w v p.opts ∧ PkWf p := by
  obtain ⟨cs, rfl, hc⟩ := Go.WideShapes.okWide_struct Try.underlying66 hv
  have hc11 : cs.size = 11 := hc.trans (by kernel_rfl)
  obtain ⟨p, v, hs, hw, hd⟩ := open_pktF n cs.toList y (by simpa using hc11) (by simpa [Value.cells] using h)
  refine ⟨p, v, ?_, hw, hd⟩
  rw [show cs = (pkCells p v).toArray from by rw [← hs]]
end Go.Proofs.Ytodhhnljeojpaaa
