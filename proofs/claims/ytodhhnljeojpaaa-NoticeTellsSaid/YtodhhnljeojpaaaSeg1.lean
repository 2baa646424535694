/- Package segment: which segments are right; their bytes. -/
import Derived.Test.YtodhhnljeojpaaaAuto
import Derived.Test.YtodhhnljeojpaaaSumPseudo
set_option linter.unusedVariables false
set_option linter.unusedSimpArgs false
namespace Go.Proofs.Ytodhhnljeojpaaa
set_option maxRecDepth 8000
attribute [local irreducible] blk wpS seqS ordS OpVal RV endS LoadV StoreV Calls
open Go.RowKit
structure Seg where
  sp : Int
  dp : Int
  seq : Int
  ack : Int
  fl : Int
  win : Int
  d : ByteArray
abbrev enSeg (s : Seg) : List Value := [.int .i64 s.sp, .int .i64 s.dp, .int .u32 s.seq, .int .u32 s.ack, .int .i64 s.fl, .int .i64 s.win, .string s.d]
abbrev sv (s : Seg) : Value := .agg #[.int .i64 s.sp, .int .i64 s.dp, .int .u32 s.seq, .int .u32 s.ack, .int .i64 s.fl, .int .i64 s.win, .string s.d]
def segRight (p : Int) (s : Seg) : Bool := decide (0 ≤ s.sp) && decide (s.sp ≤ 65535) && (decide (0 ≤ s.dp) && decide (s.dp ≤ 65535)) &&
  (if p = 6 then decide (0 ≤ s.fl) && decide (s.fl ≤ 63) && (decide (0 ≤ s.win) && decide (s.win ≤ 65535)) && decide ((s.d.size : Int) ≤ 65495)
   else decide (p = 17) && decide (s.seq = 0) && decide (s.ack = 0) && decide (s.fl = 0) && decide (s.win = 0) && decide ((s.d.size : Int) ≤ 65507))
/-- In the words of the program: each number as its type has it. -/
def segWf (s : Seg) : Prop := (0 ≤ s.seq ∧ s.seq ≤ 4294967295) ∧ (0 ≤ s.ack ∧ s.ack ≤ 4294967295) ∧ (-9223372036854775808 ≤ s.sp ∧ s.sp ≤ 9223372036854775807) ∧ (-9223372036854775808 ≤ s.dp ∧ s.dp ≤ 9223372036854775807) ∧ (-9223372036854775808 ≤ s.fl ∧ s.fl ≤ 9223372036854775807) ∧ (-9223372036854775808 ≤ s.win ∧ s.win ≤ 9223372036854775807)
set_option maxHeartbeats 1000000 in
theorem segIn_any (n most : Int) (w : World) : Calls Try.prog 59 #[.int .i64 n, .int .i64 most] w fun e w' => e = .returned (.bool (decide (0 ≤ n) && decide (n ≤ most))) ∧ Mod [] w w' := by
  (refine enterS ([]) (Sep.start _ []) Try.func59 rfl ?_; simp only [Try.ntmps59, List.size_toArray, List.length_cons, List.length_nil, Nat.reduceAdd, Nat.reduceSub, Array.replicate_succ, Array.replicate_zero, List.push_toArray, List.append_toArray, List.nil_append, List.cons_append])
  (repeat' (first | ((with_reducible refine isOps ?_); first | (refine seqS_nil ?_; (try simp only [thenS, blockS])) | refine aV ?_ | refine aNo ?_ | refine aNo' ?_ | ((fail_if_success (refine aIsT ?_)); (fail_if_success (refine aIsF ?_)); refine seqS_guard rfl rfl rfl (fun l_ hl_ h_ => ?_) (fun l_ hl_ h_ => ?_) <;> (dsimp only [sS, sZ] at hl_; subst hl_; (try (simp only [beq_iff_eq, bne_iff_ne, beq_eq_false_iff_ne, bne_eq_false_iff_eq, ne_eq, decide_eq_true_eq, decide_eq_false_iff_not, Bool.and_eq_true, Bool.or_eq_true, Bool.and_eq_false_iff, Bool.or_eq_false_iff, Bool.not_eq_true', Bool.not_eq_false', Bool.false_eq_true, Bool.true_eq_false, reduceCtorEq] at h_)); (try (first | (with_reducible contradiction) | (exfalso; omega)))))) | ((with_reducible refine isWp ?_); first | (refine wpS_seq (fun K_ hK_ => ?_)) | (refine wpS_region ?_) | (refine wpS_cond rfl (fun h_ => ?_) (fun h_ => ?_) <;> (try (simp only [beq_iff_eq, bne_iff_ne, beq_eq_false_iff_ne, bne_eq_false_iff_eq, ne_eq, decide_eq_true_eq, decide_eq_false_iff_not, Bool.and_eq_true, Bool.or_eq_true, Bool.and_eq_false_iff, Bool.or_eq_false_iff, Bool.false_eq_true, Bool.true_eq_false, reduceCtorEq] at h_)) <;> (try (first | (with_reducible contradiction) | (exfalso; omega)))) | (refine wpS_block ?_) | (refine wpS_ret ?_; (try simp only [thenS, blockS])) | (refine wpS_exit ?_; simp only [thenS, blockS, ↓reduceIte, Nat.reduceEqDiff]) | (refine wpS_skip ?_; (try simp only [thenS, blockS]))) | (refine useK (by with_reducible assumption) ?_)))
  all_goals
    (first | refine r1_ Try.results59 (fun w_ hs_ => ?_) | refine r2_ Try.results59 (fun w_ hs_ => ?_) | refine r3_ Try.results59 (fun w_ hs_ => ?_) | refine retS0 Try.results59 (fun w_ hs_ => ?_) | refine retN0 Try.results59 (fun w_ hs_ => ?_))
    exact ⟨by simp [*], hs_.mod⟩
set_option maxHeartbeats 4000000 in
theorem segRight_any (p : Int) (s : Seg) (w : World) : Calls Try.prog 24 #[.int .i64 p, sv s] w fun e w' => e = .returned (.bool (segRight p s)) ∧ Mod [] w w' := by
  unfold segRight
  (refine enterS ([]) (Sep.start _ []) Try.func24 rfl ?_; simp only [Try.ntmps24, List.size_toArray, List.length_cons, List.length_nil, Nat.reduceAdd, Nat.reduceSub, Array.replicate_succ, Array.replicate_zero, List.push_toArray, List.append_toArray, List.nil_append, List.cons_append])
  (repeat' (first | ((with_reducible refine isOps ?_); first | (refine seqS_nil ?_; (try simp only [thenS, blockS])) | ((first | ((with_reducible refine isCallF ?_); refine aCF ?_) | ((with_reducible refine isCallV ?_); refine aCV ?_)); first | refine cS0 (fun w_ hs_ => segIn_any _ _ _) ?_) | ((with_reducible refine isBox ?_); first | (refine aBox (fun n_ l_ hl_ => ?_); dsimp only [sS, sZ] at hl_; subst hl_)) | refine aV ?_ | refine aNo ?_ | refine aNo' ?_ | ((fail_if_success (refine aIsT ?_)); (fail_if_success (refine aIsF ?_)); refine seqS_guard rfl rfl rfl (fun l_ hl_ h_ => ?_) (fun l_ hl_ h_ => ?_) <;> (dsimp only [sS, sZ] at hl_; subst hl_; (try (simp only [beq_iff_eq, bne_iff_ne, beq_eq_false_iff_ne, bne_eq_false_iff_eq, ne_eq, decide_eq_true_eq, decide_eq_false_iff_not, Bool.and_eq_true, Bool.or_eq_true, Bool.and_eq_false_iff, Bool.or_eq_false_iff, Bool.not_eq_true', Bool.not_eq_false', Bool.false_eq_true, Bool.true_eq_false, reduceCtorEq] at h_)); (try (first | (with_reducible contradiction) | (exfalso; omega)))))) | ((with_reducible refine isWp ?_); first | (refine wpS_seq (fun K_ hK_ => ?_)) | (refine wpS_region ?_) | (refine wpS_cond rfl (fun h_ => ?_) (fun h_ => ?_) <;> (try (simp only [beq_iff_eq, bne_iff_ne, beq_eq_false_iff_ne, bne_eq_false_iff_eq, ne_eq, decide_eq_true_eq, decide_eq_false_iff_not, Bool.and_eq_true, Bool.or_eq_true, Bool.and_eq_false_iff, Bool.or_eq_false_iff, Bool.false_eq_true, Bool.true_eq_false, reduceCtorEq] at h_)) <;> (try (first | (with_reducible contradiction) | (exfalso; omega)))) | (refine wpS_block ?_) | (refine wpS_ret ?_; (try simp only [thenS, blockS])) | (refine wpS_exit ?_; simp only [thenS, blockS, ↓reduceIte, Nat.reduceEqDiff]) | (refine wpS_skip ?_; (try simp only [thenS, blockS]))) | (refine useK (by with_reducible assumption) ?_)))
  all_goals
    (first | refine r1_ Try.results24 (fun w_ hs_ => ?_) | refine r2_ Try.results24 (fun w_ hs_ => ?_) | refine r3_ Try.results24 (fun w_ hs_ => ?_) | refine retS0 Try.results24 (fun w_ hs_ => ?_) | refine retN0 Try.results24 (fun w_ hs_ => ?_))
    refine ⟨?_, hs_.mod⟩
    first
      | (simp [*]; done)
      | (simp_all; done)
      | (simp_all; omega)
end Go.Proofs.Ytodhhnljeojpaaa
