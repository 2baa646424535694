/- Package header: the document's Parse. -/
import Derived.Test.YtmcaigmpcbkfpaaGreatHdr3
import Derived.Test.YtmcaigmpcbkfpaaGreatOpt7
set_option linter.unusedVariables false
set_option linter.unusedSimpArgs false
namespace Go.Proofs.YtmcaigmpcbkfpaaGreat
set_option maxRecDepth 8000
attribute [local irreducible] blk wpS seqS ordS OpVal RV endS LoadV StoreV Calls
open Go.RowKit
theorem w4_sh (a b c d : UInt8) : w4 a b c d = sh a b * 65536 + sh c d := by unfold w4 sh; omega
set_option maxHeartbeats 1000000 in
theorem rshort05 (l : List UInt8) (k : Nat) (hk : k + 1 < l.length) (w : World) (hl : l.length ≤ 100000 := by omega) : Calls Tryz.prog 114 #[.string (strOf l), .int .i64 k] w fun e w' => e = .returned (.int .i64 (sh l[k] l[k + 1])) ∧ Mod [] w w' := by
  have hsz := strOf_size l
  have g1 := strOf_get l k (by omega)
  have g2 := strOf_get l (k + 1) hk
  have hsh := Lib.hid (show sh l[k] l[k + 1] = (l[k].toNat : Int) * 256 + l[k + 1].toNat from rfl)
  generalize l[k] = a at g1 hsh
  generalize l[k + 1] = b at g2 hsh
  have u1 := a.toNat_lt
  have u2 := b.toNat_lt
  have k1 : IntKind.i64.wrap (a.toNat : Int) = a.toNat := IntWalk.i64_in _ (by omega)
  have k2 : IntKind.i64.wrap (b.toNat : Int) = b.toNat := IntWalk.i64_in _ (by omega)
  (refine enterS ([]) (Sep.start _ []) Tryz.func114 rfl ?_; simp only [Tryz.ntmps114, List.size_toArray, List.length_cons, List.length_nil, Nat.reduceAdd, Nat.reduceSub, Array.replicate_succ, Array.replicate_zero, List.push_toArray, List.append_toArray, List.nil_append, List.cons_append])
  (repeat' (first | ((with_reducible refine isOps ?_); first | (refine seqS_nil ?_; (try simp only [thenS, blockS])) | ((with_reducible refine isConvert ?_); first | refine aBy ?_) | refine aV ?_) | ((with_reducible refine isOrd ?_); first | (refine ordS_nil ?_; (try simp only [thenS, blockS, blks, List.map_cons, List.map_nil, List.cons_append, List.nil_append])) | refine oV ?_ | refine oBy ?_) | ((with_reducible refine isWp ?_); first | (refine wpS_seq (fun K_ hK_ => ?_)) | (refine wpS_region ?_) | (refine wpS_cond rfl (fun h_ => ?_) (fun h_ => ?_) <;> (try (simp only [beq_iff_eq, bne_iff_ne, beq_eq_false_iff_ne, bne_eq_false_iff_eq, ne_eq, decide_eq_true_eq, decide_eq_false_iff_not, Bool.and_eq_true, Bool.or_eq_true, Bool.and_eq_false_iff, Bool.or_eq_false_iff, Bool.false_eq_true, Bool.true_eq_false, reduceCtorEq] at h_)) <;> (try (first | (with_reducible contradiction) | (exfalso; omega)))) | (refine wpS_block ?_) | (refine wpS_ret ?_; (try simp only [thenS, blockS])) | (refine wpS_exit ?_; simp only [thenS, blockS, ↓reduceIte, Nat.reduceEqDiff]) | (refine wpS_skip ?_; (try simp only [thenS, blockS]))) | ((with_reducible refine isDraw ?_); refine wpS_drawT (by simp only [List.length_cons, List.length_nil, Nat.zero_add, Nat.reduceAdd, List.range'_succ, List.range'_zero]; rfl) (by kernel_rfl) (by kernel_rfl) (fun B_ hB_ hf_ => ?_)) | (refine useK (by with_reducible assumption) ?_)))
  (first | refine r1_ Tryz.results114 (fun w_ hs_ => ?_) | refine r2_ Tryz.results114 (fun w_ hs_ => ?_) | refine r3_ Tryz.results114 (fun w_ hs_ => ?_) | refine retS0 Tryz.results114 (fun w_ hs_ => ?_) | refine retN0 Tryz.results114 (fun w_ hs_ => ?_))
  refine ⟨?_, hs_.mod⟩
  rw [hsh.out, Int.mul_comm 256]
set_option maxHeartbeats 1000000 in
theorem rnum05 (l : List UInt8) (k : Nat) (hk : k + 3 < l.length) (w : World) (hl : l.length ≤ 100000 := by omega) : Calls Tryz.prog 116 #[.string (strOf l), .int .i64 k] w fun e w' => e = .returned (.int .u32 (w4 l[k] l[k + 1] l[k + 2] l[k + 3])) ∧ Mod [] w w' := by
  have h1 := Lib.hid (fun w' => rshort05 l k (by omega) w')
  have h2 : Hid (∀ w', Calls Tryz.prog 114 #[.string (strOf l), .int .i64 ((k : Int) + 2)] w' fun e w'' => e = .returned (.int .i64 (sh l[k + 2] l[k + 3])) ∧ Mod [] w' w'') := Lib.hid (fun w' => rshort05 l (k + 2) (by omega) w')
  have r1 := sh_rng' l[k] l[k + 1]
  have r2 := sh_rng' l[k + 2] l[k + 3]
  rw [w4_sh]
  have k1 : IntKind.u32.wrap (sh l[k] l[k + 1]) = sh l[k] l[k + 1] := by rw [IntKind.wrap_u32]; omega
  have k2 : IntKind.u32.wrap (sh l[k + 2] l[k + 3]) = sh l[k + 2] l[k + 3] := by rw [IntKind.wrap_u32]; omega
  generalize sh l[k] l[k + 1] = x at h1 r1 k1 ⊢
  generalize sh l[k + 2] l[k + 3] = y at h2 r2 k2 ⊢
  (refine enterS ([]) (Sep.start _ []) Tryz.func116 rfl ?_; simp only [Tryz.ntmps116, List.size_toArray, List.length_cons, List.length_nil, Nat.reduceAdd, Nat.reduceSub, Array.replicate_succ, Array.replicate_zero, List.push_toArray, List.append_toArray, List.nil_append, List.cons_append])
  (repeat' (first | ((with_reducible refine isOps ?_); first | (refine seqS_nil ?_; (try simp only [thenS, blockS])) | ((first | ((with_reducible refine isCallF ?_); refine aCF ?_) | ((with_reducible refine isCallV ?_); refine aCV ?_)); first | refine cS0 (fun w_ hs_ => h1.out _) ?_ | refine cS0 (fun w_ hs_ => h2.out _) ?_) | ((with_reducible refine isConvert ?_); first | refine aBy ?_) | refine aV ?_) | ((with_reducible refine isWp ?_); first | (refine wpS_seq (fun K_ hK_ => ?_)) | (refine wpS_region ?_) | (refine wpS_cond rfl (fun h_ => ?_) (fun h_ => ?_) <;> (try (simp only [beq_iff_eq, bne_iff_ne, beq_eq_false_iff_ne, bne_eq_false_iff_eq, ne_eq, decide_eq_true_eq, decide_eq_false_iff_not, Bool.and_eq_true, Bool.or_eq_true, Bool.and_eq_false_iff, Bool.or_eq_false_iff, Bool.false_eq_true, Bool.true_eq_false, reduceCtorEq] at h_)) <;> (try (first | (with_reducible contradiction) | (exfalso; omega)))) | (refine wpS_block ?_) | (refine wpS_ret ?_; (try simp only [thenS, blockS])) | (refine wpS_exit ?_; simp only [thenS, blockS, ↓reduceIte, Nat.reduceEqDiff]) | (refine wpS_skip ?_; (try simp only [thenS, blockS]))) | (refine useK (by with_reducible assumption) ?_)))
  (first | refine r1_ Tryz.results116 (fun w_ hs_ => ?_) | refine r2_ Tryz.results116 (fun w_ hs_ => ?_) | refine r3_ Tryz.results116 (fun w_ hs_ => ?_) | refine retS0 Tryz.results116 (fun w_ hs_ => ?_) | refine retN0 Tryz.results116 (fun w_ hs_ => ?_))
  exact ⟨rfl, hs_.mod⟩
theorem refOf_one (s : ByteArray) (hs : s.size ≤ 1000000) (w : World) : Calls Tryz.prog 74 #[.string s] w fun e w' => e = .returned (.int .i64 (sumOf [s])) ∧ Mod [] w w' := by
  refine (refOf_any s (by omega) w).mono fun e w' ⟨h1, h2⟩ => ⟨?_, h2 ▸ Mod.refl _ _⟩
  rw [h1, sumOf_eq]
  simp [flat]
end Go.Proofs.YtmcaigmpcbkfpaaGreat
