/- Package notice: kinds, echoes; the document's notices; the example. -/
import Derived.Test.YtmcaigmpcbkfpaaGreatNot1
import Derived.Test.YtmcaigmpcbkfpaaGreatInts
import Derived.Test.YtmcaigmpcbkfpaaGreatOpt4
import Derived.Test.YtmcaigmpcbkfpaaGreatByt
set_option linter.unusedVariables false
set_option linter.unusedSimpArgs false
namespace Go.Proofs.YtmcaigmpcbkfpaaGreat
set_option maxRecDepth 8000
attribute [local irreducible] blk wpS seqS ordS OpVal RV endS LoadV StoreV Calls
open Go.RowKit
def ntFaults : List Int := [3, 4, 5, 11, 12]
def ntKind (t : Int) : Int := if t = 8 then 1 else if t = 0 then 2 else if ntFaults.contains t = true then 3 else 0
set_option maxHeartbeats 2000000 in
theorem faults_any (w : World) : Calls Tryz.prog 72 #[] w fun e w' => e = .returned (.agg #[.int .i64 3, .int .i64 4, .int .i64 5, .int .i64 11, .int .i64 12]) ∧ Mod [] w w' := by
  (refine enterS ([]) (Sep.start _ []) Tryz.func72 rfl ?_; simp only [Tryz.ntmps72, List.size_toArray, List.length_cons, List.length_nil, Nat.reduceAdd, Nat.reduceSub, Array.replicate_succ, Array.replicate_zero, List.push_toArray, List.append_toArray, List.nil_append, List.cons_append])
  (repeat' (first | ((with_reducible refine isOps ?_); first | (refine seqS_nil ?_; (try simp only [thenS, blockS])) | ((with_reducible refine isStore ?_); first | refine aSt ?_) | ((with_reducible refine isAlloc ?_); first | (refine aAl (fun n_ l_ hl_ => ?_); dsimp only [sS, sZ] at hl_; subst hl_)) | refine aV ?_) | ((with_reducible refine isWp ?_); first | (refine wpS_seq (fun K_ hK_ => ?_)) | (refine wpS_region ?_) | (refine wpS_cond rfl (fun h_ => ?_) (fun h_ => ?_) <;> (try (simp only [beq_iff_eq, bne_iff_ne, beq_eq_false_iff_ne, bne_eq_false_iff_eq, ne_eq, decide_eq_true_eq, decide_eq_false_iff_not, Bool.and_eq_true, Bool.or_eq_true, Bool.and_eq_false_iff, Bool.or_eq_false_iff, Bool.false_eq_true, Bool.true_eq_false, reduceCtorEq] at h_)) <;> (try (first | (with_reducible contradiction) | (exfalso; omega)))) | (refine wpS_block ?_) | (refine wpS_ret ?_; (try simp only [thenS, blockS])) | (refine wpS_exit ?_; simp only [thenS, blockS, ↓reduceIte, Nat.reduceEqDiff]) | (refine wpS_skip ?_; (try simp only [thenS, blockS]))) | (refine useK (by with_reducible assumption) ?_)))
  (first | refine r1_ Tryz.results72 (fun w_ hs_ => ?_) | refine r2_ Tryz.results72 (fun w_ hs_ => ?_) | refine r3_ Tryz.results72 (fun w_ hs_ => ?_) | refine retS0 Tryz.results72 (fun w_ hs_ => ?_) | refine retN0 Tryz.results72 (fun w_ hs_ => ?_))
  exact ⟨rfl, hs_.mod⟩
set_option maxHeartbeats 2000000 in
theorem ntKind_any (n : Ntc) (w : World) : Calls Tryz.prog 33 #[nv n] w fun e w' => e = .returned (.int .i64 (ntKind n.ty)) ∧ Mod [] w w' := by
  have hF := Lib.hid (fun w' => faults_any w')
  have hC : Hid (∀ w' b, Blk w' b [.int .i64 3, .int .i64 4, .int .i64 5, .int .i64 11, .int .i64 12] 110 → Calls Tryz.prog 73 #[.slice (some ⟨b, 0, none⟩) 5 5, .int .i64 n.ty] w' fun e w'' => e = .returned (.bool (ntFaults.contains n.ty)) ∧ Mod [] w' w'') := Lib.hid fun w' b hb =>
    ContainsI_any ntFaults n.ty _ w' (Structs.ofBlk ntFaults (fun _ _ => rfl) hb (by decide))
  have hk := Lib.hid (show ntKind n.ty = if n.ty = 8 then 1 else if n.ty = 0 then 2 else if ntFaults.contains n.ty = true then 3 else 0 from rfl)
  generalize ntFaults.contains n.ty = F at hC hk
  (refine enterS ([]) (Sep.start _ []) Tryz.func33 rfl ?_; simp only [Tryz.ntmps33, List.size_toArray, List.length_cons, List.length_nil, Nat.reduceAdd, Nat.reduceSub, Array.replicate_succ, Array.replicate_zero, List.push_toArray, List.append_toArray, List.nil_append, List.cons_append])
  (repeat' (first | ((with_reducible refine isOps ?_); first | (refine seqS_nil ?_; (try simp only [thenS, blockS])) | ((first | ((with_reducible refine isCallF ?_); refine aCF ?_) | ((with_reducible refine isCallV ?_); refine aCV ?_)); first | refine cS0 (fun w_ hs_ => hF.out _) ?_ | refine cS0 (fun w_ hs_ => hC.out _ _ (by first | exact Sep.getBlk hs_ (by first | ((repeat (first | exact .head _ | apply List.Mem.tail)); done) | fail) | exact hg_ _ _ _ (by first | ((repeat (first | exact .head _ | apply List.Mem.tail)); done) | fail))) ?_) | ((with_reducible refine isStore ?_); first | refine aSt ?_) | ((with_reducible refine isBox ?_); first | (refine aBox (fun n_ l_ hl_ => ?_); dsimp only [sS, sZ] at hl_; subst hl_)) | ((with_reducible refine isAlloc ?_); first | (refine aAl (fun n_ l_ hl_ => ?_); dsimp only [sS, sZ] at hl_; subst hl_)) | refine aV ?_) | ((with_reducible refine isOrd ?_); first | (refine ordS_nil ?_; (try simp only [thenS, blockS, blks, List.map_cons, List.map_nil, List.cons_append, List.nil_append])) | refine oV ?_ | (refine oC ?_; first | refine cD0 (fun w_ hs_ hg_ => hF.out _) ?_ | refine cD0 (fun w_ hs_ hg_ => hC.out _ _ (by first | exact Sep.getBlk hs_ (by first | ((repeat (first | exact .head _ | apply List.Mem.tail)); done) | fail) | exact hg_ _ _ _ (by first | ((repeat (first | exact .head _ | apply List.Mem.tail)); done) | fail))) ?_) | (refine oAl (fun n_ l_ hl_ => ?_); dsimp only [sS, sZ] at hl_; subst hl_) | (refine oBox (fun n_ l_ hl_ => ?_); dsimp only [sS, sZ] at hl_; subst hl_) | refine oPut ?_ | refine oSt ?_ | refine oLd ?_) | ((with_reducible refine isWp ?_); first | (refine wpS_seq (fun K_ hK_ => ?_)) | (refine wpS_region ?_) | (refine wpS_cond rfl (fun h_ => ?_) (fun h_ => ?_) <;> (try (simp only [beq_iff_eq, bne_iff_ne, beq_eq_false_iff_ne, bne_eq_false_iff_eq, ne_eq, decide_eq_true_eq, decide_eq_false_iff_not, Bool.and_eq_true, Bool.or_eq_true, Bool.and_eq_false_iff, Bool.or_eq_false_iff, Bool.false_eq_true, Bool.true_eq_false, reduceCtorEq] at h_)) <;> (try (first | (with_reducible contradiction) | (exfalso; omega)))) | (refine wpS_block ?_) | (refine wpS_ret ?_; (try simp only [thenS, blockS])) | (refine wpS_exit ?_; simp only [thenS, blockS, ↓reduceIte, Nat.reduceEqDiff]) | (refine wpS_skip ?_; (try simp only [thenS, blockS]))) | ((with_reducible refine isDraw ?_); refine wpS_drawT (by simp only [List.length_cons, List.length_nil, Nat.zero_add, Nat.reduceAdd, List.range'_succ, List.range'_zero]; rfl) (by kernel_rfl) (by kernel_rfl) (fun B_ hB_ hf_ => ?_)) | (refine useK (by with_reducible assumption) ?_)))
  all_goals
    (first | refine r1_ Tryz.results33 (fun w_ hs_ => ?_) | refine r2_ Tryz.results33 (fun w_ hs_ => ?_) | refine r3_ Tryz.results33 (fun w_ hs_ => ?_) | refine retS0 Tryz.results33 (fun w_ hs_ => ?_) | refine retN0 Tryz.results33 (fun w_ hs_ => ?_))
    refine ⟨?_, hs_.mod⟩
    rw [hk.out]
    first
      | (simp [*]; done)
      | (simp_all; done)
set_option maxHeartbeats 1000000 in
theorem refKind07_any (t : Int) (w : World) : Calls Tryz.prog 36 #[.int .i64 t] w fun e w' => e = .returned (.int .i64 (ntKind t)) ∧ Mod [] w w' := by
  have hk : ntKind t = if t = 8 then 1 else if t = 0 then 2 else if t = 3 ∨ t = 4 ∨ t = 5 ∨ t = 11 ∨ t = 12 then 3 else 0 := by
    unfold ntKind ntFaults
    simp
  replace hk := Lib.hid hk
  (refine enterS ([]) (Sep.start _ []) Tryz.func36 rfl ?_; simp only [Tryz.ntmps36, List.size_toArray, List.length_cons, List.length_nil, Nat.reduceAdd, Nat.reduceSub, Array.replicate_succ, Array.replicate_zero, List.push_toArray, List.append_toArray, List.nil_append, List.cons_append])
  (repeat' (first | ((with_reducible refine isOps ?_); first | (refine seqS_nil ?_; (try simp only [thenS, blockS])) | refine aV ?_) | ((with_reducible refine isWp ?_); first | (refine wpS_seq (fun K_ hK_ => ?_)) | (refine wpS_region ?_) | (refine wpS_cond rfl (fun h_ => ?_) (fun h_ => ?_) <;> (try (simp only [beq_iff_eq, bne_iff_ne, beq_eq_false_iff_ne, bne_eq_false_iff_eq, ne_eq, decide_eq_true_eq, decide_eq_false_iff_not, Bool.and_eq_true, Bool.or_eq_true, Bool.and_eq_false_iff, Bool.or_eq_false_iff, Bool.false_eq_true, Bool.true_eq_false, reduceCtorEq] at h_)) <;> (try (first | (with_reducible contradiction) | (exfalso; omega)))) | (refine wpS_block ?_) | (refine wpS_ret ?_; (try simp only [thenS, blockS])) | (refine wpS_exit ?_; simp only [thenS, blockS, ↓reduceIte, Nat.reduceEqDiff]) | (refine wpS_skip ?_; (try simp only [thenS, blockS]))) | (refine useK (by with_reducible assumption) ?_)))
  all_goals
    (first | refine r1_ Tryz.results36 (fun w_ hs_ => ?_) | refine r2_ Tryz.results36 (fun w_ hs_ => ?_) | refine r3_ Tryz.results36 (fun w_ hs_ => ?_) | refine retS0 Tryz.results36 (fun w_ hs_ => ?_) | refine retN0 Tryz.results36 (fun w_ hs_ => ?_))
    refine ⟨?_, hs_.mod⟩
    rw [hk.out]
    first
      | (simp [*]; done)
      | (simp_all; done)
def ntEcho (n : Ntc) : Ntc × Bool := if n.ty = 8 then ({ n with ty := 0 }, true) else (noNtc, false)
set_option maxHeartbeats 1000000 in
theorem ntEcho_any (n : Ntc) (w : World) : Calls Tryz.prog 46 #[nv n] w fun e w' => e = .returned (.tuple #[nv (ntEcho n).1, .bool (ntEcho n).2]) ∧ Mod [] w w' := by
  have hK : Hid (∀ w', Calls Tryz.prog 33 #[nv n] w' fun e w'' => e = .returned (.int .i64 (ntKind n.ty)) ∧ Mod [] w' w'') := Lib.hid fun w' => ntKind_any n w'
  by_cases h8 : n.ty = 8
  · rw [show ntKind n.ty = 1 from if_pos h8] at hK
    rw [show ntEcho n = ({ n with ty := 0 }, true) from if_pos h8]
    (refine enterS ([]) (Sep.start _ []) Tryz.func46 rfl ?_; simp only [Tryz.ntmps46, List.size_toArray, List.length_cons, List.length_nil, Nat.reduceAdd, Nat.reduceSub, Array.replicate_succ, Array.replicate_zero, List.push_toArray, List.append_toArray, List.nil_append, List.cons_append])
    (repeat' (first | ((with_reducible refine isOps ?_); first | (refine seqS_nil ?_; (try simp only [thenS, blockS])) | ((first | ((with_reducible refine isCallF ?_); refine aCF ?_) | ((with_reducible refine isCallV ?_); refine aCV ?_)); first | refine cS0 (fun w_ hs_ => hK.out _) ?_) | ((with_reducible refine isStore ?_); first | refine aSt ?_) | ((with_reducible refine isBox ?_); first | (refine aBox (fun n_ l_ hl_ => ?_); dsimp only [sS, sZ] at hl_; subst hl_)) | ((with_reducible refine isAlloc ?_); first | (refine aAl (fun n_ l_ hl_ => ?_); dsimp only [sS, sZ] at hl_; subst hl_)) | refine aV ?_) | ((with_reducible refine isWp ?_); first | (refine wpS_seq (fun K_ hK_ => ?_)) | (refine wpS_region ?_) | (refine wpS_cond rfl (fun h_ => ?_) (fun h_ => ?_) <;> (try (simp only [beq_iff_eq, bne_iff_ne, beq_eq_false_iff_ne, bne_eq_false_iff_eq, ne_eq, decide_eq_true_eq, decide_eq_false_iff_not, Bool.and_eq_true, Bool.or_eq_true, Bool.and_eq_false_iff, Bool.or_eq_false_iff, Bool.false_eq_true, Bool.true_eq_false, reduceCtorEq] at h_)) <;> (try (first | (with_reducible contradiction) | (exfalso; omega)))) | (refine wpS_block ?_) | (refine wpS_ret ?_; (try simp only [thenS, blockS])) | (refine wpS_exit ?_; simp only [thenS, blockS, ↓reduceIte, Nat.reduceEqDiff]) | (refine wpS_skip ?_; (try simp only [thenS, blockS]))) | (refine useK (by with_reducible assumption) ?_)))
    (first | refine r1_ Tryz.results46 (fun w_ hs_ => ?_) | refine r2_ Tryz.results46 (fun w_ hs_ => ?_) | refine r3_ Tryz.results46 (fun w_ hs_ => ?_) | refine retS0 Tryz.results46 (fun w_ hs_ => ?_) | refine retN0 Tryz.results46 (fun w_ hs_ => ?_))
    exact ⟨rfl, hs_.mod⟩
  · have hk1 : ntKind n.ty ≠ 1 := by
      unfold ntKind
      rw [if_neg h8]
      split
      · decide
      · split <;> decide
    rw [show ntEcho n = (noNtc, false) from if_neg h8]
    generalize ntKind n.ty = k at hK hk1
    (refine enterS ([]) (Sep.start _ []) Tryz.func46 rfl ?_; simp only [Tryz.ntmps46, List.size_toArray, List.length_cons, List.length_nil, Nat.reduceAdd, Nat.reduceSub, Array.replicate_succ, Array.replicate_zero, List.push_toArray, List.append_toArray, List.nil_append, List.cons_append])
    (repeat' (first | ((with_reducible refine isOps ?_); first | (refine seqS_nil ?_; (try simp only [thenS, blockS])) | ((first | ((with_reducible refine isCallF ?_); refine aCF ?_) | ((with_reducible refine isCallV ?_); refine aCV ?_)); first | refine cS0 (fun w_ hs_ => hK.out _) ?_) | ((with_reducible refine isStore ?_); first | refine aSt ?_) | ((with_reducible refine isBox ?_); first | (refine aBox (fun n_ l_ hl_ => ?_); dsimp only [sS, sZ] at hl_; subst hl_)) | ((with_reducible refine isAlloc ?_); first | (refine aAl (fun n_ l_ hl_ => ?_); dsimp only [sS, sZ] at hl_; subst hl_)) | refine aV ?_) | ((with_reducible refine isWp ?_); first | (refine wpS_seq (fun K_ hK_ => ?_)) | (refine wpS_region ?_) | (refine wpS_cond rfl (fun h_ => ?_) (fun h_ => ?_) <;> (try (simp only [beq_iff_eq, bne_iff_ne, beq_eq_false_iff_ne, bne_eq_false_iff_eq, ne_eq, decide_eq_true_eq, decide_eq_false_iff_not, Bool.and_eq_true, Bool.or_eq_true, Bool.and_eq_false_iff, Bool.or_eq_false_iff, Bool.false_eq_true, Bool.true_eq_false, reduceCtorEq] at h_)) <;> (try (first | (with_reducible contradiction) | (exfalso; omega)))) | (refine wpS_block ?_) | (refine wpS_ret ?_; (try simp only [thenS, blockS])) | (refine wpS_exit ?_; simp only [thenS, blockS, ↓reduceIte, Nat.reduceEqDiff]) | (refine wpS_skip ?_; (try simp only [thenS, blockS]))) | (refine useK (by with_reducible assumption) ?_)))
    (first | refine r1_ Tryz.results46 (fun w_ hs_ => ?_) | refine r2_ Tryz.results46 (fun w_ hs_ => ?_) | refine r3_ Tryz.results46 (fun w_ hs_ => ?_) | refine retS0 Tryz.results46 (fun w_ hs_ => ?_) | refine retN0 Tryz.results46 (fun w_ hs_ => ?_))
    exact ⟨rfl, hs_.mod⟩
/-! ### The document's -/
set_option maxHeartbeats 2000000 in
theorem refRight07_any (n : Ntc) (w : World) : Calls Tryz.prog 37 #[nv n] w fun e w' => e = .returned (.bool (ntRight n)) ∧ Mod [] w w' := by
  unfold ntRight inBn
  (refine enterS ([]) (Sep.start _ []) Tryz.func37 rfl ?_; simp only [Tryz.ntmps37, List.size_toArray, List.length_cons, List.length_nil, Nat.reduceAdd, Nat.reduceSub, Array.replicate_succ, Array.replicate_zero, List.push_toArray, List.append_toArray, List.nil_append, List.cons_append])
  (repeat' (first | ((with_reducible refine isOps ?_); first | (refine seqS_nil ?_; (try simp only [thenS, blockS])) | ((with_reducible refine isBox ?_); first | (refine aBox (fun n_ l_ hl_ => ?_); dsimp only [sS, sZ] at hl_; subst hl_)) | refine aV ?_ | refine aNo ?_ | refine aNo' ?_ | ((fail_if_success (refine aIsT ?_)); (fail_if_success (refine aIsF ?_)); refine seqS_guard rfl rfl rfl (fun l_ hl_ h_ => ?_) (fun l_ hl_ h_ => ?_) <;> (dsimp only [sS, sZ] at hl_; subst hl_; (try (simp only [beq_iff_eq, bne_iff_ne, beq_eq_false_iff_ne, bne_eq_false_iff_eq, ne_eq, decide_eq_true_eq, decide_eq_false_iff_not, Bool.and_eq_true, Bool.or_eq_true, Bool.and_eq_false_iff, Bool.or_eq_false_iff, Bool.not_eq_true', Bool.not_eq_false', Bool.false_eq_true, Bool.true_eq_false, reduceCtorEq] at h_)); (try (first | (with_reducible contradiction) | (exfalso; omega)))))) | ((with_reducible refine isWp ?_); first | (refine wpS_seq (fun K_ hK_ => ?_)) | (refine wpS_region ?_) | (refine wpS_cond rfl (fun h_ => ?_) (fun h_ => ?_) <;> (try (simp only [beq_iff_eq, bne_iff_ne, beq_eq_false_iff_ne, bne_eq_false_iff_eq, ne_eq, decide_eq_true_eq, decide_eq_false_iff_not, Bool.and_eq_true, Bool.or_eq_true, Bool.and_eq_false_iff, Bool.or_eq_false_iff, Bool.false_eq_true, Bool.true_eq_false, reduceCtorEq] at h_)) <;> (try (first | (with_reducible contradiction) | (exfalso; omega)))) | (refine wpS_block ?_) | (refine wpS_ret ?_; (try simp only [thenS, blockS])) | (refine wpS_exit ?_; simp only [thenS, blockS, ↓reduceIte, Nat.reduceEqDiff]) | (refine wpS_skip ?_; (try simp only [thenS, blockS]))) | (refine useK (by with_reducible assumption) ?_)))
  all_goals
    (first | refine r1_ Tryz.results37 (fun w_ hs_ => ?_) | refine r2_ Tryz.results37 (fun w_ hs_ => ?_) | refine r3_ Tryz.results37 (fun w_ hs_ => ?_) | refine retS0 Tryz.results37 (fun w_ hs_ => ?_) | refine retN0 Tryz.results37 (fun w_ hs_ => ?_))
    refine ⟨?_, hs_.mod⟩
    first
      | (simp [*]; done)
      | (simp_all; done)
      | (simp_all; omega)
set_option maxHeartbeats 1000000 in
theorem refWord07 (n : Int) (h0 : 0 ≤ n) (h1 : n ≤ 4294967295) (w : World) : Calls Tryz.prog 117 #[.int .u32 n] w fun e w' => e = .returned (.string (strOf (numBytes 4 n))) ∧ Mod [] w w' := by
  (refine enterS ([]) (Sep.start _ []) Tryz.func117 rfl ?_; simp only [Tryz.ntmps117, List.size_toArray, List.length_cons, List.length_nil, Nat.reduceAdd, Nat.reduceSub, Array.replicate_succ, Array.replicate_zero, List.push_toArray, List.append_toArray, List.nil_append, List.cons_append])
  (repeat' (first | ((with_reducible refine isOps ?_); first | (refine seqS_nil ?_; (try simp only [thenS, blockS])) | ((with_reducible refine isBuildSlice ?_); first | (refine aBs (fun n_ l_ hl_ => ?_); dsimp only [sS, sZ] at hl_; subst hl_)) | ((with_reducible refine isConvert ?_); first | refine aBy ?_) | refine aV ?_) | ((with_reducible refine isWp ?_); first | (refine wpS_seq (fun K_ hK_ => ?_)) | (refine wpS_region ?_) | (refine wpS_cond rfl (fun h_ => ?_) (fun h_ => ?_) <;> (try (simp only [beq_iff_eq, bne_iff_ne, beq_eq_false_iff_ne, bne_eq_false_iff_eq, ne_eq, decide_eq_true_eq, decide_eq_false_iff_not, Bool.and_eq_true, Bool.or_eq_true, Bool.and_eq_false_iff, Bool.or_eq_false_iff, Bool.false_eq_true, Bool.true_eq_false, reduceCtorEq] at h_)) <;> (try (first | (with_reducible contradiction) | (exfalso; omega)))) | (refine wpS_block ?_) | (refine wpS_ret ?_; (try simp only [thenS, blockS])) | (refine wpS_exit ?_; simp only [thenS, blockS, ↓reduceIte, Nat.reduceEqDiff]) | (refine wpS_skip ?_; (try simp only [thenS, blockS]))) | (refine useK (by with_reducible assumption) ?_)))
  (first | refine r1_ Tryz.results117 (fun w_ hs_ => ?_) | refine r2_ Tryz.results117 (fun w_ hs_ => ?_) | refine r3_ Tryz.results117 (fun w_ hs_ => ?_) | refine retS0 Tryz.results117 (fun w_ hs_ => ?_) | refine retN0 Tryz.results117 (fun w_ hs_ => ?_))
  refine ⟨?_, hs_.mod⟩
  rw [nbs4]
  congr 2
  apply ByteArray.ext
  simp [strOfNums, b8, IntKind.wrap_u8]
  rw [show n / 16777216 % 256 = n / 16777216 from by omega]
theorem sn2n (x y : Int) (hx : 0 ≤ x ∧ x ≤ 255) (hy : 0 ≤ y ∧ y ≤ 255) : strOfNums [x, y] = strOf [b8 x, b8 y] := by
  have e1 : x % 256 = x := by omega
  have e2 : y % 256 = y := by omega
  apply ByteArray.ext; simp [strOfNums, b8, e1, e2]
set_option maxHeartbeats 8000000 in
theorem refNtEncode_any (n : Ntc) (hr : ntRight n = true) (hw : 0 ≤ n.word ∧ n.word ≤ 4294967295) (w : World) : Calls Tryz.prog 81 #[nv n] w fun e w' => e = .returned (.string (strOf (ntBytes n))) ∧ Mod [] w w' := by
  obtain ⟨f1, f2, f3⟩ := ntRight_iff.1 hr
  have hzl := ntZero_len n
  have hW1 := Lib.hid (fun w' => refWord07 n.word hw.1 hw.2 w')
  have hk1 : IntKind.u8.wrap n.ty = n.ty := IntWalk.u8_in _ (by omega)
  have hk2 : IntKind.u8.wrap n.code = n.code := IntWalk.u8_in _ (by omega)
  have hPut : Hid (∀ x w', x = strOf (ntZero n) → Calls Tryz.prog 80 #[.string x, .int .i64 2] w' fun e w'' => e = .returned (.string (strOf (ntBytes n))) ∧ Mod [] w' w'') := Lib.hid fun x w' hx => by
    subst hx
    have := rPut_any (strOf (ntZero n)) 2 (by rw [strOf_size]; omega) (by rw [strOf_size]; omega) (by decide) w'
    rwa [ntPut] at this
  have hZ : Hid (strOfNums [n.ty, n.code] ++ ⟨#[0, 0]⟩ ++ strOf (numBytes 4 n.word) ++ n.d = strOf (ntZero n)) := Lib.hid (by
    rw [sn2n _ _ f1 f2, show (⟨#[0, 0]⟩ : ByteArray) = strOf [0, 0] from rfl, ntZero, ntFront, ntTail]
    conv => lhs; rw [← strOf_self n.d]
    have app : ∀ a b : List UInt8, strOf a ++ strOf b = strOf (a ++ b) := fun a b => by apply ByteArray.ext; simp
    simp only [app, List.flatMap_cons, List.flatMap_nil, nbs1, nbs2, List.append_nil, List.cons_append, List.nil_append, List.append_assoc]
    rfl)
  have z4 : (strOf (numBytes 4 n.word)).size = 4 := by rw [strOf_size, numBytes_length]
  have z0 : (⟨#[0, 0]⟩ : ByteArray).size = 2 := rfl
  clear hzl
  generalize strOf (ntBytes n) = T at hPut ⊢
  generalize strOf (ntZero n) = Z at hPut hZ
  generalize strOf (numBytes 4 n.word) = x4 at hW1 hZ z4
  (refine enterS ([]) (Sep.start _ []) Tryz.func81 rfl ?_; simp only [Tryz.ntmps81, List.size_toArray, List.length_cons, List.length_nil, Nat.reduceAdd, Nat.reduceSub, Array.replicate_succ, Array.replicate_zero, List.push_toArray, List.append_toArray, List.nil_append, List.cons_append])
  (repeat' (first | ((with_reducible refine isOps ?_); first | (refine seqS_nil ?_; (try simp only [thenS, blockS])) | ((with_reducible refine isBuildSlice ?_); first | (refine aBs (fun n_ l_ hl_ => ?_); dsimp only [sS, sZ] at hl_; subst hl_)) | ((with_reducible refine isConvert ?_); first | refine aBy ?_) | ((with_reducible refine isBox ?_); first | (refine aBox (fun n_ l_ hl_ => ?_); dsimp only [sS, sZ] at hl_; subst hl_)) | refine aV ?_) | ((with_reducible refine isOrd ?_); first | (refine ordS_nil ?_; (try simp only [thenS, blockS, blks, List.map_cons, List.map_nil, List.cons_append, List.nil_append])) | refine oV ?_ | (refine oBs (fun n_ l_ hl_ => ?_); dsimp only [sS, sZ] at hl_; subst hl_) | refine oBy ?_ | (refine oBox (fun n_ l_ hl_ => ?_); dsimp only [sS, sZ] at hl_; subst hl_) | refine oLd ?_) | ((with_reducible refine isWp ?_); first | (refine wpS_seq (fun K_ hK_ => ?_)) | (refine wpS_region ?_) | (refine wpS_cond rfl (fun h_ => ?_) (fun h_ => ?_) <;> (try (simp only [beq_iff_eq, bne_iff_ne, beq_eq_false_iff_ne, bne_eq_false_iff_eq, ne_eq, decide_eq_true_eq, decide_eq_false_iff_not, Bool.and_eq_true, Bool.or_eq_true, Bool.and_eq_false_iff, Bool.or_eq_false_iff, Bool.false_eq_true, Bool.true_eq_false, reduceCtorEq] at h_)) <;> (try (first | (with_reducible contradiction) | (exfalso; omega)))) | (refine wpS_block ?_) | (refine wpS_ret ?_; (try simp only [thenS, blockS])) | (refine wpS_exit ?_; simp only [thenS, blockS, ↓reduceIte, Nat.reduceEqDiff]) | (refine wpS_skip ?_; (try simp only [thenS, blockS]))) | (refine useK (by with_reducible assumption) ?_)))
  ((with_reducible refine isDraw ?_); refine wpS_drawO [9, 10, 11, 0, 1, 2, 3, 4, 5, 6, 7, 8, 12, 13, 14, 15, 16, 17] (by kernel_rfl) (by kernel_rfl) (fun B_ hB_ hf_ => ?_))
  (repeat' (first | ((with_reducible refine isOps ?_); first | (refine seqS_nil ?_; (try simp only [thenS, blockS])) | ((first | ((with_reducible refine isCallF ?_); refine aCF ?_) | ((with_reducible refine isCallV ?_); refine aCV ?_)); first | refine cS0 (fun w_ hs_ => hW1.out _) ?_ | refine cS0 (fun w_ hs_ => hPut.out _ _ hZ.out) ?_) | ((with_reducible refine isBuildSlice ?_); first | (refine aBs (fun n_ l_ hl_ => ?_); dsimp only [sS, sZ] at hl_; subst hl_)) | ((with_reducible refine isConvert ?_); first | refine aBy ?_) | ((with_reducible refine isBox ?_); first | (refine aBox (fun n_ l_ hl_ => ?_); dsimp only [sS, sZ] at hl_; subst hl_)) | refine aV ?_) | ((with_reducible refine isOrd ?_); first | (refine ordS_nil ?_; (try simp only [thenS, blockS, blks, List.map_cons, List.map_nil, List.cons_append, List.nil_append])) | refine oV ?_ | (refine oC ?_; first | refine cD0 (fun w_ hs_ hg_ => hW1.out _) ?_ | refine cD0 (fun w_ hs_ hg_ => hPut.out _ _ hZ.out) ?_) | (refine oBs (fun n_ l_ hl_ => ?_); dsimp only [sS, sZ] at hl_; subst hl_) | refine oBy ?_ | (refine oBox (fun n_ l_ hl_ => ?_); dsimp only [sS, sZ] at hl_; subst hl_) | refine oLd ?_) | ((with_reducible refine isWp ?_); first | (refine wpS_seq (fun K_ hK_ => ?_)) | (refine wpS_region ?_) | (refine wpS_cond rfl (fun h_ => ?_) (fun h_ => ?_) <;> (try (simp only [beq_iff_eq, bne_iff_ne, beq_eq_false_iff_ne, bne_eq_false_iff_eq, ne_eq, decide_eq_true_eq, decide_eq_false_iff_not, Bool.and_eq_true, Bool.or_eq_true, Bool.and_eq_false_iff, Bool.or_eq_false_iff, Bool.false_eq_true, Bool.true_eq_false, reduceCtorEq] at h_)) <;> (try (first | (with_reducible contradiction) | (exfalso; omega)))) | (refine wpS_block ?_) | (refine wpS_ret ?_; (try simp only [thenS, blockS])) | (refine wpS_exit ?_; simp only [thenS, blockS, ↓reduceIte, Nat.reduceEqDiff]) | (refine wpS_skip ?_; (try simp only [thenS, blockS]))) | ((with_reducible refine isDraw ?_); refine wpS_drawT (by simp only [List.length_cons, List.length_nil, Nat.zero_add, Nat.reduceAdd, List.range'_succ, List.range'_zero]; rfl) (by kernel_rfl) (by kernel_rfl) (fun B_ hB_ hf_ => ?_)) | (refine useK (by with_reducible assumption) ?_)))
  (first | refine r1_ Tryz.results81 (fun w_ hs_ => ?_) | refine r2_ Tryz.results81 (fun w_ hs_ => ?_) | refine r3_ Tryz.results81 (fun w_ hs_ => ?_) | refine retS0 Tryz.results81 (fun w_ hs_ => ?_) | refine retN0 Tryz.results81 (fun w_ hs_ => ?_))
  exact ⟨rfl, hs_.mod⟩
end Go.Proofs.YtmcaigmpcbkfpaaGreat
