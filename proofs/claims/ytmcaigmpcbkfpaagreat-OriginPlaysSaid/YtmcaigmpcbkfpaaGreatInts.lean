/- slices.Index and slices.Contains over numbers. -/
import Derived.Test.YtmcaigmpcbkfpaaGreatOpt1
set_option linter.unusedVariables false
set_option linter.unusedSimpArgs false
namespace Go.Proofs.YtmcaigmpcbkfpaaGreat
set_option maxRecDepth 8000
attribute [local irreducible] blk wpS seqS ordS OpVal RV endS LoadV StoreV Calls
open Go.RowKit
abbrev enI (x : Int) : List Value := [.int .i64 x]
set_option maxHeartbeats 1000000 in
theorem IndexI_any (l : List Int) (x : Int) (v : Value) (w : World) (hr : Structs enI 1 w v l) :
    Calls Tryz.prog 112 #[v, .int .i64 x] w fun e w' => e = .returned (.int .i64 (idxOf (fun y : Int => x == y) l)) ∧ Mod [] w w' := by
  have hll := hr.len
  obtain ⟨A, cap, rfl⟩ := hr.form
  (refine enterS ([]) (Sep.start _ []) Tryz.func112 rfl ?_; simp only [Tryz.ntmps112, List.size_toArray, List.length_cons, List.length_nil, Nat.reduceAdd, Nat.reduceSub, Array.replicate_succ, Array.replicate_zero, List.push_toArray, List.append_toArray, List.nil_append, List.cons_append])
  (repeat' (first | ((with_reducible refine isOps ?_); first | (refine seqS_nil ?_; (try simp only [thenS, blockS])) | refine aV ?_) | ((with_reducible refine isWp ?_); first | (refine wpS_seq (fun K_ hK_ => ?_)) | (refine wpS_region ?_) | (refine wpS_cond rfl (fun h_ => ?_) (fun h_ => ?_) <;> (try (simp only [beq_iff_eq, bne_iff_ne, beq_eq_false_iff_ne, bne_eq_false_iff_eq, ne_eq, decide_eq_true_eq, decide_eq_false_iff_not, Bool.and_eq_true, Bool.or_eq_true, Bool.and_eq_false_iff, Bool.or_eq_false_iff, Bool.false_eq_true, Bool.true_eq_false, reduceCtorEq] at h_)) <;> (try (first | (with_reducible contradiction) | (exfalso; omega)))) | (refine wpS_block ?_) | (refine wpS_ret ?_; (try simp only [thenS, blockS])) | (refine wpS_exit ?_; simp only [thenS, blockS, ↓reduceIte, Nat.reduceEqDiff]) | (refine wpS_skip ?_; (try simp only [thenS, blockS]))) | (refine useK (by with_reducible assumption) ?_)))
  ((with_reducible refine isLoop ?_); refine wpS_loopU [false, false, false, false, true, true, false, false, true, true, true, true, true, true, true, true, true, true, true] (fun u rs_ => ∃ k : Nat, k ≤ l.length ∧ u 8 = .int .i64 k ∧ (∀ j (hj : j < l.length), j < k → (fun y : Int => x == y) l[j] = false) ∧ rs_ = []) (fun u => l.length - (intOf (u 8)).toNat) ?_ (fun u rs_ l_ K_ hN_ hl_ hR => ?_))
  · exact ⟨0, Nat.zero_le _, rfl, by simp, rfl⟩
  · (simp only [mask_t, mask_f, mask_n, Nat.reduceAdd] at hl_; subst hl_)
    obtain ⟨k, hk, hu, hb, rfl⟩ := hR
    rw [hu]
    replace hb := Lib.hid hb
    by_cases hlt : k < l.length
    · obtain ⟨b, off, rfl, hcell⟩ := hr.gets k hlt (by simp [enI])
      have HC : Hid (∀ w', Mod [] w w' → (Instr.loadAt 3 (.pointer (some ⟨b, off + k, none⟩))).run Tryz.prog w' = .ok (.int .i64 l[k]) w') := Lib.hid fun w' hm =>
        run_load1 (aggF rfl) (by have := hcell w' hm 0 _ rfl; simpa using this)
      clear hcell
      (repeat' (first | ((with_reducible refine isOps ?_); first | (refine seqS_nil ?_; (try simp only [thenS, blockS])) | refine aVh (opv_bin rfl rfl (fun w_ hs_ => by (exact HC.out _ hs_.mod))) ?_ | refine aV ?_ | refine aVh (opv_loadO rfl (fun w_ hs_ => by (exact HC.out _ hs_.mod))) ?_) | ((with_reducible refine isWp ?_); first | (refine wpS_seq (fun K_ hK_ => ?_)) | (refine wpS_region ?_) | (refine wpS_cond rfl (fun h_ => ?_) (fun h_ => ?_) <;> (try (simp only [beq_iff_eq, bne_iff_ne, beq_eq_false_iff_ne, bne_eq_false_iff_eq, ne_eq, decide_eq_true_eq, decide_eq_false_iff_not, Bool.and_eq_true, Bool.or_eq_true, Bool.and_eq_false_iff, Bool.or_eq_false_iff, Bool.false_eq_true, Bool.true_eq_false, reduceCtorEq] at h_)) <;> (try (first | (with_reducible contradiction) | (exfalso; omega)))) | (refine wpS_block ?_) | (refine wpS_ret ?_; (try simp only [thenS, blockS])) | (refine wpS_exit ?_; simp only [thenS, blockS, ↓reduceIte, Nat.reduceEqDiff]) | (refine wpS_skip ?_; (try simp only [thenS, blockS]))) | (refine useK (by with_reducible assumption) ?_)))
      · (first | refine r1_ Tryz.results112 (fun w_ hs_ => ?_) | refine r2_ Tryz.results112 (fun w_ hs_ => ?_) | refine r3_ Tryz.results112 (fun w_ hs_ => ?_) | refine retS0 Tryz.results112 (fun w_ hs_ => ?_) | refine retN0 Tryz.results112 (fun w_ hs_ => ?_))
        exact ⟨by rw [idxOf_some hlt (by simpa using h_) hb.out], hs_.mod⟩
      · (refine hN_ _ ([]) _ rfl ?_ (by first | ((repeat (first | exact List.Sublist.refl _ | exact List.nil_sublist _ | apply List.Sublist.cons_cons | apply List.Sublist.cons)); done) | fail) ?_ <;> dsimp only [List.getD_cons_succ, List.getD_cons_zero])
        · refine ⟨k + 1, by omega, by go_num, fun j hj hjk => ?_, rfl⟩
          by_cases e : j = k
          · subst e; simpa using h_
          · exact hb.out j hj (by omega)
        · rw [hu]; simp [intOf]; omega
    · have hke : k = l.length := by omega
      (repeat' (first | ((with_reducible refine isOps ?_); first | (refine seqS_nil ?_; (try simp only [thenS, blockS])) | refine aV ?_) | ((with_reducible refine isWp ?_); first | (refine wpS_seq (fun K_ hK_ => ?_)) | (refine wpS_region ?_) | (refine wpS_cond rfl (fun h_ => ?_) (fun h_ => ?_) <;> (try (simp only [beq_iff_eq, bne_iff_ne, beq_eq_false_iff_ne, bne_eq_false_iff_eq, ne_eq, decide_eq_true_eq, decide_eq_false_iff_not, Bool.and_eq_true, Bool.or_eq_true, Bool.and_eq_false_iff, Bool.or_eq_false_iff, Bool.false_eq_true, Bool.true_eq_false, reduceCtorEq] at h_)) <;> (try (first | (with_reducible contradiction) | (exfalso; omega)))) | (refine wpS_block ?_) | (refine wpS_ret ?_; (try simp only [thenS, blockS])) | (refine wpS_exit ?_; simp only [thenS, blockS, ↓reduceIte, Nat.reduceEqDiff]) | (refine wpS_skip ?_; (try simp only [thenS, blockS]))) | (refine useK (by with_reducible assumption) ?_)))
      (first | refine r1_ Tryz.results112 (fun w_ hs_ => ?_) | refine r2_ Tryz.results112 (fun w_ hs_ => ?_) | refine r3_ Tryz.results112 (fun w_ hs_ => ?_) | refine retS0 Tryz.results112 (fun w_ hs_ => ?_) | refine retN0 Tryz.results112 (fun w_ hs_ => ?_))
      exact ⟨by rw [idxOf_none (fun j hj => hb.out j hj (by omega))], hs_.mod⟩
set_option maxHeartbeats 1000000 in
theorem ContainsI_any (l : List Int) (x : Int) (v : Value) (w : World) (hr : Structs enI 1 w v l) :
    Calls Tryz.prog 73 #[v, .int .i64 x] w fun e w' => e = .returned (.bool (l.contains x)) ∧ Mod [] w w' := by
  have hx : decide (0 ≤ idxOf (fun y : Int => x == y) l) = l.contains x := by rw [idxOf_any, List.contains_eq_any_beq]
  have hI : Hid (∀ w', Mod [] w w' → Calls Tryz.prog 112 #[v, .int .i64 x] w' fun e w'' => e = .returned (.int .i64 (idxOf (fun y : Int => x == y) l)) ∧ Mod [] w' w'') := Lib.hid fun w' hm => IndexI_any l x v _ (hr.mod0 hm)
  generalize idxOf (fun y : Int => x == y) l = i at hI hx
  (refine enterS ([]) (Sep.start _ []) Tryz.func73 rfl ?_; simp only [Tryz.ntmps73, List.size_toArray, List.length_cons, List.length_nil, Nat.reduceAdd, Nat.reduceSub, Array.replicate_succ, Array.replicate_zero, List.push_toArray, List.append_toArray, List.nil_append, List.cons_append])
  (repeat' (first | ((with_reducible refine isOps ?_); first | (refine seqS_nil ?_; (try simp only [thenS, blockS])) | ((first | ((with_reducible refine isCallF ?_); refine aCF ?_) | ((with_reducible refine isCallV ?_); refine aCV ?_)); first | refine cS0 (fun w_ hs_ => hI.out _ hs_.mod) ?_) | refine aV ?_) | ((with_reducible refine isWp ?_); first | (refine wpS_seq (fun K_ hK_ => ?_)) | (refine wpS_region ?_) | (refine wpS_cond rfl (fun h_ => ?_) (fun h_ => ?_) <;> (try (simp only [beq_iff_eq, bne_iff_ne, beq_eq_false_iff_ne, bne_eq_false_iff_eq, ne_eq, decide_eq_true_eq, decide_eq_false_iff_not, Bool.and_eq_true, Bool.or_eq_true, Bool.and_eq_false_iff, Bool.or_eq_false_iff, Bool.false_eq_true, Bool.true_eq_false, reduceCtorEq] at h_)) <;> (try (first | (with_reducible contradiction) | (exfalso; omega)))) | (refine wpS_block ?_) | (refine wpS_ret ?_; (try simp only [thenS, blockS])) | (refine wpS_exit ?_; simp only [thenS, blockS, ↓reduceIte, Nat.reduceEqDiff]) | (refine wpS_skip ?_; (try simp only [thenS, blockS]))) | (refine useK (by with_reducible assumption) ?_)))
  (first | refine r1_ Tryz.results73 (fun w_ hs_ => ?_) | refine r2_ Tryz.results73 (fun w_ hs_ => ?_) | refine r3_ Tryz.results73 (fun w_ hs_ => ?_) | refine retS0 Tryz.results73 (fun w_ hs_ => ?_) | refine retN0 Tryz.results73 (fun w_ hs_ => ?_))
  exact ⟨by simp, hs_.mod⟩
end Go.Proofs.YtmcaigmpcbkfpaaGreat
