/- Package option: Find. -/
import Derived.Test.YtdichoibidccoaaOpt4
set_option linter.unusedVariables false
set_option linter.unusedSimpArgs false
namespace Go.Proofs.Ytdichoibidccoaa
set_option maxRecDepth 8000
attribute [local irreducible] blk wpS seqS ordS OpVal RV endS LoadV StoreV Calls
open Go.RowKit
set_option maxHeartbeats 1000000 in
theorem is_any (o : Opt) (k : Int) (n : Nat) (w : World) (hb : Blk w n [.int .i64 k] 3) : Calls Try.prog 47 #[ov o, ptr0 n] w fun e w' => e = .returned (.bool (o.1 == k)) ∧ Mod [] w w' := by
  have c : Hid (∀ w', Mod [] w w' → (Instr.loadAt 3 (.pointer (some ⟨n, 0, none⟩))).run Try.prog w' = .ok (.int .i64 k) w') := Lib.hid fun w' hm => run_load1 (aggF rfl) ((hb.mod hm (by simp)).cell 0)
  (refine enterS ([]) (Sep.start _ []) Try.func47 rfl ?_; simp only [Try.ntmps47, List.size_toArray, List.length_cons, List.length_nil, Nat.reduceAdd, Nat.reduceSub, Array.replicate_succ, Array.replicate_zero, List.push_toArray, List.append_toArray, List.nil_append, List.cons_append])
  (repeat' (first | ((with_reducible refine isOps ?_); first | (refine seqS_nil ?_; (try simp only [thenS, blockS])) | ((with_reducible refine isBox ?_); first | (refine aBox (fun n_ l_ hl_ => ?_); dsimp only [sS, sZ] at hl_; subst hl_)) | refine aVh (opv_bin rfl rfl (fun w_ hs_ => by (exact c.out _ hs_.mod))) ?_ | refine aV ?_ | refine aVh (opv_loadO rfl (fun w_ hs_ => by (exact c.out _ hs_.mod))) ?_) | ((with_reducible refine isWp ?_); first | (refine wpS_seq (fun K_ hK_ => ?_)) | (refine wpS_region ?_) | (refine wpS_cond rfl (fun h_ => ?_) (fun h_ => ?_) <;> (try (simp only [beq_iff_eq, bne_iff_ne, beq_eq_false_iff_ne, bne_eq_false_iff_eq, ne_eq, decide_eq_true_eq, decide_eq_false_iff_not, Bool.and_eq_true, Bool.or_eq_true, Bool.and_eq_false_iff, Bool.or_eq_false_iff, Bool.false_eq_true, Bool.true_eq_false, reduceCtorEq] at h_)) <;> (try (first | (with_reducible contradiction) | (exfalso; omega)))) | (refine wpS_block ?_) | (refine wpS_ret ?_; (try simp only [thenS, blockS])) | (refine wpS_exit ?_; simp only [thenS, blockS, ↓reduceIte, Nat.reduceEqDiff]) | (refine wpS_skip ?_; (try simp only [thenS, blockS]))) | (refine useK (by with_reducible assumption) ?_)))
  (first | refine r1_ Try.results47 (fun w_ hs_ => ?_) | refine r2_ Try.results47 (fun w_ hs_ => ?_) | refine r3_ Try.results47 (fun w_ hs_ => ?_) | refine retS0 Try.results47 (fun w_ hs_ => ?_) | refine retN0 Try.results47 (fun w_ hs_ => ?_))
  exact ⟨rfl, hs_.mod⟩
def countOf (k : Int) (l : List Opt) : Nat := (l.filter (fun o => o.1 == k)).length
theorem countOf_snoc (k : Int) (l : List Opt) (i : Nat) (h : i < l.length) : countOf k (l.take (i + 1)) = countOf k (l.take i) + (if l[i].1 == k then 1 else 0) := by
  unfold countOf
  rw [List.take_succ_eq_append_getElem h, List.filter_append, List.length_append]
  congr 1
  by_cases h1 : (l[i].1 == k) = true
  · rw [if_pos h1]; simp [List.filter, h1]
  · rw [if_neg h1]; simp [List.filter, h1]
theorem countOf_le (k : Int) (l : List Opt) : countOf k l ≤ l.length := List.length_filter_le _ _
set_option maxHeartbeats 4000000 in
theorem Find_any (v : Value) (l : List Opt) (k : Int) (w : World) (hr : Structs enOpt 2 w v l) : Calls Try.prog 20 #[v, .int .i64 k] w fun e w' => e = .returned (.tuple #[.int .i64 (idxOf (fun o : Opt => o.1 == k) l), .int .i64 (countOf k l)]) ∧ Mod [] w w' := by
  have hll := hr.len
  obtain ⟨A, cap, rfl⟩ := hr.form
  (refine enterS ([]) (Sep.start _ []) Try.func20 rfl ?_; simp only [Try.ntmps20, List.size_toArray, List.length_cons, List.length_nil, Nat.reduceAdd, Nat.reduceSub, Array.replicate_succ, Array.replicate_zero, List.push_toArray, List.append_toArray, List.nil_append, List.cons_append])
  (repeat' (first | ((with_reducible refine isOps ?_); first | (refine seqS_nil ?_; (try simp only [thenS, blockS])) | ((with_reducible refine isStore ?_); first | refine aSt ?_) | ((with_reducible refine isBox ?_); first | (refine aBox (fun n_ l_ hl_ => ?_); dsimp only [sS, sZ] at hl_; subst hl_)) | ((with_reducible refine isAlloc ?_); first | (refine aAl (fun n_ l_ hl_ => ?_); dsimp only [sS, sZ] at hl_; subst hl_)) | refine aV ?_) | ((with_reducible refine isWp ?_); first | (refine wpS_seq (fun K_ hK_ => ?_)) | (refine wpS_region ?_) | (refine wpS_cond rfl (fun h_ => ?_) (fun h_ => ?_) <;> (try (simp only [beq_iff_eq, bne_iff_ne, beq_eq_false_iff_ne, bne_eq_false_iff_eq, ne_eq, decide_eq_true_eq, decide_eq_false_iff_not, Bool.and_eq_true, Bool.or_eq_true, Bool.and_eq_false_iff, Bool.or_eq_false_iff, Bool.false_eq_true, Bool.true_eq_false, reduceCtorEq] at h_)) <;> (try (first | (with_reducible contradiction) | (exfalso; omega)))) | (refine wpS_block ?_) | (refine wpS_ret ?_; (try simp only [thenS, blockS])) | (refine wpS_exit ?_; simp only [thenS, blockS, ↓reduceIte, Nat.reduceEqDiff]) | (refine wpS_skip ?_; (try simp only [thenS, blockS]))) | (refine useK (by with_reducible assumption) ?_)))
  revert n_; intro q
  ((with_reducible refine isLoop ?_); refine wpS_loopU [false, false, false, false, false, false, false, true, false, true, false, false, false, true, true, true, true, true, true, true, true, true, true, false, false, false, false] (fun u rs_ => ∃ i : Nat, i ≤ l.length ∧ u 13 = .int .i64 i ∧ u 7 = .int .i64 (countOf k (l.take i)) ∧ rs_ = [blk q [.int .i64 k] 3]) (fun u => l.length - (intOf (u 13)).toNat) ?_ (fun u rs_ l_ K_ hN_ hl_ hR => ?_))
  · exact ⟨0, Nat.zero_le _, rfl, rfl, rfl⟩
  · (simp only [mask_t, mask_f, mask_n, Nat.reduceAdd] at hl_; subst hl_)
    obtain ⟨i, hi, hu, hu7, rfl⟩ := hR
    rw [hu, hu7]
    have hcl := countOf_le k (l.take i)
    rw [List.length_take] at hcl
    by_cases hlt : i < l.length
    · obtain ⟨b, off, rfl, HC, -, -⟩ := opt_at hr i hlt
      have hsn := Lib.hid (countOf_snoc k l i hlt)
      (repeat' (first | ((with_reducible refine isOps ?_); first | (refine seqS_nil ?_; (try simp only [thenS, blockS])) | ((first | ((with_reducible refine isCallF ?_); refine aCF ?_) | ((with_reducible refine isCallV ?_); refine aCV ?_)); first | refine cS0 (fun w_ hs_ => is_any l[i] k q _ (Sep.getBlk hs_ (by first | ((repeat (first | exact .head _ | apply List.Mem.tail)); done) | fail))) ?_) | ((with_reducible refine isStore ?_); first | refine aSt ?_) | ((with_reducible refine isBox ?_); first | (refine aBox (fun n_ l_ hl_ => ?_); dsimp only [sS, sZ] at hl_; subst hl_)) | ((with_reducible refine isAlloc ?_); first | (refine aAl (fun n_ l_ hl_ => ?_); dsimp only [sS, sZ] at hl_; subst hl_)) | refine aVh (opv_bin rfl rfl (fun w_ hs_ => by (exact HC.out _ hs_.mod))) ?_ | refine aV ?_ | refine aVh (opv_loadO rfl (fun w_ hs_ => by (exact HC.out _ hs_.mod))) ?_) | ((with_reducible refine isWp ?_); first | (refine wpS_seq (fun K_ hK_ => ?_)) | (refine wpS_region ?_) | (refine wpS_cond rfl (fun h_ => ?_) (fun h_ => ?_) <;> (try (simp only [beq_iff_eq, bne_iff_ne, beq_eq_false_iff_ne, bne_eq_false_iff_eq, ne_eq, decide_eq_true_eq, decide_eq_false_iff_not, Bool.and_eq_true, Bool.or_eq_true, Bool.and_eq_false_iff, Bool.or_eq_false_iff, Bool.false_eq_true, Bool.true_eq_false, reduceCtorEq] at h_)) <;> (try (first | (with_reducible contradiction) | (exfalso; omega)))) | (refine wpS_block ?_) | (refine wpS_ret ?_; (try simp only [thenS, blockS])) | (refine wpS_exit ?_; simp only [thenS, blockS, ↓reduceIte, Nat.reduceEqDiff]) | (refine wpS_skip ?_; (try simp only [thenS, blockS]))) | (refine useK (by with_reducible assumption) ?_)))
      all_goals
        (refine hN_ _ ([blk q _ _]) _ rfl ?_ (by first | ((repeat (first | exact List.Sublist.refl _ | exact List.nil_sublist _ | apply List.Sublist.cons_cons | apply List.Sublist.cons)); done) | fail) ?_ <;> dsimp only [List.getD_cons_succ, List.getD_cons_zero])
        · refine ⟨i + 1, by omega, by go_num, ?_, rfl⟩
          rw [hsn.out]
          first
            | (rw [if_pos (by simpa using h_)]; go_num)
            | (rw [if_neg (by simpa using h_)]; rfl)
        · rw [hu]; simp [intOf]; omega
    · have hx := Lib.hid (show l.take i = l from List.take_of_length_le (by omega))
      (repeat' (first | ((with_reducible refine isOps ?_); first | (refine seqS_nil ?_; (try simp only [thenS, blockS])) | ((first | ((with_reducible refine isCallF ?_); refine aCF ?_) | ((with_reducible refine isCallV ?_); refine aCV ?_)); first | refine cS0 (fun w_ hs_ => IndexFunc_any (fun o : Opt => o.1 == k) 47 [ptr0 q] rfl _ l _ (hr.mod0 hs_.mod) (fun o w' hm => is_any o k q w' ((Sep.getBlk hs_ (by first | ((repeat (first | exact .head _ | apply List.Mem.tail)); done) | fail)).mod hm (by simp)))) ?_) | ((with_reducible refine isStore ?_); first | refine aSt ?_) | ((with_reducible refine isBox ?_); first | (refine aBox (fun n_ l_ hl_ => ?_); dsimp only [sS, sZ] at hl_; subst hl_)) | ((with_reducible refine isAlloc ?_); first | (refine aAl (fun n_ l_ hl_ => ?_); dsimp only [sS, sZ] at hl_; subst hl_)) | refine aV ?_) | ((with_reducible refine isWp ?_); first | (refine wpS_seq (fun K_ hK_ => ?_)) | (refine wpS_region ?_) | (refine wpS_cond rfl (fun h_ => ?_) (fun h_ => ?_) <;> (try (simp only [beq_iff_eq, bne_iff_ne, beq_eq_false_iff_ne, bne_eq_false_iff_eq, ne_eq, decide_eq_true_eq, decide_eq_false_iff_not, Bool.and_eq_true, Bool.or_eq_true, Bool.and_eq_false_iff, Bool.or_eq_false_iff, Bool.false_eq_true, Bool.true_eq_false, reduceCtorEq] at h_)) <;> (try (first | (with_reducible contradiction) | (exfalso; omega)))) | (refine wpS_block ?_) | (refine wpS_ret ?_; (try simp only [thenS, blockS])) | (refine wpS_exit ?_; simp only [thenS, blockS, ↓reduceIte, Nat.reduceEqDiff]) | (refine wpS_skip ?_; (try simp only [thenS, blockS]))) | (refine useK (by with_reducible assumption) ?_)))
      (first | refine r1_ Try.results20 (fun w_ hs_ => ?_) | refine r2_ Try.results20 (fun w_ hs_ => ?_) | refine r3_ Try.results20 (fun w_ hs_ => ?_) | refine retS0 Try.results20 (fun w_ hs_ => ?_) | refine retN0 Try.results20 (fun w_ hs_ => ?_))
      exact ⟨by rw [hx.out], hs_.mod⟩
end Go.Proofs.Ytdichoibidccoaa
