/- Package option: which kinds are left out. -/
import Derived.Test.YtdichoibidccoaaOpt9
set_option linter.unusedVariables false
set_option linter.unusedSimpArgs false
namespace Go.Proofs.Ytdichoibidccoaa
set_option maxRecDepth 8000
attribute [local irreducible] blk wpS seqS ordS OpVal RV endS LoadV StoreV Calls
open Go.RowKit
set_option maxHeartbeats 1000000 in
/-- Two kinds, one behind the other. -/
theorem Index2_any (a b x : Int) (n : Nat) (w : World) (hb : Blk w n [.int .i64 a, .int .i64 b] 3) :
    Calls Try.prog 81 #[.slice (some ⟨n, 0, none⟩) 2 2, .int .i64 x] w fun e w' => e = .returned (.int .i64 (if x == a then 0 else if x == b then 1 else -1)) ∧ Mod [] w w' := by
  have c0 : Hid (∀ w', Mod [] w w' → (Instr.loadAt 3 (.pointer (some ⟨n, 0, none⟩))).run Try.prog w' = .ok (.int .i64 a) w') := Lib.hid fun w' hm => run_load1 (aggF rfl) ((hb.mod hm (by simp)).cell 0)
  have c1 : Hid (∀ w', Mod [] w w' → (Instr.loadAt 3 (.pointer (some ⟨n, 1, none⟩))).run Try.prog w' = .ok (.int .i64 b) w') := Lib.hid fun w' hm => run_load1 (aggF rfl) ((hb.mod hm (by simp)).cell 1)
  (refine enterS ([]) (Sep.start _ []) Try.func81 rfl ?_; simp only [Try.ntmps81, List.size_toArray, List.length_cons, List.length_nil, Nat.reduceAdd, Nat.reduceSub, Array.replicate_succ, Array.replicate_zero, List.push_toArray, List.append_toArray, List.nil_append, List.cons_append])
  (repeat' (first | ((with_reducible refine isOps ?_); first | (refine seqS_nil ?_; (try simp only [thenS, blockS])) | refine aV ?_) | ((with_reducible refine isWp ?_); first | (refine wpS_seq (fun K_ hK_ => ?_)) | (refine wpS_region ?_) | (refine wpS_cond rfl (fun h_ => ?_) (fun h_ => ?_) <;> (try (simp only [beq_iff_eq, bne_iff_ne, beq_eq_false_iff_ne, bne_eq_false_iff_eq, ne_eq, decide_eq_true_eq, decide_eq_false_iff_not, Bool.and_eq_true, Bool.or_eq_true, Bool.and_eq_false_iff, Bool.or_eq_false_iff, Bool.false_eq_true, Bool.true_eq_false, reduceCtorEq] at h_)) <;> (try (first | (with_reducible contradiction) | (exfalso; omega)))) | (refine wpS_block ?_) | (refine wpS_ret ?_; (try simp only [thenS, blockS])) | (refine wpS_exit ?_; simp only [thenS, blockS, ↓reduceIte, Nat.reduceEqDiff]) | (refine wpS_skip ?_; (try simp only [thenS, blockS]))) | (refine useK (by with_reducible assumption) ?_)))
  ((with_reducible refine isLoop ?_); refine wpS_loopU [false, false, false, false, true, true, false, false, true, true, true, true, true, true, true, true, true, true, true] (fun u rs_ => ∃ k : Nat, k ≤ 2 ∧ u 8 = .int .i64 k ∧ (0 < k → x ≠ a) ∧ (1 < k → x ≠ b) ∧ rs_ = []) (fun u => 2 - (intOf (u 8)).toNat) ?_ (fun u rs_ l_ K_ hN_ hl_ hR => ?_))
  · exact ⟨0, by omega, rfl, by omega, by omega, rfl⟩
  · (simp only [mask_t, mask_f, mask_n, Nat.reduceAdd] at hl_; subst hl_)
    obtain ⟨k, hk, hu, h0, h1, rfl⟩ := hR
    rw [hu]
    have hk3 : k = 0 ∨ k = 1 ∨ k = 2 := by omega
    rcases hk3 with rfl | rfl | rfl
    · (repeat' (first | ((with_reducible refine isOps ?_); first | (refine seqS_nil ?_; (try simp only [thenS, blockS])) | refine aVh (opv_bin rfl rfl (fun w_ hs_ => by (exact c0.out _ hs_.mod))) ?_ | refine aV ?_ | refine aVh (opv_loadO rfl (fun w_ hs_ => by (exact c0.out _ hs_.mod))) ?_) | ((with_reducible refine isWp ?_); first | (refine wpS_seq (fun K_ hK_ => ?_)) | (refine wpS_region ?_) | (refine wpS_cond rfl (fun h_ => ?_) (fun h_ => ?_) <;> (try (simp only [beq_iff_eq, bne_iff_ne, beq_eq_false_iff_ne, bne_eq_false_iff_eq, ne_eq, decide_eq_true_eq, decide_eq_false_iff_not, Bool.and_eq_true, Bool.or_eq_true, Bool.and_eq_false_iff, Bool.or_eq_false_iff, Bool.false_eq_true, Bool.true_eq_false, reduceCtorEq] at h_)) <;> (try (first | (with_reducible contradiction) | (exfalso; omega)))) | (refine wpS_block ?_) | (refine wpS_ret ?_; (try simp only [thenS, blockS])) | (refine wpS_exit ?_; simp only [thenS, blockS, ↓reduceIte, Nat.reduceEqDiff]) | (refine wpS_skip ?_; (try simp only [thenS, blockS]))) | (refine useK (by with_reducible assumption) ?_)))
      · (first | refine r1_ Try.results81 (fun w_ hs_ => ?_) | refine r2_ Try.results81 (fun w_ hs_ => ?_) | refine r3_ Try.results81 (fun w_ hs_ => ?_) | refine retS0 Try.results81 (fun w_ hs_ => ?_) | refine retN0 Try.results81 (fun w_ hs_ => ?_))
        exact ⟨by rw [if_pos (by simpa using h_)]; rfl, hs_.mod⟩
      · (refine hN_ _ ([]) _ rfl ?_ (by first | ((repeat (first | exact List.Sublist.refl _ | exact List.nil_sublist _ | apply List.Sublist.cons_cons | apply List.Sublist.cons)); done) | fail) ?_ <;> dsimp only [List.getD_cons_succ, List.getD_cons_zero])
        · exact ⟨1, by omega, by go_num, fun _ => by simpa using h_, by omega, rfl⟩
        · rw [hu]; simp [intOf]
    · have h0' := h0 (by omega)
      (repeat' (first | ((with_reducible refine isOps ?_); first | (refine seqS_nil ?_; (try simp only [thenS, blockS])) | refine aVh (opv_bin rfl rfl (fun w_ hs_ => by (exact c1.out _ hs_.mod))) ?_ | refine aV ?_ | refine aVh (opv_loadO rfl (fun w_ hs_ => by (exact c1.out _ hs_.mod))) ?_) | ((with_reducible refine isWp ?_); first | (refine wpS_seq (fun K_ hK_ => ?_)) | (refine wpS_region ?_) | (refine wpS_cond rfl (fun h_ => ?_) (fun h_ => ?_) <;> (try (simp only [beq_iff_eq, bne_iff_ne, beq_eq_false_iff_ne, bne_eq_false_iff_eq, ne_eq, decide_eq_true_eq, decide_eq_false_iff_not, Bool.and_eq_true, Bool.or_eq_true, Bool.and_eq_false_iff, Bool.or_eq_false_iff, Bool.false_eq_true, Bool.true_eq_false, reduceCtorEq] at h_)) <;> (try (first | (with_reducible contradiction) | (exfalso; omega)))) | (refine wpS_block ?_) | (refine wpS_ret ?_; (try simp only [thenS, blockS])) | (refine wpS_exit ?_; simp only [thenS, blockS, ↓reduceIte, Nat.reduceEqDiff]) | (refine wpS_skip ?_; (try simp only [thenS, blockS]))) | (refine useK (by with_reducible assumption) ?_)))
      · (first | refine r1_ Try.results81 (fun w_ hs_ => ?_) | refine r2_ Try.results81 (fun w_ hs_ => ?_) | refine r3_ Try.results81 (fun w_ hs_ => ?_) | refine retS0 Try.results81 (fun w_ hs_ => ?_) | refine retN0 Try.results81 (fun w_ hs_ => ?_))
        exact ⟨by rw [if_neg (by simpa using h0'), if_pos (by simpa using h_)]; rfl, hs_.mod⟩
      · (refine hN_ _ ([]) _ rfl ?_ (by first | ((repeat (first | exact List.Sublist.refl _ | exact List.nil_sublist _ | apply List.Sublist.cons_cons | apply List.Sublist.cons)); done) | fail) ?_ <;> dsimp only [List.getD_cons_succ, List.getD_cons_zero])
        · exact ⟨2, by omega, by go_num, fun _ => h0', fun _ => by simpa using h_, rfl⟩
        · rw [hu]; simp [intOf]
    · have h0' := h0 (by omega)
      have h1' := h1 (by omega)
      (repeat' (first | ((with_reducible refine isOps ?_); first | (refine seqS_nil ?_; (try simp only [thenS, blockS])) | refine aV ?_) | ((with_reducible refine isWp ?_); first | (refine wpS_seq (fun K_ hK_ => ?_)) | (refine wpS_region ?_) | (refine wpS_cond rfl (fun h_ => ?_) (fun h_ => ?_) <;> (try (simp only [beq_iff_eq, bne_iff_ne, beq_eq_false_iff_ne, bne_eq_false_iff_eq, ne_eq, decide_eq_true_eq, decide_eq_false_iff_not, Bool.and_eq_true, Bool.or_eq_true, Bool.and_eq_false_iff, Bool.or_eq_false_iff, Bool.false_eq_true, Bool.true_eq_false, reduceCtorEq] at h_)) <;> (try (first | (with_reducible contradiction) | (exfalso; omega)))) | (refine wpS_block ?_) | (refine wpS_ret ?_; (try simp only [thenS, blockS])) | (refine wpS_exit ?_; simp only [thenS, blockS, ↓reduceIte, Nat.reduceEqDiff]) | (refine wpS_skip ?_; (try simp only [thenS, blockS]))) | (refine useK (by with_reducible assumption) ?_)))
      (first | refine r1_ Try.results81 (fun w_ hs_ => ?_) | refine r2_ Try.results81 (fun w_ hs_ => ?_) | refine r3_ Try.results81 (fun w_ hs_ => ?_) | refine retS0 Try.results81 (fun w_ hs_ => ?_) | refine retN0 Try.results81 (fun w_ hs_ => ?_))
      exact ⟨by rw [if_neg (by simpa using h0'), if_neg (by simpa using h1')], hs_.mod⟩
set_option maxHeartbeats 1000000 in
theorem Contains2_any (a b x : Int) (n : Nat) (w : World) (hb : Blk w n [.int .i64 a, .int .i64 b] 3) :
    Calls Try.prog 52 #[.slice (some ⟨n, 0, none⟩) 2 2, .int .i64 x] w fun e w' => e = .returned (.bool (x == a || x == b)) ∧ Mod [] w w' := by
  obtain ⟨i, hi⟩ : ∃ i : Int, i = (if x == a then (0 : Int) else if x == b then 1 else -1) := ⟨_, rfl⟩
  have hx : decide (0 ≤ i) = (x == a || x == b) := by
    rw [hi]
    by_cases h0 : x = a <;> by_cases h1 : x = b <;> simp [h0, h1] <;> simp_all
  have hI : Hid (∀ w', Mod [] w w' → Calls Try.prog 81 #[.slice (some ⟨n, 0, none⟩) 2 2, .int .i64 x] w' fun e w'' => e = .returned (.int .i64 i) ∧ Mod [] w' w'') := Lib.hid fun w' hm => by
    rw [hi]; exact Index2_any a b x n _ (hb.mod hm (by simp))
  clear hi
  (refine enterS ([]) (Sep.start _ []) Try.func52 rfl ?_; simp only [Try.ntmps52, List.size_toArray, List.length_cons, List.length_nil, Nat.reduceAdd, Nat.reduceSub, Array.replicate_succ, Array.replicate_zero, List.push_toArray, List.append_toArray, List.nil_append, List.cons_append])
  (repeat' (first | ((with_reducible refine isOps ?_); first | (refine seqS_nil ?_; (try simp only [thenS, blockS])) | ((first | ((with_reducible refine isCallF ?_); refine aCF ?_) | ((with_reducible refine isCallV ?_); refine aCV ?_)); first | refine cS0 (fun w_ hs_ => hI.out _ hs_.mod) ?_) | refine aV ?_) | ((with_reducible refine isWp ?_); first | (refine wpS_seq (fun K_ hK_ => ?_)) | (refine wpS_region ?_) | (refine wpS_cond rfl (fun h_ => ?_) (fun h_ => ?_) <;> (try (simp only [beq_iff_eq, bne_iff_ne, beq_eq_false_iff_ne, bne_eq_false_iff_eq, ne_eq, decide_eq_true_eq, decide_eq_false_iff_not, Bool.and_eq_true, Bool.or_eq_true, Bool.and_eq_false_iff, Bool.or_eq_false_iff, Bool.false_eq_true, Bool.true_eq_false, reduceCtorEq] at h_)) <;> (try (first | (with_reducible contradiction) | (exfalso; omega)))) | (refine wpS_block ?_) | (refine wpS_ret ?_; (try simp only [thenS, blockS])) | (refine wpS_exit ?_; simp only [thenS, blockS, ↓reduceIte, Nat.reduceEqDiff]) | (refine wpS_skip ?_; (try simp only [thenS, blockS]))) | (refine useK (by with_reducible assumption) ?_)))
  (first | refine r1_ Try.results52 (fun w_ hs_ => ?_) | refine r2_ Try.results52 (fun w_ hs_ => ?_) | refine r3_ Try.results52 (fun w_ hs_ => ?_) | refine retS0 Try.results52 (fun w_ hs_ => ?_) | refine retN0 Try.results52 (fun w_ hs_ => ?_))
  exact ⟨by rw [← hx], hs_.mod⟩
set_option maxHeartbeats 1000000 in
theorem out_any (o : Opt) (a b : Int) (n m : Nat) (w : World) (hb : Blk w n [.int .i64 a, .int .i64 b] 3) (hc : Blk w m [.slice (some ⟨n, 0, none⟩) 2 2] 74) :
    Calls Try.prog 51 #[ov o, ptr0 m] w fun e w' => e = .returned (.bool (o.1 == a || o.1 == b)) ∧ Mod [] w w' := by
  have c : Hid (∀ w', Mod [] w w' → (Instr.loadAt 74 (.pointer (some ⟨m, 0, none⟩))).run Try.prog w' = .ok (.slice (some ⟨n, 0, none⟩) 2 2) w') := Lib.hid fun w' hm => run_load1 (aggF rfl) ((hc.mod hm (by simp)).cell 0)
  (refine enterS ([]) (Sep.start _ []) Try.func51 rfl ?_; simp only [Try.ntmps51, List.size_toArray, List.length_cons, List.length_nil, Nat.reduceAdd, Nat.reduceSub, Array.replicate_succ, Array.replicate_zero, List.push_toArray, List.append_toArray, List.nil_append, List.cons_append])
  (repeat' (first | ((with_reducible refine isOps ?_); first | (refine seqS_nil ?_; (try simp only [thenS, blockS])) | ((first | ((with_reducible refine isCallF ?_); refine aCF ?_) | ((with_reducible refine isCallV ?_); refine aCV ?_)); first | refine cS0 (fun w_ hs_ => Contains2_any a b o.1 n _ (hb.mod hs_.mod (by simp))) ?_) | ((with_reducible refine isBox ?_); first | (refine aBox (fun n_ l_ hl_ => ?_); dsimp only [sS, sZ] at hl_; subst hl_)) | refine aV ?_ | refine aVh (opv_loadO rfl (fun w_ hs_ => by (exact c.out _ hs_.mod))) ?_) | ((with_reducible refine isWp ?_); first | (refine wpS_seq (fun K_ hK_ => ?_)) | (refine wpS_region ?_) | (refine wpS_cond rfl (fun h_ => ?_) (fun h_ => ?_) <;> (try (simp only [beq_iff_eq, bne_iff_ne, beq_eq_false_iff_ne, bne_eq_false_iff_eq, ne_eq, decide_eq_true_eq, decide_eq_false_iff_not, Bool.and_eq_true, Bool.or_eq_true, Bool.and_eq_false_iff, Bool.or_eq_false_iff, Bool.false_eq_true, Bool.true_eq_false, reduceCtorEq] at h_)) <;> (try (first | (with_reducible contradiction) | (exfalso; omega)))) | (refine wpS_block ?_) | (refine wpS_ret ?_; (try simp only [thenS, blockS])) | (refine wpS_exit ?_; simp only [thenS, blockS, ↓reduceIte, Nat.reduceEqDiff]) | (refine wpS_skip ?_; (try simp only [thenS, blockS]))) | (refine useK (by with_reducible assumption) ?_)))
  (first | refine r1_ Try.results51 (fun w_ hs_ => ?_) | refine r2_ Try.results51 (fun w_ hs_ => ?_) | refine r3_ Try.results51 (fun w_ hs_ => ?_) | refine retS0 Try.results51 (fun w_ hs_ => ?_) | refine retN0 Try.results51 (fun w_ hs_ => ?_))
  exact ⟨rfl, hs_.mod⟩
end Go.Proofs.Ytdichoibidccoaa
