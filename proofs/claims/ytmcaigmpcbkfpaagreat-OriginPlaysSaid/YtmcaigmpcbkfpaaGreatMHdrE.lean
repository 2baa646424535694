/- Package header: which packets are right, how many bytes they have, their flags. -/
import Derived.Test.YtmcaigmpcbkfpaaGreatMHdr6
set_option linter.unusedVariables false
set_option linter.unusedSimpArgs false
namespace Go.Proofs.YtmcaigmpcbkfpaaGreat
set_option maxRecDepth 8000
attribute [local irreducible] blk wpS seqS ordS OpVal RV endS LoadV StoreV Calls
open Go.RowKit
set_option maxHeartbeats 1000000 in
theorem bounds_any (p : Pkt) (v : Value) (w : World) : Calls Tryz.prog 94 #[pv p v] w fun e w' => e = .returned (.agg #[.int .i64 p.tos, .int .i64 255, .int .i64 p.ttl, .int .i64 255, .int .i64 p.proto, .int .i64 255, .int .i64 p.id, .int .i64 65535, .int .i64 p.off, .int .i64 65528]) ∧ Mod [] w w' := by
  (refine enterS ([]) (Sep.start _ []) Tryz.func94 rfl ?_; simp only [Tryz.ntmps94, List.size_toArray, List.length_cons, List.length_nil, Nat.reduceAdd, Nat.reduceSub, Array.replicate_succ, Array.replicate_zero, List.push_toArray, List.append_toArray, List.nil_append, List.cons_append])
  (repeat' (first | ((with_reducible refine isOps ?_); first | (refine seqS_nil ?_; (try simp only [thenS, blockS])) | ((with_reducible refine isStore ?_); first | refine aSt ?_) | ((with_reducible refine isBox ?_); first | (refine aBox (fun n_ l_ hl_ => ?_); dsimp only [sS, sZ] at hl_; subst hl_)) | ((with_reducible refine isAlloc ?_); first | (refine aAl (fun n_ l_ hl_ => ?_); dsimp only [sS, sZ] at hl_; subst hl_)) | refine aV ?_) | ((with_reducible refine isWp ?_); first | (refine wpS_seq (fun K_ hK_ => ?_)) | (refine wpS_region ?_) | (refine wpS_cond rfl (fun h_ => ?_) (fun h_ => ?_) <;> (try (simp only [beq_iff_eq, bne_iff_ne, beq_eq_false_iff_ne, bne_eq_false_iff_eq, ne_eq, decide_eq_true_eq, decide_eq_false_iff_not, Bool.and_eq_true, Bool.or_eq_true, Bool.and_eq_false_iff, Bool.or_eq_false_iff, Bool.false_eq_true, Bool.true_eq_false, reduceCtorEq] at h_)) <;> (try (first | (with_reducible contradiction) | (exfalso; omega)))) | (refine wpS_block ?_) | (refine wpS_ret ?_; (try simp only [thenS, blockS])) | (refine wpS_exit ?_; simp only [thenS, blockS, ↓reduceIte, Nat.reduceEqDiff]) | (refine wpS_skip ?_; (try simp only [thenS, blockS]))) | (refine useK (by with_reducible assumption) ?_)))
  (first | refine r1_ Tryz.results94 (fun w_ hs_ => ?_) | refine r2_ Tryz.results94 (fun w_ hs_ => ?_) | refine r3_ Tryz.results94 (fun w_ hs_ => ?_) | refine retS0 Tryz.results94 (fun w_ hs_ => ?_) | refine retN0 Tryz.results94 (fun w_ hs_ => ?_))
  exact ⟨rfl, hs_.mod⟩
def pkSize (p : Pkt) : Int := 20 + allSize p.opts + (p.data.size : Int)
theorem allSize_small (l : List Opt) (hg : great l = false) : 0 ≤ allSize l ∧ allSize l ≤ 7000 := by
  obtain ⟨h60, h100⟩ := great_not hg
  have := rawSize_rng l l.length (Nat.le_refl _) h100
  rw [List.take_length] at this
  unfold allSize; omega
set_option maxHeartbeats 1000000 in
theorem pkSize_any (p : Pkt) (v : Value) (w : World) (hr : Structs enOpt 2 w v p.opts) (hg : great p.opts = false) (hd : p.data.size ≤ 1000000) :
    Calls Tryz.prog 90 #[pv p v] w fun e w' => e = .returned (.int .i64 (pkSize p)) ∧ Mod [] w w' := by
  have hS : Hid (∀ w', Mod [] w w' → Calls Tryz.prog 124 #[v] w' fun e w'' => e = .returned (.int .i64 (allSize p.opts)) ∧ Mod [] w' w'') := Lib.hid fun w' hm => Size_any v p.opts w' (hr.mod0 hm) hg
  have hz := allSize_small p.opts hg
  unfold pkSize
  generalize allSize p.opts = z at hS hz ⊢
  (refine enterS ([]) (Sep.start _ []) Tryz.func90 rfl ?_; simp only [Tryz.ntmps90, List.size_toArray, List.length_cons, List.length_nil, Nat.reduceAdd, Nat.reduceSub, Array.replicate_succ, Array.replicate_zero, List.push_toArray, List.append_toArray, List.nil_append, List.cons_append])
  (repeat' (first | ((with_reducible refine isOps ?_); first | (refine seqS_nil ?_; (try simp only [thenS, blockS])) | ((first | ((with_reducible refine isCallF ?_); refine aCF ?_) | ((with_reducible refine isCallV ?_); refine aCV ?_)); first | refine cS0 (fun w_ hs_ => hS.out _ hs_.mod) ?_) | ((with_reducible refine isBox ?_); first | (refine aBox (fun n_ l_ hl_ => ?_); dsimp only [sS, sZ] at hl_; subst hl_)) | refine aV ?_) | ((with_reducible refine isOrd ?_); first | (refine ordS_nil ?_; (try simp only [thenS, blockS, blks, List.map_cons, List.map_nil, List.cons_append, List.nil_append])) | refine oV ?_ | (refine oC ?_; first | refine cD0 (fun w_ hs_ hg_ => hS.out _ hs_.mod) ?_) | (refine oBox (fun n_ l_ hl_ => ?_); dsimp only [sS, sZ] at hl_; subst hl_) | refine oLd ?_) | ((with_reducible refine isWp ?_); first | (refine wpS_seq (fun K_ hK_ => ?_)) | (refine wpS_region ?_) | (refine wpS_cond rfl (fun h_ => ?_) (fun h_ => ?_) <;> (try (simp only [beq_iff_eq, bne_iff_ne, beq_eq_false_iff_ne, bne_eq_false_iff_eq, ne_eq, decide_eq_true_eq, decide_eq_false_iff_not, Bool.and_eq_true, Bool.or_eq_true, Bool.and_eq_false_iff, Bool.or_eq_false_iff, Bool.false_eq_true, Bool.true_eq_false, reduceCtorEq] at h_)) <;> (try (first | (with_reducible contradiction) | (exfalso; omega)))) | (refine wpS_block ?_) | (refine wpS_ret ?_; (try simp only [thenS, blockS])) | (refine wpS_exit ?_; simp only [thenS, blockS, ↓reduceIte, Nat.reduceEqDiff]) | (refine wpS_skip ?_; (try simp only [thenS, blockS]))) | ((with_reducible refine isDraw ?_); refine wpS_drawT (by simp only [List.length_cons, List.length_nil, Nat.zero_add, Nat.reduceAdd, List.range'_succ, List.range'_zero]; rfl) (by kernel_rfl) (by kernel_rfl) (fun B_ hB_ hf_ => ?_)) | (refine useK (by with_reducible assumption) ?_)))
  (first | refine r1_ Tryz.results90 (fun w_ hs_ => ?_) | refine r2_ Tryz.results90 (fun w_ hs_ => ?_) | refine r3_ Tryz.results90 (fun w_ hs_ => ?_) | refine retS0 Tryz.results90 (fun w_ hs_ => ?_) | refine retN0 Tryz.results90 (fun w_ hs_ => ?_))
  exact ⟨rfl, hs_.mod⟩
set_option maxHeartbeats 1000000 in
theorem whole_any (p : Pkt) (v : Value) (w : World) : Calls Tryz.prog 48 #[pv p v] w fun e w' => e = .returned (.bool (p.off == 0 && !p.mf)) ∧ Mod [] w w' := by
  (refine enterS ([]) (Sep.start _ []) Tryz.func48 rfl ?_; simp only [Tryz.ntmps48, List.size_toArray, List.length_cons, List.length_nil, Nat.reduceAdd, Nat.reduceSub, Array.replicate_succ, Array.replicate_zero, List.push_toArray, List.append_toArray, List.nil_append, List.cons_append])
  (repeat' (first | ((with_reducible refine isOps ?_); first | (refine seqS_nil ?_; (try simp only [thenS, blockS])) | ((with_reducible refine isBox ?_); first | (refine aBox (fun n_ l_ hl_ => ?_); dsimp only [sS, sZ] at hl_; subst hl_)) | refine aV ?_ | refine aNo ?_ | refine aNo' ?_ | ((fail_if_success (refine aIsT ?_)); (fail_if_success (refine aIsF ?_)); refine seqS_guard rfl rfl rfl (fun l_ hl_ h_ => ?_) (fun l_ hl_ h_ => ?_) <;> (dsimp only [sS, sZ] at hl_; subst hl_; (try (simp only [beq_iff_eq, bne_iff_ne, beq_eq_false_iff_ne, bne_eq_false_iff_eq, ne_eq, decide_eq_true_eq, decide_eq_false_iff_not, Bool.and_eq_true, Bool.or_eq_true, Bool.and_eq_false_iff, Bool.or_eq_false_iff, Bool.not_eq_true', Bool.not_eq_false', Bool.false_eq_true, Bool.true_eq_false, reduceCtorEq] at h_)); (try (first | (with_reducible contradiction) | (exfalso; omega)))))) | ((with_reducible refine isWp ?_); first | (refine wpS_seq (fun K_ hK_ => ?_)) | (refine wpS_region ?_) | (refine wpS_cond rfl (fun h_ => ?_) (fun h_ => ?_) <;> (try (simp only [beq_iff_eq, bne_iff_ne, beq_eq_false_iff_ne, bne_eq_false_iff_eq, ne_eq, decide_eq_true_eq, decide_eq_false_iff_not, Bool.and_eq_true, Bool.or_eq_true, Bool.and_eq_false_iff, Bool.or_eq_false_iff, Bool.false_eq_true, Bool.true_eq_false, reduceCtorEq] at h_)) <;> (try (first | (with_reducible contradiction) | (exfalso; omega)))) | (refine wpS_block ?_) | (refine wpS_ret ?_; (try simp only [thenS, blockS])) | (refine wpS_exit ?_; simp only [thenS, blockS, ↓reduceIte, Nat.reduceEqDiff]) | (refine wpS_skip ?_; (try simp only [thenS, blockS]))) | (refine useK (by with_reducible assumption) ?_)))
  all_goals
    (first | refine r1_ Tryz.results48 (fun w_ hs_ => ?_) | refine r2_ Tryz.results48 (fun w_ hs_ => ?_) | refine r3_ Tryz.results48 (fun w_ hs_ => ?_) | refine retS0 Tryz.results48 (fun w_ hs_ => ?_) | refine retN0 Tryz.results48 (fun w_ hs_ => ?_))
    exact ⟨by simp [*], hs_.mod⟩
end Go.Proofs.YtmcaigmpcbkfpaaGreat
namespace Go.Proofs.YtmcaigmpcbkfpaaGreat
set_option maxRecDepth 8000
attribute [local irreducible] blk wpS seqS ordS OpVal RV endS LoadV StoreV Calls
open Go.RowKit
set_option maxHeartbeats 4000000 in
theorem hRight_any (p : Pkt) (v : Value) (w : World) (hr : Structs enOpt 2 w v p.opts) (hg : great p.opts = false) (hd : p.data.size ≤ 1000000) :
    Calls Tryz.prog 47 #[pv p v] w fun e w' => e = .returned (.bool (pkRight p)) ∧ Mod [] w w' := by
  have hE : Hid (∀ w', Mod [] w w' → Calls Tryz.prog 89 #[v] w' fun e w'' => e = .returned (.tuple #[.string (encOf p.opts).1, .int .i64 (encOf p.opts).2]) ∧ Mod [] w' w'') := Lib.hid fun w' hm => Encode_any v p.opts w' (hr.mod0 hm) hg
  have hS : Hid (∀ w', Mod [] w w' → Calls Tryz.prog 90 #[pv p v] w' fun e w'' => e = .returned (.int .i64 (pkSize p)) ∧ Mod [] w' w'') := Lib.hid fun w' hm => pkSize_any p v w' (hr.mod0 hm) hg hd
  have hB := Lib.hid (fun w' => bounds_any p v w')
  have hx := Lib.hid (encOf_ok p.opts)
  have hF := Lib.hid (pkRight_iff (p := p))
  have hz : Hid (pkSize p = 20 + allSize p.opts + (p.data.size : Int)) := Lib.hid rfl
  generalize pkSize p = z at hS hz
  generalize (encOf p.opts).1 = y at hE
  generalize (encOf p.opts).2 = x at hE hx
  generalize pkRight p = R at hF ⊢
  (refine enterS ([]) (Sep.start _ []) Tryz.func47 rfl ?_; simp only [Tryz.ntmps47, List.size_toArray, List.length_cons, List.length_nil, Nat.reduceAdd, Nat.reduceSub, Array.replicate_succ, Array.replicate_zero, List.push_toArray, List.append_toArray, List.nil_append, List.cons_append])
  (repeat' (first | ((with_reducible refine isOps ?_); first | (refine seqS_nil ?_; (try simp only [thenS, blockS])) | ((with_reducible refine isIndex ?_); refine seqS_v (by first | exact want_none rfl | (refine want_t rfl rfl rfl ?_; with_reducible rfl) | (refine want_f rfl rfl rfl ?_; with_reducible rfl)) rfl (opv_idxN Tryz.underlying143 rfl rfl rfl rfl (by decide) (by (try simp only [Int.reduceToNat, Nat.reduceMul, Nat.zero_mul, List.drop_succ_cons, List.drop_zero, List.take_succ_cons, List.take_zero]); rfl)) (by dsimp only [List.set_cons_succ, List.set_cons_zero]) ?_) | ((first | ((with_reducible refine isCallF ?_); refine aCF ?_) | ((with_reducible refine isCallV ?_); refine aCV ?_)); first | refine cS0 (fun w_ hs_ => hB.out _) ?_ | refine cS0 (fun w_ hs_ => hE.out _ hs_.mod) ?_ | refine cS0 (fun w_ hs_ => hS.out _ hs_.mod) ?_) | ((with_reducible refine isStore ?_); first | refine aSt ?_) | ((with_reducible refine isBox ?_); first | (refine aBox (fun n_ l_ hl_ => ?_); dsimp only [sS, sZ] at hl_; subst hl_)) | ((with_reducible refine isAlloc ?_); first | (refine aAl (fun n_ l_ hl_ => ?_); dsimp only [sS, sZ] at hl_; subst hl_)) | refine aV ?_ | refine aNo ?_ | refine aNo' ?_ | ((fail_if_success (refine aIsT ?_)); (fail_if_success (refine aIsF ?_)); refine seqS_guard rfl rfl rfl (fun l_ hl_ h_ => ?_) (fun l_ hl_ h_ => ?_) <;> (dsimp only [sS, sZ] at hl_; subst hl_; (try (simp only [beq_iff_eq, bne_iff_ne, beq_eq_false_iff_ne, bne_eq_false_iff_eq, ne_eq, decide_eq_true_eq, decide_eq_false_iff_not, Bool.and_eq_true, Bool.or_eq_true, Bool.and_eq_false_iff, Bool.or_eq_false_iff, Bool.not_eq_true', Bool.not_eq_false', Bool.false_eq_true, Bool.true_eq_false, reduceCtorEq] at h_)); (try (first | (with_reducible contradiction) | (exfalso; omega)))))) | ((with_reducible refine isWp ?_); first | (refine wpS_seq (fun K_ hK_ => ?_)) | (refine wpS_region ?_) | (refine wpS_cond rfl (fun h_ => ?_) (fun h_ => ?_) <;> (try (simp only [beq_iff_eq, bne_iff_ne, beq_eq_false_iff_ne, bne_eq_false_iff_eq, ne_eq, decide_eq_true_eq, decide_eq_false_iff_not, Bool.and_eq_true, Bool.or_eq_true, Bool.and_eq_false_iff, Bool.or_eq_false_iff, Bool.false_eq_true, Bool.true_eq_false, reduceCtorEq] at h_)) <;> (try (first | (with_reducible contradiction) | (exfalso; omega)))) | (refine wpS_block ?_) | (refine wpS_ret ?_; (try simp only [thenS, blockS])) | (refine wpS_exit ?_; simp only [thenS, blockS, ↓reduceIte, Nat.reduceEqDiff]) | (refine wpS_skip ?_; (try simp only [thenS, blockS])) | (refine wpS_rounds 6 ?_)) | (with_reducible refine roundsS_next (fun K_ hK_ => ?_)) | (refine useK (by with_reducible assumption) ?_)))
  all_goals
    (first | refine r1_ Tryz.results47 (fun w_ hs_ => ?_) | refine r2_ Tryz.results47 (fun w_ hs_ => ?_) | refine r3_ Tryz.results47 (fun w_ hs_ => ?_) | refine retS0 Tryz.results47 (fun w_ hs_ => ?_) | refine retN0 Tryz.results47 (fun w_ hs_ => ?_))
    refine ⟨?_, hs_.mod⟩
    first
      | (have hR : R = false := by
           cases hRR : R with
           | false => rfl
           | true =>
             obtain ⟨f1, f2, f3, f4, f5, f6, f7, f8, f9, f10⟩ := hF.out.1 hRR
             have q1 := hx.out.2 ⟨f6, f7⟩
             have q2 := hz.out
             exfalso; omega
         rw [hR])
      | (have q2 := hz.out
         have q : R = decide ((p.data.size : Int) ≤ 65535 - p.off) := by
           rw [Bool.eq_iff_iff, hF.out, decide_eq_true_eq]
           refine ⟨fun f => ?_, fun h => ?_⟩
           · have := f.last; omega
           · obtain ⟨a, b⟩ := hx.out.1 (by first | assumption | omega)
             exact ⟨by omega, by omega, by omega, by omega, by omega, a, b, by omega, by omega, by omega⟩
         rw [q])
      | trace_state
end Go.Proofs.YtmcaigmpcbkfpaaGreat
