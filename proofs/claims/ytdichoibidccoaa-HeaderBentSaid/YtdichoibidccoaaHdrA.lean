/- Comparing packets: the document's Same, the program's. -/
import Derived.Test.YtdichoibidccoaaHdr7
import Derived.Test.YtdichoibidccoaaOpt8
set_option linter.unusedVariables false
set_option linter.unusedSimpArgs false
namespace Go.Proofs.Ytdichoibidccoaa
set_option maxRecDepth 8000
attribute [local irreducible] blk wpS seqS ordS OpVal RV endS LoadV StoreV Calls
open Go.RowKit Go.ChangeShapes Go.WideShapes Go.Deep
def pkSame (a b : Pkt) : Bool := a.tos == b.tos && a.id == b.id && a.df == b.df && a.mf == b.mf && a.off == b.off && a.ttl == b.ttl && a.proto == b.proto && a.src == b.src && a.dst == b.dst && decide (a.data = b.data) && decide (a.opts = b.opts)
theorem pkSame_iff (a b : Pkt) : pkSame a b = true ↔ a = b := by
  obtain ⟨⟩ := a
  obtain ⟨⟩ := b
  simp [pkSame, and_assoc]
  intros
  exact and_comm
theorem pkSame_self (a : Pkt) : pkSame a a = true := (pkSame_iff a a).2 rfl
theorem strEq (a b : ByteArray) : (a.toList == b.toList) = decide (a = b) := by
  rw [Bool.eq_iff_iff]; simp [bytes_inj]
set_option maxHeartbeats 8000000 in
theorem refSame05_any (a b : Pkt) (v v' : Value) (w : World) (hr : Structs enOpt 2 w v a.opts) (hr' : Structs enOpt 2 w v' b.opts) :
    Calls Try.prog 29 #[pv a v, pv b v'] w fun e w' => e = .returned (.bool (pkSame a b)) ∧ Mod [] w w' := by
  have hS : Hid (∀ w', Mod [] w w' → Calls Try.prog 21 #[v, v'] w' fun e w'' => e = .returned (.bool (decide (a.opts = b.opts))) ∧ Mod [] w' w'') := Lib.hid fun w' hm => refSame_any v v' a.opts b.opts w' (hr.mod0 hm) (hr'.mod0 hm)
  have hF := Lib.hid (show pkSame a b = (a.tos == b.tos && a.id == b.id && a.df == b.df && a.mf == b.mf && a.off == b.off && a.ttl == b.ttl && a.proto == b.proto && a.src == b.src && a.dst == b.dst && decide (a.data = b.data) && decide (a.opts = b.opts)) from rfl)
  generalize pkSame a b = R at hF ⊢
  generalize decide (a.opts = b.opts) = O at hS hF
  (refine enterS ([]) (Sep.start _ []) Try.func29 rfl ?_; simp only [Try.ntmps29, List.size_toArray, List.length_cons, List.length_nil, Nat.reduceAdd, Nat.reduceSub, Array.replicate_succ, Array.replicate_zero, List.push_toArray, List.append_toArray, List.nil_append, List.cons_append])
  (repeat' (first | ((with_reducible refine isOps ?_); first | (refine seqS_nil ?_; (try simp only [thenS, blockS])) | ((first | ((with_reducible refine isCallF ?_); refine aCF ?_) | ((with_reducible refine isCallV ?_); refine aCV ?_)); first | refine cS0 (fun w_ hs_ => hS.out _ hs_.mod) ?_) | ((with_reducible refine isBox ?_); first | (refine aBox (fun n_ l_ hl_ => ?_); dsimp only [sS, sZ] at hl_; subst hl_)) | refine aV ?_ | refine aNo ?_ | refine aNo' ?_ | ((fail_if_success (refine aIsT ?_)); (fail_if_success (refine aIsF ?_)); refine seqS_guard rfl rfl rfl (fun l_ hl_ h_ => ?_) (fun l_ hl_ h_ => ?_) <;> (dsimp only [sS, sZ] at hl_; subst hl_; (try (simp only [beq_iff_eq, bne_iff_ne, beq_eq_false_iff_ne, bne_eq_false_iff_eq, ne_eq, decide_eq_true_eq, decide_eq_false_iff_not, Bool.and_eq_true, Bool.or_eq_true, Bool.and_eq_false_iff, Bool.or_eq_false_iff, Bool.not_eq_true', Bool.not_eq_false', Bool.false_eq_true, Bool.true_eq_false, reduceCtorEq] at h_)); (try (first | (with_reducible contradiction) | (exfalso; omega)))))) | ((with_reducible refine isWp ?_); first | (refine wpS_seq (fun K_ hK_ => ?_)) | (refine wpS_region ?_) | (refine wpS_cond rfl (fun h_ => ?_) (fun h_ => ?_) <;> (try (simp only [beq_iff_eq, bne_iff_ne, beq_eq_false_iff_ne, bne_eq_false_iff_eq, ne_eq, decide_eq_true_eq, decide_eq_false_iff_not, Bool.and_eq_true, Bool.or_eq_true, Bool.and_eq_false_iff, Bool.or_eq_false_iff, Bool.false_eq_true, Bool.true_eq_false, reduceCtorEq] at h_)) <;> (try (first | (with_reducible contradiction) | (exfalso; omega)))) | (refine wpS_block ?_) | (refine wpS_ret ?_; (try simp only [thenS, blockS])) | (refine wpS_exit ?_; simp only [thenS, blockS, ↓reduceIte, Nat.reduceEqDiff]) | (refine wpS_skip ?_; (try simp only [thenS, blockS]))) | (refine useK (by with_reducible assumption) ?_)))
  all_goals
    (first | refine r1_ Try.results29 (fun w_ hs_ => ?_) | refine r2_ Try.results29 (fun w_ hs_ => ?_) | refine r3_ Try.results29 (fun w_ hs_ => ?_) | refine retS0 Try.results29 (fun w_ hs_ => ?_) | refine retN0 Try.results29 (fun w_ hs_ => ?_))
    refine ⟨?_, hs_.mod⟩
    rw [hF.out]
    first
      | (simp [*]; done)
      | (simp [← bytes_inj, *]; done)
      | (simp_all [← bytes_inj]; done)
end Go.Proofs.Ytdichoibidccoaa
