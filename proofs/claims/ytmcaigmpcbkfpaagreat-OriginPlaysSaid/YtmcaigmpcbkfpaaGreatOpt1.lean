/- Package option: options that came in; which are right, how many bytes they have. -/
import Derived.Test.YtmcaigmpcbkfpaaGreatAuto
import Derived.Test.YtmcaigmpcbkfpaaGreatOpen
set_option linter.unusedVariables false
set_option linter.unusedSimpArgs false
namespace Go.Proofs.YtmcaigmpcbkfpaaGreat
set_option maxRecDepth 8000
attribute [local irreducible] blk wpS seqS ordS OpVal RV endS LoadV StoreV Calls
open Go.RowKit

abbrev Opt := Int × ByteArray
abbrev enOpt (o : Opt) : List Value := [.int .i64 o.1, .string o.2]
abbrev ov (o : Opt) : Value := .agg #[.int .i64 o.1, .string o.2]
/-- Is an option right? -/
def optRight (o : Opt) : Bool := if o.1 == 1 then o.2.toList.isEmpty else decide (1 < o.1) && decide (o.1 ≤ 255) && decide ((o.2.size : Int) ≤ 38)
set_option maxHeartbeats 1000000 in
theorem right_any (o : Opt) (w : World) : Calls Tryz.prog 140 #[ov o] w fun e w' => e = .returned (.bool (optRight o)) ∧ Mod [] w w' := by
  unfold optRight
  (refine enterS ([]) (Sep.start _ []) Tryz.func140 rfl ?_; simp only [Tryz.ntmps140, List.size_toArray, List.length_cons, List.length_nil, Nat.reduceAdd, Nat.reduceSub, Array.replicate_succ, Array.replicate_zero, List.push_toArray, List.append_toArray, List.nil_append, List.cons_append])
  (repeat' (first | ((with_reducible refine isOps ?_); first | (refine seqS_nil ?_; (try simp only [thenS, blockS])) | ((with_reducible refine isBox ?_); first | (refine aBox (fun n_ l_ hl_ => ?_); dsimp only [sS, sZ] at hl_; subst hl_)) | refine aV ?_ | refine aNo ?_ | refine aNo' ?_ | ((fail_if_success (refine aIsT ?_)); (fail_if_success (refine aIsF ?_)); refine seqS_guard rfl rfl rfl (fun l_ hl_ h_ => ?_) (fun l_ hl_ h_ => ?_) <;> (dsimp only [sS, sZ] at hl_; subst hl_; (try (simp only [beq_iff_eq, bne_iff_ne, beq_eq_false_iff_ne, bne_eq_false_iff_eq, ne_eq, decide_eq_true_eq, decide_eq_false_iff_not, Bool.and_eq_true, Bool.or_eq_true, Bool.and_eq_false_iff, Bool.or_eq_false_iff, Bool.not_eq_true', Bool.not_eq_false', Bool.false_eq_true, Bool.true_eq_false, reduceCtorEq] at h_)); (try (first | (with_reducible contradiction) | (exfalso; omega)))))) | ((with_reducible refine isWp ?_); first | (refine wpS_seq (fun K_ hK_ => ?_)) | (refine wpS_region ?_) | (refine wpS_cond rfl (fun h_ => ?_) (fun h_ => ?_) <;> (try (simp only [beq_iff_eq, bne_iff_ne, beq_eq_false_iff_ne, bne_eq_false_iff_eq, ne_eq, decide_eq_true_eq, decide_eq_false_iff_not, Bool.and_eq_true, Bool.or_eq_true, Bool.and_eq_false_iff, Bool.or_eq_false_iff, Bool.false_eq_true, Bool.true_eq_false, reduceCtorEq] at h_)) <;> (try (first | (with_reducible contradiction) | (exfalso; omega)))) | (refine wpS_block ?_) | (refine wpS_ret ?_; (try simp only [thenS, blockS])) | (refine wpS_exit ?_; simp only [thenS, blockS, ↓reduceIte, Nat.reduceEqDiff]) | (refine wpS_skip ?_; (try simp only [thenS, blockS]))) | (refine useK (by with_reducible assumption) ?_)))
  all_goals
    (first | refine r1_ Tryz.results140 (fun w_ hs_ => ?_) | refine r2_ Tryz.results140 (fun w_ hs_ => ?_) | refine r3_ Tryz.results140 (fun w_ hs_ => ?_) | refine retS0 Tryz.results140 (fun w_ hs_ => ?_) | refine retN0 Tryz.results140 (fun w_ hs_ => ?_))
    exact ⟨by simp [*], hs_.mod⟩
theorem isEmpty_size (s : ByteArray) : s.toList.isEmpty = decide (s.size = 0) := by
  rw [ByteArray.toList_eq]
  rcases s with ⟨⟨l⟩⟩
  cases l <;> simp [ByteArray.size]
theorem isEmpty_eq (s : ByteArray) : ((s.size : Int) == 0) = s.toList.isEmpty := by
  rw [isEmpty_size, Bool.eq_iff_iff]; simp
set_option maxHeartbeats 1000000 in
theorem refRight_any (o : Opt) (w : World) : Calls Tryz.prog 103 #[ov o] w fun e w' => e = .returned (.bool (optRight o)) ∧ Mod [] w w' := by
  unfold optRight
  (refine enterS ([]) (Sep.start _ []) Tryz.func103 rfl ?_; simp only [Tryz.ntmps103, List.size_toArray, List.length_cons, List.length_nil, Nat.reduceAdd, Nat.reduceSub, Array.replicate_succ, Array.replicate_zero, List.push_toArray, List.append_toArray, List.nil_append, List.cons_append])
  (repeat' (first | ((with_reducible refine isOps ?_); first | (refine seqS_nil ?_; (try simp only [thenS, blockS])) | ((with_reducible refine isBox ?_); first | (refine aBox (fun n_ l_ hl_ => ?_); dsimp only [sS, sZ] at hl_; subst hl_)) | refine aV ?_ | refine aNo ?_ | refine aNo' ?_ | ((fail_if_success (refine aIsT ?_)); (fail_if_success (refine aIsF ?_)); refine seqS_guard rfl rfl rfl (fun l_ hl_ h_ => ?_) (fun l_ hl_ h_ => ?_) <;> (dsimp only [sS, sZ] at hl_; subst hl_; (try (simp only [beq_iff_eq, bne_iff_ne, beq_eq_false_iff_ne, bne_eq_false_iff_eq, ne_eq, decide_eq_true_eq, decide_eq_false_iff_not, Bool.and_eq_true, Bool.or_eq_true, Bool.and_eq_false_iff, Bool.or_eq_false_iff, Bool.not_eq_true', Bool.not_eq_false', Bool.false_eq_true, Bool.true_eq_false, reduceCtorEq] at h_)); (try (first | (with_reducible contradiction) | (exfalso; omega)))))) | ((with_reducible refine isWp ?_); first | (refine wpS_seq (fun K_ hK_ => ?_)) | (refine wpS_region ?_) | (refine wpS_cond rfl (fun h_ => ?_) (fun h_ => ?_) <;> (try (simp only [beq_iff_eq, bne_iff_ne, beq_eq_false_iff_ne, bne_eq_false_iff_eq, ne_eq, decide_eq_true_eq, decide_eq_false_iff_not, Bool.and_eq_true, Bool.or_eq_true, Bool.and_eq_false_iff, Bool.or_eq_false_iff, Bool.false_eq_true, Bool.true_eq_false, reduceCtorEq] at h_)) <;> (try (first | (with_reducible contradiction) | (exfalso; omega)))) | (refine wpS_block ?_) | (refine wpS_ret ?_; (try simp only [thenS, blockS])) | (refine wpS_exit ?_; simp only [thenS, blockS, ↓reduceIte, Nat.reduceEqDiff]) | (refine wpS_skip ?_; (try simp only [thenS, blockS]))) | (refine useK (by with_reducible assumption) ?_)))
  all_goals
    (first | refine r1_ Tryz.results103 (fun w_ hs_ => ?_) | refine r2_ Tryz.results103 (fun w_ hs_ => ?_) | refine r3_ Tryz.results103 (fun w_ hs_ => ?_) | refine retS0 Tryz.results103 (fun w_ hs_ => ?_) | refine retN0 Tryz.results103 (fun w_ hs_ => ?_))
    refine ⟨?_, hs_.mod⟩
    first
      | (simp [isEmpty_eq, *]; done)
      | (have e : 1 < o.1 := by omega
         simp [*]; done)
      | (have e : ¬ 1 < o.1 := by omega
         simp [*]; done)
      | (simp [*]; done)
set_option maxHeartbeats 1000000 in
theorem notRight_any (o : Opt) (w : World) : Calls Tryz.prog 139 #[ov o] w fun e w' => e = .returned (.bool (!optRight o)) ∧ Mod [] w w' := by
  (refine enterS ([]) (Sep.start _ []) Tryz.func139 rfl ?_; simp only [Tryz.ntmps139, List.size_toArray, List.length_cons, List.length_nil, Nat.reduceAdd, Nat.reduceSub, Array.replicate_succ, Array.replicate_zero, List.push_toArray, List.append_toArray, List.nil_append, List.cons_append])
  (repeat' (first | ((with_reducible refine isOps ?_); first | (refine seqS_nil ?_; (try simp only [thenS, blockS])) | ((first | ((with_reducible refine isCallF ?_); refine aCF ?_) | ((with_reducible refine isCallV ?_); refine aCV ?_)); first | refine cS0 (fun w_ hs_ => right_any _ _) ?_) | ((with_reducible refine isBox ?_); first | (refine aBox (fun n_ l_ hl_ => ?_); dsimp only [sS, sZ] at hl_; subst hl_)) | refine aV ?_) | ((with_reducible refine isWp ?_); first | (refine wpS_seq (fun K_ hK_ => ?_)) | (refine wpS_region ?_) | (refine wpS_cond rfl (fun h_ => ?_) (fun h_ => ?_) <;> (try (simp only [beq_iff_eq, bne_iff_ne, beq_eq_false_iff_ne, bne_eq_false_iff_eq, ne_eq, decide_eq_true_eq, decide_eq_false_iff_not, Bool.and_eq_true, Bool.or_eq_true, Bool.and_eq_false_iff, Bool.or_eq_false_iff, Bool.false_eq_true, Bool.true_eq_false, reduceCtorEq] at h_)) <;> (try (first | (with_reducible contradiction) | (exfalso; omega)))) | (refine wpS_block ?_) | (refine wpS_ret ?_; (try simp only [thenS, blockS])) | (refine wpS_exit ?_; simp only [thenS, blockS, ↓reduceIte, Nat.reduceEqDiff]) | (refine wpS_skip ?_; (try simp only [thenS, blockS]))) | (refine useK (by with_reducible assumption) ?_)))
  (first | refine r1_ Tryz.results139 (fun w_ hs_ => ?_) | refine r2_ Tryz.results139 (fun w_ hs_ => ?_) | refine r3_ Tryz.results139 (fun w_ hs_ => ?_) | refine retS0 Tryz.results139 (fun w_ hs_ => ?_) | refine retN0 Tryz.results139 (fun w_ hs_ => ?_))
  exact ⟨rfl, hs_.mod⟩

/-! ### The first of a kind -/
def idxOf {α : Type} (p : α → Bool) (l : List α) : Int := match l.findIdx? p with | none => -1 | some i => i
theorem idxOf_some {α : Type} {p : α → Bool} {l : List α} {k : Nat} (hk : k < l.length) (h : p l[k] = true) (hb : ∀ j (hj : j < l.length), j < k → p l[j] = false) : idxOf p l = k := by
  have : l.findIdx? p = some k := by
    rw [List.findIdx?_eq_some_iff_getElem]
    exact ⟨hk, h, fun j hj => by rw [hb j (by omega) hj]; simp⟩
  simp [idxOf, this]
theorem idxOf_none {α : Type} {p : α → Bool} {l : List α} (hb : ∀ j (hj : j < l.length), p l[j] = false) : idxOf p l = -1 := by
  have : l.findIdx? p = none := by
    rw [List.findIdx?_eq_none_iff]
    intro x hx
    obtain ⟨j, hj, rfl⟩ := List.getElem_of_mem hx
    exact hb j hj
  simp [idxOf, this]
set_option maxHeartbeats 1000000 in
theorem IndexFunc_any (p : Opt → Bool) (f : FuncId) (caps : List Value) (hf : look calL f = some ()) (v : Value) (l : List Opt) (w : World) (hr : Structs enOpt 2 w v l)
    (hp : ∀ o w', Mod [] w w' → Calls Tryz.prog f (ov o :: caps).toArray w' fun e w'' => e = .returned (.bool (p o)) ∧ Mod [] w' w'') :
    Calls Tryz.prog 146 #[v, .func (.func f) #[] caps.toArray] w fun e w' => e = .returned (.int .i64 (idxOf p l)) ∧ Mod [] w w' := by
  have hll := hr.len
  obtain ⟨A, cap, rfl⟩ := hr.form
  replace hp := Lib.hid hp
  (refine enterS ([]) (Sep.start _ []) Tryz.func146 rfl ?_; simp only [Tryz.ntmps146, List.size_toArray, List.length_cons, List.length_nil, Nat.reduceAdd, Nat.reduceSub, Array.replicate_succ, Array.replicate_zero, List.push_toArray, List.append_toArray, List.nil_append, List.cons_append])
  (repeat' (first | ((with_reducible refine isOps ?_); first | (refine seqS_nil ?_; (try simp only [thenS, blockS])) | refine aV ?_) | ((with_reducible refine isWp ?_); first | (refine wpS_seq (fun K_ hK_ => ?_)) | (refine wpS_region ?_) | (refine wpS_cond rfl (fun h_ => ?_) (fun h_ => ?_) <;> (try (simp only [beq_iff_eq, bne_iff_ne, beq_eq_false_iff_ne, bne_eq_false_iff_eq, ne_eq, decide_eq_true_eq, decide_eq_false_iff_not, Bool.and_eq_true, Bool.or_eq_true, Bool.and_eq_false_iff, Bool.or_eq_false_iff, Bool.false_eq_true, Bool.true_eq_false, reduceCtorEq] at h_)) <;> (try (first | (with_reducible contradiction) | (exfalso; omega)))) | (refine wpS_block ?_) | (refine wpS_ret ?_; (try simp only [thenS, blockS])) | (refine wpS_exit ?_; simp only [thenS, blockS, ↓reduceIte, Nat.reduceEqDiff]) | (refine wpS_skip ?_; (try simp only [thenS, blockS]))) | (refine useK (by with_reducible assumption) ?_)))
  ((with_reducible refine isLoop ?_); refine wpS_loopU [false, false, false, false, true, true, false, false, true, true, true, true, true, true, true, true, true, true, true] (fun u rs_ => ∃ k : Nat, k ≤ l.length ∧ u 8 = .int .i64 k ∧ (∀ j (hj : j < l.length), j < k → p l[j] = false) ∧ rs_ = []) (fun u => l.length - (intOf (u 8)).toNat) ?_ (fun u rs_ l_ K_ hN_ hl_ hR => ?_))
  · exact ⟨0, Nat.zero_le _, rfl, by simp, rfl⟩
  · (simp only [mask_t, mask_f, mask_n, Nat.reduceAdd] at hl_; subst hl_)
    obtain ⟨k, hk, hu, hb, rfl⟩ := hR
    rw [hu]
    replace hb := Lib.hid hb
    by_cases hlt : k < l.length
    · obtain ⟨b, off, rfl, hcell⟩ := hr.gets k hlt (by simp [enOpt])
      have HC : Hid (∀ w', Mod [] w w' → (Instr.loadAt 140 (.pointer (some ⟨b, off + k * 2, none⟩))).run Tryz.prog w' = .ok (ov l[k]) w') := fun w' hm =>
        run_loadN (vs := enOpt l[k]) (aggT rfl) (sizT rfl) (fun j v hj => hcell w' hm j v hj)
      clear hcell
      (repeat' (first | ((with_reducible refine isOps ?_); first | (refine seqS_nil ?_; (try simp only [thenS, blockS])) | ((first | ((with_reducible refine isCallF ?_); refine aCF ?_) | ((with_reducible refine isCallV ?_); refine aCV ?_)); first | refine cS0 (fun w_ hs_ => hp.out l[k] _ hs_.mod) ?_) | refine aVh (opv_bin rfl rfl (fun w_ hs_ => by (exact HC.out _ hs_.mod))) ?_ | refine aV ?_ | refine aVh (opv_loadO rfl (fun w_ hs_ => by (exact HC.out _ hs_.mod))) ?_) | ((with_reducible refine isWp ?_); first | (refine wpS_seq (fun K_ hK_ => ?_)) | (refine wpS_region ?_) | (refine wpS_cond rfl (fun h_ => ?_) (fun h_ => ?_) <;> (try (simp only [beq_iff_eq, bne_iff_ne, beq_eq_false_iff_ne, bne_eq_false_iff_eq, ne_eq, decide_eq_true_eq, decide_eq_false_iff_not, Bool.and_eq_true, Bool.or_eq_true, Bool.and_eq_false_iff, Bool.or_eq_false_iff, Bool.false_eq_true, Bool.true_eq_false, reduceCtorEq] at h_)) <;> (try (first | (with_reducible contradiction) | (exfalso; omega)))) | (refine wpS_block ?_) | (refine wpS_ret ?_; (try simp only [thenS, blockS])) | (refine wpS_exit ?_; simp only [thenS, blockS, ↓reduceIte, Nat.reduceEqDiff]) | (refine wpS_skip ?_; (try simp only [thenS, blockS]))) | (refine useK (by with_reducible assumption) ?_)))
      · (first | refine r1_ Tryz.results146 (fun w_ hs_ => ?_) | refine r2_ Tryz.results146 (fun w_ hs_ => ?_) | refine r3_ Tryz.results146 (fun w_ hs_ => ?_) | refine retS0 Tryz.results146 (fun w_ hs_ => ?_) | refine retN0 Tryz.results146 (fun w_ hs_ => ?_))
        exact ⟨by rw [idxOf_some hlt h_ hb.out], hs_.mod⟩
      · (refine hN_ _ ([]) _ rfl ?_ (by first | ((repeat (first | exact List.Sublist.refl _ | exact List.nil_sublist _ | apply List.Sublist.cons_cons | apply List.Sublist.cons)); done) | fail) ?_ <;> dsimp only [List.getD_cons_succ, List.getD_cons_zero])
        · refine ⟨k + 1, by omega, by go_num, fun j hj hjk => ?_, rfl⟩
          by_cases e : j = k
          · subst e; exact h_
          · exact hb.out j hj (by omega)
        · rw [hu]; simp [intOf]; omega
    · have hke : k = l.length := by omega
      (repeat' (first | ((with_reducible refine isOps ?_); first | (refine seqS_nil ?_; (try simp only [thenS, blockS])) | refine aV ?_) | ((with_reducible refine isWp ?_); first | (refine wpS_seq (fun K_ hK_ => ?_)) | (refine wpS_region ?_) | (refine wpS_cond rfl (fun h_ => ?_) (fun h_ => ?_) <;> (try (simp only [beq_iff_eq, bne_iff_ne, beq_eq_false_iff_ne, bne_eq_false_iff_eq, ne_eq, decide_eq_true_eq, decide_eq_false_iff_not, Bool.and_eq_true, Bool.or_eq_true, Bool.and_eq_false_iff, Bool.or_eq_false_iff, Bool.false_eq_true, Bool.true_eq_false, reduceCtorEq] at h_)) <;> (try (first | (with_reducible contradiction) | (exfalso; omega)))) | (refine wpS_block ?_) | (refine wpS_ret ?_; (try simp only [thenS, blockS])) | (refine wpS_exit ?_; simp only [thenS, blockS, ↓reduceIte, Nat.reduceEqDiff]) | (refine wpS_skip ?_; (try simp only [thenS, blockS]))) | (refine useK (by with_reducible assumption) ?_)))
      (first | refine r1_ Tryz.results146 (fun w_ hs_ => ?_) | refine r2_ Tryz.results146 (fun w_ hs_ => ?_) | refine r3_ Tryz.results146 (fun w_ hs_ => ?_) | refine retS0 Tryz.results146 (fun w_ hs_ => ?_) | refine retN0 Tryz.results146 (fun w_ hs_ => ?_))
      exact ⟨by rw [idxOf_none (fun j hj => hb.out j hj (by omega))], hs_.mod⟩
theorem idxOf_any {α : Type} (p : α → Bool) (l : List α) : decide (0 ≤ idxOf p l) = l.any p := by
  unfold idxOf
  cases h : l.findIdx? p with
  | none => rw [List.findIdx?_eq_none_iff] at h; simp; exact fun x hx => by simpa using h x hx
  | some i =>
    rw [List.findIdx?_eq_some_iff_getElem] at h
    obtain ⟨hi, hp, _⟩ := h
    simp only [Int.natCast_nonneg, decide_true]
    exact (List.any_eq_true.2 ⟨l[i], List.getElem_mem hi, hp⟩).symm
end Go.Proofs.YtmcaigmpcbkfpaaGreat
