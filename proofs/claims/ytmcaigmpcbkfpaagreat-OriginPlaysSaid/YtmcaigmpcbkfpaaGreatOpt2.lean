/- Package option and its reference: which options are right, how many bytes they have, and these bytes. -/
import Derived.Test.YtmcaigmpcbkfpaaGreatOpt1
import Derived.Test.YtmcaigmpcbkfpaaGreatOwn
set_option linter.unusedVariables false
set_option linter.unusedSimpArgs false
namespace Go.Proofs.YtmcaigmpcbkfpaaGreat
set_option maxRecDepth 8000
attribute [local irreducible] blk wpS seqS ordS OpVal RV endS LoadV StoreV Calls
open Go.RowKit
/-- An option of a slice that came in, as it is read later. -/
theorem opt_at {w : World} {A : Option Addr} {n cap : Nat} {l : List Opt} (hr : Structs enOpt 2 w (.slice A n cap) l) (k : Nat) (hlt : k < l.length) : ∃ b off, A = some ⟨b, off, none⟩ ∧
    Hid (∀ w', Mod [] w w' → (Instr.loadAt 140 (.pointer (some ⟨b, off + k * 2, none⟩))).run Tryz.prog w' = .ok (ov l[k]) w') ∧
    Hid (∀ w', Mod [] w w' → (Instr.loadAt 3 (.pointer (some ⟨b, off + k * 2, none⟩))).run Tryz.prog w' = .ok (.int .i64 l[k].1) w') ∧
    Hid (∀ w', Mod [] w w' → (Instr.loadAt 9 (.pointer (some ⟨b, off + k * 2 + 1, none⟩))).run Tryz.prog w' = .ok (.string l[k].2) w') := by
  obtain ⟨b, off, rfl, hcell⟩ := hr.gets k hlt (by simp [enOpt])
  exact ⟨b, off, rfl, Lib.hid fun w' hm => run_loadN (vs := enOpt l[k]) (aggT rfl) (sizT rfl) (fun j v hj => hcell w' hm j v hj), Lib.hid fun w' hm => run_load1 (aggF rfl) (hcell w' hm 0 _ rfl), Lib.hid fun w' hm => run_load1 (aggF rfl) (hcell w' hm 1 _ rfl)⟩

/-! ### Right -/
set_option maxHeartbeats 1000000 in
theorem ContainsFunc_any (p : Opt → Bool) (f : FuncId) (caps : List Value) (hf : look calL f = some ()) (v : Value) (l : List Opt) (w : World) (hr : Structs enOpt 2 w v l)
    (hp : ∀ o w', Mod [] w w' → Calls Tryz.prog f (ov o :: caps).toArray w' fun e w'' => e = .returned (.bool (p o)) ∧ Mod [] w' w'') :
    Calls Tryz.prog 138 #[v, .func (.func f) #[] caps.toArray] w fun e w' => e = .returned (.bool (l.any p)) ∧ Mod [] w w' := by
  have hx := idxOf_any p l
  (refine enterS ([]) (Sep.start _ []) Tryz.func138 rfl ?_; simp only [Tryz.ntmps138, List.size_toArray, List.length_cons, List.length_nil, Nat.reduceAdd, Nat.reduceSub, Array.replicate_succ, Array.replicate_zero, List.push_toArray, List.append_toArray, List.nil_append, List.cons_append])
  (repeat' (first | ((with_reducible refine isOps ?_); first | (refine seqS_nil ?_; (try simp only [thenS, blockS])) | ((first | ((with_reducible refine isCallF ?_); refine aCF ?_) | ((with_reducible refine isCallV ?_); refine aCV ?_)); first | refine cS0 (fun w_ hs_ => IndexFunc_any p f caps hf v l _ (hr.mod0 hs_.mod) (fun o w' hm => hp o w' (hs_.mod.trans hm (by simp)))) ?_) | refine aV ?_) | ((with_reducible refine isWp ?_); first | (refine wpS_seq (fun K_ hK_ => ?_)) | (refine wpS_region ?_) | (refine wpS_cond rfl (fun h_ => ?_) (fun h_ => ?_) <;> (try (simp only [beq_iff_eq, bne_iff_ne, beq_eq_false_iff_ne, bne_eq_false_iff_eq, ne_eq, decide_eq_true_eq, decide_eq_false_iff_not, Bool.and_eq_true, Bool.or_eq_true, Bool.and_eq_false_iff, Bool.or_eq_false_iff, Bool.false_eq_true, Bool.true_eq_false, reduceCtorEq] at h_)) <;> (try (first | (with_reducible contradiction) | (exfalso; omega)))) | (refine wpS_block ?_) | (refine wpS_ret ?_; (try simp only [thenS, blockS])) | (refine wpS_exit ?_; simp only [thenS, blockS, ↓reduceIte, Nat.reduceEqDiff]) | (refine wpS_skip ?_; (try simp only [thenS, blockS]))) | (refine useK (by with_reducible assumption) ?_)))
  (first | refine r1_ Tryz.results138 (fun w_ hs_ => ?_) | refine r2_ Tryz.results138 (fun w_ hs_ => ?_) | refine r3_ Tryz.results138 (fun w_ hs_ => ?_) | refine retS0 Tryz.results138 (fun w_ hs_ => ?_) | refine retN0 Tryz.results138 (fun w_ hs_ => ?_))
  exact ⟨by rw [← hx], hs_.mod⟩
theorem all_any (l : List Opt) : (!l.any fun o => !optRight o) = l.all optRight := by
  induction l <;> simp_all
set_option maxHeartbeats 1000000 in
theorem Right_any (v : Value) (l : List Opt) (w : World) (hr : Structs enOpt 2 w v l) :
    Calls Tryz.prog 123 #[v] w fun e w' => e = .returned (.bool (l.all optRight)) ∧ Mod [] w w' := by
  have hx := all_any l
  (refine enterS ([]) (Sep.start _ []) Tryz.func123 rfl ?_; simp only [Tryz.ntmps123, List.size_toArray, List.length_cons, List.length_nil, Nat.reduceAdd, Nat.reduceSub, Array.replicate_succ, Array.replicate_zero, List.push_toArray, List.append_toArray, List.nil_append, List.cons_append])
  (repeat' (first | ((with_reducible refine isOps ?_); first | (refine seqS_nil ?_; (try simp only [thenS, blockS])) | ((first | ((with_reducible refine isCallF ?_); refine aCF ?_) | ((with_reducible refine isCallV ?_); refine aCV ?_)); first | refine cS0 (fun w_ hs_ => ContainsFunc_any (fun o => !optRight o) 139 [] rfl v l _ (hr.mod0 hs_.mod) (fun o w' _ => notRight_any o w')) ?_) | refine aV ?_) | ((with_reducible refine isWp ?_); first | (refine wpS_seq (fun K_ hK_ => ?_)) | (refine wpS_region ?_) | (refine wpS_cond rfl (fun h_ => ?_) (fun h_ => ?_) <;> (try (simp only [beq_iff_eq, bne_iff_ne, beq_eq_false_iff_ne, bne_eq_false_iff_eq, ne_eq, decide_eq_true_eq, decide_eq_false_iff_not, Bool.and_eq_true, Bool.or_eq_true, Bool.and_eq_false_iff, Bool.or_eq_false_iff, Bool.false_eq_true, Bool.true_eq_false, reduceCtorEq] at h_)) <;> (try (first | (with_reducible contradiction) | (exfalso; omega)))) | (refine wpS_block ?_) | (refine wpS_ret ?_; (try simp only [thenS, blockS])) | (refine wpS_exit ?_; simp only [thenS, blockS, ↓reduceIte, Nat.reduceEqDiff]) | (refine wpS_skip ?_; (try simp only [thenS, blockS]))) | (refine useK (by with_reducible assumption) ?_)))
  (first | refine r1_ Tryz.results123 (fun w_ hs_ => ?_) | refine r2_ Tryz.results123 (fun w_ hs_ => ?_) | refine r3_ Tryz.results123 (fun w_ hs_ => ?_) | refine retS0 Tryz.results123 (fun w_ hs_ => ?_) | refine retN0 Tryz.results123 (fun w_ hs_ => ?_))
  exact ⟨by rw [← hx], hs_.mod⟩
theorem all_upto {α : Type} {p : α → Bool} {l : List α} (h : ∀ j (hj : j < l.length), p l[j] = true) : l.all p = true := by
  rw [List.all_eq_true]; intro x hx; obtain ⟨j, hj, rfl⟩ := List.getElem_of_mem hx; exact h j hj
theorem all_not {α : Type} {p : α → Bool} {l : List α} {k : Nat} (hk : k < l.length) (h : p l[k] = false) : l.all p = false := by
  rw [Bool.eq_false_iff]; intro ha; rw [List.all_eq_true.1 ha _ (List.getElem_mem hk)] at h; cases h
set_option maxHeartbeats 1000000 in
theorem refAll_any (v : Value) (l : List Opt) (w : World) (hr : Structs enOpt 2 w v l) :
    Calls Tryz.prog 60 #[v] w fun e w' => e = .returned (.bool (l.all optRight)) ∧ Mod [] w w' := by
  have hll := hr.len
  obtain ⟨A, cap, rfl⟩ := hr.form
  (refine enterS ([]) (Sep.start _ []) Tryz.func60 rfl ?_; simp only [Tryz.ntmps60, List.size_toArray, List.length_cons, List.length_nil, Nat.reduceAdd, Nat.reduceSub, Array.replicate_succ, Array.replicate_zero, List.push_toArray, List.append_toArray, List.nil_append, List.cons_append])
  (repeat' (first | ((with_reducible refine isOps ?_); first | (refine seqS_nil ?_; (try simp only [thenS, blockS])) | refine aV ?_) | ((with_reducible refine isWp ?_); first | (refine wpS_seq (fun K_ hK_ => ?_)) | (refine wpS_region ?_) | (refine wpS_cond rfl (fun h_ => ?_) (fun h_ => ?_) <;> (try (simp only [beq_iff_eq, bne_iff_ne, beq_eq_false_iff_ne, bne_eq_false_iff_eq, ne_eq, decide_eq_true_eq, decide_eq_false_iff_not, Bool.and_eq_true, Bool.or_eq_true, Bool.and_eq_false_iff, Bool.or_eq_false_iff, Bool.false_eq_true, Bool.true_eq_false, reduceCtorEq] at h_)) <;> (try (first | (with_reducible contradiction) | (exfalso; omega)))) | (refine wpS_block ?_) | (refine wpS_ret ?_; (try simp only [thenS, blockS])) | (refine wpS_exit ?_; simp only [thenS, blockS, ↓reduceIte, Nat.reduceEqDiff]) | (refine wpS_skip ?_; (try simp only [thenS, blockS]))) | (refine useK (by with_reducible assumption) ?_)))
  ((with_reducible refine isLoop ?_); refine wpS_loopU [false, false, true, true, true, true, true, true, true, true, true, true, true, true, true, true] (fun u rs_ => ∃ k : Nat, k ≤ l.length ∧ u 3 = .int .i64 k ∧ (∀ j (hj : j < l.length), j < k → optRight l[j] = true) ∧ rs_ = []) (fun u => l.length - (intOf (u 3)).toNat) ?_ (fun u rs_ l_ K_ hN_ hl_ hR => ?_))
  · exact ⟨0, Nat.zero_le _, rfl, by simp, rfl⟩
  · (simp only [mask_t, mask_f, mask_n, Nat.reduceAdd] at hl_; subst hl_)
    obtain ⟨k, hk, hu, hb, rfl⟩ := hR
    rw [hu]
    replace hb := Lib.hid hb
    by_cases hlt : k < l.length
    · obtain ⟨b, off, rfl, HC, -, -⟩ := opt_at hr k hlt
      (repeat' (first | ((with_reducible refine isOps ?_); first | (refine seqS_nil ?_; (try simp only [thenS, blockS])) | ((first | ((with_reducible refine isCallF ?_); refine aCF ?_) | ((with_reducible refine isCallV ?_); refine aCV ?_)); first | refine cS0 (fun w_ hs_ => refRight_any l[k] _) ?_) | refine aVh (opv_bin rfl rfl (fun w_ hs_ => by (exact HC.out _ hs_.mod))) ?_ | refine aV ?_ | refine aVh (opv_loadO rfl (fun w_ hs_ => by (exact HC.out _ hs_.mod))) ?_) | ((with_reducible refine isWp ?_); first | (refine wpS_seq (fun K_ hK_ => ?_)) | (refine wpS_region ?_) | (refine wpS_cond rfl (fun h_ => ?_) (fun h_ => ?_) <;> (try (simp only [beq_iff_eq, bne_iff_ne, beq_eq_false_iff_ne, bne_eq_false_iff_eq, ne_eq, decide_eq_true_eq, decide_eq_false_iff_not, Bool.and_eq_true, Bool.or_eq_true, Bool.and_eq_false_iff, Bool.or_eq_false_iff, Bool.false_eq_true, Bool.true_eq_false, reduceCtorEq] at h_)) <;> (try (first | (with_reducible contradiction) | (exfalso; omega)))) | (refine wpS_block ?_) | (refine wpS_ret ?_; (try simp only [thenS, blockS])) | (refine wpS_exit ?_; simp only [thenS, blockS, ↓reduceIte, Nat.reduceEqDiff]) | (refine wpS_skip ?_; (try simp only [thenS, blockS]))) | (refine useK (by with_reducible assumption) ?_)))
      · (first | refine r1_ Tryz.results60 (fun w_ hs_ => ?_) | refine r2_ Tryz.results60 (fun w_ hs_ => ?_) | refine r3_ Tryz.results60 (fun w_ hs_ => ?_) | refine retS0 Tryz.results60 (fun w_ hs_ => ?_) | refine retN0 Tryz.results60 (fun w_ hs_ => ?_))
        exact ⟨by rw [all_not hlt (by simpa using h_)], hs_.mod⟩
      · (refine hN_ _ ([]) _ rfl ?_ (by first | ((repeat (first | exact List.Sublist.refl _ | exact List.nil_sublist _ | apply List.Sublist.cons_cons | apply List.Sublist.cons)); done) | fail) ?_ <;> dsimp only [List.getD_cons_succ, List.getD_cons_zero])
        · refine ⟨k + 1, by omega, by go_num, fun j hj hjk => ?_, rfl⟩
          by_cases e : j = k
          · subst e; simpa using h_
          · exact hb.out j hj (by omega)
        · rw [hu]; simp [intOf]; omega
    · (repeat' (first | ((with_reducible refine isOps ?_); first | (refine seqS_nil ?_; (try simp only [thenS, blockS])) | refine aV ?_) | ((with_reducible refine isWp ?_); first | (refine wpS_seq (fun K_ hK_ => ?_)) | (refine wpS_region ?_) | (refine wpS_cond rfl (fun h_ => ?_) (fun h_ => ?_) <;> (try (simp only [beq_iff_eq, bne_iff_ne, beq_eq_false_iff_ne, bne_eq_false_iff_eq, ne_eq, decide_eq_true_eq, decide_eq_false_iff_not, Bool.and_eq_true, Bool.or_eq_true, Bool.and_eq_false_iff, Bool.or_eq_false_iff, Bool.false_eq_true, Bool.true_eq_false, reduceCtorEq] at h_)) <;> (try (first | (with_reducible contradiction) | (exfalso; omega)))) | (refine wpS_block ?_) | (refine wpS_ret ?_; (try simp only [thenS, blockS])) | (refine wpS_exit ?_; simp only [thenS, blockS, ↓reduceIte, Nat.reduceEqDiff]) | (refine wpS_skip ?_; (try simp only [thenS, blockS]))) | (refine useK (by with_reducible assumption) ?_)))
      (first | refine r1_ Tryz.results60 (fun w_ hs_ => ?_) | refine r2_ Tryz.results60 (fun w_ hs_ => ?_) | refine r3_ Tryz.results60 (fun w_ hs_ => ?_) | refine retS0 Tryz.results60 (fun w_ hs_ => ?_) | refine retN0 Tryz.results60 (fun w_ hs_ => ?_))
      exact ⟨by rw [all_upto (fun j hj => hb.out j hj (by omega))], hs_.mod⟩
/-- Is there more than is asked of? -/
def great (l : List Opt) : Bool := l.any (fun o => decide (100 < o.2.size)) || decide (60 < l.length)
set_option maxHeartbeats 1000000 in
theorem Great_any (v : Value) (l : List Opt) (w : World) (hr : Structs enOpt 2 w v l) :
    Calls Tryz.prog 50 #[v] w fun e w' => e = .returned (.bool (great l)) ∧ Mod [] w w' := by
  have hll := hr.len
  obtain ⟨A, cap, rfl⟩ := hr.form
  (refine enterS ([]) (Sep.start _ []) Tryz.func50 rfl ?_; simp only [Tryz.ntmps50, List.size_toArray, List.length_cons, List.length_nil, Nat.reduceAdd, Nat.reduceSub, Array.replicate_succ, Array.replicate_zero, List.push_toArray, List.append_toArray, List.nil_append, List.cons_append])
  (repeat' (first | ((with_reducible refine isOps ?_); first | (refine seqS_nil ?_; (try simp only [thenS, blockS])) | refine aV ?_) | ((with_reducible refine isWp ?_); first | (refine wpS_seq (fun K_ hK_ => ?_)) | (refine wpS_region ?_) | (refine wpS_cond rfl (fun h_ => ?_) (fun h_ => ?_) <;> (try (simp only [beq_iff_eq, bne_iff_ne, beq_eq_false_iff_ne, bne_eq_false_iff_eq, ne_eq, decide_eq_true_eq, decide_eq_false_iff_not, Bool.and_eq_true, Bool.or_eq_true, Bool.and_eq_false_iff, Bool.or_eq_false_iff, Bool.false_eq_true, Bool.true_eq_false, reduceCtorEq] at h_)) <;> (try (first | (with_reducible contradiction) | (exfalso; omega)))) | (refine wpS_block ?_) | (refine wpS_ret ?_; (try simp only [thenS, blockS])) | (refine wpS_exit ?_; simp only [thenS, blockS, ↓reduceIte, Nat.reduceEqDiff]) | (refine wpS_skip ?_; (try simp only [thenS, blockS]))) | (refine useK (by with_reducible assumption) ?_)))
  ((with_reducible refine isLoop ?_); refine wpS_loopU [false, false, true, true, true, true, true, true, true, true, true, true, true, true, true, true, true, false, false, false] (fun u rs_ => ∃ k : Nat, k ≤ l.length ∧ u 3 = .int .i64 k ∧ (∀ j (hj : j < l.length), j < k → l[j].2.size ≤ 100) ∧ rs_ = []) (fun u => l.length - (intOf (u 3)).toNat) ?_ (fun u rs_ l_ K_ hN_ hl_ hR => ?_))
  · exact ⟨0, Nat.zero_le _, rfl, by simp, rfl⟩
  · (simp only [mask_t, mask_f, mask_n, Nat.reduceAdd] at hl_; subst hl_)
    obtain ⟨k, hk, hu, hb, rfl⟩ := hR
    rw [hu]
    replace hb := Lib.hid hb
    by_cases hlt : k < l.length
    · obtain ⟨b, off, rfl, -, -, HC⟩ := opt_at hr k hlt
      (repeat' (first | ((with_reducible refine isOps ?_); first | (refine seqS_nil ?_; (try simp only [thenS, blockS])) | refine aVh (opv_bin rfl rfl (fun w_ hs_ => by (exact HC.out _ hs_.mod))) ?_ | refine aV ?_ | refine aVh (opv_loadO rfl (fun w_ hs_ => by (exact HC.out _ hs_.mod))) ?_) | ((with_reducible refine isWp ?_); first | (refine wpS_seq (fun K_ hK_ => ?_)) | (refine wpS_region ?_) | (refine wpS_cond rfl (fun h_ => ?_) (fun h_ => ?_) <;> (try (simp only [beq_iff_eq, bne_iff_ne, beq_eq_false_iff_ne, bne_eq_false_iff_eq, ne_eq, decide_eq_true_eq, decide_eq_false_iff_not, Bool.and_eq_true, Bool.or_eq_true, Bool.and_eq_false_iff, Bool.or_eq_false_iff, Bool.false_eq_true, Bool.true_eq_false, reduceCtorEq] at h_)) <;> (try (first | (with_reducible contradiction) | (exfalso; omega)))) | (refine wpS_block ?_) | (refine wpS_ret ?_; (try simp only [thenS, blockS])) | (refine wpS_exit ?_; simp only [thenS, blockS, ↓reduceIte, Nat.reduceEqDiff]) | (refine wpS_skip ?_; (try simp only [thenS, blockS]))) | (refine useK (by with_reducible assumption) ?_)))
      · (first | refine r1_ Tryz.results50 (fun w_ hs_ => ?_) | refine r2_ Tryz.results50 (fun w_ hs_ => ?_) | refine r3_ Tryz.results50 (fun w_ hs_ => ?_) | refine retS0 Tryz.results50 (fun w_ hs_ => ?_) | refine retN0 Tryz.results50 (fun w_ hs_ => ?_))
        refine ⟨?_, hs_.mod⟩
        have : great l = true := by
          unfold great
          rw [List.any_eq_true.2 ⟨l[k], List.getElem_mem hlt, by simp; omega⟩]; rfl
        rw [this]
      · (refine hN_ _ ([]) _ rfl ?_ (by first | ((repeat (first | exact List.Sublist.refl _ | exact List.nil_sublist _ | apply List.Sublist.cons_cons | apply List.Sublist.cons)); done) | fail) ?_ <;> dsimp only [List.getD_cons_succ, List.getD_cons_zero])
        · refine ⟨k + 1, by omega, by go_num, fun j hj hjk => ?_, rfl⟩
          by_cases e : j = k
          · subst e; omega
          · exact hb.out j hj (by omega)
        · rw [hu]; simp [intOf]; omega
    · (repeat' (first | ((with_reducible refine isOps ?_); first | (refine seqS_nil ?_; (try simp only [thenS, blockS])) | refine aV ?_) | ((with_reducible refine isWp ?_); first | (refine wpS_seq (fun K_ hK_ => ?_)) | (refine wpS_region ?_) | (refine wpS_cond rfl (fun h_ => ?_) (fun h_ => ?_) <;> (try (simp only [beq_iff_eq, bne_iff_ne, beq_eq_false_iff_ne, bne_eq_false_iff_eq, ne_eq, decide_eq_true_eq, decide_eq_false_iff_not, Bool.and_eq_true, Bool.or_eq_true, Bool.and_eq_false_iff, Bool.or_eq_false_iff, Bool.false_eq_true, Bool.true_eq_false, reduceCtorEq] at h_)) <;> (try (first | (with_reducible contradiction) | (exfalso; omega)))) | (refine wpS_block ?_) | (refine wpS_ret ?_; (try simp only [thenS, blockS])) | (refine wpS_exit ?_; simp only [thenS, blockS, ↓reduceIte, Nat.reduceEqDiff]) | (refine wpS_skip ?_; (try simp only [thenS, blockS]))) | (refine useK (by with_reducible assumption) ?_)))
      (first | refine r1_ Tryz.results50 (fun w_ hs_ => ?_) | refine r2_ Tryz.results50 (fun w_ hs_ => ?_) | refine r3_ Tryz.results50 (fun w_ hs_ => ?_) | refine retS0 Tryz.results50 (fun w_ hs_ => ?_) | refine retN0 Tryz.results50 (fun w_ hs_ => ?_))
      refine ⟨?_, hs_.mod⟩
      have h1 : (l.any fun o => decide (100 < o.2.size)) = false := by
        rw [List.any_eq_false]
        intro o ho
        obtain ⟨j, hj, rfl⟩ := List.getElem_of_mem ho
        have := hb.out j hj (by omega)
        simp; omega
      have h2 : decide (60 < (l.length : Int)) = decide (60 < l.length) := by rw [Bool.eq_iff_iff]; simp; omega
      unfold great
      rw [h1, Bool.false_or, ← h2]
theorem great_not {l : List Opt} (h : great l = false) : l.length ≤ 60 ∧ ∀ j (hj : j < l.length), l[j].2.size ≤ 100 := by
  unfold great at h
  rw [Bool.or_eq_false_iff, List.any_eq_false] at h
  refine ⟨by simpa using h.2, fun j hj => ?_⟩
  have := h.1 _ (List.getElem_mem hj)
  simp at this; omega

/-! ### How many bytes -/
def optSize (o : Opt) : Int := if o.1 == 1 then 1 else 2 + o.2.size
def rawSize (l : List Opt) : Int := (l.map optSize).sum
theorem rawSize_snoc (l : List Opt) (k : Nat) (h : k < l.length) : rawSize (l.take (k + 1)) = rawSize (l.take k) + optSize l[k] := by
  unfold rawSize; rw [List.take_succ_eq_append_getElem h, List.map_append, List.sum_append]; simp
theorem rawSize_all (l : List Opt) (k : Nat) (h : l.length ≤ k) : rawSize (l.take k) = rawSize l := by rw [List.take_of_length_le h]
theorem optSize_rng (o : Opt) (h : o.2.size ≤ 100) : 1 ≤ optSize o ∧ optSize o ≤ 102 := by unfold optSize; split <;> omega
theorem rawSize_rng (l : List Opt) (k : Nat) (h : k ≤ l.length) (h1 : ∀ j (hj : j < l.length), l[j].2.size ≤ 100) : 0 ≤ rawSize (l.take k) ∧ rawSize (l.take k) ≤ 102 * k := by
  induction k with
  | zero => simp [rawSize]
  | succ k ih =>
    have := ih (by omega)
    rw [rawSize_snoc l k (by omega)]
    have := optSize_rng l[k] (h1 k (by omega))
    omega
def allSize (l : List Opt) : Int := (rawSize l + 3) / 4 * 4
set_option maxHeartbeats 1000000 in
theorem size_any (o : Opt) (ho : o.2.size ≤ 100) (w : World) : Calls Tryz.prog 126 #[ov o] w fun e w' => e = .returned (.int .i64 (optSize o)) ∧ Mod [] w w' := by
  unfold optSize
  (refine enterS ([]) (Sep.start _ []) Tryz.func126 rfl ?_; simp only [Tryz.ntmps126, List.size_toArray, List.length_cons, List.length_nil, Nat.reduceAdd, Nat.reduceSub, Array.replicate_succ, Array.replicate_zero, List.push_toArray, List.append_toArray, List.nil_append, List.cons_append])
  (repeat' (first | ((with_reducible refine isOps ?_); first | (refine seqS_nil ?_; (try simp only [thenS, blockS])) | ((with_reducible refine isBox ?_); first | (refine aBox (fun n_ l_ hl_ => ?_); dsimp only [sS, sZ] at hl_; subst hl_)) | refine aV ?_) | ((with_reducible refine isWp ?_); first | (refine wpS_seq (fun K_ hK_ => ?_)) | (refine wpS_region ?_) | (refine wpS_cond rfl (fun h_ => ?_) (fun h_ => ?_) <;> (try (simp only [beq_iff_eq, bne_iff_ne, beq_eq_false_iff_ne, bne_eq_false_iff_eq, ne_eq, decide_eq_true_eq, decide_eq_false_iff_not, Bool.and_eq_true, Bool.or_eq_true, Bool.and_eq_false_iff, Bool.or_eq_false_iff, Bool.false_eq_true, Bool.true_eq_false, reduceCtorEq] at h_)) <;> (try (first | (with_reducible contradiction) | (exfalso; omega)))) | (refine wpS_block ?_) | (refine wpS_ret ?_; (try simp only [thenS, blockS])) | (refine wpS_exit ?_; simp only [thenS, blockS, ↓reduceIte, Nat.reduceEqDiff]) | (refine wpS_skip ?_; (try simp only [thenS, blockS]))) | (refine useK (by with_reducible assumption) ?_)))
  all_goals
    (first | refine r1_ Tryz.results126 (fun w_ hs_ => ?_) | refine r2_ Tryz.results126 (fun w_ hs_ => ?_) | refine r3_ Tryz.results126 (fun w_ hs_ => ?_) | refine retS0 Tryz.results126 (fun w_ hs_ => ?_) | refine retN0 Tryz.results126 (fun w_ hs_ => ?_))
    refine ⟨?_, hs_.mod⟩
    first | rw [if_pos (by simpa using h_)] | rw [if_neg (by simpa using h_)]
set_option maxHeartbeats 1000000 in
theorem Size_any (v : Value) (l : List Opt) (w : World) (hr : Structs enOpt 2 w v l) (hg : great l = false) :
    Calls Tryz.prog 124 #[v] w fun e w' => e = .returned (.int .i64 (allSize l)) ∧ Mod [] w w' := by
  obtain ⟨hl60, h100⟩ := great_not hg
  have hR0 := fun k hk => rawSize_rng l k hk h100
  replace h100 := Lib.hid h100
  replace hR0 := Lib.hid hR0
  obtain ⟨A, cap, rfl⟩ := hr.form
  (refine enterS ([]) (Sep.start _ []) Tryz.func124 rfl ?_; simp only [Tryz.ntmps124, List.size_toArray, List.length_cons, List.length_nil, Nat.reduceAdd, Nat.reduceSub, Array.replicate_succ, Array.replicate_zero, List.push_toArray, List.append_toArray, List.nil_append, List.cons_append])
  (repeat' (first | ((with_reducible refine isOps ?_); first | (refine seqS_nil ?_; (try simp only [thenS, blockS])) | ((with_reducible refine isStore ?_); first | refine aSt ?_) | ((with_reducible refine isAlloc ?_); first | (refine aAl (fun n_ l_ hl_ => ?_); dsimp only [sS, sZ] at hl_; subst hl_)) | refine aV ?_) | ((with_reducible refine isWp ?_); first | (refine wpS_seq (fun K_ hK_ => ?_)) | (refine wpS_region ?_) | (refine wpS_cond rfl (fun h_ => ?_) (fun h_ => ?_) <;> (try (simp only [beq_iff_eq, bne_iff_ne, beq_eq_false_iff_ne, bne_eq_false_iff_eq, ne_eq, decide_eq_true_eq, decide_eq_false_iff_not, Bool.and_eq_true, Bool.or_eq_true, Bool.and_eq_false_iff, Bool.or_eq_false_iff, Bool.false_eq_true, Bool.true_eq_false, reduceCtorEq] at h_)) <;> (try (first | (with_reducible contradiction) | (exfalso; omega)))) | (refine wpS_block ?_) | (refine wpS_ret ?_; (try simp only [thenS, blockS])) | (refine wpS_exit ?_; simp only [thenS, blockS, ↓reduceIte, Nat.reduceEqDiff]) | (refine wpS_skip ?_; (try simp only [thenS, blockS]))) | (refine useK (by with_reducible assumption) ?_)))
  ((with_reducible refine isLoop ?_); refine wpS_loopU [false, false, false, true, false, true, false, false, true, true, true, true, true, true, true, true, true, false, false, false, false, false] (fun u rs_ => ∃ k : Nat, k ≤ l.length ∧ u 8 = .int .i64 k ∧ u 3 = .int .i64 (rawSize (l.take k)) ∧ rs_ = []) (fun u => l.length - (intOf (u 8)).toNat) ?_ (fun u rs_ l_ K_ hN_ hl_ hR => ?_))
  · exact ⟨0, Nat.zero_le _, rfl, rfl, rfl⟩
  · (simp only [mask_t, mask_f, mask_n, Nat.reduceAdd] at hl_; subst hl_)
    obtain ⟨k, hk, hu, hu3, rfl⟩ := hR
    rw [hu, hu3]
    have hrk := hR0.out k hk
    by_cases hlt : k < l.length
    · obtain ⟨b, off, rfl, HC, -, -⟩ := opt_at hr k hlt
      have hsn := Lib.hid (rawSize_snoc l k hlt)
      have hok := h100.out k hlt
      have hsz := optSize_rng l[k] hok
      (repeat' (first | ((with_reducible refine isOps ?_); first | (refine seqS_nil ?_; (try simp only [thenS, blockS])) | ((first | ((with_reducible refine isCallF ?_); refine aCF ?_) | ((with_reducible refine isCallV ?_); refine aCV ?_)); first | refine cS0 (fun w_ hs_ => size_any l[k] hok _) ?_) | ((with_reducible refine isStore ?_); first | refine aSt ?_) | ((with_reducible refine isAlloc ?_); first | (refine aAl (fun n_ l_ hl_ => ?_); dsimp only [sS, sZ] at hl_; subst hl_)) | refine aVh (opv_bin rfl rfl (fun w_ hs_ => by (exact HC.out _ hs_.mod))) ?_ | refine aV ?_ | refine aVh (opv_loadO rfl (fun w_ hs_ => by (exact HC.out _ hs_.mod))) ?_) | ((with_reducible refine isWp ?_); first | (refine wpS_seq (fun K_ hK_ => ?_)) | (refine wpS_region ?_) | (refine wpS_cond rfl (fun h_ => ?_) (fun h_ => ?_) <;> (try (simp only [beq_iff_eq, bne_iff_ne, beq_eq_false_iff_ne, bne_eq_false_iff_eq, ne_eq, decide_eq_true_eq, decide_eq_false_iff_not, Bool.and_eq_true, Bool.or_eq_true, Bool.and_eq_false_iff, Bool.or_eq_false_iff, Bool.false_eq_true, Bool.true_eq_false, reduceCtorEq] at h_)) <;> (try (first | (with_reducible contradiction) | (exfalso; omega)))) | (refine wpS_block ?_) | (refine wpS_ret ?_; (try simp only [thenS, blockS])) | (refine wpS_exit ?_; simp only [thenS, blockS, ↓reduceIte, Nat.reduceEqDiff]) | (refine wpS_skip ?_; (try simp only [thenS, blockS]))) | (refine useK (by with_reducible assumption) ?_)))
      (refine hN_ _ ([]) _ rfl ?_ (by first | ((repeat (first | exact List.Sublist.refl _ | exact List.nil_sublist _ | apply List.Sublist.cons_cons | apply List.Sublist.cons)); done) | fail) ?_ <;> dsimp only [List.getD_cons_succ, List.getD_cons_zero])
      · exact ⟨k + 1, by omega, by go_num, by rw [hsn.out]; rfl, rfl⟩
      · rw [hu]; simp [intOf]; omega
    · have e := rawSize_all l k (by omega)
      (repeat' (first | ((with_reducible refine isOps ?_); first | (refine seqS_nil ?_; (try simp only [thenS, blockS])) | ((with_reducible refine isStore ?_); first | refine aSt ?_) | ((with_reducible refine isAlloc ?_); first | (refine aAl (fun n_ l_ hl_ => ?_); dsimp only [sS, sZ] at hl_; subst hl_)) | refine aV ?_) | ((with_reducible refine isWp ?_); first | (refine wpS_seq (fun K_ hK_ => ?_)) | (refine wpS_region ?_) | (refine wpS_cond rfl (fun h_ => ?_) (fun h_ => ?_) <;> (try (simp only [beq_iff_eq, bne_iff_ne, beq_eq_false_iff_ne, bne_eq_false_iff_eq, ne_eq, decide_eq_true_eq, decide_eq_false_iff_not, Bool.and_eq_true, Bool.or_eq_true, Bool.and_eq_false_iff, Bool.or_eq_false_iff, Bool.false_eq_true, Bool.true_eq_false, reduceCtorEq] at h_)) <;> (try (first | (with_reducible contradiction) | (exfalso; omega)))) | (refine wpS_block ?_) | (refine wpS_ret ?_; (try simp only [thenS, blockS])) | (refine wpS_exit ?_; simp only [thenS, blockS, ↓reduceIte, Nat.reduceEqDiff]) | (refine wpS_skip ?_; (try simp only [thenS, blockS]))) | (refine useK (by with_reducible assumption) ?_)))
      (first | refine r1_ Tryz.results124 (fun w_ hs_ => ?_) | refine r2_ Tryz.results124 (fun w_ hs_ => ?_) | refine r3_ Tryz.results124 (fun w_ hs_ => ?_) | refine retS0 Tryz.results124 (fun w_ hs_ => ?_) | refine retN0 Tryz.results124 (fun w_ hs_ => ?_))
      exact ⟨by rw [allSize, show rawSize l + 4 - 1 = rawSize l + 3 from by omega], hs_.mod⟩
set_option maxHeartbeats 1000000 in
theorem refSize_any (v : Value) (l : List Opt) (w : World) (hr : Structs enOpt 2 w v l) (hg : great l = false) :
    Calls Tryz.prog 61 #[v] w fun e w' => e = .returned (.int .i64 (allSize l)) ∧ Mod [] w w' := by
  obtain ⟨hl60, h100⟩ := great_not hg
  have hR0 := fun k hk => rawSize_rng l k hk h100
  replace h100 := Lib.hid h100
  replace hR0 := Lib.hid hR0
  obtain ⟨A, cap, rfl⟩ := hr.form
  (refine enterS ([]) (Sep.start _ []) Tryz.func61 rfl ?_; simp only [Tryz.ntmps61, List.size_toArray, List.length_cons, List.length_nil, Nat.reduceAdd, Nat.reduceSub, Array.replicate_succ, Array.replicate_zero, List.push_toArray, List.append_toArray, List.nil_append, List.cons_append])
  (repeat' (first | ((with_reducible refine isOps ?_); first | (refine seqS_nil ?_; (try simp only [thenS, blockS])) | refine aV ?_) | ((with_reducible refine isWp ?_); first | (refine wpS_seq (fun K_ hK_ => ?_)) | (refine wpS_region ?_) | (refine wpS_cond rfl (fun h_ => ?_) (fun h_ => ?_) <;> (try (simp only [beq_iff_eq, bne_iff_ne, beq_eq_false_iff_ne, bne_eq_false_iff_eq, ne_eq, decide_eq_true_eq, decide_eq_false_iff_not, Bool.and_eq_true, Bool.or_eq_true, Bool.and_eq_false_iff, Bool.or_eq_false_iff, Bool.false_eq_true, Bool.true_eq_false, reduceCtorEq] at h_)) <;> (try (first | (with_reducible contradiction) | (exfalso; omega)))) | (refine wpS_block ?_) | (refine wpS_ret ?_; (try simp only [thenS, blockS])) | (refine wpS_exit ?_; simp only [thenS, blockS, ↓reduceIte, Nat.reduceEqDiff]) | (refine wpS_skip ?_; (try simp only [thenS, blockS]))) | (refine useK (by with_reducible assumption) ?_)))
  ((with_reducible refine isLoop ?_); refine wpS_loopU [false, false, false, true, true, true, true, true, true, true, true, true, true, true, true, true, true, true, true, true, true, true, true, true, true, true, true, true, false, false, false, false, false, false] (fun u rs_ => ∃ k : Nat, k ≤ l.length ∧ u 4 = .int .i64 k ∧ u 3 = .int .i64 (rawSize (l.take k)) ∧ rs_ = []) (fun u => l.length - (intOf (u 4)).toNat) ?_ (fun u rs_ l_ K_ hN_ hl_ hR => ?_))
  · exact ⟨0, Nat.zero_le _, rfl, rfl, rfl⟩
  · (simp only [mask_t, mask_f, mask_n, Nat.reduceAdd] at hl_; subst hl_)
    obtain ⟨k, hk, hu, hu3, rfl⟩ := hR
    rw [hu, hu3]
    have hrk := hR0.out k hk
    by_cases hlt : k < l.length
    · obtain ⟨b, off, rfl, -, HK, HD⟩ := opt_at hr k hlt
      have hsn := Lib.hid (rawSize_snoc l k hlt)
      have hok := h100.out k hlt
      (repeat' (first | ((with_reducible refine isOps ?_); first | (refine seqS_nil ?_; (try simp only [thenS, blockS])) | refine aVh (opv_bin rfl rfl (fun w_ hs_ => by (first | exact HK.out _ hs_.mod | exact HD.out _ hs_.mod))) ?_ | refine aV ?_ | refine aVh (opv_loadO rfl (fun w_ hs_ => by (first | exact HK.out _ hs_.mod | exact HD.out _ hs_.mod))) ?_) | ((with_reducible refine isWp ?_); first | (refine wpS_seq (fun K_ hK_ => ?_)) | (refine wpS_region ?_) | (refine wpS_cond rfl (fun h_ => ?_) (fun h_ => ?_) <;> (try (simp only [beq_iff_eq, bne_iff_ne, beq_eq_false_iff_ne, bne_eq_false_iff_eq, ne_eq, decide_eq_true_eq, decide_eq_false_iff_not, Bool.and_eq_true, Bool.or_eq_true, Bool.and_eq_false_iff, Bool.or_eq_false_iff, Bool.false_eq_true, Bool.true_eq_false, reduceCtorEq] at h_)) <;> (try (first | (with_reducible contradiction) | (exfalso; omega)))) | (refine wpS_block ?_) | (refine wpS_ret ?_; (try simp only [thenS, blockS])) | (refine wpS_exit ?_; simp only [thenS, blockS, ↓reduceIte, Nat.reduceEqDiff]) | (refine wpS_skip ?_; (try simp only [thenS, blockS]))) | (refine useK (by with_reducible assumption) ?_)))
      all_goals
        (refine hN_ _ ([]) _ rfl ?_ (by first | ((repeat (first | exact List.Sublist.refl _ | exact List.nil_sublist _ | apply List.Sublist.cons_cons | apply List.Sublist.cons)); done) | fail) ?_ <;> dsimp only [List.getD_cons_succ, List.getD_cons_zero])
        · refine ⟨k + 1, by omega, by go_num, ?_, rfl⟩
          rw [hsn.out, optSize]
          first
            | rw [if_pos (by simpa using h_)]; rfl
            | rw [if_neg (by simpa using h_)]; go_num
        · rw [hu]; simp [intOf]; omega
    · have e := rawSize_all l k (by omega)
      rw [e] at hrk ⊢
      (repeat' (first | ((with_reducible refine isOps ?_); first | (refine seqS_nil ?_; (try simp only [thenS, blockS])) | refine aV ?_) | ((with_reducible refine isWp ?_); first | (refine wpS_seq (fun K_ hK_ => ?_)) | (refine wpS_region ?_) | (refine wpS_cond rfl (fun h_ => ?_) (fun h_ => ?_) <;> (try (simp only [beq_iff_eq, bne_iff_ne, beq_eq_false_iff_ne, bne_eq_false_iff_eq, ne_eq, decide_eq_true_eq, decide_eq_false_iff_not, Bool.and_eq_true, Bool.or_eq_true, Bool.and_eq_false_iff, Bool.or_eq_false_iff, Bool.false_eq_true, Bool.true_eq_false, reduceCtorEq] at h_)) <;> (try (first | (with_reducible contradiction) | (exfalso; omega)))) | (refine wpS_block ?_) | (refine wpS_ret ?_; (try simp only [thenS, blockS])) | (refine wpS_exit ?_; simp only [thenS, blockS, ↓reduceIte, Nat.reduceEqDiff]) | (refine wpS_skip ?_; (try simp only [thenS, blockS]))) | (refine useK (by with_reducible assumption) ?_)))
      ((with_reducible refine isLoop ?_); refine wpS_loopU [false, false, false, true, false, false, false, false, false, false, false, false, false, false, false, false, false, false, false, false, false, false, false, false, false, false, false, false, true, true, true, true, true, false] (fun u rs_ => ∃ n : Int, u 3 = .int .i64 n ∧ rawSize l ≤ n ∧ n ≤ allSize l ∧ rs_ = []) (fun u => (allSize l - intOf (u 3)).toNat) ?_ (fun u rs_ l_ K_ hN_ hl_ hR => ?_))
      · exact ⟨_, rfl, Int.le_refl _, by unfold allSize; omega, rfl⟩
      · (simp only [mask_t, mask_f, mask_n, Nat.reduceAdd] at hl_; subst hl_)
        obtain ⟨n, hu, h1, h2, rfl⟩ := hR
        rw [hu]
        unfold allSize at h2
        (repeat' (first | ((with_reducible refine isOps ?_); first | (refine seqS_nil ?_; (try simp only [thenS, blockS])) | refine aV ?_) | ((with_reducible refine isWp ?_); first | (refine wpS_seq (fun K_ hK_ => ?_)) | (refine wpS_region ?_) | (refine wpS_cond rfl (fun h_ => ?_) (fun h_ => ?_) <;> (try (simp only [beq_iff_eq, bne_iff_ne, beq_eq_false_iff_ne, bne_eq_false_iff_eq, ne_eq, decide_eq_true_eq, decide_eq_false_iff_not, Bool.and_eq_true, Bool.or_eq_true, Bool.and_eq_false_iff, Bool.or_eq_false_iff, Bool.false_eq_true, Bool.true_eq_false, reduceCtorEq] at h_)) <;> (try (first | (with_reducible contradiction) | (exfalso; omega)))) | (refine wpS_block ?_) | (refine wpS_ret ?_; (try simp only [thenS, blockS])) | (refine wpS_exit ?_; simp only [thenS, blockS, ↓reduceIte, Nat.reduceEqDiff]) | (refine wpS_skip ?_; (try simp only [thenS, blockS]))) | (refine useK (by with_reducible assumption) ?_)))
        · (refine hN_ _ ([]) _ rfl ?_ (by first | ((repeat (first | exact List.Sublist.refl _ | exact List.nil_sublist _ | apply List.Sublist.cons_cons | apply List.Sublist.cons)); done) | fail) ?_ <;> dsimp only [List.getD_cons_succ, List.getD_cons_zero])
          · exact ⟨n + 1, by go_num, by omega, by unfold allSize; omega, rfl⟩
          · rw [hu]; show (allSize l - (n + 1)).toNat < (allSize l - n).toNat; unfold allSize; omega
        · (first | refine r1_ Tryz.results61 (fun w_ hs_ => ?_) | refine r2_ Tryz.results61 (fun w_ hs_ => ?_) | refine r3_ Tryz.results61 (fun w_ hs_ => ?_) | refine retS0 Tryz.results61 (fun w_ hs_ => ?_) | refine retN0 Tryz.results61 (fun w_ hs_ => ?_))
          exact ⟨by rw [show n = allSize l from by unfold allSize; omega], hs_.mod⟩
end Go.Proofs.YtmcaigmpcbkfpaaGreat
