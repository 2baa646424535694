/- Package option: two lists of options; what was encoded is read as it was. -/
import Derived.Test.YtmcaigmpcbkfpaaGreatOpt6
set_option linter.unusedVariables false
set_option linter.unusedSimpArgs false
namespace Go.Proofs.YtmcaigmpcbkfpaaGreat
set_option maxRecDepth 8000
attribute [local irreducible] blk wpS seqS ordS OpVal RV endS LoadV StoreV Calls
open Go.RowKit Go.ChangeShapes Go.WideShapes Go.Deep
/-! ### Comparing -/
theorem bytes_inj {a b : ByteArray} : a.toList = b.toList ↔ a = b :=
  ⟨fun h => ByteArray.ext (Array.toList_inj.1 (by rw [ByteArray.toList_eq, ByteArray.toList_eq] at h; exact h)), fun h => by rw [h]⟩
theorem eqOpt (a b : Opt) (w : World) : (Op.equalIn 10000 140 (ov a) (ov b)).run Tryz.prog w = .ok (decide (a = b)) w := by
  go_simp
  simp only [bytes_inj]
  obtain ⟨a1, a2⟩ := a
  obtain ⟨b1, b2⟩ := b
  by_cases h1 : a1 = b1 <;> by_cases h2 : a2 = b2 <;> simp [h1, h2]
theorem neqOptV (x y : Operand) (a b : Opt) (w : World) : ((do eqGuard .neq 140 x y (ov a) (ov b); binOp .neq 140 (ov a) (ov b)) : Sem Value).run Tryz.prog w = .ok (.bool (!decide (a = b))) w := by
  have h := eqOpt a b w
  rw [Sem.run_bind, run_eqGuard_agg w _ _ _ _ _ _ Tryz.eqGuardType140, Result.andThen_ok, run_neq_struct, h]
  rfl
theorem neqOpt_ne (x y : Operand) (a b : Opt) (w : World) (h : a ≠ b) : ((do eqGuard .neq 140 x y (ov a) (ov b); binOp .neq 140 (ov a) (ov b)) : Sem Value).run Tryz.prog w = .ok (.bool true) w := by
  rw [neqOptV, show decide (a = b) = false from by simpa using h]; rfl
theorem neqOpt_eq (x y : Operand) (a b : Opt) (w : World) (h : a = b) : ((do eqGuard .neq 140 x y (ov a) (ov b); binOp .neq 140 (ov a) (ov b)) : Sem Value).run Tryz.prog w = .ok (.bool false) w := by
  rw [neqOptV, show decide (a = b) = true from by simpa using h]; rfl
set_option maxHeartbeats 2000000 in
theorem refSame_any (v v' : Value) (l m : List Opt) (w : World) (hr : Structs enOpt 2 w v l) (hr' : Structs enOpt 2 w v' m) :
    Calls Tryz.prog 45 #[v, v'] w fun e w' => e = .returned (.bool (decide (l = m))) ∧ Mod [] w w' := by
  have hll := hr.len
  have hlm := hr'.len
  obtain ⟨A, cap, rfl⟩ := hr.form
  obtain ⟨A', cap', rfl⟩ := hr'.form
  by_cases hne : l.length = m.length
  case neg =>
    have hd : decide (l = m) = false := by simp; exact fun e => hne (by rw [e])
    (refine enterS ([]) (Sep.start _ []) Tryz.func45 rfl ?_; simp only [Tryz.ntmps45, List.size_toArray, List.length_cons, List.length_nil, Nat.reduceAdd, Nat.reduceSub, Array.replicate_succ, Array.replicate_zero, List.push_toArray, List.append_toArray, List.nil_append, List.cons_append])
    (repeat' (first | ((with_reducible refine isOps ?_); first | (refine seqS_nil ?_; (try simp only [thenS, blockS])) | refine aV ?_) | ((with_reducible refine isOrd ?_); first | (refine ordS_nil ?_; (try simp only [thenS, blockS, blks, List.map_cons, List.map_nil, List.cons_append, List.nil_append])) | refine oV ?_ | refine oLd ?_) | ((with_reducible refine isWp ?_); first | (refine wpS_seq (fun K_ hK_ => ?_)) | (refine wpS_region ?_) | (refine wpS_cond rfl (fun h_ => ?_) (fun h_ => ?_) <;> (try (simp only [beq_iff_eq, bne_iff_ne, beq_eq_false_iff_ne, bne_eq_false_iff_eq, ne_eq, decide_eq_true_eq, decide_eq_false_iff_not, Bool.and_eq_true, Bool.or_eq_true, Bool.and_eq_false_iff, Bool.or_eq_false_iff, Bool.false_eq_true, Bool.true_eq_false, reduceCtorEq] at h_)) <;> (try (first | (with_reducible contradiction) | (exfalso; omega)))) | (refine wpS_block ?_) | (refine wpS_ret ?_; (try simp only [thenS, blockS])) | (refine wpS_exit ?_; simp only [thenS, blockS, ↓reduceIte, Nat.reduceEqDiff]) | (refine wpS_skip ?_; (try simp only [thenS, blockS]))) | ((with_reducible refine isDraw ?_); refine wpS_drawT (by simp only [List.length_cons, List.length_nil, Nat.zero_add, Nat.reduceAdd, List.range'_succ, List.range'_zero]; rfl) (by kernel_rfl) (by kernel_rfl) (fun B_ hB_ hf_ => ?_)) | (refine useK (by with_reducible assumption) ?_)))
    (first | refine r1_ Tryz.results45 (fun w_ hs_ => ?_) | refine r2_ Tryz.results45 (fun w_ hs_ => ?_) | refine r3_ Tryz.results45 (fun w_ hs_ => ?_) | refine retS0 Tryz.results45 (fun w_ hs_ => ?_) | refine retN0 Tryz.results45 (fun w_ hs_ => ?_))
    exact ⟨by rw [hd], hs_.mod⟩
  (refine enterS ([]) (Sep.start _ []) Tryz.func45 rfl ?_; simp only [Tryz.ntmps45, List.size_toArray, List.length_cons, List.length_nil, Nat.reduceAdd, Nat.reduceSub, Array.replicate_succ, Array.replicate_zero, List.push_toArray, List.append_toArray, List.nil_append, List.cons_append])
  (repeat' (first | ((with_reducible refine isOps ?_); first | (refine seqS_nil ?_; (try simp only [thenS, blockS])) | refine aV ?_) | ((with_reducible refine isOrd ?_); first | (refine ordS_nil ?_; (try simp only [thenS, blockS, blks, List.map_cons, List.map_nil, List.cons_append, List.nil_append])) | refine oV ?_ | refine oLd ?_) | ((with_reducible refine isWp ?_); first | (refine wpS_seq (fun K_ hK_ => ?_)) | (refine wpS_region ?_) | (refine wpS_cond rfl (fun h_ => ?_) (fun h_ => ?_) <;> (try (simp only [beq_iff_eq, bne_iff_ne, beq_eq_false_iff_ne, bne_eq_false_iff_eq, ne_eq, decide_eq_true_eq, decide_eq_false_iff_not, Bool.and_eq_true, Bool.or_eq_true, Bool.and_eq_false_iff, Bool.or_eq_false_iff, Bool.false_eq_true, Bool.true_eq_false, reduceCtorEq] at h_)) <;> (try (first | (with_reducible contradiction) | (exfalso; omega)))) | (refine wpS_block ?_) | (refine wpS_ret ?_; (try simp only [thenS, blockS])) | (refine wpS_exit ?_; simp only [thenS, blockS, ↓reduceIte, Nat.reduceEqDiff]) | (refine wpS_skip ?_; (try simp only [thenS, blockS]))) | ((with_reducible refine isDraw ?_); refine wpS_drawT (by simp only [List.length_cons, List.length_nil, Nat.zero_add, Nat.reduceAdd, List.range'_succ, List.range'_zero]; rfl) (by kernel_rfl) (by kernel_rfl) (fun B_ hB_ hf_ => ?_)) | (refine useK (by with_reducible assumption) ?_)))
  ((with_reducible refine isLoop ?_); refine wpS_loopU [false, false, false, false, true, true, false, false, false, false, false, true, true, true, true, true, true, true, true, true, true, true, true, true, true, true] (fun u rs_ => ∃ k : Nat, k ≤ l.length ∧ u 5 = .int .i64 k ∧ (∀ j (hj : j < l.length), j < k → l[j] = m[j]'(by omega)) ∧ rs_ = []) (fun u => l.length - (intOf (u 5)).toNat) ?_ (fun u rs_ l_ K_ hN_ hl_ hR => ?_))
  · exact ⟨0, Nat.zero_le _, rfl, by simp, rfl⟩
  · (simp only [mask_t, mask_f, mask_n, Nat.reduceAdd] at hl_; subst hl_)
    obtain ⟨k, hk, hu, hb, rfl⟩ := hR
    rw [hu]
    replace hb := Lib.hid hb
    by_cases hlt : k < l.length
    · obtain ⟨b, off, rfl, HC, -, -⟩ := opt_at hr k hlt
      obtain ⟨b', off', rfl, HD, -, -⟩ := opt_at hr' k (by omega)
      by_cases heq : l[k] = m[k]'(by omega)
      · (repeat' (first | ((with_reducible refine isOps ?_); first | (refine seqS_nil ?_; (try simp only [thenS, blockS])) | refine aVh (opv_bin rfl rfl (fun w_ hs_ => by (first | exact HC.out _ hs_.mod | exact HD.out _ hs_.mod | exact neqOpt_eq _ _ _ _ _ heq))) ?_ | refine aV ?_ | refine aVh (opv_loadO rfl (fun w_ hs_ => by (first | exact HC.out _ hs_.mod | exact HD.out _ hs_.mod | exact neqOpt_eq _ _ _ _ _ heq))) ?_) | ((with_reducible refine isOrd ?_); first | (refine ordS_nil ?_; (try simp only [thenS, blockS, blks, List.map_cons, List.map_nil, List.cons_append, List.nil_append])) | (refine oAt rfl ?_; refine oVh (opv_bin rfl rfl (fun w_ hs_ => by (first | exact HC.out _ hs_.mod | exact HD.out _ hs_.mod | exact neqOpt_eq _ _ _ _ _ heq))) ?_) | refine oV ?_ | (refine oAt rfl ?_; refine oVh (opv_loadO rfl (fun w_ hs_ => by (first | exact HC.out _ hs_.mod | exact HD.out _ hs_.mod | exact neqOpt_eq _ _ _ _ _ heq))) ?_) | refine oLd ?_) | ((with_reducible refine isWp ?_); first | (refine wpS_seq (fun K_ hK_ => ?_)) | (refine wpS_region ?_) | (refine wpS_cond rfl (fun h_ => ?_) (fun h_ => ?_) <;> (try (simp only [beq_iff_eq, bne_iff_ne, beq_eq_false_iff_ne, bne_eq_false_iff_eq, ne_eq, decide_eq_true_eq, decide_eq_false_iff_not, Bool.and_eq_true, Bool.or_eq_true, Bool.and_eq_false_iff, Bool.or_eq_false_iff, Bool.false_eq_true, Bool.true_eq_false, reduceCtorEq] at h_)) <;> (try (first | (with_reducible contradiction) | (exfalso; omega)))) | (refine wpS_block ?_) | (refine wpS_ret ?_; (try simp only [thenS, blockS])) | (refine wpS_exit ?_; simp only [thenS, blockS, ↓reduceIte, Nat.reduceEqDiff]) | (refine wpS_skip ?_; (try simp only [thenS, blockS]))) | ((with_reducible refine isDraw ?_); refine wpS_drawT (by simp only [List.length_cons, List.length_nil, Nat.zero_add, Nat.reduceAdd, List.range'_succ, List.range'_zero]; rfl) (by kernel_rfl) (by kernel_rfl) (fun B_ hB_ hf_ => ?_)) | (refine useK (by with_reducible assumption) ?_)))
        (refine hN_ _ ([]) _ rfl ?_ (by first | ((repeat (first | exact List.Sublist.refl _ | exact List.nil_sublist _ | apply List.Sublist.cons_cons | apply List.Sublist.cons)); done) | fail) ?_ <;> dsimp only [List.getD_cons_succ, List.getD_cons_zero])
        · refine ⟨k + 1, by omega, by go_num, fun j hj hjk => ?_, rfl⟩
          by_cases e : j = k
          · subst e; exact heq
          · exact hb.out j hj (by omega)
        · rw [hu]; simp [intOf]; omega
      · (repeat' (first | ((with_reducible refine isOps ?_); first | (refine seqS_nil ?_; (try simp only [thenS, blockS])) | refine aVh (opv_bin rfl rfl (fun w_ hs_ => by (first | exact HC.out _ hs_.mod | exact HD.out _ hs_.mod | exact neqOpt_ne _ _ _ _ _ heq))) ?_ | refine aV ?_ | refine aVh (opv_loadO rfl (fun w_ hs_ => by (first | exact HC.out _ hs_.mod | exact HD.out _ hs_.mod | exact neqOpt_ne _ _ _ _ _ heq))) ?_) | ((with_reducible refine isOrd ?_); first | (refine ordS_nil ?_; (try simp only [thenS, blockS, blks, List.map_cons, List.map_nil, List.cons_append, List.nil_append])) | (refine oAt rfl ?_; refine oVh (opv_bin rfl rfl (fun w_ hs_ => by (first | exact HC.out _ hs_.mod | exact HD.out _ hs_.mod | exact neqOpt_ne _ _ _ _ _ heq))) ?_) | refine oV ?_ | (refine oAt rfl ?_; refine oVh (opv_loadO rfl (fun w_ hs_ => by (first | exact HC.out _ hs_.mod | exact HD.out _ hs_.mod | exact neqOpt_ne _ _ _ _ _ heq))) ?_) | refine oLd ?_) | ((with_reducible refine isWp ?_); first | (refine wpS_seq (fun K_ hK_ => ?_)) | (refine wpS_region ?_) | (refine wpS_cond rfl (fun h_ => ?_) (fun h_ => ?_) <;> (try (simp only [beq_iff_eq, bne_iff_ne, beq_eq_false_iff_ne, bne_eq_false_iff_eq, ne_eq, decide_eq_true_eq, decide_eq_false_iff_not, Bool.and_eq_true, Bool.or_eq_true, Bool.and_eq_false_iff, Bool.or_eq_false_iff, Bool.false_eq_true, Bool.true_eq_false, reduceCtorEq] at h_)) <;> (try (first | (with_reducible contradiction) | (exfalso; omega)))) | (refine wpS_block ?_) | (refine wpS_ret ?_; (try simp only [thenS, blockS])) | (refine wpS_exit ?_; simp only [thenS, blockS, ↓reduceIte, Nat.reduceEqDiff]) | (refine wpS_skip ?_; (try simp only [thenS, blockS]))) | ((with_reducible refine isDraw ?_); refine wpS_drawT (by simp only [List.length_cons, List.length_nil, Nat.zero_add, Nat.reduceAdd, List.range'_succ, List.range'_zero]; rfl) (by kernel_rfl) (by kernel_rfl) (fun B_ hB_ hf_ => ?_)) | (refine useK (by with_reducible assumption) ?_)))
        (first | refine r1_ Tryz.results45 (fun w_ hs_ => ?_) | refine r2_ Tryz.results45 (fun w_ hs_ => ?_) | refine r3_ Tryz.results45 (fun w_ hs_ => ?_) | refine retS0 Tryz.results45 (fun w_ hs_ => ?_) | refine retN0 Tryz.results45 (fun w_ hs_ => ?_))
        have hd2 : decide (l = m) = false := by simp; exact fun e => heq (by subst e; rfl)
        exact ⟨by rw [hd2], hs_.mod⟩
    · (repeat' (first | ((with_reducible refine isOps ?_); first | (refine seqS_nil ?_; (try simp only [thenS, blockS])) | refine aV ?_) | ((with_reducible refine isOrd ?_); first | (refine ordS_nil ?_; (try simp only [thenS, blockS, blks, List.map_cons, List.map_nil, List.cons_append, List.nil_append])) | refine oV ?_ | refine oLd ?_) | ((with_reducible refine isWp ?_); first | (refine wpS_seq (fun K_ hK_ => ?_)) | (refine wpS_region ?_) | (refine wpS_cond rfl (fun h_ => ?_) (fun h_ => ?_) <;> (try (simp only [beq_iff_eq, bne_iff_ne, beq_eq_false_iff_ne, bne_eq_false_iff_eq, ne_eq, decide_eq_true_eq, decide_eq_false_iff_not, Bool.and_eq_true, Bool.or_eq_true, Bool.and_eq_false_iff, Bool.or_eq_false_iff, Bool.false_eq_true, Bool.true_eq_false, reduceCtorEq] at h_)) <;> (try (first | (with_reducible contradiction) | (exfalso; omega)))) | (refine wpS_block ?_) | (refine wpS_ret ?_; (try simp only [thenS, blockS])) | (refine wpS_exit ?_; simp only [thenS, blockS, ↓reduceIte, Nat.reduceEqDiff]) | (refine wpS_skip ?_; (try simp only [thenS, blockS]))) | ((with_reducible refine isDraw ?_); refine wpS_drawT (by simp only [List.length_cons, List.length_nil, Nat.zero_add, Nat.reduceAdd, List.range'_succ, List.range'_zero]; rfl) (by kernel_rfl) (by kernel_rfl) (fun B_ hB_ hf_ => ?_)) | (refine useK (by with_reducible assumption) ?_)))
      (first | refine r1_ Tryz.results45 (fun w_ hs_ => ?_) | refine r2_ Tryz.results45 (fun w_ hs_ => ?_) | refine r3_ Tryz.results45 (fun w_ hs_ => ?_) | refine retS0 Tryz.results45 (fun w_ hs_ => ?_) | refine retN0 Tryz.results45 (fun w_ hs_ => ?_))
      have hd : decide (l = m) = true := by
        simp
        exact List.ext_getElem hne (fun j h1 _ => hb.out j h1 (by omega))
      exact ⟨by rw [hd], hs_.mod⟩
/-- Rows of one's own are read as any are. -/
theorem flat_at {α : Type} {en : α → List Value} {sz : Nat} : ∀ (l : List α) (i : Nat) (hi : i < l.length), (∀ x ∈ l, (en x).length = sz) → ∀ j x, (en l[i])[j]? = some x → (l.flatMap en)[i * sz + j]? = some x := by
  intro l
  induction l with
  | nil => intro i hi; simp at hi
  | cons a l ih =>
    intro i hi hall j x hx
    have ha := hall a (by simp)
    cases i with
    | zero =>
      have hj := (List.getElem?_eq_some_iff.1 hx).1
      simp only [List.getElem_cons_zero] at hx hj
      rw [Nat.zero_mul, Nat.zero_add, List.flatMap_cons, List.getElem?_append_left hj]; exact hx
    | succ i =>
      rw [List.flatMap_cons, List.getElem?_append_right (by rw [ha, Nat.succ_mul]; omega), ha]
      rw [show (i + 1) * sz + j - sz = i * sz + j from by rw [Nat.succ_mul]; omega]
      exact ih i (by simpa using hi) (fun x hx => hall x (by simp [hx])) j x (by simpa using hx)
theorem own_structs {α : Type} {en : α → List Value} {sz e cap : Nat} {A : Option Addr} {l : List α} {w : World} (h : (own A cap e sz l.length (l.flatMap en)).holds w) (hall : ∀ x ∈ l, (en x).length = sz) : Structs en sz w (.slice A l.length cap) l := by
  have h' : w.ownsRowF 0 e sz (.slice A l.length cap) l.length (l.flatMap en) := h
  rcases h'.2 with ⟨hv, hn⟩ | ⟨g, cap', cur, fz, hv, _, hg, _, h1, h2, _, _⟩
  · injection hv with hA hl hc
    subst hA; subst hc
    obtain rfl := List.eq_nil_of_length_eq_zero hl
    exact Structs.nil _ _ _
  · injection hv with hA hl hc
    subst hA; subst hc
    refine ⟨_, _, rfl, by unfold maxLen at h2; omega, h1, by simp, fun i hi j x hx => ⟨g, 0, rfl, ?_⟩⟩
    have := h'.cells (g := g) rfl (i * sz + j) x (flat_at l i hi hall j x hx)
    rw [show (⟨g, 0, none⟩ : Addr).add (i * sz + j) = ⟨g, 0 + i * sz + j, none⟩ from by unfold Addr.add; split <;> simp_all] at this
    exact this
end Go.Proofs.YtmcaigmpcbkfpaaGreat
