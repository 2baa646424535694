/- The document's reading of notices; the example. -/
import Derived.Test.YtmcaigmpcbkfpaaGreatNot2
set_option linter.unusedVariables false
set_option linter.unusedSimpArgs false
namespace Go.Proofs.YtmcaigmpcbkfpaaGreat
set_option maxRecDepth 8000
attribute [local irreducible] blk wpS seqS ordS OpVal RV endS LoadV StoreV Calls
open Go.RowKit
set_option maxHeartbeats 4000000 in
theorem rnum07 (l : List UInt8) (k : Nat) (hk : k + 3 < l.length) (w : World) (hl : l.length ≤ 100000 := by omega) : Calls Tryz.prog 75 #[.string (strOf l), .int .i64 k] w fun e w' => e = .returned (.int .u32 (w4 l[k] l[k + 1] l[k + 2] l[k + 3])) ∧ Mod [] w w' := by
  have hsz := strOf_size l
  have g1 := strOf_get l k (by omega)
  have g2 := strOf_get l (k + 1) (by omega)
  have g3 := strOf_get l (k + 2) (by omega)
  have g4 := strOf_get l (k + 3) hk
  have hsh : Hid (w4 l[k] l[k + 1] l[k + 2] l[k + 3] = ((l[k].toNat : Int) * 16777216 + l[k + 1].toNat * 65536 + l[k + 2].toNat * 256 + l[k + 3].toNat)) := Lib.hid (by unfold w4; omega)
  generalize l[k] = a at g1 hsh
  generalize l[k + 1] = b at g2 hsh
  generalize l[k + 2] = c at g3 hsh
  generalize l[k + 3] = d at g4 hsh
  have u1 := a.toNat_lt
  have u2 := b.toNat_lt
  have u3 := c.toNat_lt
  have u4 := d.toNat_lt
  have k1 : IntKind.u32.wrap (a.toNat : Int) = a.toNat := by rw [IntKind.wrap_u32]; omega
  have k2 : IntKind.u32.wrap (b.toNat : Int) = b.toNat := by rw [IntKind.wrap_u32]; omega
  have k3 : IntKind.u32.wrap (c.toNat : Int) = c.toNat := by rw [IntKind.wrap_u32]; omega
  have k4 : IntKind.u32.wrap (d.toNat : Int) = d.toNat := by rw [IntKind.wrap_u32]; omega
  have t2 : ((k : Int) + 2).toNat = k + 2 := by omega
  have t3 : ((k : Int) + 3).toNat = k + 3 := by omega
  (refine enterS ([]) (Sep.start _ []) Tryz.func75 rfl ?_; simp only [Tryz.ntmps75, List.size_toArray, List.length_cons, List.length_nil, Nat.reduceAdd, Nat.reduceSub, Array.replicate_succ, Array.replicate_zero, List.push_toArray, List.append_toArray, List.nil_append, List.cons_append])
  (repeat' (first | ((with_reducible refine isOps ?_); first | (refine seqS_nil ?_; (try simp only [thenS, blockS])) | ((with_reducible refine isConvert ?_); first | refine aBy ?_) | refine aV ?_) | ((with_reducible refine isOrd ?_); first | (refine ordS_nil ?_; (try simp only [thenS, blockS, blks, List.map_cons, List.map_nil, List.cons_append, List.nil_append])) | refine oV ?_ | refine oBy ?_) | ((with_reducible refine isWp ?_); first | (refine wpS_seq (fun K_ hK_ => ?_)) | (refine wpS_region ?_) | (refine wpS_cond rfl (fun h_ => ?_) (fun h_ => ?_) <;> (try (simp only [beq_iff_eq, bne_iff_ne, beq_eq_false_iff_ne, bne_eq_false_iff_eq, ne_eq, decide_eq_true_eq, decide_eq_false_iff_not, Bool.and_eq_true, Bool.or_eq_true, Bool.and_eq_false_iff, Bool.or_eq_false_iff, Bool.false_eq_true, Bool.true_eq_false, reduceCtorEq] at h_)) <;> (try (first | (with_reducible contradiction) | (exfalso; omega)))) | (refine wpS_block ?_) | (refine wpS_ret ?_; (try simp only [thenS, blockS])) | (refine wpS_exit ?_; simp only [thenS, blockS, ↓reduceIte, Nat.reduceEqDiff]) | (refine wpS_skip ?_; (try simp only [thenS, blockS]))) | ((with_reducible refine isDraw ?_); refine wpS_drawT (by simp only [List.length_cons, List.length_nil, Nat.zero_add, Nat.reduceAdd, List.range'_succ, List.range'_zero]; rfl) (by kernel_rfl) (by kernel_rfl) (fun B_ hB_ hf_ => ?_)) | (refine useK (by with_reducible assumption) ?_)))
  (first | refine r1_ Tryz.results75 (fun w_ hs_ => ?_) | refine r2_ Tryz.results75 (fun w_ hs_ => ?_) | refine r3_ Tryz.results75 (fun w_ hs_ => ?_) | refine retS0 Tryz.results75 (fun w_ hs_ => ?_) | refine retN0 Tryz.results75 (fun w_ hs_ => ?_))
  refine ⟨?_, hs_.mod⟩
  rw [hsh.out]
set_option maxHeartbeats 4000000 in
theorem refNtParse_any (l : List UInt8) (hl : l.length ≤ 90000) (w : World) : Calls Tryz.prog 35 #[.string (strOf l)] w fun e w' => e = .returned (ntVal (ntParse l)) ∧ Mod [] w w' := by
  have hsz := strOf_size l
  by_cases h8 : l.length < 8
  · rw [nt_short h8]
    (refine enterS ([]) (Sep.start _ []) Tryz.func35 rfl ?_; simp only [Tryz.ntmps35, List.size_toArray, List.length_cons, List.length_nil, Nat.reduceAdd, Nat.reduceSub, Array.replicate_succ, Array.replicate_zero, List.push_toArray, List.append_toArray, List.nil_append, List.cons_append])
    (repeat' (first | ((with_reducible refine isOps ?_); first | (refine seqS_nil ?_; (try simp only [thenS, blockS])) | ((with_reducible refine isConvert ?_); first | refine aBy ?_) | ((with_reducible refine isStore ?_); first | refine aSt ?_) | ((with_reducible refine isAlloc ?_); first | (refine aAl (fun n_ l_ hl_ => ?_); dsimp only [sS, sZ] at hl_; subst hl_)) | refine aV ?_) | ((with_reducible refine isOrd ?_); first | (refine ordS_nil ?_; (try simp only [thenS, blockS, blks, List.map_cons, List.map_nil, List.cons_append, List.nil_append])) | refine oV ?_ | refine oBy ?_ | (refine oAl (fun n_ l_ hl_ => ?_); dsimp only [sS, sZ] at hl_; subst hl_) | refine oPut ?_ | refine oSt ?_) | ((with_reducible refine isWp ?_); first | (refine wpS_seq (fun K_ hK_ => ?_)) | (refine wpS_region ?_) | (refine wpS_cond rfl (fun h_ => ?_) (fun h_ => ?_) <;> (try (simp only [beq_iff_eq, bne_iff_ne, beq_eq_false_iff_ne, bne_eq_false_iff_eq, ne_eq, decide_eq_true_eq, decide_eq_false_iff_not, Bool.and_eq_true, Bool.or_eq_true, Bool.and_eq_false_iff, Bool.or_eq_false_iff, Bool.false_eq_true, Bool.true_eq_false, reduceCtorEq] at h_)) <;> (try (first | (with_reducible contradiction) | (exfalso; omega)))) | (refine wpS_block ?_) | (refine wpS_ret ?_; (try simp only [thenS, blockS])) | (refine wpS_exit ?_; simp only [thenS, blockS, ↓reduceIte, Nat.reduceEqDiff]) | (refine wpS_skip ?_; (try simp only [thenS, blockS]))) | ((with_reducible refine isDraw ?_); refine wpS_drawT (by simp only [List.length_cons, List.length_nil, Nat.zero_add, Nat.reduceAdd, List.range'_succ, List.range'_zero]; rfl) (by kernel_rfl) (by kernel_rfl) (fun B_ hB_ hf_ => ?_)) | (refine useK (by with_reducible assumption) ?_)))
    (first | refine r1_ Tryz.results35 (fun w_ hs_ => ?_) | refine r2_ Tryz.results35 (fun w_ hs_ => ?_) | refine r3_ Tryz.results35 (fun w_ hs_ => ?_) | refine retS0 Tryz.results35 (fun w_ hs_ => ?_) | refine retN0 Tryz.results35 (fun w_ hs_ => ?_))
    exact ⟨rfl, hs_.mod⟩
  have hO : Hid (∀ w', Calls Tryz.prog 74 #[.string (strOf l)] w' fun e w'' => e = .returned (.int .i64 (sumOf [strOf l])) ∧ Mod [] w' w'') := Lib.hid fun w' => by
    refine (refOf_any (strOf l) (by omega) w').mono fun e w'' ⟨h1, h2⟩ => ⟨?_, h2 ▸ Mod.refl _ _⟩
    rw [h1, sumOf_eq]
    simp [flat]
  have hN4 : Hid (∀ w', Calls Tryz.prog 75 #[.string (strOf l), .int .i64 4] w' fun e w'' => e = .returned (.int .u32 (w4 (l[4]'(by omega)) (l[5]'(by omega)) (l[6]'(by omega)) (l[7]'(by omega)))) ∧ Mod [] w' w'') := Lib.hid fun w' => rnum07 l 4 (by omega) w'
  obtain ⟨a0, a1, a2, a3, a4, a5, a6, a7, r, rfl⟩ := nt_peel l (by omega)
  have hN4' : Hid (∀ w', Calls Tryz.prog 75 #[.string (strOf (a0 :: a1 :: a2 :: a3 :: a4 :: a5 :: a6 :: a7 :: r)), .int .i64 4] w' fun e w'' => e = .returned (.int .u32 (w4 a4 a5 a6 a7)) ∧ Mod [] w' w'') := hN4
  have hP : ntParse (a0 :: a1 :: a2 :: a3 :: a4 :: a5 :: a6 :: a7 :: r) = if sumOf [strOf (a0 :: a1 :: a2 :: a3 :: a4 :: a5 :: a6 :: a7 :: r)] = 0 then .inl ⟨a0.toNat, a1.toNat, w4 a4 a5 a6 a7, strOf r⟩ else .inr 4 := rfl
  rw [hP]
  clear hP hN4
  simp only [List.length_cons] at h8 hl hsz
  obtain ⟨B, hB⟩ : ∃ B, B = strOf (a0 :: a1 :: a2 :: a3 :: a4 :: a5 :: a6 :: a7 :: r) := ⟨_, rfl⟩
  have hsB : B.size = r.length + 8 := by rw [hB, strOf_size]; simp
  have z8 : 8 ≤ B.size := by omega
  have z9 : B.size ≤ 90000 := by omega
  have g0 : B[0]'(Nat.lt_of_lt_of_le (by decide : 0 < 8) z8) = a0 := by subst hB; rfl
  have g1 : B[1]'(Nat.lt_of_lt_of_le (by decide : 1 < 8) z8) = a1 := by subst hB; rfl
  have hx : Hid (B.extract 8 B.size = strOf r) := Lib.hid (by
    rw [hB, strOf_extract, strOf_size]
    simp only [List.drop_succ_cons, List.drop_zero, List.length_cons]
    rw [List.take_of_length_le (by omega)])
  have u0 := a0.toNat_lt
  have u1 := a1.toNat_lt
  have k0 : IntKind.i64.wrap (a0.toNat : Int) = a0.toNat := IntWalk.i64_in _ (by omega)
  have k1 : IntKind.i64.wrap (a1.toNat : Int) = a1.toNat := IntWalk.i64_in _ (by omega)
  rw [← hB] at hO hN4' ⊢
  clear hB hsB hsz h8
  generalize sumOf [B] = N at hO ⊢
  by_cases hN : N = 0
  · rw [if_pos hN]
    (refine enterS ([]) (Sep.start _ []) Tryz.func35 rfl ?_; simp only [Tryz.ntmps35, List.size_toArray, List.length_cons, List.length_nil, Nat.reduceAdd, Nat.reduceSub, Array.replicate_succ, Array.replicate_zero, List.push_toArray, List.append_toArray, List.nil_append, List.cons_append])
    (repeat' (first | ((with_reducible refine isOps ?_); first | (refine seqS_nil ?_; (try simp only [thenS, blockS])) | ((first | ((with_reducible refine isCallF ?_); refine aCF ?_) | ((with_reducible refine isCallV ?_); refine aCV ?_)); first | refine cS0 (fun w_ hs_ => hO.out _) ?_) | ((with_reducible refine isConvert ?_); first | refine aBy ?_) | ((with_reducible refine isStore ?_); first | refine aSt ?_) | ((with_reducible refine isAlloc ?_); first | (refine aAl (fun n_ l_ hl_ => ?_); dsimp only [sS, sZ] at hl_; subst hl_)) | refine aV ?_) | ((with_reducible refine isOrd ?_); first | (refine ordS_nil ?_; (try simp only [thenS, blockS, blks, List.map_cons, List.map_nil, List.cons_append, List.nil_append])) | refine oV ?_ | (refine oC ?_; first | refine cD0 (fun w_ hs_ hg_ => hO.out _) ?_) | refine oBy ?_ | (refine oAl (fun n_ l_ hl_ => ?_); dsimp only [sS, sZ] at hl_; subst hl_) | refine oPut ?_ | refine oSt ?_) | ((with_reducible refine isWp ?_); first | (refine wpS_seq (fun K_ hK_ => ?_)) | (refine wpS_region ?_) | (refine wpS_cond rfl (fun h_ => ?_) (fun h_ => ?_) <;> (try (simp only [beq_iff_eq, bne_iff_ne, beq_eq_false_iff_ne, bne_eq_false_iff_eq, ne_eq, decide_eq_true_eq, decide_eq_false_iff_not, Bool.and_eq_true, Bool.or_eq_true, Bool.and_eq_false_iff, Bool.or_eq_false_iff, Bool.false_eq_true, Bool.true_eq_false, reduceCtorEq] at h_)) <;> (try (first | (with_reducible contradiction) | (exfalso; omega)))) | (refine wpS_block ?_) | (refine wpS_ret ?_; (try simp only [thenS, blockS])) | (refine wpS_exit ?_; simp only [thenS, blockS, ↓reduceIte, Nat.reduceEqDiff]) | (refine wpS_skip ?_; (try simp only [thenS, blockS]))) | (refine useK (by with_reducible assumption) ?_)))
    ((with_reducible refine isDraw ?_); refine wpS_drawX 0 rfl (by simp only [List.length_cons, List.length_nil, Nat.zero_add, Nat.reduceAdd, List.range'_succ, List.range'_zero]; rfl) (by kernel_rfl) (by kernel_rfl) (fun B_ hB_ hf_ => ?_))
    (repeat' (first | ((with_reducible refine isOps ?_); first | (refine seqS_nil ?_; (try simp only [thenS, blockS])) | ((first | ((with_reducible refine isCallF ?_); refine aCF ?_) | ((with_reducible refine isCallV ?_); refine aCV ?_)); first | refine cS0 (fun w_ hs_ => hN4'.out _) ?_) | ((with_reducible refine isConvert ?_); first | refine aBy ?_) | ((with_reducible refine isStore ?_); first | refine aSt ?_) | ((with_reducible refine isAlloc ?_); first | (refine aAl (fun n_ l_ hl_ => ?_); dsimp only [sS, sZ] at hl_; subst hl_)) | refine aV ?_) | ((with_reducible refine isOrd ?_); first | (refine ordS_nil ?_; (try simp only [thenS, blockS, blks, List.map_cons, List.map_nil, List.cons_append, List.nil_append])) | refine oV ?_ | (refine oC ?_; first | refine cD0 (fun w_ hs_ hg_ => hN4'.out _) ?_) | refine oBy ?_ | (refine oAl (fun n_ l_ hl_ => ?_); dsimp only [sS, sZ] at hl_; subst hl_) | refine oPut ?_ | refine oSt ?_) | ((with_reducible refine isWp ?_); first | (refine wpS_seq (fun K_ hK_ => ?_)) | (refine wpS_region ?_) | (refine wpS_cond rfl (fun h_ => ?_) (fun h_ => ?_) <;> (try (simp only [beq_iff_eq, bne_iff_ne, beq_eq_false_iff_ne, bne_eq_false_iff_eq, ne_eq, decide_eq_true_eq, decide_eq_false_iff_not, Bool.and_eq_true, Bool.or_eq_true, Bool.and_eq_false_iff, Bool.or_eq_false_iff, Bool.false_eq_true, Bool.true_eq_false, reduceCtorEq] at h_)) <;> (try (first | (with_reducible contradiction) | (exfalso; omega)))) | (refine wpS_block ?_) | (refine wpS_ret ?_; (try simp only [thenS, blockS])) | (refine wpS_exit ?_; simp only [thenS, blockS, ↓reduceIte, Nat.reduceEqDiff]) | (refine wpS_skip ?_; (try simp only [thenS, blockS]))) | ((with_reducible refine isDraw ?_); refine wpS_drawT (by simp only [List.length_cons, List.length_nil, Nat.zero_add, Nat.reduceAdd, List.range'_succ, List.range'_zero]; rfl) (by kernel_rfl) (by kernel_rfl) (fun B_ hB_ hf_ => ?_)) | (refine useK (by with_reducible assumption) ?_)))
    (first | refine r1_ Tryz.results35 (fun w_ hs_ => ?_) | refine r2_ Tryz.results35 (fun w_ hs_ => ?_) | refine r3_ Tryz.results35 (fun w_ hs_ => ?_) | refine retS0 Tryz.results35 (fun w_ hs_ => ?_) | refine retN0 Tryz.results35 (fun w_ hs_ => ?_))
    exact ⟨by rw [hx.out], hs_.mod⟩
  · rw [if_neg hN]
    (refine enterS ([]) (Sep.start _ []) Tryz.func35 rfl ?_; simp only [Tryz.ntmps35, List.size_toArray, List.length_cons, List.length_nil, Nat.reduceAdd, Nat.reduceSub, Array.replicate_succ, Array.replicate_zero, List.push_toArray, List.append_toArray, List.nil_append, List.cons_append])
    (repeat' (first | ((with_reducible refine isOps ?_); first | (refine seqS_nil ?_; (try simp only [thenS, blockS])) | ((first | ((with_reducible refine isCallF ?_); refine aCF ?_) | ((with_reducible refine isCallV ?_); refine aCV ?_)); first | refine cS0 (fun w_ hs_ => hO.out _) ?_ | refine cS0 (fun w_ hs_ => hN4'.out _) ?_) | ((with_reducible refine isConvert ?_); first | refine aBy ?_) | ((with_reducible refine isStore ?_); first | refine aSt ?_) | ((with_reducible refine isAlloc ?_); first | (refine aAl (fun n_ l_ hl_ => ?_); dsimp only [sS, sZ] at hl_; subst hl_)) | refine aV ?_) | ((with_reducible refine isOrd ?_); first | (refine ordS_nil ?_; (try simp only [thenS, blockS, blks, List.map_cons, List.map_nil, List.cons_append, List.nil_append])) | refine oV ?_ | (refine oC ?_; first | refine cD0 (fun w_ hs_ hg_ => hO.out _) ?_ | refine cD0 (fun w_ hs_ hg_ => hN4'.out _) ?_) | refine oBy ?_ | (refine oAl (fun n_ l_ hl_ => ?_); dsimp only [sS, sZ] at hl_; subst hl_) | refine oPut ?_ | refine oSt ?_) | ((with_reducible refine isWp ?_); first | (refine wpS_seq (fun K_ hK_ => ?_)) | (refine wpS_region ?_) | (refine wpS_cond rfl (fun h_ => ?_) (fun h_ => ?_) <;> (try (simp only [beq_iff_eq, bne_iff_ne, beq_eq_false_iff_ne, bne_eq_false_iff_eq, ne_eq, decide_eq_true_eq, decide_eq_false_iff_not, Bool.and_eq_true, Bool.or_eq_true, Bool.and_eq_false_iff, Bool.or_eq_false_iff, Bool.false_eq_true, Bool.true_eq_false, reduceCtorEq] at h_)) <;> (try (first | (with_reducible contradiction) | (exfalso; omega)))) | (refine wpS_block ?_) | (refine wpS_ret ?_; (try simp only [thenS, blockS])) | (refine wpS_exit ?_; simp only [thenS, blockS, ↓reduceIte, Nat.reduceEqDiff]) | (refine wpS_skip ?_; (try simp only [thenS, blockS]))) | ((with_reducible refine isDraw ?_); refine wpS_drawT (by simp only [List.length_cons, List.length_nil, Nat.zero_add, Nat.reduceAdd, List.range'_succ, List.range'_zero]; rfl) (by kernel_rfl) (by kernel_rfl) (fun B_ hB_ hf_ => ?_)) | (refine useK (by with_reducible assumption) ?_)))
    (first | refine r1_ Tryz.results35 (fun w_ hs_ => ?_) | refine r2_ Tryz.results35 (fun w_ hs_ => ?_) | refine r3_ Tryz.results35 (fun w_ hs_ => ?_) | refine retS0 Tryz.results35 (fun w_ hs_ => ?_) | refine retN0 Tryz.results35 (fun w_ hs_ => ?_))
    exact ⟨rfl, hs_.mod⟩
def exNtc : Ntc := ⟨8, 0, 327680, ⟨#[]⟩⟩
end Go.Proofs.YtmcaigmpcbkfpaaGreat
