/- Package notice: which notices are right, their bytes; these are read as they were. -/
import Derived.Test.YtmcaigmpcbkfpaaGreatMFrame
import Derived.Test.YtmcaigmpcbkfpaaGreatMSum
import Derived.Test.YtmcaigmpcbkfpaaGreatSumPut
import Derived.Test.YtmcaigmpcbkfpaaGreatMSumText
import Derived.Test.YtmcaigmpcbkfpaaGreatAuto
set_option linter.unusedVariables false
set_option linter.unusedSimpArgs false
namespace Go.Proofs.YtmcaigmpcbkfpaaGreat
set_option maxRecDepth 8000
attribute [local irreducible] blk wpS seqS ordS OpVal RV endS LoadV StoreV Calls
open Go.RowKit
structure Ntc where
  ty : Int
  code : Int
  word : Int
  d : ByteArray
abbrev nv (n : Ntc) : Value := .agg #[.int .i64 n.ty, .int .i64 n.code, .int .u32 n.word, .string n.d]
def noNtc : Ntc := ⟨0, 0, 0, ⟨#[]⟩⟩
def inBn (x m : Int) : Bool := decide (0 ≤ x) && decide (x ≤ m)
theorem inBn_t {x m : Int} : inBn x m = true ↔ 0 ≤ x ∧ x ≤ m := by simp [inBn]
def ntRight (n : Ntc) : Bool := inBn n.ty 255 && inBn n.code 255 && decide ((n.d.size : Int) ≤ 65507)
theorem ntRight_iff {n : Ntc} : ntRight n = true ↔ (0 ≤ n.ty ∧ n.ty ≤ 255) ∧ (0 ≤ n.code ∧ n.code ≤ 255) ∧ n.d.size ≤ 65507 := by
  unfold ntRight
  simp only [Bool.and_eq_true, inBn_t, decide_eq_true_eq, and_assoc]
  omega
set_option maxHeartbeats 2000000 in
theorem ntRight_any (n : Ntc) (w : World) : Calls Tryz.prog 82 #[nv n] w fun e w' => e = .returned (.bool (ntRight n)) ∧ Mod [] w w' := by
  unfold ntRight inBn
  (refine enterS ([]) (Sep.start _ []) Tryz.func82 rfl ?_; simp only [Tryz.ntmps82, List.size_toArray, List.length_cons, List.length_nil, Nat.reduceAdd, Nat.reduceSub, Array.replicate_succ, Array.replicate_zero, List.push_toArray, List.append_toArray, List.nil_append, List.cons_append])
  (repeat' (first | ((with_reducible refine isOps ?_); first | (refine seqS_nil ?_; (try simp only [thenS, blockS])) | ((with_reducible refine isBox ?_); first | (refine aBox (fun n_ l_ hl_ => ?_); dsimp only [sS, sZ] at hl_; subst hl_)) | refine aV ?_ | refine aNo ?_ | refine aNo' ?_ | ((fail_if_success (refine aIsT ?_)); (fail_if_success (refine aIsF ?_)); refine seqS_guard rfl rfl rfl (fun l_ hl_ h_ => ?_) (fun l_ hl_ h_ => ?_) <;> (dsimp only [sS, sZ] at hl_; subst hl_; (try (simp only [beq_iff_eq, bne_iff_ne, beq_eq_false_iff_ne, bne_eq_false_iff_eq, ne_eq, decide_eq_true_eq, decide_eq_false_iff_not, Bool.and_eq_true, Bool.or_eq_true, Bool.and_eq_false_iff, Bool.or_eq_false_iff, Bool.not_eq_true', Bool.not_eq_false', Bool.false_eq_true, Bool.true_eq_false, reduceCtorEq] at h_)); (try (first | (with_reducible contradiction) | (exfalso; omega)))))) | ((with_reducible refine isWp ?_); first | (refine wpS_seq (fun K_ hK_ => ?_)) | (refine wpS_region ?_) | (refine wpS_cond rfl (fun h_ => ?_) (fun h_ => ?_) <;> (try (simp only [beq_iff_eq, bne_iff_ne, beq_eq_false_iff_ne, bne_eq_false_iff_eq, ne_eq, decide_eq_true_eq, decide_eq_false_iff_not, Bool.and_eq_true, Bool.or_eq_true, Bool.and_eq_false_iff, Bool.or_eq_false_iff, Bool.false_eq_true, Bool.true_eq_false, reduceCtorEq] at h_)) <;> (try (first | (with_reducible contradiction) | (exfalso; omega)))) | (refine wpS_block ?_) | (refine wpS_ret ?_; (try simp only [thenS, blockS])) | (refine wpS_exit ?_; simp only [thenS, blockS, ↓reduceIte, Nat.reduceEqDiff]) | (refine wpS_skip ?_; (try simp only [thenS, blockS]))) | (refine useK (by with_reducible assumption) ?_)))
  all_goals
    (first | refine r1_ Tryz.results82 (fun w_ hs_ => ?_) | refine r2_ Tryz.results82 (fun w_ hs_ => ?_) | refine r3_ Tryz.results82 (fun w_ hs_ => ?_) | refine retS0 Tryz.results82 (fun w_ hs_ => ?_) | refine retN0 Tryz.results82 (fun w_ hs_ => ?_))
    refine ⟨?_, hs_.mod⟩
    first
      | (simp [*]; done)
      | (simp_all; done)
      | (simp_all; omega)
/-! ### The bytes -/
def ntFront (n : Ntc) : List UInt8 := [n.ty, n.code].flatMap (numBytes 1)
def ntTail (n : Ntc) : List UInt8 := [n.word].flatMap (numBytes 4) ++ n.d.data.toList
def ntZero (n : Ntc) : List UInt8 := ntFront n ++ [0].flatMap (numBytes 2) ++ ntTail n
def ntN (n : Ntc) : Int := sumAt (strOf (ntZero n)) 2
def ntBytes (n : Ntc) : List UInt8 := ntFront n ++ numBytes 2 (ntN n) ++ ntTail n
theorem ntZero_len (n : Ntc) : (ntZero n).length = 8 + n.d.size := by
  have : n.d.data.toList.length = n.d.size := by rw [Array.length_toList, ByteArray.size_data]
  simp only [ntZero, ntFront, ntTail, List.length_append, List.flatMap_cons, List.flatMap_nil, List.append_nil, numBytes_length, List.length_nil]; omega
theorem ntBytes_len (n : Ntc) : (ntBytes n).length = 8 + n.d.size := by
  have : n.d.data.toList.length = n.d.size := by rw [Array.length_toList, ByteArray.size_data]
  simp only [ntBytes, ntFront, ntTail, List.length_append, List.flatMap_cons, List.flatMap_nil, List.append_nil, numBytes_length, List.length_nil]; omega
theorem putSum_cut (f t : List UInt8) (m : Nat) (hm : f.length = m) : putSum (strOf (f ++ [0, 0] ++ t)) m = strOf (f ++ numBytes 2 (sumAt (strOf (f ++ [0, 0] ++ t)) m) ++ t) := by
  subst hm
  have hr := sumAt_rng (strOf (f ++ [0, 0] ++ t)) f.length
  rw [← put_list _ _ hr.1 hr.2]
  generalize sumAt (strOf (f ++ [0, 0] ++ t)) f.length = n
  apply ByteArray.ext
  apply Array.ext'
  rw [strOf_extract, strOf_extract, strOf_size, strOf_data, strOf_data]
  show _ = f ++ numBytes 2 n ++ t
  congr 1
  · congr 1
    simp
  · have h1 : (f ++ [0, 0] ++ t).drop (f.length + 2) = t := by
      rw [show f.length + 2 = (f ++ [0, 0]).length from by simp, List.drop_left]
    rw [h1, List.take_of_length_le (by simp; omega)]
theorem ntPut (n : Ntc) : putSum (strOf (ntZero n)) 2 = strOf (ntBytes n) := putSum_cut (ntFront n) (ntTail n) 2 (by simp [ntFront, numBytes_length])
theorem nt_good (n : Ntc) : sumOf [strOf (ntBytes n)] = 0 := by
  rw [← ntPut]
  exact put_good _ 2 (by rw [strOf_size, ntZero_len]; omega) (by decide)
/-- What is answered: the bytes, or that it isn't right. -/
def ntEnc (n : Ntc) : ByteArray × Int := if ntRight n = true then (strOf (ntBytes n), 0) else (⟨#[]⟩, 1)
set_option maxHeartbeats 4000000 in
theorem ntEncode_any (n : Ntc) (hw : 0 ≤ n.word ∧ n.word ≤ 4294967295) (w : World) : Calls Tryz.prog 41 #[nv n] w fun e w' => e = .returned (.tuple #[.string (ntEnc n).1, .int .i64 (ntEnc n).2]) ∧ Mod [] w w' := by
  have HR := Lib.hid (fun w' => ntRight_any n w')
  have he := Lib.hid (show ntEnc n = if ntRight n = true then (strOf (ntBytes n), 0) else (⟨#[]⟩, 1) from rfl)
  rcases hrt : ntRight n with _ | _
  · rw [hrt] at HR he
    (refine enterS ([]) (Sep.start _ []) Tryz.func41 rfl ?_; simp only [Tryz.ntmps41, List.size_toArray, List.length_cons, List.length_nil, Nat.reduceAdd, Nat.reduceSub, Array.replicate_succ, Array.replicate_zero, List.push_toArray, List.append_toArray, List.nil_append, List.cons_append])
    (repeat' (first | ((with_reducible refine isOps ?_); first | (refine seqS_nil ?_; (try simp only [thenS, blockS])) | ((first | ((with_reducible refine isCallF ?_); refine aCF ?_) | ((with_reducible refine isCallV ?_); refine aCV ?_)); first | refine cS0 (fun w_ hs_ => HR.out _) ?_) | ((with_reducible refine isBuildSlice ?_); first | (refine aBs (fun n_ l_ hl_ => ?_); dsimp only [sS, sZ] at hl_; subst hl_)) | ((with_reducible refine isBox ?_); first | (refine aBox (fun n_ l_ hl_ => ?_); dsimp only [sS, sZ] at hl_; subst hl_)) | refine aV ?_) | ((with_reducible refine isOrd ?_); first | (refine ordS_nil ?_; (try simp only [thenS, blockS, blks, List.map_cons, List.map_nil, List.cons_append, List.nil_append])) | refine oV ?_ | (refine oC ?_; first | refine cD0 (fun w_ hs_ hg_ => HR.out _) ?_) | (refine oBs (fun n_ l_ hl_ => ?_); dsimp only [sS, sZ] at hl_; subst hl_) | (refine oBox (fun n_ l_ hl_ => ?_); dsimp only [sS, sZ] at hl_; subst hl_) | refine oLd ?_) | ((with_reducible refine isWp ?_); first | (refine wpS_seq (fun K_ hK_ => ?_)) | (refine wpS_region ?_) | (refine wpS_cond rfl (fun h_ => ?_) (fun h_ => ?_) <;> (try (simp only [beq_iff_eq, bne_iff_ne, beq_eq_false_iff_ne, bne_eq_false_iff_eq, ne_eq, decide_eq_true_eq, decide_eq_false_iff_not, Bool.and_eq_true, Bool.or_eq_true, Bool.and_eq_false_iff, Bool.or_eq_false_iff, Bool.false_eq_true, Bool.true_eq_false, reduceCtorEq] at h_)) <;> (try (first | (with_reducible contradiction) | (exfalso; omega)))) | (refine wpS_block ?_) | (refine wpS_ret ?_; (try simp only [thenS, blockS])) | (refine wpS_exit ?_; simp only [thenS, blockS, ↓reduceIte, Nat.reduceEqDiff]) | (refine wpS_skip ?_; (try simp only [thenS, blockS]))) | ((with_reducible refine isDraw ?_); refine wpS_drawT (by simp only [List.length_cons, List.length_nil, Nat.zero_add, Nat.reduceAdd, List.range'_succ, List.range'_zero]; rfl) (by kernel_rfl) (by kernel_rfl) (fun B_ hB_ hf_ => ?_)) | (refine useK (by with_reducible assumption) ?_)))
    (first | refine r1_ Tryz.results41 (fun w_ hs_ => ?_) | refine r2_ Tryz.results41 (fun w_ hs_ => ?_) | refine r3_ Tryz.results41 (fun w_ hs_ => ?_) | refine retS0 Tryz.results41 (fun w_ hs_ => ?_) | refine retN0 Tryz.results41 (fun w_ hs_ => ?_))
    exact ⟨by rw [he.out]; rfl, hs_.mod⟩
  rw [hrt] at HR he
  obtain ⟨f1, f2, f3⟩ := ntRight_iff.1 hrt
  have hzl := ntZero_len n
  have hPut : Hid (∀ x w', x = strOf (ntZero n) → Calls Tryz.prog 88 #[.string x, .int .i64 2] w' fun e w'' => e = .returned (.tuple #[.string (strOf (ntBytes n)), .int .i64 0]) ∧ Mod [] w' w'') := Lib.hid fun x w' hx => by
    subst hx
    have := Put_any (strOf (ntZero n)) 2 (by rw [strOf_size]; omega) (by rw [strOf_size]; omega) (by decide) w'
    rwa [ntPut] at this
  have hZ : Hid (strOf ([n.ty, n.code].flatMap (numBytes 1) ++ [0].flatMap (numBytes 2) ++ [n.word].flatMap (numBytes 4) ++ n.d.data.toList) = strOf (ntZero n)) := Lib.hid (by
    rw [ntZero, ntFront, ntTail]
    simp only [List.append_assoc])
  have hdl : n.d.data.toList.length ≤ 65507 := by rw [Array.length_toList, ByteArray.size_data]; exact f3
  clear hzl
  generalize strOf (ntBytes n) = T at hPut he
  generalize strOf (ntZero n) = Z at hPut hZ
  (refine enterS ([]) (Sep.start _ []) Tryz.func41 rfl ?_; simp only [Tryz.ntmps41, List.size_toArray, List.length_cons, List.length_nil, Nat.reduceAdd, Nat.reduceSub, Array.replicate_succ, Array.replicate_zero, List.push_toArray, List.append_toArray, List.nil_append, List.cons_append])
  (repeat' (first | ((with_reducible refine isOps ?_); first | (refine seqS_nil ?_; (try simp only [thenS, blockS])) | ((first | ((with_reducible refine isCallF ?_); refine aCF ?_) | ((with_reducible refine isCallV ?_); refine aCV ?_)); first | refine cS0 (fun w_ hs_ => HR.out _) ?_) | ((with_reducible refine isBuildSlice ?_); first | (refine aBs (fun n_ l_ hl_ => ?_); dsimp only [sS, sZ] at hl_; subst hl_)) | ((with_reducible refine isBox ?_); first | (refine aBox (fun n_ l_ hl_ => ?_); dsimp only [sS, sZ] at hl_; subst hl_)) | refine aV ?_) | ((with_reducible refine isOrd ?_); first | (refine ordS_nil ?_; (try simp only [thenS, blockS, blks, List.map_cons, List.map_nil, List.cons_append, List.nil_append])) | refine oV ?_ | (refine oC ?_; first | refine cD0 (fun w_ hs_ hg_ => HR.out _) ?_) | (refine oBs (fun n_ l_ hl_ => ?_); dsimp only [sS, sZ] at hl_; subst hl_) | (refine oBox (fun n_ l_ hl_ => ?_); dsimp only [sS, sZ] at hl_; subst hl_) | refine oLd ?_) | ((with_reducible refine isWp ?_); first | (refine wpS_seq (fun K_ hK_ => ?_)) | (refine wpS_region ?_) | (refine wpS_cond rfl (fun h_ => ?_) (fun h_ => ?_) <;> (try (simp only [beq_iff_eq, bne_iff_ne, beq_eq_false_iff_ne, bne_eq_false_iff_eq, ne_eq, decide_eq_true_eq, decide_eq_false_iff_not, Bool.and_eq_true, Bool.or_eq_true, Bool.and_eq_false_iff, Bool.or_eq_false_iff, Bool.false_eq_true, Bool.true_eq_false, reduceCtorEq] at h_)) <;> (try (first | (with_reducible contradiction) | (exfalso; omega)))) | (refine wpS_block ?_) | (refine wpS_ret ?_; (try simp only [thenS, blockS])) | (refine wpS_exit ?_; simp only [thenS, blockS, ↓reduceIte, Nat.reduceEqDiff]) | (refine wpS_skip ?_; (try simp only [thenS, blockS]))) | (refine useK (by with_reducible assumption) ?_)))
  refine wpS_weaken (fun w h => h.writer) ?_
  revert n_; intro q
  ((with_reducible refine isDraw ?_); refine wpS_drawX 0 rfl (by simp only [List.length_cons, List.length_nil, Nat.zero_add, Nat.reduceAdd, List.range'_succ, List.range'_zero]; rfl) (by kernel_rfl) (by kernel_rfl) (fun B_ hB_ hf_ => ?_))
  (repeat' (first | ((with_reducible refine isOps ?_); first | (refine seqS_nil ?_; (try simp only [thenS, blockS])) | ((first | ((with_reducible refine isCallF ?_); refine aCF ?_) | ((with_reducible refine isCallV ?_); refine aCV ?_)); first | (refine cSE (hc := fun w_ hs_ hr_ => wByte_L [n.ty, n.code] (by simp; omega) (by (try simp only [List.length_append, List.flatMap_cons, List.flatMap_nil, List.append_nil, List.length_nil, List.length_cons, numBytes_length]); omega) rfl (by simp) hr_ (by first | exact Sep.getBlk hs_ (by first | ((repeat (first | exact .head _ | apply List.Mem.tail)); done) | fail) | exact hg_ _ _ _ (by first | ((repeat (first | exact .head _ | apply List.Mem.tail)); done) | fail))) (h := fun i_ l_ hl_ => ?_); dsimp only [sS, sZ] at hl_; subst hl_) | (refine cSE (hc := fun w_ hs_ hr_ => wShort_L [0] (by simp) (by (try simp only [List.length_append, List.flatMap_cons, List.flatMap_nil, List.append_nil, List.length_nil, List.length_cons, numBytes_length]); omega) rfl (by simp) hr_ (by first | exact Sep.getBlk hs_ (by first | ((repeat (first | exact .head _ | apply List.Mem.tail)); done) | fail) | exact hg_ _ _ _ (by first | ((repeat (first | exact .head _ | apply List.Mem.tail)); done) | fail))) (h := fun i_ l_ hl_ => ?_); dsimp only [sS, sZ] at hl_; subst hl_) | (refine cSE (hc := fun w_ hs_ hr_ => wWord_L [n.word] (by simp; omega) (by (try simp only [List.length_append, List.flatMap_cons, List.flatMap_nil, List.append_nil, List.length_nil, List.length_cons, numBytes_length]); omega) rfl (by simp) hr_ (by first | exact Sep.getBlk hs_ (by first | ((repeat (first | exact .head _ | apply List.Mem.tail)); done) | fail) | exact hg_ _ _ _ (by first | ((repeat (first | exact .head _ | apply List.Mem.tail)); done) | fail))) (h := fun i_ l_ hl_ => ?_); dsimp only [sS, sZ] at hl_; subst hl_) | (refine cSE (hc := fun w_ hs_ hr_ => wText1 n.d (by omega) (by (try simp only [List.length_append, List.flatMap_cons, List.flatMap_nil, List.append_nil, List.length_nil, List.length_cons, numBytes_length]); omega) hr_ (by first | exact Sep.getBlk hs_ (by first | ((repeat (first | exact .head _ | apply List.Mem.tail)); done) | fail) | exact hg_ _ _ _ (by first | ((repeat (first | exact .head _ | apply List.Mem.tail)); done) | fail))) (h := fun i_ l_ hl_ => ?_); dsimp only [sS, sZ] at hl_; subst hl_) | (refine cSE (hc := fun w_ hs_ hr_ => wDone_ok (by (try simp only [List.length_append, List.flatMap_cons, List.flatMap_nil, List.append_nil, List.length_nil, List.length_cons, numBytes_length]); omega) hr_) (h := fun i_ l_ hl_ => ?_); dsimp only [sS, sZ] at hl_; subst hl_) | refine cS0 (fun w_ hs_ => hPut.out _ _ hZ.out) ?_) | ((with_reducible refine isBuildSlice ?_); first | (refine aBs (fun n_ l_ hl_ => ?_); dsimp only [sS, sZ] at hl_; subst hl_)) | ((with_reducible refine isBox ?_); first | (refine aBox (fun n_ l_ hl_ => ?_); dsimp only [sS, sZ] at hl_; subst hl_)) | refine aV ?_) | ((with_reducible refine isOrd ?_); first | (refine ordS_nil ?_; (try simp only [thenS, blockS, blks, List.map_cons, List.map_nil, List.cons_append, List.nil_append])) | refine oV ?_ | (refine oC ?_; first | (refine cDE (hc := fun w_ hs_ hr_ hg_ => wByte_L [n.ty, n.code] (by simp; omega) (by (try simp only [List.length_append, List.flatMap_cons, List.flatMap_nil, List.append_nil, List.length_nil, List.length_cons, numBytes_length]); omega) rfl (by simp) hr_ (by first | exact Sep.getBlk hs_ (by first | ((repeat (first | exact .head _ | apply List.Mem.tail)); done) | fail) | exact hg_ _ _ _ (by first | ((repeat (first | exact .head _ | apply List.Mem.tail)); done) | fail))) (h := fun i_ l_ hl_ => ?_); dsimp only [sS, sZ] at hl_; subst hl_) | (refine cDE (hc := fun w_ hs_ hr_ hg_ => wShort_L [0] (by simp) (by (try simp only [List.length_append, List.flatMap_cons, List.flatMap_nil, List.append_nil, List.length_nil, List.length_cons, numBytes_length]); omega) rfl (by simp) hr_ (by first | exact Sep.getBlk hs_ (by first | ((repeat (first | exact .head _ | apply List.Mem.tail)); done) | fail) | exact hg_ _ _ _ (by first | ((repeat (first | exact .head _ | apply List.Mem.tail)); done) | fail))) (h := fun i_ l_ hl_ => ?_); dsimp only [sS, sZ] at hl_; subst hl_) | (refine cDE (hc := fun w_ hs_ hr_ hg_ => wWord_L [n.word] (by simp; omega) (by (try simp only [List.length_append, List.flatMap_cons, List.flatMap_nil, List.append_nil, List.length_nil, List.length_cons, numBytes_length]); omega) rfl (by simp) hr_ (by first | exact Sep.getBlk hs_ (by first | ((repeat (first | exact .head _ | apply List.Mem.tail)); done) | fail) | exact hg_ _ _ _ (by first | ((repeat (first | exact .head _ | apply List.Mem.tail)); done) | fail))) (h := fun i_ l_ hl_ => ?_); dsimp only [sS, sZ] at hl_; subst hl_) | (refine cDE (hc := fun w_ hs_ hr_ hg_ => wText1 n.d (by omega) (by (try simp only [List.length_append, List.flatMap_cons, List.flatMap_nil, List.append_nil, List.length_nil, List.length_cons, numBytes_length]); omega) hr_ (by first | exact Sep.getBlk hs_ (by first | ((repeat (first | exact .head _ | apply List.Mem.tail)); done) | fail) | exact hg_ _ _ _ (by first | ((repeat (first | exact .head _ | apply List.Mem.tail)); done) | fail))) (h := fun i_ l_ hl_ => ?_); dsimp only [sS, sZ] at hl_; subst hl_) | (refine cDE (hc := fun w_ hs_ hr_ hg_ => wDone_ok (by (try simp only [List.length_append, List.flatMap_cons, List.flatMap_nil, List.append_nil, List.length_nil, List.length_cons, numBytes_length]); omega) hr_) (h := fun i_ l_ hl_ => ?_); dsimp only [sS, sZ] at hl_; subst hl_) | refine cD0 (fun w_ hs_ hg_ => hPut.out _ _ hZ.out) ?_) | (refine oBs (fun n_ l_ hl_ => ?_); dsimp only [sS, sZ] at hl_; subst hl_) | (refine oBox (fun n_ l_ hl_ => ?_); dsimp only [sS, sZ] at hl_; subst hl_) | refine oLd ?_) | ((with_reducible refine isWp ?_); first | (refine wpS_seq (fun K_ hK_ => ?_)) | (refine wpS_region ?_) | (refine wpS_cond rfl (fun h_ => ?_) (fun h_ => ?_) <;> (try (simp only [beq_iff_eq, bne_iff_ne, beq_eq_false_iff_ne, bne_eq_false_iff_eq, ne_eq, decide_eq_true_eq, decide_eq_false_iff_not, Bool.and_eq_true, Bool.or_eq_true, Bool.and_eq_false_iff, Bool.or_eq_false_iff, Bool.false_eq_true, Bool.true_eq_false, reduceCtorEq] at h_)) <;> (try (first | (with_reducible contradiction) | (exfalso; omega)))) | (refine wpS_block ?_) | (refine wpS_ret ?_; (try simp only [thenS, blockS])) | (refine wpS_exit ?_; simp only [thenS, blockS, ↓reduceIte, Nat.reduceEqDiff]) | (refine wpS_skip ?_; (try simp only [thenS, blockS]))) | ((with_reducible refine isDraw ?_); refine wpS_drawT (by simp only [List.length_cons, List.length_nil, Nat.zero_add, Nat.reduceAdd, List.range'_succ, List.range'_zero]; rfl) (by kernel_rfl) (by kernel_rfl) (fun B_ hB_ hf_ => ?_)) | (refine useK (by with_reducible assumption) ?_)))
  (first | refine r1_ Tryz.results41 (fun w_ hs_ => ?_) | refine r2_ Tryz.results41 (fun w_ hs_ => ?_) | refine r3_ Tryz.results41 (fun w_ hs_ => ?_) | refine retS0 Tryz.results41 (fun w_ hs_ => ?_) | refine retN0 Tryz.results41 (fun w_ hs_ => ?_))
  exact ⟨by rw [he.out, if_pos rfl], hs_.mod⟩
/-! ### Reading -/
/-- Bytes' notice, or the mistake's number. -/
def ntParse : List UInt8 → Ntc ⊕ Int
  | a0 :: a1 :: a2 :: a3 :: a4 :: a5 :: a6 :: a7 :: r => if sumOf [strOf (a0 :: a1 :: a2 :: a3 :: a4 :: a5 :: a6 :: a7 :: r)] = 0 then .inl ⟨a0.toNat, a1.toNat, w4 a4 a5 a6 a7, strOf r⟩ else .inr 4
  | _ => .inr 2
theorem ntParse_8 (a0 a1 a2 a3 a4 a5 a6 a7 : UInt8) (r : List UInt8) : ntParse (a0 :: a1 :: a2 :: a3 :: a4 :: a5 :: a6 :: a7 :: r) = if sumOf [strOf (a0 :: a1 :: a2 :: a3 :: a4 :: a5 :: a6 :: a7 :: r)] = 0 then .inl ⟨a0.toNat, a1.toNat, w4 a4 a5 a6 a7, strOf r⟩ else .inr 4 := rfl
theorem nt_short {l : List UInt8} (h : l.length < 8) : ntParse l = .inr 2 := by
  unfold ntParse
  split
  · simp only [List.length_cons] at h; omega
  · rfl
theorem nt_peel (l : List UInt8) (h : 8 ≤ l.length) : ∃ a0 a1 a2 a3 a4 a5 a6 a7 t, l = a0 :: a1 :: a2 :: a3 :: a4 :: a5 :: a6 :: a7 :: t := by
  match l, h with
  | a0 :: a1 :: a2 :: a3 :: a4 :: a5 :: a6 :: a7 :: t, _ => exact ⟨_, _, _, _, _, _, _, _, _, rfl⟩
theorem b8_in (x : Int) (h : 0 ≤ x ∧ x ≤ 255) : ((b8 x).toNat : Int) = x := by unfold b8; rw [UInt8.toNat_ofNat']; omega
theorem w4_nbn (x : Int) (h : 0 ≤ x ∧ x ≤ 4294967295) : w4 (b8 (x / 16777216)) (b8 (x / 65536)) (b8 (x / 256)) (b8 x) = x := by
  have e : ∀ x : Int, ((b8 x).toNat : Int) = x % 256 := fun x => by unfold b8; rw [UInt8.toNat_ofNat']; omega
  unfold w4
  rw [e, e, e, e]; omega
theorem ntParse_enc {n : Ntc} (hr : ntRight n = true) (hw : 0 ≤ n.word ∧ n.word ≤ 4294967295) : ntParse (ntBytes n) = .inl n := by
  obtain ⟨f1, f2, f3⟩ := ntRight_iff.1 hr
  have hg := nt_good n
  have e : ntBytes n = b8 n.ty :: b8 n.code :: b8 (ntN n / 256) :: b8 (ntN n) :: b8 (n.word / 16777216) :: b8 (n.word / 65536) :: b8 (n.word / 256) :: b8 n.word :: n.d.data.toList := by
    unfold ntBytes ntFront ntTail
    simp only [List.flatMap_cons, List.flatMap_nil, nbs1, nbs2, nbs4, List.append_nil, List.cons_append, List.nil_append, List.append_assoc]
  rw [e] at hg ⊢
  rw [ntParse_8, if_pos hg, b8_in _ f1, b8_in _ f2, w4_nbn _ hw, strOf_self]
abbrev ntVal (R : Ntc ⊕ Int) : Value := match R with
  | .inl n => .tuple #[nv n, .int .i64 0]
  | .inr x => .tuple #[nv noNtc, .int .i64 x]
set_option maxHeartbeats 4000000 in
theorem ntParse_any (l : List UInt8) (hl : l.length ≤ 140737488351232) (w : World) : Calls Tryz.prog 32 #[.string (strOf l)] w fun e w' => e = .returned (ntVal (ntParse l)) ∧ Mod [] w w' := by
  have hsz := strOf_size l
  by_cases h8 : l.length < 8
  · rw [nt_short h8]
    (refine enterS ([]) (Sep.start _ []) Tryz.func32 rfl ?_; simp only [Tryz.ntmps32, List.size_toArray, List.length_cons, List.length_nil, Nat.reduceAdd, Nat.reduceSub, Array.replicate_succ, Array.replicate_zero, List.push_toArray, List.append_toArray, List.nil_append, List.cons_append])
    (repeat' (first | ((with_reducible refine isOps ?_); first | (refine seqS_nil ?_; (try simp only [thenS, blockS])) | ((with_reducible refine isBuildSlice ?_); first | (refine aBs (fun n_ l_ hl_ => ?_); dsimp only [sS, sZ] at hl_; subst hl_)) | ((with_reducible refine isStore ?_); first | refine aSt ?_) | ((with_reducible refine isAlloc ?_); first | (refine aAl (fun n_ l_ hl_ => ?_); dsimp only [sS, sZ] at hl_; subst hl_)) | refine aV ?_) | ((with_reducible refine isWp ?_); first | (refine wpS_seq (fun K_ hK_ => ?_)) | (refine wpS_region ?_) | (refine wpS_cond rfl (fun h_ => ?_) (fun h_ => ?_) <;> (try (simp only [beq_iff_eq, bne_iff_ne, beq_eq_false_iff_ne, bne_eq_false_iff_eq, ne_eq, decide_eq_true_eq, decide_eq_false_iff_not, Bool.and_eq_true, Bool.or_eq_true, Bool.and_eq_false_iff, Bool.or_eq_false_iff, Bool.false_eq_true, Bool.true_eq_false, reduceCtorEq] at h_)) <;> (try (first | (with_reducible contradiction) | (exfalso; omega)))) | (refine wpS_block ?_) | (refine wpS_ret ?_; (try simp only [thenS, blockS])) | (refine wpS_exit ?_; simp only [thenS, blockS, ↓reduceIte, Nat.reduceEqDiff]) | (refine wpS_skip ?_; (try simp only [thenS, blockS]))) | (refine useK (by with_reducible assumption) ?_)))
    (first | refine r1_ Tryz.results32 (fun w_ hs_ => ?_) | refine r2_ Tryz.results32 (fun w_ hs_ => ?_) | refine r3_ Tryz.results32 (fun w_ hs_ => ?_) | refine retS0 Tryz.results32 (fun w_ hs_ => ?_) | refine retN0 Tryz.results32 (fun w_ hs_ => ?_))
    exact ⟨rfl, hs_.mod⟩
  obtain ⟨a0, a1, a2, a3, a4, a5, a6, a7, r, rfl⟩ := nt_peel l (by omega)
  have hG : Hid (∀ w' b, Blk w' b [.string (strOf (a0 :: a1 :: a2 :: a3 :: a4 :: a5 :: a6 :: a7 :: r))] 9 → Calls Tryz.prog 66 #[.slice (some ⟨b, 0, none⟩) 1 1] w' fun e w'' => e = .returned (.bool (sumOf [strOf (a0 :: a1 :: a2 :: a3 :: a4 :: a5 :: a6 :: a7 :: r)] == 0)) ∧ Mod [] w' w'') := Lib.hid fun w' b hb =>
    Good_any _ [strOf (a0 :: a1 :: a2 :: a3 :: a4 :: a5 :: a6 :: a7 :: r)] w' (Row.of_blk hb 1 1 (by omega)) (fun s hs => by obtain rfl := List.mem_singleton.1 hs; omega)
  have hRd := Lib.hid (fun w' => Read_R (w := w') (strOf (a0 :: a1 :: a2 :: a3 :: a4 :: a5 :: a6 :: a7 :: r)) (by omega))
  have hP : ntParse (a0 :: a1 :: a2 :: a3 :: a4 :: a5 :: a6 :: a7 :: r) = if sumOf [strOf (a0 :: a1 :: a2 :: a3 :: a4 :: a5 :: a6 :: a7 :: r)] = 0 then .inl ⟨a0.toNat, a1.toNat, w4 a4 a5 a6 a7, strOf r⟩ else .inr 4 := rfl
  generalize sumOf [strOf (a0 :: a1 :: a2 :: a3 :: a4 :: a5 :: a6 :: a7 :: r)] = N at hG hP
  rw [hP]
  by_cases hN : N = 0
  · subst hN
    rw [if_pos rfl]
    clear hP
    (refine enterS ([]) (Sep.start _ []) Tryz.func32 rfl ?_; simp only [Tryz.ntmps32, List.size_toArray, List.length_cons, List.length_nil, Nat.reduceAdd, Nat.reduceSub, Array.replicate_succ, Array.replicate_zero, List.push_toArray, List.append_toArray, List.nil_append, List.cons_append])
    (repeat' (first | ((with_reducible refine isOps ?_); first | (refine seqS_nil ?_; (try simp only [thenS, blockS])) | ((first | ((with_reducible refine isCallF ?_); refine aCF ?_) | ((with_reducible refine isCallV ?_); refine aCV ?_)); first | refine cS0 (fun w_ hs_ => hG.out _ _ (by first | exact Sep.getBlk hs_ (by first | ((repeat (first | exact .head _ | apply List.Mem.tail)); done) | fail) | exact hg_ _ _ _ (by first | ((repeat (first | exact .head _ | apply List.Mem.tail)); done) | fail))) ?_ | (refine callS_N (fun w_ hs_ => hRd.out _) (fun i_ l_ hl_ => ?_); dsimp only [sS, sZ] at hl_; subst hl_) | refine cSU (hc := fun w_ hs_ hr_ => rByte_cons hr_) (h := ?_) | refine cSU (hc := fun w_ hs_ hr_ => rShort_list hr_) (h := ?_) | refine cSU (hc := fun w_ hs_ hr_ => rWord_list hr_) (h := ?_) | refine cSU (hc := fun w_ hs_ hr_ => rRest_R hr_) (h := ?_)) | ((with_reducible refine isBuildSlice ?_); first | (refine aBs (fun n_ l_ hl_ => ?_); dsimp only [sS, sZ] at hl_; subst hl_)) | ((with_reducible refine isStore ?_); first | refine aSt ?_) | ((with_reducible refine isAlloc ?_); first | (refine aAl (fun n_ l_ hl_ => ?_); dsimp only [sS, sZ] at hl_; subst hl_)) | refine aV ?_) | ((with_reducible refine isWp ?_); first | (refine wpS_seq (fun K_ hK_ => ?_)) | (refine wpS_region ?_) | (refine wpS_cond rfl (fun h_ => ?_) (fun h_ => ?_) <;> (try (simp only [beq_iff_eq, bne_iff_ne, beq_eq_false_iff_ne, bne_eq_false_iff_eq, ne_eq, decide_eq_true_eq, decide_eq_false_iff_not, Bool.and_eq_true, Bool.or_eq_true, Bool.and_eq_false_iff, Bool.or_eq_false_iff, Bool.false_eq_true, Bool.true_eq_false, reduceCtorEq] at h_)) <;> (try (first | (with_reducible contradiction) | (exfalso; omega)))) | (refine wpS_block ?_) | (refine wpS_ret ?_; (try simp only [thenS, blockS])) | (refine wpS_exit ?_; simp only [thenS, blockS, ↓reduceIte, Nat.reduceEqDiff]) | (refine wpS_skip ?_; (try simp only [thenS, blockS]))) | (refine useK (by with_reducible assumption) ?_)))
    (first | refine r1_ Tryz.results32 (fun w_ hs_ => ?_) | refine r2_ Tryz.results32 (fun w_ hs_ => ?_) | refine r3_ Tryz.results32 (fun w_ hs_ => ?_) | refine retS0 Tryz.results32 (fun w_ hs_ => ?_) | refine retN0 Tryz.results32 (fun w_ hs_ => ?_))
    exact ⟨rfl, hs_.mod⟩
  · rw [if_neg hN]
    clear hP
    have hN2 : (N == 0) = false := by simpa using hN
    rw [hN2] at hG
    (refine enterS ([]) (Sep.start _ []) Tryz.func32 rfl ?_; simp only [Tryz.ntmps32, List.size_toArray, List.length_cons, List.length_nil, Nat.reduceAdd, Nat.reduceSub, Array.replicate_succ, Array.replicate_zero, List.push_toArray, List.append_toArray, List.nil_append, List.cons_append])
    (repeat' (first | ((with_reducible refine isOps ?_); first | (refine seqS_nil ?_; (try simp only [thenS, blockS])) | ((first | ((with_reducible refine isCallF ?_); refine aCF ?_) | ((with_reducible refine isCallV ?_); refine aCV ?_)); first | refine cS0 (fun w_ hs_ => hG.out _ _ (by first | exact Sep.getBlk hs_ (by first | ((repeat (first | exact .head _ | apply List.Mem.tail)); done) | fail) | exact hg_ _ _ _ (by first | ((repeat (first | exact .head _ | apply List.Mem.tail)); done) | fail))) ?_) | ((with_reducible refine isBuildSlice ?_); first | (refine aBs (fun n_ l_ hl_ => ?_); dsimp only [sS, sZ] at hl_; subst hl_)) | ((with_reducible refine isStore ?_); first | refine aSt ?_) | ((with_reducible refine isAlloc ?_); first | (refine aAl (fun n_ l_ hl_ => ?_); dsimp only [sS, sZ] at hl_; subst hl_)) | refine aV ?_) | ((with_reducible refine isWp ?_); first | (refine wpS_seq (fun K_ hK_ => ?_)) | (refine wpS_region ?_) | (refine wpS_cond rfl (fun h_ => ?_) (fun h_ => ?_) <;> (try (simp only [beq_iff_eq, bne_iff_ne, beq_eq_false_iff_ne, bne_eq_false_iff_eq, ne_eq, decide_eq_true_eq, decide_eq_false_iff_not, Bool.and_eq_true, Bool.or_eq_true, Bool.and_eq_false_iff, Bool.or_eq_false_iff, Bool.false_eq_true, Bool.true_eq_false, reduceCtorEq] at h_)) <;> (try (first | (with_reducible contradiction) | (exfalso; omega)))) | (refine wpS_block ?_) | (refine wpS_ret ?_; (try simp only [thenS, blockS])) | (refine wpS_exit ?_; simp only [thenS, blockS, ↓reduceIte, Nat.reduceEqDiff]) | (refine wpS_skip ?_; (try simp only [thenS, blockS]))) | (refine useK (by with_reducible assumption) ?_)))
    (first | refine r1_ Tryz.results32 (fun w_ hs_ => ?_) | refine r2_ Tryz.results32 (fun w_ hs_ => ?_) | refine r3_ Tryz.results32 (fun w_ hs_ => ?_) | refine retS0 Tryz.results32 (fun w_ hs_ => ?_) | refine retN0 Tryz.results32 (fun w_ hs_ => ?_))
    exact ⟨rfl, hs_.mod⟩
end Go.Proofs.YtmcaigmpcbkfpaaGreat
