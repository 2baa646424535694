/- The document's bytes of a packet; which packets are great. -/
import Derived.Test.YtmcaigmpcbkfpaaGreatHdr8
import Derived.Test.YtmcaigmpcbkfpaaGreatOpt8
import Derived.Test.YtmcaigmpcbkfpaaGreatByt
set_option linter.unusedVariables false
set_option linter.unusedSimpArgs false
namespace Go.Proofs.YtmcaigmpcbkfpaaGreat
set_option maxRecDepth 8000
attribute [local irreducible] blk wpS seqS ordS OpVal RV endS LoadV StoreV Calls
open Go.RowKit
theorem refShort05 (n : Int) (h0 : 0 ≤ n) (h1 : n ≤ 65535) (w : World) : Calls Tryz.prog 78 #[.int .i64 n] w fun e w' => e = .returned (.string (strOf (numBytes 2 n))) ∧ Mod [] w w' := by
  have := refShort_any n h0 h1 w
  rwa [show strOfNums [n / 256, n % 256] = strOf (numBytes 2 n) from by
    rw [nbs2]; apply ByteArray.ext; simp [strOfNums, b8]; rw [show n / 256 % 256 = n / 256 from by omega]] at this
set_option maxHeartbeats 1000000 in
theorem refWord05 (n : Int) (h0 : 0 ≤ n) (h1 : n ≤ 4294967295) (w : World) : Calls Tryz.prog 79 #[.int .u32 n] w fun e w' => e = .returned (.string (strOf (numBytes 4 n))) ∧ Mod [] w w' := by
  (refine enterS ([]) (Sep.start _ []) Tryz.func79 rfl ?_; simp only [Tryz.ntmps79, List.size_toArray, List.length_cons, List.length_nil, Nat.reduceAdd, Nat.reduceSub, Array.replicate_succ, Array.replicate_zero, List.push_toArray, List.append_toArray, List.nil_append, List.cons_append])
  (repeat' (first | ((with_reducible refine isOps ?_); first | (refine seqS_nil ?_; (try simp only [thenS, blockS])) | ((with_reducible refine isBuildSlice ?_); first | (refine aBs (fun n_ l_ hl_ => ?_); dsimp only [sS, sZ] at hl_; subst hl_)) | ((with_reducible refine isConvert ?_); first | refine aBy ?_) | refine aV ?_) | ((with_reducible refine isWp ?_); first | (refine wpS_seq (fun K_ hK_ => ?_)) | (refine wpS_region ?_) | (refine wpS_cond rfl (fun h_ => ?_) (fun h_ => ?_) <;> (try (simp only [beq_iff_eq, bne_iff_ne, beq_eq_false_iff_ne, bne_eq_false_iff_eq, ne_eq, decide_eq_true_eq, decide_eq_false_iff_not, Bool.and_eq_true, Bool.or_eq_true, Bool.and_eq_false_iff, Bool.or_eq_false_iff, Bool.false_eq_true, Bool.true_eq_false, reduceCtorEq] at h_)) <;> (try (first | (with_reducible contradiction) | (exfalso; omega)))) | (refine wpS_block ?_) | (refine wpS_ret ?_; (try simp only [thenS, blockS])) | (refine wpS_exit ?_; simp only [thenS, blockS, ↓reduceIte, Nat.reduceEqDiff]) | (refine wpS_skip ?_; (try simp only [thenS, blockS]))) | (refine useK (by with_reducible assumption) ?_)))
  (first | refine r1_ Tryz.results79 (fun w_ hs_ => ?_) | refine r2_ Tryz.results79 (fun w_ hs_ => ?_) | refine r3_ Tryz.results79 (fun w_ hs_ => ?_) | refine retS0 Tryz.results79 (fun w_ hs_ => ?_) | refine retN0 Tryz.results79 (fun w_ hs_ => ?_))
  refine ⟨?_, hs_.mod⟩
  rw [nbs4]
  congr 2
  apply ByteArray.ext
  simp [strOfNums, b8, IntKind.wrap_u8]
  rw [show n / 16777216 % 256 = n / 16777216 from by omega]
theorem strOf_app5 (a b : List UInt8) : strOf a ++ strOf b = strOf (a ++ b) := by apply ByteArray.ext; simp
theorem sn2 (x y : Int) (hx : 0 ≤ x ∧ x ≤ 255) (hy : 0 ≤ y ∧ y ≤ 255) : strOfNums [x, y] = strOf [b8 x, b8 y] := by
  have e1 : x % 256 = x := by omega
  have e2 : y % 256 = y := by omega
  apply ByteArray.ext; simp [strOfNums, b8, e1, e2]
theorem sn4 (x y : Int) (hx : 0 ≤ x ∧ x ≤ 255) (hy : 0 ≤ y ∧ y ≤ 255) : strOfNums [x, y, 0, 0] = strOf [b8 x, b8 y, 0, 0] := by
  have e1 : x % 256 = x := by omega
  have e2 : y % 256 = y := by omega
  apply ByteArray.ext; simp [strOfNums, b8, e1, e2]
set_option maxHeartbeats 16000000 in
theorem refHdrEncode_any (p : Pkt) (v : Value) (w : World) (hr : Structs enOpt 2 w v p.opts) (hg : great p.opts = false) (hrt : pkRight p = true) (hsrc : 0 ≤ p.src ∧ p.src ≤ 4294967295) (hdst : 0 ≤ p.dst ∧ p.dst ≤ 4294967295) :
    Calls Tryz.prog 39 #[pv p v] w fun e w' => e = .returned (.string (strOf (hdrBytes p))) ∧ Mod [] w w' := by
  obtain ⟨f1, f2, f3, f4, f5, f6, f7, f8, f9, f10⟩ := pkRight_iff.1 hrt
  have hd : p.data.size ≤ 70000 := by have := allSize_rng p.opts f6; omega
  have hE : Hid (∀ w', Mod [] w w' → Calls Tryz.prog 77 #[v] w' fun e w'' => e = .returned (.string (strOf (encBytes p.opts))) ∧ Mod [] w' w'') := Lib.hid fun w' hm => refEncode_any v p.opts w' (hr.mod0 hm) hg f6
  have hfr := flagsOf_rng f5
  have hza := allSize_rng p.opts f6
  have hzr : 0 ≤ pkSize p ∧ pkSize p ≤ 65535 := by unfold pkSize; omega
  have hsz : ((strOf (encBytes p.opts)).size : Int) = allSize p.opts := by rw [strOf_size]; exact encBytes_len p.opts f6
  have hs40 : (strOf (encBytes p.opts)).size ≤ 40 := by omega
  have hk : IntKind.u8.wrap (69 + ((strOf (encBytes p.opts)).size : Int) / 4) = 69 + ((strOf (encBytes p.opts)).size : Int) / 4 := IntWalk.u8_in _ (by omega)
  have hk1 : IntKind.u8.wrap p.tos = p.tos := IntWalk.u8_in _ (by omega)
  have hk2 : IntKind.u8.wrap p.ttl = p.ttl := IntWalk.u8_in _ (by omega)
  have hk3 : IntKind.u8.wrap p.proto = p.proto := IntWalk.u8_in _ (by omega)
  have hz : Hid (20 + ((strOf (encBytes p.opts)).size : Int) + (p.data.size : Int) = pkSize p) := Lib.hid (by rw [hsz]; rfl)
  have hS1 : Hid (∀ n w', n = pkSize p → Calls Tryz.prog 78 #[.int .i64 n] w' fun e w'' => e = .returned (.string (strOf (numBytes 2 (pkSize p)))) ∧ Mod [] w' w'') := Lib.hid fun n w' hn => by subst hn; exact refShort05 _ hzr.1 hzr.2 w'
  have hS2 := Lib.hid (fun w' => refShort05 p.id f4.1 f4.2 w')
  have hS3 : Hid (∀ n w', n = flagsOf p → Calls Tryz.prog 78 #[.int .i64 n] w' fun e w'' => e = .returned (.string (strOf (numBytes 2 (flagsOf p)))) ∧ Mod [] w' w'') := Lib.hid fun n w' hn => by subst hn; exact refShort05 _ hfr.1 (by omega) w'
  have hW1 := Lib.hid (fun w' => refWord05 p.src hsrc.1 hsrc.2 w')
  have hW2 := Lib.hid (fun w' => refWord05 p.dst hdst.1 hdst.2 w')
  have hhz := hdrZero_len f6
  have hPut : Hid (∀ x w', x = strOf (hdrZero p) → Calls Tryz.prog 80 #[.string x, .int .i64 10] w' fun e w'' => e = .returned (.string (hdrHead p)) ∧ Mod [] w' w'') := Lib.hid fun x w' hx => by
    subst hx
    exact rPut_any _ 10 (by rw [strOf_size]; omega) (by rw [strOf_size]; omega) (by decide) w'
  have hZ : Hid (strOfNums [69 + ((strOf (encBytes p.opts)).size : Int) / 4, p.tos] ++ strOf (numBytes 2 (pkSize p)) ++ strOf (numBytes 2 p.id) ++ strOf (numBytes 2 (flagsOf p)) ++ strOfNums [p.ttl, p.proto, 0, 0] ++ strOf (numBytes 4 p.src) ++ strOf (numBytes 4 p.dst) ++ strOf (encBytes p.opts) = strOf (hdrZero p)) := Lib.hid (by
    rw [hsz, sn2 _ _ (by omega) f1, sn4 _ _ f2 f3, hdrZero, hdrFront, hdrTail]
    simp only [strOf_app5]
    simp only [List.flatMap_cons, List.flatMap_nil, nbs1, nbs2, List.append_nil, List.cons_append, List.nil_append, List.append_assoc]
    rfl)
  have hhs : (hdrHead p).size ≤ 100 := by have := hdrHead_size f6; omega
  have hcat := Lib.hid (strOf_head p)
  have hfl : Hid (flagsOf p = p.off / 8 + (if p.df then 16384 else 0) + (if p.mf then 8192 else 0)) := Lib.hid rfl
  have z1 : (strOf (numBytes 2 (pkSize p))).size = 2 := by rw [strOf_size, numBytes_length]
  have z2 : (strOf (numBytes 2 p.id)).size = 2 := by rw [strOf_size, numBytes_length]
  have z3 : (strOf (numBytes 2 (flagsOf p))).size = 2 := by rw [strOf_size, numBytes_length]
  have z4 : (strOf (numBytes 4 p.src)).size = 4 := by rw [strOf_size, numBytes_length]
  have z5 : (strOf (numBytes 4 p.dst)).size = 4 := by rw [strOf_size, numBytes_length]
  clear hsz hhz hza
  generalize strOf (numBytes 2 (pkSize p)) = x1 at hS1 hZ z1
  generalize strOf (numBytes 2 p.id) = x2 at hS2 hZ z2
  generalize strOf (numBytes 2 (flagsOf p)) = x3 at hS3 hZ z3
  generalize strOf (numBytes 4 p.src) = x4 at hW1 hZ z4
  generalize strOf (numBytes 4 p.dst) = x5 at hW2 hZ z5
  generalize strOf (encBytes p.opts) = s at hE hs40 hk hz hZ
  generalize strOf (hdrZero p) = Z at hPut hZ
  generalize hdrHead p = H at hPut hhs hcat
  generalize pkSize p = z at hS1 hzr hz
  generalize flagsOf p = f at hS3 hfr hfl
  (refine enterS ([]) (Sep.start _ []) Tryz.func39 rfl ?_; simp only [Tryz.ntmps39, List.size_toArray, List.length_cons, List.length_nil, Nat.reduceAdd, Nat.reduceSub, Array.replicate_succ, Array.replicate_zero, List.push_toArray, List.append_toArray, List.nil_append, List.cons_append])
  (repeat' (first | ((with_reducible refine isOps ?_); first | (refine seqS_nil ?_; (try simp only [thenS, blockS])) | ((first | ((with_reducible refine isCallF ?_); refine aCF ?_) | ((with_reducible refine isCallV ?_); refine aCV ?_)); first | refine cS0 (fun w_ hs_ => hE.out _ hs_.mod) ?_) | ((with_reducible refine isBuildSlice ?_); first | (refine aBs (fun n_ l_ hl_ => ?_); dsimp only [sS, sZ] at hl_; subst hl_)) | ((with_reducible refine isConvert ?_); first | refine aBy ?_) | ((with_reducible refine isBox ?_); first | (refine aBox (fun n_ l_ hl_ => ?_); dsimp only [sS, sZ] at hl_; subst hl_)) | refine aV ?_) | ((with_reducible refine isOrd ?_); first | (refine ordS_nil ?_; (try simp only [thenS, blockS, blks, List.map_cons, List.map_nil, List.cons_append, List.nil_append])) | refine oV ?_ | (refine oC ?_; first | refine cD0 (fun w_ hs_ hg_ => hE.out _ hs_.mod) ?_) | (refine oBs (fun n_ l_ hl_ => ?_); dsimp only [sS, sZ] at hl_; subst hl_) | refine oBy ?_ | (refine oBox (fun n_ l_ hl_ => ?_); dsimp only [sS, sZ] at hl_; subst hl_) | refine oLd ?_) | ((with_reducible refine isWp ?_); first | (refine wpS_seq (fun K_ hK_ => ?_)) | (refine wpS_region ?_) | (refine wpS_cond rfl (fun h_ => ?_) (fun h_ => ?_) <;> (try (simp only [beq_iff_eq, bne_iff_ne, beq_eq_false_iff_ne, bne_eq_false_iff_eq, ne_eq, decide_eq_true_eq, decide_eq_false_iff_not, Bool.and_eq_true, Bool.or_eq_true, Bool.and_eq_false_iff, Bool.or_eq_false_iff, Bool.false_eq_true, Bool.true_eq_false, reduceCtorEq] at h_)) <;> (try (first | (with_reducible contradiction) | (exfalso; omega)))) | (refine wpS_block ?_) | (refine wpS_ret ?_; (try simp only [thenS, blockS])) | (refine wpS_exit ?_; simp only [thenS, blockS, ↓reduceIte, Nat.reduceEqDiff]) | (refine wpS_skip ?_; (try simp only [thenS, blockS]))) | (refine useK (by with_reducible assumption) ?_)))
  all_goals
    ((with_reducible refine isDraw ?_); refine wpS_drawO [10, 11, 12, 13, 14, 15, 16, 17, 19, 20, 21, 23, 24, 0, 1, 2, 3, 4, 5, 6, 7, 8, 9, 18, 22, 25, 26] (by kernel_rfl) (by kernel_rfl) (fun B_ hB_ hf_ => ?_))
    (repeat' (first | ((with_reducible refine isOps ?_); first | (refine seqS_nil ?_; (try simp only [thenS, blockS])) | ((first | ((with_reducible refine isCallF ?_); refine aCF ?_) | ((with_reducible refine isCallV ?_); refine aCV ?_)); first | refine cS0 (fun w_ hs_ => hS1.out _ _ hz.out) ?_ | refine cS0 (fun w_ hs_ => hS2.out _) ?_ | refine cS0 (fun w_ hs_ => hS3.out _ _ (by rw [hfl.out]; simp [*]; done)) ?_) | ((with_reducible refine isBuildSlice ?_); first | (refine aBs (fun n_ l_ hl_ => ?_); dsimp only [sS, sZ] at hl_; subst hl_)) | ((with_reducible refine isConvert ?_); first | refine aBy ?_) | ((with_reducible refine isBox ?_); first | (refine aBox (fun n_ l_ hl_ => ?_); dsimp only [sS, sZ] at hl_; subst hl_)) | refine aV ?_) | ((with_reducible refine isOrd ?_); first | (refine ordS_nil ?_; (try simp only [thenS, blockS, blks, List.map_cons, List.map_nil, List.cons_append, List.nil_append])) | refine oV ?_ | (refine oC ?_; first | refine cD0 (fun w_ hs_ hg_ => hS1.out _ _ hz.out) ?_ | refine cD0 (fun w_ hs_ hg_ => hS2.out _) ?_ | refine cD0 (fun w_ hs_ hg_ => hS3.out _ _ (by rw [hfl.out]; simp [*]; done)) ?_) | (refine oBs (fun n_ l_ hl_ => ?_); dsimp only [sS, sZ] at hl_; subst hl_) | refine oBy ?_ | (refine oBox (fun n_ l_ hl_ => ?_); dsimp only [sS, sZ] at hl_; subst hl_) | refine oLd ?_) | ((with_reducible refine isWp ?_); first | (refine wpS_seq (fun K_ hK_ => ?_)) | (refine wpS_region ?_) | (refine wpS_cond rfl (fun h_ => ?_) (fun h_ => ?_) <;> (try (simp only [beq_iff_eq, bne_iff_ne, beq_eq_false_iff_ne, bne_eq_false_iff_eq, ne_eq, decide_eq_true_eq, decide_eq_false_iff_not, Bool.and_eq_true, Bool.or_eq_true, Bool.and_eq_false_iff, Bool.or_eq_false_iff, Bool.false_eq_true, Bool.true_eq_false, reduceCtorEq] at h_)) <;> (try (first | (with_reducible contradiction) | (exfalso; omega)))) | (refine wpS_block ?_) | (refine wpS_ret ?_; (try simp only [thenS, blockS])) | (refine wpS_exit ?_; simp only [thenS, blockS, ↓reduceIte, Nat.reduceEqDiff]) | (refine wpS_skip ?_; (try simp only [thenS, blockS]))) | (refine useK (by with_reducible assumption) ?_)))
    ((with_reducible refine isDraw ?_); refine wpS_drawO [10, 11, 12, 14, 15, 16, 0, 1, 2, 3, 4, 5, 6, 7, 8, 9, 13, 17, 18, 19, 20] (by kernel_rfl) (by kernel_rfl) (fun B_ hB_ hf_ => ?_))
    (repeat' (first | ((with_reducible refine isOps ?_); first | (refine seqS_nil ?_; (try simp only [thenS, blockS])) | ((first | ((with_reducible refine isCallF ?_); refine aCF ?_) | ((with_reducible refine isCallV ?_); refine aCV ?_)); first | refine cS0 (fun w_ hs_ => hW1.out _) ?_ | refine cS0 (fun w_ hs_ => hW2.out _) ?_ | refine cS0 (fun w_ hs_ => hPut.out _ _ hZ.out) ?_) | ((with_reducible refine isBuildSlice ?_); first | (refine aBs (fun n_ l_ hl_ => ?_); dsimp only [sS, sZ] at hl_; subst hl_)) | ((with_reducible refine isConvert ?_); first | refine aBy ?_) | ((with_reducible refine isBox ?_); first | (refine aBox (fun n_ l_ hl_ => ?_); dsimp only [sS, sZ] at hl_; subst hl_)) | refine aV ?_) | ((with_reducible refine isOrd ?_); first | (refine ordS_nil ?_; (try simp only [thenS, blockS, blks, List.map_cons, List.map_nil, List.cons_append, List.nil_append])) | refine oV ?_ | (refine oC ?_; first | refine cD0 (fun w_ hs_ hg_ => hW1.out _) ?_ | refine cD0 (fun w_ hs_ hg_ => hW2.out _) ?_ | refine cD0 (fun w_ hs_ hg_ => hPut.out _ _ hZ.out) ?_) | (refine oBs (fun n_ l_ hl_ => ?_); dsimp only [sS, sZ] at hl_; subst hl_) | refine oBy ?_ | (refine oBox (fun n_ l_ hl_ => ?_); dsimp only [sS, sZ] at hl_; subst hl_) | refine oLd ?_) | ((with_reducible refine isWp ?_); first | (refine wpS_seq (fun K_ hK_ => ?_)) | (refine wpS_region ?_) | (refine wpS_cond rfl (fun h_ => ?_) (fun h_ => ?_) <;> (try (simp only [beq_iff_eq, bne_iff_ne, beq_eq_false_iff_ne, bne_eq_false_iff_eq, ne_eq, decide_eq_true_eq, decide_eq_false_iff_not, Bool.and_eq_true, Bool.or_eq_true, Bool.and_eq_false_iff, Bool.or_eq_false_iff, Bool.false_eq_true, Bool.true_eq_false, reduceCtorEq] at h_)) <;> (try (first | (with_reducible contradiction) | (exfalso; omega)))) | (refine wpS_block ?_) | (refine wpS_ret ?_; (try simp only [thenS, blockS])) | (refine wpS_exit ?_; simp only [thenS, blockS, ↓reduceIte, Nat.reduceEqDiff]) | (refine wpS_skip ?_; (try simp only [thenS, blockS]))) | ((with_reducible refine isDraw ?_); refine wpS_drawT (by simp only [List.length_cons, List.length_nil, Nat.zero_add, Nat.reduceAdd, List.range'_succ, List.range'_zero]; rfl) (by kernel_rfl) (by kernel_rfl) (fun B_ hB_ hf_ => ?_)) | (refine useK (by with_reducible assumption) ?_)))
  all_goals
    (first | refine r1_ Tryz.results39 (fun w_ hs_ => ?_) | refine r2_ Tryz.results39 (fun w_ hs_ => ?_) | refine r3_ Tryz.results39 (fun w_ hs_ => ?_) | refine retS0 Tryz.results39 (fun w_ hs_ => ?_) | refine retN0 Tryz.results39 (fun w_ hs_ => ?_))
    exact ⟨by rw [hcat.out], hs_.mod⟩
def great05 (p : Pkt) : Bool := great p.opts || (decide ((2000 : Int) < (p.data.size : Int)) && decide ((p.data.size : Int) < 65000) || decide ((66000 : Int) < (p.data.size : Int)))
theorem great05_not {p : Pkt} (h : great05 p = false) : great p.opts = false ∧ p.data.size ≤ 66000 := by
  unfold great05 at h
  simp only [Bool.or_eq_false_iff, decide_eq_false_iff_not] at h
  exact ⟨h.1, by omega⟩
set_option maxHeartbeats 4000000 in
theorem great05_any (p : Pkt) (v : Value) (w : World) (hr : Structs enOpt 2 w v p.opts) : Calls Tryz.prog 21 #[pv p v] w fun e w' => e = .returned (.bool (great05 p)) ∧ Mod [] w w' := by
  have hG : Hid (∀ w', Mod [] w w' → Calls Tryz.prog 50 #[v] w' fun e w'' => e = .returned (.bool (great p.opts)) ∧ Mod [] w' w'') := Lib.hid fun w' hm => Great_any v p.opts w' (hr.mod0 hm)
  have hF : Hid (great05 p = (great p.opts || (decide ((2000 : Int) < (p.data.size : Int)) && decide ((p.data.size : Int) < 65000) || decide ((66000 : Int) < (p.data.size : Int))))) := Lib.hid rfl
  generalize great05 p = R at hF ⊢
  generalize great p.opts = G at hG hF
  rcases h1 : decide ((2000 : Int) < (p.data.size : Int)) with _ | _ <;> rcases h2 : decide ((p.data.size : Int) < 65000) with _ | _ <;> rcases h3 : decide ((66000 : Int) < (p.data.size : Int)) with _ | _
  all_goals
    rw [h1, h2, h3] at hF
    (refine enterS ([]) (Sep.start _ []) Tryz.func21 rfl ?_; simp only [Tryz.ntmps21, List.size_toArray, List.length_cons, List.length_nil, Nat.reduceAdd, Nat.reduceSub, Array.replicate_succ, Array.replicate_zero, List.push_toArray, List.append_toArray, List.nil_append, List.cons_append])
    (repeat' (first | ((with_reducible refine isOps ?_); first | (refine seqS_nil ?_; (try simp only [thenS, blockS])) | ((first | ((with_reducible refine isCallF ?_); refine aCF ?_) | ((with_reducible refine isCallV ?_); refine aCV ?_)); first | refine cS0 (fun w_ hs_ => hG.out _ hs_.mod) ?_) | ((with_reducible refine isBox ?_); first | (refine aBox (fun n_ l_ hl_ => ?_); dsimp only [sS, sZ] at hl_; subst hl_)) | refine aV ?_ | refine aNo ?_ | refine aNo' ?_ | ((fail_if_success (refine aIsT ?_)); (fail_if_success (refine aIsF ?_)); refine seqS_guard rfl rfl rfl (fun l_ hl_ h_ => ?_) (fun l_ hl_ h_ => ?_) <;> (dsimp only [sS, sZ] at hl_; subst hl_; (try (simp only [beq_iff_eq, bne_iff_ne, beq_eq_false_iff_ne, bne_eq_false_iff_eq, ne_eq, decide_eq_true_eq, decide_eq_false_iff_not, Bool.and_eq_true, Bool.or_eq_true, Bool.and_eq_false_iff, Bool.or_eq_false_iff, Bool.not_eq_true', Bool.not_eq_false', Bool.false_eq_true, Bool.true_eq_false, reduceCtorEq] at h_)); (try (first | (with_reducible contradiction) | (exfalso; omega)))))) | ((with_reducible refine isWp ?_); first | (refine wpS_seq (fun K_ hK_ => ?_)) | (refine wpS_region ?_) | (refine wpS_cond rfl (fun h_ => ?_) (fun h_ => ?_) <;> (try (simp only [beq_iff_eq, bne_iff_ne, beq_eq_false_iff_ne, bne_eq_false_iff_eq, ne_eq, decide_eq_true_eq, decide_eq_false_iff_not, Bool.and_eq_true, Bool.or_eq_true, Bool.and_eq_false_iff, Bool.or_eq_false_iff, Bool.false_eq_true, Bool.true_eq_false, reduceCtorEq] at h_)) <;> (try (first | (with_reducible contradiction) | (exfalso; omega)))) | (refine wpS_block ?_) | (refine wpS_ret ?_; (try simp only [thenS, blockS])) | (refine wpS_exit ?_; simp only [thenS, blockS, ↓reduceIte, Nat.reduceEqDiff]) | (refine wpS_skip ?_; (try simp only [thenS, blockS]))) | (refine useK (by with_reducible assumption) ?_)))
    all_goals
      (first | refine r1_ Tryz.results21 (fun w_ hs_ => ?_) | refine r2_ Tryz.results21 (fun w_ hs_ => ?_) | refine r3_ Tryz.results21 (fun w_ hs_ => ?_) | refine retS0 Tryz.results21 (fun w_ hs_ => ?_) | refine retN0 Tryz.results21 (fun w_ hs_ => ?_))
      refine ⟨?_, hs_.mod⟩
      rw [hF.out]
      first
        | rfl
        | (simp [*]; done)
end Go.Proofs.YtmcaigmpcbkfpaaGreat
