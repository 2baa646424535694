/- OriginQuiet: P25.3: of what it says as a fault it mayn't be spoken again; what it says is right, whole, and tells of the packet. No condition. -/
import Derived.Test.YtmcaigmpcbkfpaaOrg6
import Derived.Test.YtmcaigmpcbkfpaaNot8
import Derived.Test.YtmcaigmpcbkfpaaNot9
set_option linter.unusedVariables false
set_option linter.unusedSimpArgs false
namespace Go.Proofs.Ytmcaigmpcbkfpaa
set_option maxRecDepth 8000
attribute [local irreducible] blk wpS seqS ordS OpVal RV endS LoadV StoreV Calls
open Go.RowKit
theorem msg_or (k c word : Int) (p : Pkt) : (∃ m, faultMsg k c word p = .inl m ∧ pkRight p = true ∧ ntRight ⟨k, c, word, ⟨#[]⟩⟩ = true ∧ m = ⟨k, c, word, strOf (begOf (hdrBytes p))⟩) ∨ faultMsg k c word p = .inr 1 ∨ faultMsg k c word p = .inr 12 := by
  unfold faultMsg
  by_cases h1 : ntRight ⟨k, c, word, ⟨#[]⟩⟩ = true
  · rw [if_pos h1]
    by_cases h2 : pkRight p = true ∧ mayOf p = true
    · rw [if_pos h2]; exact .inl ⟨_, rfl, h2.1, h1, rfl⟩
    · rw [if_neg h2]; exact .inr (.inr rfl)
  · rw [if_neg h1]; exact .inr (.inl rfl)
theorem said_right {id a b : Int} {m : Ntc} (hid : 0 ≤ id ∧ id ≤ 65535) (hm : ntRight m = true) : pkRight (saidPkt id a b m) = true := by
  have h3 := (ntRight_iff.1 hm).2.2
  have hl : (strOf (ntBytes m)).size = 8 + m.d.size := by rw [strOf_size, ntBytes_len]
  have h0 : allSize [] = 0 := by decide
  refine pkRight_iff.2 ⟨by simp, by simp, by simp, hid, by simp, rfl, ?_, by simp, ?_, ?_⟩
  · show allSize [] ≤ 40; omega
  · show 20 + allSize [] + ((strOf (ntBytes m)).size : Int) ≤ 65535; omega
  · show 0 + ((strOf (ntBytes m)).size : Int) ≤ 65535; omega
theorem said_may {id a b : Int} {m : Ntc} (hm : ntRight m = true) (hw : 0 ≤ m.word ∧ m.word ≤ 4294967295) (hk : ntKind m.ty = 3) : mayOf (saidPkt id a b m) = false := by
  have hp : ntParse (saidPkt id a b m).data.data.toList = .inl m := ntParse_enc hm hw
  unfold mayOf
  rw [hp]
  simp [hk]
set_option maxHeartbeats 8000000 in
theorem orgQuiet_any (a k c : Int) (p : Pkt) (v : Value) (w : World) (hr : Structs enOpt 2 w v p.opts) (hsrc : 0 ≤ p.src ∧ p.src ≤ 4294967295) (hdst : 0 ≤ p.dst ∧ p.dst ≤ 4294967295) (ha : 0 ≤ a ∧ a ≤ 4294967295) :
    Calls Try.prog 3 #[.int .u32 a, .int .i64 k, .int .i64 c, pv p v] w fun e w' => e = .returned (.bool true) ∧ Mod [] w w' := by
  have HG : Hid (∀ w', Mod [] w w' → Calls Try.prog 6 #[pv p v] w' fun e w'' => e = .returned (.bool (great05 p)) ∧ Mod [] w' w'') := Lib.hid fun w' hm => great05_any p v w' (hr.mod0 hm)
  rcases hg : great05 p with _ | _
  case true =>
    rw [hg] at HG
    (refine enterS ([]) (Sep.start _ []) Try.func3 rfl ?_; simp only [Try.ntmps3, List.size_toArray, List.length_cons, List.length_nil, Nat.reduceAdd, Nat.reduceSub, Array.replicate_succ, Array.replicate_zero, List.push_toArray, List.append_toArray, List.nil_append, List.cons_append])
    (repeat' (first | ((with_reducible refine isOps ?_); first | (refine seqS_nil ?_; (try simp only [thenS, blockS])) | ((first | ((with_reducible refine isCallF ?_); refine aCF ?_) | ((with_reducible refine isCallV ?_); refine aCV ?_)); first | refine cS0 (fun w_ hs_ => HG.out _ hs_.mod) ?_ | refine cS0 (fun w_ hs_ => awake25_any _) ?_) | ((with_reducible refine isStore ?_); first | refine aSt ?_) | ((with_reducible refine isBox ?_); first | (refine aBox (fun n_ l_ hl_ => ?_); dsimp only [sS, sZ] at hl_; subst hl_)) | ((with_reducible refine isAlloc ?_); first | (refine aAl (fun n_ l_ hl_ => ?_); dsimp only [sS, sZ] at hl_; subst hl_)) | refine aV ?_ | refine aNo ?_ | refine aNo' ?_ | ((fail_if_success (refine aIsT ?_)); (fail_if_success (refine aIsF ?_)); refine seqS_guard rfl rfl rfl (fun l_ hl_ h_ => ?_) (fun l_ hl_ h_ => ?_) <;> (dsimp only [sS, sZ] at hl_; subst hl_; (try (simp only [beq_iff_eq, bne_iff_ne, beq_eq_false_iff_ne, bne_eq_false_iff_eq, ne_eq, decide_eq_true_eq, decide_eq_false_iff_not, Bool.and_eq_true, Bool.or_eq_true, Bool.and_eq_false_iff, Bool.or_eq_false_iff, Bool.not_eq_true', Bool.not_eq_false', Bool.false_eq_true, Bool.true_eq_false, reduceCtorEq] at h_)); (try (first | (with_reducible contradiction) | (exfalso; omega)))))) | ((with_reducible refine isWp ?_); first | (refine wpS_seq (fun K_ hK_ => ?_)) | (refine wpS_region ?_) | (refine wpS_cond rfl (fun h_ => ?_) (fun h_ => ?_) <;> (try (simp only [beq_iff_eq, bne_iff_ne, beq_eq_false_iff_ne, bne_eq_false_iff_eq, ne_eq, decide_eq_true_eq, decide_eq_false_iff_not, Bool.and_eq_true, Bool.or_eq_true, Bool.and_eq_false_iff, Bool.or_eq_false_iff, Bool.false_eq_true, Bool.true_eq_false, reduceCtorEq] at h_)) <;> (try (first | (with_reducible contradiction) | (exfalso; omega)))) | (refine wpS_block ?_) | (refine wpS_ret ?_; (try simp only [thenS, blockS])) | (refine wpS_exit ?_; simp only [thenS, blockS, ↓reduceIte, Nat.reduceEqDiff]) | (refine wpS_skip ?_; (try simp only [thenS, blockS]))) | (refine useK (by with_reducible assumption) ?_)))
    (first | refine r1_ Try.results3 (fun w_ hs_ => ?_) | refine r2_ Try.results3 (fun w_ hs_ => ?_) | refine r3_ Try.results3 (fun w_ hs_ => ?_) | refine retS0 Try.results3 (fun w_ hs_ => ?_) | refine retN0 Try.results3 (fun w_ hs_ => ?_))
    exact ⟨rfl, hs_.mod⟩
  rw [hg] at HG
  by_cases hbig : (2000 : Int) < (p.data.size : Int)
  · (refine enterS ([]) (Sep.start _ []) Try.func3 rfl ?_; simp only [Try.ntmps3, List.size_toArray, List.length_cons, List.length_nil, Nat.reduceAdd, Nat.reduceSub, Array.replicate_succ, Array.replicate_zero, List.push_toArray, List.append_toArray, List.nil_append, List.cons_append])
    (repeat' (first | ((with_reducible refine isOps ?_); first | (refine seqS_nil ?_; (try simp only [thenS, blockS])) | ((first | ((with_reducible refine isCallF ?_); refine aCF ?_) | ((with_reducible refine isCallV ?_); refine aCV ?_)); first | refine cS0 (fun w_ hs_ => HG.out _ hs_.mod) ?_ | refine cS0 (fun w_ hs_ => awake25_any _) ?_) | ((with_reducible refine isStore ?_); first | refine aSt ?_) | ((with_reducible refine isBox ?_); first | (refine aBox (fun n_ l_ hl_ => ?_); dsimp only [sS, sZ] at hl_; subst hl_)) | ((with_reducible refine isAlloc ?_); first | (refine aAl (fun n_ l_ hl_ => ?_); dsimp only [sS, sZ] at hl_; subst hl_)) | refine aV ?_ | refine aNo ?_ | refine aNo' ?_ | ((fail_if_success (refine aIsT ?_)); (fail_if_success (refine aIsF ?_)); refine seqS_guard rfl rfl rfl (fun l_ hl_ h_ => ?_) (fun l_ hl_ h_ => ?_) <;> (dsimp only [sS, sZ] at hl_; subst hl_; (try (simp only [beq_iff_eq, bne_iff_ne, beq_eq_false_iff_ne, bne_eq_false_iff_eq, ne_eq, decide_eq_true_eq, decide_eq_false_iff_not, Bool.and_eq_true, Bool.or_eq_true, Bool.and_eq_false_iff, Bool.or_eq_false_iff, Bool.not_eq_true', Bool.not_eq_false', Bool.false_eq_true, Bool.true_eq_false, reduceCtorEq] at h_)); (try (first | (with_reducible contradiction) | (exfalso; omega)))))) | ((with_reducible refine isWp ?_); first | (refine wpS_seq (fun K_ hK_ => ?_)) | (refine wpS_region ?_) | (refine wpS_cond rfl (fun h_ => ?_) (fun h_ => ?_) <;> (try (simp only [beq_iff_eq, bne_iff_ne, beq_eq_false_iff_ne, bne_eq_false_iff_eq, ne_eq, decide_eq_true_eq, decide_eq_false_iff_not, Bool.and_eq_true, Bool.or_eq_true, Bool.and_eq_false_iff, Bool.or_eq_false_iff, Bool.false_eq_true, Bool.true_eq_false, reduceCtorEq] at h_)) <;> (try (first | (with_reducible contradiction) | (exfalso; omega)))) | (refine wpS_block ?_) | (refine wpS_ret ?_; (try simp only [thenS, blockS])) | (refine wpS_exit ?_; simp only [thenS, blockS, ↓reduceIte, Nat.reduceEqDiff]) | (refine wpS_skip ?_; (try simp only [thenS, blockS]))) | (refine useK (by with_reducible assumption) ?_)))
    (first | refine r1_ Try.results3 (fun w_ hs_ => ?_) | refine r2_ Try.results3 (fun w_ hs_ => ?_) | refine r3_ Try.results3 (fun w_ hs_ => ?_) | refine retS0 Try.results3 (fun w_ hs_ => ?_) | refine retN0 Try.results3 (fun w_ hs_ => ?_))
    exact ⟨rfl, hs_.mod⟩
  have N1 : Hid (∀ w', Calls Try.prog 8 #[.agg #[.int .i64 0, .int .i64 0, .int .i64 0, .int .i64 0, .int .i64 0, .int .i64 1, .int .i64 0, .int .i64 0, .int .i64 0]] w' (Makes (fun P => ptr0 P) (fun P => og P 1 1 0) w')) := Lib.hid fun w' => by
    have := oNew_any 1 w'
    rwa [show (if (1 : Int) < 0 then (0 : Int) else 1) = 1 from rfl] at this
  have F0 : Hid (∀ P w', (∀ w'', Mod [P] w' w'' → Structs enOpt 2 w'' v p.opts) → (og P 1 1 0).holds w' → Calls Try.prog 9 #[ptr0 P, .int .u32 a, .int .i64 k, .int .i64 c, .int .u32 0, pv p v] w' fun e w'' =>
    e = .returned (.tuple #[pv (faultOf 1 0 a k c 0 p).p nilS, .int .i64 (faultOf 1 0 a k c 0 p).e]) ∧ (og P (faultOf 1 0 a k c 0 p).n 1 (faultOf 1 0 a k c 0 p).id).holds w'' ∧ Mod (og P 1 1 0).foot w' w'') := Lib.hid fun P w' hs h => fault_any a k c 0 p v hs hg hsrc hdst (by decide) (by decide) (by decide) h
  rcases msg_or k c 0 p with ⟨m, hm, hrt, hnr, rfl⟩ | hm | hm
  case inr.inl =>
    rw [show faultOf 1 0 a k c 0 p = ⟨1, 0, noPkt, 1⟩ from by unfold faultOf; rw [hm]; rfl] at F0
    clear hm
    (refine enterS ([]) (Sep.start _ []) Try.func3 rfl ?_; simp only [Try.ntmps3, List.size_toArray, List.length_cons, List.length_nil, Nat.reduceAdd, Nat.reduceSub, Array.replicate_succ, Array.replicate_zero, List.push_toArray, List.append_toArray, List.nil_append, List.cons_append])
    (repeat' (first | ((with_reducible refine isOps ?_); first | (refine seqS_nil ?_; (try simp only [thenS, blockS])) | ((first | ((with_reducible refine isCallF ?_); refine aCF ?_) | ((with_reducible refine isCallV ?_); refine aCV ?_)); first | refine cS0 (fun w_ hs_ => HG.out _ hs_.mod) ?_ | refine cS0 (fun w_ hs_ => awake25_any _) ?_ | (refine callS_N (fun w_ hs_ => N1.out _) (fun i_ l_ hl_ => ?_); dsimp only [sS, sZ] at hl_; subst hl_) | (refine cSE (hc := fun w_ hs_ hr_ => og_calls (F0.out _ _ (hs_.later (by first | ((repeat (first | exact .head _ | apply List.Mem.tail)); done) | fail) hr) hr_)) (h := fun i_ l_ hl_ => ?_); dsimp only [sS, sZ] at hl_; subst hl_)) | ((with_reducible refine isStore ?_); first | refine aSt ?_) | ((with_reducible refine isBox ?_); first | (refine aBox (fun n_ l_ hl_ => ?_); dsimp only [sS, sZ] at hl_; subst hl_)) | ((with_reducible refine isAlloc ?_); first | (refine aAl (fun n_ l_ hl_ => ?_); dsimp only [sS, sZ] at hl_; subst hl_)) | refine aV ?_ | refine aNo ?_ | refine aNo' ?_ | ((fail_if_success (refine aIsT ?_)); (fail_if_success (refine aIsF ?_)); refine seqS_guard rfl rfl rfl (fun l_ hl_ h_ => ?_) (fun l_ hl_ h_ => ?_) <;> (dsimp only [sS, sZ] at hl_; subst hl_; (try (simp only [beq_iff_eq, bne_iff_ne, beq_eq_false_iff_ne, bne_eq_false_iff_eq, ne_eq, decide_eq_true_eq, decide_eq_false_iff_not, Bool.and_eq_true, Bool.or_eq_true, Bool.and_eq_false_iff, Bool.or_eq_false_iff, Bool.not_eq_true', Bool.not_eq_false', Bool.false_eq_true, Bool.true_eq_false, reduceCtorEq] at h_)); (try (first | (with_reducible contradiction) | (exfalso; omega)))))) | ((with_reducible refine isWp ?_); first | (refine wpS_seq (fun K_ hK_ => ?_)) | (refine wpS_region ?_) | (refine wpS_cond rfl (fun h_ => ?_) (fun h_ => ?_) <;> (try (simp only [beq_iff_eq, bne_iff_ne, beq_eq_false_iff_ne, bne_eq_false_iff_eq, ne_eq, decide_eq_true_eq, decide_eq_false_iff_not, Bool.and_eq_true, Bool.or_eq_true, Bool.and_eq_false_iff, Bool.or_eq_false_iff, Bool.false_eq_true, Bool.true_eq_false, reduceCtorEq] at h_)) <;> (try (first | (with_reducible contradiction) | (exfalso; omega)))) | (refine wpS_block ?_) | (refine wpS_ret ?_; (try simp only [thenS, blockS])) | (refine wpS_exit ?_; simp only [thenS, blockS, ↓reduceIte, Nat.reduceEqDiff]) | (refine wpS_skip ?_; (try simp only [thenS, blockS]))) | (refine useK (by with_reducible assumption) ?_)))
    (first | refine r1_ Try.results3 (fun w_ hs_ => ?_) | refine r2_ Try.results3 (fun w_ hs_ => ?_) | refine r3_ Try.results3 (fun w_ hs_ => ?_) | refine retS0 Try.results3 (fun w_ hs_ => ?_) | refine retN0 Try.results3 (fun w_ hs_ => ?_))
    exact ⟨rfl, hs_.mod⟩
  case inr.inr =>
    rw [show faultOf 1 0 a k c 0 p = ⟨1, 0, noPkt, 12⟩ from by unfold faultOf; rw [hm]; rfl] at F0
    clear hm
    (refine enterS ([]) (Sep.start _ []) Try.func3 rfl ?_; simp only [Try.ntmps3, List.size_toArray, List.length_cons, List.length_nil, Nat.reduceAdd, Nat.reduceSub, Array.replicate_succ, Array.replicate_zero, List.push_toArray, List.append_toArray, List.nil_append, List.cons_append])
    (repeat' (first | ((with_reducible refine isOps ?_); first | (refine seqS_nil ?_; (try simp only [thenS, blockS])) | ((first | ((with_reducible refine isCallF ?_); refine aCF ?_) | ((with_reducible refine isCallV ?_); refine aCV ?_)); first | refine cS0 (fun w_ hs_ => HG.out _ hs_.mod) ?_ | refine cS0 (fun w_ hs_ => awake25_any _) ?_ | (refine callS_N (fun w_ hs_ => N1.out _) (fun i_ l_ hl_ => ?_); dsimp only [sS, sZ] at hl_; subst hl_) | (refine cSE (hc := fun w_ hs_ hr_ => og_calls (F0.out _ _ (hs_.later (by first | ((repeat (first | exact .head _ | apply List.Mem.tail)); done) | fail) hr) hr_)) (h := fun i_ l_ hl_ => ?_); dsimp only [sS, sZ] at hl_; subst hl_)) | ((with_reducible refine isStore ?_); first | refine aSt ?_) | ((with_reducible refine isBox ?_); first | (refine aBox (fun n_ l_ hl_ => ?_); dsimp only [sS, sZ] at hl_; subst hl_)) | ((with_reducible refine isAlloc ?_); first | (refine aAl (fun n_ l_ hl_ => ?_); dsimp only [sS, sZ] at hl_; subst hl_)) | refine aV ?_ | refine aNo ?_ | refine aNo' ?_ | ((fail_if_success (refine aIsT ?_)); (fail_if_success (refine aIsF ?_)); refine seqS_guard rfl rfl rfl (fun l_ hl_ h_ => ?_) (fun l_ hl_ h_ => ?_) <;> (dsimp only [sS, sZ] at hl_; subst hl_; (try (simp only [beq_iff_eq, bne_iff_ne, beq_eq_false_iff_ne, bne_eq_false_iff_eq, ne_eq, decide_eq_true_eq, decide_eq_false_iff_not, Bool.and_eq_true, Bool.or_eq_true, Bool.and_eq_false_iff, Bool.or_eq_false_iff, Bool.not_eq_true', Bool.not_eq_false', Bool.false_eq_true, Bool.true_eq_false, reduceCtorEq] at h_)); (try (first | (with_reducible contradiction) | (exfalso; omega)))))) | ((with_reducible refine isWp ?_); first | (refine wpS_seq (fun K_ hK_ => ?_)) | (refine wpS_region ?_) | (refine wpS_cond rfl (fun h_ => ?_) (fun h_ => ?_) <;> (try (simp only [beq_iff_eq, bne_iff_ne, beq_eq_false_iff_ne, bne_eq_false_iff_eq, ne_eq, decide_eq_true_eq, decide_eq_false_iff_not, Bool.and_eq_true, Bool.or_eq_true, Bool.and_eq_false_iff, Bool.or_eq_false_iff, Bool.false_eq_true, Bool.true_eq_false, reduceCtorEq] at h_)) <;> (try (first | (with_reducible contradiction) | (exfalso; omega)))) | (refine wpS_block ?_) | (refine wpS_ret ?_; (try simp only [thenS, blockS])) | (refine wpS_exit ?_; simp only [thenS, blockS, ↓reduceIte, Nat.reduceEqDiff]) | (refine wpS_skip ?_; (try simp only [thenS, blockS]))) | (refine useK (by with_reducible assumption) ?_)))
    (first | refine r1_ Try.results3 (fun w_ hs_ => ?_) | refine r2_ Try.results3 (fun w_ hs_ => ?_) | refine r3_ Try.results3 (fun w_ hs_ => ?_) | refine retS0 Try.results3 (fun w_ hs_ => ?_) | refine retN0 Try.results3 (fun w_ hs_ => ?_))
    exact ⟨rfl, hs_.mod⟩
  rw [show faultOf 1 0 a k c 0 p = ⟨0, 1, saidPkt 0 a p.src ⟨k, c, 0, strOf (begOf (hdrBytes p))⟩, 0⟩ from by unfold faultOf; rw [hm]; rfl] at F0
  clear hm
  have hmr := begRight hnr hrt
  have hpe := hdrParse_enc hrt hsrc hdst
  obtain ⟨hib, hik⟩ := inner_beg hpe
  have hln : (hdrBytes p).length ≤ 70000 := by
    have := hdrBytes_len (pkRight_iff.1 hrt).opts
    have := (pkRight_iff.1 hrt).all
    omega
  have hbl := begOf_len (hdrBytes p)
  have HI : Hid (∀ w', Calls Try.prog 11 #[.string (strOf (begOf (hdrBytes p)))] w' fun e w'' => e = .returned (keyVal (innerOf (hdrBytes p))) ∧ Mod [] w' w'') := Lib.hid fun w' => by
    have := refInner_any (begOf (hdrBytes p)) (by omega) w'
    rwa [hib] at this
  have HP : Hid (∀ w', Calls Try.prog 10 #[.string (strOf (ntBytes ⟨k, c, 0, strOf (begOf (hdrBytes p))⟩))] w' fun e w'' => e = .returned (.tuple #[nv ⟨k, c, 0, strOf (begOf (hdrBytes p))⟩, .int .i64 0]) ∧ Mod [] w' w'') := Lib.hid fun w' => by
    have := refNtParse_any (ntBytes ⟨k, c, 0, strOf (begOf (hdrBytes p))⟩) (by rw [ntBytes_len]; simp only [strOf_size]; omega) w'
    rwa [ntParse_enc hmr ⟨by show (0 : Int) ≤ 0; decide, by show (0 : Int) ≤ 4294967295; decide⟩] at this
  have hsz : (strOf (ntBytes ⟨k, c, 0, strOf (begOf (hdrBytes p))⟩)).size ≤ 70010 := by rw [strOf_size, ntBytes_len]; simp only [strOf_size]; omega
  have HR : Hid (∀ w', Calls Try.prog 12 #[pv (saidPkt 0 a p.src ⟨k, c, 0, strOf (begOf (hdrBytes p))⟩) nilS] w' fun e w'' => e = .returned (.bool true) ∧ Mod [] w' w'') := Lib.hid fun w' => by
    have := refRight05_any (saidPkt 0 a p.src ⟨k, c, 0, strOf (begOf (hdrBytes p))⟩) nilS w' (Structs.nil _ _ _) rfl (by show (strOf (ntBytes ⟨k, c, 0, strOf (begOf (hdrBytes p))⟩)).size ≤ 1000000; omega)
    rwa [said_right (by decide) hmr] at this
  have HK := Lib.hid fun w' => refKind07_any k w'
  have HM : Hid (ntKind k = 3 → ∀ w', Calls Try.prog 14 #[pv (saidPkt 0 a p.src ⟨k, c, 0, strOf (begOf (hdrBytes p))⟩) nilS] w' fun e w'' => e = .returned (.bool false) ∧ Mod [] w' w'') := Lib.hid fun h3 w' => by
    have := may_any (saidPkt 0 a p.src ⟨k, c, 0, strOf (begOf (hdrBytes p))⟩) nilS w' ha (by show (strOf (ntBytes ⟨k, c, 0, strOf (begOf (hdrBytes p))⟩)).size ≤ 90000; omega)
    rwa [said_may hmr ⟨by show (0 : Int) ≤ 0; decide, by show (0 : Int) ≤ 4294967295; decide⟩ h3] at this
  clear hpe hib hln hbl hmr hnr hsz
  unfold saidPkt at F0 HR HM
  generalize innerOf (hdrBytes p) = K at HI hik
  generalize strOf (ntBytes ⟨k, c, 0, strOf (begOf (hdrBytes p))⟩) = B at F0 HR HM HP
  generalize strOf (begOf (hdrBytes p)) = C at HI HP
  generalize ntKind k = kd at HK HM
  by_cases h3 : kd = 3
  · replace HM := Lib.hid (HM.out h3)
    subst h3
    rcases K with _ | K
    · clear hik
      (refine enterS ([]) (Sep.start _ []) Try.func3 rfl ?_; simp only [Try.ntmps3, List.size_toArray, List.length_cons, List.length_nil, Nat.reduceAdd, Nat.reduceSub, Array.replicate_succ, Array.replicate_zero, List.push_toArray, List.append_toArray, List.nil_append, List.cons_append])
      (repeat' (first | ((with_reducible refine isOps ?_); first | (refine seqS_nil ?_; (try simp only [thenS, blockS])) | ((first | ((with_reducible refine isCallF ?_); refine aCF ?_) | ((with_reducible refine isCallV ?_); refine aCV ?_)); first | refine cS0 (fun w_ hs_ => HG.out _ hs_.mod) ?_ | refine cS0 (fun w_ hs_ => awake25_any _) ?_ | (refine callS_N (fun w_ hs_ => N1.out _) (fun i_ l_ hl_ => ?_); dsimp only [sS, sZ] at hl_; subst hl_) | (refine cSE (hc := fun w_ hs_ hr_ => og_calls (F0.out _ _ (hs_.later (by first | ((repeat (first | exact .head _ | apply List.Mem.tail)); done) | fail) hr) hr_)) (h := fun i_ l_ hl_ => ?_); dsimp only [sS, sZ] at hl_; subst hl_) | refine cS0 (fun w_ hs_ => HP.out _) ?_ | refine cS0 (fun w_ hs_ => HI.out _) ?_ | refine cS0 (fun w_ hs_ => HR.out _) ?_ | refine cS0 (fun w_ hs_ => HK.out _) ?_ | refine cS0 (fun w_ hs_ => HM.out _) ?_) | ((with_reducible refine isStore ?_); first | refine aSt ?_) | ((with_reducible refine isBox ?_); first | (refine aBox (fun n_ l_ hl_ => ?_); dsimp only [sS, sZ] at hl_; subst hl_)) | ((with_reducible refine isAlloc ?_); first | (refine aAl (fun n_ l_ hl_ => ?_); dsimp only [sS, sZ] at hl_; subst hl_)) | refine aV ?_ | refine aNo ?_ | refine aNo' ?_ | ((fail_if_success (refine aIsT ?_)); (fail_if_success (refine aIsF ?_)); refine seqS_guard rfl rfl rfl (fun l_ hl_ h_ => ?_) (fun l_ hl_ h_ => ?_) <;> (dsimp only [sS, sZ] at hl_; subst hl_; (try (simp only [beq_iff_eq, bne_iff_ne, beq_eq_false_iff_ne, bne_eq_false_iff_eq, ne_eq, decide_eq_true_eq, decide_eq_false_iff_not, Bool.and_eq_true, Bool.or_eq_true, Bool.and_eq_false_iff, Bool.or_eq_false_iff, Bool.not_eq_true', Bool.not_eq_false', Bool.false_eq_true, Bool.true_eq_false, reduceCtorEq] at h_)); (try (first | (with_reducible contradiction) | (exfalso; omega)))))) | ((with_reducible refine isWp ?_); first | (refine wpS_seq (fun K_ hK_ => ?_)) | (refine wpS_region ?_) | (refine wpS_cond rfl (fun h_ => ?_) (fun h_ => ?_) <;> (try (simp only [beq_iff_eq, bne_iff_ne, beq_eq_false_iff_ne, bne_eq_false_iff_eq, ne_eq, decide_eq_true_eq, decide_eq_false_iff_not, Bool.and_eq_true, Bool.or_eq_true, Bool.and_eq_false_iff, Bool.or_eq_false_iff, Bool.false_eq_true, Bool.true_eq_false, reduceCtorEq] at h_)) <;> (try (first | (with_reducible contradiction) | (exfalso; omega)))) | (refine wpS_block ?_) | (refine wpS_ret ?_; (try simp only [thenS, blockS])) | (refine wpS_exit ?_; simp only [thenS, blockS, ↓reduceIte, Nat.reduceEqDiff]) | (refine wpS_skip ?_; (try simp only [thenS, blockS]))) | (refine useK (by with_reducible assumption) ?_)))
      all_goals
        (first | refine r1_ Try.results3 (fun w_ hs_ => ?_) | refine r2_ Try.results3 (fun w_ hs_ => ?_) | refine r3_ Try.results3 (fun w_ hs_ => ?_) | refine retS0 Try.results3 (fun w_ hs_ => ?_) | refine retN0 Try.results3 (fun w_ hs_ => ?_))
        exact ⟨rfl, hs_.mod⟩
    · obtain ⟨e1, e2, e3⟩ := hik K rfl
      obtain ⟨ks, kd, kp, kx, ky⟩ := K
      simp only at e1 e2 e3
      subst e1 e2 e3
      (refine enterS ([]) (Sep.start _ []) Try.func3 rfl ?_; simp only [Try.ntmps3, List.size_toArray, List.length_cons, List.length_nil, Nat.reduceAdd, Nat.reduceSub, Array.replicate_succ, Array.replicate_zero, List.push_toArray, List.append_toArray, List.nil_append, List.cons_append])
      (repeat' (first | ((with_reducible refine isOps ?_); first | (refine seqS_nil ?_; (try simp only [thenS, blockS])) | ((first | ((with_reducible refine isCallF ?_); refine aCF ?_) | ((with_reducible refine isCallV ?_); refine aCV ?_)); first | refine cS0 (fun w_ hs_ => HG.out _ hs_.mod) ?_ | refine cS0 (fun w_ hs_ => awake25_any _) ?_ | (refine callS_N (fun w_ hs_ => N1.out _) (fun i_ l_ hl_ => ?_); dsimp only [sS, sZ] at hl_; subst hl_) | (refine cSE (hc := fun w_ hs_ hr_ => og_calls (F0.out _ _ (hs_.later (by first | ((repeat (first | exact .head _ | apply List.Mem.tail)); done) | fail) hr) hr_)) (h := fun i_ l_ hl_ => ?_); dsimp only [sS, sZ] at hl_; subst hl_) | refine cS0 (fun w_ hs_ => HP.out _) ?_ | refine cS0 (fun w_ hs_ => HI.out _) ?_ | refine cS0 (fun w_ hs_ => HR.out _) ?_ | refine cS0 (fun w_ hs_ => HK.out _) ?_ | refine cS0 (fun w_ hs_ => HM.out _) ?_) | ((with_reducible refine isStore ?_); first | refine aSt ?_) | ((with_reducible refine isBox ?_); first | (refine aBox (fun n_ l_ hl_ => ?_); dsimp only [sS, sZ] at hl_; subst hl_)) | ((with_reducible refine isAlloc ?_); first | (refine aAl (fun n_ l_ hl_ => ?_); dsimp only [sS, sZ] at hl_; subst hl_)) | refine aV ?_ | refine aNo ?_ | refine aNo' ?_ | ((fail_if_success (refine aIsT ?_)); (fail_if_success (refine aIsF ?_)); refine seqS_guard rfl rfl rfl (fun l_ hl_ h_ => ?_) (fun l_ hl_ h_ => ?_) <;> (dsimp only [sS, sZ] at hl_; subst hl_; (try (simp only [beq_iff_eq, bne_iff_ne, beq_eq_false_iff_ne, bne_eq_false_iff_eq, ne_eq, decide_eq_true_eq, decide_eq_false_iff_not, Bool.and_eq_true, Bool.or_eq_true, Bool.and_eq_false_iff, Bool.or_eq_false_iff, Bool.not_eq_true', Bool.not_eq_false', Bool.false_eq_true, Bool.true_eq_false, reduceCtorEq] at h_)); (try (first | (with_reducible contradiction) | (exfalso; omega)))))) | ((with_reducible refine isWp ?_); first | (refine wpS_seq (fun K_ hK_ => ?_)) | (refine wpS_region ?_) | (refine wpS_cond rfl (fun h_ => ?_) (fun h_ => ?_) <;> (try (simp only [beq_iff_eq, bne_iff_ne, beq_eq_false_iff_ne, bne_eq_false_iff_eq, ne_eq, decide_eq_true_eq, decide_eq_false_iff_not, Bool.and_eq_true, Bool.or_eq_true, Bool.and_eq_false_iff, Bool.or_eq_false_iff, Bool.false_eq_true, Bool.true_eq_false, reduceCtorEq] at h_)) <;> (try (first | (with_reducible contradiction) | (exfalso; omega)))) | (refine wpS_block ?_) | (refine wpS_ret ?_; (try simp only [thenS, blockS])) | (refine wpS_exit ?_; simp only [thenS, blockS, ↓reduceIte, Nat.reduceEqDiff]) | (refine wpS_skip ?_; (try simp only [thenS, blockS]))) | (refine useK (by with_reducible assumption) ?_)))
      all_goals
        (first | refine r1_ Try.results3 (fun w_ hs_ => ?_) | refine r2_ Try.results3 (fun w_ hs_ => ?_) | refine r3_ Try.results3 (fun w_ hs_ => ?_) | refine retS0 Try.results3 (fun w_ hs_ => ?_) | refine retN0 Try.results3 (fun w_ hs_ => ?_))
        exact ⟨rfl, hs_.mod⟩
  · clear HM
    rcases K with _ | K
    · clear hik
      (refine enterS ([]) (Sep.start _ []) Try.func3 rfl ?_; simp only [Try.ntmps3, List.size_toArray, List.length_cons, List.length_nil, Nat.reduceAdd, Nat.reduceSub, Array.replicate_succ, Array.replicate_zero, List.push_toArray, List.append_toArray, List.nil_append, List.cons_append])
      (repeat' (first | ((with_reducible refine isOps ?_); first | (refine seqS_nil ?_; (try simp only [thenS, blockS])) | ((first | ((with_reducible refine isCallF ?_); refine aCF ?_) | ((with_reducible refine isCallV ?_); refine aCV ?_)); first | refine cS0 (fun w_ hs_ => HG.out _ hs_.mod) ?_ | refine cS0 (fun w_ hs_ => awake25_any _) ?_ | (refine callS_N (fun w_ hs_ => N1.out _) (fun i_ l_ hl_ => ?_); dsimp only [sS, sZ] at hl_; subst hl_) | (refine cSE (hc := fun w_ hs_ hr_ => og_calls (F0.out _ _ (hs_.later (by first | ((repeat (first | exact .head _ | apply List.Mem.tail)); done) | fail) hr) hr_)) (h := fun i_ l_ hl_ => ?_); dsimp only [sS, sZ] at hl_; subst hl_) | refine cS0 (fun w_ hs_ => HP.out _) ?_ | refine cS0 (fun w_ hs_ => HI.out _) ?_ | refine cS0 (fun w_ hs_ => HR.out _) ?_ | refine cS0 (fun w_ hs_ => HK.out _) ?_ | refine cS0 (fun w_ hs_ => HM.out _) ?_) | ((with_reducible refine isStore ?_); first | refine aSt ?_) | ((with_reducible refine isBox ?_); first | (refine aBox (fun n_ l_ hl_ => ?_); dsimp only [sS, sZ] at hl_; subst hl_)) | ((with_reducible refine isAlloc ?_); first | (refine aAl (fun n_ l_ hl_ => ?_); dsimp only [sS, sZ] at hl_; subst hl_)) | refine aV ?_ | refine aNo ?_ | refine aNo' ?_ | ((fail_if_success (refine aIsT ?_)); (fail_if_success (refine aIsF ?_)); refine seqS_guard rfl rfl rfl (fun l_ hl_ h_ => ?_) (fun l_ hl_ h_ => ?_) <;> (dsimp only [sS, sZ] at hl_; subst hl_; (try (simp only [beq_iff_eq, bne_iff_ne, beq_eq_false_iff_ne, bne_eq_false_iff_eq, ne_eq, decide_eq_true_eq, decide_eq_false_iff_not, Bool.and_eq_true, Bool.or_eq_true, Bool.and_eq_false_iff, Bool.or_eq_false_iff, Bool.not_eq_true', Bool.not_eq_false', Bool.false_eq_true, Bool.true_eq_false, reduceCtorEq] at h_)); (try (first | (with_reducible contradiction) | (exfalso; omega)))))) | ((with_reducible refine isWp ?_); first | (refine wpS_seq (fun K_ hK_ => ?_)) | (refine wpS_region ?_) | (refine wpS_cond rfl (fun h_ => ?_) (fun h_ => ?_) <;> (try (simp only [beq_iff_eq, bne_iff_ne, beq_eq_false_iff_ne, bne_eq_false_iff_eq, ne_eq, decide_eq_true_eq, decide_eq_false_iff_not, Bool.and_eq_true, Bool.or_eq_true, Bool.and_eq_false_iff, Bool.or_eq_false_iff, Bool.false_eq_true, Bool.true_eq_false, reduceCtorEq] at h_)) <;> (try (first | (with_reducible contradiction) | (exfalso; omega)))) | (refine wpS_block ?_) | (refine wpS_ret ?_; (try simp only [thenS, blockS])) | (refine wpS_exit ?_; simp only [thenS, blockS, ↓reduceIte, Nat.reduceEqDiff]) | (refine wpS_skip ?_; (try simp only [thenS, blockS]))) | (refine useK (by with_reducible assumption) ?_)))
      all_goals
        (first | refine r1_ Try.results3 (fun w_ hs_ => ?_) | refine r2_ Try.results3 (fun w_ hs_ => ?_) | refine r3_ Try.results3 (fun w_ hs_ => ?_) | refine retS0 Try.results3 (fun w_ hs_ => ?_) | refine retN0 Try.results3 (fun w_ hs_ => ?_))
        exact ⟨rfl, hs_.mod⟩
    · obtain ⟨e1, e2, e3⟩ := hik K rfl
      obtain ⟨ks, kd2, kp, kx, ky⟩ := K
      simp only at e1 e2 e3
      subst e1 e2 e3
      (refine enterS ([]) (Sep.start _ []) Try.func3 rfl ?_; simp only [Try.ntmps3, List.size_toArray, List.length_cons, List.length_nil, Nat.reduceAdd, Nat.reduceSub, Array.replicate_succ, Array.replicate_zero, List.push_toArray, List.append_toArray, List.nil_append, List.cons_append])
      (repeat' (first | ((with_reducible refine isOps ?_); first | (refine seqS_nil ?_; (try simp only [thenS, blockS])) | ((first | ((with_reducible refine isCallF ?_); refine aCF ?_) | ((with_reducible refine isCallV ?_); refine aCV ?_)); first | refine cS0 (fun w_ hs_ => HG.out _ hs_.mod) ?_ | refine cS0 (fun w_ hs_ => awake25_any _) ?_ | (refine callS_N (fun w_ hs_ => N1.out _) (fun i_ l_ hl_ => ?_); dsimp only [sS, sZ] at hl_; subst hl_) | (refine cSE (hc := fun w_ hs_ hr_ => og_calls (F0.out _ _ (hs_.later (by first | ((repeat (first | exact .head _ | apply List.Mem.tail)); done) | fail) hr) hr_)) (h := fun i_ l_ hl_ => ?_); dsimp only [sS, sZ] at hl_; subst hl_) | refine cS0 (fun w_ hs_ => HP.out _) ?_ | refine cS0 (fun w_ hs_ => HI.out _) ?_ | refine cS0 (fun w_ hs_ => HR.out _) ?_ | refine cS0 (fun w_ hs_ => HK.out _) ?_ | refine cS0 (fun w_ hs_ => HM.out _) ?_) | ((with_reducible refine isStore ?_); first | refine aSt ?_) | ((with_reducible refine isBox ?_); first | (refine aBox (fun n_ l_ hl_ => ?_); dsimp only [sS, sZ] at hl_; subst hl_)) | ((with_reducible refine isAlloc ?_); first | (refine aAl (fun n_ l_ hl_ => ?_); dsimp only [sS, sZ] at hl_; subst hl_)) | refine aV ?_ | refine aNo ?_ | refine aNo' ?_ | ((fail_if_success (refine aIsT ?_)); (fail_if_success (refine aIsF ?_)); refine seqS_guard rfl rfl rfl (fun l_ hl_ h_ => ?_) (fun l_ hl_ h_ => ?_) <;> (dsimp only [sS, sZ] at hl_; subst hl_; (try (simp only [beq_iff_eq, bne_iff_ne, beq_eq_false_iff_ne, bne_eq_false_iff_eq, ne_eq, decide_eq_true_eq, decide_eq_false_iff_not, Bool.and_eq_true, Bool.or_eq_true, Bool.and_eq_false_iff, Bool.or_eq_false_iff, Bool.not_eq_true', Bool.not_eq_false', Bool.false_eq_true, Bool.true_eq_false, reduceCtorEq] at h_)); (try (first | (with_reducible contradiction) | (exfalso; omega)))))) | ((with_reducible refine isWp ?_); first | (refine wpS_seq (fun K_ hK_ => ?_)) | (refine wpS_region ?_) | (refine wpS_cond rfl (fun h_ => ?_) (fun h_ => ?_) <;> (try (simp only [beq_iff_eq, bne_iff_ne, beq_eq_false_iff_ne, bne_eq_false_iff_eq, ne_eq, decide_eq_true_eq, decide_eq_false_iff_not, Bool.and_eq_true, Bool.or_eq_true, Bool.and_eq_false_iff, Bool.or_eq_false_iff, Bool.false_eq_true, Bool.true_eq_false, reduceCtorEq] at h_)) <;> (try (first | (with_reducible contradiction) | (exfalso; omega)))) | (refine wpS_block ?_) | (refine wpS_ret ?_; (try simp only [thenS, blockS])) | (refine wpS_exit ?_; simp only [thenS, blockS, ↓reduceIte, Nat.reduceEqDiff]) | (refine wpS_skip ?_; (try simp only [thenS, blockS]))) | (refine useK (by with_reducible assumption) ?_)))
      all_goals
        (first | refine r1_ Try.results3 (fun w_ hs_ => ?_) | refine r2_ Try.results3 (fun w_ hs_ => ?_) | refine r3_ Try.results3 (fun w_ hs_ => ?_) | refine retS0 Try.results3 (fun w_ hs_ => ?_) | refine retN0 Try.results3 (fun w_ hs_ => ?_))
        exact ⟨rfl, hs_.mod⟩
namespace originQuiet
open Go.ChangeShapes Go.WideShapes Go.ChangeAt Go.RowKit
open Go.ChangeMaps (open_string shut_string)
theorem own : ownKnob Try.prog.godebug = none := by kernel_rfl
theorem laidOut : laidOutB Try.prog = true := by kernel_rfl
set_option maxRecDepth 100000 in
theorem lifted (os : Os) (started : os.Started) (H : Type) (enc : TypeId × Value → H) :
    ReturnsInHanded {} Try.checked os 3 .any (Rows.originQuietSpec.pre6 enc Try.prog Try.f3 Rows.originQuietRow.domain false) (Rows.originQuietSpec.post enc Try.prog Try.f3 false true false false) := by
  refine returnsInHanded_of_change_sized (C := Try.checked) own started (by kernel_rfl) Try.func3
    (ChangeSpec.witness6 (enc := enc) (C := Try.checked) false ⟨#[], #[.int .u32 0, .int .i64 0, .int .i64 0, .agg #[.int .i64 0, .int .i64 0, .bool false, .bool false, .int .i64 0, .int .i64 0, .int .i64 0, .int .u32 0, .int .u32 0, .slice none 0 0, .string ByteArray.empty]], []⟩ 8 (by kernel_rfl) (by kernel_rfl) (by kernel_rfl) (by kernel_rfl)) ?_
  intro W base args ds gs before hval0 hW hcnd hsz0 _
  have hsz : (DataW.weightsEach Try.prog (Try.f3.params.toList ++ Rows.originQuietSpec.plain.varTypes Try.prog) (ds ++ gs)).all (· ≤ reachBytes) = true := hsz0
  have hval : ∀ (j : Nat) t v, Try.f3.params[j]? = some t → args[j]? = some v → Value.okWide Try.prog W .any base t v := hval0
  have hW' := hW
  obtain ⟨p, q, hA0, hV, rfl, hfz, hnd⟩ := hW
  have hA : DataW.TrodAll enc Try.prog W 0 (fun _ => true) true Try.f3.params.toList args.toList ds p := hA0
  rw [Try.params3] at hA hval hsz
  obtain ⟨v0, vs0, d0, ds0, p0, q0, hargs, rfl, rfl, h0, r0⟩ := trodAll_cons hA
  obtain ⟨v1, vs1, d1, ds1, p1, q1, rfl, rfl, rfl, h1, r1⟩ := trodAll_cons r0
  obtain ⟨v2, vs2, d2, ds2, p2, q2, rfl, rfl, rfl, h2, r2⟩ := trodAll_cons r1
  obtain ⟨v3, vs3, d3, ds3, p3, q3, rfl, rfl, rfl, h3, r3⟩ := trodAll_cons r2
  obtain ⟨rfl, rfl, rfl⟩ := trodAll_nil r3
  obtain rfl : args = #[v0, v1, v2, v3] := by cases args; simp_all
  obtain ⟨rfl, rfl⟩ := trodVars_none hV
  obtain ⟨a0, rfl, rfl, rfl, w0⟩ := open_int Try.underlying22 (hval 0 22 v0 rfl rfl) h0
  obtain ⟨a1, rfl, rfl, rfl, w1⟩ := open_int Try.underlying3 (hval 1 3 v1 rfl rfl) h1
  obtain ⟨a2, rfl, rfl, rfl, w2⟩ := open_int Try.underlying3 (hval 2 3 v2 rfl rfl) h2
  have hv3 := (hval 3 25 v3 rfl rfl)
  have k3 := h3
  have lt3 : ∀ x ∈ p3, x.block < W.heap.size := by obtain ⟨m, hm⟩ := k3; exact DataW.trod_lt m _ _ _ hm
  obtain ⟨fuel3, g3⟩ := h3
  obtain ⟨l3, u3, rfl, s3, o3⟩ := open_pktv hv3 g3
  clear hA0 hval0 hsz0
  refine (orgQuiet_any a0 a1 a2 l3 u3 W s3 o3.src o3.dst (wf_u32 w0)).mono fun e W' ⟨he, mod⟩ => ?_
  have bel : Below W.heap.size W W' := mod.below (Nat.le_refl _) (by simp)
  subst he
  exact ⟨_, rfl, _, _, _, [], _, [], hW', trodAll_mk1 (shut_bool Try.underlying4 _), (trodAll_cons_mk (shut_int Try.underlying22 w0) (trodAll_cons_mk (shut_int Try.underlying3 w1) (trodAll_cons_mk (shut_int Try.underlying3 w2) (trodAll_cons_mk (Below.trod laidOut (by kernel_rfl) (of_decide_eq_true (by kernel_rfl)) k3 bel lt3) trodAll_mk0)))), rfl, bel.frame _, fun h => by cases h⟩
theorem over : Rows.originQuietRow.holds Try.pinned (OpenSpec.ofChange Rows.originQuietSpec) :=
  OpenClaim.holds_of_wide 3 Try.f3 rfl rfl rfl rfl rfl rfl rfl ⟨rfl, rfl, rfl, rfl, rfl⟩ rfl rfl rfl rfl rfl (by kernel_rfl) Try.func3 (by kernel_rfl)
    (of_decide_eq_true (by kernel_rfl)) (by unfold Func.isWrapper; first | (rw [if_pos (by decide +kernel)]; kernel_rfl) | (rw [if_neg (by decide +kernel)]; exact ⟨rfl, rfl⟩))
    (fun os started H enc _ => lifted os started H enc)
theorem proved : Rows.OriginQuietSaid := over
#print axioms proved
end originQuiet
/-- The row, under a short name, for the claim. -/
theorem originQuiet_holds : Rows.OriginQuietSaid := originQuiet.proved
end Go.Proofs.Ytmcaigmpcbkfpaa

