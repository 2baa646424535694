/- HeaderEncodes: P5.1: any packet's bytes, or that it isn't right; how many these are; whether it is whole. No condition. -/
import Derived.Test.YtdichoibidccoaaHdrB
import Derived.Test.YtdichoibidccoaaHdrF
import Derived.Test.YtdichoibidccoaaHdrG
import Derived.Test.YtdichoibidccoaaHdr9
set_option linter.unusedVariables false
set_option linter.unusedSimpArgs false
namespace Go.Proofs.Ytdichoibidccoaa
set_option maxRecDepth 8000
attribute [local irreducible] blk wpS seqS ordS OpVal RV endS LoadV StoreV Calls
open Go.RowKit
set_option maxHeartbeats 8000000 in
theorem hdrEncodes_any (p : Pkt) (v : Value) (w : World) (hr : Structs enOpt 2 w v p.opts) (hsrc : 0 ≤ p.src ∧ p.src ≤ 4294967295) (hdst : 0 ≤ p.dst ∧ p.dst ≤ 4294967295) :
    Calls Try.prog 9 #[pv p v] w fun e w' => e = .returned (.bool true) ∧ Mod [] w w' := by
  have HG : Hid (∀ w', Mod [] w w' → Calls Try.prog 30 #[pv p v] w' fun e w'' => e = .returned (.bool (great05 p)) ∧ Mod [] w' w'') := Lib.hid fun w' hm => great05_any p v w' (hr.mod0 hm)
  rcases hg : great05 p with _ | _
  case true =>
    rw [hg] at HG
    (refine enterS ([]) (Sep.start _ []) Try.func9 rfl ?_; simp only [Try.ntmps9, List.size_toArray, List.length_cons, List.length_nil, Nat.reduceAdd, Nat.reduceSub, Array.replicate_succ, Array.replicate_zero, List.push_toArray, List.append_toArray, List.nil_append, List.cons_append])
    (repeat' (first | ((with_reducible refine isOps ?_); first | (refine seqS_nil ?_; (try simp only [thenS, blockS])) | ((first | ((with_reducible refine isCallF ?_); refine aCF ?_) | ((with_reducible refine isCallV ?_); refine aCV ?_)); first | refine cS0 (fun w_ hs_ => HG.out _ hs_.mod) ?_ | refine cS0 (fun w_ hs_ => awake05_any _) ?_) | ((with_reducible refine isBox ?_); first | (refine aBox (fun n_ l_ hl_ => ?_); dsimp only [sS, sZ] at hl_; subst hl_)) | refine aV ?_ | refine aNo ?_ | refine aNo' ?_ | ((fail_if_success (refine aIsT ?_)); (fail_if_success (refine aIsF ?_)); refine seqS_guard rfl rfl rfl (fun l_ hl_ h_ => ?_) (fun l_ hl_ h_ => ?_) <;> (dsimp only [sS, sZ] at hl_; subst hl_; (try (simp only [beq_iff_eq, bne_iff_ne, beq_eq_false_iff_ne, bne_eq_false_iff_eq, ne_eq, decide_eq_true_eq, decide_eq_false_iff_not, Bool.and_eq_true, Bool.or_eq_true, Bool.and_eq_false_iff, Bool.or_eq_false_iff, Bool.not_eq_true', Bool.not_eq_false', Bool.false_eq_true, Bool.true_eq_false, reduceCtorEq] at h_)); (try (first | (with_reducible contradiction) | (exfalso; omega)))))) | ((with_reducible refine isOrd ?_); first | (refine ordS_nil ?_; (try simp only [thenS, blockS, blks, List.map_cons, List.map_nil, List.cons_append, List.nil_append])) | refine oV ?_ | refine oNo ?_ | ((fail_if_success (refine oIsT ?_)); (refine ordS_guard rfl rfl rfl rfl (fun l_ hl_ h_ => ?_) (fun l_ hl_ h_ => ?_) <;> (dsimp only [sS, sZ] at hl_; subst hl_; (try (simp only [beq_iff_eq, bne_iff_ne, beq_eq_false_iff_ne, bne_eq_false_iff_eq, ne_eq, decide_eq_true_eq, decide_eq_false_iff_not, Bool.and_eq_true, Bool.or_eq_true, Bool.and_eq_false_iff, Bool.or_eq_false_iff, Bool.not_eq_true', Bool.not_eq_false', Bool.false_eq_true, Bool.true_eq_false, reduceCtorEq] at h_)); (try (first | (with_reducible contradiction) | (exfalso; omega)))))) | (refine oC ?_; first | refine cD0 (fun w_ hs_ hg_ => HG.out _ hs_.mod) ?_ | refine cD0 (fun w_ hs_ hg_ => awake05_any _) ?_) | (refine oBox (fun n_ l_ hl_ => ?_); dsimp only [sS, sZ] at hl_; subst hl_) | refine oLd ?_) | ((with_reducible refine isWp ?_); first | (refine wpS_seq (fun K_ hK_ => ?_)) | (refine wpS_region ?_) | (refine wpS_cond rfl (fun h_ => ?_) (fun h_ => ?_) <;> (try (simp only [beq_iff_eq, bne_iff_ne, beq_eq_false_iff_ne, bne_eq_false_iff_eq, ne_eq, decide_eq_true_eq, decide_eq_false_iff_not, Bool.and_eq_true, Bool.or_eq_true, Bool.and_eq_false_iff, Bool.or_eq_false_iff, Bool.false_eq_true, Bool.true_eq_false, reduceCtorEq] at h_)) <;> (try (first | (with_reducible contradiction) | (exfalso; omega)))) | (refine wpS_block ?_) | (refine wpS_ret ?_; (try simp only [thenS, blockS])) | (refine wpS_exit ?_; simp only [thenS, blockS, ↓reduceIte, Nat.reduceEqDiff]) | (refine wpS_skip ?_; (try simp only [thenS, blockS]))) | ((with_reducible refine isDraw ?_); refine wpS_drawT (by simp only [List.length_cons, List.length_nil, Nat.zero_add, Nat.reduceAdd, List.range'_succ, List.range'_zero]; rfl) (by kernel_rfl) (by kernel_rfl) (fun B_ hB_ hf_ => ?_)) | (refine useK (by with_reducible assumption) ?_)))
    (first | refine r1_ Try.results9 (fun w_ hs_ => ?_) | refine r2_ Try.results9 (fun w_ hs_ => ?_) | refine r3_ Try.results9 (fun w_ hs_ => ?_) | refine retS0 Try.results9 (fun w_ hs_ => ?_) | refine retN0 Try.results9 (fun w_ hs_ => ?_))
    exact ⟨rfl, hs_.mod⟩
  rw [hg] at HG
  obtain ⟨hgo, hd⟩ := great05_not hg
  have HE : Hid (∀ w', Mod [] w w' → Calls Try.prog 31 #[pv p v] w' fun e w'' => e = .returned (.tuple #[.string (hdrEnc p).1, .int .i64 (hdrEnc p).2]) ∧ Mod [] w' w'') := Lib.hid fun w' hm => hdrEncode_any p v w' (hr.mod0 hm) hgo (by omega) hsrc hdst
  have HR : Hid (∀ w', Mod [] w w' → Calls Try.prog 33 #[pv p v] w' fun e w'' => e = .returned (.bool (pkRight p)) ∧ Mod [] w' w'') := Lib.hid fun w' hm => hRight_any p v w' (hr.mod0 hm) hgo (by omega)
  have HQ : Hid (∀ w', Mod [] w w' → Calls Try.prog 32 #[pv p v] w' fun e w'' => e = .returned (.bool (pkRight p)) ∧ Mod [] w' w'') := Lib.hid fun w' hm => refRight05_any p v w' (hr.mod0 hm) hgo (by omega)
  have HW := Lib.hid (fun w' => whole_any p v w')
  have hW : Hid ((p.off == 0 && !p.mf) = (p.off == 0 && !p.mf)) := Lib.hid rfl
  generalize hWh : (p.off == 0 && !p.mf) = W at HW
  have hW := Lib.hid hWh.symm
  clear hWh
  have he := Lib.hid (show hdrEnc p = if pkRight p = true then (strOf (hdrBytes p), 0) else (⟨#[]⟩, 1) from rfl)
  rcases hrt : pkRight p with _ | _
  · rw [hrt] at HR HQ he
    have HE2 : Hid (∀ w', Mod [] w w' → Calls Try.prog 31 #[pv p v] w' fun e w'' => e = .returned (.tuple #[.string ⟨#[]⟩, .int .i64 1]) ∧ Mod [] w' w'') := Lib.hid fun w' hm => by
      have := HE.out w' hm
      rwa [he.out] at this
    clear HE he
    rcases W with _ | _
    all_goals
      (refine enterS ([]) (Sep.start _ []) Try.func9 rfl ?_; simp only [Try.ntmps9, List.size_toArray, List.length_cons, List.length_nil, Nat.reduceAdd, Nat.reduceSub, Array.replicate_succ, Array.replicate_zero, List.push_toArray, List.append_toArray, List.nil_append, List.cons_append])
      (repeat' (first | ((with_reducible refine isOps ?_); first | (refine seqS_nil ?_; (try simp only [thenS, blockS])) | ((first | ((with_reducible refine isCallF ?_); refine aCF ?_) | ((with_reducible refine isCallV ?_); refine aCV ?_)); first | refine cS0 (fun w_ hs_ => HG.out _ hs_.mod) ?_ | refine cS0 (fun w_ hs_ => HE2.out _ hs_.mod) ?_ | refine cS0 (fun w_ hs_ => HR.out _ hs_.mod) ?_ | refine cS0 (fun w_ hs_ => HQ.out _ hs_.mod) ?_ | refine cS0 (fun w_ hs_ => HW.out _) ?_ | refine cS0 (fun w_ hs_ => awake05_any _) ?_) | ((with_reducible refine isBox ?_); first | (refine aBox (fun n_ l_ hl_ => ?_); dsimp only [sS, sZ] at hl_; subst hl_)) | refine aV ?_ | refine aNo ?_ | refine aNo' ?_ | ((fail_if_success (refine aIsT ?_)); (fail_if_success (refine aIsF ?_)); refine seqS_guard rfl rfl rfl (fun l_ hl_ h_ => ?_) (fun l_ hl_ h_ => ?_) <;> (dsimp only [sS, sZ] at hl_; subst hl_; (try (simp only [beq_iff_eq, bne_iff_ne, beq_eq_false_iff_ne, bne_eq_false_iff_eq, ne_eq, decide_eq_true_eq, decide_eq_false_iff_not, Bool.and_eq_true, Bool.or_eq_true, Bool.and_eq_false_iff, Bool.or_eq_false_iff, Bool.not_eq_true', Bool.not_eq_false', Bool.false_eq_true, Bool.true_eq_false, reduceCtorEq] at h_)); (try (first | (with_reducible contradiction) | (exfalso; omega)))))) | ((with_reducible refine isOrd ?_); first | (refine ordS_nil ?_; (try simp only [thenS, blockS, blks, List.map_cons, List.map_nil, List.cons_append, List.nil_append])) | refine oV ?_ | refine oNo ?_ | ((fail_if_success (refine oIsT ?_)); (refine ordS_guard rfl rfl rfl rfl (fun l_ hl_ h_ => ?_) (fun l_ hl_ h_ => ?_) <;> (dsimp only [sS, sZ] at hl_; subst hl_; (try (simp only [beq_iff_eq, bne_iff_ne, beq_eq_false_iff_ne, bne_eq_false_iff_eq, ne_eq, decide_eq_true_eq, decide_eq_false_iff_not, Bool.and_eq_true, Bool.or_eq_true, Bool.and_eq_false_iff, Bool.or_eq_false_iff, Bool.not_eq_true', Bool.not_eq_false', Bool.false_eq_true, Bool.true_eq_false, reduceCtorEq] at h_)); (try (first | (with_reducible contradiction) | (exfalso; omega)))))) | (refine oC ?_; first | refine cD0 (fun w_ hs_ hg_ => HG.out _ hs_.mod) ?_ | refine cD0 (fun w_ hs_ hg_ => HE2.out _ hs_.mod) ?_ | refine cD0 (fun w_ hs_ hg_ => HR.out _ hs_.mod) ?_ | refine cD0 (fun w_ hs_ hg_ => HQ.out _ hs_.mod) ?_ | refine cD0 (fun w_ hs_ hg_ => HW.out _) ?_ | refine cD0 (fun w_ hs_ hg_ => awake05_any _) ?_) | (refine oBox (fun n_ l_ hl_ => ?_); dsimp only [sS, sZ] at hl_; subst hl_) | refine oLd ?_) | ((with_reducible refine isWp ?_); first | (refine wpS_seq (fun K_ hK_ => ?_)) | (refine wpS_region ?_) | (refine wpS_cond rfl (fun h_ => ?_) (fun h_ => ?_) <;> (try (simp only [beq_iff_eq, bne_iff_ne, beq_eq_false_iff_ne, bne_eq_false_iff_eq, ne_eq, decide_eq_true_eq, decide_eq_false_iff_not, Bool.and_eq_true, Bool.or_eq_true, Bool.and_eq_false_iff, Bool.or_eq_false_iff, Bool.false_eq_true, Bool.true_eq_false, reduceCtorEq] at h_)) <;> (try (first | (with_reducible contradiction) | (exfalso; omega)))) | (refine wpS_block ?_) | (refine wpS_ret ?_; (try simp only [thenS, blockS])) | (refine wpS_exit ?_; simp only [thenS, blockS, ↓reduceIte, Nat.reduceEqDiff]) | (refine wpS_skip ?_; (try simp only [thenS, blockS]))) | ((with_reducible refine isDraw ?_); refine wpS_drawT (by simp only [List.length_cons, List.length_nil, Nat.zero_add, Nat.reduceAdd, List.range'_succ, List.range'_zero]; rfl) (by kernel_rfl) (by kernel_rfl) (fun B_ hB_ hf_ => ?_)) | (refine useK (by with_reducible assumption) ?_)))
      all_goals
        first
          | (have hw := hW.out
             simp [*] at hw
             done)
          | ((first | refine r1_ Try.results9 (fun w_ hs_ => ?_) | refine r2_ Try.results9 (fun w_ hs_ => ?_) | refine r3_ Try.results9 (fun w_ hs_ => ?_) | refine retS0 Try.results9 (fun w_ hs_ => ?_) | refine retN0 Try.results9 (fun w_ hs_ => ?_))
             exact ⟨rfl, hs_.mod⟩)
  · rw [hrt] at HR HQ he
    have HE2 : Hid (∀ w', Mod [] w w' → Calls Try.prog 31 #[pv p v] w' fun e w'' => e = .returned (.tuple #[.string (strOf (hdrBytes p)), .int .i64 0]) ∧ Mod [] w' w'') := Lib.hid fun w' hm => by
      have := HE.out w' hm
      rwa [he.out] at this
    clear HE he
    have HS : Hid (∀ w', Mod [] w w' → Calls Try.prog 36 #[pv p v] w' fun e w'' => e = .returned (.int .i64 (pkSize p)) ∧ Mod [] w' w'') := Lib.hid fun w' hm => pkSize_any p v w' (hr.mod0 hm) hgo (by omega)
    have HF : Hid (∀ w', Mod [] w w' → Calls Try.prog 35 #[pv p v] w' fun e w'' => e = .returned (.string (strOf (hdrBytes p))) ∧ Mod [] w' w'') := Lib.hid fun w' hm => refHdrEncode_any p v w' (hr.mod0 hm) hgo hrt hsrc hdst
    have hsz : ((strOf (hdrBytes p)).size : Int) = pkSize p := by
      rw [strOf_size, hdrBytes_len (pkRight_iff.1 hrt).opts]; rfl
    generalize strOf (hdrBytes p) = B at HE2 HF hsz
    generalize pkSize p = z at HS hsz
    rcases W with _ | _
    all_goals
      (refine enterS ([]) (Sep.start _ []) Try.func9 rfl ?_; simp only [Try.ntmps9, List.size_toArray, List.length_cons, List.length_nil, Nat.reduceAdd, Nat.reduceSub, Array.replicate_succ, Array.replicate_zero, List.push_toArray, List.append_toArray, List.nil_append, List.cons_append])
      (repeat' (first | ((with_reducible refine isOps ?_); first | (refine seqS_nil ?_; (try simp only [thenS, blockS])) | ((first | ((with_reducible refine isCallF ?_); refine aCF ?_) | ((with_reducible refine isCallV ?_); refine aCV ?_)); first | refine cS0 (fun w_ hs_ => HG.out _ hs_.mod) ?_ | refine cS0 (fun w_ hs_ => HE2.out _ hs_.mod) ?_ | refine cS0 (fun w_ hs_ => HR.out _ hs_.mod) ?_ | refine cS0 (fun w_ hs_ => HQ.out _ hs_.mod) ?_ | refine cS0 (fun w_ hs_ => HW.out _) ?_ | refine cS0 (fun w_ hs_ => HS.out _ hs_.mod) ?_ | refine cS0 (fun w_ hs_ => HF.out _ hs_.mod) ?_ | refine cS0 (fun w_ hs_ => awake05_any _) ?_) | ((with_reducible refine isBox ?_); first | (refine aBox (fun n_ l_ hl_ => ?_); dsimp only [sS, sZ] at hl_; subst hl_)) | refine aV ?_ | refine aNo ?_ | refine aNo' ?_ | ((fail_if_success (refine aIsT ?_)); (fail_if_success (refine aIsF ?_)); refine seqS_guard rfl rfl rfl (fun l_ hl_ h_ => ?_) (fun l_ hl_ h_ => ?_) <;> (dsimp only [sS, sZ] at hl_; subst hl_; (try (simp only [beq_iff_eq, bne_iff_ne, beq_eq_false_iff_ne, bne_eq_false_iff_eq, ne_eq, decide_eq_true_eq, decide_eq_false_iff_not, Bool.and_eq_true, Bool.or_eq_true, Bool.and_eq_false_iff, Bool.or_eq_false_iff, Bool.not_eq_true', Bool.not_eq_false', Bool.false_eq_true, Bool.true_eq_false, reduceCtorEq] at h_)); (try (first | (with_reducible contradiction) | (exfalso; omega)))))) | ((with_reducible refine isOrd ?_); first | (refine ordS_nil ?_; (try simp only [thenS, blockS, blks, List.map_cons, List.map_nil, List.cons_append, List.nil_append])) | refine oV ?_ | refine oNo ?_ | ((fail_if_success (refine oIsT ?_)); (refine ordS_guard rfl rfl rfl rfl (fun l_ hl_ h_ => ?_) (fun l_ hl_ h_ => ?_) <;> (dsimp only [sS, sZ] at hl_; subst hl_; (try (simp only [beq_iff_eq, bne_iff_ne, beq_eq_false_iff_ne, bne_eq_false_iff_eq, ne_eq, decide_eq_true_eq, decide_eq_false_iff_not, Bool.and_eq_true, Bool.or_eq_true, Bool.and_eq_false_iff, Bool.or_eq_false_iff, Bool.not_eq_true', Bool.not_eq_false', Bool.false_eq_true, Bool.true_eq_false, reduceCtorEq] at h_)); (try (first | (with_reducible contradiction) | (exfalso; omega)))))) | (refine oC ?_; first | refine cD0 (fun w_ hs_ hg_ => HG.out _ hs_.mod) ?_ | refine cD0 (fun w_ hs_ hg_ => HE2.out _ hs_.mod) ?_ | refine cD0 (fun w_ hs_ hg_ => HR.out _ hs_.mod) ?_ | refine cD0 (fun w_ hs_ hg_ => HQ.out _ hs_.mod) ?_ | refine cD0 (fun w_ hs_ hg_ => HW.out _) ?_ | refine cD0 (fun w_ hs_ hg_ => HS.out _ hs_.mod) ?_ | refine cD0 (fun w_ hs_ hg_ => HF.out _ hs_.mod) ?_ | refine cD0 (fun w_ hs_ hg_ => awake05_any _) ?_) | (refine oBox (fun n_ l_ hl_ => ?_); dsimp only [sS, sZ] at hl_; subst hl_) | refine oLd ?_) | ((with_reducible refine isWp ?_); first | (refine wpS_seq (fun K_ hK_ => ?_)) | (refine wpS_region ?_) | (refine wpS_cond rfl (fun h_ => ?_) (fun h_ => ?_) <;> (try (simp only [beq_iff_eq, bne_iff_ne, beq_eq_false_iff_ne, bne_eq_false_iff_eq, ne_eq, decide_eq_true_eq, decide_eq_false_iff_not, Bool.and_eq_true, Bool.or_eq_true, Bool.and_eq_false_iff, Bool.or_eq_false_iff, Bool.false_eq_true, Bool.true_eq_false, reduceCtorEq] at h_)) <;> (try (first | (with_reducible contradiction) | (exfalso; omega)))) | (refine wpS_block ?_) | (refine wpS_ret ?_; (try simp only [thenS, blockS])) | (refine wpS_exit ?_; simp only [thenS, blockS, ↓reduceIte, Nat.reduceEqDiff]) | (refine wpS_skip ?_; (try simp only [thenS, blockS]))) | ((with_reducible refine isDraw ?_); refine wpS_drawT (by simp only [List.length_cons, List.length_nil, Nat.zero_add, Nat.reduceAdd, List.range'_succ, List.range'_zero]; rfl) (by kernel_rfl) (by kernel_rfl) (fun B_ hB_ hf_ => ?_)) | (refine useK (by with_reducible assumption) ?_)))
      all_goals
        first
          | (have hw := hW.out
             simp [*] at hw
             done)
          | ((first | refine r1_ Try.results9 (fun w_ hs_ => ?_) | refine r2_ Try.results9 (fun w_ hs_ => ?_) | refine r3_ Try.results9 (fun w_ hs_ => ?_) | refine retS0 Try.results9 (fun w_ hs_ => ?_) | refine retN0 Try.results9 (fun w_ hs_ => ?_))
             exact ⟨rfl, hs_.mod⟩)
namespace headerEncodes
open Go.ChangeShapes Go.WideShapes Go.ChangeAt Go.RowKit
open Go.ChangeMaps (open_string shut_string)
theorem own : ownKnob Try.prog.godebug = none := by kernel_rfl
theorem laidOut : laidOutB Try.prog = true := by kernel_rfl
set_option maxRecDepth 100000 in
theorem lifted (os : Os) (started : os.Started) (H : Type) (enc : TypeId × Value → H) :
    ReturnsInHanded {} Try.checked os 9 .any (Rows.headerEncodesSpec.pre6 enc Try.prog Try.f9 Rows.headerEncodesRow.domain false) (Rows.headerEncodesSpec.post enc Try.prog Try.f9 false true false false) := by
  refine returnsInHanded_of_change_sized (C := Try.checked) own started (by kernel_rfl) Try.func9
    (ChangeSpec.witness6 (enc := enc) (C := Try.checked) false ⟨#[], #[.agg #[.int .i64 0, .int .i64 0, .bool false, .bool false, .int .i64 0, .int .i64 0, .int .i64 0, .int .u32 0, .int .u32 0, .slice none 0 0, .string ByteArray.empty]], []⟩ 8 (by kernel_rfl) (by kernel_rfl) (by kernel_rfl) (by kernel_rfl)) ?_
  intro W base args ds gs before hval0 hW hcnd hsz0 _
  have hsz : (DataW.weightsEach Try.prog (Try.f9.params.toList ++ Rows.headerEncodesSpec.plain.varTypes Try.prog) (ds ++ gs)).all (· ≤ reachBytes) = true := hsz0
  have hval : ∀ (j : Nat) t v, Try.f9.params[j]? = some t → args[j]? = some v → Value.okWide Try.prog W .any base t v := hval0
  have hW' := hW
  obtain ⟨p, q, hA0, hV, rfl, hfz, hnd⟩ := hW
  have hA : DataW.TrodAll enc Try.prog W 0 (fun _ => true) true Try.f9.params.toList args.toList ds p := hA0
  rw [Try.params9] at hA hval hsz
  obtain ⟨v0, vs0, d0, ds0, p0, q0, hargs, rfl, rfl, h0, r0⟩ := trodAll_cons hA
  obtain ⟨rfl, rfl, rfl⟩ := trodAll_nil r0
  obtain rfl : args = #[v0] := by cases args; simp_all
  obtain ⟨rfl, rfl⟩ := trodVars_none hV
  have hv0 := (hval 0 46 v0 rfl rfl)
  have k0 := h0
  have lt0 : ∀ x ∈ p0, x.block < W.heap.size := by obtain ⟨m, hm⟩ := k0; exact DataW.trod_lt m _ _ _ hm
  obtain ⟨fuel0, g0⟩ := h0
  obtain ⟨l0, u0, rfl, s0, o0⟩ := open_pktv hv0 g0
  clear hA0 hval0 hsz0
  refine (hdrEncodes_any l0 u0 W s0 o0.src o0.dst).mono fun e W' ⟨he, mod⟩ => ?_
  have bel : Below W.heap.size W W' := mod.below (Nat.le_refl _) (by simp)
  subst he
  exact ⟨_, rfl, _, _, _, [], _, [], hW', trodAll_mk1 (shut_bool Try.underlying4 _), (trodAll_cons_mk (Below.trod laidOut (by kernel_rfl) (of_decide_eq_true (by kernel_rfl)) k0 bel lt0) trodAll_mk0), rfl, bel.frame _, fun h => by cases h⟩
theorem over : Rows.headerEncodesRow.holds Try.pinned (OpenSpec.ofChange Rows.headerEncodesSpec) :=
  OpenClaim.holds_of_wide 9 Try.f9 rfl rfl rfl rfl rfl rfl rfl ⟨rfl, rfl, rfl, rfl, rfl⟩ rfl rfl rfl rfl rfl (by kernel_rfl) Try.func9 (by kernel_rfl)
    (of_decide_eq_true (by kernel_rfl)) (by unfold Func.isWrapper; first | (rw [if_pos (by decide +kernel)]; kernel_rfl) | (rw [if_neg (by decide +kernel)]; exact ⟨rfl, rfl⟩))
    (fun os started H enc _ => lifted os started H enc)
theorem proved : Rows.HeaderEncodesSaid := over
#print axioms proved
end headerEncodes
/-- The row, under a short name, for the claim. -/
theorem headerEncodes_holds : Rows.HeaderEncodesSaid := headerEncodes.proved
end Go.Proofs.Ytdichoibidccoaa

