/- NoticeTells: P7.3: what a fault with a packet's beginning tells of is what it tells of all of that packet. No condition. -/
import Derived.Test.YtodhhnljeojpaaaMNot7
import Derived.Test.YtodhhnljeojpaaaNot3
import Derived.Test.YtodhhnljeojpaaaMHdrF
set_option linter.unusedVariables false
set_option linter.unusedSimpArgs false
namespace Go.Proofs.Ytodhhnljeojpaaa
set_option maxRecDepth 8000
attribute [local irreducible] blk wpS seqS ordS OpVal RV endS LoadV StoreV Calls
open Go.RowKit Go.ChangeShapes Go.WideShapes Go.Deep
theorem eqKey (n : Key) (w : World) : (Op.equalIn 10000 60 (kv n) (kv n)).run Try.prog w = .ok true w := by
  go_simp
theorem eqKeyV (x y : Operand) (n : Key) (w : World) : ((do eqGuard .eql 60 x y (kv n) (kv n); binOp .eql 60 (kv n) (kv n)) : Sem Value).run Try.prog w = .ok (.bool true) w := by
  have h := eqKey n w
  rw [Sem.run_bind, run_eqGuard_agg w _ _ _ _ _ _ Try.eqGuardType60, Result.andThen_ok, run_eql_struct, h]
  rfl
set_option maxHeartbeats 8000000 in
theorem ntTells_any (p : Pkt) (v : Value) (w : World) (hr : Structs enOpt 2 w v p.opts) (hsrc : 0 ≤ p.src ∧ p.src ≤ 4294967295) (hdst : 0 ≤ p.dst ∧ p.dst ≤ 4294967295) :
    Calls Try.prog 10 #[pv p v] w fun e w' => e = .returned (.bool true) ∧ Mod [] w w' := by
  have HG : Hid (∀ w', Mod [] w w' → Calls Try.prog 33 #[pv p v] w' fun e w'' => e = .returned (.bool (great05 p)) ∧ Mod [] w' w'') := Lib.hid fun w' hm => great05_any p v w' (hr.mod0 hm)
  rcases hg : great05 p with _ | _
  case true =>
    rw [hg] at HG
    (refine enterS ([]) (Sep.start _ []) Try.func10 rfl ?_; simp only [Try.ntmps10, List.size_toArray, List.length_cons, List.length_nil, Nat.reduceAdd, Nat.reduceSub, Array.replicate_succ, Array.replicate_zero, List.push_toArray, List.append_toArray, List.nil_append, List.cons_append])
    (repeat' (first | ((with_reducible refine isOps ?_); first | (refine seqS_nil ?_; (try simp only [thenS, blockS])) | ((first | ((with_reducible refine isCallF ?_); refine aCF ?_) | ((with_reducible refine isCallV ?_); refine aCV ?_)); first | refine cS0 (fun w_ hs_ => HG.out _ hs_.mod) ?_ | refine cS0 (fun w_ hs_ => awake07_any _) ?_) | ((with_reducible refine isStore ?_); first | refine aSt ?_) | ((with_reducible refine isBox ?_); first | (refine aBox (fun n_ l_ hl_ => ?_); dsimp only [sS, sZ] at hl_; subst hl_)) | ((with_reducible refine isAlloc ?_); first | (refine aAl (fun n_ l_ hl_ => ?_); dsimp only [sS, sZ] at hl_; subst hl_)) | refine aV ?_ | refine aNo ?_ | refine aNo' ?_ | ((fail_if_success (refine aIsT ?_)); (fail_if_success (refine aIsF ?_)); refine seqS_guard rfl rfl rfl (fun l_ hl_ h_ => ?_) (fun l_ hl_ h_ => ?_) <;> (dsimp only [sS, sZ] at hl_; subst hl_; (try (simp only [beq_iff_eq, bne_iff_ne, beq_eq_false_iff_ne, bne_eq_false_iff_eq, ne_eq, decide_eq_true_eq, decide_eq_false_iff_not, Bool.and_eq_true, Bool.or_eq_true, Bool.and_eq_false_iff, Bool.or_eq_false_iff, Bool.not_eq_true', Bool.not_eq_false', Bool.false_eq_true, Bool.true_eq_false, reduceCtorEq] at h_)); (try (first | (with_reducible contradiction) | (exfalso; omega)))))) | ((with_reducible refine isWp ?_); first | (refine wpS_seq (fun K_ hK_ => ?_)) | (refine wpS_region ?_) | (refine wpS_cond rfl (fun h_ => ?_) (fun h_ => ?_) <;> (try (simp only [beq_iff_eq, bne_iff_ne, beq_eq_false_iff_ne, bne_eq_false_iff_eq, ne_eq, decide_eq_true_eq, decide_eq_false_iff_not, Bool.and_eq_true, Bool.or_eq_true, Bool.and_eq_false_iff, Bool.or_eq_false_iff, Bool.false_eq_true, Bool.true_eq_false, reduceCtorEq] at h_)) <;> (try (first | (with_reducible contradiction) | (exfalso; omega)))) | (refine wpS_block ?_) | (refine wpS_ret ?_; (try simp only [thenS, blockS])) | (refine wpS_exit ?_; simp only [thenS, blockS, ↓reduceIte, Nat.reduceEqDiff]) | (refine wpS_skip ?_; (try simp only [thenS, blockS]))) | (refine useK (by with_reducible assumption) ?_)))
    (first | refine r1_ Try.results10 (fun w_ hs_ => ?_) | refine r2_ Try.results10 (fun w_ hs_ => ?_) | refine r3_ Try.results10 (fun w_ hs_ => ?_) | refine retS0 Try.results10 (fun w_ hs_ => ?_) | refine retN0 Try.results10 (fun w_ hs_ => ?_))
    exact ⟨rfl, hs_.mod⟩
  rw [hg] at HG
  obtain ⟨hgo, hd⟩ := great05_not hg
  have HR : Hid (∀ w', Mod [] w w' → Calls Try.prog 34 #[pv p v] w' fun e w'' => e = .returned (.bool (pkRight p)) ∧ Mod [] w' w'') := Lib.hid fun w' hm => refRight05_any p v w' (hr.mod0 hm) hgo (by omega)
  rcases hrt : pkRight p with _ | _
  · rw [hrt] at HR
    (refine enterS ([]) (Sep.start _ []) Try.func10 rfl ?_; simp only [Try.ntmps10, List.size_toArray, List.length_cons, List.length_nil, Nat.reduceAdd, Nat.reduceSub, Array.replicate_succ, Array.replicate_zero, List.push_toArray, List.append_toArray, List.nil_append, List.cons_append])
    (repeat' (first | ((with_reducible refine isOps ?_); first | (refine seqS_nil ?_; (try simp only [thenS, blockS])) | ((first | ((with_reducible refine isCallF ?_); refine aCF ?_) | ((with_reducible refine isCallV ?_); refine aCV ?_)); first | refine cS0 (fun w_ hs_ => HG.out _ hs_.mod) ?_ | refine cS0 (fun w_ hs_ => HR.out _ hs_.mod) ?_ | refine cS0 (fun w_ hs_ => awake07_any _) ?_) | ((with_reducible refine isStore ?_); first | refine aSt ?_) | ((with_reducible refine isBox ?_); first | (refine aBox (fun n_ l_ hl_ => ?_); dsimp only [sS, sZ] at hl_; subst hl_)) | ((with_reducible refine isAlloc ?_); first | (refine aAl (fun n_ l_ hl_ => ?_); dsimp only [sS, sZ] at hl_; subst hl_)) | refine aV ?_ | refine aNo ?_ | refine aNo' ?_ | ((fail_if_success (refine aIsT ?_)); (fail_if_success (refine aIsF ?_)); refine seqS_guard rfl rfl rfl (fun l_ hl_ h_ => ?_) (fun l_ hl_ h_ => ?_) <;> (dsimp only [sS, sZ] at hl_; subst hl_; (try (simp only [beq_iff_eq, bne_iff_ne, beq_eq_false_iff_ne, bne_eq_false_iff_eq, ne_eq, decide_eq_true_eq, decide_eq_false_iff_not, Bool.and_eq_true, Bool.or_eq_true, Bool.and_eq_false_iff, Bool.or_eq_false_iff, Bool.not_eq_true', Bool.not_eq_false', Bool.false_eq_true, Bool.true_eq_false, reduceCtorEq] at h_)); (try (first | (with_reducible contradiction) | (exfalso; omega)))))) | ((with_reducible refine isWp ?_); first | (refine wpS_seq (fun K_ hK_ => ?_)) | (refine wpS_region ?_) | (refine wpS_cond rfl (fun h_ => ?_) (fun h_ => ?_) <;> (try (simp only [beq_iff_eq, bne_iff_ne, beq_eq_false_iff_ne, bne_eq_false_iff_eq, ne_eq, decide_eq_true_eq, decide_eq_false_iff_not, Bool.and_eq_true, Bool.or_eq_true, Bool.and_eq_false_iff, Bool.or_eq_false_iff, Bool.false_eq_true, Bool.true_eq_false, reduceCtorEq] at h_)) <;> (try (first | (with_reducible contradiction) | (exfalso; omega)))) | (refine wpS_block ?_) | (refine wpS_ret ?_; (try simp only [thenS, blockS])) | (refine wpS_exit ?_; simp only [thenS, blockS, ↓reduceIte, Nat.reduceEqDiff]) | (refine wpS_skip ?_; (try simp only [thenS, blockS]))) | (refine useK (by with_reducible assumption) ?_)))
    (first | refine r1_ Try.results10 (fun w_ hs_ => ?_) | refine r2_ Try.results10 (fun w_ hs_ => ?_) | refine r3_ Try.results10 (fun w_ hs_ => ?_) | refine retS0 Try.results10 (fun w_ hs_ => ?_) | refine retN0 Try.results10 (fun w_ hs_ => ?_))
    exact ⟨rfl, hs_.mod⟩
  rw [hrt] at HR
  have HE : Hid (∀ w', Mod [] w w' → Calls Try.prog 35 #[pv p v] w' fun e w'' => e = .returned (.string (strOf (hdrBytes p))) ∧ Mod [] w' w'') := Lib.hid fun w' hm => refHdrEncode_any p v w' (hr.mod0 hm) hgo hrt hsrc hdst
  have hpe := hdrParse_enc hrt hsrc hdst
  obtain ⟨hib, hik⟩ := inner_beg hpe
  have hln := hdrBytes_len (pkRight_iff.1 hrt).opts
  have hal := (pkRight_iff.1 hrt).all
  have hlr : (hdrBytes p).length ≤ 70000 := by omega
  have hbl : ∃ k, begOf (hdrBytes p) = (hdrBytes p).take k := ⟨begLen (hdrBytes p).length p.data.size, by unfold begOf; rw [hpe]⟩
  clear hln hal hpe
  generalize hdrBytes p = l at HE hib hik hlr hbl
  obtain ⟨k, hk⟩ := hbl
  have hbl : (begOf l).length ≤ l.length := by rw [hk, List.length_take]; omega
  have hX : (strOf l).extract 0 (strOf (begOf l)).size = strOf (begOf l) := by
    rw [strOf_take, strOf_size, hk, List.length_take]
    by_cases h : k ≤ l.length
    · rw [Nat.min_eq_left h]
    · rw [Nat.min_eq_right (by omega), List.take_length, List.take_of_length_le (by omega)]
  have h1 := Lib.hid fun w' => ntBeg_any l hlr w'
  have h2 := Lib.hid fun w' => inner_any l hlr w'
  have h3 : Hid (∀ w', Calls Try.prog 29 #[.string (strOf (begOf l))] w' fun e w'' => e = .returned (keyVal (innerOf l)) ∧ Mod [] w' w'') := Lib.hid fun w' => hib ▸ inner_any (begOf l) (by omega) w'
  have z1 : (strOf (begOf l)).size ≤ (strOf l).size := by rw [strOf_size, strOf_size]; exact hbl
  have z2 : (strOf l).size ≤ 70000 := by rw [strOf_size]; exact hlr
  clear hib hbl hk
  generalize innerOf l = K at h2 h3 hik
  generalize strOf (begOf l) = C at h1 h3 hX z1
  clear hlr
  generalize strOf l = B at HE h1 h2 hX z1 z2
  rcases K with _ | K
  · clear hik
    (refine enterS ([]) (Sep.start _ []) Try.func10 rfl ?_; simp only [Try.ntmps10, List.size_toArray, List.length_cons, List.length_nil, Nat.reduceAdd, Nat.reduceSub, Array.replicate_succ, Array.replicate_zero, List.push_toArray, List.append_toArray, List.nil_append, List.cons_append])
    (repeat' (first | ((with_reducible refine isOps ?_); first | (refine seqS_nil ?_; (try simp only [thenS, blockS])) | ((with_reducible refine isBinAt .eql 60 ?_); refine aVh (opv_bin rfl rfl (fun w_ hs_ => eqKeyV _ _ _ _)) ?_) | ((first | ((with_reducible refine isCallF ?_); refine aCF ?_) | ((with_reducible refine isCallV ?_); refine aCV ?_)); first | refine cS0 (fun w_ hs_ => HG.out _ hs_.mod) ?_ | refine cS0 (fun w_ hs_ => HR.out _ hs_.mod) ?_ | refine cS0 (fun w_ hs_ => HE.out _ hs_.mod) ?_ | refine cS0 (fun w_ hs_ => h1.out _) ?_ | refine cS0 (fun w_ hs_ => h2.out _) ?_ | refine cS0 (fun w_ hs_ => h3.out _) ?_ | refine cS0 (fun w_ hs_ => awake07_any _) ?_) | ((with_reducible refine isStore ?_); first | refine aSt ?_) | ((with_reducible refine isBox ?_); first | (refine aBox (fun n_ l_ hl_ => ?_); dsimp only [sS, sZ] at hl_; subst hl_)) | ((with_reducible refine isAlloc ?_); first | (refine aAl (fun n_ l_ hl_ => ?_); dsimp only [sS, sZ] at hl_; subst hl_)) | refine aV ?_ | refine aNo ?_ | refine aNo' ?_ | ((fail_if_success (refine aIsT ?_)); (fail_if_success (refine aIsF ?_)); refine seqS_guard rfl rfl rfl (fun l_ hl_ h_ => ?_) (fun l_ hl_ h_ => ?_) <;> (dsimp only [sS, sZ] at hl_; subst hl_; (try (simp only [beq_iff_eq, bne_iff_ne, beq_eq_false_iff_ne, bne_eq_false_iff_eq, ne_eq, decide_eq_true_eq, decide_eq_false_iff_not, Bool.and_eq_true, Bool.or_eq_true, Bool.and_eq_false_iff, Bool.or_eq_false_iff, Bool.not_eq_true', Bool.not_eq_false', Bool.false_eq_true, Bool.true_eq_false, reduceCtorEq] at h_)); (try (first | (with_reducible contradiction) | (exfalso; omega)))))) | ((with_reducible refine isWp ?_); first | (refine wpS_seq (fun K_ hK_ => ?_)) | (refine wpS_region ?_) | (refine wpS_cond rfl (fun h_ => ?_) (fun h_ => ?_) <;> (try (simp only [beq_iff_eq, bne_iff_ne, beq_eq_false_iff_ne, bne_eq_false_iff_eq, ne_eq, decide_eq_true_eq, decide_eq_false_iff_not, Bool.and_eq_true, Bool.or_eq_true, Bool.and_eq_false_iff, Bool.or_eq_false_iff, Bool.false_eq_true, Bool.true_eq_false, reduceCtorEq] at h_)) <;> (try (first | (with_reducible contradiction) | (exfalso; omega)))) | (refine wpS_block ?_) | (refine wpS_ret ?_; (try simp only [thenS, blockS])) | (refine wpS_exit ?_; simp only [thenS, blockS, ↓reduceIte, Nat.reduceEqDiff]) | (refine wpS_skip ?_; (try simp only [thenS, blockS]))) | (refine useK (by with_reducible assumption) ?_)))
    (first | refine r1_ Try.results10 (fun w_ hs_ => ?_) | refine r2_ Try.results10 (fun w_ hs_ => ?_) | refine r3_ Try.results10 (fun w_ hs_ => ?_) | refine retS0 Try.results10 (fun w_ hs_ => ?_) | refine retN0 Try.results10 (fun w_ hs_ => ?_))
    exact ⟨rfl, hs_.mod⟩
  · obtain ⟨e1, e2, e3⟩ := hik K rfl
    obtain ⟨ks, kd, kp, kx, ky⟩ := K
    simp only at e1 e2 e3
    subst e1 e2 e3
    (refine enterS ([]) (Sep.start _ []) Try.func10 rfl ?_; simp only [Try.ntmps10, List.size_toArray, List.length_cons, List.length_nil, Nat.reduceAdd, Nat.reduceSub, Array.replicate_succ, Array.replicate_zero, List.push_toArray, List.append_toArray, List.nil_append, List.cons_append])
    (repeat' (first | ((with_reducible refine isOps ?_); first | (refine seqS_nil ?_; (try simp only [thenS, blockS])) | ((with_reducible refine isBinAt .eql 60 ?_); refine aVh (opv_bin rfl rfl (fun w_ hs_ => eqKeyV _ _ _ _)) ?_) | ((first | ((with_reducible refine isCallF ?_); refine aCF ?_) | ((with_reducible refine isCallV ?_); refine aCV ?_)); first | refine cS0 (fun w_ hs_ => HG.out _ hs_.mod) ?_ | refine cS0 (fun w_ hs_ => HR.out _ hs_.mod) ?_ | refine cS0 (fun w_ hs_ => HE.out _ hs_.mod) ?_ | refine cS0 (fun w_ hs_ => h1.out _) ?_ | refine cS0 (fun w_ hs_ => h2.out _) ?_ | refine cS0 (fun w_ hs_ => h3.out _) ?_ | refine cS0 (fun w_ hs_ => awake07_any _) ?_) | ((with_reducible refine isStore ?_); first | refine aSt ?_) | ((with_reducible refine isBox ?_); first | (refine aBox (fun n_ l_ hl_ => ?_); dsimp only [sS, sZ] at hl_; subst hl_)) | ((with_reducible refine isAlloc ?_); first | (refine aAl (fun n_ l_ hl_ => ?_); dsimp only [sS, sZ] at hl_; subst hl_)) | refine aV ?_ | refine aNo ?_ | refine aNo' ?_ | ((fail_if_success (refine aIsT ?_)); (fail_if_success (refine aIsF ?_)); refine seqS_guard rfl rfl rfl (fun l_ hl_ h_ => ?_) (fun l_ hl_ h_ => ?_) <;> (dsimp only [sS, sZ] at hl_; subst hl_; (try (simp only [beq_iff_eq, bne_iff_ne, beq_eq_false_iff_ne, bne_eq_false_iff_eq, ne_eq, decide_eq_true_eq, decide_eq_false_iff_not, Bool.and_eq_true, Bool.or_eq_true, Bool.and_eq_false_iff, Bool.or_eq_false_iff, Bool.not_eq_true', Bool.not_eq_false', Bool.false_eq_true, Bool.true_eq_false, reduceCtorEq] at h_)); (try (first | (with_reducible contradiction) | (exfalso; omega)))))) | ((with_reducible refine isWp ?_); first | (refine wpS_seq (fun K_ hK_ => ?_)) | (refine wpS_region ?_) | (refine wpS_cond rfl (fun h_ => ?_) (fun h_ => ?_) <;> (try (simp only [beq_iff_eq, bne_iff_ne, beq_eq_false_iff_ne, bne_eq_false_iff_eq, ne_eq, decide_eq_true_eq, decide_eq_false_iff_not, Bool.and_eq_true, Bool.or_eq_true, Bool.and_eq_false_iff, Bool.or_eq_false_iff, Bool.false_eq_true, Bool.true_eq_false, reduceCtorEq] at h_)) <;> (try (first | (with_reducible contradiction) | (exfalso; omega)))) | (refine wpS_block ?_) | (refine wpS_ret ?_; (try simp only [thenS, blockS])) | (refine wpS_exit ?_; simp only [thenS, blockS, ↓reduceIte, Nat.reduceEqDiff]) | (refine wpS_skip ?_; (try simp only [thenS, blockS]))) | (refine useK (by with_reducible assumption) ?_)))
    (first | refine r1_ Try.results10 (fun w_ hs_ => ?_) | refine r2_ Try.results10 (fun w_ hs_ => ?_) | refine r3_ Try.results10 (fun w_ hs_ => ?_) | refine retS0 Try.results10 (fun w_ hs_ => ?_) | refine retN0 Try.results10 (fun w_ hs_ => ?_))
    exact ⟨rfl, hs_.mod⟩
namespace noticeTells
open Go.ChangeShapes Go.WideShapes Go.ChangeAt Go.RowKit
open Go.ChangeMaps (open_string shut_string)
theorem own : ownKnob Try.prog.godebug = none := by kernel_rfl
theorem laidOut : laidOutB Try.prog = true := by kernel_rfl
set_option maxRecDepth 100000 in
theorem lifted (os : Os) (started : os.Started) (H : Type) (enc : TypeId × Value → H) :
    ReturnsInHanded {} Try.checked os 10 .any (Rows.noticeTellsSpec.pre6 enc Try.prog Try.f10 Rows.noticeTellsRow.domain false) (Rows.noticeTellsSpec.post enc Try.prog Try.f10 false true false false) := by
  refine returnsInHanded_of_change_sized (C := Try.checked) own started (by kernel_rfl) Try.func10
    (ChangeSpec.witness6 (enc := enc) (C := Try.checked) false ⟨#[], #[.agg #[.int .i64 0, .int .i64 0, .bool false, .bool false, .int .i64 0, .int .i64 0, .int .i64 0, .int .u32 0, .int .u32 0, .slice none 0 0, .string ByteArray.empty]], []⟩ 8 (by kernel_rfl) (by kernel_rfl) (by kernel_rfl) (by kernel_rfl)) ?_
  intro W base args ds gs before hval0 hW hcnd hsz0 _
  have hsz : (DataW.weightsEach Try.prog (Try.f10.params.toList ++ Rows.noticeTellsSpec.plain.varTypes Try.prog) (ds ++ gs)).all (· ≤ reachBytes) = true := hsz0
  have hval : ∀ (j : Nat) t v, Try.f10.params[j]? = some t → args[j]? = some v → Value.okWide Try.prog W .any base t v := hval0
  have hW' := hW
  obtain ⟨p, q, hA0, hV, rfl, hfz, hnd⟩ := hW
  have hA : DataW.TrodAll enc Try.prog W 0 (fun _ => true) true Try.f10.params.toList args.toList ds p := hA0
  rw [Try.params10] at hA hval hsz
  obtain ⟨v0, vs0, d0, ds0, p0, q0, hargs, rfl, rfl, h0, r0⟩ := trodAll_cons hA
  obtain ⟨rfl, rfl, rfl⟩ := trodAll_nil r0
  obtain rfl : args = #[v0] := by cases args; simp_all
  obtain ⟨rfl, rfl⟩ := trodVars_none hV
  have hv0 := (hval 0 66 v0 rfl rfl)
  have k0 := h0
  have lt0 : ∀ x ∈ p0, x.block < W.heap.size := by obtain ⟨m, hm⟩ := k0; exact DataW.trod_lt m _ _ _ hm
  obtain ⟨fuel0, g0⟩ := h0
  obtain ⟨l0, u0, rfl, s0, o0⟩ := open_pktv hv0 g0
  clear hA0 hval0 hsz0
  refine (ntTells_any l0 u0 W s0 o0.src o0.dst).mono fun e W' ⟨he, mod⟩ => ?_
  have bel : Below W.heap.size W W' := mod.below (Nat.le_refl _) (by simp)
  subst he
  exact ⟨_, rfl, _, _, _, [], _, [], hW', trodAll_mk1 (shut_bool Try.underlying4 _), (trodAll_cons_mk (Below.trod laidOut (by kernel_rfl) (of_decide_eq_true (by kernel_rfl)) k0 bel lt0) trodAll_mk0), rfl, bel.frame _, fun h => by cases h⟩
theorem over : Rows.noticeTellsRow.holds Try.pinned (OpenSpec.ofChange Rows.noticeTellsSpec) :=
  OpenClaim.holds_of_wide 10 Try.f10 rfl rfl rfl rfl rfl rfl rfl ⟨rfl, rfl, rfl, rfl, rfl⟩ rfl rfl rfl rfl rfl (by kernel_rfl) Try.func10 (by kernel_rfl)
    (of_decide_eq_true (by kernel_rfl)) (by unfold Func.isWrapper; first | (rw [if_pos (by decide +kernel)]; kernel_rfl) | (rw [if_neg (by decide +kernel)]; exact ⟨rfl, rfl⟩))
    (fun os started H enc _ => lifted os started H enc)
theorem proved : Rows.NoticeTellsSaid := over
#print axioms proved
end noticeTells
/-- The row, under a short name, for the claim. -/
theorem noticeTells_holds : Rows.NoticeTellsSaid := noticeTells.proved
end Go.Proofs.Ytodhhnljeojpaaa
