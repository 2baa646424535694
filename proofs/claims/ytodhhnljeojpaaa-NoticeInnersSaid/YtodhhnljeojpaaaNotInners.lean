/- NoticeInners: P7.2: the key of whatever is begun in any bytes; what a fault tells of any packet's. No condition. -/
import Derived.Test.YtodhhnljeojpaaaMNot7
import Derived.Test.YtodhhnljeojpaaaNot8
set_option linter.unusedVariables false
set_option linter.unusedSimpArgs false
namespace Go.Proofs.Ytodhhnljeojpaaa
set_option maxRecDepth 8000
attribute [local irreducible] blk wpS seqS ordS OpVal RV endS LoadV StoreV Calls
open Go.RowKit Go.ChangeShapes Go.WideShapes Go.Deep
theorem eqKey (n : Key) (w : World) : (Op.equalIn 10000 60 (kv n) (kv n)).run Try.prog w = .ok true w := by
  go_simp
theorem eqKeyV (x y : Operand) (n : Key) (w : World) : ((do eqGuard .eql 60 x y (kv n) (kv n); binOp .eql 60 (kv n) (kv n)) : Sem Value).run Try.prog w = .ok (.bool true) w := by
  have h := eqKey n w
  rw [Sem.run_bind, run_eqGuard_agg w _ _ _ _ _ _ Try.eqGuardType60, Result.andThen_ok, run_eql_struct, h]
  rfl
set_option maxHeartbeats 4000000 in
theorem ntInners_any (l : List UInt8) (w : World) (hl : l.length ≤ 140737488351232) : Calls Try.prog 9 #[.string (strOf l)] w fun e w' => e = .returned (.bool true) ∧ Mod [] w w' := by
  have hsz := strOf_size l
  by_cases h3000 : 3000 < l.length
  · have h3 : decide ((3000 : Int) < ((strOf l).size : Int)) = true := decide_eq_true (by omega)
    clear hsz h3000
    generalize strOf l = B at h3 ⊢
    (refine enterS ([]) (Sep.start _ []) Try.func9 rfl ?_; simp only [Try.ntmps9, List.size_toArray, List.length_cons, List.length_nil, Nat.reduceAdd, Nat.reduceSub, Array.replicate_succ, Array.replicate_zero, List.push_toArray, List.append_toArray, List.nil_append, List.cons_append])
    (repeat' (first | ((with_reducible refine isOps ?_); first | (refine seqS_nil ?_; (try simp only [thenS, blockS])) | ((first | ((with_reducible refine isCallF ?_); refine aCF ?_) | ((with_reducible refine isCallV ?_); refine aCV ?_)); first | refine cS0 (fun w_ hs_ => awake07_any _) ?_) | ((with_reducible refine isStore ?_); first | refine aSt ?_) | ((with_reducible refine isAlloc ?_); first | (refine aAl (fun n_ l_ hl_ => ?_); dsimp only [sS, sZ] at hl_; subst hl_)) | refine aV ?_ | refine aNo ?_ | refine aNo' ?_ | ((fail_if_success (refine aIsT ?_)); (fail_if_success (refine aIsF ?_)); refine seqS_guard rfl rfl rfl (fun l_ hl_ h_ => ?_) (fun l_ hl_ h_ => ?_) <;> (dsimp only [sS, sZ] at hl_; subst hl_; (try (simp only [beq_iff_eq, bne_iff_ne, beq_eq_false_iff_ne, bne_eq_false_iff_eq, ne_eq, decide_eq_true_eq, decide_eq_false_iff_not, Bool.and_eq_true, Bool.or_eq_true, Bool.and_eq_false_iff, Bool.or_eq_false_iff, Bool.not_eq_true', Bool.not_eq_false', Bool.false_eq_true, Bool.true_eq_false, reduceCtorEq] at h_)); (try (first | (with_reducible contradiction) | (exfalso; omega)))))) | ((with_reducible refine isWp ?_); first | (refine wpS_seq (fun K_ hK_ => ?_)) | (refine wpS_region ?_) | (refine wpS_cond rfl (fun h_ => ?_) (fun h_ => ?_) <;> (try (simp only [beq_iff_eq, bne_iff_ne, beq_eq_false_iff_ne, bne_eq_false_iff_eq, ne_eq, decide_eq_true_eq, decide_eq_false_iff_not, Bool.and_eq_true, Bool.or_eq_true, Bool.and_eq_false_iff, Bool.or_eq_false_iff, Bool.false_eq_true, Bool.true_eq_false, reduceCtorEq] at h_)) <;> (try (first | (with_reducible contradiction) | (exfalso; omega)))) | (refine wpS_block ?_) | (refine wpS_ret ?_; (try simp only [thenS, blockS])) | (refine wpS_exit ?_; simp only [thenS, blockS, ↓reduceIte, Nat.reduceEqDiff]) | (refine wpS_skip ?_; (try simp only [thenS, blockS]))) | (refine useK (by with_reducible assumption) ?_)))
    (first | refine r1_ Try.results9 (fun w_ hs_ => ?_) | refine r2_ Try.results9 (fun w_ hs_ => ?_) | refine r3_ Try.results9 (fun w_ hs_ => ?_) | refine retS0 Try.results9 (fun w_ hs_ => ?_) | refine retN0 Try.results9 (fun w_ hs_ => ?_))
    exact ⟨rfl, hs_.mod⟩
  have h3 : decide ((3000 : Int) < ((strOf l).size : Int)) = false := decide_eq_false (by omega)
  have h1 := Lib.hid fun w' => inner_any l (by omega) w'
  have h2 := Lib.hid fun w' => refInner_any l (by omega) w'
  have h4 := Lib.hid fun w' => ntBeg_any l (by omega) w'
  have h5 := Lib.hid fun w' => refBeg_any l (by omega) w'
  generalize innerOf l = K at h1 h2
  generalize strOf (begOf l) = C at h4 h5
  clear hsz h3000
  generalize strOf l = B at h1 h2 h3 h4 h5 ⊢
  rcases K with _ | k
  all_goals
    (refine enterS ([]) (Sep.start _ []) Try.func9 rfl ?_; simp only [Try.ntmps9, List.size_toArray, List.length_cons, List.length_nil, Nat.reduceAdd, Nat.reduceSub, Array.replicate_succ, Array.replicate_zero, List.push_toArray, List.append_toArray, List.nil_append, List.cons_append])
    (repeat' (first | ((with_reducible refine isOps ?_); first | (refine seqS_nil ?_; (try simp only [thenS, blockS])) | ((with_reducible refine isBinAt .eql 60 ?_); refine aVh (opv_bin rfl rfl (fun w_ hs_ => eqKeyV _ _ _ _)) ?_) | ((first | ((with_reducible refine isCallF ?_); refine aCF ?_) | ((with_reducible refine isCallV ?_); refine aCV ?_)); first | refine cS0 (fun w_ hs_ => h1.out _) ?_ | refine cS0 (fun w_ hs_ => h2.out _) ?_ | refine cS0 (fun w_ hs_ => h4.out _) ?_ | refine cS0 (fun w_ hs_ => h5.out _) ?_ | refine cS0 (fun w_ hs_ => awake07_any _) ?_) | ((with_reducible refine isStore ?_); first | refine aSt ?_) | ((with_reducible refine isAlloc ?_); first | (refine aAl (fun n_ l_ hl_ => ?_); dsimp only [sS, sZ] at hl_; subst hl_)) | refine aV ?_ | refine aNo ?_ | refine aNo' ?_ | ((fail_if_success (refine aIsT ?_)); (fail_if_success (refine aIsF ?_)); refine seqS_guard rfl rfl rfl (fun l_ hl_ h_ => ?_) (fun l_ hl_ h_ => ?_) <;> (dsimp only [sS, sZ] at hl_; subst hl_; (try (simp only [beq_iff_eq, bne_iff_ne, beq_eq_false_iff_ne, bne_eq_false_iff_eq, ne_eq, decide_eq_true_eq, decide_eq_false_iff_not, Bool.and_eq_true, Bool.or_eq_true, Bool.and_eq_false_iff, Bool.or_eq_false_iff, Bool.not_eq_true', Bool.not_eq_false', Bool.false_eq_true, Bool.true_eq_false, reduceCtorEq] at h_)); (try (first | (with_reducible contradiction) | (exfalso; omega)))))) | ((with_reducible refine isWp ?_); first | (refine wpS_seq (fun K_ hK_ => ?_)) | (refine wpS_region ?_) | (refine wpS_cond rfl (fun h_ => ?_) (fun h_ => ?_) <;> (try (simp only [beq_iff_eq, bne_iff_ne, beq_eq_false_iff_ne, bne_eq_false_iff_eq, ne_eq, decide_eq_true_eq, decide_eq_false_iff_not, Bool.and_eq_true, Bool.or_eq_true, Bool.and_eq_false_iff, Bool.or_eq_false_iff, Bool.false_eq_true, Bool.true_eq_false, reduceCtorEq] at h_)) <;> (try (first | (with_reducible contradiction) | (exfalso; omega)))) | (refine wpS_block ?_) | (refine wpS_ret ?_; (try simp only [thenS, blockS])) | (refine wpS_exit ?_; simp only [thenS, blockS, ↓reduceIte, Nat.reduceEqDiff]) | (refine wpS_skip ?_; (try simp only [thenS, blockS]))) | (refine useK (by with_reducible assumption) ?_)))
    (first | refine r1_ Try.results9 (fun w_ hs_ => ?_) | refine r2_ Try.results9 (fun w_ hs_ => ?_) | refine r3_ Try.results9 (fun w_ hs_ => ?_) | refine retS0 Try.results9 (fun w_ hs_ => ?_) | refine retN0 Try.results9 (fun w_ hs_ => ?_))
    exact ⟨rfl, hs_.mod⟩
theorem ntInners_s (s : ByteArray) (w : World) (hl : s.size ≤ 140737488351232) : Calls Try.prog 9 #[.string s] w fun e w' => e = .returned (.bool true) ∧ Mod [] w w' := by
  have := ntInners_any s.data.toList w (by simpa using hl)
  rwa [strOf_self] at this
namespace noticeInners
open Go.ChangeShapes Go.WideShapes Go.ChangeAt Go.RowKit
open Go.ChangeMaps (open_string shut_string)
theorem own : ownKnob Try.prog.godebug = none := by kernel_rfl
theorem laidOut : laidOutB Try.prog = true := by kernel_rfl
set_option maxRecDepth 100000 in
theorem lifted (os : Os) (started : os.Started) (H : Type) (enc : TypeId × Value → H) :
    ReturnsInHanded {} Try.checked os 9 .any (Rows.noticeInnersSpec.pre6 enc Try.prog Try.f9 Rows.noticeInnersRow.domain false) (Rows.noticeInnersSpec.post enc Try.prog Try.f9 false true false false) := by
  refine returnsInHanded_of_change_sized (C := Try.checked) own started (by kernel_rfl) Try.func9
    (ChangeSpec.witness6 (enc := enc) (C := Try.checked) false ⟨#[], #[.string ByteArray.empty], []⟩ 8 (by kernel_rfl) (by kernel_rfl) (by kernel_rfl) (by kernel_rfl)) ?_
  intro W base args ds gs before hval0 hW hcnd hsz0 _
  have hsz : (DataW.weightsEach Try.prog (Try.f9.params.toList ++ Rows.noticeInnersSpec.plain.varTypes Try.prog) (ds ++ gs)).all (· ≤ reachBytes) = true := hsz0
  have hval : ∀ (j : Nat) t v, Try.f9.params[j]? = some t → args[j]? = some v → Value.okWide Try.prog W .any base t v := hval0
  have hW' := hW
  obtain ⟨p, q, hA0, hV, rfl, hfz, hnd⟩ := hW
  have hA : DataW.TrodAll enc Try.prog W 0 (fun _ => true) true Try.f9.params.toList args.toList ds p := hA0
  rw [Try.params9] at hA hval hsz
  obtain ⟨v0, vs0, d0, ds0, p0, q0, hargs, rfl, rfl, h0, r0⟩ := trodAll_cons hA
  obtain ⟨rfl, rfl, rfl⟩ := trodAll_nil r0
  obtain rfl : args = #[v0] := by cases args; simp_all
  obtain ⟨rfl, rfl⟩ := trodVars_none hV
  obtain ⟨a0, rfl, rfl, rfl, y0⟩ := open_string Try.underlying9 (hval 0 9 v0 rfl rfl) h0
  have w0 : a0.size ≤ 140737488351232 := by
    have z := sized_string hsz (j := 0) (t := 9) rfl rfl
    rw [Array.length_toList] at z
    exact z
  clear hA0 hval0 hsz0
  refine (ntInners_s a0 W w0).mono fun e W' ⟨he, mod⟩ => ?_
  have bel : Below W.heap.size W W' := mod.below (Nat.le_refl _) (by simp)
  subst he
  exact ⟨_, rfl, _, _, _, [], _, [], hW', trodAll_mk1 (shut_bool Try.underlying4 _), (trodAll_cons_mk (shut_string Try.underlying9 y0) trodAll_mk0), rfl, bel.frame _, fun h => by cases h⟩
theorem over : Rows.noticeInnersRow.holds Try.pinned (OpenSpec.ofChange Rows.noticeInnersSpec) :=
  OpenClaim.holds_of_wide 9 Try.f9 rfl rfl rfl rfl rfl rfl rfl ⟨rfl, rfl, rfl, rfl, rfl⟩ rfl rfl rfl rfl rfl (by kernel_rfl) Try.func9 (by kernel_rfl)
    (of_decide_eq_true (by kernel_rfl)) (by unfold Func.isWrapper; first | (rw [if_pos (by decide +kernel)]; kernel_rfl) | (rw [if_neg (by decide +kernel)]; exact ⟨rfl, rfl⟩))
    (fun os started H enc _ => lifted os started H enc)
theorem proved : Rows.NoticeInnersSaid := over
#print axioms proved
end noticeInners
/-- The row, under a short name, for the claim. -/
theorem noticeInners_holds : Rows.NoticeInnersSaid := noticeInners.proved
end Go.Proofs.Ytodhhnljeojpaaa
