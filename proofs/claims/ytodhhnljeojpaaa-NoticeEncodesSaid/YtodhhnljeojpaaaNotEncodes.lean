/- NoticeEncodes: P7.1, P7.3: any notice's bytes, or that it isn't right; read again it is the same; its kind, and reply. No condition. -/
import Derived.Test.YtodhhnljeojpaaaNotParses
import Derived.Test.YtodhhnljeojpaaaByt
set_option linter.unusedVariables false
set_option linter.unusedSimpArgs false
namespace Go.Proofs.Ytodhhnljeojpaaa
set_option maxRecDepth 8000
attribute [local irreducible] blk wpS seqS ordS OpVal RV endS LoadV StoreV Calls
open Go.RowKit Go.ChangeShapes Go.WideShapes Go.Deep
theorem neqNtcV (x y : Operand) (n : Ntc) (w : World) : ((do eqGuard .neq 33 x y (nv n) (nv n); binOp .neq 33 (nv n) (nv n)) : Sem Value).run Try.prog w = .ok (.bool false) w := by
  have h := eqNtc n w
  rw [Sem.run_bind, run_eqGuard_agg w _ _ _ _ _ _ Try.eqGuardType33, Result.andThen_ok, run_neq_struct, h]
  rfl
structure NtWf (n : Ntc) : Prop where
  word : 0 ≤ n.word ∧ n.word ≤ 4294967295
  data : n.d.size ≤ maxLen
theorem open_ntc {H : Type} {enc : TypeId × Value → H} {w : World} {n : Nat} {u : Value} {y : DataW H × List MemPlace} {r : Reach} {b0 : Nat} (hv : Value.okWide Try.prog w r b0 33 u)
    (h : DataW.trod enc Try.prog w 0 (fun _ => true) true n 33 u.cells.toList = some y) : ∃ p : Ntc, u = nv p ∧ NtWf p := by
  obtain ⟨cs, rfl, hc⟩ := Go.WideShapes.okWide_struct Try.underlying33 hv
  have hc4 : cs.toList.length = 4 := by simpa using hc.trans (by kernel_rfl)
  have h' : DataW.trod enc Try.prog w 0 (fun _ => true) true n 33 cs.toList = some y := by simpa [Value.cells] using h
  obtain ⟨m, hf⟩ := open_fields Try.underlying33 (by kernel_rfl) hc4 h'
  obtain ⟨l, rfl⟩ : ∃ l : List Value, cs = l.toArray := ⟨cs.toList, by simp⟩
  simp only at hc4 hf
  match l, hc4 with
  | [c0, c1, c2, c3], _ =>
    obtain ⟨v0, y0, e0, h0⟩ := hf 0 _ rfl
    obtain ⟨v1, y1, e1, h1⟩ := hf 1 _ rfl
    obtain ⟨v2, y2, e2, h2⟩ := hf 2 _ rfl
    obtain ⟨v3, y3, e3, h3⟩ := hf 3 _ rfl
    obtain ⟨a0, ha0, _, w0⟩ := DataW.trod_int Try.underlying3 h0
    obtain ⟨a1, ha1, _, w1⟩ := DataW.trod_int Try.underlying3 h1
    obtain ⟨a2, ha2, _, w2⟩ := DataW.trod_int Try.underlying22 h2
    obtain ⟨a3, ha3, _, w3⟩ := DataW.trod_string Try.underlying9 h3
    simp at ha0 ha1 ha2 ha3 e0 e1 e2 e3
    subst ha0 ha1 ha2 ha3 e0 e1 e2 e3
    exact ⟨⟨a0, a1, a2, a3⟩, rfl, wf_u32 w2, w3⟩
set_option maxRecDepth 100000 in
set_option maxHeartbeats 8000000 in
theorem ntEncodes_any (n : Ntc) (hw : 0 ≤ n.word ∧ n.word ≤ 4294967295) (hd : n.d.size ≤ maxLen) (w : World) : Calls Try.prog 4 #[nv n] w fun e w' => e = .returned (.bool true) ∧ Mod [] w w' := by
  unfold maxLen at hd
  have HE := Lib.hid (fun w' => ntEncode_any n hw w')
  have HK := Lib.hid (fun w' => ntKind_any n w')
  have HK2 := Lib.hid (fun w' => refKind07_any n.ty w')
  have HX := Lib.hid (fun w' => ntEcho_any n w')
  have HR := Lib.hid (fun w' => refRight07_any n w')
  have he := Lib.hid (show ntEnc n = if ntRight n = true then (strOf (ntBytes n), 0) else (⟨#[]⟩, 1) from rfl)
  have hsplit : ((n.d.size ≤ 2000) ∨ (65000 ≤ n.d.size ∧ n.d.size ≤ 66000)) ∨ ((2000 < n.d.size ∧ n.d.size < 65000) ∨ 66000 < n.d.size) := by omega
  rcases hsplit with (ha | ⟨ha, hb⟩) | (⟨ha, hb⟩ | ha)
  case inr.inl =>
    have h1 : decide ((2000 : Int) < (n.d.size : Int)) = true := decide_eq_true (by omega)
    have h2 : decide ((n.d.size : Int) < 65000) = true := decide_eq_true (by omega)
    clear ha hb
    (refine enterS ([]) (Sep.start _ []) Try.func4 rfl ?_; simp only [Try.ntmps4, List.size_toArray, List.length_cons, List.length_nil, Nat.reduceAdd, Nat.reduceSub, Array.replicate_succ, Array.replicate_zero, List.push_toArray, List.append_toArray, List.nil_append, List.cons_append])
    (repeat' (first | ((with_reducible refine isOps ?_); first | (refine seqS_nil ?_; (try simp only [thenS, blockS])) | ((first | ((with_reducible refine isCallF ?_); refine aCF ?_) | ((with_reducible refine isCallV ?_); refine aCV ?_)); first | refine cS0 (fun w_ hs_ => awake07_any _) ?_) | ((with_reducible refine isStore ?_); first | refine aSt ?_) | ((with_reducible refine isBox ?_); first | (refine aBox (fun n_ l_ hl_ => ?_); dsimp only [sS, sZ] at hl_; subst hl_)) | ((with_reducible refine isAlloc ?_); first | (refine aAl (fun n_ l_ hl_ => ?_); dsimp only [sS, sZ] at hl_; subst hl_)) | refine aV ?_ | refine aNo ?_ | refine aNo' ?_ | ((fail_if_success (refine aIsT ?_)); (fail_if_success (refine aIsF ?_)); refine seqS_guard rfl rfl rfl (fun l_ hl_ h_ => ?_) (fun l_ hl_ h_ => ?_) <;> (dsimp only [sS, sZ] at hl_; subst hl_; (try (simp only [beq_iff_eq, bne_iff_ne, beq_eq_false_iff_ne, bne_eq_false_iff_eq, ne_eq, decide_eq_true_eq, decide_eq_false_iff_not, Bool.and_eq_true, Bool.or_eq_true, Bool.and_eq_false_iff, Bool.or_eq_false_iff, Bool.not_eq_true', Bool.not_eq_false', Bool.false_eq_true, Bool.true_eq_false, reduceCtorEq] at h_)); (try (first | (with_reducible contradiction) | (exfalso; omega)))))) | ((with_reducible refine isWp ?_); first | (refine wpS_seq (fun K_ hK_ => ?_)) | (refine wpS_region ?_) | (refine wpS_cond rfl (fun h_ => ?_) (fun h_ => ?_) <;> (try (simp only [beq_iff_eq, bne_iff_ne, beq_eq_false_iff_ne, bne_eq_false_iff_eq, ne_eq, decide_eq_true_eq, decide_eq_false_iff_not, Bool.and_eq_true, Bool.or_eq_true, Bool.and_eq_false_iff, Bool.or_eq_false_iff, Bool.false_eq_true, Bool.true_eq_false, reduceCtorEq] at h_)) <;> (try (first | (with_reducible contradiction) | (exfalso; omega)))) | (refine wpS_block ?_) | (refine wpS_ret ?_; (try simp only [thenS, blockS])) | (refine wpS_exit ?_; simp only [thenS, blockS, ↓reduceIte, Nat.reduceEqDiff]) | (refine wpS_skip ?_; (try simp only [thenS, blockS]))) | (refine useK (by with_reducible assumption) ?_)))
    (first | refine r1_ Try.results4 (fun w_ hs_ => ?_) | refine r2_ Try.results4 (fun w_ hs_ => ?_) | refine r3_ Try.results4 (fun w_ hs_ => ?_) | refine retS0 Try.results4 (fun w_ hs_ => ?_) | refine retN0 Try.results4 (fun w_ hs_ => ?_))
    exact ⟨rfl, hs_.mod⟩
  case inr.inr =>
    have h1 : decide ((2000 : Int) < (n.d.size : Int)) = true := decide_eq_true (by omega)
    have h2 : decide ((n.d.size : Int) < 65000) = false := decide_eq_false (by omega)
    have h3 : decide ((66000 : Int) < (n.d.size : Int)) = true := decide_eq_true (by omega)
    clear ha
    (refine enterS ([]) (Sep.start _ []) Try.func4 rfl ?_; simp only [Try.ntmps4, List.size_toArray, List.length_cons, List.length_nil, Nat.reduceAdd, Nat.reduceSub, Array.replicate_succ, Array.replicate_zero, List.push_toArray, List.append_toArray, List.nil_append, List.cons_append])
    (repeat' (first | ((with_reducible refine isOps ?_); first | (refine seqS_nil ?_; (try simp only [thenS, blockS])) | ((first | ((with_reducible refine isCallF ?_); refine aCF ?_) | ((with_reducible refine isCallV ?_); refine aCV ?_)); first | refine cS0 (fun w_ hs_ => awake07_any _) ?_) | ((with_reducible refine isStore ?_); first | refine aSt ?_) | ((with_reducible refine isBox ?_); first | (refine aBox (fun n_ l_ hl_ => ?_); dsimp only [sS, sZ] at hl_; subst hl_)) | ((with_reducible refine isAlloc ?_); first | (refine aAl (fun n_ l_ hl_ => ?_); dsimp only [sS, sZ] at hl_; subst hl_)) | refine aV ?_ | refine aNo ?_ | refine aNo' ?_ | ((fail_if_success (refine aIsT ?_)); (fail_if_success (refine aIsF ?_)); refine seqS_guard rfl rfl rfl (fun l_ hl_ h_ => ?_) (fun l_ hl_ h_ => ?_) <;> (dsimp only [sS, sZ] at hl_; subst hl_; (try (simp only [beq_iff_eq, bne_iff_ne, beq_eq_false_iff_ne, bne_eq_false_iff_eq, ne_eq, decide_eq_true_eq, decide_eq_false_iff_not, Bool.and_eq_true, Bool.or_eq_true, Bool.and_eq_false_iff, Bool.or_eq_false_iff, Bool.not_eq_true', Bool.not_eq_false', Bool.false_eq_true, Bool.true_eq_false, reduceCtorEq] at h_)); (try (first | (with_reducible contradiction) | (exfalso; omega)))))) | ((with_reducible refine isWp ?_); first | (refine wpS_seq (fun K_ hK_ => ?_)) | (refine wpS_region ?_) | (refine wpS_cond rfl (fun h_ => ?_) (fun h_ => ?_) <;> (try (simp only [beq_iff_eq, bne_iff_ne, beq_eq_false_iff_ne, bne_eq_false_iff_eq, ne_eq, decide_eq_true_eq, decide_eq_false_iff_not, Bool.and_eq_true, Bool.or_eq_true, Bool.and_eq_false_iff, Bool.or_eq_false_iff, Bool.false_eq_true, Bool.true_eq_false, reduceCtorEq] at h_)) <;> (try (first | (with_reducible contradiction) | (exfalso; omega)))) | (refine wpS_block ?_) | (refine wpS_ret ?_; (try simp only [thenS, blockS])) | (refine wpS_exit ?_; simp only [thenS, blockS, ↓reduceIte, Nat.reduceEqDiff]) | (refine wpS_skip ?_; (try simp only [thenS, blockS]))) | (refine useK (by with_reducible assumption) ?_)))
    (first | refine r1_ Try.results4 (fun w_ hs_ => ?_) | refine r2_ Try.results4 (fun w_ hs_ => ?_) | refine r3_ Try.results4 (fun w_ hs_ => ?_) | refine retS0 Try.results4 (fun w_ hs_ => ?_) | refine retN0 Try.results4 (fun w_ hs_ => ?_))
    exact ⟨rfl, hs_.mod⟩
  case inl.inl =>
    have h1 : decide ((2000 : Int) < (n.d.size : Int)) = false := decide_eq_false (by omega)
    have h3 : decide ((66000 : Int) < (n.d.size : Int)) = false := decide_eq_false (by omega)
    clear ha
    by_cases h8 : n.ty = 8
    · rw [show ntKind n.ty = 1 from if_pos h8] at HK HK2
      rw [show ntEcho n = ({ n with ty := 0 }, true) from if_pos h8] at HX
      rcases hrt : ntRight n with _ | _
      · rw [hrt] at HR he
        rw [he.out] at HE
        (refine enterS ([]) (Sep.start _ []) Try.func4 rfl ?_; simp only [Try.ntmps4, List.size_toArray, List.length_cons, List.length_nil, Nat.reduceAdd, Nat.reduceSub, Array.replicate_succ, Array.replicate_zero, List.push_toArray, List.append_toArray, List.nil_append, List.cons_append])
        (repeat' (first | ((with_reducible refine isOps ?_); first | (refine seqS_nil ?_; (try simp only [thenS, blockS])) | ((with_reducible refine isBinAt .eql 33 ?_); refine aVh (opv_bin rfl rfl (fun w_ hs_ => eqNtcV _ _ _ _)) ?_) | ((with_reducible refine isBinAt .neq 33 ?_); refine aVh (opv_bin rfl rfl (fun w_ hs_ => neqNtcV _ _ _ _)) ?_) | ((first | ((with_reducible refine isCallF ?_); refine aCF ?_) | ((with_reducible refine isCallV ?_); refine aCV ?_)); first | refine cS0 (fun w_ hs_ => HE.out _) ?_ | refine cS0 (fun w_ hs_ => HX.out _) ?_ | refine cS0 (fun w_ hs_ => HK.out _) ?_ | refine cS0 (fun w_ hs_ => HK2.out _) ?_ | refine cS0 (fun w_ hs_ => HR.out _) ?_ | refine cS0 (fun w_ hs_ => awake07_any _) ?_) | ((with_reducible refine isStore ?_); first | refine aSt ?_) | ((with_reducible refine isBox ?_); first | (refine aBox (fun n_ l_ hl_ => ?_); dsimp only [sS, sZ] at hl_; subst hl_)) | ((with_reducible refine isAlloc ?_); first | (refine aAl (fun n_ l_ hl_ => ?_); dsimp only [sS, sZ] at hl_; subst hl_)) | refine aV ?_ | refine aNo ?_ | refine aNo' ?_ | ((fail_if_success (refine aIsT ?_)); (fail_if_success (refine aIsF ?_)); refine seqS_guard rfl rfl rfl (fun l_ hl_ h_ => ?_) (fun l_ hl_ h_ => ?_) <;> (dsimp only [sS, sZ] at hl_; subst hl_; (try (simp only [beq_iff_eq, bne_iff_ne, beq_eq_false_iff_ne, bne_eq_false_iff_eq, ne_eq, decide_eq_true_eq, decide_eq_false_iff_not, Bool.and_eq_true, Bool.or_eq_true, Bool.and_eq_false_iff, Bool.or_eq_false_iff, Bool.not_eq_true', Bool.not_eq_false', Bool.false_eq_true, Bool.true_eq_false, reduceCtorEq] at h_)); (try (first | (with_reducible contradiction) | (exfalso; omega)))))) | ((with_reducible refine isWp ?_); first | (refine wpS_seq (fun K_ hK_ => ?_)) | (refine wpS_region ?_) | (refine wpS_cond rfl (fun h_ => ?_) (fun h_ => ?_) <;> (try (simp only [beq_iff_eq, bne_iff_ne, beq_eq_false_iff_ne, bne_eq_false_iff_eq, ne_eq, decide_eq_true_eq, decide_eq_false_iff_not, Bool.and_eq_true, Bool.or_eq_true, Bool.and_eq_false_iff, Bool.or_eq_false_iff, Bool.false_eq_true, Bool.true_eq_false, reduceCtorEq] at h_)) <;> (try (first | (with_reducible contradiction) | (exfalso; omega)))) | (refine wpS_block ?_) | (refine wpS_ret ?_; (try simp only [thenS, blockS])) | (refine wpS_exit ?_; simp only [thenS, blockS, ↓reduceIte, Nat.reduceEqDiff]) | (refine wpS_skip ?_; (try simp only [thenS, blockS]))) | (refine useK (by with_reducible assumption) ?_)))
        (first | refine r1_ Try.results4 (fun w_ hs_ => ?_) | refine r2_ Try.results4 (fun w_ hs_ => ?_) | refine r3_ Try.results4 (fun w_ hs_ => ?_) | refine retS0 Try.results4 (fun w_ hs_ => ?_) | refine retN0 Try.results4 (fun w_ hs_ => ?_))
        exact ⟨rfl, hs_.mod⟩
      · rw [hrt] at HR he
        rw [he.out] at HE
        have HP : Hid (∀ w', Calls Try.prog 20 #[.string (strOf (ntBytes n))] w' fun e w'' => e = .returned (.tuple #[nv n, .int .i64 0]) ∧ Mod [] w' w'') := Lib.hid fun w' => by
          have := ntParse_any (ntBytes n) (by rw [ntBytes_len]; have := (ntRight_iff.1 hrt).2.2; omega) w'
          rwa [ntParse_enc hrt hw] at this
        have HF := Lib.hid (fun w' => refNtEncode_any n hrt hw w')
        simp only [if_true] at HE
        generalize strOf (ntBytes n) = B at HE HP HF
        (refine enterS ([]) (Sep.start _ []) Try.func4 rfl ?_; simp only [Try.ntmps4, List.size_toArray, List.length_cons, List.length_nil, Nat.reduceAdd, Nat.reduceSub, Array.replicate_succ, Array.replicate_zero, List.push_toArray, List.append_toArray, List.nil_append, List.cons_append])
        (repeat' (first | ((with_reducible refine isOps ?_); first | (refine seqS_nil ?_; (try simp only [thenS, blockS])) | ((with_reducible refine isBinAt .eql 33 ?_); refine aVh (opv_bin rfl rfl (fun w_ hs_ => eqNtcV _ _ _ _)) ?_) | ((with_reducible refine isBinAt .neq 33 ?_); refine aVh (opv_bin rfl rfl (fun w_ hs_ => neqNtcV _ _ _ _)) ?_) | ((first | ((with_reducible refine isCallF ?_); refine aCF ?_) | ((with_reducible refine isCallV ?_); refine aCV ?_)); first | refine cS0 (fun w_ hs_ => HE.out _) ?_ | refine cS0 (fun w_ hs_ => HX.out _) ?_ | refine cS0 (fun w_ hs_ => HK.out _) ?_ | refine cS0 (fun w_ hs_ => HK2.out _) ?_ | refine cS0 (fun w_ hs_ => HR.out _) ?_ | refine cS0 (fun w_ hs_ => HP.out _) ?_ | refine cS0 (fun w_ hs_ => HF.out _) ?_ | refine cS0 (fun w_ hs_ => awake07_any _) ?_) | ((with_reducible refine isStore ?_); first | refine aSt ?_) | ((with_reducible refine isBox ?_); first | (refine aBox (fun n_ l_ hl_ => ?_); dsimp only [sS, sZ] at hl_; subst hl_)) | ((with_reducible refine isAlloc ?_); first | (refine aAl (fun n_ l_ hl_ => ?_); dsimp only [sS, sZ] at hl_; subst hl_)) | refine aV ?_ | refine aNo ?_ | refine aNo' ?_ | ((fail_if_success (refine aIsT ?_)); (fail_if_success (refine aIsF ?_)); refine seqS_guard rfl rfl rfl (fun l_ hl_ h_ => ?_) (fun l_ hl_ h_ => ?_) <;> (dsimp only [sS, sZ] at hl_; subst hl_; (try (simp only [beq_iff_eq, bne_iff_ne, beq_eq_false_iff_ne, bne_eq_false_iff_eq, ne_eq, decide_eq_true_eq, decide_eq_false_iff_not, Bool.and_eq_true, Bool.or_eq_true, Bool.and_eq_false_iff, Bool.or_eq_false_iff, Bool.not_eq_true', Bool.not_eq_false', Bool.false_eq_true, Bool.true_eq_false, reduceCtorEq] at h_)); (try (first | (with_reducible contradiction) | (exfalso; omega)))))) | ((with_reducible refine isWp ?_); first | (refine wpS_seq (fun K_ hK_ => ?_)) | (refine wpS_region ?_) | (refine wpS_cond rfl (fun h_ => ?_) (fun h_ => ?_) <;> (try (simp only [beq_iff_eq, bne_iff_ne, beq_eq_false_iff_ne, bne_eq_false_iff_eq, ne_eq, decide_eq_true_eq, decide_eq_false_iff_not, Bool.and_eq_true, Bool.or_eq_true, Bool.and_eq_false_iff, Bool.or_eq_false_iff, Bool.false_eq_true, Bool.true_eq_false, reduceCtorEq] at h_)) <;> (try (first | (with_reducible contradiction) | (exfalso; omega)))) | (refine wpS_block ?_) | (refine wpS_ret ?_; (try simp only [thenS, blockS])) | (refine wpS_exit ?_; simp only [thenS, blockS, ↓reduceIte, Nat.reduceEqDiff]) | (refine wpS_skip ?_; (try simp only [thenS, blockS]))) | (refine useK (by with_reducible assumption) ?_)))
        (first | refine r1_ Try.results4 (fun w_ hs_ => ?_) | refine r2_ Try.results4 (fun w_ hs_ => ?_) | refine r3_ Try.results4 (fun w_ hs_ => ?_) | refine retS0 Try.results4 (fun w_ hs_ => ?_) | refine retN0 Try.results4 (fun w_ hs_ => ?_))
        exact ⟨rfl, hs_.mod⟩
    · have hk1 : ntKind n.ty ≠ 1 := by
        unfold ntKind
        rw [if_neg h8]
        split
        · decide
        · split <;> decide
      rw [show ntEcho n = (noNtc, false) from if_neg h8] at HX
      generalize ntKind n.ty = k at HK HK2 hk1
      rcases hrt : ntRight n with _ | _
      · rw [hrt] at HR he
        rw [he.out] at HE
        (refine enterS ([]) (Sep.start _ []) Try.func4 rfl ?_; simp only [Try.ntmps4, List.size_toArray, List.length_cons, List.length_nil, Nat.reduceAdd, Nat.reduceSub, Array.replicate_succ, Array.replicate_zero, List.push_toArray, List.append_toArray, List.nil_append, List.cons_append])
        (repeat' (first | ((with_reducible refine isOps ?_); first | (refine seqS_nil ?_; (try simp only [thenS, blockS])) | ((with_reducible refine isBinAt .eql 33 ?_); refine aVh (opv_bin rfl rfl (fun w_ hs_ => eqNtcV _ _ _ _)) ?_) | ((with_reducible refine isBinAt .neq 33 ?_); refine aVh (opv_bin rfl rfl (fun w_ hs_ => neqNtcV _ _ _ _)) ?_) | ((first | ((with_reducible refine isCallF ?_); refine aCF ?_) | ((with_reducible refine isCallV ?_); refine aCV ?_)); first | refine cS0 (fun w_ hs_ => HE.out _) ?_ | refine cS0 (fun w_ hs_ => HX.out _) ?_ | refine cS0 (fun w_ hs_ => HK.out _) ?_ | refine cS0 (fun w_ hs_ => HK2.out _) ?_ | refine cS0 (fun w_ hs_ => HR.out _) ?_ | refine cS0 (fun w_ hs_ => awake07_any _) ?_) | ((with_reducible refine isStore ?_); first | refine aSt ?_) | ((with_reducible refine isBox ?_); first | (refine aBox (fun n_ l_ hl_ => ?_); dsimp only [sS, sZ] at hl_; subst hl_)) | ((with_reducible refine isAlloc ?_); first | (refine aAl (fun n_ l_ hl_ => ?_); dsimp only [sS, sZ] at hl_; subst hl_)) | refine aV ?_ | refine aNo ?_ | refine aNo' ?_ | ((fail_if_success (refine aIsT ?_)); (fail_if_success (refine aIsF ?_)); refine seqS_guard rfl rfl rfl (fun l_ hl_ h_ => ?_) (fun l_ hl_ h_ => ?_) <;> (dsimp only [sS, sZ] at hl_; subst hl_; (try (simp only [beq_iff_eq, bne_iff_ne, beq_eq_false_iff_ne, bne_eq_false_iff_eq, ne_eq, decide_eq_true_eq, decide_eq_false_iff_not, Bool.and_eq_true, Bool.or_eq_true, Bool.and_eq_false_iff, Bool.or_eq_false_iff, Bool.not_eq_true', Bool.not_eq_false', Bool.false_eq_true, Bool.true_eq_false, reduceCtorEq] at h_)); (try (first | (with_reducible contradiction) | (exfalso; omega)))))) | ((with_reducible refine isWp ?_); first | (refine wpS_seq (fun K_ hK_ => ?_)) | (refine wpS_region ?_) | (refine wpS_cond rfl (fun h_ => ?_) (fun h_ => ?_) <;> (try (simp only [beq_iff_eq, bne_iff_ne, beq_eq_false_iff_ne, bne_eq_false_iff_eq, ne_eq, decide_eq_true_eq, decide_eq_false_iff_not, Bool.and_eq_true, Bool.or_eq_true, Bool.and_eq_false_iff, Bool.or_eq_false_iff, Bool.false_eq_true, Bool.true_eq_false, reduceCtorEq] at h_)) <;> (try (first | (with_reducible contradiction) | (exfalso; omega)))) | (refine wpS_block ?_) | (refine wpS_ret ?_; (try simp only [thenS, blockS])) | (refine wpS_exit ?_; simp only [thenS, blockS, ↓reduceIte, Nat.reduceEqDiff]) | (refine wpS_skip ?_; (try simp only [thenS, blockS]))) | (refine useK (by with_reducible assumption) ?_)))
        (first | refine r1_ Try.results4 (fun w_ hs_ => ?_) | refine r2_ Try.results4 (fun w_ hs_ => ?_) | refine r3_ Try.results4 (fun w_ hs_ => ?_) | refine retS0 Try.results4 (fun w_ hs_ => ?_) | refine retN0 Try.results4 (fun w_ hs_ => ?_))
        exact ⟨rfl, hs_.mod⟩
      · rw [hrt] at HR he
        rw [he.out] at HE
        have HP : Hid (∀ w', Calls Try.prog 20 #[.string (strOf (ntBytes n))] w' fun e w'' => e = .returned (.tuple #[nv n, .int .i64 0]) ∧ Mod [] w' w'') := Lib.hid fun w' => by
          have := ntParse_any (ntBytes n) (by rw [ntBytes_len]; have := (ntRight_iff.1 hrt).2.2; omega) w'
          rwa [ntParse_enc hrt hw] at this
        have HF := Lib.hid (fun w' => refNtEncode_any n hrt hw w')
        simp only [if_true] at HE
        generalize strOf (ntBytes n) = B at HE HP HF
        (refine enterS ([]) (Sep.start _ []) Try.func4 rfl ?_; simp only [Try.ntmps4, List.size_toArray, List.length_cons, List.length_nil, Nat.reduceAdd, Nat.reduceSub, Array.replicate_succ, Array.replicate_zero, List.push_toArray, List.append_toArray, List.nil_append, List.cons_append])
        (repeat' (first | ((with_reducible refine isOps ?_); first | (refine seqS_nil ?_; (try simp only [thenS, blockS])) | ((with_reducible refine isBinAt .eql 33 ?_); refine aVh (opv_bin rfl rfl (fun w_ hs_ => eqNtcV _ _ _ _)) ?_) | ((with_reducible refine isBinAt .neq 33 ?_); refine aVh (opv_bin rfl rfl (fun w_ hs_ => neqNtcV _ _ _ _)) ?_) | ((first | ((with_reducible refine isCallF ?_); refine aCF ?_) | ((with_reducible refine isCallV ?_); refine aCV ?_)); first | refine cS0 (fun w_ hs_ => HE.out _) ?_ | refine cS0 (fun w_ hs_ => HX.out _) ?_ | refine cS0 (fun w_ hs_ => HK.out _) ?_ | refine cS0 (fun w_ hs_ => HK2.out _) ?_ | refine cS0 (fun w_ hs_ => HR.out _) ?_ | refine cS0 (fun w_ hs_ => HP.out _) ?_ | refine cS0 (fun w_ hs_ => HF.out _) ?_ | refine cS0 (fun w_ hs_ => awake07_any _) ?_) | ((with_reducible refine isStore ?_); first | refine aSt ?_) | ((with_reducible refine isBox ?_); first | (refine aBox (fun n_ l_ hl_ => ?_); dsimp only [sS, sZ] at hl_; subst hl_)) | ((with_reducible refine isAlloc ?_); first | (refine aAl (fun n_ l_ hl_ => ?_); dsimp only [sS, sZ] at hl_; subst hl_)) | refine aV ?_ | refine aNo ?_ | refine aNo' ?_ | ((fail_if_success (refine aIsT ?_)); (fail_if_success (refine aIsF ?_)); refine seqS_guard rfl rfl rfl (fun l_ hl_ h_ => ?_) (fun l_ hl_ h_ => ?_) <;> (dsimp only [sS, sZ] at hl_; subst hl_; (try (simp only [beq_iff_eq, bne_iff_ne, beq_eq_false_iff_ne, bne_eq_false_iff_eq, ne_eq, decide_eq_true_eq, decide_eq_false_iff_not, Bool.and_eq_true, Bool.or_eq_true, Bool.and_eq_false_iff, Bool.or_eq_false_iff, Bool.not_eq_true', Bool.not_eq_false', Bool.false_eq_true, Bool.true_eq_false, reduceCtorEq] at h_)); (try (first | (with_reducible contradiction) | (exfalso; omega)))))) | ((with_reducible refine isWp ?_); first | (refine wpS_seq (fun K_ hK_ => ?_)) | (refine wpS_region ?_) | (refine wpS_cond rfl (fun h_ => ?_) (fun h_ => ?_) <;> (try (simp only [beq_iff_eq, bne_iff_ne, beq_eq_false_iff_ne, bne_eq_false_iff_eq, ne_eq, decide_eq_true_eq, decide_eq_false_iff_not, Bool.and_eq_true, Bool.or_eq_true, Bool.and_eq_false_iff, Bool.or_eq_false_iff, Bool.false_eq_true, Bool.true_eq_false, reduceCtorEq] at h_)) <;> (try (first | (with_reducible contradiction) | (exfalso; omega)))) | (refine wpS_block ?_) | (refine wpS_ret ?_; (try simp only [thenS, blockS])) | (refine wpS_exit ?_; simp only [thenS, blockS, ↓reduceIte, Nat.reduceEqDiff]) | (refine wpS_skip ?_; (try simp only [thenS, blockS]))) | (refine useK (by with_reducible assumption) ?_)))
        (first | refine r1_ Try.results4 (fun w_ hs_ => ?_) | refine r2_ Try.results4 (fun w_ hs_ => ?_) | refine r3_ Try.results4 (fun w_ hs_ => ?_) | refine retS0 Try.results4 (fun w_ hs_ => ?_) | refine retN0 Try.results4 (fun w_ hs_ => ?_))
        exact ⟨rfl, hs_.mod⟩
  case inl.inr =>
    have h1 : decide ((2000 : Int) < (n.d.size : Int)) = true := decide_eq_true (by omega)
    have h2 : decide ((n.d.size : Int) < 65000) = false := decide_eq_false (by omega)
    have h3 : decide ((66000 : Int) < (n.d.size : Int)) = false := decide_eq_false (by omega)
    clear ha hb
    by_cases h8 : n.ty = 8
    · rw [show ntKind n.ty = 1 from if_pos h8] at HK HK2
      rw [show ntEcho n = ({ n with ty := 0 }, true) from if_pos h8] at HX
      rcases hrt : ntRight n with _ | _
      · rw [hrt] at HR he
        rw [he.out] at HE
        (refine enterS ([]) (Sep.start _ []) Try.func4 rfl ?_; simp only [Try.ntmps4, List.size_toArray, List.length_cons, List.length_nil, Nat.reduceAdd, Nat.reduceSub, Array.replicate_succ, Array.replicate_zero, List.push_toArray, List.append_toArray, List.nil_append, List.cons_append])
        (repeat' (first | ((with_reducible refine isOps ?_); first | (refine seqS_nil ?_; (try simp only [thenS, blockS])) | ((with_reducible refine isBinAt .eql 33 ?_); refine aVh (opv_bin rfl rfl (fun w_ hs_ => eqNtcV _ _ _ _)) ?_) | ((with_reducible refine isBinAt .neq 33 ?_); refine aVh (opv_bin rfl rfl (fun w_ hs_ => neqNtcV _ _ _ _)) ?_) | ((first | ((with_reducible refine isCallF ?_); refine aCF ?_) | ((with_reducible refine isCallV ?_); refine aCV ?_)); first | refine cS0 (fun w_ hs_ => HE.out _) ?_ | refine cS0 (fun w_ hs_ => HX.out _) ?_ | refine cS0 (fun w_ hs_ => HK.out _) ?_ | refine cS0 (fun w_ hs_ => HK2.out _) ?_ | refine cS0 (fun w_ hs_ => HR.out _) ?_ | refine cS0 (fun w_ hs_ => awake07_any _) ?_) | ((with_reducible refine isStore ?_); first | refine aSt ?_) | ((with_reducible refine isBox ?_); first | (refine aBox (fun n_ l_ hl_ => ?_); dsimp only [sS, sZ] at hl_; subst hl_)) | ((with_reducible refine isAlloc ?_); first | (refine aAl (fun n_ l_ hl_ => ?_); dsimp only [sS, sZ] at hl_; subst hl_)) | refine aV ?_ | refine aNo ?_ | refine aNo' ?_ | ((fail_if_success (refine aIsT ?_)); (fail_if_success (refine aIsF ?_)); refine seqS_guard rfl rfl rfl (fun l_ hl_ h_ => ?_) (fun l_ hl_ h_ => ?_) <;> (dsimp only [sS, sZ] at hl_; subst hl_; (try (simp only [beq_iff_eq, bne_iff_ne, beq_eq_false_iff_ne, bne_eq_false_iff_eq, ne_eq, decide_eq_true_eq, decide_eq_false_iff_not, Bool.and_eq_true, Bool.or_eq_true, Bool.and_eq_false_iff, Bool.or_eq_false_iff, Bool.not_eq_true', Bool.not_eq_false', Bool.false_eq_true, Bool.true_eq_false, reduceCtorEq] at h_)); (try (first | (with_reducible contradiction) | (exfalso; omega)))))) | ((with_reducible refine isWp ?_); first | (refine wpS_seq (fun K_ hK_ => ?_)) | (refine wpS_region ?_) | (refine wpS_cond rfl (fun h_ => ?_) (fun h_ => ?_) <;> (try (simp only [beq_iff_eq, bne_iff_ne, beq_eq_false_iff_ne, bne_eq_false_iff_eq, ne_eq, decide_eq_true_eq, decide_eq_false_iff_not, Bool.and_eq_true, Bool.or_eq_true, Bool.and_eq_false_iff, Bool.or_eq_false_iff, Bool.false_eq_true, Bool.true_eq_false, reduceCtorEq] at h_)) <;> (try (first | (with_reducible contradiction) | (exfalso; omega)))) | (refine wpS_block ?_) | (refine wpS_ret ?_; (try simp only [thenS, blockS])) | (refine wpS_exit ?_; simp only [thenS, blockS, ↓reduceIte, Nat.reduceEqDiff]) | (refine wpS_skip ?_; (try simp only [thenS, blockS]))) | (refine useK (by with_reducible assumption) ?_)))
        (first | refine r1_ Try.results4 (fun w_ hs_ => ?_) | refine r2_ Try.results4 (fun w_ hs_ => ?_) | refine r3_ Try.results4 (fun w_ hs_ => ?_) | refine retS0 Try.results4 (fun w_ hs_ => ?_) | refine retN0 Try.results4 (fun w_ hs_ => ?_))
        exact ⟨rfl, hs_.mod⟩
      · rw [hrt] at HR he
        rw [he.out] at HE
        have HP : Hid (∀ w', Calls Try.prog 20 #[.string (strOf (ntBytes n))] w' fun e w'' => e = .returned (.tuple #[nv n, .int .i64 0]) ∧ Mod [] w' w'') := Lib.hid fun w' => by
          have := ntParse_any (ntBytes n) (by rw [ntBytes_len]; have := (ntRight_iff.1 hrt).2.2; omega) w'
          rwa [ntParse_enc hrt hw] at this
        have HF := Lib.hid (fun w' => refNtEncode_any n hrt hw w')
        simp only [if_true] at HE
        generalize strOf (ntBytes n) = B at HE HP HF
        (refine enterS ([]) (Sep.start _ []) Try.func4 rfl ?_; simp only [Try.ntmps4, List.size_toArray, List.length_cons, List.length_nil, Nat.reduceAdd, Nat.reduceSub, Array.replicate_succ, Array.replicate_zero, List.push_toArray, List.append_toArray, List.nil_append, List.cons_append])
        (repeat' (first | ((with_reducible refine isOps ?_); first | (refine seqS_nil ?_; (try simp only [thenS, blockS])) | ((with_reducible refine isBinAt .eql 33 ?_); refine aVh (opv_bin rfl rfl (fun w_ hs_ => eqNtcV _ _ _ _)) ?_) | ((with_reducible refine isBinAt .neq 33 ?_); refine aVh (opv_bin rfl rfl (fun w_ hs_ => neqNtcV _ _ _ _)) ?_) | ((first | ((with_reducible refine isCallF ?_); refine aCF ?_) | ((with_reducible refine isCallV ?_); refine aCV ?_)); first | refine cS0 (fun w_ hs_ => HE.out _) ?_ | refine cS0 (fun w_ hs_ => HX.out _) ?_ | refine cS0 (fun w_ hs_ => HK.out _) ?_ | refine cS0 (fun w_ hs_ => HK2.out _) ?_ | refine cS0 (fun w_ hs_ => HR.out _) ?_ | refine cS0 (fun w_ hs_ => HP.out _) ?_ | refine cS0 (fun w_ hs_ => HF.out _) ?_ | refine cS0 (fun w_ hs_ => awake07_any _) ?_) | ((with_reducible refine isStore ?_); first | refine aSt ?_) | ((with_reducible refine isBox ?_); first | (refine aBox (fun n_ l_ hl_ => ?_); dsimp only [sS, sZ] at hl_; subst hl_)) | ((with_reducible refine isAlloc ?_); first | (refine aAl (fun n_ l_ hl_ => ?_); dsimp only [sS, sZ] at hl_; subst hl_)) | refine aV ?_ | refine aNo ?_ | refine aNo' ?_ | ((fail_if_success (refine aIsT ?_)); (fail_if_success (refine aIsF ?_)); refine seqS_guard rfl rfl rfl (fun l_ hl_ h_ => ?_) (fun l_ hl_ h_ => ?_) <;> (dsimp only [sS, sZ] at hl_; subst hl_; (try (simp only [beq_iff_eq, bne_iff_ne, beq_eq_false_iff_ne, bne_eq_false_iff_eq, ne_eq, decide_eq_true_eq, decide_eq_false_iff_not, Bool.and_eq_true, Bool.or_eq_true, Bool.and_eq_false_iff, Bool.or_eq_false_iff, Bool.not_eq_true', Bool.not_eq_false', Bool.false_eq_true, Bool.true_eq_false, reduceCtorEq] at h_)); (try (first | (with_reducible contradiction) | (exfalso; omega)))))) | ((with_reducible refine isWp ?_); first | (refine wpS_seq (fun K_ hK_ => ?_)) | (refine wpS_region ?_) | (refine wpS_cond rfl (fun h_ => ?_) (fun h_ => ?_) <;> (try (simp only [beq_iff_eq, bne_iff_ne, beq_eq_false_iff_ne, bne_eq_false_iff_eq, ne_eq, decide_eq_true_eq, decide_eq_false_iff_not, Bool.and_eq_true, Bool.or_eq_true, Bool.and_eq_false_iff, Bool.or_eq_false_iff, Bool.false_eq_true, Bool.true_eq_false, reduceCtorEq] at h_)) <;> (try (first | (with_reducible contradiction) | (exfalso; omega)))) | (refine wpS_block ?_) | (refine wpS_ret ?_; (try simp only [thenS, blockS])) | (refine wpS_exit ?_; simp only [thenS, blockS, ↓reduceIte, Nat.reduceEqDiff]) | (refine wpS_skip ?_; (try simp only [thenS, blockS]))) | (refine useK (by with_reducible assumption) ?_)))
        (first | refine r1_ Try.results4 (fun w_ hs_ => ?_) | refine r2_ Try.results4 (fun w_ hs_ => ?_) | refine r3_ Try.results4 (fun w_ hs_ => ?_) | refine retS0 Try.results4 (fun w_ hs_ => ?_) | refine retN0 Try.results4 (fun w_ hs_ => ?_))
        exact ⟨rfl, hs_.mod⟩
    · have hk1 : ntKind n.ty ≠ 1 := by
        unfold ntKind
        rw [if_neg h8]
        split
        · decide
        · split <;> decide
      rw [show ntEcho n = (noNtc, false) from if_neg h8] at HX
      generalize ntKind n.ty = k at HK HK2 hk1
      rcases hrt : ntRight n with _ | _
      · rw [hrt] at HR he
        rw [he.out] at HE
        (refine enterS ([]) (Sep.start _ []) Try.func4 rfl ?_; simp only [Try.ntmps4, List.size_toArray, List.length_cons, List.length_nil, Nat.reduceAdd, Nat.reduceSub, Array.replicate_succ, Array.replicate_zero, List.push_toArray, List.append_toArray, List.nil_append, List.cons_append])
        (repeat' (first | ((with_reducible refine isOps ?_); first | (refine seqS_nil ?_; (try simp only [thenS, blockS])) | ((with_reducible refine isBinAt .eql 33 ?_); refine aVh (opv_bin rfl rfl (fun w_ hs_ => eqNtcV _ _ _ _)) ?_) | ((with_reducible refine isBinAt .neq 33 ?_); refine aVh (opv_bin rfl rfl (fun w_ hs_ => neqNtcV _ _ _ _)) ?_) | ((first | ((with_reducible refine isCallF ?_); refine aCF ?_) | ((with_reducible refine isCallV ?_); refine aCV ?_)); first | refine cS0 (fun w_ hs_ => HE.out _) ?_ | refine cS0 (fun w_ hs_ => HX.out _) ?_ | refine cS0 (fun w_ hs_ => HK.out _) ?_ | refine cS0 (fun w_ hs_ => HK2.out _) ?_ | refine cS0 (fun w_ hs_ => HR.out _) ?_ | refine cS0 (fun w_ hs_ => awake07_any _) ?_) | ((with_reducible refine isStore ?_); first | refine aSt ?_) | ((with_reducible refine isBox ?_); first | (refine aBox (fun n_ l_ hl_ => ?_); dsimp only [sS, sZ] at hl_; subst hl_)) | ((with_reducible refine isAlloc ?_); first | (refine aAl (fun n_ l_ hl_ => ?_); dsimp only [sS, sZ] at hl_; subst hl_)) | refine aV ?_ | refine aNo ?_ | refine aNo' ?_ | ((fail_if_success (refine aIsT ?_)); (fail_if_success (refine aIsF ?_)); refine seqS_guard rfl rfl rfl (fun l_ hl_ h_ => ?_) (fun l_ hl_ h_ => ?_) <;> (dsimp only [sS, sZ] at hl_; subst hl_; (try (simp only [beq_iff_eq, bne_iff_ne, beq_eq_false_iff_ne, bne_eq_false_iff_eq, ne_eq, decide_eq_true_eq, decide_eq_false_iff_not, Bool.and_eq_true, Bool.or_eq_true, Bool.and_eq_false_iff, Bool.or_eq_false_iff, Bool.not_eq_true', Bool.not_eq_false', Bool.false_eq_true, Bool.true_eq_false, reduceCtorEq] at h_)); (try (first | (with_reducible contradiction) | (exfalso; omega)))))) | ((with_reducible refine isWp ?_); first | (refine wpS_seq (fun K_ hK_ => ?_)) | (refine wpS_region ?_) | (refine wpS_cond rfl (fun h_ => ?_) (fun h_ => ?_) <;> (try (simp only [beq_iff_eq, bne_iff_ne, beq_eq_false_iff_ne, bne_eq_false_iff_eq, ne_eq, decide_eq_true_eq, decide_eq_false_iff_not, Bool.and_eq_true, Bool.or_eq_true, Bool.and_eq_false_iff, Bool.or_eq_false_iff, Bool.false_eq_true, Bool.true_eq_false, reduceCtorEq] at h_)) <;> (try (first | (with_reducible contradiction) | (exfalso; omega)))) | (refine wpS_block ?_) | (refine wpS_ret ?_; (try simp only [thenS, blockS])) | (refine wpS_exit ?_; simp only [thenS, blockS, ↓reduceIte, Nat.reduceEqDiff]) | (refine wpS_skip ?_; (try simp only [thenS, blockS]))) | (refine useK (by with_reducible assumption) ?_)))
        (first | refine r1_ Try.results4 (fun w_ hs_ => ?_) | refine r2_ Try.results4 (fun w_ hs_ => ?_) | refine r3_ Try.results4 (fun w_ hs_ => ?_) | refine retS0 Try.results4 (fun w_ hs_ => ?_) | refine retN0 Try.results4 (fun w_ hs_ => ?_))
        exact ⟨rfl, hs_.mod⟩
      · rw [hrt] at HR he
        rw [he.out] at HE
        have HP : Hid (∀ w', Calls Try.prog 20 #[.string (strOf (ntBytes n))] w' fun e w'' => e = .returned (.tuple #[nv n, .int .i64 0]) ∧ Mod [] w' w'') := Lib.hid fun w' => by
          have := ntParse_any (ntBytes n) (by rw [ntBytes_len]; have := (ntRight_iff.1 hrt).2.2; omega) w'
          rwa [ntParse_enc hrt hw] at this
        have HF := Lib.hid (fun w' => refNtEncode_any n hrt hw w')
        simp only [if_true] at HE
        generalize strOf (ntBytes n) = B at HE HP HF
        (refine enterS ([]) (Sep.start _ []) Try.func4 rfl ?_; simp only [Try.ntmps4, List.size_toArray, List.length_cons, List.length_nil, Nat.reduceAdd, Nat.reduceSub, Array.replicate_succ, Array.replicate_zero, List.push_toArray, List.append_toArray, List.nil_append, List.cons_append])
        (repeat' (first | ((with_reducible refine isOps ?_); first | (refine seqS_nil ?_; (try simp only [thenS, blockS])) | ((with_reducible refine isBinAt .eql 33 ?_); refine aVh (opv_bin rfl rfl (fun w_ hs_ => eqNtcV _ _ _ _)) ?_) | ((with_reducible refine isBinAt .neq 33 ?_); refine aVh (opv_bin rfl rfl (fun w_ hs_ => neqNtcV _ _ _ _)) ?_) | ((first | ((with_reducible refine isCallF ?_); refine aCF ?_) | ((with_reducible refine isCallV ?_); refine aCV ?_)); first | refine cS0 (fun w_ hs_ => HE.out _) ?_ | refine cS0 (fun w_ hs_ => HX.out _) ?_ | refine cS0 (fun w_ hs_ => HK.out _) ?_ | refine cS0 (fun w_ hs_ => HK2.out _) ?_ | refine cS0 (fun w_ hs_ => HR.out _) ?_ | refine cS0 (fun w_ hs_ => HP.out _) ?_ | refine cS0 (fun w_ hs_ => HF.out _) ?_ | refine cS0 (fun w_ hs_ => awake07_any _) ?_) | ((with_reducible refine isStore ?_); first | refine aSt ?_) | ((with_reducible refine isBox ?_); first | (refine aBox (fun n_ l_ hl_ => ?_); dsimp only [sS, sZ] at hl_; subst hl_)) | ((with_reducible refine isAlloc ?_); first | (refine aAl (fun n_ l_ hl_ => ?_); dsimp only [sS, sZ] at hl_; subst hl_)) | refine aV ?_ | refine aNo ?_ | refine aNo' ?_ | ((fail_if_success (refine aIsT ?_)); (fail_if_success (refine aIsF ?_)); refine seqS_guard rfl rfl rfl (fun l_ hl_ h_ => ?_) (fun l_ hl_ h_ => ?_) <;> (dsimp only [sS, sZ] at hl_; subst hl_; (try (simp only [beq_iff_eq, bne_iff_ne, beq_eq_false_iff_ne, bne_eq_false_iff_eq, ne_eq, decide_eq_true_eq, decide_eq_false_iff_not, Bool.and_eq_true, Bool.or_eq_true, Bool.and_eq_false_iff, Bool.or_eq_false_iff, Bool.not_eq_true', Bool.not_eq_false', Bool.false_eq_true, Bool.true_eq_false, reduceCtorEq] at h_)); (try (first | (with_reducible contradiction) | (exfalso; omega)))))) | ((with_reducible refine isWp ?_); first | (refine wpS_seq (fun K_ hK_ => ?_)) | (refine wpS_region ?_) | (refine wpS_cond rfl (fun h_ => ?_) (fun h_ => ?_) <;> (try (simp only [beq_iff_eq, bne_iff_ne, beq_eq_false_iff_ne, bne_eq_false_iff_eq, ne_eq, decide_eq_true_eq, decide_eq_false_iff_not, Bool.and_eq_true, Bool.or_eq_true, Bool.and_eq_false_iff, Bool.or_eq_false_iff, Bool.false_eq_true, Bool.true_eq_false, reduceCtorEq] at h_)) <;> (try (first | (with_reducible contradiction) | (exfalso; omega)))) | (refine wpS_block ?_) | (refine wpS_ret ?_; (try simp only [thenS, blockS])) | (refine wpS_exit ?_; simp only [thenS, blockS, ↓reduceIte, Nat.reduceEqDiff]) | (refine wpS_skip ?_; (try simp only [thenS, blockS]))) | (refine useK (by with_reducible assumption) ?_)))
        (first | refine r1_ Try.results4 (fun w_ hs_ => ?_) | refine r2_ Try.results4 (fun w_ hs_ => ?_) | refine r3_ Try.results4 (fun w_ hs_ => ?_) | refine retS0 Try.results4 (fun w_ hs_ => ?_) | refine retN0 Try.results4 (fun w_ hs_ => ?_))
        exact ⟨rfl, hs_.mod⟩
namespace noticeEncodes
open Go.ChangeShapes Go.WideShapes Go.ChangeAt Go.RowKit
open Go.ChangeMaps (open_string shut_string)
theorem own : ownKnob Try.prog.godebug = none := by kernel_rfl
theorem laidOut : laidOutB Try.prog = true := by kernel_rfl
set_option maxRecDepth 100000 in
theorem lifted (os : Os) (started : os.Started) (H : Type) (enc : TypeId × Value → H) :
    ReturnsInHanded {} Try.checked os 4 .any (Rows.noticeEncodesSpec.pre6 enc Try.prog Try.f4 Rows.noticeEncodesRow.domain false) (Rows.noticeEncodesSpec.post enc Try.prog Try.f4 false true false false) := by
  refine returnsInHanded_of_change_sized (C := Try.checked) own started (by kernel_rfl) Try.func4
    (ChangeSpec.witness6 (enc := enc) (C := Try.checked) false ⟨#[], #[.agg #[.int .i64 0, .int .i64 0, .int .u32 0, .string ByteArray.empty]], []⟩ 8 (by kernel_rfl) (by kernel_rfl) (by kernel_rfl) (by kernel_rfl)) ?_
  intro W base args ds gs before hval0 hW hcnd hsz0 _
  have hsz : (DataW.weightsEach Try.prog (Try.f4.params.toList ++ Rows.noticeEncodesSpec.plain.varTypes Try.prog) (ds ++ gs)).all (· ≤ reachBytes) = true := hsz0
  have hval : ∀ (j : Nat) t v, Try.f4.params[j]? = some t → args[j]? = some v → Value.okWide Try.prog W .any base t v := hval0
  have hW' := hW
  obtain ⟨p, q, hA0, hV, rfl, hfz, hnd⟩ := hW
  have hA : DataW.TrodAll enc Try.prog W 0 (fun _ => true) true Try.f4.params.toList args.toList ds p := hA0
  rw [Try.params4] at hA hval hsz
  obtain ⟨v0, vs0, d0, ds0, p0, q0, hargs, rfl, rfl, h0, r0⟩ := trodAll_cons hA
  obtain ⟨rfl, rfl, rfl⟩ := trodAll_nil r0
  obtain rfl : args = #[v0] := by cases args; simp_all
  obtain ⟨rfl, rfl⟩ := trodVars_none hV
  have hv0 := (hval 0 33 v0 rfl rfl)
  have k0 := h0
  have lt0 : ∀ x ∈ p0, x.block < W.heap.size := by obtain ⟨m, hm⟩ := k0; exact DataW.trod_lt m _ _ _ hm
  obtain ⟨fuel0, g0⟩ := h0
  obtain ⟨l0, rfl, o0⟩ := open_ntc hv0 g0
  clear hA0 hval0 hsz0
  refine (ntEncodes_any l0 o0.word o0.data W).mono fun e W' ⟨he, mod⟩ => ?_
  have bel : Below W.heap.size W W' := mod.below (Nat.le_refl _) (by simp)
  subst he
  exact ⟨_, rfl, _, _, _, [], _, [], hW', trodAll_mk1 (shut_bool Try.underlying4 _), (trodAll_cons_mk (Below.trod laidOut (by kernel_rfl) (of_decide_eq_true (by kernel_rfl)) k0 bel lt0) trodAll_mk0), rfl, bel.frame _, fun h => by cases h⟩
theorem over : Rows.noticeEncodesRow.holds Try.pinned (OpenSpec.ofChange Rows.noticeEncodesSpec) :=
  OpenClaim.holds_of_wide 4 Try.f4 rfl rfl rfl rfl rfl rfl rfl ⟨rfl, rfl, rfl, rfl, rfl⟩ rfl rfl rfl rfl rfl (by kernel_rfl) Try.func4 (by kernel_rfl)
    (of_decide_eq_true (by kernel_rfl)) (by unfold Func.isWrapper; first | (rw [if_pos (by decide +kernel)]; kernel_rfl) | (rw [if_neg (by decide +kernel)]; exact ⟨rfl, rfl⟩))
    (fun os started H enc _ => lifted os started H enc)
theorem proved : Rows.NoticeEncodesSaid := over
#print axioms proved
end noticeEncodes
/-- The row, under a short name, for the claim. -/
theorem noticeEncodes_holds : Rows.NoticeEncodesSaid := noticeEncodes.proved
end Go.Proofs.Ytodhhnljeojpaaa

