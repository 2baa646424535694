/- Package segment: the ports; the document's example. -/
import Derived.Test.YtodhhnljeojpaaaSeg3
import Derived.Test.YtodhhnljeojpaaaOpen
import Derived.Test.YtodhhnljeojpaaaRdNum
set_option linter.unusedVariables false
set_option linter.unusedSimpArgs false
namespace Go.Proofs.Ytodhhnljeojpaaa
set_option maxRecDepth 8000
attribute [local irreducible] blk wpS seqS ordS OpVal RV endS LoadV StoreV Calls
open Go.RowKit
set_option maxHeartbeats 1000000 in
theorem Ports_ok (p : Int) (hp : p = 6 ∨ p = 17) (a b c d : UInt8) (l : List UInt8) (hl : 4 ≤ l.length ∧ l.length ≤ 100000) (w : World) :
    Calls Try.prog 13 #[.int .i64 p, .string (strOf (a :: b :: c :: d :: l))] w fun e w' => e = .returned (.tuple #[.int .i64 (sh a b), .int .i64 (sh c d), .bool true]) ∧ Mod [] w w' := by
  have hsz : ((strOf (a :: b :: c :: d :: l)).size : Int) = l.length + 4 := by rw [strOf_size]; simp; omega
  have hsz2 : (strOf (a :: b :: c :: d :: l)).size ≤ 140737488351232 := by omega
  rcases hp with rfl | rfl
  all_goals
    (refine enterS ([]) (Sep.start _ []) Try.func13 rfl ?_; simp only [Try.ntmps13, List.size_toArray, List.length_cons, List.length_nil, Nat.reduceAdd, Nat.reduceSub, Array.replicate_succ, Array.replicate_zero, List.push_toArray, List.append_toArray, List.nil_append, List.cons_append])
    (repeat' (first | ((with_reducible refine isOps ?_); first | (refine seqS_nil ?_; (try simp only [thenS, blockS])) | ((first | ((with_reducible refine isCallF ?_); refine aCF ?_) | ((with_reducible refine isCallV ?_); refine aCV ?_)); first | (refine callS_N (fun w_ hs_ => Read_R _ hsz2) (fun i_ l_ hl_ => ?_); dsimp only [sS, sZ] at hl_; subst hl_) | refine cSU (hc := fun w_ hs_ hr_ => rShort_list hr_) (h := ?_)) | refine aV ?_ | refine aNo ?_ | refine aNo' ?_ | ((fail_if_success (refine aIsT ?_)); (fail_if_success (refine aIsF ?_)); refine seqS_guard rfl rfl rfl (fun l_ hl_ h_ => ?_) (fun l_ hl_ h_ => ?_) <;> (dsimp only [sS, sZ] at hl_; subst hl_; (try (simp only [beq_iff_eq, bne_iff_ne, beq_eq_false_iff_ne, bne_eq_false_iff_eq, ne_eq, decide_eq_true_eq, decide_eq_false_iff_not, Bool.and_eq_true, Bool.or_eq_true, Bool.and_eq_false_iff, Bool.or_eq_false_iff, Bool.not_eq_true', Bool.not_eq_false', Bool.false_eq_true, Bool.true_eq_false, reduceCtorEq] at h_)); (try (first | (with_reducible contradiction) | (exfalso; omega)))))) | ((with_reducible refine isWp ?_); first | (refine wpS_seq (fun K_ hK_ => ?_)) | (refine wpS_region ?_) | (refine wpS_cond rfl (fun h_ => ?_) (fun h_ => ?_) <;> (try (simp only [beq_iff_eq, bne_iff_ne, beq_eq_false_iff_ne, bne_eq_false_iff_eq, ne_eq, decide_eq_true_eq, decide_eq_false_iff_not, Bool.and_eq_true, Bool.or_eq_true, Bool.and_eq_false_iff, Bool.or_eq_false_iff, Bool.false_eq_true, Bool.true_eq_false, reduceCtorEq] at h_)) <;> (try (first | (with_reducible contradiction) | (exfalso; omega)))) | (refine wpS_block ?_) | (refine wpS_ret ?_; (try simp only [thenS, blockS])) | (refine wpS_exit ?_; simp only [thenS, blockS, ↓reduceIte, Nat.reduceEqDiff]) | (refine wpS_skip ?_; (try simp only [thenS, blockS]))) | (refine useK (by with_reducible assumption) ?_)))
    (first | refine r1_ Try.results13 (fun w_ hs_ => ?_) | refine r2_ Try.results13 (fun w_ hs_ => ?_) | refine r3_ Try.results13 (fun w_ hs_ => ?_) | refine retS0 Try.results13 (fun w_ hs_ => ?_) | refine retN0 Try.results13 (fun w_ hs_ => ?_))
    exact ⟨rfl, hs_.mod⟩
set_option maxHeartbeats 1000000 in
theorem Ports_no (p : Int) (s : ByteArray) (h : ¬ (p = 6 ∨ p = 17) ∨ s.size < 8) (w : World) :
    Calls Try.prog 13 #[.int .i64 p, .string s] w fun e w' => e = .returned (.tuple #[.int .i64 0, .int .i64 0, .bool false]) ∧ Mod [] w w' := by
  by_cases h6 : p = 6 <;> by_cases h17 : p = 17 <;> by_cases h8 : s.size < 8
  all_goals
    first
      | (exfalso; omega)
      | ((refine enterS ([]) (Sep.start _ []) Try.func13 rfl ?_; simp only [Try.ntmps13, List.size_toArray, List.length_cons, List.length_nil, Nat.reduceAdd, Nat.reduceSub, Array.replicate_succ, Array.replicate_zero, List.push_toArray, List.append_toArray, List.nil_append, List.cons_append])
         (repeat' (first | ((with_reducible refine isOps ?_); first | (refine seqS_nil ?_; (try simp only [thenS, blockS])) | refine aV ?_ | refine aNo ?_ | refine aNo' ?_ | ((fail_if_success (refine aIsT ?_)); (fail_if_success (refine aIsF ?_)); refine seqS_guard rfl rfl rfl (fun l_ hl_ h_ => ?_) (fun l_ hl_ h_ => ?_) <;> (dsimp only [sS, sZ] at hl_; subst hl_; (try (simp only [beq_iff_eq, bne_iff_ne, beq_eq_false_iff_ne, bne_eq_false_iff_eq, ne_eq, decide_eq_true_eq, decide_eq_false_iff_not, Bool.and_eq_true, Bool.or_eq_true, Bool.and_eq_false_iff, Bool.or_eq_false_iff, Bool.not_eq_true', Bool.not_eq_false', Bool.false_eq_true, Bool.true_eq_false, reduceCtorEq] at h_)); (try (first | (with_reducible contradiction) | (exfalso; omega)))))) | ((with_reducible refine isWp ?_); first | (refine wpS_seq (fun K_ hK_ => ?_)) | (refine wpS_region ?_) | (refine wpS_cond rfl (fun h_ => ?_) (fun h_ => ?_) <;> (try (simp only [beq_iff_eq, bne_iff_ne, beq_eq_false_iff_ne, bne_eq_false_iff_eq, ne_eq, decide_eq_true_eq, decide_eq_false_iff_not, Bool.and_eq_true, Bool.or_eq_true, Bool.and_eq_false_iff, Bool.or_eq_false_iff, Bool.false_eq_true, Bool.true_eq_false, reduceCtorEq] at h_)) <;> (try (first | (with_reducible contradiction) | (exfalso; omega)))) | (refine wpS_block ?_) | (refine wpS_ret ?_; (try simp only [thenS, blockS])) | (refine wpS_exit ?_; simp only [thenS, blockS, ↓reduceIte, Nat.reduceEqDiff]) | (refine wpS_skip ?_; (try simp only [thenS, blockS]))) | (refine useK (by with_reducible assumption) ?_)))
         all_goals
           (first | refine r1_ Try.results13 (fun w_ hs_ => ?_) | refine r2_ Try.results13 (fun w_ hs_ => ?_) | refine r3_ Try.results13 (fun w_ hs_ => ?_) | refine retS0 Try.results13 (fun w_ hs_ => ?_) | refine retN0 Try.results13 (fun w_ hs_ => ?_))
           exact ⟨rfl, hs_.mod⟩)
theorem segBytes_front (p src dst : Int) (s : Seg) : ∃ r, segBytes p src dst s = b8 (s.sp / 256) :: b8 s.sp :: b8 (s.dp / 256) :: b8 s.dp :: r := by
  unfold segBytes segB segBody segAt
  split
  · rw [strOf_extract, udpBody]
    simp only [List.flatMap_cons, nbs2, List.cons_append, List.nil_append, List.drop_zero, Nat.sub_zero, List.take_succ_cons, strOf_data]
    exact ⟨_, rfl⟩
  · rw [strOf_extract, tcpBody]
    simp only [List.flatMap_cons, nbs2, List.cons_append, List.nil_append, List.drop_zero, Nat.sub_zero, List.take_succ_cons, strOf_data]
    exact ⟨_, rfl⟩
theorem segBody_size {p : Int} {s : Seg} (h : segRight p s = true) (hw : segWf s) : segAt p + 2 ≤ (segBody p s).size ∧ 8 ≤ (segBody p s).size ∧ (segBody p s).size ≤ 65535 := by
  have := (segRight_fits h hw).2.2.2.2.2.2
  unfold segBody segAt
  split
  · rw [strOf_size, udpBody_len]; omega
  · rw [strOf_size, tcpBody_len]; omega
theorem segBytes_len {p src dst : Int} {s : Seg} (h : segRight p s = true) (hw : segWf s) : (segBytes p src dst s).length = (segBody p s).size := segB_len _ _ _ (segBody_size h hw).1
def exTcp : Seg := ⟨0, 0, 0, 0, 2, 0, ⟨#[]⟩⟩
def exUdp : Seg := ⟨0, 0, 0, 0, 0, 0, ⟨#[97, 98]⟩⟩
set_option maxHeartbeats 1000000 in
theorem awake06_any (w : World) : Calls Try.prog 11 #[] w fun e w' => e = .returned (.bool true) ∧ Mod [] w w' := by
  have hw1 : segWf exTcp := by unfold segWf exTcp; decide
  have hw2 : segWf exUdp := by unfold segWf exUdp; decide
  have hr1 : segRight 6 exTcp = true := by decide +kernel
  have hr2 : segRight 17 exUdp = true := by decide +kernel
  have h1 : Hid (∀ w', Calls Try.prog 12 #[.int .i64 6, .int .u32 1, .int .u32 2, sv exTcp] w' fun e w'' => e = .returned (.tuple #[.string (strOf (segBytes 6 1 2 exTcp)), .int .i64 0]) ∧ Mod [] w' w'') := Lib.hid fun w' => by
    have := segEncode_any 6 1 2 exTcp (by decide) (by decide) hw1 w'
    rwa [show segEnc 6 1 2 exTcp = (strOf (segBytes 6 1 2 exTcp), 0) from if_pos hr1] at this
  have h2 : Hid (∀ w', Calls Try.prog 12 #[.int .i64 17, .int .u32 1, .int .u32 2, sv exUdp] w' fun e w'' => e = .returned (.tuple #[.string (strOf (segBytes 17 1 2 exUdp)), .int .i64 0]) ∧ Mod [] w' w'') := Lib.hid fun w' => by
    have := segEncode_any 17 1 2 exUdp (by decide) (by decide) hw2 w'
    rwa [show segEnc 17 1 2 exUdp = (strOf (segBytes 17 1 2 exUdp), 0) from if_pos hr2] at this
  have e1 : (strOf (segBytes 6 1 2 exTcp)).size = 20 := by
    rw [strOf_size, segBytes_len hr1 hw1, show segBody 6 exTcp = strOf (tcpBody exTcp) from if_neg (by decide), strOf_size, tcpBody_len]; rfl
  have e2 : (strOf (segBytes 17 1 2 exUdp)).size = 10 := by
    rw [strOf_size, segBytes_len hr2 hw2, show segBody 17 exUdp = strOf (udpBody exUdp) from if_pos rfl, strOf_size, udpBody_len]; rfl
  generalize strOf (segBytes 6 1 2 exTcp) = x1 at h1 e1
  generalize strOf (segBytes 17 1 2 exUdp) = x2 at h2 e2
  (refine enterS ([]) (Sep.start _ []) Try.func11 rfl ?_; simp only [Try.ntmps11, List.size_toArray, List.length_cons, List.length_nil, Nat.reduceAdd, Nat.reduceSub, Array.replicate_succ, Array.replicate_zero, List.push_toArray, List.append_toArray, List.nil_append, List.cons_append])
  (repeat' (first | ((with_reducible refine isOps ?_); first | (refine seqS_nil ?_; (try simp only [thenS, blockS])) | ((first | ((with_reducible refine isCallF ?_); refine aCF ?_) | ((with_reducible refine isCallV ?_); refine aCV ?_)); first | refine cS0 (fun w_ hs_ => h1.out _) ?_ | refine cS0 (fun w_ hs_ => h2.out _) ?_) | refine aV ?_ | refine aNo ?_ | refine aNo' ?_ | ((fail_if_success (refine aIsT ?_)); (fail_if_success (refine aIsF ?_)); refine seqS_guard rfl rfl rfl (fun l_ hl_ h_ => ?_) (fun l_ hl_ h_ => ?_) <;> (dsimp only [sS, sZ] at hl_; subst hl_; (try (simp only [beq_iff_eq, bne_iff_ne, beq_eq_false_iff_ne, bne_eq_false_iff_eq, ne_eq, decide_eq_true_eq, decide_eq_false_iff_not, Bool.and_eq_true, Bool.or_eq_true, Bool.and_eq_false_iff, Bool.or_eq_false_iff, Bool.not_eq_true', Bool.not_eq_false', Bool.false_eq_true, Bool.true_eq_false, reduceCtorEq] at h_)); (try (first | (with_reducible contradiction) | (exfalso; omega)))))) | ((with_reducible refine isWp ?_); first | (refine wpS_seq (fun K_ hK_ => ?_)) | (refine wpS_region ?_) | (refine wpS_cond rfl (fun h_ => ?_) (fun h_ => ?_) <;> (try (simp only [beq_iff_eq, bne_iff_ne, beq_eq_false_iff_ne, bne_eq_false_iff_eq, ne_eq, decide_eq_true_eq, decide_eq_false_iff_not, Bool.and_eq_true, Bool.or_eq_true, Bool.and_eq_false_iff, Bool.or_eq_false_iff, Bool.false_eq_true, Bool.true_eq_false, reduceCtorEq] at h_)) <;> (try (first | (with_reducible contradiction) | (exfalso; omega)))) | (refine wpS_block ?_) | (refine wpS_ret ?_; (try simp only [thenS, blockS])) | (refine wpS_exit ?_; simp only [thenS, blockS, ↓reduceIte, Nat.reduceEqDiff]) | (refine wpS_skip ?_; (try simp only [thenS, blockS]))) | (refine useK (by with_reducible assumption) ?_)))
  (first | refine r1_ Try.results11 (fun w_ hs_ => ?_) | refine r2_ Try.results11 (fun w_ hs_ => ?_) | refine r3_ Try.results11 (fun w_ hs_ => ?_) | refine retS0 Try.results11 (fun w_ hs_ => ?_) | refine retN0 Try.results11 (fun w_ hs_ => ?_))
  exact ⟨rfl, hs_.mod⟩
theorem open_segF {H : Type} {enc : TypeId × Value → H} {w : World} (n : Nat) (cs : List Value) (y : DataW H × List MemPlace) (hl : cs.length = 7)
    (h : DataW.trod enc Try.prog w 0 (fun _ => true) true n 24 cs = some y) : ∃ s : Seg, cs = enSeg s ∧ segWf s ∧ s.d.size ≤ maxLen := by
  obtain ⟨m, hf⟩ := open_fields Try.underlying24 (by kernel_rfl) hl h
  match cs, hl with
  | [c0, c1, c2, c3, c4, c5, c6], _ =>
    obtain ⟨v0, y0, e0, h0⟩ := hf 0 _ rfl
    obtain ⟨v1, y1, e1, h1⟩ := hf 1 _ rfl
    obtain ⟨v2, y2, e2, h2⟩ := hf 2 _ rfl
    obtain ⟨v3, y3, e3, h3⟩ := hf 3 _ rfl
    obtain ⟨v4, y4, e4, h4⟩ := hf 4 _ rfl
    obtain ⟨v5, y5, e5, h5⟩ := hf 5 _ rfl
    obtain ⟨v6, y6, e6, h6⟩ := hf 6 _ rfl
    obtain ⟨a0, q0, _, w0⟩ := DataW.trod_int Try.underlying3 h0
    obtain ⟨a1, q1, _, w1⟩ := DataW.trod_int Try.underlying3 h1
    obtain ⟨a2, q2, _, w2⟩ := DataW.trod_int Try.underlying22 h2
    obtain ⟨a3, q3, _, w3⟩ := DataW.trod_int Try.underlying22 h3
    obtain ⟨a4, q4, _, w4⟩ := DataW.trod_int Try.underlying3 h4
    obtain ⟨a5, q5, _, w5⟩ := DataW.trod_int Try.underlying3 h5
    obtain ⟨a6, q6, _, w6⟩ := DataW.trod_string Try.underlying9 h6
    simp at q0 q1 q2 q3 q4 q5 q6 e0 e1 e2 e3 e4 e5 e6
    subst q0; subst q1; subst q2; subst q3; subst q4; subst q5; subst q6
    subst e0; subst e1; subst e2; subst e3; subst e4; subst e5; subst e6
    exact ⟨⟨a0, a1, a2, a3, a4, a5, a6⟩, rfl, ⟨wf_u32 w2, wf_u32 w3, wf_i64 w0, wf_i64 w1, wf_i64 w4, wf_i64 w5⟩, w6⟩
theorem open_segv {H : Type} {enc : TypeId × Value → H} {w : World} {n : Nat} {v : Value} {y : DataW H × List MemPlace} {r : Reach} {b0 : Nat} (hv : Value.okWide Try.prog w r b0 24 v)
    (h : DataW.trod enc Try.prog w 0 (fun _ => true) true n 24 v.cells.toList = some y) : ∃ s : Seg, v = sv s ∧ segWf s ∧ s.d.size ≤ maxLen := by
  obtain ⟨cs, rfl, hc⟩ := Go.WideShapes.okWide_struct Try.underlying24 hv
  have hc7 : cs.size = 7 := hc.trans (by kernel_rfl)
  obtain ⟨s, hs, hw, hd⟩ := open_segF n cs.toList y (by simpa using hc7) (by simpa [Value.cells] using h)
  refine ⟨s, ?_, hw, hd⟩
  rw [show cs = (enSeg s).toArray from by rw [← hs]]
end Go.Proofs.Ytodhhnljeojpaaa
