/- Package origin: are there too many acts; the document's example. -/
import Derived.Test.YtmcaigmpcbkfpaaGreatMOrg5
import Derived.Test.YtmcaigmpcbkfpaaGreatMHdrE
import Derived.Test.YtmcaigmpcbkfpaaGreatOpt8
set_option linter.unusedVariables false
set_option linter.unusedSimpArgs false
namespace Go.Proofs.YtmcaigmpcbkfpaaGreat
set_option maxRecDepth 8000
attribute [local irreducible] blk wpS seqS ordS OpVal RV endS LoadV StoreV Calls
open Go.RowKit
set_option maxHeartbeats 2000000 in
theorem greatActs_any (v : Value) (l : List (OAct × Value)) (w : World) (hr : Structs enAct 16 w v l) (ho : ∀ x ∈ l, ActOk w x) :
    Calls Tryz.prog 6 #[v] w fun e w' => e = .returned (.bool (greatActs l)) ∧ Mod [] w w' := by
  have hll := hr.len
  obtain ⟨A, cap, rfl⟩ := hr.form
  (refine enterS ([]) (Sep.start _ []) Tryz.func6 rfl ?_; simp only [Tryz.ntmps6, List.size_toArray, List.length_cons, List.length_nil, Nat.reduceAdd, Nat.reduceSub, Array.replicate_succ, Array.replicate_zero, List.push_toArray, List.append_toArray, List.nil_append, List.cons_append])
  (repeat' (first | ((with_reducible refine isOps ?_); first | (refine seqS_nil ?_; (try simp only [thenS, blockS])) | refine aV ?_ | refine aNo ?_ | refine aNo' ?_ | ((fail_if_success (refine aIsT ?_)); (fail_if_success (refine aIsF ?_)); refine seqS_guard rfl rfl rfl (fun l_ hl_ h_ => ?_) (fun l_ hl_ h_ => ?_) <;> (dsimp only [sS, sZ] at hl_; subst hl_; (try (simp only [beq_iff_eq, bne_iff_ne, beq_eq_false_iff_ne, bne_eq_false_iff_eq, ne_eq, decide_eq_true_eq, decide_eq_false_iff_not, Bool.and_eq_true, Bool.or_eq_true, Bool.and_eq_false_iff, Bool.or_eq_false_iff, Bool.not_eq_true', Bool.not_eq_false', Bool.false_eq_true, Bool.true_eq_false, reduceCtorEq] at h_)); (try (first | (with_reducible contradiction) | (exfalso; omega)))))) | ((with_reducible refine isWp ?_); first | (refine wpS_seq (fun K_ hK_ => ?_)) | (refine wpS_region ?_) | (refine wpS_cond rfl (fun h_ => ?_) (fun h_ => ?_) <;> (try (simp only [beq_iff_eq, bne_iff_ne, beq_eq_false_iff_ne, bne_eq_false_iff_eq, ne_eq, decide_eq_true_eq, decide_eq_false_iff_not, Bool.and_eq_true, Bool.or_eq_true, Bool.and_eq_false_iff, Bool.or_eq_false_iff, Bool.false_eq_true, Bool.true_eq_false, reduceCtorEq] at h_)) <;> (try (first | (with_reducible contradiction) | (exfalso; omega)))) | (refine wpS_block ?_) | (refine wpS_ret ?_; (try simp only [thenS, blockS])) | (refine wpS_exit ?_; simp only [thenS, blockS, ↓reduceIte, Nat.reduceEqDiff]) | (refine wpS_skip ?_; (try simp only [thenS, blockS]))) | (refine useK (by with_reducible assumption) ?_)))
  ((with_reducible refine isLoop ?_); refine wpS_loopU [false, false, true, true, true, true, true, true, true, true, true, true, true, true, true, true, true, true, true, true, true, true, true, true, true, true, false, false, false] (fun u rs_ => ∃ k : Nat, k ≤ l.length ∧ u 3 = .int .i64 k ∧ (∀ j (hj : j < l.length), j < k → (great05 l[j].1.p || decide ((2000 : Int) < (l[j].1.p.data.size : Int))) = false) ∧ rs_ = []) (fun u => l.length - (intOf (u 3)).toNat) ?_ (fun u rs_ l_ K_ hN_ hl_ hR => ?_))
  · exact ⟨0, Nat.zero_le _, rfl, by simp, rfl⟩
  · (simp only [mask_t, mask_f, mask_n, Nat.reduceAdd] at hl_; subst hl_)
    obtain ⟨k, hk, hu, hb, rfl⟩ := hR
    rw [hu]
    replace hb := Lib.hid hb
    by_cases hlt : k < l.length
    · obtain ⟨b, off, rfl, -, HC, HD⟩ := act_at hr k hlt
      have HG : Hid (∀ w', Mod [] w w' → Calls Tryz.prog 21 #[pv l[k].1.p l[k].2] w' fun e w'' => e = .returned (.bool (great05 l[k].1.p)) ∧ Mod [] w' w'') := Lib.hid fun w' hm => great05_any _ _ w' ((ho _ (List.getElem_mem hlt)).opts.mod0 hm)
      have hbk : Hid ((great05 l[k].1.p || decide ((2000 : Int) < (l[k].1.p.data.size : Int))) = (great05 l[k].1.p || decide ((2000 : Int) < (l[k].1.p.data.size : Int)))) := Lib.hid rfl
      generalize hgk : (great05 l[k].1.p || decide ((2000 : Int) < (l[k].1.p.data.size : Int))) = B at hbk
      replace hgk := Lib.hid hgk
      clear hbk
      rcases hG : great05 l[k].1.p with _ | _
      all_goals
        rw [hG] at HG
        (repeat' (first | ((with_reducible refine isOps ?_); first | (refine seqS_nil ?_; (try simp only [thenS, blockS])) | ((first | ((with_reducible refine isCallF ?_); refine aCF ?_) | ((with_reducible refine isCallV ?_); refine aCV ?_)); first | refine cS0 (fun w_ hs_ => HG.out _ hs_.mod) ?_) | refine aVh (opv_bin rfl rfl (fun w_ hs_ => by (first | exact HC.out _ hs_.mod | exact HD.out _ hs_.mod))) ?_ | refine aV ?_ | refine aVh (opv_loadO rfl (fun w_ hs_ => by (first | exact HC.out _ hs_.mod | exact HD.out _ hs_.mod))) ?_ | refine aNo ?_ | refine aNo' ?_ | ((fail_if_success (refine aIsT ?_)); (fail_if_success (refine aIsF ?_)); refine seqS_guard rfl rfl rfl (fun l_ hl_ h_ => ?_) (fun l_ hl_ h_ => ?_) <;> (dsimp only [sS, sZ] at hl_; subst hl_; (try (simp only [beq_iff_eq, bne_iff_ne, beq_eq_false_iff_ne, bne_eq_false_iff_eq, ne_eq, decide_eq_true_eq, decide_eq_false_iff_not, Bool.and_eq_true, Bool.or_eq_true, Bool.and_eq_false_iff, Bool.or_eq_false_iff, Bool.not_eq_true', Bool.not_eq_false', Bool.false_eq_true, Bool.true_eq_false, reduceCtorEq] at h_)); (try (first | (with_reducible contradiction) | (exfalso; omega)))))) | ((with_reducible refine isWp ?_); first | (refine wpS_seq (fun K_ hK_ => ?_)) | (refine wpS_region ?_) | (refine wpS_cond rfl (fun h_ => ?_) (fun h_ => ?_) <;> (try (simp only [beq_iff_eq, bne_iff_ne, beq_eq_false_iff_ne, bne_eq_false_iff_eq, ne_eq, decide_eq_true_eq, decide_eq_false_iff_not, Bool.and_eq_true, Bool.or_eq_true, Bool.and_eq_false_iff, Bool.or_eq_false_iff, Bool.false_eq_true, Bool.true_eq_false, reduceCtorEq] at h_)) <;> (try (first | (with_reducible contradiction) | (exfalso; omega)))) | (refine wpS_block ?_) | (refine wpS_ret ?_; (try simp only [thenS, blockS])) | (refine wpS_exit ?_; simp only [thenS, blockS, ↓reduceIte, Nat.reduceEqDiff]) | (refine wpS_skip ?_; (try simp only [thenS, blockS]))) | (refine useK (by with_reducible assumption) ?_)))
        all_goals
          first
            | ((first | refine r1_ Tryz.results6 (fun w_ hs_ => ?_) | refine r2_ Tryz.results6 (fun w_ hs_ => ?_) | refine r3_ Tryz.results6 (fun w_ hs_ => ?_) | refine retS0 Tryz.results6 (fun w_ hs_ => ?_) | refine retN0 Tryz.results6 (fun w_ hs_ => ?_))
               refine ⟨?_, hs_.mod⟩
               have : greatActs l = true := by
                 unfold greatActs
                 rw [List.any_eq_true.2 ⟨l[k], List.getElem_mem hlt, by rw [hG]; simp; try omega⟩]; rfl
               rw [this])
            | ((refine hN_ _ ([]) _ rfl ?_ (by first | ((repeat (first | exact List.Sublist.refl _ | exact List.nil_sublist _ | apply List.Sublist.cons_cons | apply List.Sublist.cons)); done) | fail) ?_ <;> dsimp only [List.getD_cons_succ, List.getD_cons_zero])
               · refine ⟨k + 1, by omega, by go_num, fun j hj hjk => ?_, rfl⟩
                 by_cases e : j = k
                 · subst e; rw [hG]; simp; omega
                 · exact hb.out j hj (by omega)
               · rw [hu]; simp [intOf]; omega)
    · (repeat' (first | ((with_reducible refine isOps ?_); first | (refine seqS_nil ?_; (try simp only [thenS, blockS])) | refine aV ?_ | refine aNo ?_ | refine aNo' ?_ | ((fail_if_success (refine aIsT ?_)); (fail_if_success (refine aIsF ?_)); refine seqS_guard rfl rfl rfl (fun l_ hl_ h_ => ?_) (fun l_ hl_ h_ => ?_) <;> (dsimp only [sS, sZ] at hl_; subst hl_; (try (simp only [beq_iff_eq, bne_iff_ne, beq_eq_false_iff_ne, bne_eq_false_iff_eq, ne_eq, decide_eq_true_eq, decide_eq_false_iff_not, Bool.and_eq_true, Bool.or_eq_true, Bool.and_eq_false_iff, Bool.or_eq_false_iff, Bool.not_eq_true', Bool.not_eq_false', Bool.false_eq_true, Bool.true_eq_false, reduceCtorEq] at h_)); (try (first | (with_reducible contradiction) | (exfalso; omega)))))) | ((with_reducible refine isWp ?_); first | (refine wpS_seq (fun K_ hK_ => ?_)) | (refine wpS_region ?_) | (refine wpS_cond rfl (fun h_ => ?_) (fun h_ => ?_) <;> (try (simp only [beq_iff_eq, bne_iff_ne, beq_eq_false_iff_ne, bne_eq_false_iff_eq, ne_eq, decide_eq_true_eq, decide_eq_false_iff_not, Bool.and_eq_true, Bool.or_eq_true, Bool.and_eq_false_iff, Bool.or_eq_false_iff, Bool.false_eq_true, Bool.true_eq_false, reduceCtorEq] at h_)) <;> (try (first | (with_reducible contradiction) | (exfalso; omega)))) | (refine wpS_block ?_) | (refine wpS_ret ?_; (try simp only [thenS, blockS])) | (refine wpS_exit ?_; simp only [thenS, blockS, ↓reduceIte, Nat.reduceEqDiff]) | (refine wpS_skip ?_; (try simp only [thenS, blockS]))) | (refine useK (by with_reducible assumption) ?_)))
      (first | refine r1_ Tryz.results6 (fun w_ hs_ => ?_) | refine r2_ Tryz.results6 (fun w_ hs_ => ?_) | refine r3_ Tryz.results6 (fun w_ hs_ => ?_) | refine retS0 Tryz.results6 (fun w_ hs_ => ?_) | refine retN0 Tryz.results6 (fun w_ hs_ => ?_))
      refine ⟨?_, hs_.mod⟩
      have h1 : (l.any fun x => great05 x.1.p || decide ((2000 : Int) < (x.1.p.data.size : Int))) = false := by
        rw [List.any_eq_false]
        intro o ho
        obtain ⟨j, hj, rfl⟩ := List.getElem_of_mem ho
        have := hb.out j hj (by omega)
        rw [this]; decide
      have h2 : decide (60 < (l.length : Int)) = decide (60 < l.length) := by rw [Bool.eq_iff_iff]; simp; omega
      unfold greatActs
      rw [h1, Bool.false_or, ← h2]
def exAbout : Pkt := ⟨0, 0, false, false, 0, 1, 17, 167772162, 167837698, [], ⟨#[49, 50, 51, 52, 53, 54, 55, 56]⟩⟩
set_option maxHeartbeats 4000000 in
theorem awake25_any (w : World) : Calls Tryz.prog 7 #[] w fun e w' => e = .returned (.bool true) ∧ Mod [] w w' := by
  have hr : pkRight exAbout = true := by decide +kernel
  have hm : mayOf exAbout = true := by decide +kernel
  obtain ⟨m, hM⟩ : ∃ m, faultMsg 11 0 0 exAbout = .inl m := ⟨_, by unfold faultMsg; rw [if_pos (by decide), if_pos ⟨hr, hm⟩]⟩
  have hF1 : faultOf 1 0 167772161 11 0 0 exAbout = ⟨0, 1, saidPkt 0 167772161 167772162 m, 0⟩ := by unfold faultOf; rw [hM]; rfl
  have hF2 : faultOf 0 1 167772161 11 0 0 exAbout = ⟨0, 1, noPkt, 9⟩ := by unfold faultOf; rw [hM]; rfl
  have F1 : Hid (∀ P w', (og P 1 1 0).holds w' → Calls Tryz.prog 13 #[ptr0 P, .int .u32 167772161, .int .i64 11, .int .i64 0, .int .u32 0, pv exAbout nilS] w' fun e w'' =>
    e = .returned (.tuple #[pv (saidPkt 0 167772161 167772162 m) nilS, .int .i64 0]) ∧ (og P 0 1 1).holds w'' ∧ Mod (og P 1 1 0).foot w' w'') := Lib.hid fun P w' h => by
    have := fault_any (P := P) (room := 1) (w := w') 167772161 11 0 0 exAbout nilS (fun _ _ => Structs.nil _ _ _) (by decide) (by decide) (by decide) (by decide) (by decide) (by decide) h
    rwa [hF1] at this
  have F2 : Hid (∀ P w', (og P 0 1 1).holds w' → Calls Tryz.prog 13 #[ptr0 P, .int .u32 167772161, .int .i64 11, .int .i64 0, .int .u32 0, pv exAbout nilS] w' fun e w'' =>
    e = .returned (.tuple #[pv noPkt nilS, .int .i64 9]) ∧ (og P 0 1 1).holds w'' ∧ Mod (og P 0 1 1).foot w' w'') := Lib.hid fun P w' h => by
    have := fault_any (P := P) (room := 1) (w := w') 167772161 11 0 0 exAbout nilS (fun _ _ => Structs.nil _ _ _) (by decide) (by decide) (by decide) (by decide) (by decide) (by decide) h
    rwa [hF2] at this
  have T1 : Hid (∀ P w', (og P 0 1 1).holds w' → Calls Tryz.prog 17 #[ptr0 P] w' fun e w'' => e = .returned (.tuple #[]) ∧ (og P 1 1 1).holds w'' ∧ Mod (og P 0 1 1).foot w' w'') := Lib.hid fun P w' h => oTick_any (by decide) h
  have N1 : Hid (∀ w', Calls Tryz.prog 8 #[.agg #[.int .i64 0, .int .i64 0, .int .i64 0, .int .i64 0, .int .i64 0, .int .i64 1, .int .i64 0, .int .i64 0, .int .i64 0]] w' (Makes (fun P => ptr0 P) (fun P => og P 1 1 0) w')) := Lib.hid fun w' => by
    have := oNew_any 1 w'
    rwa [show (if (1 : Int) < 0 then (0 : Int) else 1) = 1 from rfl] at this
  have hx : exAbout.data = ⟨#[49, 50, 51, 52, 53, 54, 55, 56]⟩ := rfl
  clear hM hF1 hF2 hr hm
  unfold saidPkt at F1
  generalize strOf (ntBytes m) = B at F1
  unfold exAbout at F1 F2
  clear hx
  (refine enterS ([]) (Sep.start _ []) Tryz.func7 rfl ?_; simp only [Tryz.ntmps7, List.size_toArray, List.length_cons, List.length_nil, Nat.reduceAdd, Nat.reduceSub, Array.replicate_succ, Array.replicate_zero, List.push_toArray, List.append_toArray, List.nil_append, List.cons_append])
  (repeat' (first | ((with_reducible refine isOps ?_); first | (refine seqS_nil ?_; (try simp only [thenS, blockS])) | ((first | ((with_reducible refine isCallF ?_); refine aCF ?_) | ((with_reducible refine isCallV ?_); refine aCV ?_)); first | (refine callS_N (fun w_ hs_ => N1.out _) (fun i_ l_ hl_ => ?_); dsimp only [sS, sZ] at hl_; subst hl_) | (refine cSE (hc := fun w_ hs_ hr_ => og_calls (F1.out _ _ hr_)) (h := fun i_ l_ hl_ => ?_); dsimp only [sS, sZ] at hl_; subst hl_) | (refine cSE (hc := fun w_ hs_ hr_ => og_calls (F2.out _ _ hr_)) (h := fun i_ l_ hl_ => ?_); dsimp only [sS, sZ] at hl_; subst hl_) | (refine cSE (hc := fun w_ hs_ hr_ => og_calls (T1.out _ _ hr_)) (h := fun i_ l_ hl_ => ?_); dsimp only [sS, sZ] at hl_; subst hl_) | (refine cSE (hc := fun w_ hs_ hr_ => og_calls (oTokens_any hr_)) (h := fun i_ l_ hl_ => ?_); dsimp only [sS, sZ] at hl_; subst hl_)) | ((with_reducible refine isStore ?_); first | refine aSt ?_) | ((with_reducible refine isAlloc ?_); first | (refine aAl (fun n_ l_ hl_ => ?_); dsimp only [sS, sZ] at hl_; subst hl_)) | refine aV ?_ | refine aNo ?_ | refine aNo' ?_ | ((fail_if_success (refine aIsT ?_)); (fail_if_success (refine aIsF ?_)); refine seqS_guard rfl rfl rfl (fun l_ hl_ h_ => ?_) (fun l_ hl_ h_ => ?_) <;> (dsimp only [sS, sZ] at hl_; subst hl_; (try (simp only [beq_iff_eq, bne_iff_ne, beq_eq_false_iff_ne, bne_eq_false_iff_eq, ne_eq, decide_eq_true_eq, decide_eq_false_iff_not, Bool.and_eq_true, Bool.or_eq_true, Bool.and_eq_false_iff, Bool.or_eq_false_iff, Bool.not_eq_true', Bool.not_eq_false', Bool.false_eq_true, Bool.true_eq_false, reduceCtorEq] at h_)); (try (first | (with_reducible contradiction) | (exfalso; omega)))))) | ((with_reducible refine isWp ?_); first | (refine wpS_seq (fun K_ hK_ => ?_)) | (refine wpS_region ?_) | (refine wpS_cond rfl (fun h_ => ?_) (fun h_ => ?_) <;> (try (simp only [beq_iff_eq, bne_iff_ne, beq_eq_false_iff_ne, bne_eq_false_iff_eq, ne_eq, decide_eq_true_eq, decide_eq_false_iff_not, Bool.and_eq_true, Bool.or_eq_true, Bool.and_eq_false_iff, Bool.or_eq_false_iff, Bool.false_eq_true, Bool.true_eq_false, reduceCtorEq] at h_)) <;> (try (first | (with_reducible contradiction) | (exfalso; omega)))) | (refine wpS_block ?_) | (refine wpS_ret ?_; (try simp only [thenS, blockS])) | (refine wpS_exit ?_; simp only [thenS, blockS, ↓reduceIte, Nat.reduceEqDiff]) | (refine wpS_skip ?_; (try simp only [thenS, blockS]))) | (refine useK (by with_reducible assumption) ?_)))
  (first | refine r1_ Tryz.results7 (fun w_ hs_ => ?_) | refine r2_ Tryz.results7 (fun w_ hs_ => ?_) | refine r3_ Tryz.results7 (fun w_ hs_ => ?_) | refine retS0 Tryz.results7 (fun w_ hs_ => ?_) | refine retN0 Tryz.results7 (fun w_ hs_ => ?_))
  exact ⟨rfl, hs_.mod⟩
end Go.Proofs.YtmcaigmpcbkfpaaGreat
namespace Go.Proofs.YtmcaigmpcbkfpaaGreat
set_option maxRecDepth 8000
attribute [local irreducible] blk wpS seqS ordS OpVal RV endS LoadV StoreV Calls
open Go.RowKit Go.ChangeShapes Go.WideShapes Go.Deep
def pkSame (a b : Pkt) : Bool := a.tos == b.tos && a.id == b.id && a.df == b.df && a.mf == b.mf && a.off == b.off && a.ttl == b.ttl && a.proto == b.proto && a.src == b.src && a.dst == b.dst && decide (a.data = b.data) && decide (a.opts = b.opts)
theorem pkSame_iff (a b : Pkt) : pkSame a b = true ↔ a = b := by
  obtain ⟨⟩ := a
  obtain ⟨⟩ := b
  simp [pkSame, and_assoc]
  intros
  exact and_comm
theorem pkSame_self (a : Pkt) : pkSame a a = true := (pkSame_iff a a).2 rfl
theorem strEq (a b : ByteArray) : (a.toList == b.toList) = decide (a = b) := by
  rw [Bool.eq_iff_iff]; simp [bytes_inj]
set_option maxHeartbeats 8000000 in
theorem refSame05_any (a b : Pkt) (v v' : Value) (w : World) (hr : Structs enOpt 2 w v a.opts) (hr' : Structs enOpt 2 w v' b.opts) :
    Calls Tryz.prog 14 #[pv a v, pv b v'] w fun e w' => e = .returned (.bool (pkSame a b)) ∧ Mod [] w w' := by
  have hS : Hid (∀ w', Mod [] w w' → Calls Tryz.prog 45 #[v, v'] w' fun e w'' => e = .returned (.bool (decide (a.opts = b.opts))) ∧ Mod [] w' w'') := Lib.hid fun w' hm => refSame_any v v' a.opts b.opts w' (hr.mod0 hm) (hr'.mod0 hm)
  have hF := Lib.hid (show pkSame a b = (a.tos == b.tos && a.id == b.id && a.df == b.df && a.mf == b.mf && a.off == b.off && a.ttl == b.ttl && a.proto == b.proto && a.src == b.src && a.dst == b.dst && decide (a.data = b.data) && decide (a.opts = b.opts)) from rfl)
  generalize pkSame a b = R at hF ⊢
  generalize decide (a.opts = b.opts) = O at hS hF
  (refine enterS ([]) (Sep.start _ []) Tryz.func14 rfl ?_; simp only [Tryz.ntmps14, List.size_toArray, List.length_cons, List.length_nil, Nat.reduceAdd, Nat.reduceSub, Array.replicate_succ, Array.replicate_zero, List.push_toArray, List.append_toArray, List.nil_append, List.cons_append])
  (repeat' (first | ((with_reducible refine isOps ?_); first | (refine seqS_nil ?_; (try simp only [thenS, blockS])) | ((first | ((with_reducible refine isCallF ?_); refine aCF ?_) | ((with_reducible refine isCallV ?_); refine aCV ?_)); first | refine cS0 (fun w_ hs_ => hS.out _ hs_.mod) ?_) | ((with_reducible refine isBox ?_); first | (refine aBox (fun n_ l_ hl_ => ?_); dsimp only [sS, sZ] at hl_; subst hl_)) | refine aV ?_ | refine aNo ?_ | refine aNo' ?_ | ((fail_if_success (refine aIsT ?_)); (fail_if_success (refine aIsF ?_)); refine seqS_guard rfl rfl rfl (fun l_ hl_ h_ => ?_) (fun l_ hl_ h_ => ?_) <;> (dsimp only [sS, sZ] at hl_; subst hl_; (try (simp only [beq_iff_eq, bne_iff_ne, beq_eq_false_iff_ne, bne_eq_false_iff_eq, ne_eq, decide_eq_true_eq, decide_eq_false_iff_not, Bool.and_eq_true, Bool.or_eq_true, Bool.and_eq_false_iff, Bool.or_eq_false_iff, Bool.not_eq_true', Bool.not_eq_false', Bool.false_eq_true, Bool.true_eq_false, reduceCtorEq] at h_)); (try (first | (with_reducible contradiction) | (exfalso; omega)))))) | ((with_reducible refine isWp ?_); first | (refine wpS_seq (fun K_ hK_ => ?_)) | (refine wpS_region ?_) | (refine wpS_cond rfl (fun h_ => ?_) (fun h_ => ?_) <;> (try (simp only [beq_iff_eq, bne_iff_ne, beq_eq_false_iff_ne, bne_eq_false_iff_eq, ne_eq, decide_eq_true_eq, decide_eq_false_iff_not, Bool.and_eq_true, Bool.or_eq_true, Bool.and_eq_false_iff, Bool.or_eq_false_iff, Bool.false_eq_true, Bool.true_eq_false, reduceCtorEq] at h_)) <;> (try (first | (with_reducible contradiction) | (exfalso; omega)))) | (refine wpS_block ?_) | (refine wpS_ret ?_; (try simp only [thenS, blockS])) | (refine wpS_exit ?_; simp only [thenS, blockS, ↓reduceIte, Nat.reduceEqDiff]) | (refine wpS_skip ?_; (try simp only [thenS, blockS]))) | (refine useK (by with_reducible assumption) ?_)))
  all_goals
    (first | refine r1_ Tryz.results14 (fun w_ hs_ => ?_) | refine r2_ Tryz.results14 (fun w_ hs_ => ?_) | refine r3_ Tryz.results14 (fun w_ hs_ => ?_) | refine retS0 Tryz.results14 (fun w_ hs_ => ?_) | refine retN0 Tryz.results14 (fun w_ hs_ => ?_))
    refine ⟨?_, hs_.mod⟩
    rw [hF.out]
    first
      | (simp [*]; done)
      | (simp [← bytes_inj, *]; done)
      | (simp_all [← bytes_inj]; done)
end Go.Proofs.YtmcaigmpcbkfpaaGreat
