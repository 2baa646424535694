/- Package flow: how long a flow lives; time, at a table of one flow. -/
import Derived.Test.YtllhoadbocnldaaFlow2
import Derived.Test.YtllhoadbocnldaaMapR
set_option linter.unusedVariables false
set_option linter.unusedSimpArgs false
set_option maxRecDepth 8000
namespace Go.Proofs.Ytllhoadbocnldaa
open Go.RowKit
section
variable {w0 : World} {S : List Nat} {rs : List Res} {l : List Value} {ds : List Deferred} {ty : TypeId} {pos : String} {aft : Array Edge} {gd : Option (Nat × Bool)} {dt : Option Tmp}
variable {Q : SP} {rsX : List Res} {rsS : St} {B : Nat} {gl : GL} {i : Nat} {orest : List Nat} {ol : List Oper}
theorem ordS_deleteE {T e : TypeId} {x y : Operand} {t2 : TypeId} {b c : Nat} {M : List (Ent FKey)} (k : FKey) (n : Nat) {v : Value} {bn : Nat} (he : M[n]? = some ⟨k, v, bn⟩) (hu1 : ∀ j (hj : j < M.length), j < n → M[j].k ≠ k) {rs' : List Res}
    (ho : ol[i]? = some ⟨none, .call { callee := .builtin .delete, args := #[x, y], argTypes := #[T, t2] }, ty, pos, aft, gd⟩) (hw : Region.wanted ⟨none, .call { callee := .builtin .delete, args := #[x, y], argTypes := #[T, t2] }, ty, pos, aft, gd⟩ (yielded ol.toArray l.toArray) = true) (hT : Try.prog.underlying T = some (.map 24 e))
    (hx : opnd l x = some (.map (some b))) (hy : opnd l y = some (fkv k)) (hu : Upd (mpb fkv b M c) (mpb fkv b (M.eraseIdx n) c) rs rs')
    (hou : Out (mpb fkv b M c) rs rsX) (hsub : rsS.1.Sublist rsX) (hxs : rsS.2 = [])
    (h : ordS Try.prog w0 S Q rsS B ol.toArray orest l ds gl rs') : ordS Try.prog w0 S Q rsS B ol.toArray (i :: orest) l ds gl rs := fun hnd hi =>
  ord_act (lookL ho) hw rfl (fun v r => r = sepRes w0 S rs') (fun w hC hR hG => by
    have hs : Sep w0 S rs w := ⟨hC.1.mod, hR.1, hR.2.1, hR.2.2⟩
    obtain ⟨hn, hE⟩ := at_some he
    have hb := hs.all _ hu.mem
    obtain ⟨w', hr, h1, h2⟩ := mpb_set (M' := M.eraseIdx n) (c' := c) hb Try.prog
    have he2 : (mesL fkv M).toArray.eraseIdxIfInBounds n = (mesL fkv (M.eraseIdx n)).toArray := by
      unfold Array.eraseIdxIfInBounds
      rw [dif_pos (by simpa [mesL] using hn)]
      apply Array.ext'
      simp [mes_erase]
    have hd : (Builtin.delete_ #[T, t2] ty #[.map (some b), fkv k]).run Try.prog w = .ok (.tuple #[]) w' := by
      simp only [Builtin.delete_, List.getElem?_toArray, List.getElem?_cons_zero, List.getElem?_cons_succ, Sem.run_bind, run_underlying hT, Result.andThen_ok, mpb_obj hb, keyTy.chk, find_run keyTy _ M w, List.toList_toArray, mfind_at hn (by rw [hE]) hu1 0, Nat.zero_add, he2, hr, Sem.run_pure]
    have hs' := hs.updU hu h2 h1 (fun n hn => .inl hn)
    simp only [execOp, resolve, invoke, builtin, Sem.run_bind, Sem.run_pure, Result.andThen_ok, List.map_toArray, List.map_cons, List.map_nil, opnd_eval hx, opnd_eval hy, hd]
    exact ⟨_, rfl, ⟨hs.stay0 hou hsub hC.1 h2, fun x hx => by rw [hxs] at hx; cases hx⟩, ⟨hs'.all, hs'.old, hs'.dis⟩, Kp.updU hu h2 (fun n hn => .inl hn)⟩)
    (fun v r hr => by subst hr; exact h hnd hi)
end
theorem flow_cells {P B E : Nat} {fl idle op now turn s last tn : Int} {a b : Bool} {k : FKey} {w : World} (h : (tbl P fl idle op B now turn).holds w) (h2 : (ent E s a b k last tn).holds w) :
    Hid (∀ w', Mod [] w w' → (Instr.loadAt 3 (.pointer (some ⟨E, 5, none⟩))).run Try.prog w' = .ok (.int .i64 k.proto) w') ∧
    Hid (∀ w', Mod [] w w' → (Instr.loadAt 47 (.pointer (some ⟨E, 0, none⟩))).run Try.prog w' = .ok (.agg #[.int .i64 s, .bool a, .bool b]) w') ∧
    Hid (∀ w', Mod [] w w' → (Instr.loadAt 3 (.pointer (some ⟨P, 8, none⟩))).run Try.prog w' = .ok (.int .i64 op) w') ∧
    Hid (∀ w', Mod [] w w' → (Instr.loadAt 3 (.pointer (some ⟨P, 7, none⟩))).run Try.prog w' = .ok (.int .i64 idle) w') := by
  have hb : Blk w P [.int .i64 0, .int .i64 fl, .int .i64 0, .int .i64 0, .int .i64 0, .int .i64 0, .int .i64 0, .int .i64 idle, .int .i64 op, .map (some B), .int .i64 now, .int .i64 turn] 43 := h
  have hb2 : Blk w E [.int .i64 s, .bool a, .bool b, .int .u32 k.src, .int .u32 k.dst, .int .i64 k.proto, .int .i64 k.sport, .int .i64 k.dport, .int .i64 last, .int .i64 tn] 49 := h2
  refine ⟨Lib.hid fun w' hm => run_load1 (aggF rfl) (by rw [(hb2.mod hm (by simp)).cell]; rfl), Lib.hid fun w' hm => run_loadN (vs := [.int .i64 s, .bool a, .bool b]) (aggT rfl) (sizT rfl) (fun j v hj => ?_), Lib.hid fun w' hm => run_load1 (aggF rfl) (by rw [(hb.mod hm (by simp)).cell]; rfl), Lib.hid fun w' hm => run_load1 (aggF rfl) (by rw [(hb.mod hm (by simp)).cell]; rfl)⟩
  rw [(hb2.mod hm (by simp)).cell]
  match j, hj with
  | 0, hj => simpa using hj
  | 1, hj => simpa using hj
  | 2, hj => simpa using hj
def lifeOf (k : FKey) (s idle op : Int) : Int := if k.proto = 6 ∧ s ≠ 3 then op else idle
set_option maxRecDepth 8000
attribute [local irreducible] blk wpS seqS ordS OpVal RV endS LoadV StoreV Calls
set_option maxHeartbeats 2000000 in
theorem life_q {P B E : Nat} {fl idle op now turn s last tn : Int} {a b : Bool} {k : FKey} {w : World} (h : (tbl P fl idle op B now turn).holds w) (h2 : (ent E s a b k last tn).holds w) :
    Calls Try.prog 17 #[ptr0 P, ptr0 E] w fun e w' => e = .returned (.int .i64 (lifeOf k s idle op)) ∧ Mod [] w w' := by
  obtain ⟨c1, c2, c3, c4⟩ := flow_cells h h2
  by_cases hp : k.proto = 6
  · by_cases hs3 : s = 3
    · rw [show lifeOf k s idle op = idle from if_neg (fun hc => hc.2 hs3)]
      (refine enterS ([]) (Sep.start _ []) Try.func17 rfl ?_; simp only [Try.ntmps17, List.size_toArray, List.length_cons, List.length_nil, Nat.reduceAdd, Nat.reduceSub, Array.replicate_succ, Array.replicate_zero, List.push_toArray, List.append_toArray, List.nil_append, List.cons_append])
      (repeat' (first | ((with_reducible refine isOps ?_); first | (refine seqS_nil ?_; (try simp only [thenS, blockS])) | ((first | ((with_reducible refine isCallF ?_); refine aCF ?_) | ((with_reducible refine isCallV ?_); refine aCV ?_)); first | refine cS0 (fun w_ hs_ => fStage_any _ _ _ _) ?_) | refine aVh (opv_bin rfl rfl (fun w_ hs_ => by (first | with_reducible exact c1.out _ hs_.mod | with_reducible exact c2.out _ hs_.mod | with_reducible exact c3.out _ hs_.mod | with_reducible exact c4.out _ hs_.mod))) ?_ | refine aV ?_ | refine aVh (opv_loadO rfl (fun w_ hs_ => by (first | with_reducible exact c1.out _ hs_.mod | with_reducible exact c2.out _ hs_.mod | with_reducible exact c3.out _ hs_.mod | with_reducible exact c4.out _ hs_.mod))) ?_ | refine aNo ?_ | refine aNo' ?_ | ((fail_if_success (refine aIsT ?_)); (fail_if_success (refine aIsF ?_)); refine seqS_guard rfl rfl rfl (fun l_ hl_ h_ => ?_) (fun l_ hl_ h_ => ?_) <;> (dsimp only [sS, sZ] at hl_; subst hl_; (try (simp only [beq_iff_eq, bne_iff_ne, beq_eq_false_iff_ne, bne_eq_false_iff_eq, ne_eq, decide_eq_true_eq, decide_eq_false_iff_not, Bool.and_eq_true, Bool.or_eq_true, Bool.and_eq_false_iff, Bool.or_eq_false_iff, Bool.not_eq_true', Bool.not_eq_false', Bool.false_eq_true, Bool.true_eq_false, reduceCtorEq] at h_)); (try (first | (with_reducible contradiction) | (exfalso; omega)))))) | ((with_reducible refine isWp ?_); first | (refine wpS_seq (fun K_ hK_ => ?_)) | (refine wpS_region ?_) | (refine wpS_cond rfl (fun h_ => ?_) (fun h_ => ?_) <;> (try (simp only [beq_iff_eq, bne_iff_ne, beq_eq_false_iff_ne, bne_eq_false_iff_eq, ne_eq, decide_eq_true_eq, decide_eq_false_iff_not, Bool.and_eq_true, Bool.or_eq_true, Bool.and_eq_false_iff, Bool.or_eq_false_iff, Bool.false_eq_true, Bool.true_eq_false, reduceCtorEq] at h_)) <;> (try (first | (with_reducible contradiction) | (exfalso; omega)))) | (refine wpS_block ?_) | (refine wpS_ret ?_; (try simp only [thenS, blockS])) | (refine wpS_exit ?_; simp only [thenS, blockS, ↓reduceIte, Nat.reduceEqDiff]) | (refine wpS_skip ?_; (try simp only [thenS, blockS]))) | (refine useK (by with_reducible assumption) ?_)))
      (first | refine r1_ Try.results17 (fun w_ hs_ => ?_) | refine r2_ Try.results17 (fun w_ hs_ => ?_) | refine r3_ Try.results17 (fun w_ hs_ => ?_) | refine retS0 Try.results17 (fun w_ hs_ => ?_) | refine retN0 Try.results17 (fun w_ hs_ => ?_))
      exact ⟨rfl, hs_.mod⟩
    · rw [show lifeOf k s idle op = op from if_pos ⟨hp, hs3⟩]
      (refine enterS ([]) (Sep.start _ []) Try.func17 rfl ?_; simp only [Try.ntmps17, List.size_toArray, List.length_cons, List.length_nil, Nat.reduceAdd, Nat.reduceSub, Array.replicate_succ, Array.replicate_zero, List.push_toArray, List.append_toArray, List.nil_append, List.cons_append])
      (repeat' (first | ((with_reducible refine isOps ?_); first | (refine seqS_nil ?_; (try simp only [thenS, blockS])) | ((first | ((with_reducible refine isCallF ?_); refine aCF ?_) | ((with_reducible refine isCallV ?_); refine aCV ?_)); first | refine cS0 (fun w_ hs_ => fStage_any _ _ _ _) ?_) | refine aVh (opv_bin rfl rfl (fun w_ hs_ => by (first | with_reducible exact c1.out _ hs_.mod | with_reducible exact c2.out _ hs_.mod | with_reducible exact c3.out _ hs_.mod | with_reducible exact c4.out _ hs_.mod))) ?_ | refine aV ?_ | refine aVh (opv_loadO rfl (fun w_ hs_ => by (first | with_reducible exact c1.out _ hs_.mod | with_reducible exact c2.out _ hs_.mod | with_reducible exact c3.out _ hs_.mod | with_reducible exact c4.out _ hs_.mod))) ?_ | refine aNo ?_ | refine aNo' ?_ | ((fail_if_success (refine aIsT ?_)); (fail_if_success (refine aIsF ?_)); refine seqS_guard rfl rfl rfl (fun l_ hl_ h_ => ?_) (fun l_ hl_ h_ => ?_) <;> (dsimp only [sS, sZ] at hl_; subst hl_; (try (simp only [beq_iff_eq, bne_iff_ne, beq_eq_false_iff_ne, bne_eq_false_iff_eq, ne_eq, decide_eq_true_eq, decide_eq_false_iff_not, Bool.and_eq_true, Bool.or_eq_true, Bool.and_eq_false_iff, Bool.or_eq_false_iff, Bool.not_eq_true', Bool.not_eq_false', Bool.false_eq_true, Bool.true_eq_false, reduceCtorEq] at h_)); (try (first | (with_reducible contradiction) | (exfalso; omega)))))) | ((with_reducible refine isWp ?_); first | (refine wpS_seq (fun K_ hK_ => ?_)) | (refine wpS_region ?_) | (refine wpS_cond rfl (fun h_ => ?_) (fun h_ => ?_) <;> (try (simp only [beq_iff_eq, bne_iff_ne, beq_eq_false_iff_ne, bne_eq_false_iff_eq, ne_eq, decide_eq_true_eq, decide_eq_false_iff_not, Bool.and_eq_true, Bool.or_eq_true, Bool.and_eq_false_iff, Bool.or_eq_false_iff, Bool.false_eq_true, Bool.true_eq_false, reduceCtorEq] at h_)) <;> (try (first | (with_reducible contradiction) | (exfalso; omega)))) | (refine wpS_block ?_) | (refine wpS_ret ?_; (try simp only [thenS, blockS])) | (refine wpS_exit ?_; simp only [thenS, blockS, ↓reduceIte, Nat.reduceEqDiff]) | (refine wpS_skip ?_; (try simp only [thenS, blockS]))) | (refine useK (by with_reducible assumption) ?_)))
      (first | refine r1_ Try.results17 (fun w_ hs_ => ?_) | refine r2_ Try.results17 (fun w_ hs_ => ?_) | refine r3_ Try.results17 (fun w_ hs_ => ?_) | refine retS0 Try.results17 (fun w_ hs_ => ?_) | refine retN0 Try.results17 (fun w_ hs_ => ?_))
      exact ⟨rfl, hs_.mod⟩
  · rw [show lifeOf k s idle op = idle from if_neg (fun hc => hp hc.1)]
    (refine enterS ([]) (Sep.start _ []) Try.func17 rfl ?_; simp only [Try.ntmps17, List.size_toArray, List.length_cons, List.length_nil, Nat.reduceAdd, Nat.reduceSub, Array.replicate_succ, Array.replicate_zero, List.push_toArray, List.append_toArray, List.nil_append, List.cons_append])
    (repeat' (first | ((with_reducible refine isOps ?_); first | (refine seqS_nil ?_; (try simp only [thenS, blockS])) | ((first | ((with_reducible refine isCallF ?_); refine aCF ?_) | ((with_reducible refine isCallV ?_); refine aCV ?_)); first | refine cS0 (fun w_ hs_ => fStage_any _ _ _ _) ?_) | refine aVh (opv_bin rfl rfl (fun w_ hs_ => by (first | with_reducible exact c1.out _ hs_.mod | with_reducible exact c2.out _ hs_.mod | with_reducible exact c3.out _ hs_.mod | with_reducible exact c4.out _ hs_.mod))) ?_ | refine aV ?_ | refine aVh (opv_loadO rfl (fun w_ hs_ => by (first | with_reducible exact c1.out _ hs_.mod | with_reducible exact c2.out _ hs_.mod | with_reducible exact c3.out _ hs_.mod | with_reducible exact c4.out _ hs_.mod))) ?_ | refine aNo ?_ | refine aNo' ?_ | ((fail_if_success (refine aIsT ?_)); (fail_if_success (refine aIsF ?_)); refine seqS_guard rfl rfl rfl (fun l_ hl_ h_ => ?_) (fun l_ hl_ h_ => ?_) <;> (dsimp only [sS, sZ] at hl_; subst hl_; (try (simp only [beq_iff_eq, bne_iff_ne, beq_eq_false_iff_ne, bne_eq_false_iff_eq, ne_eq, decide_eq_true_eq, decide_eq_false_iff_not, Bool.and_eq_true, Bool.or_eq_true, Bool.and_eq_false_iff, Bool.or_eq_false_iff, Bool.not_eq_true', Bool.not_eq_false', Bool.false_eq_true, Bool.true_eq_false, reduceCtorEq] at h_)); (try (first | (with_reducible contradiction) | (exfalso; omega)))))) | ((with_reducible refine isWp ?_); first | (refine wpS_seq (fun K_ hK_ => ?_)) | (refine wpS_region ?_) | (refine wpS_cond rfl (fun h_ => ?_) (fun h_ => ?_) <;> (try (simp only [beq_iff_eq, bne_iff_ne, beq_eq_false_iff_ne, bne_eq_false_iff_eq, ne_eq, decide_eq_true_eq, decide_eq_false_iff_not, Bool.and_eq_true, Bool.or_eq_true, Bool.and_eq_false_iff, Bool.or_eq_false_iff, Bool.false_eq_true, Bool.true_eq_false, reduceCtorEq] at h_)) <;> (try (first | (with_reducible contradiction) | (exfalso; omega)))) | (refine wpS_block ?_) | (refine wpS_ret ?_; (try simp only [thenS, blockS])) | (refine wpS_exit ?_; simp only [thenS, blockS, ↓reduceIte, Nat.reduceEqDiff]) | (refine wpS_skip ?_; (try simp only [thenS, blockS]))) | (refine useK (by with_reducible assumption) ?_)))
    (first | refine r1_ Try.results17 (fun w_ hs_ => ?_) | refine r2_ Try.results17 (fun w_ hs_ => ?_) | refine r3_ Try.results17 (fun w_ hs_ => ?_) | refine retS0 Try.results17 (fun w_ hs_ => ?_) | refine retN0 Try.results17 (fun w_ hs_ => ?_))
    exact ⟨rfl, hs_.mod⟩
end Go.Proofs.Ytllhoadbocnldaa

