/- OriginFew: P25.3: whatever is asked, no more is said than there were tokens, and one more with each tick; numbers go on by one with each. No condition. -/
import Derived.Test.YtmcaigmpcbkfpaaOrg6
set_option linter.unusedVariables false
set_option linter.unusedSimpArgs false
namespace Go.Proofs.Ytmcaigmpcbkfpaa
set_option maxRecDepth 8000
attribute [local irreducible] blk wpS seqS ordS OpVal RV endS LoadV StoreV Calls
open Go.RowKit
theorem sayOf_or (n id a b : Int) (m : Ntc) : (n ≤ 0 ∧ sayOf n id a b m = ⟨n, id, noPkt, 9⟩) ∨ (0 < n ∧ sayOf n id a b m = ⟨n - 1, (id + 1) % 65536, saidPkt id a b m, 0⟩) := by
  unfold sayOf
  by_cases h : n ≤ 0
  · exact .inl ⟨h, if_pos h⟩
  · exact .inr ⟨by omega, if_neg h⟩
theorem fewSaid_right {id a b : Int} {m : Ntc} (hid : 0 ≤ id ∧ id ≤ 65535) (hm : ntRight m = true) : pkRight (saidPkt id a b m) = true := by
  have h3 := (ntRight_iff.1 hm).2.2
  have hl : (strOf (ntBytes m)).size = 8 + m.d.size := by rw [strOf_size, ntBytes_len]
  have h0 : allSize [] = 0 := by decide
  refine pkRight_iff.2 ⟨by simp, by simp, by simp, hid, by simp, rfl, ?_, by simp, ?_, ?_⟩
  · show allSize [] ≤ 40; omega
  · show 20 + allSize [] + ((strOf (ntBytes m)).size : Int) ≤ 65535; omega
  · show 0 + ((strOf (ntBytes m)).size : Int) ≤ 65535; omega
/-- What an answer is: nothing is said, or it is said. -/
structure Ans (n id : Int) (r : Said) : Prop where
  h : (r.n = n ∧ r.id = id ∧ r.p = noPkt ∧ (r.e = 1 ∨ r.e = 12 ∨ r.e = 9)) ∨ (0 < n ∧ r.n = n - 1 ∧ r.id = (id + 1) % 65536 ∧ r.e = 0 ∧ r.p.id = id ∧ r.p.opts = [] ∧ r.p.data.size ≤ 66000 ∧ (0 ≤ id ∧ id ≤ 65535 → pkRight r.p = true))
theorem fault_ans (n id a k c word : Int) (p : Pkt) : Ans n id (faultOf n id a k c word p) := by
  unfold faultOf faultMsg
  by_cases h1 : ntRight ⟨k, c, word, ⟨#[]⟩⟩ = true
  · rw [if_pos h1]
    by_cases h2 : pkRight p = true ∧ mayOf p = true
    · rw [if_pos h2]
      rcases sayOf_or n id a p.src ⟨k, c, word, strOf (begOf (hdrBytes p))⟩ with ⟨h3, h4⟩ | ⟨h3, h4⟩
      · exact ⟨.inl (by show (sayOf _ _ _ _ _).n = _ ∧ _; simp only [msgSaid]; rw [h4]; simp)⟩
      · have hr := begRight h1 h2.1
        have hl : (strOf (ntBytes ⟨k, c, word, strOf (begOf (hdrBytes p))⟩)).size ≤ 66000 := by
          have h5 := (ntRight_iff.1 hr).2.2
          rw [strOf_size, ntBytes_len]
          simp only at h5 ⊢
          omega
        exact ⟨.inr (by simp only [msgSaid]; rw [h4]; exact ⟨h3, rfl, rfl, rfl, rfl, rfl, hl, fun hid => fewSaid_right hid hr⟩)⟩
    · rw [if_neg h2]; exact ⟨.inl ⟨rfl, rfl, rfl, .inr (.inl rfl)⟩⟩
  · rw [if_neg h1]; exact ⟨.inl ⟨rfl, rfl, rfl, .inl rfl⟩⟩
theorem reply_ans (n id a : Int) (p : Pkt) : Ans n id (replyOf n id a p) := by
  unfold replyOf replyMsg
  by_cases h1 : pkRight p = true ∧ p.off = 0 ∧ p.mf = false ∧ kindOf p.src = 4 ∧ p.proto = 1
  · rw [if_pos h1]
    cases hq : ntParse p.data.data.toList with
    | inr x => exact ⟨.inl ⟨rfl, rfl, rfl, .inr (.inl rfl)⟩⟩
    | inl m =>
      by_cases h8 : m.ty = 8
      · have hmr : ntRight { m with ty := 0 } = true ∧ 0 ≤ m.word ∧ m.word ≤ 4294967295 := parse_right hq (by have := (pkRight_iff.1 h1.1).all; have := allSize_rng p.opts (pkRight_iff.1 h1.1).opts; rw [Array.length_toList, ByteArray.size_data]; omega)
        simp only [if_pos h8]
        rcases sayOf_or n id a p.src { m with ty := 0 } with ⟨h3, h4⟩ | ⟨h3, h4⟩
        · exact ⟨.inl (by simp only [msgSaid]; rw [h4]; simp)⟩
        · have hl : (strOf (ntBytes { m with ty := 0 })).size ≤ 66000 := by
            have h5 := (ntRight_iff.1 hmr.1).2.2
            rw [strOf_size, ntBytes_len]
            simp only at h5 ⊢
            omega
          exact ⟨.inr (by simp only [msgSaid]; rw [h4]; exact ⟨h3, rfl, rfl, rfl, rfl, rfl, hl, fun hid => fewSaid_right hid hmr.1⟩)⟩
      · simp only [if_neg h8]
        exact ⟨.inl ⟨rfl, rfl, rfl, .inr (.inl rfl)⟩⟩
  · rw [if_neg h1]; exact ⟨.inl ⟨rfl, rfl, rfl, .inr (.inl rfl)⟩⟩
set_option maxHeartbeats 16000000 in
theorem orgFew_any (t : Int) (v : Value) (l : List (OAct × Value)) (w : World) (ht : 0 ≤ t ∧ t ≤ 255) (hr : Structs enAct 16 w v l) (ho : ∀ x ∈ l, ActOk w x) :
    Calls Try.prog 5 #[.int .u8 t, v] w fun e w' => e = .returned (.bool true) ∧ Mod [] w w' := by
  have HG : Hid (∀ w', Mod [] w w' → Calls Try.prog 19 #[v] w' fun e w'' => e = .returned (.bool (greatActs l)) ∧ Mod [] w' w'') := Lib.hid fun w' hm => greatActs_any v l w' (hr.mod0 hm) (fun x hx => by
    have h := ho x hx
    exact ⟨h.opts.mod0 hm, h.pk, h.src, h.word⟩)
  rcases hg : greatActs l with _ | _
  case true =>
    rw [hg] at HG
    (refine enterS ([]) (Sep.start _ []) Try.func5 rfl ?_; simp only [Try.ntmps5, List.size_toArray, List.length_cons, List.length_nil, Nat.reduceAdd, Nat.reduceSub, Array.replicate_succ, Array.replicate_zero, List.push_toArray, List.append_toArray, List.nil_append, List.cons_append])
    (repeat' (first | ((with_reducible refine isOps ?_); first | (refine seqS_nil ?_; (try simp only [thenS, blockS])) | ((first | ((with_reducible refine isCallF ?_); refine aCF ?_) | ((with_reducible refine isCallV ?_); refine aCV ?_)); first | refine cS0 (fun w_ hs_ => HG.out _ hs_.mod) ?_ | refine cS0 (fun w_ hs_ => awake25_any _) ?_) | ((with_reducible refine isConvert ?_); first | refine aBy ?_) | ((with_reducible refine isStore ?_); first | refine aSt ?_) | ((with_reducible refine isAlloc ?_); first | (refine aAl (fun n_ l_ hl_ => ?_); dsimp only [sS, sZ] at hl_; subst hl_)) | refine aV ?_ | refine aNo ?_ | refine aNo' ?_ | ((fail_if_success (refine aIsT ?_)); (fail_if_success (refine aIsF ?_)); refine seqS_guard rfl rfl rfl (fun l_ hl_ h_ => ?_) (fun l_ hl_ h_ => ?_) <;> (dsimp only [sS, sZ] at hl_; subst hl_; (try (simp only [beq_iff_eq, bne_iff_ne, beq_eq_false_iff_ne, bne_eq_false_iff_eq, ne_eq, decide_eq_true_eq, decide_eq_false_iff_not, Bool.and_eq_true, Bool.or_eq_true, Bool.and_eq_false_iff, Bool.or_eq_false_iff, Bool.not_eq_true', Bool.not_eq_false', Bool.false_eq_true, Bool.true_eq_false, reduceCtorEq] at h_)); (try (first | (with_reducible contradiction) | (exfalso; omega)))))) | ((with_reducible refine isWp ?_); first | (refine wpS_seq (fun K_ hK_ => ?_)) | (refine wpS_region ?_) | (refine wpS_cond rfl (fun h_ => ?_) (fun h_ => ?_) <;> (try (simp only [beq_iff_eq, bne_iff_ne, beq_eq_false_iff_ne, bne_eq_false_iff_eq, ne_eq, decide_eq_true_eq, decide_eq_false_iff_not, Bool.and_eq_true, Bool.or_eq_true, Bool.and_eq_false_iff, Bool.or_eq_false_iff, Bool.false_eq_true, Bool.true_eq_false, reduceCtorEq] at h_)) <;> (try (first | (with_reducible contradiction) | (exfalso; omega)))) | (refine wpS_block ?_) | (refine wpS_ret ?_; (try simp only [thenS, blockS])) | (refine wpS_exit ?_; simp only [thenS, blockS, ↓reduceIte, Nat.reduceEqDiff]) | (refine wpS_skip ?_; (try simp only [thenS, blockS]))) | (refine useK (by with_reducible assumption) ?_)))
    (first | refine r1_ Try.results5 (fun w_ hs_ => ?_) | refine r2_ Try.results5 (fun w_ hs_ => ?_) | refine r3_ Try.results5 (fun w_ hs_ => ?_) | refine retS0 Try.results5 (fun w_ hs_ => ?_) | refine retN0 Try.results5 (fun w_ hs_ => ?_))
    exact ⟨rfl, hs_.mod⟩
  rw [hg] at HG
  obtain ⟨hlen, hall⟩ := greatActs_not hg
  obtain ⟨A, cap, rfl⟩ := hr.form
  have N1 : Hid (∀ w', Calls Try.prog 8 #[.agg #[.int .i64 0, .int .i64 0, .int .i64 0, .int .i64 0, .int .i64 0, .int .i64 t, .int .i64 0, .int .i64 0, .int .i64 0]] w' (Makes (fun P => ptr0 P) (fun P => og P t t 0) w')) := Lib.hid fun w' => by
    have := oNew_any t w'
    rwa [if_neg (show ¬ t < 0 by omega)] at this
  (refine enterS ([]) (Sep.start _ []) Try.func5 rfl ?_; simp only [Try.ntmps5, List.size_toArray, List.length_cons, List.length_nil, Nat.reduceAdd, Nat.reduceSub, Array.replicate_succ, Array.replicate_zero, List.push_toArray, List.append_toArray, List.nil_append, List.cons_append])
  (repeat' (first | ((with_reducible refine isOps ?_); first | (refine seqS_nil ?_; (try simp only [thenS, blockS])) | ((first | ((with_reducible refine isCallF ?_); refine aCF ?_) | ((with_reducible refine isCallV ?_); refine aCV ?_)); first | refine cS0 (fun w_ hs_ => HG.out _ hs_.mod) ?_ | refine cS0 (fun w_ hs_ => awake25_any _) ?_ | (refine callS_N (fun w_ hs_ => N1.out _) (fun i_ l_ hl_ => ?_); dsimp only [sS, sZ] at hl_; subst hl_)) | ((with_reducible refine isConvert ?_); first | refine aBy ?_) | ((with_reducible refine isStore ?_); first | refine aSt ?_) | ((with_reducible refine isAlloc ?_); first | (refine aAl (fun n_ l_ hl_ => ?_); dsimp only [sS, sZ] at hl_; subst hl_)) | refine aV ?_ | refine aNo ?_ | refine aNo' ?_ | ((fail_if_success (refine aIsT ?_)); (fail_if_success (refine aIsF ?_)); refine seqS_guard rfl rfl rfl (fun l_ hl_ h_ => ?_) (fun l_ hl_ h_ => ?_) <;> (dsimp only [sS, sZ] at hl_; subst hl_; (try (simp only [beq_iff_eq, bne_iff_ne, beq_eq_false_iff_ne, bne_eq_false_iff_eq, ne_eq, decide_eq_true_eq, decide_eq_false_iff_not, Bool.and_eq_true, Bool.or_eq_true, Bool.and_eq_false_iff, Bool.or_eq_false_iff, Bool.not_eq_true', Bool.not_eq_false', Bool.false_eq_true, Bool.true_eq_false, reduceCtorEq] at h_)); (try (first | (with_reducible contradiction) | (exfalso; omega)))))) | ((with_reducible refine isWp ?_); first | (refine wpS_seq (fun K_ hK_ => ?_)) | (refine wpS_region ?_) | (refine wpS_cond rfl (fun h_ => ?_) (fun h_ => ?_) <;> (try (simp only [beq_iff_eq, bne_iff_ne, beq_eq_false_iff_ne, bne_eq_false_iff_eq, ne_eq, decide_eq_true_eq, decide_eq_false_iff_not, Bool.and_eq_true, Bool.or_eq_true, Bool.and_eq_false_iff, Bool.or_eq_false_iff, Bool.false_eq_true, Bool.true_eq_false, reduceCtorEq] at h_)) <;> (try (first | (with_reducible contradiction) | (exfalso; omega)))) | (refine wpS_block ?_) | (refine wpS_ret ?_; (try simp only [thenS, blockS])) | (refine wpS_exit ?_; simp only [thenS, blockS, ↓reduceIte, Nat.reduceEqDiff]) | (refine wpS_skip ?_; (try simp only [thenS, blockS]))) | (refine useK (by with_reducible assumption) ?_)))
  revert i_; intro P
  ((with_reducible refine isLoop ?_); refine wpS_loopU [false, false, false, false, true, false, true, true, true, true, true, true, false, false, false, false, false, false, false, false, false, false, false, false, false, true, true, true, true, true, true, true, true, true, true, true, true, true, true, true, true, true, true, true, true, true, true, true, true, true, true, true, true, true, true, true, true, true, true, true, true, true, true, true, true, true, true, true, true, true, true, true, true, true, true, true, true, true, true, true, true, true, true, true, true, true, true, true, true, true, true, true, true, true, true, true, true, true, false, false, false, false] (fun u rs_ => ∃ (i : Nat) (n may said : Int), i ≤ l.length ∧ u 8 = .int .i64 i ∧ u 6 = .int .i64 may ∧ u 7 = .int .i64 said ∧ (0 ≤ n ∧ n ≤ t) ∧ (0 ≤ said ∧ said ≤ i) ∧ n + said ≤ may ∧ may ≤ t + i ∧ rs_ = [og P n t said]) (fun u => l.length - (intOf (u 8)).toNat) ?_ (fun u rs_ l_ K_ hN_ hl_ hR => ?_))
  · exact ⟨0, t, t, 0, Nat.zero_le _, rfl, rfl, rfl, ⟨ht.1, Int.le_refl _⟩, ⟨by decide, by decide⟩, by omega, by omega, rfl⟩
  · (simp only [mask_t, mask_f, mask_n, Nat.reduceAdd] at hl_; subst hl_)
    obtain ⟨i, n, may, said, hi, hu8, hu6, hu7, hn, hsd, hms, hmt, rfl⟩ := hR
    rw [hu8, hu6, hu7]
    by_cases hlt : i < l.length
    · obtain ⟨b, off, rfl, HA, -, -⟩ := act_at hr i hlt
      obtain ⟨ho1, ho2, ho3, ho4⟩ := ho _ (List.getElem_mem hlt)
      obtain ⟨hg1, hg2⟩ := hall _ (List.getElem_mem hlt)
      generalize l[i].1 = a at HA ho1 ho2 ho3 ho4 hg1 hg2
      generalize l[i].2 = av at HA ho1
      obtain ⟨Ao, co, rfl⟩ := ho1.form
      have hid : 0 ≤ said ∧ said ≤ 65535 := ⟨hsd.1, by omega⟩
      by_cases hk0 : a.kind = 0
      · have F0 : Hid (∀ w', (∀ w'', Mod [P] w' w'' → Structs enOpt 2 w'' (.slice Ao a.p.opts.length co) a.p.opts) → (og P n t said).holds w' → Calls Try.prog 9 #[ptr0 P, .int .u32 a.src, .int .i64 a.ty, .int .i64 a.code, .int .u32 a.word, pv a.p (.slice Ao a.p.opts.length co)] w' fun e w'' =>
          e = .returned (.tuple #[pv (faultOf n said a.src a.ty a.code a.word a.p).p nilS, .int .i64 (faultOf n said a.src a.ty a.code a.word a.p).e]) ∧ (og P (faultOf n said a.src a.ty a.code a.word a.p).n t (faultOf n said a.src a.ty a.code a.word a.p).id).holds w'' ∧ Mod (og P n t said).foot w' w'') := Lib.hid fun w' hs h =>
            fault_any a.src a.ty a.code a.word a.p _ hs hg1 ho2.src ho2.dst ho4 (by omega) hid h
        obtain ⟨hans⟩ := fault_ans n said a.src a.ty a.code a.word a.p
        generalize faultOf n said a.src a.ty a.code a.word a.p = R at F0 hans
        obtain ⟨Rn, Rid, Rp, Re⟩ := R
        dsimp only at F0
        simp only at hans
        rcases hans with ⟨rfl, rfl, rfl, hre⟩ | ⟨hn0, rfl, hrid, rfl, hpid, hopt, hds, hrt⟩
        · (repeat' (first | ((with_reducible refine isOps ?_); first | (refine seqS_nil ?_; (try simp only [thenS, blockS])) | ((first | ((with_reducible refine isCallF ?_); refine aCF ?_) | ((with_reducible refine isCallV ?_); refine aCV ?_)); first | (refine cSE (hc := fun w_ hs_ hr_ => og_calls (F0.out _ (hs_.later (by first | ((repeat (first | exact .head _ | apply List.Mem.tail)); done) | fail) ho1) hr_)) (h := fun i_ l_ hl_ => ?_); dsimp only [sS, sZ] at hl_; subst hl_) | (refine cSE (hc := fun w_ hs_ hr_ => og_calls (oTokens_any hr_)) (h := fun i_ l_ hl_ => ?_); dsimp only [sS, sZ] at hl_; subst hl_)) | ((with_reducible refine isConvert ?_); first | refine aBy ?_) | ((with_reducible refine isStore ?_); first | refine aSt ?_) | ((with_reducible refine isAlloc ?_); first | (refine aAl (fun n_ l_ hl_ => ?_); dsimp only [sS, sZ] at hl_; subst hl_)) | refine aVh (opv_bin rfl rfl (fun w_ hs_ => by (exact HA.out _ hs_.mod))) ?_ | refine aV ?_ | refine aVh (opv_loadO rfl (fun w_ hs_ => by (exact HA.out _ hs_.mod))) ?_ | refine aNo ?_ | refine aNo' ?_ | ((fail_if_success (refine aIsT ?_)); (fail_if_success (refine aIsF ?_)); refine seqS_guard rfl rfl rfl (fun l_ hl_ h_ => ?_) (fun l_ hl_ h_ => ?_) <;> (dsimp only [sS, sZ] at hl_; subst hl_; (try (simp only [beq_iff_eq, bne_iff_ne, beq_eq_false_iff_ne, bne_eq_false_iff_eq, ne_eq, decide_eq_true_eq, decide_eq_false_iff_not, Bool.and_eq_true, Bool.or_eq_true, Bool.and_eq_false_iff, Bool.or_eq_false_iff, Bool.not_eq_true', Bool.not_eq_false', Bool.false_eq_true, Bool.true_eq_false, reduceCtorEq] at h_)); (try (first | (with_reducible contradiction) | (exfalso; omega)))))) | ((with_reducible refine isWp ?_); first | (refine wpS_seq (fun K_ hK_ => ?_)) | (refine wpS_region ?_) | (refine wpS_cond rfl (fun h_ => ?_) (fun h_ => ?_) <;> (try (simp only [beq_iff_eq, bne_iff_ne, beq_eq_false_iff_ne, bne_eq_false_iff_eq, ne_eq, decide_eq_true_eq, decide_eq_false_iff_not, Bool.and_eq_true, Bool.or_eq_true, Bool.and_eq_false_iff, Bool.or_eq_false_iff, Bool.false_eq_true, Bool.true_eq_false, reduceCtorEq] at h_)) <;> (try (first | (with_reducible contradiction) | (exfalso; omega)))) | (refine wpS_block ?_) | (refine wpS_ret ?_; (try simp only [thenS, blockS])) | (refine wpS_exit ?_; simp only [thenS, blockS, ↓reduceIte, Nat.reduceEqDiff]) | (refine wpS_skip ?_; (try simp only [thenS, blockS]))) | (refine useK (by with_reducible assumption) ?_)))
          all_goals
            first
              | ((refine hN_ _ ([og _ _ _ _]) _ rfl ?_ (by first | ((repeat (first | exact List.Sublist.refl _ | exact List.nil_sublist _ | apply List.Sublist.cons_cons | apply List.Sublist.cons)); done) | fail) ?_ <;> dsimp only [List.getD_cons_succ, List.getD_cons_zero])
                 · exact ⟨i + 1, _, _, Rid, by omega, by go_num, by first | rfl | go_num, by first | rfl | go_num, by omega, by omega, by omega, by omega, rfl⟩
                 · rw [hu8]; simp [intOf]; omega)
              | (exfalso; omega)
              | (exfalso; simp_all; done)
        · have hrid2 : Rid = said + 1 := by omega
          clear hrid
          subst hrid2
          have HR : Hid (∀ w', Calls Try.prog 12 #[pv Rp nilS] w' fun e w'' => e = .returned (.bool true) ∧ Mod [] w' w'') := Lib.hid fun w' => by
            have := refRight05_any Rp nilS w' (by rw [hopt]; exact Structs.nil _ _ _) (by rw [hopt]; rfl) (by omega)
            rwa [hrt hid] at this
          subst hpid
          (repeat' (first | ((with_reducible refine isOps ?_); first | (refine seqS_nil ?_; (try simp only [thenS, blockS])) | ((first | ((with_reducible refine isCallF ?_); refine aCF ?_) | ((with_reducible refine isCallV ?_); refine aCV ?_)); first | (refine cSE (hc := fun w_ hs_ hr_ => og_calls (F0.out _ (hs_.later (by first | ((repeat (first | exact .head _ | apply List.Mem.tail)); done) | fail) ho1) hr_)) (h := fun i_ l_ hl_ => ?_); dsimp only [sS, sZ] at hl_; subst hl_) | (refine cSE (hc := fun w_ hs_ hr_ => og_calls (oTokens_any hr_)) (h := fun i_ l_ hl_ => ?_); dsimp only [sS, sZ] at hl_; subst hl_) | refine cS0 (fun w_ hs_ => HR.out _) ?_) | ((with_reducible refine isConvert ?_); first | refine aBy ?_) | ((with_reducible refine isStore ?_); first | refine aSt ?_) | ((with_reducible refine isAlloc ?_); first | (refine aAl (fun n_ l_ hl_ => ?_); dsimp only [sS, sZ] at hl_; subst hl_)) | refine aVh (opv_bin rfl rfl (fun w_ hs_ => by (exact HA.out _ hs_.mod))) ?_ | refine aV ?_ | refine aVh (opv_loadO rfl (fun w_ hs_ => by (exact HA.out _ hs_.mod))) ?_ | refine aNo ?_ | refine aNo' ?_ | ((fail_if_success (refine aIsT ?_)); (fail_if_success (refine aIsF ?_)); refine seqS_guard rfl rfl rfl (fun l_ hl_ h_ => ?_) (fun l_ hl_ h_ => ?_) <;> (dsimp only [sS, sZ] at hl_; subst hl_; (try (simp only [beq_iff_eq, bne_iff_ne, beq_eq_false_iff_ne, bne_eq_false_iff_eq, ne_eq, decide_eq_true_eq, decide_eq_false_iff_not, Bool.and_eq_true, Bool.or_eq_true, Bool.and_eq_false_iff, Bool.or_eq_false_iff, Bool.not_eq_true', Bool.not_eq_false', Bool.false_eq_true, Bool.true_eq_false, reduceCtorEq] at h_)); (try (first | (with_reducible contradiction) | (exfalso; omega)))))) | ((with_reducible refine isWp ?_); first | (refine wpS_seq (fun K_ hK_ => ?_)) | (refine wpS_region ?_) | (refine wpS_cond rfl (fun h_ => ?_) (fun h_ => ?_) <;> (try (simp only [beq_iff_eq, bne_iff_ne, beq_eq_false_iff_ne, bne_eq_false_iff_eq, ne_eq, decide_eq_true_eq, decide_eq_false_iff_not, Bool.and_eq_true, Bool.or_eq_true, Bool.and_eq_false_iff, Bool.or_eq_false_iff, Bool.false_eq_true, Bool.true_eq_false, reduceCtorEq] at h_)) <;> (try (first | (with_reducible contradiction) | (exfalso; omega)))) | (refine wpS_block ?_) | (refine wpS_ret ?_; (try simp only [thenS, blockS])) | (refine wpS_exit ?_; simp only [thenS, blockS, ↓reduceIte, Nat.reduceEqDiff]) | (refine wpS_skip ?_; (try simp only [thenS, blockS]))) | (refine useK (by with_reducible assumption) ?_)))
          all_goals
            first
              | ((refine hN_ _ ([og _ _ _ _]) _ rfl ?_ (by first | ((repeat (first | exact List.Sublist.refl _ | exact List.nil_sublist _ | apply List.Sublist.cons_cons | apply List.Sublist.cons)); done) | fail) ?_ <;> dsimp only [List.getD_cons_succ, List.getD_cons_zero])
                 · exact ⟨i + 1, _, _, (Rp.id + 1), by omega, by go_num, by first | rfl | go_num, by first | rfl | go_num, by omega, by omega, by omega, by omega, rfl⟩
                 · rw [hu8]; simp [intOf]; omega)
              | (exfalso; omega)
              | (exfalso; simp_all; done)
      by_cases hk1 : a.kind = 1
      · have F0 : Hid (∀ w', (∀ w'', Mod [P] w' w'' → Structs enOpt 2 w'' (.slice Ao a.p.opts.length co) a.p.opts) → (og P n t said).holds w' → Calls Try.prog 15 #[ptr0 P, .int .u32 a.src, pv a.p (.slice Ao a.p.opts.length co)] w' fun e w'' =>
          e = .returned (.tuple #[pv (replyOf n said a.src a.p).p nilS, .int .i64 (replyOf n said a.src a.p).e]) ∧ (og P (replyOf n said a.src a.p).n t (replyOf n said a.src a.p).id).holds w'' ∧ Mod (og P n t said).foot w' w'') := Lib.hid fun w' hs h =>
            reply_any a.src a.p _ hs hg1 ho2.src (by omega) hid h
        obtain ⟨hans⟩ := reply_ans n said a.src a.p
        generalize replyOf n said a.src a.p = R at F0 hans
        obtain ⟨Rn, Rid, Rp, Re⟩ := R
        dsimp only at F0
        simp only at hans
        rcases hans with ⟨rfl, rfl, rfl, hre⟩ | ⟨hn0, rfl, hrid, rfl, hpid, hopt, hds, hrt⟩
        · (repeat' (first | ((with_reducible refine isOps ?_); first | (refine seqS_nil ?_; (try simp only [thenS, blockS])) | ((first | ((with_reducible refine isCallF ?_); refine aCF ?_) | ((with_reducible refine isCallV ?_); refine aCV ?_)); first | (refine cSE (hc := fun w_ hs_ hr_ => og_calls (F0.out _ (hs_.later (by first | ((repeat (first | exact .head _ | apply List.Mem.tail)); done) | fail) ho1) hr_)) (h := fun i_ l_ hl_ => ?_); dsimp only [sS, sZ] at hl_; subst hl_) | (refine cSE (hc := fun w_ hs_ hr_ => og_calls (oTokens_any hr_)) (h := fun i_ l_ hl_ => ?_); dsimp only [sS, sZ] at hl_; subst hl_)) | ((with_reducible refine isConvert ?_); first | refine aBy ?_) | ((with_reducible refine isStore ?_); first | refine aSt ?_) | ((with_reducible refine isAlloc ?_); first | (refine aAl (fun n_ l_ hl_ => ?_); dsimp only [sS, sZ] at hl_; subst hl_)) | refine aVh (opv_bin rfl rfl (fun w_ hs_ => by (exact HA.out _ hs_.mod))) ?_ | refine aV ?_ | refine aVh (opv_loadO rfl (fun w_ hs_ => by (exact HA.out _ hs_.mod))) ?_ | refine aNo ?_ | refine aNo' ?_ | ((fail_if_success (refine aIsT ?_)); (fail_if_success (refine aIsF ?_)); refine seqS_guard rfl rfl rfl (fun l_ hl_ h_ => ?_) (fun l_ hl_ h_ => ?_) <;> (dsimp only [sS, sZ] at hl_; subst hl_; (try (simp only [beq_iff_eq, bne_iff_ne, beq_eq_false_iff_ne, bne_eq_false_iff_eq, ne_eq, decide_eq_true_eq, decide_eq_false_iff_not, Bool.and_eq_true, Bool.or_eq_true, Bool.and_eq_false_iff, Bool.or_eq_false_iff, Bool.not_eq_true', Bool.not_eq_false', Bool.false_eq_true, Bool.true_eq_false, reduceCtorEq] at h_)); (try (first | (with_reducible contradiction) | (exfalso; omega)))))) | ((with_reducible refine isWp ?_); first | (refine wpS_seq (fun K_ hK_ => ?_)) | (refine wpS_region ?_) | (refine wpS_cond rfl (fun h_ => ?_) (fun h_ => ?_) <;> (try (simp only [beq_iff_eq, bne_iff_ne, beq_eq_false_iff_ne, bne_eq_false_iff_eq, ne_eq, decide_eq_true_eq, decide_eq_false_iff_not, Bool.and_eq_true, Bool.or_eq_true, Bool.and_eq_false_iff, Bool.or_eq_false_iff, Bool.false_eq_true, Bool.true_eq_false, reduceCtorEq] at h_)) <;> (try (first | (with_reducible contradiction) | (exfalso; omega)))) | (refine wpS_block ?_) | (refine wpS_ret ?_; (try simp only [thenS, blockS])) | (refine wpS_exit ?_; simp only [thenS, blockS, ↓reduceIte, Nat.reduceEqDiff]) | (refine wpS_skip ?_; (try simp only [thenS, blockS]))) | (refine useK (by with_reducible assumption) ?_)))
          all_goals
            first
              | ((refine hN_ _ ([og _ _ _ _]) _ rfl ?_ (by first | ((repeat (first | exact List.Sublist.refl _ | exact List.nil_sublist _ | apply List.Sublist.cons_cons | apply List.Sublist.cons)); done) | fail) ?_ <;> dsimp only [List.getD_cons_succ, List.getD_cons_zero])
                 · exact ⟨i + 1, _, _, Rid, by omega, by go_num, by first | rfl | go_num, by first | rfl | go_num, by omega, by omega, by omega, by omega, rfl⟩
                 · rw [hu8]; simp [intOf]; omega)
              | (exfalso; omega)
              | (exfalso; simp_all; done)
        · have hrid2 : Rid = said + 1 := by omega
          clear hrid
          subst hrid2
          have HR : Hid (∀ w', Calls Try.prog 12 #[pv Rp nilS] w' fun e w'' => e = .returned (.bool true) ∧ Mod [] w' w'') := Lib.hid fun w' => by
            have := refRight05_any Rp nilS w' (by rw [hopt]; exact Structs.nil _ _ _) (by rw [hopt]; rfl) (by omega)
            rwa [hrt hid] at this
          subst hpid
          (repeat' (first | ((with_reducible refine isOps ?_); first | (refine seqS_nil ?_; (try simp only [thenS, blockS])) | ((first | ((with_reducible refine isCallF ?_); refine aCF ?_) | ((with_reducible refine isCallV ?_); refine aCV ?_)); first | (refine cSE (hc := fun w_ hs_ hr_ => og_calls (F0.out _ (hs_.later (by first | ((repeat (first | exact .head _ | apply List.Mem.tail)); done) | fail) ho1) hr_)) (h := fun i_ l_ hl_ => ?_); dsimp only [sS, sZ] at hl_; subst hl_) | (refine cSE (hc := fun w_ hs_ hr_ => og_calls (oTokens_any hr_)) (h := fun i_ l_ hl_ => ?_); dsimp only [sS, sZ] at hl_; subst hl_) | refine cS0 (fun w_ hs_ => HR.out _) ?_) | ((with_reducible refine isConvert ?_); first | refine aBy ?_) | ((with_reducible refine isStore ?_); first | refine aSt ?_) | ((with_reducible refine isAlloc ?_); first | (refine aAl (fun n_ l_ hl_ => ?_); dsimp only [sS, sZ] at hl_; subst hl_)) | refine aVh (opv_bin rfl rfl (fun w_ hs_ => by (exact HA.out _ hs_.mod))) ?_ | refine aV ?_ | refine aVh (opv_loadO rfl (fun w_ hs_ => by (exact HA.out _ hs_.mod))) ?_ | refine aNo ?_ | refine aNo' ?_ | ((fail_if_success (refine aIsT ?_)); (fail_if_success (refine aIsF ?_)); refine seqS_guard rfl rfl rfl (fun l_ hl_ h_ => ?_) (fun l_ hl_ h_ => ?_) <;> (dsimp only [sS, sZ] at hl_; subst hl_; (try (simp only [beq_iff_eq, bne_iff_ne, beq_eq_false_iff_ne, bne_eq_false_iff_eq, ne_eq, decide_eq_true_eq, decide_eq_false_iff_not, Bool.and_eq_true, Bool.or_eq_true, Bool.and_eq_false_iff, Bool.or_eq_false_iff, Bool.not_eq_true', Bool.not_eq_false', Bool.false_eq_true, Bool.true_eq_false, reduceCtorEq] at h_)); (try (first | (with_reducible contradiction) | (exfalso; omega)))))) | ((with_reducible refine isWp ?_); first | (refine wpS_seq (fun K_ hK_ => ?_)) | (refine wpS_region ?_) | (refine wpS_cond rfl (fun h_ => ?_) (fun h_ => ?_) <;> (try (simp only [beq_iff_eq, bne_iff_ne, beq_eq_false_iff_ne, bne_eq_false_iff_eq, ne_eq, decide_eq_true_eq, decide_eq_false_iff_not, Bool.and_eq_true, Bool.or_eq_true, Bool.and_eq_false_iff, Bool.or_eq_false_iff, Bool.false_eq_true, Bool.true_eq_false, reduceCtorEq] at h_)) <;> (try (first | (with_reducible contradiction) | (exfalso; omega)))) | (refine wpS_block ?_) | (refine wpS_ret ?_; (try simp only [thenS, blockS])) | (refine wpS_exit ?_; simp only [thenS, blockS, ↓reduceIte, Nat.reduceEqDiff]) | (refine wpS_skip ?_; (try simp only [thenS, blockS]))) | (refine useK (by with_reducible assumption) ?_)))
          all_goals
            first
              | ((refine hN_ _ ([og _ _ _ _]) _ rfl ?_ (by first | ((repeat (first | exact List.Sublist.refl _ | exact List.nil_sublist _ | apply List.Sublist.cons_cons | apply List.Sublist.cons)); done) | fail) ?_ <;> dsimp only [List.getD_cons_succ, List.getD_cons_zero])
                 · exact ⟨i + 1, _, _, (Rp.id + 1), by omega, by go_num, by first | rfl | go_num, by first | rfl | go_num, by omega, by omega, by omega, by omega, rfl⟩
                 · rw [hu8]; simp [intOf]; omega)
              | (exfalso; omega)
              | (exfalso; simp_all; done)
      · have T0 : Hid (∀ w', (og P n t said).holds w' → Calls Try.prog 16 #[ptr0 P] w' fun e w'' => e = .returned (.tuple #[]) ∧ (og P (if n < t then n + 1 else n) t said).holds w'' ∧ Mod (og P n t said).foot w' w'') := Lib.hid fun w' h => oTick_any (by omega) h
        have hn2 : 0 ≤ (if n < t then n + 1 else n) ∧ (if n < t then n + 1 else n) ≤ t ∧ (if n < t then n + 1 else n) ≤ n + 1 := by split <;> omega
        generalize (if n < t then n + 1 else n) = n2 at T0 hn2
        (repeat' (first | ((with_reducible refine isOps ?_); first | (refine seqS_nil ?_; (try simp only [thenS, blockS])) | ((first | ((with_reducible refine isCallF ?_); refine aCF ?_) | ((with_reducible refine isCallV ?_); refine aCV ?_)); first | (refine cSE (hc := fun w_ hs_ hr_ => og_calls (T0.out _ hr_)) (h := fun i_ l_ hl_ => ?_); dsimp only [sS, sZ] at hl_; subst hl_) | (refine cSE (hc := fun w_ hs_ hr_ => og_calls (oTokens_any hr_)) (h := fun i_ l_ hl_ => ?_); dsimp only [sS, sZ] at hl_; subst hl_)) | ((with_reducible refine isConvert ?_); first | refine aBy ?_) | ((with_reducible refine isStore ?_); first | refine aSt ?_) | ((with_reducible refine isAlloc ?_); first | (refine aAl (fun n_ l_ hl_ => ?_); dsimp only [sS, sZ] at hl_; subst hl_)) | refine aVh (opv_bin rfl rfl (fun w_ hs_ => by (exact HA.out _ hs_.mod))) ?_ | refine aV ?_ | refine aVh (opv_loadO rfl (fun w_ hs_ => by (exact HA.out _ hs_.mod))) ?_ | refine aNo ?_ | refine aNo' ?_ | ((fail_if_success (refine aIsT ?_)); (fail_if_success (refine aIsF ?_)); refine seqS_guard rfl rfl rfl (fun l_ hl_ h_ => ?_) (fun l_ hl_ h_ => ?_) <;> (dsimp only [sS, sZ] at hl_; subst hl_; (try (simp only [beq_iff_eq, bne_iff_ne, beq_eq_false_iff_ne, bne_eq_false_iff_eq, ne_eq, decide_eq_true_eq, decide_eq_false_iff_not, Bool.and_eq_true, Bool.or_eq_true, Bool.and_eq_false_iff, Bool.or_eq_false_iff, Bool.not_eq_true', Bool.not_eq_false', Bool.false_eq_true, Bool.true_eq_false, reduceCtorEq] at h_)); (try (first | (with_reducible contradiction) | (exfalso; omega)))))) | ((with_reducible refine isWp ?_); first | (refine wpS_seq (fun K_ hK_ => ?_)) | (refine wpS_region ?_) | (refine wpS_cond rfl (fun h_ => ?_) (fun h_ => ?_) <;> (try (simp only [beq_iff_eq, bne_iff_ne, beq_eq_false_iff_ne, bne_eq_false_iff_eq, ne_eq, decide_eq_true_eq, decide_eq_false_iff_not, Bool.and_eq_true, Bool.or_eq_true, Bool.and_eq_false_iff, Bool.or_eq_false_iff, Bool.false_eq_true, Bool.true_eq_false, reduceCtorEq] at h_)) <;> (try (first | (with_reducible contradiction) | (exfalso; omega)))) | (refine wpS_block ?_) | (refine wpS_ret ?_; (try simp only [thenS, blockS])) | (refine wpS_exit ?_; simp only [thenS, blockS, ↓reduceIte, Nat.reduceEqDiff]) | (refine wpS_skip ?_; (try simp only [thenS, blockS]))) | (refine useK (by with_reducible assumption) ?_)))
        all_goals
          first
            | ((refine hN_ _ ([og _ _ _ _]) _ rfl ?_ (by first | ((repeat (first | exact List.Sublist.refl _ | exact List.nil_sublist _ | apply List.Sublist.cons_cons | apply List.Sublist.cons)); done) | fail) ?_ <;> dsimp only [List.getD_cons_succ, List.getD_cons_zero])
               · exact ⟨i + 1, _, _, said, by omega, by go_num, by first | rfl | go_num, by first | rfl | go_num, by omega, by omega, by omega, by omega, rfl⟩
               · rw [hu8]; simp [intOf]; omega)
            | (exfalso; omega)
            | (exfalso; simp_all; done)
    · have hil : i = l.length := by omega
      (repeat' (first | ((with_reducible refine isOps ?_); first | (refine seqS_nil ?_; (try simp only [thenS, blockS])) | ((first | ((with_reducible refine isCallF ?_); refine aCF ?_) | ((with_reducible refine isCallV ?_); refine aCV ?_)); first | (refine cSE (hc := fun w_ hs_ hr_ => og_calls (oId_any hr_)) (h := fun i_ l_ hl_ => ?_); dsimp only [sS, sZ] at hl_; subst hl_)) | ((with_reducible refine isConvert ?_); first | refine aBy ?_) | ((with_reducible refine isStore ?_); first | refine aSt ?_) | ((with_reducible refine isAlloc ?_); first | (refine aAl (fun n_ l_ hl_ => ?_); dsimp only [sS, sZ] at hl_; subst hl_)) | refine aV ?_ | refine aNo ?_ | refine aNo' ?_ | ((fail_if_success (refine aIsT ?_)); (fail_if_success (refine aIsF ?_)); refine seqS_guard rfl rfl rfl (fun l_ hl_ h_ => ?_) (fun l_ hl_ h_ => ?_) <;> (dsimp only [sS, sZ] at hl_; subst hl_; (try (simp only [beq_iff_eq, bne_iff_ne, beq_eq_false_iff_ne, bne_eq_false_iff_eq, ne_eq, decide_eq_true_eq, decide_eq_false_iff_not, Bool.and_eq_true, Bool.or_eq_true, Bool.and_eq_false_iff, Bool.or_eq_false_iff, Bool.not_eq_true', Bool.not_eq_false', Bool.false_eq_true, Bool.true_eq_false, reduceCtorEq] at h_)); (try (first | (with_reducible contradiction) | (exfalso; omega)))))) | ((with_reducible refine isWp ?_); first | (refine wpS_seq (fun K_ hK_ => ?_)) | (refine wpS_region ?_) | (refine wpS_cond rfl (fun h_ => ?_) (fun h_ => ?_) <;> (try (simp only [beq_iff_eq, bne_iff_ne, beq_eq_false_iff_ne, bne_eq_false_iff_eq, ne_eq, decide_eq_true_eq, decide_eq_false_iff_not, Bool.and_eq_true, Bool.or_eq_true, Bool.and_eq_false_iff, Bool.or_eq_false_iff, Bool.false_eq_true, Bool.true_eq_false, reduceCtorEq] at h_)) <;> (try (first | (with_reducible contradiction) | (exfalso; omega)))) | (refine wpS_block ?_) | (refine wpS_ret ?_; (try simp only [thenS, blockS])) | (refine wpS_exit ?_; simp only [thenS, blockS, ↓reduceIte, Nat.reduceEqDiff]) | (refine wpS_skip ?_; (try simp only [thenS, blockS]))) | (refine useK (by with_reducible assumption) ?_)))
      (first | refine r1_ Try.results5 (fun w_ hs_ => ?_) | refine r2_ Try.results5 (fun w_ hs_ => ?_) | refine r3_ Try.results5 (fun w_ hs_ => ?_) | refine retS0 Try.results5 (fun w_ hs_ => ?_) | refine retN0 Try.results5 (fun w_ hs_ => ?_))
      exact ⟨rfl, hs_.mod⟩
namespace originFew
open Go.ChangeShapes Go.WideShapes Go.ChangeAt Go.RowKit
open Go.ChangeMaps (open_string shut_string)
theorem own : ownKnob Try.prog.godebug = none := by kernel_rfl
theorem laidOut : laidOutB Try.prog = true := by kernel_rfl
set_option maxRecDepth 100000 in
theorem lifted (os : Os) (started : os.Started) (H : Type) (enc : TypeId × Value → H) :
    ReturnsInHanded {} Try.checked os 5 .any (Rows.originFewSpec.pre6 enc Try.prog Try.f5 Rows.originFewRow.domain false) (Rows.originFewSpec.post enc Try.prog Try.f5 false true false false) := by
  refine returnsInHanded_of_change_sized (C := Try.checked) own started (by kernel_rfl) Try.func5
    (ChangeSpec.witness6 (enc := enc) (C := Try.checked) false ⟨#[], #[.int .u8 0, .slice none 0 0], []⟩ 8 (by kernel_rfl) (by kernel_rfl) (by kernel_rfl) (by kernel_rfl)) ?_
  intro W base args ds gs before hval0 hW hcnd hsz0 _
  have hsz : (DataW.weightsEach Try.prog (Try.f5.params.toList ++ Rows.originFewSpec.plain.varTypes Try.prog) (ds ++ gs)).all (· ≤ reachBytes) = true := hsz0
  have hval : ∀ (j : Nat) t v, Try.f5.params[j]? = some t → args[j]? = some v → Value.okWide Try.prog W .any base t v := hval0
  have hW' := hW
  obtain ⟨p, q, hA0, hV, rfl, hfz, hnd⟩ := hW
  have hA : DataW.TrodAll enc Try.prog W 0 (fun _ => true) true Try.f5.params.toList args.toList ds p := hA0
  rw [Try.params5] at hA hval hsz
  obtain ⟨v0, vs0, d0, ds0, p0, q0, hargs, rfl, rfl, h0, r0⟩ := trodAll_cons hA
  obtain ⟨v1, vs1, d1, ds1, p1, q1, rfl, rfl, rfl, h1, r1⟩ := trodAll_cons r0
  obtain ⟨rfl, rfl, rfl⟩ := trodAll_nil r1
  obtain rfl : args = #[v0, v1] := by cases args; simp_all
  obtain ⟨rfl, rfl⟩ := trodVars_none hV
  obtain ⟨a0, rfl, rfl, rfl, w0⟩ := open_int Try.underlying5 (hval 0 5 v0 rfl rfl) h0
  have hv1 := (hval 1 48 v1 rfl rfl)
  have k1 := h1
  have lt1 : ∀ x ∈ p1, x.block < W.heap.size := by obtain ⟨m, hm⟩ := k1; exact DataW.trod_lt m _ _ _ hm
  obtain ⟨fuel1, g1⟩ := h1
  obtain ⟨l1, s1, o1⟩ := open_structs enAct _ Try.underlying48 (by kernel_rfl) open_act (okWide_slice Try.underlying48 hv1) g1 (by decide)
  clear hA0 hval0 hsz0
  refine (orgFew_any a0 v1 l1 W (wf_u8 w0) s1 o1).mono fun e W' ⟨he, mod⟩ => ?_
  have bel : Below W.heap.size W W' := mod.below (Nat.le_refl _) (by simp)
  subst he
  exact ⟨_, rfl, _, _, _, [], _, [], hW', trodAll_mk1 (shut_bool Try.underlying4 _), (trodAll_cons_mk (shut_int Try.underlying5 w0) (trodAll_cons_mk (Below.trod laidOut (by kernel_rfl) (of_decide_eq_true (by kernel_rfl)) k1 bel lt1) trodAll_mk0)), rfl, bel.frame _, fun h => by cases h⟩
theorem over : Rows.originFewRow.holds Try.pinned (OpenSpec.ofChange Rows.originFewSpec) :=
  OpenClaim.holds_of_wide 5 Try.f5 rfl rfl rfl rfl rfl rfl rfl ⟨rfl, rfl, rfl, rfl, rfl⟩ rfl rfl rfl rfl rfl (by kernel_rfl) Try.func5 (by kernel_rfl)
    (of_decide_eq_true (by kernel_rfl)) (by unfold Func.isWrapper; first | (rw [if_pos (by decide +kernel)]; kernel_rfl) | (rw [if_neg (by decide +kernel)]; exact ⟨rfl, rfl⟩))
    (fun os started H enc _ => lifted os started H enc)
theorem proved : Rows.OriginFewSaid := over
#print axioms proved
end originFew
/-- The row, under a short name, for the claim. -/
theorem originFew_holds : Rows.OriginFewSaid := originFew.proved
end Go.Proofs.Ytmcaigmpcbkfpaa

