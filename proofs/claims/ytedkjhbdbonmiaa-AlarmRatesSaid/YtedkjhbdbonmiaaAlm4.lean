/- Package alarm: where a watch strikes. -/
import Derived.Test.YtedkjhbdbonmiaaAlm3
set_option linter.unusedVariables false
set_option linter.unusedSimpArgs false
namespace Go.Proofs.Ytedkjhbdbonmiaa
set_option maxRecDepth 8000
attribute [local irreducible] blk wpS seqS ordS OpVal RV endS LoadV StoreV Calls
open Go.RowKit
theorem tsRow_push (A : Option Addr) (c : Nat) (ts : List Int) (t : Int) : own A c 3 1 (ts.length + 1) (ts.map (Value.int .i64) ++ [Value.int .i64 t]) = tsRow A c (ts ++ [t]) := by
  unfold tsRow
  rw [List.length_append, List.map_append]
  rfl
set_option maxHeartbeats 16000000 in
theorem strikes_any (at_ : Int) (x : Wtc) (v : Value) (l : List Line) (w : World) (hr : Structs lnCells 7 w v l) (hlen : l.length ≤ 2000) (hx : wRight x = true) (hl64 : ∀ y ∈ l, -9223372036854775808 ≤ y.time ∧ y.time ≤ 9223372036854775807) :
    Calls Try.prog 27 #[.int .i64 at_, wcv x, v] w (Makes (fun i : Option Addr × Nat => .slice i.1 (almSt x l l.length).out.length i.2) (fun i => own i.1 i.2 61 3 (almSt x l l.length).out.length (((almSt x l l.length).out.map fun p => (at_, p.1, p.2)).flatMap enAlm)) w) := by
  obtain ⟨A, cap, rfl⟩ := hr.form
  have hB := Lib.hid fun w' => by_any x.group w'
  have hF := byF_call x.group
  have hK := Lib.hid fun y w' => byKey_any x.group y w'
  have hxt : 1 ≤ x.time ∧ x.time ≤ 1000 := by
    unfold wRight at hx
    simp only [Bool.and_eq_true, inR_t] at hx
    exact hx.2
  generalize byF x.group = f at hB hF hK
  (refine enterS ([]) (Sep.start _ []) Try.func27 rfl ?_; simp only [Try.ntmps27, List.size_toArray, List.length_cons, List.length_nil, Nat.reduceAdd, Nat.reduceSub, Array.replicate_succ, Array.replicate_zero, List.push_toArray, List.append_toArray, List.nil_append, List.cons_append])
  (repeat' (first | ((with_reducible refine isOps ?_); first | (refine seqS_nil ?_; (try simp only [thenS, blockS])) | ((with_reducible refine isMakeMap ?_); (refine seqS_makeMap fkv (by first | exact want_none rfl | (refine want_t rfl rfl rfl ?_; with_reducible rfl) | (refine want_f rfl rfl rfl ?_; with_reducible rfl)) (fun b_ l_ hl_ => ?_)); dsimp only [List.set_cons_succ, List.set_cons_zero] at hl_; subst hl_) | ((first | ((with_reducible refine isCallF ?_); refine aCF ?_) | ((with_reducible refine isCallV ?_); refine aCV ?_)); first | refine cS0 (fun w_ hs_ => hB.out _) ?_) | ((with_reducible refine isBuildSlice ?_); first | (refine aBs (fun n_ l_ hl_ => ?_); dsimp only [sS, sZ] at hl_; subst hl_)) | ((with_reducible refine isBuiltin ?_); first | (refine aApp (fun A_ c_ l_ hl_ => ?_); dsimp only [sS, sZ] at hl_; subst hl_)) | ((with_reducible refine isStore ?_); first | refine aSt ?_) | ((with_reducible refine isBox ?_); first | (refine aBox (fun n_ l_ hl_ => ?_); dsimp only [sS, sZ] at hl_; subst hl_)) | ((with_reducible refine isAlloc ?_); first | (refine aAl (fun n_ l_ hl_ => ?_); dsimp only [sS, sZ] at hl_; subst hl_)) | refine aV ?_) | ((with_reducible refine isWp ?_); first | (refine wpS_seq (fun K_ hK_ => ?_)) | (refine wpS_region ?_) | (refine wpS_cond rfl (fun h_ => ?_) (fun h_ => ?_) <;> (try (simp only [beq_iff_eq, bne_iff_ne, beq_eq_false_iff_ne, bne_eq_false_iff_eq, ne_eq, decide_eq_true_eq, decide_eq_false_iff_not, Bool.and_eq_true, Bool.or_eq_true, Bool.and_eq_false_iff, Bool.or_eq_false_iff, Bool.false_eq_true, Bool.true_eq_false, reduceCtorEq] at h_)) <;> (try (first | (with_reducible contradiction) | (exfalso; omega)))) | (refine wpS_block ?_) | (refine wpS_ret ?_; (try simp only [thenS, blockS])) | (refine wpS_exit ?_; simp only [thenS, blockS, ↓reduceIte, Nat.reduceEqDiff]) | (refine wpS_skip ?_; (try simp only [thenS, blockS]))) | (refine useK (by with_reducible assumption) ?_)))
  revert n_
  rename Nat => B
  revert B
  rename Nat => P4
  intro B P9
  refine wpS_weaken (fun w h => (h.nil 61 3).bund0) ?_
  ((with_reducible refine isLoop ?_); refine wpS_loopU [false, false, false, false, false, false, false, true, false, false, true, true, true, true, false, true, false, false, false, false, false, false, true, true, true, true, true, true, true, true, true, true, true, true, true, true, true, true, true, true, true, true, true, true, true, true, true, true, true, true, true, true, true, true, true, true, true, true, true, true, true, true, true, true, true, true, true, true, true, true, true, true, true, true, true, true, false] (fun u rs_ => ∃ (i : Nat) (M : List AEnt) (c : Nat) (A' : Option Addr) (cap' : Nat), i ≤ l.length ∧ u 22 = .int .i64 i ∧ u 7 = .slice A' (almSt x l i).out.length cap' ∧ AInv M c ∧ (∀ k, timesOf M k = (almSt x l i).T k) ∧ TsIn i M ∧ (almSt x l i).out.length ≤ i ∧ rs_ = [bund (M.map rowOf), own A' cap' 61 3 (almSt x l i).out.length (((almSt x l i).out.map fun p => (at_, p.1, p.2)).flatMap enAlm), blk P9 [.func (.func f) #[] #[]] 80, mpb fkv B (M.map entOf) c, blk P4 (wcCells x) 51]) (fun u => l.length - (intOf (u 22)).toNat) ?_ (fun u rs_ l_ K_ hN_ hl_ hR => ?_))
  · exact ⟨0, [], 0, none, 0, Nat.zero_le _, rfl, rfl, AInv.nil, fun _ => rfl, fun e he => by simp at he, Nat.zero_le _, rfl⟩
  · (simp only [mask_t, mask_f, mask_n, Nat.reduceAdd] at hl_; subst hl_)
    have hO_ := hN_
    obtain ⟨i, M, c, A', cap', hi, hu22, hu7, hinv, hT, hM, hol, rfl⟩ := hR
    rw [hu22, hu7]
    have hT := Lib.hid hT
    by_cases hlt : i < l.length
    · obtain ⟨b, off, rfl, HC, -, -⟩ := line_at hr i hlt
      have hy64 := hl64 _ (List.getElem_mem hlt)
      have hst := Lib.hid (almSt_snoc x l i hlt)
      generalize l[i] = y at HC hy64 hst
      by_cases hre : y.reason = x.reason
      case neg =>
        have hst2 : almSt x l (i + 1) = almSt x l i := by rw [hst.out]; unfold aStep; rw [if_neg hre]
        replace hst2 := Lib.hid hst2
        (repeat' (first | ((with_reducible refine isOps ?_); first | (refine seqS_nil ?_; (try simp only [thenS, blockS])) | ((with_reducible refine isBuildSlice ?_); first | (refine aBs (fun n_ l_ hl_ => ?_); dsimp only [sS, sZ] at hl_; subst hl_)) | ((with_reducible refine isBuiltin ?_); first | (refine aApp (fun A_ c_ l_ hl_ => ?_); dsimp only [sS, sZ] at hl_; subst hl_)) | ((with_reducible refine isStore ?_); first | refine aSt ?_) | ((with_reducible refine isBox ?_); first | (refine aBox (fun n_ l_ hl_ => ?_); dsimp only [sS, sZ] at hl_; subst hl_)) | ((with_reducible refine isAlloc ?_); first | (refine aAl (fun n_ l_ hl_ => ?_); dsimp only [sS, sZ] at hl_; subst hl_)) | refine aVh (opv_bin rfl rfl (fun w_ hs_ => by (with_reducible exact HC.out _ hs_.mod))) ?_ | refine aV ?_ | refine aVh (opv_loadO rfl (fun w_ hs_ => by (with_reducible exact HC.out _ hs_.mod))) ?_) | ((with_reducible refine isWp ?_); first | (refine wpS_seq (fun K_ hK_ => ?_)) | (refine wpS_region ?_) | (refine wpS_cond rfl (fun h_ => ?_) (fun h_ => ?_) <;> (try (simp only [beq_iff_eq, bne_iff_ne, beq_eq_false_iff_ne, bne_eq_false_iff_eq, ne_eq, decide_eq_true_eq, decide_eq_false_iff_not, Bool.and_eq_true, Bool.or_eq_true, Bool.and_eq_false_iff, Bool.or_eq_false_iff, Bool.false_eq_true, Bool.true_eq_false, reduceCtorEq] at h_)) <;> (try (first | (with_reducible contradiction) | (exfalso; omega)))) | (refine wpS_block ?_) | (refine wpS_ret ?_; (try simp only [thenS, blockS])) | (refine wpS_exit ?_; simp only [thenS, blockS, ↓reduceIte, Nat.reduceEqDiff]) | (refine wpS_skip ?_; (try simp only [thenS, blockS]))) | (refine useK (by with_reducible assumption) ?_)))
        (refine hN_ _ ([bund _, own _ _ _ _ _ _, blk P9 _ _, mpb _ _ _ _, blk P4 _ _]) _ rfl ?_ (by first | ((repeat (first | exact List.Sublist.refl _ | exact List.nil_sublist _ | apply List.Sublist.cons_cons | apply List.Sublist.cons)); done) | fail) ?_ <;> dsimp only [List.getD_cons_succ, List.getD_cons_zero])
        · exact ⟨i + 1, M, c, A', cap', by omega, by go_num, by (rw [hst2.out]; first | done | rfl), hinv, by rw [hst2.out]; exact hT.out, fun e he => ⟨Nat.le_succ_of_le (hM e he).1, (hM e he).2⟩, by rw [hst2.out]; omega, by (rw [hst2.out]; first | done | rfl)⟩
        · rw [hu22]; simp [intOf]; omega
      case pos =>
        obtain ⟨k, hk⟩ : ∃ k, keyBy x.group y = k := ⟨_, rfl⟩
        have hKi : Hid (∀ w', Calls Try.prog f #[lnv y] w' fun e w'' => e = .returned (fkv k) ∧ Mod [] w' w'') := Lib.hid fun w' => by
          have := hK.out y w'
          rwa [hk] at this
        rcases key_or M k with hno | ⟨n, hn, hMk⟩
        · obtain ⟨M1, m, hinv1, hT1, hM1, hR1, hE1, hMb⟩ := new_state hinv hno hT.out hM
          have hno2 : ∀ e ∈ M.map entOf, e.k ≠ k := fun e he => by
            obtain ⟨e', he', rfl⟩ := List.mem_map.1 he
            exact hno e' he'
          clear hinv hno hM hT
          have hnil : ∀ {S : List Nat} {rs : List Res} {w' : World}, Sep w S rs w' → Sep w S (tsRow none 0 [] :: rs) w' := fun h => h.nil 3 1
          obtain ⟨ts, hts⟩ : ∃ ts : List Int, ts = [] := ⟨_, rfl⟩
          have hE1 : ∀ w', (zeroValue 64).run Try.prog w' = .ok (.slice none ts.length 0) w' := fun w' => by subst hts; go_simp
          rw [← hts] at hM1
          have hE2 : M.map entOf ++ [⟨k, .slice none ts.length 0, c⟩] = M1.map entOf := by subst hts; assumption
          rw [← hts] at hnil
          replace hts := Lib.hid hts
          replace hno2 := Lib.hid hno2
          replace hE1 := Lib.hid hE1
          replace hE2 := Lib.hid hE2
          have hfK := hinv1.firstKE hM1
          have hfB := hinv1.firstBE hM1
          simp only at hfK hfB
          replace hfK := Lib.hid hfK
          replace hfB := Lib.hid hfB
          have hTs : (almSt x l i).T k = ts := by rw [← hT1 k]; exact times_atE hinv1 hM1
          have hml : m < (M1.map entOf).length := by simpa using (at_some hM1).1
          have hrl : m < (M1.map rowOf).length := by simpa using (at_some hM1).1
          have hyes := Lib.hid fun h => step_yes (ts := ts) hst.out hre hk hTs h
          have hno1 := Lib.hid fun h => step_no (ts := ts) hst.out hre hk hTs h
          have hkeep := Lib.hid fun A1 c1 => step_keep hinv1 hM1 A1 c1 hMb hy64
          have hdrop := Lib.hid (step_drop hinv1 hM1 hMb)
          have htl : ts.length ≤ i := (hMb _ (List.mem_of_getElem? hM1)).1
          have htr := Lib.hid (hMb _ (List.mem_of_getElem? hM1)).2
          replace hT1 := Lib.hid hT1
          have hMx := Lib.hid hM1
          clear hinv1 hM1 hMb hTs
          refine wpS_weaken (fun w h => hnil h) ?_
          rw [hR1]
          clear hnil hR1
          (repeat' (first | ((with_reducible refine isOps ?_); first | (refine seqS_nil ?_; (try simp only [thenS, blockS])) | ((with_reducible refine isMapEntry ?_); (refine seqS_entryNew (zv := .slice none ts.length 0) keyTy k hno2.out (by first | exact want_none rfl | (refine want_t rfl rfl rfl ?_; with_reducible rfl) | (refine want_f rfl rfl rfl ?_; with_reducible rfl)) Try.underlying89 hE1.out rfl rfl (by first | ((repeat (first | exact .head | apply Upd.tail)); done) | fail) (by dsimp only [List.set_cons_succ, List.set_cons_zero]) ?_); rw [hE2.out]) | ((with_reducible refine isEntryStore ?_); (refine seqS_entryStoreE m (he := by rw [List.getElem?_map, hMx.out]; rfl) hfB.out (by first | exact want_none rfl | (refine want_t rfl rfl rfl ?_; with_reducible rfl) | (refine want_f rfl rfl rfl ?_; with_reducible rfl)) rfl rfl rfl (by first | ((repeat (first | exact .head | apply Upd.tail)); done) | fail) ?_)) | ((with_reducible refine isLookup ?_); (refine seqS_v (by first | exact want_none rfl | (refine want_t rfl rfl rfl ?_; with_reducible rfl) | (refine want_f rfl rfl rfl ?_; with_reducible rfl)) rfl (opv_lookupE (zv := .slice none 0 0) keyTy k m (he := at_set hml _) (hu := firstK_set hfK.out _) Try.underlying89 (fun w => by go_simp) rfl rfl (by first | ((repeat (first | exact .head _ | apply List.Mem.tail)); done) | fail)) (by dsimp only [List.set_cons_succ, List.set_cons_zero]) ?_)) | ((first | ((with_reducible refine isCallF ?_); refine aCF ?_) | ((with_reducible refine isCallV ?_); refine aCV ?_)); first | refine cS0 (fun w_ hs_ => hKi.out _) ?_) | ((with_reducible refine isBuildSlice ?_); first | (refine aBs (fun n_ l_ hl_ => ?_); dsimp only [sS, sZ] at hl_; subst hl_)) | ((with_reducible refine isBuiltin ?_); first | (refine aApp (fun A_ c_ l_ hl_ => ?_); dsimp only [sS, sZ] at hl_; subst hl_)) | ((with_reducible refine isStore ?_); first | refine aSt ?_) | ((with_reducible refine isBox ?_); first | (refine aBox (fun n_ l_ hl_ => ?_); dsimp only [sS, sZ] at hl_; subst hl_)) | ((with_reducible refine isAlloc ?_); first | (refine aAl (fun n_ l_ hl_ => ?_); dsimp only [sS, sZ] at hl_; subst hl_)) | refine aVh (opv_bin rfl rfl (fun w_ hs_ => by (with_reducible exact HC.out _ hs_.mod))) ?_ | refine aV ?_ | refine aVh (opv_loadO rfl (fun w_ hs_ => by (with_reducible exact HC.out _ hs_.mod))) ?_) | ((with_reducible refine isWp ?_); first | (refine wpS_seq (fun K_ hK_ => ?_)) | (refine wpS_region ?_) | (refine wpS_cond rfl (fun h_ => ?_) (fun h_ => ?_) <;> (try (simp only [beq_iff_eq, bne_iff_ne, beq_eq_false_iff_ne, bne_eq_false_iff_eq, ne_eq, decide_eq_true_eq, decide_eq_false_iff_not, Bool.and_eq_true, Bool.or_eq_true, Bool.and_eq_false_iff, Bool.or_eq_false_iff, Bool.false_eq_true, Bool.true_eq_false, reduceCtorEq] at h_)) <;> (try (first | (with_reducible contradiction) | (exfalso; omega)))) | (refine wpS_block ?_) | (refine wpS_ret ?_; (try simp only [thenS, blockS])) | (refine wpS_exit ?_; simp only [thenS, blockS, ↓reduceIte, Nat.reduceEqDiff]) | (refine wpS_skip ?_; (try simp only [thenS, blockS]))) | (refine useK (by with_reducible assumption) ?_)))
          revert c_ A_ n_
          rename Nat => P12
          revert P12
          rename Nat => P11
          intro P12 P13 A1 c1
          obtain ⟨cc, hcc⟩ : ∃ cc, c + 1 = cc := ⟨_, rfl⟩
          rw [hcc]
          rw [hcc] at hkeep hdrop
          obtain ⟨bn, hbn⟩ : ∃ bn, bn = c := ⟨c, rfl⟩
          subst hbn
          rw [tsRow_push]
          obtain ⟨ts2, hts2⟩ : ∃ ts2, ts2 = ts ++ [y.time] := ⟨_, rfl⟩
          have hl2 : ts.length + 1 = ts2.length := by rw [hts2]; simp
          have hts3 : ∀ t ∈ ts2, -9223372036854775808 ≤ t ∧ t ≤ 9223372036854775807 := fun t ht => by
            rw [hts2] at ht
            rcases List.mem_append.1 ht with ht | ht
            · exact htr.out t ht
            · obtain rfl := List.mem_singleton.1 ht
              exact hy64
          replace hts3 := Lib.hid hts3
          rw [← hts2, hl2]
          rw [← hts2] at hyes hno1 hkeep
          clear hts2 htr
          have hpos : 0 < ts2.length ∧ ts2.length ≤ i + 1 := by omega
          have hl3 : ts.length + 1 ≤ ts2.length ∧ ts2.length ≤ ts.length + 1 := by omega
          clear hl2
          refine wpS_know (Φ := ∃ b2, A1 = some ⟨b2, 0, none⟩) (fun w h => row_some (h.all (tsRow A1 c1 ts2) (by first | ((repeat (first | exact .head _ | apply List.Mem.tail)); done) | fail)) hpos.1) (fun hA => ?_)
          obtain ⟨b2, rfl⟩ := hA
          ((with_reducible refine isLoop ?_); refine wpS_loopU [false, false, false, false, false, false, false, false, false, false, false, false, false, true, false, true, false, false, false, false, false, false, false, false, false, false, false, false, false, false, false, false, false, false, false, false, false, false, false, false, false, false, false, false, false, false, false, false, false, true, true, true, true, true, true, true, true, true, true, true, true, true, false, false, false, false, false, false, false, false, false, false, false, false, false, false, false] (fun u rs_ => ∃ (j : Nat), j ≤ ts2.length ∧ u 49 = .int .i64 j ∧ u 13 = .int .i64 (lateN (ts2.take j) y.time x.time) ∧ rs_ = [blk P13 [.int .i64 y.time] 3, blk P12 [.int .u32 k.src, .int .u32 k.dst, .int .i64 k.proto, .int .i64 k.sport, .int .i64 k.dport] 56, blk P11 (lnCells y) 58, tsRow (some ⟨b2, 0, none⟩) c1 ts2, bund ((M1.map rowOf).eraseIdx m), own A' cap' 61 3 (almSt x l i).out.length (((almSt x l i).out.map fun p => (at_, p.1, p.2)).flatMap enAlm), blk P9 [.func (.func f) #[] #[]] 80, mpb fkv B ((M1.map entOf).set m ⟨k, .slice (some ⟨b2, 0, none⟩) ts2.length c1, bn⟩) cc, blk P4 (wcCells x) 51]) (fun u => ts2.length - (intOf (u 49)).toNat) ?_ (fun u rs_ l_ K_ hN_ hl_ hR => ?_))
          · exact ⟨0, Nat.zero_le _, rfl, rfl, rfl⟩
          · (simp only [mask_t, mask_f, mask_n, Nat.reduceAdd] at hl_; subst hl_)
            obtain ⟨j, hj, hu49, hu13, rfl⟩ := hR
            rw [hu49, hu13]
            by_cases hjl : j < ts2.length
            · have hLt := Lib.hid fun w' => late_any ts2[j] y.time x.time (hts3.out _ (List.getElem_mem hjl)) hy64 (by omega) w'
              have hsn := Lib.hid (lateN_snoc ts2 j hjl y.time x.time)
              have hln : lateN (ts2.take j) y.time x.time ≤ j := Nat.le_trans (lateN_le _ _ _) (by rw [List.length_take]; omega)
              generalize lateOf ts2[j] y.time x.time = L at hLt hsn
              rcases L with _ | _
              all_goals
                (repeat' (first | ((with_reducible refine isOps ?_); first | (refine seqS_nil ?_; (try simp only [thenS, blockS])) | ((first | ((with_reducible refine isCallF ?_); refine aCF ?_) | ((with_reducible refine isCallV ?_); refine aCV ?_)); first | refine cS0 (fun w_ hs_ => hLt.out _) ?_) | ((with_reducible refine isBuildSlice ?_); first | (refine aBs (fun n_ l_ hl_ => ?_); dsimp only [sS, sZ] at hl_; subst hl_)) | ((with_reducible refine isBuiltin ?_); first | (refine aApp (fun A_ c_ l_ hl_ => ?_); dsimp only [sS, sZ] at hl_; subst hl_)) | ((with_reducible refine isStore ?_); first | refine aSt ?_) | ((with_reducible refine isBox ?_); first | (refine aBox (fun n_ l_ hl_ => ?_); dsimp only [sS, sZ] at hl_; subst hl_)) | ((with_reducible refine isAlloc ?_); first | (refine aAl (fun n_ l_ hl_ => ?_); dsimp only [sS, sZ] at hl_; subst hl_)) | refine aV ?_) | ((with_reducible refine isWp ?_); first | (refine wpS_seq (fun K_ hK_ => ?_)) | (refine wpS_region ?_) | (refine wpS_cond rfl (fun h_ => ?_) (fun h_ => ?_) <;> (try (simp only [beq_iff_eq, bne_iff_ne, beq_eq_false_iff_ne, bne_eq_false_iff_eq, ne_eq, decide_eq_true_eq, decide_eq_false_iff_not, Bool.and_eq_true, Bool.or_eq_true, Bool.and_eq_false_iff, Bool.or_eq_false_iff, Bool.false_eq_true, Bool.true_eq_false, reduceCtorEq] at h_)) <;> (try (first | (with_reducible contradiction) | (exfalso; omega)))) | (refine wpS_block ?_) | (refine wpS_ret ?_; (try simp only [thenS, blockS])) | (refine wpS_exit ?_; simp only [thenS, blockS, ↓reduceIte, Nat.reduceEqDiff]) | (refine wpS_skip ?_; (try simp only [thenS, blockS]))) | (refine useK (by with_reducible assumption) ?_)))
                refine aVh (opv_loadO rfl (fun w_ hs_ => row_get (hs_.all (tsRow _ _ _) (by first | ((repeat (first | exact .head _ | apply List.Mem.tail)); done) | fail)) j hjl)) ?_
                (repeat' (first | ((with_reducible refine isOps ?_); first | (refine seqS_nil ?_; (try simp only [thenS, blockS])) | ((first | ((with_reducible refine isCallF ?_); refine aCF ?_) | ((with_reducible refine isCallV ?_); refine aCV ?_)); first | refine cS0 (fun w_ hs_ => hLt.out _) ?_) | ((with_reducible refine isBuildSlice ?_); first | (refine aBs (fun n_ l_ hl_ => ?_); dsimp only [sS, sZ] at hl_; subst hl_)) | ((with_reducible refine isBuiltin ?_); first | (refine aApp (fun A_ c_ l_ hl_ => ?_); dsimp only [sS, sZ] at hl_; subst hl_)) | ((with_reducible refine isStore ?_); first | refine aSt ?_) | ((with_reducible refine isBox ?_); first | (refine aBox (fun n_ l_ hl_ => ?_); dsimp only [sS, sZ] at hl_; subst hl_)) | ((with_reducible refine isAlloc ?_); first | (refine aAl (fun n_ l_ hl_ => ?_); dsimp only [sS, sZ] at hl_; subst hl_)) | refine aV ?_) | ((with_reducible refine isWp ?_); first | (refine wpS_seq (fun K_ hK_ => ?_)) | (refine wpS_region ?_) | (refine wpS_cond rfl (fun h_ => ?_) (fun h_ => ?_) <;> (try (simp only [beq_iff_eq, bne_iff_ne, beq_eq_false_iff_ne, bne_eq_false_iff_eq, ne_eq, decide_eq_true_eq, decide_eq_false_iff_not, Bool.and_eq_true, Bool.or_eq_true, Bool.and_eq_false_iff, Bool.or_eq_false_iff, Bool.false_eq_true, Bool.true_eq_false, reduceCtorEq] at h_)) <;> (try (first | (with_reducible contradiction) | (exfalso; omega)))) | (refine wpS_block ?_) | (refine wpS_ret ?_; (try simp only [thenS, blockS])) | (refine wpS_exit ?_; simp only [thenS, blockS, ↓reduceIte, Nat.reduceEqDiff]) | (refine wpS_skip ?_; (try simp only [thenS, blockS]))) | (refine useK (by with_reducible assumption) ?_)))
                (refine hN_ _ (_) _ rfl ?_ (List.Sublist.refl _) ?_ <;> dsimp only [List.getD_cons_succ, List.getD_cons_zero])
                · exact ⟨j + 1, by omega, by go_num, by rw [hsn.out]; simp, rfl⟩
                · rw [hu49]; simp [intOf]; omega
            · have hje : j = ts2.length := by omega
              subst hje
              rw [List.take_length]
              by_cases hmany : x.many ≤ (lateN ts2 y.time x.time : Int)
              · have hY := Lib.hid (hyes.out hmany)
                (repeat' (first | ((with_reducible refine isOps ?_); first | (refine seqS_nil ?_; (try simp only [thenS, blockS])) | ((with_reducible refine isDelete ?_); (refine seqS_deleteE keyTy k m (at_set hml _) (firstK_set hfK.out _) (by first | exact want_none rfl | (refine want_t rfl rfl rfl ?_; with_reducible rfl) | (refine want_f rfl rfl rfl ?_; with_reducible rfl)) Try.underlying89 rfl rfl (by first | ((repeat (first | exact .head | apply Upd.tail)); done) | fail) ?_)) | ((with_reducible refine isBuildSlice ?_); first | (refine aBs (fun n_ l_ hl_ => ?_); dsimp only [sS, sZ] at hl_; subst hl_)) | ((with_reducible refine isBuiltin ?_); first | (refine aApp (fun A_ c_ l_ hl_ => ?_); dsimp only [sS, sZ] at hl_; subst hl_)) | ((with_reducible refine isStore ?_); first | refine aSt ?_) | ((with_reducible refine isBox ?_); first | (refine aBox (fun n_ l_ hl_ => ?_); dsimp only [sS, sZ] at hl_; subst hl_)) | ((with_reducible refine isAlloc ?_); first | (refine aAl (fun n_ l_ hl_ => ?_); dsimp only [sS, sZ] at hl_; subst hl_)) | refine aV ?_) | ((with_reducible refine isWp ?_); first | (refine wpS_seq (fun K_ hK_ => ?_)) | (refine wpS_region ?_) | (refine wpS_cond rfl (fun h_ => ?_) (fun h_ => ?_) <;> (try (simp only [beq_iff_eq, bne_iff_ne, beq_eq_false_iff_ne, bne_eq_false_iff_eq, ne_eq, decide_eq_true_eq, decide_eq_false_iff_not, Bool.and_eq_true, Bool.or_eq_true, Bool.and_eq_false_iff, Bool.or_eq_false_iff, Bool.false_eq_true, Bool.true_eq_false, reduceCtorEq] at h_)) <;> (try (first | (with_reducible contradiction) | (exfalso; omega)))) | (refine wpS_block ?_) | (refine wpS_ret ?_; (try simp only [thenS, blockS])) | (refine wpS_exit ?_; simp only [thenS, blockS, ↓reduceIte, Nat.reduceEqDiff]) | (refine wpS_skip ?_; (try simp only [thenS, blockS]))) | (refine useK (by with_reducible assumption) ?_)))
                (refine hO_ _ ([bund _, own _ _ _ _ _ _, blk P9 _ _, mpb _ _ _ _, blk P4 _ _]) _ rfl ?_ (by first | ((repeat (first | exact List.Sublist.refl _ | exact List.nil_sublist _ | apply List.Sublist.cons_cons | apply List.Sublist.cons)); done) | fail) ?_ <;> dsimp only [List.getD_cons_succ, List.getD_cons_zero])
                · refine ⟨i + 1, M1.eraseIdx m, cc, A_, c_, by omega, by go_num, ?_, hdrop.out.1, fun k' => ?_, hdrop.out.2.2, by rw [hY.out]; simp only [List.length_append, List.length_cons, List.length_nil]; omega, ?_⟩
                  · rw [hY.out]
                    show Value.slice A_ ((almSt x l i).out.length + 1) c_ = _
                    rw [List.length_append]
                    rfl
                  · rw [hdrop.out.2.1 k', hY.out]
                    simp only [hT1.out]
                  · rw [hY.out, erase_set, map_erase, map_erase]
                    simp only [List.map_append, List.map_cons, List.map_nil, List.flatMap_append, List.flatMap_cons, List.flatMap_nil, List.append_nil, List.length_append, List.length_cons, List.length_nil]
                    first | done | rfl
                · rw [hu22]; simp [intOf]; omega
              · have hN := Lib.hid (hno1.out hmany)
                refine wpS_weaken (fun w h => (h.drop.drop.drop).giveAt m hrl) ?_
                (repeat' (first | ((with_reducible refine isOps ?_); first | (refine seqS_nil ?_; (try simp only [thenS, blockS])) | ((with_reducible refine isBuildSlice ?_); first | (refine aBs (fun n_ l_ hl_ => ?_); dsimp only [sS, sZ] at hl_; subst hl_)) | ((with_reducible refine isBuiltin ?_); first | (refine aApp (fun A_ c_ l_ hl_ => ?_); dsimp only [sS, sZ] at hl_; subst hl_)) | ((with_reducible refine isStore ?_); first | refine aSt ?_) | ((with_reducible refine isBox ?_); first | (refine aBox (fun n_ l_ hl_ => ?_); dsimp only [sS, sZ] at hl_; subst hl_)) | ((with_reducible refine isAlloc ?_); first | (refine aAl (fun n_ l_ hl_ => ?_); dsimp only [sS, sZ] at hl_; subst hl_)) | refine aV ?_) | ((with_reducible refine isWp ?_); first | (refine wpS_seq (fun K_ hK_ => ?_)) | (refine wpS_region ?_) | (refine wpS_cond rfl (fun h_ => ?_) (fun h_ => ?_) <;> (try (simp only [beq_iff_eq, bne_iff_ne, beq_eq_false_iff_ne, bne_eq_false_iff_eq, ne_eq, decide_eq_true_eq, decide_eq_false_iff_not, Bool.and_eq_true, Bool.or_eq_true, Bool.and_eq_false_iff, Bool.or_eq_false_iff, Bool.false_eq_true, Bool.true_eq_false, reduceCtorEq] at h_)) <;> (try (first | (with_reducible contradiction) | (exfalso; omega)))) | (refine wpS_block ?_) | (refine wpS_ret ?_; (try simp only [thenS, blockS])) | (refine wpS_exit ?_; simp only [thenS, blockS, ↓reduceIte, Nat.reduceEqDiff]) | (refine wpS_skip ?_; (try simp only [thenS, blockS]))) | (refine useK (by with_reducible assumption) ?_)))
                (refine hO_ _ ([bund _, own _ _ _ _ _ _, blk P9 _ _, mpb _ _ _ _, blk P4 _ _]) _ rfl ?_ (by first | ((repeat (first | exact List.Sublist.refl _ | exact List.nil_sublist _ | apply List.Sublist.cons_cons | apply List.Sublist.cons)); done) | fail) ?_ <;> dsimp only [List.getD_cons_succ, List.getD_cons_zero])
                · obtain ⟨hk1, hk2, hk3⟩ := hkeep.out (some ⟨b2, 0, none⟩) c1
                  refine ⟨i + 1, M1.set m ⟨k, ts2, some ⟨b2, 0, none⟩, c1, bn⟩, cc, A', cap', by omega, by go_num, ?_, hk1, fun k' => ?_, hk3, by rw [hN.out]; simp only; omega, ?_⟩
                  · rw [hN.out]
                    rfl
                  · rw [hk2 k', hN.out]
                    simp only [hT1.out]
                  · rw [hN.out, List.map_set, List.map_set]
                    rfl
                · rw [hu22]; simp [intOf]; omega
        · have hM1 : M[n]? = some M[n] := List.getElem?_eq_getElem hn
          rcases he : M[n] with ⟨k', ts, A0, c0, bn⟩
          rw [he] at hM1 hMk
          simp only at hMk
          rw [hMk] at hM1
          clear he hMk
          obtain ⟨M1, hM1e⟩ : ∃ M1, M1 = M := ⟨_, rfl⟩
          subst hM1e
          have hEn : (M1.map entOf)[n]? = some ⟨k, .slice A0 ts.length c0, bn⟩ := by rw [List.getElem?_map, hM1]; rfl
          have hRn : (M1.map rowOf)[n]? = some (tsRow A0 c0 ts) := by rw [List.getElem?_map, hM1]; rfl
          replace hEn := Lib.hid hEn
          replace hRn := Lib.hid hRn
          have hinv1 := hinv
          have hT1 := hT.out
          have hMb := hM
          clear hinv hM hT
          obtain ⟨m, hmn⟩ : ∃ m, m = n := ⟨_, rfl⟩
          subst hmn
          have hfK := hinv1.firstKE hM1
          have hfB := hinv1.firstBE hM1
          simp only at hfK hfB
          replace hfK := Lib.hid hfK
          replace hfB := Lib.hid hfB
          have hTs : (almSt x l i).T k = ts := by rw [← hT1 k]; exact times_atE hinv1 hM1
          have hml : m < (M1.map entOf).length := by simpa using (at_some hM1).1
          have hrl : m < (M1.map rowOf).length := by simpa using (at_some hM1).1
          have hyes := Lib.hid fun h => step_yes (ts := ts) hst.out hre hk hTs h
          have hno1 := Lib.hid fun h => step_no (ts := ts) hst.out hre hk hTs h
          have hkeep := Lib.hid fun A1 c1 => step_keep hinv1 hM1 A1 c1 hMb hy64
          have hdrop := Lib.hid (step_drop hinv1 hM1 hMb)
          have htl : ts.length ≤ i := (hMb _ (List.mem_of_getElem? hM1)).1
          have htr := Lib.hid (hMb _ (List.mem_of_getElem? hM1)).2
          replace hT1 := Lib.hid hT1
          have hMx := Lib.hid hM1
          clear hinv1 hM1 hMb hTs
          refine wpS_weaken (fun w h => h.takeAt m hRn.out) ?_
          (repeat' (first | ((with_reducible refine isOps ?_); first | (refine seqS_nil ?_; (try simp only [thenS, blockS])) | ((with_reducible refine isMapEntry ?_); (refine seqS_entryE keyTy k m hEn.out hfK.out (by first | exact want_none rfl | (refine want_t rfl rfl rfl ?_; with_reducible rfl) | (refine want_f rfl rfl rfl ?_; with_reducible rfl)) Try.underlying89 rfl rfl (by first | ((repeat (first | exact .head _ | apply List.Mem.tail)); done) | fail) (by dsimp only [List.set_cons_succ, List.set_cons_zero]) ?_)) | ((with_reducible refine isEntryStore ?_); (refine seqS_entryStoreE m (he := by rw [List.getElem?_map, hMx.out]; rfl) hfB.out (by first | exact want_none rfl | (refine want_t rfl rfl rfl ?_; with_reducible rfl) | (refine want_f rfl rfl rfl ?_; with_reducible rfl)) rfl rfl rfl (by first | ((repeat (first | exact .head | apply Upd.tail)); done) | fail) ?_)) | ((with_reducible refine isLookup ?_); (refine seqS_v (by first | exact want_none rfl | (refine want_t rfl rfl rfl ?_; with_reducible rfl) | (refine want_f rfl rfl rfl ?_; with_reducible rfl)) rfl (opv_lookupE (zv := .slice none 0 0) keyTy k m (he := at_set hml _) (hu := firstK_set hfK.out _) Try.underlying89 (fun w => by go_simp) rfl rfl (by first | ((repeat (first | exact .head _ | apply List.Mem.tail)); done) | fail)) (by dsimp only [List.set_cons_succ, List.set_cons_zero]) ?_)) | ((first | ((with_reducible refine isCallF ?_); refine aCF ?_) | ((with_reducible refine isCallV ?_); refine aCV ?_)); first | refine cS0 (fun w_ hs_ => hKi.out _) ?_) | ((with_reducible refine isBuildSlice ?_); first | (refine aBs (fun n_ l_ hl_ => ?_); dsimp only [sS, sZ] at hl_; subst hl_)) | ((with_reducible refine isBuiltin ?_); first | (refine aApp (fun A_ c_ l_ hl_ => ?_); dsimp only [sS, sZ] at hl_; subst hl_)) | ((with_reducible refine isStore ?_); first | refine aSt ?_) | ((with_reducible refine isBox ?_); first | (refine aBox (fun n_ l_ hl_ => ?_); dsimp only [sS, sZ] at hl_; subst hl_)) | ((with_reducible refine isAlloc ?_); first | (refine aAl (fun n_ l_ hl_ => ?_); dsimp only [sS, sZ] at hl_; subst hl_)) | refine aVh (opv_bin rfl rfl (fun w_ hs_ => by (with_reducible exact HC.out _ hs_.mod))) ?_ | refine aV ?_ | refine aVh (opv_loadO rfl (fun w_ hs_ => by (with_reducible exact HC.out _ hs_.mod))) ?_) | ((with_reducible refine isWp ?_); first | (refine wpS_seq (fun K_ hK_ => ?_)) | (refine wpS_region ?_) | (refine wpS_cond rfl (fun h_ => ?_) (fun h_ => ?_) <;> (try (simp only [beq_iff_eq, bne_iff_ne, beq_eq_false_iff_ne, bne_eq_false_iff_eq, ne_eq, decide_eq_true_eq, decide_eq_false_iff_not, Bool.and_eq_true, Bool.or_eq_true, Bool.and_eq_false_iff, Bool.or_eq_false_iff, Bool.false_eq_true, Bool.true_eq_false, reduceCtorEq] at h_)) <;> (try (first | (with_reducible contradiction) | (exfalso; omega)))) | (refine wpS_block ?_) | (refine wpS_ret ?_; (try simp only [thenS, blockS])) | (refine wpS_exit ?_; simp only [thenS, blockS, ↓reduceIte, Nat.reduceEqDiff]) | (refine wpS_skip ?_; (try simp only [thenS, blockS]))) | (refine useK (by with_reducible assumption) ?_)))
          revert c_ A_ n_
          rename Nat => P12
          revert P12
          rename Nat => P11
          intro P12 P13 A1 c1
          obtain ⟨cc, hcc⟩ : ∃ cc, cc = c := ⟨c, rfl⟩
          subst hcc
          rw [tsRow_push]
          obtain ⟨ts2, hts2⟩ : ∃ ts2, ts2 = ts ++ [y.time] := ⟨_, rfl⟩
          have hl2 : ts.length + 1 = ts2.length := by rw [hts2]; simp
          have hts3 : ∀ t ∈ ts2, -9223372036854775808 ≤ t ∧ t ≤ 9223372036854775807 := fun t ht => by
            rw [hts2] at ht
            rcases List.mem_append.1 ht with ht | ht
            · exact htr.out t ht
            · obtain rfl := List.mem_singleton.1 ht
              exact hy64
          replace hts3 := Lib.hid hts3
          rw [← hts2, hl2]
          rw [← hts2] at hyes hno1 hkeep
          clear hts2 htr
          have hpos : 0 < ts2.length ∧ ts2.length ≤ i + 1 := by omega
          have hl3 : ts.length + 1 ≤ ts2.length ∧ ts2.length ≤ ts.length + 1 := by omega
          clear hl2
          refine wpS_know (Φ := ∃ b2, A1 = some ⟨b2, 0, none⟩) (fun w h => row_some (h.all (tsRow A1 c1 ts2) (by first | ((repeat (first | exact .head _ | apply List.Mem.tail)); done) | fail)) hpos.1) (fun hA => ?_)
          obtain ⟨b2, rfl⟩ := hA
          ((with_reducible refine isLoop ?_); refine wpS_loopU [false, false, false, false, false, false, false, false, false, false, false, false, false, true, false, true, false, false, false, false, false, false, false, false, false, false, false, false, false, false, false, false, false, false, false, false, false, false, false, false, false, false, false, false, false, false, false, false, false, true, true, true, true, true, true, true, true, true, true, true, true, true, false, false, false, false, false, false, false, false, false, false, false, false, false, false, false] (fun u rs_ => ∃ (j : Nat), j ≤ ts2.length ∧ u 49 = .int .i64 j ∧ u 13 = .int .i64 (lateN (ts2.take j) y.time x.time) ∧ rs_ = [blk P13 [.int .i64 y.time] 3, blk P12 [.int .u32 k.src, .int .u32 k.dst, .int .i64 k.proto, .int .i64 k.sport, .int .i64 k.dport] 56, blk P11 (lnCells y) 58, tsRow (some ⟨b2, 0, none⟩) c1 ts2, bund ((M1.map rowOf).eraseIdx m), own A' cap' 61 3 (almSt x l i).out.length (((almSt x l i).out.map fun p => (at_, p.1, p.2)).flatMap enAlm), blk P9 [.func (.func f) #[] #[]] 80, mpb fkv B ((M1.map entOf).set m ⟨k, .slice (some ⟨b2, 0, none⟩) ts2.length c1, bn⟩) cc, blk P4 (wcCells x) 51]) (fun u => ts2.length - (intOf (u 49)).toNat) ?_ (fun u rs_ l_ K_ hN_ hl_ hR => ?_))
          · exact ⟨0, Nat.zero_le _, rfl, rfl, rfl⟩
          · (simp only [mask_t, mask_f, mask_n, Nat.reduceAdd] at hl_; subst hl_)
            obtain ⟨j, hj, hu49, hu13, rfl⟩ := hR
            rw [hu49, hu13]
            by_cases hjl : j < ts2.length
            · have hLt := Lib.hid fun w' => late_any ts2[j] y.time x.time (hts3.out _ (List.getElem_mem hjl)) hy64 (by omega) w'
              have hsn := Lib.hid (lateN_snoc ts2 j hjl y.time x.time)
              have hln : lateN (ts2.take j) y.time x.time ≤ j := Nat.le_trans (lateN_le _ _ _) (by rw [List.length_take]; omega)
              generalize lateOf ts2[j] y.time x.time = L at hLt hsn
              rcases L with _ | _
              all_goals
                (repeat' (first | ((with_reducible refine isOps ?_); first | (refine seqS_nil ?_; (try simp only [thenS, blockS])) | ((first | ((with_reducible refine isCallF ?_); refine aCF ?_) | ((with_reducible refine isCallV ?_); refine aCV ?_)); first | refine cS0 (fun w_ hs_ => hLt.out _) ?_) | ((with_reducible refine isBuildSlice ?_); first | (refine aBs (fun n_ l_ hl_ => ?_); dsimp only [sS, sZ] at hl_; subst hl_)) | ((with_reducible refine isBuiltin ?_); first | (refine aApp (fun A_ c_ l_ hl_ => ?_); dsimp only [sS, sZ] at hl_; subst hl_)) | ((with_reducible refine isStore ?_); first | refine aSt ?_) | ((with_reducible refine isBox ?_); first | (refine aBox (fun n_ l_ hl_ => ?_); dsimp only [sS, sZ] at hl_; subst hl_)) | ((with_reducible refine isAlloc ?_); first | (refine aAl (fun n_ l_ hl_ => ?_); dsimp only [sS, sZ] at hl_; subst hl_)) | refine aV ?_) | ((with_reducible refine isWp ?_); first | (refine wpS_seq (fun K_ hK_ => ?_)) | (refine wpS_region ?_) | (refine wpS_cond rfl (fun h_ => ?_) (fun h_ => ?_) <;> (try (simp only [beq_iff_eq, bne_iff_ne, beq_eq_false_iff_ne, bne_eq_false_iff_eq, ne_eq, decide_eq_true_eq, decide_eq_false_iff_not, Bool.and_eq_true, Bool.or_eq_true, Bool.and_eq_false_iff, Bool.or_eq_false_iff, Bool.false_eq_true, Bool.true_eq_false, reduceCtorEq] at h_)) <;> (try (first | (with_reducible contradiction) | (exfalso; omega)))) | (refine wpS_block ?_) | (refine wpS_ret ?_; (try simp only [thenS, blockS])) | (refine wpS_exit ?_; simp only [thenS, blockS, ↓reduceIte, Nat.reduceEqDiff]) | (refine wpS_skip ?_; (try simp only [thenS, blockS]))) | (refine useK (by with_reducible assumption) ?_)))
                refine aVh (opv_loadO rfl (fun w_ hs_ => row_get (hs_.all (tsRow _ _ _) (by first | ((repeat (first | exact .head _ | apply List.Mem.tail)); done) | fail)) j hjl)) ?_
                (repeat' (first | ((with_reducible refine isOps ?_); first | (refine seqS_nil ?_; (try simp only [thenS, blockS])) | ((first | ((with_reducible refine isCallF ?_); refine aCF ?_) | ((with_reducible refine isCallV ?_); refine aCV ?_)); first | refine cS0 (fun w_ hs_ => hLt.out _) ?_) | ((with_reducible refine isBuildSlice ?_); first | (refine aBs (fun n_ l_ hl_ => ?_); dsimp only [sS, sZ] at hl_; subst hl_)) | ((with_reducible refine isBuiltin ?_); first | (refine aApp (fun A_ c_ l_ hl_ => ?_); dsimp only [sS, sZ] at hl_; subst hl_)) | ((with_reducible refine isStore ?_); first | refine aSt ?_) | ((with_reducible refine isBox ?_); first | (refine aBox (fun n_ l_ hl_ => ?_); dsimp only [sS, sZ] at hl_; subst hl_)) | ((with_reducible refine isAlloc ?_); first | (refine aAl (fun n_ l_ hl_ => ?_); dsimp only [sS, sZ] at hl_; subst hl_)) | refine aV ?_) | ((with_reducible refine isWp ?_); first | (refine wpS_seq (fun K_ hK_ => ?_)) | (refine wpS_region ?_) | (refine wpS_cond rfl (fun h_ => ?_) (fun h_ => ?_) <;> (try (simp only [beq_iff_eq, bne_iff_ne, beq_eq_false_iff_ne, bne_eq_false_iff_eq, ne_eq, decide_eq_true_eq, decide_eq_false_iff_not, Bool.and_eq_true, Bool.or_eq_true, Bool.and_eq_false_iff, Bool.or_eq_false_iff, Bool.false_eq_true, Bool.true_eq_false, reduceCtorEq] at h_)) <;> (try (first | (with_reducible contradiction) | (exfalso; omega)))) | (refine wpS_block ?_) | (refine wpS_ret ?_; (try simp only [thenS, blockS])) | (refine wpS_exit ?_; simp only [thenS, blockS, ↓reduceIte, Nat.reduceEqDiff]) | (refine wpS_skip ?_; (try simp only [thenS, blockS]))) | (refine useK (by with_reducible assumption) ?_)))
                (refine hN_ _ (_) _ rfl ?_ (List.Sublist.refl _) ?_ <;> dsimp only [List.getD_cons_succ, List.getD_cons_zero])
                · exact ⟨j + 1, by omega, by go_num, by rw [hsn.out]; simp, rfl⟩
                · rw [hu49]; simp [intOf]; omega
            · have hje : j = ts2.length := by omega
              subst hje
              rw [List.take_length]
              by_cases hmany : x.many ≤ (lateN ts2 y.time x.time : Int)
              · have hY := Lib.hid (hyes.out hmany)
                (repeat' (first | ((with_reducible refine isOps ?_); first | (refine seqS_nil ?_; (try simp only [thenS, blockS])) | ((with_reducible refine isDelete ?_); (refine seqS_deleteE keyTy k m (at_set hml _) (firstK_set hfK.out _) (by first | exact want_none rfl | (refine want_t rfl rfl rfl ?_; with_reducible rfl) | (refine want_f rfl rfl rfl ?_; with_reducible rfl)) Try.underlying89 rfl rfl (by first | ((repeat (first | exact .head | apply Upd.tail)); done) | fail) ?_)) | ((with_reducible refine isBuildSlice ?_); first | (refine aBs (fun n_ l_ hl_ => ?_); dsimp only [sS, sZ] at hl_; subst hl_)) | ((with_reducible refine isBuiltin ?_); first | (refine aApp (fun A_ c_ l_ hl_ => ?_); dsimp only [sS, sZ] at hl_; subst hl_)) | ((with_reducible refine isStore ?_); first | refine aSt ?_) | ((with_reducible refine isBox ?_); first | (refine aBox (fun n_ l_ hl_ => ?_); dsimp only [sS, sZ] at hl_; subst hl_)) | ((with_reducible refine isAlloc ?_); first | (refine aAl (fun n_ l_ hl_ => ?_); dsimp only [sS, sZ] at hl_; subst hl_)) | refine aV ?_) | ((with_reducible refine isWp ?_); first | (refine wpS_seq (fun K_ hK_ => ?_)) | (refine wpS_region ?_) | (refine wpS_cond rfl (fun h_ => ?_) (fun h_ => ?_) <;> (try (simp only [beq_iff_eq, bne_iff_ne, beq_eq_false_iff_ne, bne_eq_false_iff_eq, ne_eq, decide_eq_true_eq, decide_eq_false_iff_not, Bool.and_eq_true, Bool.or_eq_true, Bool.and_eq_false_iff, Bool.or_eq_false_iff, Bool.false_eq_true, Bool.true_eq_false, reduceCtorEq] at h_)) <;> (try (first | (with_reducible contradiction) | (exfalso; omega)))) | (refine wpS_block ?_) | (refine wpS_ret ?_; (try simp only [thenS, blockS])) | (refine wpS_exit ?_; simp only [thenS, blockS, ↓reduceIte, Nat.reduceEqDiff]) | (refine wpS_skip ?_; (try simp only [thenS, blockS]))) | (refine useK (by with_reducible assumption) ?_)))
                (refine hO_ _ ([bund _, own _ _ _ _ _ _, blk P9 _ _, mpb _ _ _ _, blk P4 _ _]) _ rfl ?_ (by first | ((repeat (first | exact List.Sublist.refl _ | exact List.nil_sublist _ | apply List.Sublist.cons_cons | apply List.Sublist.cons)); done) | fail) ?_ <;> dsimp only [List.getD_cons_succ, List.getD_cons_zero])
                · refine ⟨i + 1, M1.eraseIdx m, cc, A_, c_, by omega, by go_num, ?_, hdrop.out.1, fun k' => ?_, hdrop.out.2.2, by rw [hY.out]; simp only [List.length_append, List.length_cons, List.length_nil]; omega, ?_⟩
                  · rw [hY.out]
                    show Value.slice A_ ((almSt x l i).out.length + 1) c_ = _
                    rw [List.length_append]
                    rfl
                  · rw [hdrop.out.2.1 k', hY.out]
                    simp only [hT1.out]
                  · rw [hY.out, erase_set, map_erase, map_erase]
                    simp only [List.map_append, List.map_cons, List.map_nil, List.flatMap_append, List.flatMap_cons, List.flatMap_nil, List.append_nil, List.length_append, List.length_cons, List.length_nil]
                    first | done | rfl
                · rw [hu22]; simp [intOf]; omega
              · have hN := Lib.hid (hno1.out hmany)
                refine wpS_weaken (fun w h => (h.drop.drop.drop).giveAt m hrl) ?_
                (repeat' (first | ((with_reducible refine isOps ?_); first | (refine seqS_nil ?_; (try simp only [thenS, blockS])) | ((with_reducible refine isBuildSlice ?_); first | (refine aBs (fun n_ l_ hl_ => ?_); dsimp only [sS, sZ] at hl_; subst hl_)) | ((with_reducible refine isBuiltin ?_); first | (refine aApp (fun A_ c_ l_ hl_ => ?_); dsimp only [sS, sZ] at hl_; subst hl_)) | ((with_reducible refine isStore ?_); first | refine aSt ?_) | ((with_reducible refine isBox ?_); first | (refine aBox (fun n_ l_ hl_ => ?_); dsimp only [sS, sZ] at hl_; subst hl_)) | ((with_reducible refine isAlloc ?_); first | (refine aAl (fun n_ l_ hl_ => ?_); dsimp only [sS, sZ] at hl_; subst hl_)) | refine aV ?_) | ((with_reducible refine isWp ?_); first | (refine wpS_seq (fun K_ hK_ => ?_)) | (refine wpS_region ?_) | (refine wpS_cond rfl (fun h_ => ?_) (fun h_ => ?_) <;> (try (simp only [beq_iff_eq, bne_iff_ne, beq_eq_false_iff_ne, bne_eq_false_iff_eq, ne_eq, decide_eq_true_eq, decide_eq_false_iff_not, Bool.and_eq_true, Bool.or_eq_true, Bool.and_eq_false_iff, Bool.or_eq_false_iff, Bool.false_eq_true, Bool.true_eq_false, reduceCtorEq] at h_)) <;> (try (first | (with_reducible contradiction) | (exfalso; omega)))) | (refine wpS_block ?_) | (refine wpS_ret ?_; (try simp only [thenS, blockS])) | (refine wpS_exit ?_; simp only [thenS, blockS, ↓reduceIte, Nat.reduceEqDiff]) | (refine wpS_skip ?_; (try simp only [thenS, blockS]))) | (refine useK (by with_reducible assumption) ?_)))
                (refine hO_ _ ([bund _, own _ _ _ _ _ _, blk P9 _ _, mpb _ _ _ _, blk P4 _ _]) _ rfl ?_ (by first | ((repeat (first | exact List.Sublist.refl _ | exact List.nil_sublist _ | apply List.Sublist.cons_cons | apply List.Sublist.cons)); done) | fail) ?_ <;> dsimp only [List.getD_cons_succ, List.getD_cons_zero])
                · obtain ⟨hk1, hk2, hk3⟩ := hkeep.out (some ⟨b2, 0, none⟩) c1
                  refine ⟨i + 1, M1.set m ⟨k, ts2, some ⟨b2, 0, none⟩, c1, bn⟩, cc, A', cap', by omega, by go_num, ?_, hk1, fun k' => ?_, hk3, by rw [hN.out]; simp only; omega, ?_⟩
                  · rw [hN.out]
                    rfl
                  · rw [hk2 k', hN.out]
                    simp only [hT1.out]
                  · rw [hN.out, List.map_set, List.map_set]
                    rfl
                · rw [hu22]; simp [intOf]; omega
    · have hil : i = l.length := by omega
      subst hil
      (repeat' (first | ((with_reducible refine isOps ?_); first | (refine seqS_nil ?_; (try simp only [thenS, blockS])) | ((with_reducible refine isBuildSlice ?_); first | (refine aBs (fun n_ l_ hl_ => ?_); dsimp only [sS, sZ] at hl_; subst hl_)) | ((with_reducible refine isBuiltin ?_); first | (refine aApp (fun A_ c_ l_ hl_ => ?_); dsimp only [sS, sZ] at hl_; subst hl_)) | ((with_reducible refine isStore ?_); first | refine aSt ?_) | ((with_reducible refine isBox ?_); first | (refine aBox (fun n_ l_ hl_ => ?_); dsimp only [sS, sZ] at hl_; subst hl_)) | ((with_reducible refine isAlloc ?_); first | (refine aAl (fun n_ l_ hl_ => ?_); dsimp only [sS, sZ] at hl_; subst hl_)) | refine aV ?_) | ((with_reducible refine isWp ?_); first | (refine wpS_seq (fun K_ hK_ => ?_)) | (refine wpS_region ?_) | (refine wpS_cond rfl (fun h_ => ?_) (fun h_ => ?_) <;> (try (simp only [beq_iff_eq, bne_iff_ne, beq_eq_false_iff_ne, bne_eq_false_iff_eq, ne_eq, decide_eq_true_eq, decide_eq_false_iff_not, Bool.and_eq_true, Bool.or_eq_true, Bool.and_eq_false_iff, Bool.or_eq_false_iff, Bool.false_eq_true, Bool.true_eq_false, reduceCtorEq] at h_)) <;> (try (first | (with_reducible contradiction) | (exfalso; omega)))) | (refine wpS_block ?_) | (refine wpS_ret ?_; (try simp only [thenS, blockS])) | (refine wpS_exit ?_; simp only [thenS, blockS, ↓reduceIte, Nat.reduceEqDiff]) | (refine wpS_skip ?_; (try simp only [thenS, blockS]))) | (refine useK (by with_reducible assumption) ?_)))
      (first | refine r1_ Try.results27 (fun w_ hs_ => ?_) | refine r2_ Try.results27 (fun w_ hs_ => ?_) | refine r3_ Try.results27 (fun w_ hs_ => ?_) | refine retS0 Try.results27 (fun w_ hs_ => ?_) | refine retN0 Try.results27 (fun w_ hs_ => ?_))
      exact ⟨(A', cap'), rfl, hs_.made (by first | ((repeat (first | exact .head _ | apply List.Mem.tail)); done) | fail)⟩
end Go.Proofs.Ytedkjhbdbonmiaa

