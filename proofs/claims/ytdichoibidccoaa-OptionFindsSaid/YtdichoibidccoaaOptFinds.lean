/- OptionFinds: P4.2: of any options the first one of a kind, how many there are, and all others. No condition. -/
import Derived.Test.YtdichoibidccoaaOptC
import Derived.Test.YtdichoibidccoaaOpt9
import Derived.Test.YtdichoibidccoaaOpt8
set_option linter.unusedVariables false
set_option linter.unusedSimpArgs false
namespace Go.Proofs.Ytdichoibidccoaa
set_option maxRecDepth 8000
attribute [local irreducible] blk wpS seqS ordS OpVal RV endS LoadV StoreV Calls
open Go.RowKit
theorem idxOf_snoc {α : Type} (p : α → Bool) (l : List α) (i : Nat) (h : i < l.length) : idxOf p (l.take (i + 1)) = if idxOf p (l.take i) < 0 then (if p l[i] then (i : Int) else -1) else idxOf p (l.take i) := by
  unfold idxOf
  rw [List.take_succ_eq_append_getElem h, List.findIdx?_append]
  cases hf : (l.take i).findIdx? p with
  | some k =>
    simp only [Option.or_some, Option.some_or]
    rw [if_neg (by omega)]
  | none =>
    simp only [Option.none_or]
    rw [if_pos (by decide)]
    cases hp : p l[i] <;> simp [List.findIdx?_cons, hp, List.length_take]
    omega
theorem left_snoc (l : List Opt) (a b : Int) (i : Nat) (h : i < l.length) : leftOf (l.take (i + 1)) a b = leftOf (l.take i) a b ++ (if l[i].1 == a || l[i].1 == b then [] else [l[i]]) := by
  unfold leftOf
  rw [List.take_succ_eq_append_getElem h, List.filter_append]
  congr 1
  cases hp : (l[i].1 == a || l[i].1 == b) <;> simp [List.filter, hp]
theorem idxOf_rng {α : Type} (p : α → Bool) (l : List α) : -1 ≤ idxOf p l ∧ idxOf p l ≤ l.length := by
  unfold idxOf
  cases hf : l.findIdx? p with
  | none => exact ⟨by decide, by simp only; omega⟩
  | some k =>
    rw [List.findIdx?_eq_some_iff_getElem] at hf
    obtain ⟨h1, _⟩ := hf
    exact ⟨by simp only; omega, by simp only; omega⟩
set_option maxHeartbeats 8000000 in
theorem finds_any (v : Value) (l : List Opt) (a b : Int) (w : World) (hr : Structs enOpt 2 w v l) : Calls Try.prog 4 #[v, .int .i64 a, .int .i64 b] w fun e w' => e = .returned (.bool true) ∧ Mod [] w w' := by
  have HG : Hid (∀ w', Mod [] w w' → Calls Try.prog 12 #[v] w' fun e w'' => e = .returned (.bool (great l)) ∧ Mod [] w' w'') := Lib.hid fun w' hm => Great_any v l w' (hr.mod0 hm)
  rcases hg : great l with _ | _
  case true =>
    rw [hg] at HG
    (refine enterS ([]) (Sep.start _ []) Try.func4 rfl ?_; simp only [Try.ntmps4, List.size_toArray, List.length_cons, List.length_nil, Nat.reduceAdd, Nat.reduceSub, Array.replicate_succ, Array.replicate_zero, List.push_toArray, List.append_toArray, List.nil_append, List.cons_append])
    (repeat' (first | ((with_reducible refine isOps ?_); first | (refine seqS_nil ?_; (try simp only [thenS, blockS])) | ((first | ((with_reducible refine isCallF ?_); refine aCF ?_) | ((with_reducible refine isCallV ?_); refine aCV ?_)); first | refine cS0 (fun w_ hs_ => HG.out _ hs_.mod) ?_ | refine cS0 (fun w_ hs_ => awake04_any _) ?_) | ((with_reducible refine isBuildSlice ?_); first | (refine aBs (fun n_ l_ hl_ => ?_); dsimp only [sS, sZ] at hl_; subst hl_)) | ((with_reducible refine isBuiltin ?_); first | (refine aApp (fun A_ c_ l_ hl_ => ?_); dsimp only [sS, sZ] at hl_; subst hl_)) | refine aV ?_ | refine aNo ?_ | refine aNo' ?_ | ((fail_if_success (refine aIsT ?_)); (fail_if_success (refine aIsF ?_)); refine seqS_guard rfl rfl rfl (fun l_ hl_ h_ => ?_) (fun l_ hl_ h_ => ?_) <;> (dsimp only [sS, sZ] at hl_; subst hl_; (try (simp only [beq_iff_eq, bne_iff_ne, beq_eq_false_iff_ne, bne_eq_false_iff_eq, ne_eq, decide_eq_true_eq, decide_eq_false_iff_not, Bool.and_eq_true, Bool.or_eq_true, Bool.and_eq_false_iff, Bool.or_eq_false_iff, Bool.not_eq_true', Bool.not_eq_false', Bool.false_eq_true, Bool.true_eq_false, reduceCtorEq] at h_)); (try (first | (with_reducible contradiction) | (exfalso; omega)))))) | ((with_reducible refine isWp ?_); first | (refine wpS_seq (fun K_ hK_ => ?_)) | (refine wpS_region ?_) | (refine wpS_cond rfl (fun h_ => ?_) (fun h_ => ?_) <;> (try (simp only [beq_iff_eq, bne_iff_ne, beq_eq_false_iff_ne, bne_eq_false_iff_eq, ne_eq, decide_eq_true_eq, decide_eq_false_iff_not, Bool.and_eq_true, Bool.or_eq_true, Bool.and_eq_false_iff, Bool.or_eq_false_iff, Bool.false_eq_true, Bool.true_eq_false, reduceCtorEq] at h_)) <;> (try (first | (with_reducible contradiction) | (exfalso; omega)))) | (refine wpS_block ?_) | (refine wpS_ret ?_; (try simp only [thenS, blockS])) | (refine wpS_exit ?_; simp only [thenS, blockS, ↓reduceIte, Nat.reduceEqDiff]) | (refine wpS_skip ?_; (try simp only [thenS, blockS]))) | (refine useK (by with_reducible assumption) ?_)))
    (first | refine r1_ Try.results4 (fun w_ hs_ => ?_) | refine r2_ Try.results4 (fun w_ hs_ => ?_) | refine r3_ Try.results4 (fun w_ hs_ => ?_) | refine retS0 Try.results4 (fun w_ hs_ => ?_) | refine retN0 Try.results4 (fun w_ hs_ => ?_))
    exact ⟨rfl, hs_.mod⟩
  rw [hg] at HG
  have hlen := (great_not hg).1
  have HF : Hid (∀ w', Mod [] w w' → Calls Try.prog 20 #[v, .int .i64 a] w' fun e w'' => e = .returned (.tuple #[.int .i64 (idxOf (fun o : Opt => o.1 == a) l), .int .i64 (countOf a l)]) ∧ Mod [] w' w'') := Lib.hid fun w' hm => Find_any v l a w' (hr.mod0 hm)
  have HW : Hid (∀ (n : Nat) (w' : World), Mod [] w w' → Blk w' n [.int .i64 a, .int .i64 b] 3 → Calls Try.prog 22 #[v, .slice (some ⟨n, 0, none⟩) 2 2] w' (Makes (fun i : Option Addr × Nat => .slice i.1 (leftOf l a b).length i.2) (fun i => own i.1 i.2 33 2 (leftOf l a b).length ((leftOf l a b).flatMap enOpt)) w')) := Lib.hid fun n w' hm hb => Without_any v l a b n w' (hr.mod0 hm) (by omega) hb
  have S1 : Hid (∀ (A A' : Option Addr) (c c' : Nat) (w' : World), Structs enOpt 2 w' (.slice A (leftOf l a b).length c) (leftOf l a b) → Structs enOpt 2 w' (.slice A' (leftOf l a b).length c') (leftOf l a b) → Calls Try.prog 21 #[.slice A (leftOf l a b).length c, .slice A' (leftOf l a b).length c'] w' fun e w'' => e = .returned (.bool true) ∧ Mod [] w' w'') := Lib.hid fun A A' c c' w' h h' => by
    have := refSame_any _ _ _ _ w' h h'
    rwa [decide_eq_true rfl] at this
  have S2 : Hid (∀ (A' : Option Addr) (c' : Nat) (w' : World), Mod [] w w' → Structs enOpt 2 w' (.slice A' (leftOf l a b).length c') (leftOf l a b) → Calls Try.prog 21 #[v, .slice A' (leftOf l a b).length c'] w' fun e w'' => e = .returned (.bool (decide (l = leftOf l a b))) ∧ Mod [] w' w'') := Lib.hid fun A' c' w' hm h' => refSame_any _ _ _ _ w' (hr.mod0 hm) h'
  have S3 : Hid (∀ (A' : Option Addr) (c' : Nat) (w' : World), Mod [] w w' → Structs enOpt 2 w' (.slice A' (leftOf l a b).length c') (leftOf l a b) → Calls Try.prog 23 #[v, .slice A' (leftOf l a b).length c'] w' fun e w'' => e = .returned (.bool (decide (l = leftOf l a b))) ∧ Mod [] w' w'') := Lib.hid fun A' c' w' hm h' => Same_any _ _ _ _ w' (hr.mod0 hm) h'
  generalize decide (l = leftOf l a b) = same at S2 S3
  obtain ⟨A, cap, rfl⟩ := hr.form
  (refine enterS ([]) (Sep.start _ []) Try.func4 rfl ?_; simp only [Try.ntmps4, List.size_toArray, List.length_cons, List.length_nil, Nat.reduceAdd, Nat.reduceSub, Array.replicate_succ, Array.replicate_zero, List.push_toArray, List.append_toArray, List.nil_append, List.cons_append])
  (repeat' (first | ((with_reducible refine isOps ?_); first | (refine seqS_nil ?_; (try simp only [thenS, blockS])) | ((first | ((with_reducible refine isCallF ?_); refine aCF ?_) | ((with_reducible refine isCallV ?_); refine aCV ?_)); first | refine cS0 (fun w_ hs_ => HG.out _ hs_.mod) ?_) | ((with_reducible refine isBuildSlice ?_); first | (refine aBs (fun n_ l_ hl_ => ?_); dsimp only [sS, sZ] at hl_; subst hl_)) | ((with_reducible refine isBuiltin ?_); first | (refine aApp (fun A_ c_ l_ hl_ => ?_); dsimp only [sS, sZ] at hl_; subst hl_)) | refine aV ?_ | refine aNo ?_ | refine aNo' ?_ | ((fail_if_success (refine aIsT ?_)); (fail_if_success (refine aIsF ?_)); refine seqS_guard rfl rfl rfl (fun l_ hl_ h_ => ?_) (fun l_ hl_ h_ => ?_) <;> (dsimp only [sS, sZ] at hl_; subst hl_; (try (simp only [beq_iff_eq, bne_iff_ne, beq_eq_false_iff_ne, bne_eq_false_iff_eq, ne_eq, decide_eq_true_eq, decide_eq_false_iff_not, Bool.and_eq_true, Bool.or_eq_true, Bool.and_eq_false_iff, Bool.or_eq_false_iff, Bool.not_eq_true', Bool.not_eq_false', Bool.false_eq_true, Bool.true_eq_false, reduceCtorEq] at h_)); (try (first | (with_reducible contradiction) | (exfalso; omega)))))) | ((with_reducible refine isWp ?_); first | (refine wpS_seq (fun K_ hK_ => ?_)) | (refine wpS_region ?_) | (refine wpS_cond rfl (fun h_ => ?_) (fun h_ => ?_) <;> (try (simp only [beq_iff_eq, bne_iff_ne, beq_eq_false_iff_ne, bne_eq_false_iff_eq, ne_eq, decide_eq_true_eq, decide_eq_false_iff_not, Bool.and_eq_true, Bool.or_eq_true, Bool.and_eq_false_iff, Bool.or_eq_false_iff, Bool.false_eq_true, Bool.true_eq_false, reduceCtorEq] at h_)) <;> (try (first | (with_reducible contradiction) | (exfalso; omega)))) | (refine wpS_block ?_) | (refine wpS_ret ?_; (try simp only [thenS, blockS])) | (refine wpS_exit ?_; simp only [thenS, blockS, ↓reduceIte, Nat.reduceEqDiff]) | (refine wpS_skip ?_; (try simp only [thenS, blockS]))) | (refine useK (by with_reducible assumption) ?_)))
  refine wpS_weaken (fun w h => h.nil 33 2) ?_
  ((with_reducible refine isLoop ?_); refine wpS_loopU [false, false, false, false, false, false, false, true, true, true, true, false, false, false, false, false, true, true, true, true, true, true, true, true, true, true, true, true, true, true, true, true, true, true, true, true, true, true, true, true, true, true, true, true, true, true, true, true, true, true, true, true, true, true, true, true, true, false, false, false, false, false, false, false, false, false, false, false, false, false, false, false, false, false, false, false, false, false, false, false, false, false, false, false, false, false, false, false, false, false, false, false] (fun u rs_ => ∃ (i : Nat) (A' : Option Addr) (cap' : Nat), i ≤ l.length ∧ u 7 = .int .i64 (idxOf (fun o : Opt => o.1 == a) (l.take i)) ∧ u 8 = .int .i64 (countOf a (l.take i)) ∧ u 9 = .slice A' (leftOf (l.take i) a b).length cap' ∧ u 10 = .int .i64 i ∧ rs_ = [own A' cap' 33 2 (leftOf (l.take i) a b).length ((leftOf (l.take i) a b).flatMap enOpt)]) (fun u => l.length - (intOf (u 10)).toNat) ?_ (fun u rs_ l_ K_ hN_ hl_ hR => ?_))
  · exact ⟨0, none, 0, Nat.zero_le _, rfl, rfl, rfl, rfl, rfl⟩
  · (simp only [mask_t, mask_f, mask_n, Nat.reduceAdd] at hl_; subst hl_)
    obtain ⟨i, A', cap', hi, hu7, hu8, hu9, hu10, rfl⟩ := hR
    rw [hu7, hu8, hu9, hu10]
    have hcl := countOf_le a (l.take i)
    have hir := idxOf_rng (fun o : Opt => o.1 == a) (l.take i)
    have hll : (leftOf (l.take i) a b).length ≤ 60 := Nat.le_trans (List.length_filter_le _ _) (by rw [List.length_take]; omega)
    rw [List.length_take] at hcl hir
    by_cases hlt : i < l.length
    · obtain ⟨b', off, rfl, HC, HD, -⟩ := opt_at hr i hlt
      have hs1 := Lib.hid (idxOf_snoc (fun o : Opt => o.1 == a) l i hlt)
      have hs2 := Lib.hid (countOf_snoc a l i hlt)
      have hs3 := Lib.hid (left_snoc l a b i hlt)
      by_cases hka : l[i].1 = a
      case neg =>
        have hkA := Lib.hid (show (l[i].1 == a) = false from by simpa using hka)
        have hE1 : Hid (idxOf (fun o : Opt => o.1 == a) (l.take (i + 1)) = idxOf (fun o : Opt => o.1 == a) (l.take i)) := Lib.hid (by
          rw [hs1.out, hkA.out]
          split
          · simp only [Bool.false_eq_true, if_false]; omega
          · rfl)
        have hE2 : Hid (countOf a (l.take (i + 1)) = countOf a (l.take i)) := Lib.hid (by rw [hs2.out, hkA.out]; simp)
        by_cases hkb : l[i].1 = b
        case neg =>
          have hleft : Hid (leftOf (l.take (i + 1)) a b = leftOf (l.take i) a b ++ [l[i]]) := Lib.hid (by rw [hs3.out, hkA.out, show (l[i].1 == b) = false from by simpa using hkb]; rfl)
          clear hs1 hs2 hs3 hkA HF HW S1 S2 S3 HG
          (repeat' (first | ((with_reducible refine isOps ?_); first | (refine seqS_nil ?_; (try simp only [thenS, blockS])) | ((with_reducible refine isBuildSlice ?_); first | (refine aBs (fun n_ l_ hl_ => ?_); dsimp only [sS, sZ] at hl_; subst hl_)) | ((with_reducible refine isBuiltin ?_); first | (refine aApp (fun A_ c_ l_ hl_ => ?_); dsimp only [sS, sZ] at hl_; subst hl_)) | refine aVh (opv_bin rfl rfl (fun w_ hs_ => by (first | exact HC.out _ hs_.mod | exact HD.out _ hs_.mod))) ?_ | refine aV ?_ | refine aVh (opv_loadO rfl (fun w_ hs_ => by (first | exact HC.out _ hs_.mod | exact HD.out _ hs_.mod))) ?_ | refine aNo ?_ | refine aNo' ?_ | ((fail_if_success (refine aIsT ?_)); (fail_if_success (refine aIsF ?_)); refine seqS_guard rfl rfl rfl (fun l_ hl_ h_ => ?_) (fun l_ hl_ h_ => ?_) <;> (dsimp only [sS, sZ] at hl_; subst hl_; (try (simp only [beq_iff_eq, bne_iff_ne, beq_eq_false_iff_ne, bne_eq_false_iff_eq, ne_eq, decide_eq_true_eq, decide_eq_false_iff_not, Bool.and_eq_true, Bool.or_eq_true, Bool.and_eq_false_iff, Bool.or_eq_false_iff, Bool.not_eq_true', Bool.not_eq_false', Bool.false_eq_true, Bool.true_eq_false, reduceCtorEq] at h_)); (try (first | (with_reducible contradiction) | (exfalso; omega)))))) | ((with_reducible refine isWp ?_); first | (refine wpS_seq (fun K_ hK_ => ?_)) | (refine wpS_region ?_) | (refine wpS_cond rfl (fun h_ => ?_) (fun h_ => ?_) <;> (try (simp only [beq_iff_eq, bne_iff_ne, beq_eq_false_iff_ne, bne_eq_false_iff_eq, ne_eq, decide_eq_true_eq, decide_eq_false_iff_not, Bool.and_eq_true, Bool.or_eq_true, Bool.and_eq_false_iff, Bool.or_eq_false_iff, Bool.false_eq_true, Bool.true_eq_false, reduceCtorEq] at h_)) <;> (try (first | (with_reducible contradiction) | (exfalso; omega)))) | (refine wpS_block ?_) | (refine wpS_ret ?_; (try simp only [thenS, blockS])) | (refine wpS_exit ?_; simp only [thenS, blockS, ↓reduceIte, Nat.reduceEqDiff]) | (refine wpS_skip ?_; (try simp only [thenS, blockS]))) | (refine useK (by with_reducible assumption) ?_)))
          (refine hN_ _ ([own _ _ _ _ _ _]) _ rfl ?_ (by first | ((repeat (first | exact List.Sublist.refl _ | exact List.nil_sublist _ | apply List.Sublist.cons_cons | apply List.Sublist.cons)); done) | fail) ?_ <;> dsimp only [List.getD_cons_succ, List.getD_cons_zero])
          · exact ⟨i + 1, _, _, by omega, by (rw [hE1.out]; first | done | rfl), by (rw [hE2.out]; first | done | rfl | go_num), by rw [hleft.out, List.length_append]; rfl, by go_num, by rw [hleft.out, List.length_append, List.flatMap_append]; rfl⟩
          · rw [hu10]; simp [intOf]; omega
        case pos =>
          have hleft : Hid (leftOf (l.take (i + 1)) a b = leftOf (l.take i) a b) := Lib.hid (by rw [hs3.out, hkA.out, show (l[i].1 == b) = true from by simpa using hkb]; simp)
          clear hs1 hs2 hs3 hkA HF HW S1 S2 S3 HG
          (repeat' (first | ((with_reducible refine isOps ?_); first | (refine seqS_nil ?_; (try simp only [thenS, blockS])) | ((with_reducible refine isBuildSlice ?_); first | (refine aBs (fun n_ l_ hl_ => ?_); dsimp only [sS, sZ] at hl_; subst hl_)) | ((with_reducible refine isBuiltin ?_); first | (refine aApp (fun A_ c_ l_ hl_ => ?_); dsimp only [sS, sZ] at hl_; subst hl_)) | refine aVh (opv_bin rfl rfl (fun w_ hs_ => by (first | exact HC.out _ hs_.mod | exact HD.out _ hs_.mod))) ?_ | refine aV ?_ | refine aVh (opv_loadO rfl (fun w_ hs_ => by (first | exact HC.out _ hs_.mod | exact HD.out _ hs_.mod))) ?_ | refine aNo ?_ | refine aNo' ?_ | ((fail_if_success (refine aIsT ?_)); (fail_if_success (refine aIsF ?_)); refine seqS_guard rfl rfl rfl (fun l_ hl_ h_ => ?_) (fun l_ hl_ h_ => ?_) <;> (dsimp only [sS, sZ] at hl_; subst hl_; (try (simp only [beq_iff_eq, bne_iff_ne, beq_eq_false_iff_ne, bne_eq_false_iff_eq, ne_eq, decide_eq_true_eq, decide_eq_false_iff_not, Bool.and_eq_true, Bool.or_eq_true, Bool.and_eq_false_iff, Bool.or_eq_false_iff, Bool.not_eq_true', Bool.not_eq_false', Bool.false_eq_true, Bool.true_eq_false, reduceCtorEq] at h_)); (try (first | (with_reducible contradiction) | (exfalso; omega)))))) | ((with_reducible refine isWp ?_); first | (refine wpS_seq (fun K_ hK_ => ?_)) | (refine wpS_region ?_) | (refine wpS_cond rfl (fun h_ => ?_) (fun h_ => ?_) <;> (try (simp only [beq_iff_eq, bne_iff_ne, beq_eq_false_iff_ne, bne_eq_false_iff_eq, ne_eq, decide_eq_true_eq, decide_eq_false_iff_not, Bool.and_eq_true, Bool.or_eq_true, Bool.and_eq_false_iff, Bool.or_eq_false_iff, Bool.false_eq_true, Bool.true_eq_false, reduceCtorEq] at h_)) <;> (try (first | (with_reducible contradiction) | (exfalso; omega)))) | (refine wpS_block ?_) | (refine wpS_ret ?_; (try simp only [thenS, blockS])) | (refine wpS_exit ?_; simp only [thenS, blockS, ↓reduceIte, Nat.reduceEqDiff]) | (refine wpS_skip ?_; (try simp only [thenS, blockS]))) | (refine useK (by with_reducible assumption) ?_)))
          (refine hN_ _ ([own _ _ _ _ _ _]) _ rfl ?_ (by first | ((repeat (first | exact List.Sublist.refl _ | exact List.nil_sublist _ | apply List.Sublist.cons_cons | apply List.Sublist.cons)); done) | fail) ?_ <;> dsimp only [List.getD_cons_succ, List.getD_cons_zero])
          · exact ⟨i + 1, _, _, by omega, by (rw [hE1.out]; first | done | rfl), by (rw [hE2.out]; first | done | rfl | go_num), by rw [hleft.out]; rfl, by go_num, by rw [hleft.out]⟩
          · rw [hu10]; simp [intOf]; omega
      case pos =>
        have hkA := Lib.hid (show (l[i].1 == a) = true from by simpa using hka)
        have hE2 : Hid (countOf a (l.take (i + 1)) = countOf a (l.take i) + 1) := Lib.hid (by rw [hs2.out, hkA.out]; simp)
        have hleft : Hid (leftOf (l.take (i + 1)) a b = leftOf (l.take i) a b) := Lib.hid (by rw [hs3.out, hkA.out]; simp)
        by_cases hneg : idxOf (fun o : Opt => o.1 == a) (l.take i) < 0
        case pos =>
          have hE1 : Hid (idxOf (fun o : Opt => o.1 == a) (l.take (i + 1)) = i) := Lib.hid (by rw [hs1.out, hkA.out, if_pos hneg]; simp)
          clear hs1 hs2 hs3 hkA HF HW S1 S2 S3 HG
          (repeat' (first | ((with_reducible refine isOps ?_); first | (refine seqS_nil ?_; (try simp only [thenS, blockS])) | ((with_reducible refine isBuildSlice ?_); first | (refine aBs (fun n_ l_ hl_ => ?_); dsimp only [sS, sZ] at hl_; subst hl_)) | ((with_reducible refine isBuiltin ?_); first | (refine aApp (fun A_ c_ l_ hl_ => ?_); dsimp only [sS, sZ] at hl_; subst hl_)) | refine aVh (opv_bin rfl rfl (fun w_ hs_ => by (first | exact HC.out _ hs_.mod | exact HD.out _ hs_.mod))) ?_ | refine aV ?_ | refine aVh (opv_loadO rfl (fun w_ hs_ => by (first | exact HC.out _ hs_.mod | exact HD.out _ hs_.mod))) ?_ | refine aNo ?_ | refine aNo' ?_ | ((fail_if_success (refine aIsT ?_)); (fail_if_success (refine aIsF ?_)); refine seqS_guard rfl rfl rfl (fun l_ hl_ h_ => ?_) (fun l_ hl_ h_ => ?_) <;> (dsimp only [sS, sZ] at hl_; subst hl_; (try (simp only [beq_iff_eq, bne_iff_ne, beq_eq_false_iff_ne, bne_eq_false_iff_eq, ne_eq, decide_eq_true_eq, decide_eq_false_iff_not, Bool.and_eq_true, Bool.or_eq_true, Bool.and_eq_false_iff, Bool.or_eq_false_iff, Bool.not_eq_true', Bool.not_eq_false', Bool.false_eq_true, Bool.true_eq_false, reduceCtorEq] at h_)); (try (first | (with_reducible contradiction) | (exfalso; omega)))))) | ((with_reducible refine isWp ?_); first | (refine wpS_seq (fun K_ hK_ => ?_)) | (refine wpS_region ?_) | (refine wpS_cond rfl (fun h_ => ?_) (fun h_ => ?_) <;> (try (simp only [beq_iff_eq, bne_iff_ne, beq_eq_false_iff_ne, bne_eq_false_iff_eq, ne_eq, decide_eq_true_eq, decide_eq_false_iff_not, Bool.and_eq_true, Bool.or_eq_true, Bool.and_eq_false_iff, Bool.or_eq_false_iff, Bool.false_eq_true, Bool.true_eq_false, reduceCtorEq] at h_)) <;> (try (first | (with_reducible contradiction) | (exfalso; omega)))) | (refine wpS_block ?_) | (refine wpS_ret ?_; (try simp only [thenS, blockS])) | (refine wpS_exit ?_; simp only [thenS, blockS, ↓reduceIte, Nat.reduceEqDiff]) | (refine wpS_skip ?_; (try simp only [thenS, blockS]))) | (refine useK (by with_reducible assumption) ?_)))
          (refine hN_ _ ([own _ _ _ _ _ _]) _ rfl ?_ (by first | ((repeat (first | exact List.Sublist.refl _ | exact List.nil_sublist _ | apply List.Sublist.cons_cons | apply List.Sublist.cons)); done) | fail) ?_ <;> dsimp only [List.getD_cons_succ, List.getD_cons_zero])
          · exact ⟨i + 1, _, _, by omega, by (rw [hE1.out]; first | done | rfl), by (rw [hE2.out]; first | done | rfl | go_num), by rw [hleft.out]; rfl, by go_num, by rw [hleft.out]⟩
          · rw [hu10]; simp [intOf]; omega
        case neg =>
          have hE1 : Hid (idxOf (fun o : Opt => o.1 == a) (l.take (i + 1)) = idxOf (fun o : Opt => o.1 == a) (l.take i)) := Lib.hid (by rw [hs1.out, if_neg hneg])
          clear hs1 hs2 hs3 hkA HF HW S1 S2 S3 HG
          (repeat' (first | ((with_reducible refine isOps ?_); first | (refine seqS_nil ?_; (try simp only [thenS, blockS])) | ((with_reducible refine isBuildSlice ?_); first | (refine aBs (fun n_ l_ hl_ => ?_); dsimp only [sS, sZ] at hl_; subst hl_)) | ((with_reducible refine isBuiltin ?_); first | (refine aApp (fun A_ c_ l_ hl_ => ?_); dsimp only [sS, sZ] at hl_; subst hl_)) | refine aVh (opv_bin rfl rfl (fun w_ hs_ => by (first | exact HC.out _ hs_.mod | exact HD.out _ hs_.mod))) ?_ | refine aV ?_ | refine aVh (opv_loadO rfl (fun w_ hs_ => by (first | exact HC.out _ hs_.mod | exact HD.out _ hs_.mod))) ?_ | refine aNo ?_ | refine aNo' ?_ | ((fail_if_success (refine aIsT ?_)); (fail_if_success (refine aIsF ?_)); refine seqS_guard rfl rfl rfl (fun l_ hl_ h_ => ?_) (fun l_ hl_ h_ => ?_) <;> (dsimp only [sS, sZ] at hl_; subst hl_; (try (simp only [beq_iff_eq, bne_iff_ne, beq_eq_false_iff_ne, bne_eq_false_iff_eq, ne_eq, decide_eq_true_eq, decide_eq_false_iff_not, Bool.and_eq_true, Bool.or_eq_true, Bool.and_eq_false_iff, Bool.or_eq_false_iff, Bool.not_eq_true', Bool.not_eq_false', Bool.false_eq_true, Bool.true_eq_false, reduceCtorEq] at h_)); (try (first | (with_reducible contradiction) | (exfalso; omega)))))) | ((with_reducible refine isWp ?_); first | (refine wpS_seq (fun K_ hK_ => ?_)) | (refine wpS_region ?_) | (refine wpS_cond rfl (fun h_ => ?_) (fun h_ => ?_) <;> (try (simp only [beq_iff_eq, bne_iff_ne, beq_eq_false_iff_ne, bne_eq_false_iff_eq, ne_eq, decide_eq_true_eq, decide_eq_false_iff_not, Bool.and_eq_true, Bool.or_eq_true, Bool.and_eq_false_iff, Bool.or_eq_false_iff, Bool.false_eq_true, Bool.true_eq_false, reduceCtorEq] at h_)) <;> (try (first | (with_reducible contradiction) | (exfalso; omega)))) | (refine wpS_block ?_) | (refine wpS_ret ?_; (try simp only [thenS, blockS])) | (refine wpS_exit ?_; simp only [thenS, blockS, ↓reduceIte, Nat.reduceEqDiff]) | (refine wpS_skip ?_; (try simp only [thenS, blockS]))) | (refine useK (by with_reducible assumption) ?_)))
          (refine hN_ _ ([own _ _ _ _ _ _]) _ rfl ?_ (by first | ((repeat (first | exact List.Sublist.refl _ | exact List.nil_sublist _ | apply List.Sublist.cons_cons | apply List.Sublist.cons)); done) | fail) ?_ <;> dsimp only [List.getD_cons_succ, List.getD_cons_zero])
          · exact ⟨i + 1, _, _, by omega, by (rw [hE1.out]; first | done | rfl), by (rw [hE2.out]; first | done | rfl | go_num), by rw [hleft.out]; rfl, by go_num, by rw [hleft.out]⟩
          · rw [hu10]; simp [intOf]; omega
    · have hil : i = l.length := by omega
      subst hil
      simp only [List.take_length] at hcl hir hll ⊢
      (repeat' (first | ((with_reducible refine isOps ?_); first | (refine seqS_nil ?_; (try simp only [thenS, blockS])) | ((first | ((with_reducible refine isCallF ?_); refine aCF ?_) | ((with_reducible refine isCallV ?_); refine aCV ?_)); first | refine cS0 (fun w_ hs_ => HF.out _ hs_.mod) ?_ | (refine callS_N (fun w_ hs_ => HW.out _ _ hs_.mod (Sep.getBlk hs_ (by first | ((repeat (first | exact .head _ | apply List.Mem.tail)); done) | fail))) (fun i_ l_ hl_ => ?_); dsimp only [sS, sZ] at hl_; subst hl_) | refine cS0 (fun w_ hs_ => S1.out _ _ _ _ _ (own_structs (hs_.all (own _ _ _ _ _ _) (by first | ((repeat (first | exact .head _ | apply List.Mem.tail)); done) | fail)) (fun _ _ => rfl)) (own_structs (hs_.all (own _ _ _ _ _ _) (by first | ((repeat (first | exact .head _ | apply List.Mem.tail)); done) | fail)) (fun _ _ => rfl))) ?_ | refine cS0 (fun w_ hs_ => S2.out _ _ _ hs_.mod (own_structs (hs_.all (own _ _ _ _ _ _) (by first | ((repeat (first | exact .head _ | apply List.Mem.tail)); done) | fail)) (fun _ _ => rfl))) ?_ | refine cS0 (fun w_ hs_ => S3.out _ _ _ hs_.mod (own_structs (hs_.all (own _ _ _ _ _ _) (by first | ((repeat (first | exact .head _ | apply List.Mem.tail)); done) | fail)) (fun _ _ => rfl))) ?_ | refine cS0 (fun w_ hs_ => awake04_any _) ?_) | ((with_reducible refine isBuildSlice ?_); first | (refine aBs (fun n_ l_ hl_ => ?_); dsimp only [sS, sZ] at hl_; subst hl_)) | ((with_reducible refine isBuiltin ?_); first | (refine aApp (fun A_ c_ l_ hl_ => ?_); dsimp only [sS, sZ] at hl_; subst hl_)) | refine aV ?_ | refine aNo ?_ | refine aNo' ?_ | ((fail_if_success (refine aIsT ?_)); (fail_if_success (refine aIsF ?_)); refine seqS_guard rfl rfl rfl (fun l_ hl_ h_ => ?_) (fun l_ hl_ h_ => ?_) <;> (dsimp only [sS, sZ] at hl_; subst hl_; (try (simp only [beq_iff_eq, bne_iff_ne, beq_eq_false_iff_ne, bne_eq_false_iff_eq, ne_eq, decide_eq_true_eq, decide_eq_false_iff_not, Bool.and_eq_true, Bool.or_eq_true, Bool.and_eq_false_iff, Bool.or_eq_false_iff, Bool.not_eq_true', Bool.not_eq_false', Bool.false_eq_true, Bool.true_eq_false, reduceCtorEq] at h_)); (try (first | (with_reducible contradiction) | (exfalso; omega)))))) | ((with_reducible refine isWp ?_); first | (refine wpS_seq (fun K_ hK_ => ?_)) | (refine wpS_region ?_) | (refine wpS_cond rfl (fun h_ => ?_) (fun h_ => ?_) <;> (try (simp only [beq_iff_eq, bne_iff_ne, beq_eq_false_iff_ne, bne_eq_false_iff_eq, ne_eq, decide_eq_true_eq, decide_eq_false_iff_not, Bool.and_eq_true, Bool.or_eq_true, Bool.and_eq_false_iff, Bool.or_eq_false_iff, Bool.false_eq_true, Bool.true_eq_false, reduceCtorEq] at h_)) <;> (try (first | (with_reducible contradiction) | (exfalso; omega)))) | (refine wpS_block ?_) | (refine wpS_ret ?_; (try simp only [thenS, blockS])) | (refine wpS_exit ?_; simp only [thenS, blockS, ↓reduceIte, Nat.reduceEqDiff]) | (refine wpS_skip ?_; (try simp only [thenS, blockS]))) | (refine useK (by with_reducible assumption) ?_)))
      (first | refine r1_ Try.results4 (fun w_ hs_ => ?_) | refine r2_ Try.results4 (fun w_ hs_ => ?_) | refine r3_ Try.results4 (fun w_ hs_ => ?_) | refine retS0 Try.results4 (fun w_ hs_ => ?_) | refine retN0 Try.results4 (fun w_ hs_ => ?_))
      exact ⟨rfl, hs_.mod⟩
namespace optionFinds
open Go.ChangeShapes Go.WideShapes Go.ChangeAt Go.RowKit
open Go.ChangeMaps (open_string shut_string)
theorem own : ownKnob Try.prog.godebug = none := by kernel_rfl
theorem laidOut : laidOutB Try.prog = true := by kernel_rfl
set_option maxRecDepth 100000 in
theorem lifted (os : Os) (started : os.Started) (H : Type) (enc : TypeId × Value → H) :
    ReturnsInHanded {} Try.checked os 4 .any (Rows.optionFindsSpec.pre6 enc Try.prog Try.f4 Rows.optionFindsRow.domain false) (Rows.optionFindsSpec.post enc Try.prog Try.f4 false true false false) := by
  refine returnsInHanded_of_change_sized (C := Try.checked) own started (by kernel_rfl) Try.func4
    (ChangeSpec.witness6 (enc := enc) (C := Try.checked) false ⟨#[], #[.slice none 0 0, .int .i64 0, .int .i64 0], []⟩ 8 (by kernel_rfl) (by kernel_rfl) (by kernel_rfl) (by kernel_rfl)) ?_
  intro W base args ds gs before hval0 hW hcnd hsz0 _
  have hsz : (DataW.weightsEach Try.prog (Try.f4.params.toList ++ Rows.optionFindsSpec.plain.varTypes Try.prog) (ds ++ gs)).all (· ≤ reachBytes) = true := hsz0
  have hval : ∀ (j : Nat) t v, Try.f4.params[j]? = some t → args[j]? = some v → Value.okWide Try.prog W .any base t v := hval0
  have hW' := hW
  obtain ⟨p, q, hA0, hV, rfl, hfz, hnd⟩ := hW
  have hA : DataW.TrodAll enc Try.prog W 0 (fun _ => true) true Try.f4.params.toList args.toList ds p := hA0
  rw [Try.params4] at hA hval hsz
  obtain ⟨v0, vs0, d0, ds0, p0, q0, hargs, rfl, rfl, h0, r0⟩ := trodAll_cons hA
  obtain ⟨v1, vs1, d1, ds1, p1, q1, rfl, rfl, rfl, h1, r1⟩ := trodAll_cons r0
  obtain ⟨v2, vs2, d2, ds2, p2, q2, rfl, rfl, rfl, h2, r2⟩ := trodAll_cons r1
  obtain ⟨rfl, rfl, rfl⟩ := trodAll_nil r2
  obtain rfl : args = #[v0, v1, v2] := by cases args; simp_all
  obtain ⟨rfl, rfl⟩ := trodVars_none hV
  have hv0 := (hval 0 22 v0 rfl rfl)
  have k0 := h0
  have lt0 : ∀ x ∈ p0, x.block < W.heap.size := by obtain ⟨m, hm⟩ := k0; exact DataW.trod_lt m _ _ _ hm
  obtain ⟨a1, rfl, rfl, rfl, w1⟩ := open_int Try.underlying3 (hval 1 3 v1 rfl rfl) h1
  obtain ⟨a2, rfl, rfl, rfl, w2⟩ := open_int Try.underlying3 (hval 2 3 v2 rfl rfl) h2
  obtain ⟨fuel0, g0⟩ := h0
  obtain ⟨l0, s0, o0⟩ := open_structs enOpt _ Try.underlying22 (by kernel_rfl) open_opt (okWide_slice Try.underlying22 hv0) g0 (by decide)
  clear hA0 hval0 hsz0
  refine (finds_any v0 l0 a1 a2 W s0).mono fun e W' ⟨he, mod⟩ => ?_
  have bel : Below W.heap.size W W' := mod.below (Nat.le_refl _) (by simp)
  subst he
  exact ⟨_, rfl, _, _, _, [], _, [], hW', trodAll_mk1 (shut_bool Try.underlying4 _), (trodAll_cons_mk (Below.trod laidOut (by kernel_rfl) (of_decide_eq_true (by kernel_rfl)) k0 bel lt0) (trodAll_cons_mk (shut_int Try.underlying3 w1) (trodAll_cons_mk (shut_int Try.underlying3 w2) trodAll_mk0))), rfl, bel.frame _, fun h => by cases h⟩
theorem over : Rows.optionFindsRow.holds Try.pinned (OpenSpec.ofChange Rows.optionFindsSpec) :=
  OpenClaim.holds_of_wide 4 Try.f4 rfl rfl rfl rfl rfl rfl rfl ⟨rfl, rfl, rfl, rfl, rfl⟩ rfl rfl rfl rfl rfl (by kernel_rfl) Try.func4 (by kernel_rfl)
    (of_decide_eq_true (by kernel_rfl)) (by unfold Func.isWrapper; first | (rw [if_pos (by decide +kernel)]; kernel_rfl) | (rw [if_neg (by decide +kernel)]; exact ⟨rfl, rfl⟩))
    (fun os started H enc _ => lifted os started H enc)
theorem proved : Rows.OptionFindsSaid := over
#print axioms proved
end optionFinds
/-- The row, under a short name, for the claim. -/
theorem optionFinds_holds : Rows.OptionFindsSaid := optionFinds.proved
end Go.Proofs.Ytdichoibidccoaa

