/- Package header: the document's Parse, walked. -/
import Derived.Test.YtmcaigmpcbkfpaaGreatHdr4
set_option linter.unusedVariables false
set_option linter.unusedSimpArgs false
namespace Go.Proofs.YtmcaigmpcbkfpaaGreat
set_option maxRecDepth 8000
attribute [local irreducible] blk wpS seqS ordS OpVal RV endS LoadV StoreV Calls
open Go.RowKit
theorem hFlag_eq (x : Int) : (x / 16384 % 2 == 1) = hFlag x 16384 ∧ (x / 8192 % 2 == 1) = hFlag x 8192 := by
  unfold hFlag
  have h1 : x / 16384 % 2 = 0 ∨ x / 16384 % 2 = 1 := by omega
  have h2 : x / 8192 % 2 = 0 ∨ x / 8192 % 2 = 1 := by omega
  constructor
  · rcases h1 with h | h <;> rw [h] <;> rfl
  · rcases h2 with h | h <;> rw [h] <;> rfl
set_option maxHeartbeats 16000000 in
theorem refHdrParse_any (l : List UInt8) (hl : l.length ≤ 70000) (w : World) : Calls Tryz.prog 76 #[.string (strOf l)] w (HdrPost (hdrParse l) w) := by
  have hsz : (strOf l).size = l.length := by rw [strOf_size]
  by_cases h20 : l.length < 20
  · rw [hdr_short h20]
    (refine enterS ([]) (Sep.start _ []) Tryz.func76 rfl ?_; simp only [Tryz.ntmps76, List.size_toArray, List.length_cons, List.length_nil, Nat.reduceAdd, Nat.reduceSub, Array.replicate_succ, Array.replicate_zero, List.push_toArray, List.append_toArray, List.nil_append, List.cons_append])
    (repeat' (first | ((with_reducible refine isOps ?_); first | (refine seqS_nil ?_; (try simp only [thenS, blockS])) | ((with_reducible refine isConvert ?_); first | refine aBy ?_) | ((with_reducible refine isStore ?_); first | refine aSt ?_) | ((with_reducible refine isAlloc ?_); first | (refine aAl (fun n_ l_ hl_ => ?_); dsimp only [sS, sZ] at hl_; subst hl_)) | refine aV ?_ | refine aNo ?_ | refine aNo' ?_ | ((fail_if_success (refine aIsT ?_)); (fail_if_success (refine aIsF ?_)); refine seqS_guard rfl rfl rfl (fun l_ hl_ h_ => ?_) (fun l_ hl_ h_ => ?_) <;> (dsimp only [sS, sZ] at hl_; subst hl_; (try (simp only [beq_iff_eq, bne_iff_ne, beq_eq_false_iff_ne, bne_eq_false_iff_eq, ne_eq, decide_eq_true_eq, decide_eq_false_iff_not, Bool.and_eq_true, Bool.or_eq_true, Bool.and_eq_false_iff, Bool.or_eq_false_iff, Bool.not_eq_true', Bool.not_eq_false', Bool.false_eq_true, Bool.true_eq_false, reduceCtorEq] at h_)); (try (first | (with_reducible contradiction) | (exfalso; omega)))))) | ((with_reducible refine isOrd ?_); first | (refine ordS_nil ?_; (try simp only [thenS, blockS, blks, List.map_cons, List.map_nil, List.cons_append, List.nil_append])) | refine oV ?_ | refine oNo ?_ | ((fail_if_success (refine oIsT ?_)); (refine ordS_guard rfl rfl rfl rfl (fun l_ hl_ h_ => ?_) (fun l_ hl_ h_ => ?_) <;> (dsimp only [sS, sZ] at hl_; subst hl_; (try (simp only [beq_iff_eq, bne_iff_ne, beq_eq_false_iff_ne, bne_eq_false_iff_eq, ne_eq, decide_eq_true_eq, decide_eq_false_iff_not, Bool.and_eq_true, Bool.or_eq_true, Bool.and_eq_false_iff, Bool.or_eq_false_iff, Bool.not_eq_true', Bool.not_eq_false', Bool.false_eq_true, Bool.true_eq_false, reduceCtorEq] at h_)); (try (first | (with_reducible contradiction) | (exfalso; omega)))))) | refine oBy ?_ | (refine oAl (fun n_ l_ hl_ => ?_); dsimp only [sS, sZ] at hl_; subst hl_) | refine oPut ?_ | refine oSt ?_ | refine oLd ?_) | ((with_reducible refine isWp ?_); first | (refine wpS_seq (fun K_ hK_ => ?_)) | (refine wpS_region ?_) | (refine wpS_cond rfl (fun h_ => ?_) (fun h_ => ?_) <;> (try (simp only [beq_iff_eq, bne_iff_ne, beq_eq_false_iff_ne, bne_eq_false_iff_eq, ne_eq, decide_eq_true_eq, decide_eq_false_iff_not, Bool.and_eq_true, Bool.or_eq_true, Bool.and_eq_false_iff, Bool.or_eq_false_iff, Bool.false_eq_true, Bool.true_eq_false, reduceCtorEq] at h_)) <;> (try (first | (with_reducible contradiction) | (exfalso; omega)))) | (refine wpS_block ?_) | (refine wpS_ret ?_; (try simp only [thenS, blockS])) | (refine wpS_exit ?_; simp only [thenS, blockS, ↓reduceIte, Nat.reduceEqDiff]) | (refine wpS_skip ?_; (try simp only [thenS, blockS]))) | (refine useK (by with_reducible assumption) ?_)))
    (first | refine r1_ Tryz.results76 (fun w_ hs_ => ?_) | refine r2_ Tryz.results76 (fun w_ hs_ => ?_) | refine r3_ Tryz.results76 (fun w_ hs_ => ?_) | refine retS0 Tryz.results76 (fun w_ hs_ => ?_) | refine retN0 Tryz.results76 (fun w_ hs_ => ?_))
    exact ⟨rfl, hs_.mod⟩
  obtain ⟨a0, a1, a2, a3, a4, a5, a6, a7, a8, a9, a10, a11, a12, a13, a14, a15, a16, a17, a18, a19, r, rfl⟩ := peel20 l (by omega)
  simp only [List.length_cons] at hl hsz
  have u0 := a0.toNat_lt
  have u1 := a1.toNat_lt
  have u8 := a8.toNat_lt
  have u9 := a9.toNat_lt
  have r6 := sh_rng' a6 a7
  have r2 := sh_rng' a2 a3
  have kk0 : IntKind.i64.wrap (a0.toNat : Int) = a0.toNat := IntWalk.i64_in _ (by omega)
  have kk1 : IntKind.i64.wrap (a1.toNat : Int) = a1.toNat := IntWalk.i64_in _ (by omega)
  have kk8 : IntKind.i64.wrap (a8.toNat : Int) = a8.toNat := IntWalk.i64_in _ (by omega)
  have kk9 : IntKind.i64.wrap (a9.toNat : Int) = a9.toNat := IntWalk.i64_in _ (by omega)
  obtain ⟨L20, hL20⟩ : ∃ L20, L20 = a0 :: a1 :: a2 :: a3 :: a4 :: a5 :: a6 :: a7 :: a8 :: a9 :: a10 :: a11 :: a12 :: a13 :: a14 :: a15 :: a16 :: a17 :: a18 :: a19 :: r := ⟨_, rfl⟩
  have hlen : L20.length = r.length + 20 := by subst hL20; simp
  obtain ⟨B, hB⟩ : ∃ B, B = strOf L20 := ⟨_, rfl⟩
  have hP : hdrParse (a0 :: a1 :: a2 :: a3 :: a4 :: a5 :: a6 :: a7 :: a8 :: a9 :: a10 :: a11 :: a12 :: a13 :: a14 :: a15 :: a16 :: a17 :: a18 :: a19 :: r) = if shapeE a0 a6 a7 ≠ 0 then .inr 3
    else if lenE (r.length + 20 : Nat) ((a0.toNat : Int) % 16) (sh a2 a3) (sumOf [B.extract 0 ((a0.toNat : Int) % 16 * 4).toNat]) ≠ 0 then
      .inr (lenE (r.length + 20 : Nat) ((a0.toNat : Int) % 16) (sh a2 a3) (sumOf [B.extract 0 ((a0.toNat : Int) % 16 * 4).toNat]))
    else match optParse (r.take ((a0.toNat : Int) % 16 * 4 - 20).toNat) with
      | .inr x => .inr x
      | .inl L => if 65535 < sh a6 a7 % 8192 * 8 + (r.drop ((a0.toNat : Int) % 16 * 4 - 20).toNat).length then .inr 3 else .inl (fullPkt (frontPkt a1 a4 a5 a6 a7) a8 a9 a12 a13 a14 a15 a16 a17 a18 a19 L (r.drop ((a0.toNat : Int) % 16 * 4 - 20).toNat)) := by subst hB; subst hL20; rfl
  have hPH := Lib.hid hP
  have hsB : (B.size : Int) = r.length + 20 := by rw [hB, strOf_size, hlen]; simp
  have h0 : Hid (∀ w', Calls Tryz.prog 114 #[.string B, .int .i64 2] w' fun e w'' => e = .returned (.int .i64 (sh a2 a3)) ∧ Mod [] w' w'') := Lib.hid fun w' => by
    have := rshort05 L20 2 (by omega) w'
    subst hB; subst hL20; exact this
  have h6 : Hid (∀ w', Calls Tryz.prog 114 #[.string B, .int .i64 6] w' fun e w'' => e = .returned (.int .i64 (sh a6 a7)) ∧ Mod [] w' w'') := Lib.hid fun w' => by
    have := rshort05 L20 6 (by omega) w'
    subst hB; subst hL20; exact this
  have h4 : Hid (∀ w', Calls Tryz.prog 114 #[.string B, .int .i64 4] w' fun e w'' => e = .returned (.int .i64 (sh a4 a5)) ∧ Mod [] w' w'') := Lib.hid fun w' => by
    have := rshort05 L20 4 (by omega) w'
    subst hB; subst hL20; exact this
  have h12 : Hid (∀ w', Calls Tryz.prog 116 #[.string B, .int .i64 12] w' fun e w'' => e = .returned (.int .u32 (w4 a12 a13 a14 a15)) ∧ Mod [] w' w'') := Lib.hid fun w' => by
    have := rnum05 L20 12 (by omega) w'
    subst hB; subst hL20; exact this
  have h16 : Hid (∀ w', Calls Tryz.prog 116 #[.string B, .int .i64 16] w' fun e w'' => e = .returned (.int .u32 (w4 a16 a17 a18 a19)) ∧ Mod [] w' w'') := Lib.hid fun w' => by
    have := rnum05 L20 16 (by omega) w'
    subst hB; subst hL20; exact this
  have z20 : 20 ≤ B.size := by omega
  have g0 : B[0]'(Nat.lt_of_lt_of_le (by decide : 0 < 20) z20) = a0 := by subst hB; subst hL20; rfl
  have g1 : B[1]'(Nat.lt_of_lt_of_le (by decide : 1 < 20) z20) = a1 := by subst hB; subst hL20; rfl
  have g8 : B[8]'(Nat.lt_of_lt_of_le (by decide : 8 < 20) z20) = a8 := by subst hB; subst hL20; rfl
  have g9 : B[9]'(Nat.lt_of_lt_of_le (by decide : 9 < 20) z20) = a9 := by subst hB; subst hL20; rfl
  have hO : Hid (∀ w', Calls Tryz.prog 74 #[.string (B.extract 0 (4 * ((a0.toNat : Int) % 16)).toNat)] w' fun e w'' => e = .returned (.int .i64 (sumOf [B.extract 0 ((a0.toNat : Int) % 16 * 4).toNat])) ∧ Mod [] w' w'') := Lib.hid fun w' => by
    rw [Int.mul_comm 4]
    exact refOf_one _ (by rw [ByteArray.size_extract]; omega) w'
  have hx : ∀ k : Nat, 20 ≤ k → B.extract k B.size = strOf (r.drop (k - 20)) := fun k h => by
    rw [hB, strOf_extract, strOf_size, hlen, hL20]
    obtain ⟨j, rfl⟩ : ∃ j, k = j + 20 := ⟨k - 20, by omega⟩
    simp only [List.drop_succ_cons, Nat.add_sub_cancel]
    rw [List.take_of_length_le (by rw [List.length_drop]; omega)]
  have hy : ∀ k : Nat, B.extract 20 k = strOf (r.take (k - 20)) := fun k => by
    rw [hB, strOf_extract, hL20]
    simp only [List.drop_succ_cons, List.drop_zero]
  have hOp : Hid (∀ (w' : World), 5 ≤ (a0.toNat : Int) % 16 → Calls Tryz.prog 115 #[.string (B.extract 20 (4 * ((a0.toNat : Int) % 16)).toNat)] w' (OptsPost (optParse (r.take ((a0.toNat : Int) % 16 * 4 - 20).toNat)) w')) := Lib.hid fun w' h5 => by
    rw [hy, show (4 * ((a0.toNat : Int) % 16)).toNat - 20 = ((a0.toNat : Int) % 16 * 4 - 20).toNat from by omega]
    exact refParse_any _ (by rw [List.length_take]; omega) w'
  have hD : Hid (5 ≤ (a0.toNat : Int) % 16 → B.extract (4 * (a0.toNat % 16)) B.size = strOf (r.drop ((a0.toNat : Int) % 16 * 4 - 20).toNat)) := Lib.hid fun h5 => by
    rw [hx _ (by omega), show 4 * (a0.toNat % 16) - 20 = ((a0.toNat : Int) % 16 * 4 - 20).toNat from by omega]
  rw [← hL20, ← hB]
  rw [← hL20] at hPH
  clear hP
  have hf := Lib.hid (hFlag_eq (sh a6 a7))
  have hsh : Hid (shapeE a0 a6 a7 = if (a0.toNat : Int) / 16 ≠ 4 ∨ (a0.toNat : Int) % 16 < 5 ∨ 32768 ≤ sh a6 a7 then 3 else 0) := Lib.hid rfl
  have hLE : Hid (lenE (r.length + 20 : Nat) ((a0.toNat : Int) % 16) (sh a2 a3) (sumOf [B.extract 0 ((a0.toNat : Int) % 16 * 4).toNat]) = if ((r.length + 20 : Nat) : Int) < (a0.toNat : Int) % 16 * 4 then 2 else if sh a2 a3 < (a0.toNat : Int) % 16 * 4 then 3 else if ((r.length + 20 : Nat) : Int) < sh a2 a3 then 2 else if sh a2 a3 < (r.length + 20 : Nat) then 5 else if sumOf [B.extract 0 ((a0.toNat : Int) % 16 * 4).toNat] ≠ 0 then 4 else 0) := Lib.hid rfl
  generalize lenE (r.length + 20 : Nat) ((a0.toNat : Int) % 16) (sh a2 a3) (sumOf [B.extract 0 ((a0.toNat : Int) % 16 * 4).toNat]) = E at hPH hLE
  generalize sumOf [B.extract 0 ((a0.toNat : Int) % 16 * 4).toNat] = N at hO hLE
  generalize hdrParse L20 = R at hPH ⊢
  clear hL20 hB hx hy hsz
  rcases hOO : optParse (r.take ((a0.toNat : Int) % 16 * 4 - 20).toNat) with L | x
  case inr =>
    have hOp2 : Hid (5 ≤ (a0.toNat : Int) % 16 → ∀ (w' : World), Calls Tryz.prog 115 #[.string (B.extract 20 (4 * ((a0.toNat : Int) % 16)).toNat)] w' fun e w'' => e = .returned (.tuple #[.slice none 0 0, .int .i64 x]) ∧ Mod [] w' w'') := Lib.hid fun h5 w' => by
      have := hOp.out w' h5
      rwa [hOO] at this
    have hx := optParse_inr hOO
    rw [hOO] at hPH
    (refine enterS ([]) (Sep.start _ []) Tryz.func76 rfl ?_; simp only [Tryz.ntmps76, List.size_toArray, List.length_cons, List.length_nil, Nat.reduceAdd, Nat.reduceSub, Array.replicate_succ, Array.replicate_zero, List.push_toArray, List.append_toArray, List.nil_append, List.cons_append])
    (repeat' (first | ((with_reducible refine isOps ?_); first | (refine seqS_nil ?_; (try simp only [thenS, blockS])) | ((first | ((with_reducible refine isCallF ?_); refine aCF ?_) | ((with_reducible refine isCallV ?_); refine aCV ?_)); first | refine cS0 (fun w_ hs_ => h0.out _) ?_ | refine cS0 (fun w_ hs_ => h4.out _) ?_ | refine cS0 (fun w_ hs_ => h6.out _) ?_ | refine cS0 (fun w_ hs_ => h12.out _) ?_ | refine cS0 (fun w_ hs_ => h16.out _) ?_ | refine cS0 (fun w_ hs_ => hO.out _) ?_ | refine cS0 (fun w_ hs_ => hOp2.out (by omega) _) ?_) | ((with_reducible refine isConvert ?_); first | refine aBy ?_) | ((with_reducible refine isStore ?_); first | refine aSt ?_) | ((with_reducible refine isAlloc ?_); first | (refine aAl (fun n_ l_ hl_ => ?_); dsimp only [sS, sZ] at hl_; subst hl_)) | refine aV ?_ | refine aNo ?_ | refine aNo' ?_ | ((fail_if_success (refine aIsT ?_)); (fail_if_success (refine aIsF ?_)); refine seqS_guard rfl rfl rfl (fun l_ hl_ h_ => ?_) (fun l_ hl_ h_ => ?_) <;> (dsimp only [sS, sZ] at hl_; subst hl_; (try (simp only [beq_iff_eq, bne_iff_ne, beq_eq_false_iff_ne, bne_eq_false_iff_eq, ne_eq, decide_eq_true_eq, decide_eq_false_iff_not, Bool.and_eq_true, Bool.or_eq_true, Bool.and_eq_false_iff, Bool.or_eq_false_iff, Bool.not_eq_true', Bool.not_eq_false', Bool.false_eq_true, Bool.true_eq_false, reduceCtorEq] at h_)); (try (first | (with_reducible contradiction) | (exfalso; omega)))))) | ((with_reducible refine isOrd ?_); first | (refine ordS_nil ?_; (try simp only [thenS, blockS, blks, List.map_cons, List.map_nil, List.cons_append, List.nil_append])) | refine oV ?_ | refine oNo ?_ | ((fail_if_success (refine oIsT ?_)); (refine ordS_guard rfl rfl rfl rfl (fun l_ hl_ h_ => ?_) (fun l_ hl_ h_ => ?_) <;> (dsimp only [sS, sZ] at hl_; subst hl_; (try (simp only [beq_iff_eq, bne_iff_ne, beq_eq_false_iff_ne, bne_eq_false_iff_eq, ne_eq, decide_eq_true_eq, decide_eq_false_iff_not, Bool.and_eq_true, Bool.or_eq_true, Bool.and_eq_false_iff, Bool.or_eq_false_iff, Bool.not_eq_true', Bool.not_eq_false', Bool.false_eq_true, Bool.true_eq_false, reduceCtorEq] at h_)); (try (first | (with_reducible contradiction) | (exfalso; omega)))))) | (refine oC ?_; first | refine cD0 (fun w_ hs_ hg_ => h0.out _) ?_ | refine cD0 (fun w_ hs_ hg_ => h4.out _) ?_ | refine cD0 (fun w_ hs_ hg_ => h6.out _) ?_ | refine cD0 (fun w_ hs_ hg_ => h12.out _) ?_ | refine cD0 (fun w_ hs_ hg_ => h16.out _) ?_ | refine cD0 (fun w_ hs_ hg_ => hO.out _) ?_ | refine cD0 (fun w_ hs_ hg_ => hOp2.out (by omega) _) ?_) | refine oBy ?_ | (refine oAl (fun n_ l_ hl_ => ?_); dsimp only [sS, sZ] at hl_; subst hl_) | refine oPut ?_ | refine oSt ?_ | refine oLd ?_) | ((with_reducible refine isWp ?_); first | (refine wpS_seq (fun K_ hK_ => ?_)) | (refine wpS_region ?_) | (refine wpS_cond rfl (fun h_ => ?_) (fun h_ => ?_) <;> (try (simp only [beq_iff_eq, bne_iff_ne, beq_eq_false_iff_ne, bne_eq_false_iff_eq, ne_eq, decide_eq_true_eq, decide_eq_false_iff_not, Bool.and_eq_true, Bool.or_eq_true, Bool.and_eq_false_iff, Bool.or_eq_false_iff, Bool.false_eq_true, Bool.true_eq_false, reduceCtorEq] at h_)) <;> (try (first | (with_reducible contradiction) | (exfalso; omega)))) | (refine wpS_block ?_) | (refine wpS_ret ?_; (try simp only [thenS, blockS])) | (refine wpS_exit ?_; simp only [thenS, blockS, ↓reduceIte, Nat.reduceEqDiff]) | (refine wpS_skip ?_; (try simp only [thenS, blockS]))) | ((with_reducible refine isDraw ?_); refine wpS_drawT (by simp only [List.length_cons, List.length_nil, Nat.zero_add, Nat.reduceAdd, List.range'_succ, List.range'_zero]; rfl) (by kernel_rfl) (by kernel_rfl) (fun B_ hB_ hf_ => ?_)) | (refine useK (by with_reducible assumption) ?_)))
    all_goals
      (first | refine r1_ Tryz.results76 (fun w_ hs_ => ?_) | refine r2_ Tryz.results76 (fun w_ hs_ => ?_) | refine r3_ Tryz.results76 (fun w_ hs_ => ?_) | refine retS0 Tryz.results76 (fun w_ hs_ => ?_) | refine retN0 Tryz.results76 (fun w_ hs_ => ?_))
      (try simp only [Bool.not_eq_true', Bool.not_eq_false', bne_iff_ne, beq_iff_eq, ne_eq] at h_)
      first
        | (have q : shapeE a0 a6 a7 = 3 := by rw [hsh.out, if_pos (by omega)]
           rw [hPH.out, if_pos (by omega)]
           exact ⟨rfl, hs_.mod⟩)
        | (have q : shapeE a0 a6 a7 = 0 := by rw [hsh.out, if_neg (by omega)]
           rw [hPH.out, if_neg (by omega)]
           have p2 := hLE.out
           (repeat (first | rw [if_pos (by omega)] at p2 | rw [if_neg (by omega)] at p2))
           first
             | (rw [if_pos (by omega), p2]
                exact ⟨rfl, hs_.mod⟩)
             | (rw [if_neg (by omega)]
                exact ⟨rfl, hs_.mod⟩))
  have hOp2 : Hid (5 ≤ (a0.toNat : Int) % 16 → ∀ (w' : World), Calls Tryz.prog 115 #[.string (B.extract 20 (4 * ((a0.toNat : Int) % 16)).toNat)] w' (Makes (fun i : Option Addr × Nat => .tuple #[.slice i.1 L.length i.2, .int .i64 0]) (fun i => own i.1 i.2 140 2 L.length (L.flatMap enOpt)) w')) := Lib.hid fun h5 w' => by
    have := hOp.out w' h5
    rwa [hOO] at this
  rw [hOO] at hPH
  have hlr : (r.drop ((a0.toNat : Int) % 16 * 4 - 20).toNat).length ≤ 70000 := by rw [List.length_drop]; omega
  generalize r.drop ((a0.toNat : Int) % 16 * 4 - 20).toNat = r1 at hD hPH hlr
  have hz1 : ((strOf r1).size : Int) = r1.length := by rw [strOf_size]
  (refine enterS ([]) (Sep.start _ []) Tryz.func76 rfl ?_; simp only [Tryz.ntmps76, List.size_toArray, List.length_cons, List.length_nil, Nat.reduceAdd, Nat.reduceSub, Array.replicate_succ, Array.replicate_zero, List.push_toArray, List.append_toArray, List.nil_append, List.cons_append])
  (repeat' (first | ((with_reducible refine isOps ?_); first | (refine seqS_nil ?_; (try simp only [thenS, blockS])) | ((first | ((with_reducible refine isCallF ?_); refine aCF ?_) | ((with_reducible refine isCallV ?_); refine aCV ?_)); first | refine cS0 (fun w_ hs_ => h0.out _) ?_ | refine cS0 (fun w_ hs_ => h4.out _) ?_ | refine cS0 (fun w_ hs_ => h6.out _) ?_ | refine cS0 (fun w_ hs_ => h12.out _) ?_ | refine cS0 (fun w_ hs_ => h16.out _) ?_ | refine cS0 (fun w_ hs_ => hO.out _) ?_ | (refine callS_N (fun w_ hs_ => hOp2.out (by omega) _) (fun i_ l_ hl_ => ?_); dsimp only [sS, sZ] at hl_; subst hl_)) | ((with_reducible refine isConvert ?_); first | refine aBy ?_) | ((with_reducible refine isStore ?_); first | refine aSt ?_) | ((with_reducible refine isAlloc ?_); first | (refine aAl (fun n_ l_ hl_ => ?_); dsimp only [sS, sZ] at hl_; subst hl_)) | refine aV ?_ | refine aNo ?_ | refine aNo' ?_ | ((fail_if_success (refine aIsT ?_)); (fail_if_success (refine aIsF ?_)); refine seqS_guard rfl rfl rfl (fun l_ hl_ h_ => ?_) (fun l_ hl_ h_ => ?_) <;> (dsimp only [sS, sZ] at hl_; subst hl_; (try (simp only [beq_iff_eq, bne_iff_ne, beq_eq_false_iff_ne, bne_eq_false_iff_eq, ne_eq, decide_eq_true_eq, decide_eq_false_iff_not, Bool.and_eq_true, Bool.or_eq_true, Bool.and_eq_false_iff, Bool.or_eq_false_iff, Bool.not_eq_true', Bool.not_eq_false', Bool.false_eq_true, Bool.true_eq_false, reduceCtorEq] at h_)); (try (first | (with_reducible contradiction) | (exfalso; omega)))))) | ((with_reducible refine isOrd ?_); first | (refine ordS_nil ?_; (try simp only [thenS, blockS, blks, List.map_cons, List.map_nil, List.cons_append, List.nil_append])) | refine oV ?_ | refine oNo ?_ | ((fail_if_success (refine oIsT ?_)); (refine ordS_guard rfl rfl rfl rfl (fun l_ hl_ h_ => ?_) (fun l_ hl_ h_ => ?_) <;> (dsimp only [sS, sZ] at hl_; subst hl_; (try (simp only [beq_iff_eq, bne_iff_ne, beq_eq_false_iff_ne, bne_eq_false_iff_eq, ne_eq, decide_eq_true_eq, decide_eq_false_iff_not, Bool.and_eq_true, Bool.or_eq_true, Bool.and_eq_false_iff, Bool.or_eq_false_iff, Bool.not_eq_true', Bool.not_eq_false', Bool.false_eq_true, Bool.true_eq_false, reduceCtorEq] at h_)); (try (first | (with_reducible contradiction) | (exfalso; omega)))))) | (refine oC ?_; first | refine cD0 (fun w_ hs_ hg_ => h0.out _) ?_ | refine cD0 (fun w_ hs_ hg_ => h4.out _) ?_ | refine cD0 (fun w_ hs_ hg_ => h6.out _) ?_ | refine cD0 (fun w_ hs_ hg_ => h12.out _) ?_ | refine cD0 (fun w_ hs_ hg_ => h16.out _) ?_ | refine cD0 (fun w_ hs_ hg_ => hO.out _) ?_ | (refine callD_N (fun w_ hs_ hg_ => hOp2.out (by omega) _) (fun i_ l_ hl_ => ?_); dsimp only [sS, sZ] at hl_; subst hl_)) | refine oBy ?_ | (refine oAl (fun n_ l_ hl_ => ?_); dsimp only [sS, sZ] at hl_; subst hl_) | refine oPut ?_ | refine oSt ?_ | refine oLd ?_) | ((with_reducible refine isWp ?_); first | (refine wpS_seq (fun K_ hK_ => ?_)) | (refine wpS_region ?_) | (refine wpS_cond rfl (fun h_ => ?_) (fun h_ => ?_) <;> (try (simp only [beq_iff_eq, bne_iff_ne, beq_eq_false_iff_ne, bne_eq_false_iff_eq, ne_eq, decide_eq_true_eq, decide_eq_false_iff_not, Bool.and_eq_true, Bool.or_eq_true, Bool.and_eq_false_iff, Bool.or_eq_false_iff, Bool.false_eq_true, Bool.true_eq_false, reduceCtorEq] at h_)) <;> (try (first | (with_reducible contradiction) | (exfalso; omega)))) | (refine wpS_block ?_) | (refine wpS_ret ?_; (try simp only [thenS, blockS])) | (refine wpS_exit ?_; simp only [thenS, blockS, ↓reduceIte, Nat.reduceEqDiff]) | (refine wpS_skip ?_; (try simp only [thenS, blockS]))) | ((with_reducible refine isDraw ?_); refine wpS_drawT (by simp only [List.length_cons, List.length_nil, Nat.zero_add, Nat.reduceAdd, List.range'_succ, List.range'_zero]; rfl) (by kernel_rfl) (by kernel_rfl) (fun B_ hB_ hf_ => ?_)) | (refine useK (by with_reducible assumption) ?_)))
  all_goals
    (first | refine r1_ Tryz.results76 (fun w_ hs_ => ?_) | refine r2_ Tryz.results76 (fun w_ hs_ => ?_) | refine r3_ Tryz.results76 (fun w_ hs_ => ?_) | refine retS0 Tryz.results76 (fun w_ hs_ => ?_) | refine retN0 Tryz.results76 (fun w_ hs_ => ?_))
    first
      | (have q : shapeE a0 a6 a7 = 3 := by rw [hsh.out, if_pos (by omega)]
         rw [hPH.out, if_pos (by omega)]
         exact ⟨rfl, hs_.mod⟩)
      | (have q : shapeE a0 a6 a7 = 0 := by rw [hsh.out, if_neg (by omega)]
         rw [hPH.out, if_neg (by omega)]
         have p2 := hLE.out
         (repeat (first | rw [if_pos (by omega)] at p2 | rw [if_neg (by omega)] at p2))
         first
           | (rw [if_pos (by omega), p2]
              exact ⟨rfl, hs_.mod⟩)
           | (rw [if_neg (by omega)]
              dsimp only
              have hd := hD.out (by omega)
              have hz : r1.length = B.size - 4 * (a0.toNat % 16) := by
                rw [← strOf_size, ← hd, ByteArray.size_extract]; omega
              first
                | (rw [if_pos (by omega)]
                   exact ⟨rfl, hs_.mod⟩)
                | (rw [if_neg (by omega)]
                   refine ⟨_, ?_, hs_.made (by first | ((repeat (first | exact .head _ | apply List.Mem.tail)); done) | fail)⟩
                   rw [hd, (hf.out).1, (hf.out).2])))
end Go.Proofs.YtmcaigmpcbkfpaaGreat

