/- Package header: Parse. -/
import Derived.Test.YtmcaigmpcbkfpaaGreatHdr2
set_option linter.unusedVariables false
set_option linter.unusedSimpArgs false
namespace Go.Proofs.YtmcaigmpcbkfpaaGreat
set_option maxRecDepth 8000
attribute [local irreducible] blk wpS seqS ordS OpVal RV endS LoadV StoreV Calls
open Go.RowKit
theorem peel (l : List UInt8) (h : 0 < l.length) : ∃ a t, l = a :: t := by
  cases l with
  | nil => simp at h
  | cons a t => exact ⟨a, t, rfl⟩
theorem peel4 (l : List UInt8) (h : 4 ≤ l.length) : ∃ a b c d t, l = a :: b :: c :: d :: t := by
  obtain ⟨a, l, rfl⟩ := peel l (by omega)
  obtain ⟨b, l, rfl⟩ := peel l (by simp only [List.length_cons] at h; omega)
  obtain ⟨c, l, rfl⟩ := peel l (by simp only [List.length_cons] at h; omega)
  obtain ⟨d, l, rfl⟩ := peel l (by simp only [List.length_cons] at h; omega)
  exact ⟨a, b, c, d, l, rfl⟩
theorem peel20 (l : List UInt8) (h : 20 ≤ l.length) : ∃ a0 a1 a2 a3 a4 a5 a6 a7 a8 a9 a10 a11 a12 a13 a14 a15 a16 a17 a18 a19 t, l = a0 :: a1 :: a2 :: a3 :: a4 :: a5 :: a6 :: a7 :: a8 :: a9 :: a10 :: a11 :: a12 :: a13 :: a14 :: a15 :: a16 :: a17 :: a18 :: a19 :: t := by
  obtain ⟨a0, a1, a2, a3, l, rfl⟩ := peel4 l (by omega)
  obtain ⟨a4, a5, a6, a7, l, rfl⟩ := peel4 l (by simp only [List.length_cons] at h; omega)
  obtain ⟨a8, a9, a10, a11, l, rfl⟩ := peel4 l (by simp only [List.length_cons] at h; omega)
  obtain ⟨a12, a13, a14, a15, l, rfl⟩ := peel4 l (by simp only [List.length_cons] at h; omega)
  obtain ⟨a16, a17, a18, a19, l, rfl⟩ := peel4 l (by simp only [List.length_cons] at h; omega)
  exact ⟨a0, a1, a2, a3, a4, a5, a6, a7, a8, a9, a10, a11, a12, a13, a14, a15, a16, a17, a18, a19, l, rfl⟩
/-- What is wrong with the first bytes. -/
def shapeE (a0 a6 a7 : UInt8) : Int := if (a0.toNat : Int) / 16 ≠ 4 ∨ (a0.toNat : Int) % 16 < 5 ∨ 32768 ≤ sh a6 a7 then 3 else 0
/-- Bytes' packet, or the mistake's number. -/
def hdrParse : List UInt8 → Pkt ⊕ Int
  | a0 :: a1 :: a2 :: a3 :: a4 :: a5 :: a6 :: a7 :: a8 :: a9 :: a10 :: a11 :: a12 :: a13 :: a14 :: a15 :: a16 :: a17 :: a18 :: a19 :: r =>
    if shapeE a0 a6 a7 ≠ 0 then .inr 3
    else if lenE (r.length + 20 : Nat) ((a0.toNat : Int) % 16) (sh a2 a3) (sumOf [(strOf (a0 :: a1 :: a2 :: a3 :: a4 :: a5 :: a6 :: a7 :: a8 :: a9 :: a10 :: a11 :: a12 :: a13 :: a14 :: a15 :: a16 :: a17 :: a18 :: a19 :: r)).extract 0 ((a0.toNat : Int) % 16 * 4).toNat]) ≠ 0 then
      .inr (lenE (r.length + 20 : Nat) ((a0.toNat : Int) % 16) (sh a2 a3) (sumOf [(strOf (a0 :: a1 :: a2 :: a3 :: a4 :: a5 :: a6 :: a7 :: a8 :: a9 :: a10 :: a11 :: a12 :: a13 :: a14 :: a15 :: a16 :: a17 :: a18 :: a19 :: r)).extract 0 ((a0.toNat : Int) % 16 * 4).toNat]))
    else match optParse (r.take ((a0.toNat : Int) % 16 * 4 - 20).toNat) with
      | .inr x => .inr x
      | .inl L => if 65535 < sh a6 a7 % 8192 * 8 + (r.drop ((a0.toNat : Int) % 16 * 4 - 20).toNat).length then .inr 3 else .inl (fullPkt (frontPkt a1 a4 a5 a6 a7) a8 a9 a12 a13 a14 a15 a16 a17 a18 a19 L (r.drop ((a0.toNat : Int) % 16 * 4 - 20).toNat))
  | _ => .inr 2
theorem hdr_short {l : List UInt8} (h : l.length < 20) : hdrParse l = .inr 2 := by
  unfold hdrParse
  split
  · simp only [List.length_cons] at h; omega
  · rfl
/-- What is answered: the packet, its options in a row of their own, or the mistake. -/
def HdrPost (R : Pkt ⊕ Int) (w : World) (e : Ending) (w' : World) : Prop := match R with
  | .inl p => Makes (fun i : Option Addr × Nat => .tuple #[pv p (.slice i.1 p.opts.length i.2), .int .i64 0]) (fun i => own i.1 i.2 140 2 p.opts.length (p.opts.flatMap enOpt)) w e w'
  | .inr x => e = .returned (.tuple #[pv noPkt nilS, .int .i64 x]) ∧ Mod [] w w'
theorem optParse_inr {l : List UInt8} {x : Int} (h : optParse l = .inr x) : x = 2 ∨ x = 3 ∨ x = 5 := by
  have hp : ∀ (n : Nat) (l : List UInt8) (x : Int), pOpts n l = .inr x → x = 2 ∨ x = 3 := by
    intro n
    induction n with
    | zero => intro l x h; simp [pOpts] at h
    | succ n ih =>
      intro l x h
      cases l with
      | nil => simp [pOpts] at h
      | cons k r =>
        rw [pOpts_cons] at h
        split at h
        · split at h
          · cases h
          · injection h with h; omega
        split at h
        · cases hq : pOpts n r with
          | inl L => rw [hq] at h; cases h
          | inr y => rw [hq] at h; injection h with h; subst h; exact ih _ _ hq
        cases r with
        | nil => injection h with h; omega
        | cons m t =>
          simp only at h
          split at h
          · injection h with h; omega
          split at h
          · injection h with h; omega
          cases hq : pOpts n (t.drop (m.toNat - 2)) with
          | inl L => rw [hq] at h; cases h
          | inr y => rw [hq] at h; injection h with h; subst h; exact ih _ _ hq
  unfold optParse at h
  split at h
  · injection h with h; omega
  split at h
  · have := hp _ _ _ h; omega
  · injection h with h; omega
theorem lenE_rng (n wd sz g : Int) : lenE n wd sz g = 0 ∨ lenE n wd sz g = 2 ∨ lenE n wd sz g = 3 ∨ lenE n wd sz g = 4 ∨ lenE n wd sz g = 5 := by
  unfold lenE
  repeat' split
  all_goals omega
theorem lenE_ok {n wd sz g : Int} (h : lenE n wd sz g = 0) : wd * 4 ≤ n ∧ n = sz ∧ g = 0 := by
  unfold lenE at h
  split at h
  · omega
  split at h
  · omega
  split at h
  · omega
  split at h
  · omega
  split at h
  · omega
  · omega
theorem sh_rng' (a b : UInt8) : 0 ≤ sh a b ∧ sh a b ≤ 65535 := by
  have h1 := a.toNat_lt
  have h2 := b.toNat_lt
  unfold sh; omega
set_option maxHeartbeats 8000000 in
theorem hdrParse_any (l : List UInt8) (hl : l.length ≤ 70000) (w : World) : Calls Tryz.prog 92 #[.string (strOf l)] w (HdrPost (hdrParse l) w) := by
  have hsz : (strOf l).size = l.length := by rw [strOf_size]
  have hRd := Lib.hid (fun w' => Read_R (w := w') (strOf l) (by omega))
  by_cases h20 : l.length < 20
  · rw [hdr_short h20]
    have hS := Lib.hid (fun P q w' h => shape_short (P := P) (q := q) (s := strOf l) (l := l) (w := w') (by omega) h)
    (refine enterS ([]) (Sep.start _ []) Tryz.func92 rfl ?_; simp only [Tryz.ntmps92, List.size_toArray, List.length_cons, List.length_nil, Nat.reduceAdd, Nat.reduceSub, Array.replicate_succ, Array.replicate_zero, List.push_toArray, List.append_toArray, List.nil_append, List.cons_append])
    (repeat' (first | ((with_reducible refine isOps ?_); first | (refine seqS_nil ?_; (try simp only [thenS, blockS])) | ((with_reducible refine isIndex ?_); refine seqS_v (by first | exact want_none rfl | (refine want_t rfl rfl rfl ?_; with_reducible rfl) | (refine want_f rfl rfl rfl ?_; with_reducible rfl)) rfl (opv_idx1 Tryz.underlying180 rfl rfl rfl rfl (by decide) rfl) (by dsimp only [List.set_cons_succ, List.set_cons_zero]) ?_) | ((first | ((with_reducible refine isCallF ?_); refine aCF ?_) | ((with_reducible refine isCallV ?_); refine aCV ?_)); first | (refine callS_N (fun w_ hs_ => hRd.out _) (fun i_ l_ hl_ => ?_); dsimp only [sS, sZ] at hl_; subst hl_) | (refine cSF (fun w_ hr_ => hS.out _ i_ _ hr_) (fun i_ l_ hl_ => ?_); dsimp only [List.cons_append, List.nil_append]; dsimp only [sS, sZ] at hl_; subst hl_)) | ((with_reducible refine isStore ?_); first | refine aSt ?_) | ((with_reducible refine isBox ?_); first | (refine aBox (fun n_ l_ hl_ => ?_); dsimp only [sS, sZ] at hl_; subst hl_)) | ((with_reducible refine isAlloc ?_); first | (refine aAl (fun n_ l_ hl_ => ?_); dsimp only [sS, sZ] at hl_; subst hl_)) | refine aV ?_) | ((with_reducible refine isWp ?_); first | (refine wpS_seq (fun K_ hK_ => ?_)) | (refine wpS_region ?_) | (refine wpS_cond rfl (fun h_ => ?_) (fun h_ => ?_) <;> (try (simp only [beq_iff_eq, bne_iff_ne, beq_eq_false_iff_ne, bne_eq_false_iff_eq, ne_eq, decide_eq_true_eq, decide_eq_false_iff_not, Bool.and_eq_true, Bool.or_eq_true, Bool.and_eq_false_iff, Bool.or_eq_false_iff, Bool.false_eq_true, Bool.true_eq_false, reduceCtorEq] at h_)) <;> (try (first | (with_reducible contradiction) | (exfalso; omega)))) | (refine wpS_block ?_) | (refine wpS_ret ?_; (try simp only [thenS, blockS])) | (refine wpS_exit ?_; simp only [thenS, blockS, ↓reduceIte, Nat.reduceEqDiff]) | (refine wpS_skip ?_; (try simp only [thenS, blockS])) | (refine wpS_rounds 4 ?_)) | (with_reducible refine roundsS_next (fun K_ hK_ => ?_)) | (refine useK (by with_reducible assumption) ?_)))
    (first | refine r1_ Tryz.results92 (fun w_ hs_ => ?_) | refine r2_ Tryz.results92 (fun w_ hs_ => ?_) | refine r3_ Tryz.results92 (fun w_ hs_ => ?_) | refine retS0 Tryz.results92 (fun w_ hs_ => ?_) | refine retN0 Tryz.results92 (fun w_ hs_ => ?_))
    exact ⟨rfl, hs_.mod⟩
  obtain ⟨a0, a1, a2, a3, a4, a5, a6, a7, a8, a9, a10, a11, a12, a13, a14, a15, a16, a17, a18, a19, r, rfl⟩ := peel20 l (by omega)
  simp only [List.length_cons] at hl hsz
  have u0 := a0.toNat_lt
  have hsh := sh_rng' a6 a7
  obtain ⟨B, hB⟩ : ∃ B, B = strOf (a0 :: a1 :: a2 :: a3 :: a4 :: a5 :: a6 :: a7 :: a8 :: a9 :: a10 :: a11 :: a12 :: a13 :: a14 :: a15 :: a16 :: a17 :: a18 :: a19 :: r) := ⟨_, rfl⟩
  have hP : hdrParse (a0 :: a1 :: a2 :: a3 :: a4 :: a5 :: a6 :: a7 :: a8 :: a9 :: a10 :: a11 :: a12 :: a13 :: a14 :: a15 :: a16 :: a17 :: a18 :: a19 :: r) = if shapeE a0 a6 a7 ≠ 0 then .inr 3
    else if lenE (r.length + 20 : Nat) ((a0.toNat : Int) % 16) (sh a2 a3) (sumOf [B.extract 0 ((a0.toNat : Int) % 16 * 4).toNat]) ≠ 0 then
      .inr (lenE (r.length + 20 : Nat) ((a0.toNat : Int) % 16) (sh a2 a3) (sumOf [B.extract 0 ((a0.toNat : Int) % 16 * 4).toNat]))
    else match optParse (r.take ((a0.toNat : Int) % 16 * 4 - 20).toNat) with
      | .inr x => .inr x
      | .inl L => if 65535 < sh a6 a7 % 8192 * 8 + (r.drop ((a0.toNat : Int) % 16 * 4 - 20).toNat).length then .inr 3 else .inl (fullPkt (frontPkt a1 a4 a5 a6 a7) a8 a9 a12 a13 a14 a15 a16 a17 a18 a19 L (r.drop ((a0.toNat : Int) % 16 * 4 - 20).toNat)) := by subst hB; rfl
  rw [hP]
  clear hP
  have hsB : B.size = r.length + 20 := by rw [hB, strOf_size]; simp
  have hS : Hid (∀ P q w', Sep w' (feet [hpr P q B 0 0 noPkt nilS, rdr q (false, B)]) [hpr P q B 0 0 noPkt nilS, rdr q (false, B)] w' → Calls Tryz.prog 127 #[ptr0 P] w' (Fr [hpr P q B 0 0 noPkt nilS, rdr q (false, B)]
      (fun _ : Unit => .int .i64 (shapeE a0 a6 a7)) (fun _ => [hpr P q B ((a0.toNat : Int) % 16) (sh a2 a3) (frontPkt a1 a4 a5 a6 a7) nilS, rdr q (false, strOf (a8 :: a9 :: a10 :: a11 :: a12 :: a13 :: a14 :: a15 :: a16 :: a17 :: a18 :: a19 :: r))]) w')) :=
    Lib.hid fun P q w' h => by
      have hz : 20 ≤ (B.size : Int) := by omega
      subst hB
      exact shape_any a0 a1 a2 a3 a4 a5 a6 a7 _ hz h
  have hLn : Hid (∀ P q w', Sep w' (feet [hpr P q B ((a0.toNat : Int) % 16) (sh a2 a3) (frontPkt a1 a4 a5 a6 a7) nilS]) [hpr P q B ((a0.toNat : Int) % 16) (sh a2 a3) (frontPkt a1 a4 a5 a6 a7) nilS] w' → Calls Tryz.prog 128 #[ptr0 P] w' (Fr [hpr P q B ((a0.toNat : Int) % 16) (sh a2 a3) (frontPkt a1 a4 a5 a6 a7) nilS]
      (fun _ : Unit => .int .i64 (lenE (r.length + 20 : Nat) ((a0.toNat : Int) % 16) (sh a2 a3) (sumOf [B.extract 0 ((a0.toNat : Int) % 16 * 4).toNat]))) (fun _ => [hpr P q B ((a0.toNat : Int) % 16) (sh a2 a3) (frontPkt a1 a4 a5 a6 a7) nilS]) w')) :=
    Lib.hid fun P q w' h => by
      have := length_any ((a0.toNat : Int) % 16) (sh a2 a3) (frontPkt a1 a4 a5 a6 a7) nilS (false, B) (by omega) (by omega) h
      rwa [hsB] at this
  have hEr := lenE_rng (r.length + 20 : Nat) ((a0.toNat : Int) % 16) (sh a2 a3) (sumOf [B.extract 0 ((a0.toNat : Int) % 16 * 4).toNat])
  have hEo := lenE_ok (n := (r.length + 20 : Nat)) (wd := (a0.toNat : Int) % 16) (sz := sh a2 a3) (g := sumOf [B.extract 0 ((a0.toNat : Int) % 16 * 4).toNat])
  rw [← hB] at hRd ⊢
  clear hB hsz h20
  generalize lenE (r.length + 20 : Nat) ((a0.toNat : Int) % 16) (sh a2 a3) (sumOf [B.extract 0 ((a0.toNat : Int) % 16 * 4).toNat]) = E at hLn hEr hEo ⊢
  by_cases hs3 : shapeE a0 a6 a7 = 3
  · rw [if_pos (by omega)]
    rw [hs3] at hS
    (refine enterS ([]) (Sep.start _ []) Tryz.func92 rfl ?_; simp only [Tryz.ntmps92, List.size_toArray, List.length_cons, List.length_nil, Nat.reduceAdd, Nat.reduceSub, Array.replicate_succ, Array.replicate_zero, List.push_toArray, List.append_toArray, List.nil_append, List.cons_append])
    (repeat' (first | ((with_reducible refine isOps ?_); first | (refine seqS_nil ?_; (try simp only [thenS, blockS])) | ((first | ((with_reducible refine isCallF ?_); refine aCF ?_) | ((with_reducible refine isCallV ?_); refine aCV ?_)); first | (refine callS_N (fun w_ hs_ => hRd.out _) (fun i_ l_ hl_ => ?_); dsimp only [sS, sZ] at hl_; subst hl_)) | ((with_reducible refine isStore ?_); first | refine aSt ?_) | ((with_reducible refine isBox ?_); first | (refine aBox (fun n_ l_ hl_ => ?_); dsimp only [sS, sZ] at hl_; subst hl_)) | ((with_reducible refine isAlloc ?_); first | (refine aAl (fun n_ l_ hl_ => ?_); dsimp only [sS, sZ] at hl_; subst hl_)) | refine aV ?_) | ((with_reducible refine isWp ?_); first | (refine wpS_seq (fun K_ hK_ => ?_)) | (refine wpS_region ?_) | (refine wpS_cond rfl (fun h_ => ?_) (fun h_ => ?_) <;> (try (simp only [beq_iff_eq, bne_iff_ne, beq_eq_false_iff_ne, bne_eq_false_iff_eq, ne_eq, decide_eq_true_eq, decide_eq_false_iff_not, Bool.and_eq_true, Bool.or_eq_true, Bool.and_eq_false_iff, Bool.or_eq_false_iff, Bool.false_eq_true, Bool.true_eq_false, reduceCtorEq] at h_)) <;> (try (first | (with_reducible contradiction) | (exfalso; omega)))) | (refine wpS_block ?_) | (refine wpS_ret ?_; (try simp only [thenS, blockS])) | (refine wpS_exit ?_; simp only [thenS, blockS, ↓reduceIte, Nat.reduceEqDiff]) | (refine wpS_skip ?_; (try simp only [thenS, blockS]))) | (refine useK (by with_reducible assumption) ?_)))
    revert i_; intro q
    (repeat' (first | ((with_reducible refine isOps ?_); first | (refine seqS_nil ?_; (try simp only [thenS, blockS])) | ((with_reducible refine isIndex ?_); refine seqS_v (by first | exact want_none rfl | (refine want_t rfl rfl rfl ?_; with_reducible rfl) | (refine want_f rfl rfl rfl ?_; with_reducible rfl)) rfl (opv_idx1 Tryz.underlying180 rfl rfl rfl rfl (by decide) rfl) (by dsimp only [List.set_cons_succ, List.set_cons_zero]) ?_) | ((first | ((with_reducible refine isCallF ?_); refine aCF ?_) | ((with_reducible refine isCallV ?_); refine aCV ?_)); first | (refine cSF (fun w_ hr_ => hS.out _ q _ hr_) (fun i_ l_ hl_ => ?_); dsimp only [List.cons_append, List.nil_append]; dsimp only [sS, sZ] at hl_; subst hl_)) | ((with_reducible refine isStore ?_); first | refine aSt ?_) | ((with_reducible refine isBox ?_); first | (refine aBox (fun n_ l_ hl_ => ?_); dsimp only [sS, sZ] at hl_; subst hl_)) | ((with_reducible refine isAlloc ?_); first | (refine aAl (fun n_ l_ hl_ => ?_); dsimp only [sS, sZ] at hl_; subst hl_)) | refine aV ?_) | ((with_reducible refine isWp ?_); first | (refine wpS_seq (fun K_ hK_ => ?_)) | (refine wpS_region ?_) | (refine wpS_cond rfl (fun h_ => ?_) (fun h_ => ?_) <;> (try (simp only [beq_iff_eq, bne_iff_ne, beq_eq_false_iff_ne, bne_eq_false_iff_eq, ne_eq, decide_eq_true_eq, decide_eq_false_iff_not, Bool.and_eq_true, Bool.or_eq_true, Bool.and_eq_false_iff, Bool.or_eq_false_iff, Bool.false_eq_true, Bool.true_eq_false, reduceCtorEq] at h_)) <;> (try (first | (with_reducible contradiction) | (exfalso; omega)))) | (refine wpS_block ?_) | (refine wpS_ret ?_; (try simp only [thenS, blockS])) | (refine wpS_exit ?_; simp only [thenS, blockS, ↓reduceIte, Nat.reduceEqDiff]) | (refine wpS_skip ?_; (try simp only [thenS, blockS])) | (refine wpS_rounds 4 ?_)) | (with_reducible refine roundsS_next (fun K_ hK_ => ?_)) | (refine useK (by with_reducible assumption) ?_)))
    (first | refine r1_ Tryz.results92 (fun w_ hs_ => ?_) | refine r2_ Tryz.results92 (fun w_ hs_ => ?_) | refine r3_ Tryz.results92 (fun w_ hs_ => ?_) | refine retS0 Tryz.results92 (fun w_ hs_ => ?_) | refine retN0 Tryz.results92 (fun w_ hs_ => ?_))
    exact ⟨rfl, hs_.mod⟩
  have hs0 : shapeE a0 a6 a7 = 0 := by unfold shapeE at hs3 ⊢; split at hs3 <;> simp_all
  have hw5 : 5 ≤ (a0.toNat : Int) % 16 := by unfold shapeE at hs0; split at hs0 <;> omega
  rw [if_neg (by omega)]
  rw [hs0] at hS
  by_cases hE : E = 0
  case neg =>
    rw [if_pos hE]
    (refine enterS ([]) (Sep.start _ []) Tryz.func92 rfl ?_; simp only [Tryz.ntmps92, List.size_toArray, List.length_cons, List.length_nil, Nat.reduceAdd, Nat.reduceSub, Array.replicate_succ, Array.replicate_zero, List.push_toArray, List.append_toArray, List.nil_append, List.cons_append])
    (repeat' (first | ((with_reducible refine isOps ?_); first | (refine seqS_nil ?_; (try simp only [thenS, blockS])) | ((first | ((with_reducible refine isCallF ?_); refine aCF ?_) | ((with_reducible refine isCallV ?_); refine aCV ?_)); first | (refine callS_N (fun w_ hs_ => hRd.out _) (fun i_ l_ hl_ => ?_); dsimp only [sS, sZ] at hl_; subst hl_)) | ((with_reducible refine isStore ?_); first | refine aSt ?_) | ((with_reducible refine isBox ?_); first | (refine aBox (fun n_ l_ hl_ => ?_); dsimp only [sS, sZ] at hl_; subst hl_)) | ((with_reducible refine isAlloc ?_); first | (refine aAl (fun n_ l_ hl_ => ?_); dsimp only [sS, sZ] at hl_; subst hl_)) | refine aV ?_) | ((with_reducible refine isWp ?_); first | (refine wpS_seq (fun K_ hK_ => ?_)) | (refine wpS_region ?_) | (refine wpS_cond rfl (fun h_ => ?_) (fun h_ => ?_) <;> (try (simp only [beq_iff_eq, bne_iff_ne, beq_eq_false_iff_ne, bne_eq_false_iff_eq, ne_eq, decide_eq_true_eq, decide_eq_false_iff_not, Bool.and_eq_true, Bool.or_eq_true, Bool.and_eq_false_iff, Bool.or_eq_false_iff, Bool.false_eq_true, Bool.true_eq_false, reduceCtorEq] at h_)) <;> (try (first | (with_reducible contradiction) | (exfalso; omega)))) | (refine wpS_block ?_) | (refine wpS_ret ?_; (try simp only [thenS, blockS])) | (refine wpS_exit ?_; simp only [thenS, blockS, ↓reduceIte, Nat.reduceEqDiff]) | (refine wpS_skip ?_; (try simp only [thenS, blockS]))) | (refine useK (by with_reducible assumption) ?_)))
    revert i_; intro q
    (repeat' (first | ((with_reducible refine isOps ?_); first | (refine seqS_nil ?_; (try simp only [thenS, blockS])) | ((with_reducible refine isIndex ?_); refine seqS_v (by first | exact want_none rfl | (refine want_t rfl rfl rfl ?_; with_reducible rfl) | (refine want_f rfl rfl rfl ?_; with_reducible rfl)) rfl (opv_idx1 Tryz.underlying180 rfl rfl rfl rfl (by decide) rfl) (by dsimp only [List.set_cons_succ, List.set_cons_zero]) ?_) | ((first | ((with_reducible refine isCallF ?_); refine aCF ?_) | ((with_reducible refine isCallV ?_); refine aCV ?_)); first | (refine cSF (fun w_ hr_ => hS.out _ q _ hr_) (fun i_ l_ hl_ => ?_); dsimp only [List.cons_append, List.nil_append]; dsimp only [sS, sZ] at hl_; subst hl_) | (refine cSF (fun w_ hr_ => hLn.out _ q _ hr_) (fun i_ l_ hl_ => ?_); dsimp only [List.cons_append, List.nil_append]; dsimp only [sS, sZ] at hl_; subst hl_)) | ((with_reducible refine isStore ?_); first | refine aSt ?_) | ((with_reducible refine isBox ?_); first | (refine aBox (fun n_ l_ hl_ => ?_); dsimp only [sS, sZ] at hl_; subst hl_)) | ((with_reducible refine isAlloc ?_); first | (refine aAl (fun n_ l_ hl_ => ?_); dsimp only [sS, sZ] at hl_; subst hl_)) | refine aV ?_) | ((with_reducible refine isWp ?_); first | (refine wpS_seq (fun K_ hK_ => ?_)) | (refine wpS_region ?_) | (refine wpS_cond rfl (fun h_ => ?_) (fun h_ => ?_) <;> (try (simp only [beq_iff_eq, bne_iff_ne, beq_eq_false_iff_ne, bne_eq_false_iff_eq, ne_eq, decide_eq_true_eq, decide_eq_false_iff_not, Bool.and_eq_true, Bool.or_eq_true, Bool.and_eq_false_iff, Bool.or_eq_false_iff, Bool.false_eq_true, Bool.true_eq_false, reduceCtorEq] at h_)) <;> (try (first | (with_reducible contradiction) | (exfalso; omega)))) | (refine wpS_block ?_) | (refine wpS_ret ?_; (try simp only [thenS, blockS])) | (refine wpS_exit ?_; simp only [thenS, blockS, ↓reduceIte, Nat.reduceEqDiff]) | (refine wpS_skip ?_; (try simp only [thenS, blockS])) | (refine wpS_rounds 4 ?_)) | (with_reducible refine roundsS_next (fun K_ hK_ => ?_)) | (refine useK (by with_reducible assumption) ?_)))
    (first | refine r1_ Tryz.results92 (fun w_ hs_ => ?_) | refine r2_ Tryz.results92 (fun w_ hs_ => ?_) | refine r3_ Tryz.results92 (fun w_ hs_ => ?_) | refine retS0 Tryz.results92 (fun w_ hs_ => ?_) | refine retN0 Tryz.results92 (fun w_ hs_ => ?_))
    exact ⟨rfl, hs_.mod⟩
  rw [if_neg (by omega)]
  subst hE
  have hEo := hEo rfl
  rcases hO : optParse (r.take ((a0.toNat : Int) % 16 * 4 - 20).toNat) with L | x
  case inr =>
    have hx := optParse_inr hO
    have hRs := Lib.hid (fun P q w' h => rest_no (P := P) (q := q) (s := B) (w := w') x ((a0.toNat : Int) % 16) (sh a2 a3) (frontPkt a1 a4 a5 a6 a7) a8 a9 a10 a11 a12 a13 a14 a15 a16 a17 a18 a19 r (by omega) (by omega) (by omega) hO hx h)
    (refine enterS ([]) (Sep.start _ []) Tryz.func92 rfl ?_; simp only [Tryz.ntmps92, List.size_toArray, List.length_cons, List.length_nil, Nat.reduceAdd, Nat.reduceSub, Array.replicate_succ, Array.replicate_zero, List.push_toArray, List.append_toArray, List.nil_append, List.cons_append])
    (repeat' (first | ((with_reducible refine isOps ?_); first | (refine seqS_nil ?_; (try simp only [thenS, blockS])) | ((first | ((with_reducible refine isCallF ?_); refine aCF ?_) | ((with_reducible refine isCallV ?_); refine aCV ?_)); first | (refine callS_N (fun w_ hs_ => hRd.out _) (fun i_ l_ hl_ => ?_); dsimp only [sS, sZ] at hl_; subst hl_)) | ((with_reducible refine isStore ?_); first | refine aSt ?_) | ((with_reducible refine isBox ?_); first | (refine aBox (fun n_ l_ hl_ => ?_); dsimp only [sS, sZ] at hl_; subst hl_)) | ((with_reducible refine isAlloc ?_); first | (refine aAl (fun n_ l_ hl_ => ?_); dsimp only [sS, sZ] at hl_; subst hl_)) | refine aV ?_) | ((with_reducible refine isWp ?_); first | (refine wpS_seq (fun K_ hK_ => ?_)) | (refine wpS_region ?_) | (refine wpS_cond rfl (fun h_ => ?_) (fun h_ => ?_) <;> (try (simp only [beq_iff_eq, bne_iff_ne, beq_eq_false_iff_ne, bne_eq_false_iff_eq, ne_eq, decide_eq_true_eq, decide_eq_false_iff_not, Bool.and_eq_true, Bool.or_eq_true, Bool.and_eq_false_iff, Bool.or_eq_false_iff, Bool.false_eq_true, Bool.true_eq_false, reduceCtorEq] at h_)) <;> (try (first | (with_reducible contradiction) | (exfalso; omega)))) | (refine wpS_block ?_) | (refine wpS_ret ?_; (try simp only [thenS, blockS])) | (refine wpS_exit ?_; simp only [thenS, blockS, ↓reduceIte, Nat.reduceEqDiff]) | (refine wpS_skip ?_; (try simp only [thenS, blockS]))) | (refine useK (by with_reducible assumption) ?_)))
    revert i_; intro q
    (repeat' (first | ((with_reducible refine isOps ?_); first | (refine seqS_nil ?_; (try simp only [thenS, blockS])) | ((with_reducible refine isIndex ?_); refine seqS_v (by first | exact want_none rfl | (refine want_t rfl rfl rfl ?_; with_reducible rfl) | (refine want_f rfl rfl rfl ?_; with_reducible rfl)) rfl (opv_idx1 Tryz.underlying180 rfl rfl rfl rfl (by decide) rfl) (by dsimp only [List.set_cons_succ, List.set_cons_zero]) ?_) | ((first | ((with_reducible refine isCallF ?_); refine aCF ?_) | ((with_reducible refine isCallV ?_); refine aCV ?_)); first | (refine cSF (fun w_ hr_ => hS.out _ q _ hr_) (fun i_ l_ hl_ => ?_); dsimp only [List.cons_append, List.nil_append]; dsimp only [sS, sZ] at hl_; subst hl_) | (refine cSF (fun w_ hr_ => hLn.out _ q _ hr_) (fun i_ l_ hl_ => ?_); dsimp only [List.cons_append, List.nil_append]; dsimp only [sS, sZ] at hl_; subst hl_) | (refine cSF (fun w_ hr_ => hRs.out _ q _ hr_) (fun i_ l_ hl_ => ?_); dsimp only [List.cons_append, List.nil_append]; dsimp only [sS, sZ] at hl_; subst hl_)) | ((with_reducible refine isStore ?_); first | refine aSt ?_) | ((with_reducible refine isBox ?_); first | (refine aBox (fun n_ l_ hl_ => ?_); dsimp only [sS, sZ] at hl_; subst hl_)) | ((with_reducible refine isAlloc ?_); first | (refine aAl (fun n_ l_ hl_ => ?_); dsimp only [sS, sZ] at hl_; subst hl_)) | refine aV ?_) | ((with_reducible refine isWp ?_); first | (refine wpS_seq (fun K_ hK_ => ?_)) | (refine wpS_region ?_) | (refine wpS_cond rfl (fun h_ => ?_) (fun h_ => ?_) <;> (try (simp only [beq_iff_eq, bne_iff_ne, beq_eq_false_iff_ne, bne_eq_false_iff_eq, ne_eq, decide_eq_true_eq, decide_eq_false_iff_not, Bool.and_eq_true, Bool.or_eq_true, Bool.and_eq_false_iff, Bool.or_eq_false_iff, Bool.false_eq_true, Bool.true_eq_false, reduceCtorEq] at h_)) <;> (try (first | (with_reducible contradiction) | (exfalso; omega)))) | (refine wpS_block ?_) | (refine wpS_ret ?_; (try simp only [thenS, blockS])) | (refine wpS_exit ?_; simp only [thenS, blockS, ↓reduceIte, Nat.reduceEqDiff]) | (refine wpS_skip ?_; (try simp only [thenS, blockS])) | (refine wpS_rounds 4 ?_)) | (with_reducible refine roundsS_next (fun K_ hK_ => ?_)) | (refine useK (by with_reducible assumption) ?_)))
    (first | refine r1_ Tryz.results92 (fun w_ hs_ => ?_) | refine r2_ Tryz.results92 (fun w_ hs_ => ?_) | refine r3_ Tryz.results92 (fun w_ hs_ => ?_) | refine retS0 Tryz.results92 (fun w_ hs_ => ?_) | refine retN0 Tryz.results92 (fun w_ hs_ => ?_))
    exact ⟨rfl, hs_.mod⟩
  have hRs := Lib.hid (fun P q w' h => rest_any (P := P) (q := q) (s := B) (w := w') L ((a0.toNat : Int) % 16) (sh a2 a3) (frontPkt a1 a4 a5 a6 a7) a8 a9 a10 a11 a12 a13 a14 a15 a16 a17 a18 a19 r _ (by omega) (by omega) (by omega) rfl hO (by dsimp only; omega) h)
  generalize r.drop ((a0.toNat : Int) % 16 * 4 - 20).toNat = r1 at hRs ⊢
  dsimp only
  have ho : (frontPkt a1 a4 a5 a6 a7).off = sh a6 a7 % 8192 * 8 := rfl
  rw [ho] at hRs
  by_cases h65 : 65535 < sh a6 a7 % 8192 * 8 + r1.length
  · rw [if_pos h65] at hRs ⊢
    (refine enterS ([]) (Sep.start _ []) Tryz.func92 rfl ?_; simp only [Tryz.ntmps92, List.size_toArray, List.length_cons, List.length_nil, Nat.reduceAdd, Nat.reduceSub, Array.replicate_succ, Array.replicate_zero, List.push_toArray, List.append_toArray, List.nil_append, List.cons_append])
    (repeat' (first | ((with_reducible refine isOps ?_); first | (refine seqS_nil ?_; (try simp only [thenS, blockS])) | ((first | ((with_reducible refine isCallF ?_); refine aCF ?_) | ((with_reducible refine isCallV ?_); refine aCV ?_)); first | (refine callS_N (fun w_ hs_ => hRd.out _) (fun i_ l_ hl_ => ?_); dsimp only [sS, sZ] at hl_; subst hl_)) | ((with_reducible refine isStore ?_); first | refine aSt ?_) | ((with_reducible refine isBox ?_); first | (refine aBox (fun n_ l_ hl_ => ?_); dsimp only [sS, sZ] at hl_; subst hl_)) | ((with_reducible refine isAlloc ?_); first | (refine aAl (fun n_ l_ hl_ => ?_); dsimp only [sS, sZ] at hl_; subst hl_)) | refine aV ?_) | ((with_reducible refine isWp ?_); first | (refine wpS_seq (fun K_ hK_ => ?_)) | (refine wpS_region ?_) | (refine wpS_cond rfl (fun h_ => ?_) (fun h_ => ?_) <;> (try (simp only [beq_iff_eq, bne_iff_ne, beq_eq_false_iff_ne, bne_eq_false_iff_eq, ne_eq, decide_eq_true_eq, decide_eq_false_iff_not, Bool.and_eq_true, Bool.or_eq_true, Bool.and_eq_false_iff, Bool.or_eq_false_iff, Bool.false_eq_true, Bool.true_eq_false, reduceCtorEq] at h_)) <;> (try (first | (with_reducible contradiction) | (exfalso; omega)))) | (refine wpS_block ?_) | (refine wpS_ret ?_; (try simp only [thenS, blockS])) | (refine wpS_exit ?_; simp only [thenS, blockS, ↓reduceIte, Nat.reduceEqDiff]) | (refine wpS_skip ?_; (try simp only [thenS, blockS]))) | (refine useK (by with_reducible assumption) ?_)))
    revert i_; intro q
    (repeat' (first | ((with_reducible refine isOps ?_); first | (refine seqS_nil ?_; (try simp only [thenS, blockS])) | ((with_reducible refine isIndex ?_); refine seqS_v (by first | exact want_none rfl | (refine want_t rfl rfl rfl ?_; with_reducible rfl) | (refine want_f rfl rfl rfl ?_; with_reducible rfl)) rfl (opv_idx1 Tryz.underlying180 rfl rfl rfl rfl (by decide) rfl) (by dsimp only [List.set_cons_succ, List.set_cons_zero]) ?_) | ((first | ((with_reducible refine isCallF ?_); refine aCF ?_) | ((with_reducible refine isCallV ?_); refine aCV ?_)); first | (refine cSF (fun w_ hr_ => hS.out _ q _ hr_) (fun i_ l_ hl_ => ?_); dsimp only [List.cons_append, List.nil_append]; dsimp only [sS, sZ] at hl_; subst hl_) | (refine cSF (fun w_ hr_ => hLn.out _ q _ hr_) (fun i_ l_ hl_ => ?_); dsimp only [List.cons_append, List.nil_append]; dsimp only [sS, sZ] at hl_; subst hl_) | (refine cSF (fun w_ hr_ => hRs.out _ q _ hr_) (fun i_ l_ hl_ => ?_); dsimp only [List.cons_append, List.nil_append]; dsimp only [sS, sZ] at hl_; subst hl_)) | ((with_reducible refine isStore ?_); first | refine aSt ?_) | ((with_reducible refine isBox ?_); first | (refine aBox (fun n_ l_ hl_ => ?_); dsimp only [sS, sZ] at hl_; subst hl_)) | ((with_reducible refine isAlloc ?_); first | (refine aAl (fun n_ l_ hl_ => ?_); dsimp only [sS, sZ] at hl_; subst hl_)) | refine aV ?_) | ((with_reducible refine isWp ?_); first | (refine wpS_seq (fun K_ hK_ => ?_)) | (refine wpS_region ?_) | (refine wpS_cond rfl (fun h_ => ?_) (fun h_ => ?_) <;> (try (simp only [beq_iff_eq, bne_iff_ne, beq_eq_false_iff_ne, bne_eq_false_iff_eq, ne_eq, decide_eq_true_eq, decide_eq_false_iff_not, Bool.and_eq_true, Bool.or_eq_true, Bool.and_eq_false_iff, Bool.or_eq_false_iff, Bool.false_eq_true, Bool.true_eq_false, reduceCtorEq] at h_)) <;> (try (first | (with_reducible contradiction) | (exfalso; omega)))) | (refine wpS_block ?_) | (refine wpS_ret ?_; (try simp only [thenS, blockS])) | (refine wpS_exit ?_; simp only [thenS, blockS, ↓reduceIte, Nat.reduceEqDiff]) | (refine wpS_skip ?_; (try simp only [thenS, blockS])) | (refine wpS_rounds 4 ?_)) | (with_reducible refine roundsS_next (fun K_ hK_ => ?_)) | (refine useK (by with_reducible assumption) ?_)))
    (first | refine r1_ Tryz.results92 (fun w_ hs_ => ?_) | refine r2_ Tryz.results92 (fun w_ hs_ => ?_) | refine r3_ Tryz.results92 (fun w_ hs_ => ?_) | refine retS0 Tryz.results92 (fun w_ hs_ => ?_) | refine retN0 Tryz.results92 (fun w_ hs_ => ?_))
    exact ⟨rfl, hs_.mod⟩
  · rw [if_neg h65] at hRs ⊢
    (refine enterS ([]) (Sep.start _ []) Tryz.func92 rfl ?_; simp only [Tryz.ntmps92, List.size_toArray, List.length_cons, List.length_nil, Nat.reduceAdd, Nat.reduceSub, Array.replicate_succ, Array.replicate_zero, List.push_toArray, List.append_toArray, List.nil_append, List.cons_append])
    (repeat' (first | ((with_reducible refine isOps ?_); first | (refine seqS_nil ?_; (try simp only [thenS, blockS])) | ((first | ((with_reducible refine isCallF ?_); refine aCF ?_) | ((with_reducible refine isCallV ?_); refine aCV ?_)); first | (refine callS_N (fun w_ hs_ => hRd.out _) (fun i_ l_ hl_ => ?_); dsimp only [sS, sZ] at hl_; subst hl_)) | ((with_reducible refine isStore ?_); first | refine aSt ?_) | ((with_reducible refine isBox ?_); first | (refine aBox (fun n_ l_ hl_ => ?_); dsimp only [sS, sZ] at hl_; subst hl_)) | ((with_reducible refine isAlloc ?_); first | (refine aAl (fun n_ l_ hl_ => ?_); dsimp only [sS, sZ] at hl_; subst hl_)) | refine aV ?_) | ((with_reducible refine isWp ?_); first | (refine wpS_seq (fun K_ hK_ => ?_)) | (refine wpS_region ?_) | (refine wpS_cond rfl (fun h_ => ?_) (fun h_ => ?_) <;> (try (simp only [beq_iff_eq, bne_iff_ne, beq_eq_false_iff_ne, bne_eq_false_iff_eq, ne_eq, decide_eq_true_eq, decide_eq_false_iff_not, Bool.and_eq_true, Bool.or_eq_true, Bool.and_eq_false_iff, Bool.or_eq_false_iff, Bool.false_eq_true, Bool.true_eq_false, reduceCtorEq] at h_)) <;> (try (first | (with_reducible contradiction) | (exfalso; omega)))) | (refine wpS_block ?_) | (refine wpS_ret ?_; (try simp only [thenS, blockS])) | (refine wpS_exit ?_; simp only [thenS, blockS, ↓reduceIte, Nat.reduceEqDiff]) | (refine wpS_skip ?_; (try simp only [thenS, blockS]))) | (refine useK (by with_reducible assumption) ?_)))
    revert i_; intro q
    (repeat' (first | ((with_reducible refine isOps ?_); first | (refine seqS_nil ?_; (try simp only [thenS, blockS])) | ((with_reducible refine isIndex ?_); refine seqS_v (by first | exact want_none rfl | (refine want_t rfl rfl rfl ?_; with_reducible rfl) | (refine want_f rfl rfl rfl ?_; with_reducible rfl)) rfl (opv_idx1 Tryz.underlying180 rfl rfl rfl rfl (by decide) rfl) (by dsimp only [List.set_cons_succ, List.set_cons_zero]) ?_) | ((first | ((with_reducible refine isCallF ?_); refine aCF ?_) | ((with_reducible refine isCallV ?_); refine aCV ?_)); first | (refine cSF (fun w_ hr_ => hS.out _ q _ hr_) (fun i_ l_ hl_ => ?_); dsimp only [List.cons_append, List.nil_append]; dsimp only [sS, sZ] at hl_; subst hl_) | (refine cSF (fun w_ hr_ => hLn.out _ q _ hr_) (fun i_ l_ hl_ => ?_); dsimp only [List.cons_append, List.nil_append]; dsimp only [sS, sZ] at hl_; subst hl_) | (refine cSF (fun w_ hr_ => hRs.out _ q _ hr_) (fun i_ l_ hl_ => ?_); dsimp only [List.cons_append, List.nil_append]; dsimp only [sS, sZ] at hl_; subst hl_)) | ((with_reducible refine isStore ?_); first | refine aSt ?_) | ((with_reducible refine isBox ?_); first | (refine aBox (fun n_ l_ hl_ => ?_); dsimp only [sS, sZ] at hl_; subst hl_)) | ((with_reducible refine isAlloc ?_); first | (refine aAl (fun n_ l_ hl_ => ?_); dsimp only [sS, sZ] at hl_; subst hl_)) | refine aV ?_) | ((with_reducible refine isWp ?_); first | (refine wpS_seq (fun K_ hK_ => ?_)) | (refine wpS_region ?_) | (refine wpS_cond rfl (fun h_ => ?_) (fun h_ => ?_) <;> (try (simp only [beq_iff_eq, bne_iff_ne, beq_eq_false_iff_ne, bne_eq_false_iff_eq, ne_eq, decide_eq_true_eq, decide_eq_false_iff_not, Bool.and_eq_true, Bool.or_eq_true, Bool.and_eq_false_iff, Bool.or_eq_false_iff, Bool.false_eq_true, Bool.true_eq_false, reduceCtorEq] at h_)) <;> (try (first | (with_reducible contradiction) | (exfalso; omega)))) | (refine wpS_block ?_) | (refine wpS_ret ?_; (try simp only [thenS, blockS])) | (refine wpS_exit ?_; simp only [thenS, blockS, ↓reduceIte, Nat.reduceEqDiff]) | (refine wpS_skip ?_; (try simp only [thenS, blockS])) | (refine wpS_rounds 4 ?_)) | (with_reducible refine roundsS_next (fun K_ hK_ => ?_)) | (refine useK (by with_reducible assumption) ?_)))
    (first | refine r1_ Tryz.results92 (fun w_ hs_ => ?_) | refine r2_ Tryz.results92 (fun w_ hs_ => ?_) | refine r3_ Tryz.results92 (fun w_ hs_ => ?_) | refine retS0 Tryz.results92 (fun w_ hs_ => ?_) | refine retN0 Tryz.results92 (fun w_ hs_ => ?_))
    exact ⟨_, rfl, hs_.made (by first | ((repeat (first | exact .head _ | apply List.Mem.tail)); done) | fail)⟩
end Go.Proofs.YtmcaigmpcbkfpaaGreat
