/- Package notice: the beginning of a packet's bytes; the document's answer. -/
import Derived.Test.YtmcaigmpcbkfpaaGreatMNot6
import Derived.Test.YtmcaigmpcbkfpaaGreatHdr5
import Derived.Test.YtmcaigmpcbkfpaaGreatHdrC
import Derived.Test.YtmcaigmpcbkfpaaGreatMOrg1
set_option linter.unusedVariables false
set_option linter.unusedSimpArgs false
namespace Go.Proofs.YtmcaigmpcbkfpaaGreat
set_option maxRecDepth 8000
attribute [local irreducible] blk wpS seqS ordS OpVal RV endS LoadV StoreV Calls
open Go.RowKit
/-- How many bytes of n a fault tells of, where d of them are data. -/
def begLen (n d : Nat) : Nat := n - d + (if 8 ≤ d then 8 else d)
def begOf (l : List UInt8) : List UInt8 := match hdrParse l with
  | .inl p => l.take (begLen l.length p.data.size)
  | .inr _ => []
theorem hdr_dsize {l : List UInt8} {p : Pkt} (h : hdrParse l = .inl p) : p.data.size ≤ l.length := by
  by_cases h20 : l.length < 20
  · rw [hdr_short h20] at h; cases h
  obtain ⟨a0, a1, a2, a3, a4, a5, a6, a7, a8, a9, a10, a11, a12, a13, a14, a15, a16, a17, a18, a19, r, rfl⟩ := peel20 l (by omega)
  obtain ⟨k, L, hr⟩ := hdrRead_of h
  rw [hr.pkt]
  show (strOf (r.drop k)).size ≤ _
  rw [strOf_size, List.length_drop]
  simp only [List.length_cons]
  omega
theorem strOf_take (l : List UInt8) (k : Nat) : (strOf l).extract 0 k = strOf (l.take k) := by
  rw [strOf_extract, List.drop_zero, Nat.sub_zero]
set_option maxHeartbeats 4000000 in
theorem ntBeg_any (l : List UInt8) (hl : l.length ≤ 70000) (w : World) : Calls Tryz.prog 43 #[.string (strOf l)] w fun e w' => e = .returned (.string (strOf (begOf l))) ∧ Mod [] w w' := by
  have hP := fun w' => hdrParse_any l hl w'
  have hB : Hid (begOf l = match hdrParse l with
    | .inl p => l.take (begLen l.length p.data.size)
    | .inr _ => []) := Lib.hid rfl
  have hd := fun p => hdr_dsize (l := l) (p := p)
  have hx : ∀ k : Nat, (strOf l).extract 0 k = strOf (l.take k) := fun k => strOf_take l k
  have hsz := strOf_size l
  generalize begOf l = R at hB ⊢
  generalize hR : hdrParse l = X at hP hB
  generalize hBB : strOf l = B at hP hx hsz ⊢
  rcases X with p | x
  · have hdp := hd p hR
    have hrr := hB.out
    simp only at hrr
    rw [hrr, ← hx, ← hsz]
    have hz1 : p.data.size ≤ B.size := by omega
    have hz2 : B.size ≤ 70000 := by omega
    clear hd hsz hx hR hBB hl hB hrr hdp
    replace hP := Lib.hid hP
    by_cases h8 : 8 ≤ p.data.size
    · have hE : Hid (begLen B.size p.data.size = ((B.size : Int) - (p.data.size : Int) + if (8 : Int) < (p.data.size : Int) then 8 else (p.data.size : Int)).toNat) := Lib.hid (by unfold begLen; split <;> split <;> omega)
      (refine enterS ([]) (Sep.start _ []) Tryz.func43 rfl ?_; simp only [Tryz.ntmps43, List.size_toArray, List.length_cons, List.length_nil, Nat.reduceAdd, Nat.reduceSub, Array.replicate_succ, Array.replicate_zero, List.push_toArray, List.append_toArray, List.nil_append, List.cons_append])
      (repeat' (first | ((with_reducible refine isOps ?_); first | (refine seqS_nil ?_; (try simp only [thenS, blockS])) | ((first | ((with_reducible refine isCallF ?_); refine aCF ?_) | ((with_reducible refine isCallV ?_); refine aCV ?_)); first | (refine callS_N (fun w_ hs_ => hP.out _) (fun i_ l_ hl_ => ?_); dsimp only [sS, sZ] at hl_; subst hl_)) | ((with_reducible refine isStore ?_); first | refine aSt ?_) | ((with_reducible refine isAlloc ?_); first | (refine aAl (fun n_ l_ hl_ => ?_); dsimp only [sS, sZ] at hl_; subst hl_)) | refine aV ?_) | ((with_reducible refine isWp ?_); first | (refine wpS_seq (fun K_ hK_ => ?_)) | (refine wpS_region ?_) | (refine wpS_cond rfl (fun h_ => ?_) (fun h_ => ?_) <;> (try (simp only [beq_iff_eq, bne_iff_ne, beq_eq_false_iff_ne, bne_eq_false_iff_eq, ne_eq, decide_eq_true_eq, decide_eq_false_iff_not, Bool.and_eq_true, Bool.or_eq_true, Bool.and_eq_false_iff, Bool.or_eq_false_iff, Bool.false_eq_true, Bool.true_eq_false, reduceCtorEq] at h_)) <;> (try (first | (with_reducible contradiction) | (exfalso; omega)))) | (refine wpS_block ?_) | (refine wpS_ret ?_; (try simp only [thenS, blockS])) | (refine wpS_exit ?_; simp only [thenS, blockS, ↓reduceIte, Nat.reduceEqDiff]) | (refine wpS_skip ?_; (try simp only [thenS, blockS]))) | (refine useK (by with_reducible assumption) ?_)))
      (first | refine r1_ Tryz.results43 (fun w_ hs_ => ?_) | refine r2_ Tryz.results43 (fun w_ hs_ => ?_) | refine r3_ Tryz.results43 (fun w_ hs_ => ?_) | refine retS0 Tryz.results43 (fun w_ hs_ => ?_) | refine retN0 Tryz.results43 (fun w_ hs_ => ?_))
      refine ⟨?_, hs_.mod⟩
      rw [hE.out]
      try rfl
    · have hE : Hid (begLen B.size p.data.size = ((B.size : Int) - (p.data.size : Int) + if (8 : Int) < (p.data.size : Int) then 8 else (p.data.size : Int)).toNat) := Lib.hid (by unfold begLen; split <;> split <;> omega)
      (refine enterS ([]) (Sep.start _ []) Tryz.func43 rfl ?_; simp only [Tryz.ntmps43, List.size_toArray, List.length_cons, List.length_nil, Nat.reduceAdd, Nat.reduceSub, Array.replicate_succ, Array.replicate_zero, List.push_toArray, List.append_toArray, List.nil_append, List.cons_append])
      (repeat' (first | ((with_reducible refine isOps ?_); first | (refine seqS_nil ?_; (try simp only [thenS, blockS])) | ((first | ((with_reducible refine isCallF ?_); refine aCF ?_) | ((with_reducible refine isCallV ?_); refine aCV ?_)); first | (refine callS_N (fun w_ hs_ => hP.out _) (fun i_ l_ hl_ => ?_); dsimp only [sS, sZ] at hl_; subst hl_)) | ((with_reducible refine isStore ?_); first | refine aSt ?_) | ((with_reducible refine isAlloc ?_); first | (refine aAl (fun n_ l_ hl_ => ?_); dsimp only [sS, sZ] at hl_; subst hl_)) | refine aV ?_) | ((with_reducible refine isWp ?_); first | (refine wpS_seq (fun K_ hK_ => ?_)) | (refine wpS_region ?_) | (refine wpS_cond rfl (fun h_ => ?_) (fun h_ => ?_) <;> (try (simp only [beq_iff_eq, bne_iff_ne, beq_eq_false_iff_ne, bne_eq_false_iff_eq, ne_eq, decide_eq_true_eq, decide_eq_false_iff_not, Bool.and_eq_true, Bool.or_eq_true, Bool.and_eq_false_iff, Bool.or_eq_false_iff, Bool.false_eq_true, Bool.true_eq_false, reduceCtorEq] at h_)) <;> (try (first | (with_reducible contradiction) | (exfalso; omega)))) | (refine wpS_block ?_) | (refine wpS_ret ?_; (try simp only [thenS, blockS])) | (refine wpS_exit ?_; simp only [thenS, blockS, ↓reduceIte, Nat.reduceEqDiff]) | (refine wpS_skip ?_; (try simp only [thenS, blockS]))) | (refine useK (by with_reducible assumption) ?_)))
      (first | refine r1_ Tryz.results43 (fun w_ hs_ => ?_) | refine r2_ Tryz.results43 (fun w_ hs_ => ?_) | refine r3_ Tryz.results43 (fun w_ hs_ => ?_) | refine retS0 Tryz.results43 (fun w_ hs_ => ?_) | refine retN0 Tryz.results43 (fun w_ hs_ => ?_))
      refine ⟨?_, hs_.mod⟩
      rw [hE.out]
      try rfl
  · have hrr := hB.out
    simp only at hrr
    rw [hrr]
    have hx1 := hdrParse_inr hR
    clear hd hsz hx hR hBB hl hB hrr
    replace hP := Lib.hid hP
    (refine enterS ([]) (Sep.start _ []) Tryz.func43 rfl ?_; simp only [Tryz.ntmps43, List.size_toArray, List.length_cons, List.length_nil, Nat.reduceAdd, Nat.reduceSub, Array.replicate_succ, Array.replicate_zero, List.push_toArray, List.append_toArray, List.nil_append, List.cons_append])
    (repeat' (first | ((with_reducible refine isOps ?_); first | (refine seqS_nil ?_; (try simp only [thenS, blockS])) | ((first | ((with_reducible refine isCallF ?_); refine aCF ?_) | ((with_reducible refine isCallV ?_); refine aCV ?_)); first | refine cS0 (fun w_ hs_ => hP.out _) ?_) | ((with_reducible refine isStore ?_); first | refine aSt ?_) | ((with_reducible refine isAlloc ?_); first | (refine aAl (fun n_ l_ hl_ => ?_); dsimp only [sS, sZ] at hl_; subst hl_)) | refine aV ?_) | ((with_reducible refine isWp ?_); first | (refine wpS_seq (fun K_ hK_ => ?_)) | (refine wpS_region ?_) | (refine wpS_cond rfl (fun h_ => ?_) (fun h_ => ?_) <;> (try (simp only [beq_iff_eq, bne_iff_ne, beq_eq_false_iff_ne, bne_eq_false_iff_eq, ne_eq, decide_eq_true_eq, decide_eq_false_iff_not, Bool.and_eq_true, Bool.or_eq_true, Bool.and_eq_false_iff, Bool.or_eq_false_iff, Bool.false_eq_true, Bool.true_eq_false, reduceCtorEq] at h_)) <;> (try (first | (with_reducible contradiction) | (exfalso; omega)))) | (refine wpS_block ?_) | (refine wpS_ret ?_; (try simp only [thenS, blockS])) | (refine wpS_exit ?_; simp only [thenS, blockS, ↓reduceIte, Nat.reduceEqDiff]) | (refine wpS_skip ?_; (try simp only [thenS, blockS]))) | (refine useK (by with_reducible assumption) ?_)))
    (first | refine r1_ Tryz.results43 (fun w_ hs_ => ?_) | refine r2_ Tryz.results43 (fun w_ hs_ => ?_) | refine r3_ Tryz.results43 (fun w_ hs_ => ?_) | refine retS0 Tryz.results43 (fun w_ hs_ => ?_) | refine retN0 Tryz.results43 (fun w_ hs_ => ?_))
    exact ⟨rfl, hs_.mod⟩
set_option maxHeartbeats 4000000 in
theorem refBeg_any (l : List UInt8) (hl : l.length ≤ 70000) (w : World) : Calls Tryz.prog 38 #[.string (strOf l)] w fun e w' => e = .returned (.string (strOf (begOf l))) ∧ Mod [] w w' := by
  have hP := fun w' => refHdrParse_any l hl w'
  have hB : Hid (begOf l = match hdrParse l with
    | .inl p => l.take (begLen l.length p.data.size)
    | .inr _ => []) := Lib.hid rfl
  have hd := fun p => hdr_dsize (l := l) (p := p)
  have hx : ∀ k : Nat, (strOf l).extract 0 k = strOf (l.take k) := fun k => strOf_take l k
  have hsz := strOf_size l
  generalize begOf l = R at hB ⊢
  generalize hR : hdrParse l = X at hP hB
  generalize hBB : strOf l = B at hP hx hsz ⊢
  rcases X with p | x
  · have hdp := hd p hR
    have hrr := hB.out
    simp only at hrr
    rw [hrr, ← hx, ← hsz]
    have hz1 : p.data.size ≤ B.size := by omega
    have hz2 : B.size ≤ 70000 := by omega
    clear hd hsz hx hR hBB hl hB hrr hdp
    replace hP := Lib.hid hP
    by_cases h8 : 8 ≤ p.data.size
    · have hE : Hid (begLen B.size p.data.size = ((B.size : Int) - (p.data.size : Int) + if (8 : Int) < (p.data.size : Int) then 8 else (p.data.size : Int)).toNat) := Lib.hid (by unfold begLen; split <;> split <;> omega)
      (refine enterS ([]) (Sep.start _ []) Tryz.func38 rfl ?_; simp only [Tryz.ntmps38, List.size_toArray, List.length_cons, List.length_nil, Nat.reduceAdd, Nat.reduceSub, Array.replicate_succ, Array.replicate_zero, List.push_toArray, List.append_toArray, List.nil_append, List.cons_append])
      (repeat' (first | ((with_reducible refine isOps ?_); first | (refine seqS_nil ?_; (try simp only [thenS, blockS])) | ((first | ((with_reducible refine isCallF ?_); refine aCF ?_) | ((with_reducible refine isCallV ?_); refine aCV ?_)); first | (refine callS_N (fun w_ hs_ => hP.out _) (fun i_ l_ hl_ => ?_); dsimp only [sS, sZ] at hl_; subst hl_)) | ((with_reducible refine isStore ?_); first | refine aSt ?_) | ((with_reducible refine isAlloc ?_); first | (refine aAl (fun n_ l_ hl_ => ?_); dsimp only [sS, sZ] at hl_; subst hl_)) | refine aV ?_) | ((with_reducible refine isWp ?_); first | (refine wpS_seq (fun K_ hK_ => ?_)) | (refine wpS_region ?_) | (refine wpS_cond rfl (fun h_ => ?_) (fun h_ => ?_) <;> (try (simp only [beq_iff_eq, bne_iff_ne, beq_eq_false_iff_ne, bne_eq_false_iff_eq, ne_eq, decide_eq_true_eq, decide_eq_false_iff_not, Bool.and_eq_true, Bool.or_eq_true, Bool.and_eq_false_iff, Bool.or_eq_false_iff, Bool.false_eq_true, Bool.true_eq_false, reduceCtorEq] at h_)) <;> (try (first | (with_reducible contradiction) | (exfalso; omega)))) | (refine wpS_block ?_) | (refine wpS_ret ?_; (try simp only [thenS, blockS])) | (refine wpS_exit ?_; simp only [thenS, blockS, ↓reduceIte, Nat.reduceEqDiff]) | (refine wpS_skip ?_; (try simp only [thenS, blockS]))) | (refine useK (by with_reducible assumption) ?_)))
      (first | refine r1_ Tryz.results38 (fun w_ hs_ => ?_) | refine r2_ Tryz.results38 (fun w_ hs_ => ?_) | refine r3_ Tryz.results38 (fun w_ hs_ => ?_) | refine retS0 Tryz.results38 (fun w_ hs_ => ?_) | refine retN0 Tryz.results38 (fun w_ hs_ => ?_))
      refine ⟨?_, hs_.mod⟩
      rw [hE.out]
      try rfl
    · have hE : Hid (begLen B.size p.data.size = ((B.size : Int) - (p.data.size : Int) + if (8 : Int) < (p.data.size : Int) then 8 else (p.data.size : Int)).toNat) := Lib.hid (by unfold begLen; split <;> split <;> omega)
      (refine enterS ([]) (Sep.start _ []) Tryz.func38 rfl ?_; simp only [Tryz.ntmps38, List.size_toArray, List.length_cons, List.length_nil, Nat.reduceAdd, Nat.reduceSub, Array.replicate_succ, Array.replicate_zero, List.push_toArray, List.append_toArray, List.nil_append, List.cons_append])
      (repeat' (first | ((with_reducible refine isOps ?_); first | (refine seqS_nil ?_; (try simp only [thenS, blockS])) | ((first | ((with_reducible refine isCallF ?_); refine aCF ?_) | ((with_reducible refine isCallV ?_); refine aCV ?_)); first | (refine callS_N (fun w_ hs_ => hP.out _) (fun i_ l_ hl_ => ?_); dsimp only [sS, sZ] at hl_; subst hl_)) | ((with_reducible refine isStore ?_); first | refine aSt ?_) | ((with_reducible refine isAlloc ?_); first | (refine aAl (fun n_ l_ hl_ => ?_); dsimp only [sS, sZ] at hl_; subst hl_)) | refine aV ?_) | ((with_reducible refine isWp ?_); first | (refine wpS_seq (fun K_ hK_ => ?_)) | (refine wpS_region ?_) | (refine wpS_cond rfl (fun h_ => ?_) (fun h_ => ?_) <;> (try (simp only [beq_iff_eq, bne_iff_ne, beq_eq_false_iff_ne, bne_eq_false_iff_eq, ne_eq, decide_eq_true_eq, decide_eq_false_iff_not, Bool.and_eq_true, Bool.or_eq_true, Bool.and_eq_false_iff, Bool.or_eq_false_iff, Bool.false_eq_true, Bool.true_eq_false, reduceCtorEq] at h_)) <;> (try (first | (with_reducible contradiction) | (exfalso; omega)))) | (refine wpS_block ?_) | (refine wpS_ret ?_; (try simp only [thenS, blockS])) | (refine wpS_exit ?_; simp only [thenS, blockS, ↓reduceIte, Nat.reduceEqDiff]) | (refine wpS_skip ?_; (try simp only [thenS, blockS]))) | (refine useK (by with_reducible assumption) ?_)))
      (first | refine r1_ Tryz.results38 (fun w_ hs_ => ?_) | refine r2_ Tryz.results38 (fun w_ hs_ => ?_) | refine r3_ Tryz.results38 (fun w_ hs_ => ?_) | refine retS0 Tryz.results38 (fun w_ hs_ => ?_) | refine retN0 Tryz.results38 (fun w_ hs_ => ?_))
      refine ⟨?_, hs_.mod⟩
      rw [hE.out]
      try rfl
  · have hrr := hB.out
    simp only at hrr
    rw [hrr]
    have hx1 := hdrParse_inr hR
    clear hd hsz hx hR hBB hl hB hrr
    replace hP := Lib.hid hP
    (refine enterS ([]) (Sep.start _ []) Tryz.func38 rfl ?_; simp only [Tryz.ntmps38, List.size_toArray, List.length_cons, List.length_nil, Nat.reduceAdd, Nat.reduceSub, Array.replicate_succ, Array.replicate_zero, List.push_toArray, List.append_toArray, List.nil_append, List.cons_append])
    (repeat' (first | ((with_reducible refine isOps ?_); first | (refine seqS_nil ?_; (try simp only [thenS, blockS])) | ((first | ((with_reducible refine isCallF ?_); refine aCF ?_) | ((with_reducible refine isCallV ?_); refine aCV ?_)); first | refine cS0 (fun w_ hs_ => hP.out _) ?_) | ((with_reducible refine isStore ?_); first | refine aSt ?_) | ((with_reducible refine isAlloc ?_); first | (refine aAl (fun n_ l_ hl_ => ?_); dsimp only [sS, sZ] at hl_; subst hl_)) | refine aV ?_) | ((with_reducible refine isWp ?_); first | (refine wpS_seq (fun K_ hK_ => ?_)) | (refine wpS_region ?_) | (refine wpS_cond rfl (fun h_ => ?_) (fun h_ => ?_) <;> (try (simp only [beq_iff_eq, bne_iff_ne, beq_eq_false_iff_ne, bne_eq_false_iff_eq, ne_eq, decide_eq_true_eq, decide_eq_false_iff_not, Bool.and_eq_true, Bool.or_eq_true, Bool.and_eq_false_iff, Bool.or_eq_false_iff, Bool.false_eq_true, Bool.true_eq_false, reduceCtorEq] at h_)) <;> (try (first | (with_reducible contradiction) | (exfalso; omega)))) | (refine wpS_block ?_) | (refine wpS_ret ?_; (try simp only [thenS, blockS])) | (refine wpS_exit ?_; simp only [thenS, blockS, ↓reduceIte, Nat.reduceEqDiff]) | (refine wpS_skip ?_; (try simp only [thenS, blockS]))) | (refine useK (by with_reducible assumption) ?_)))
    (first | refine r1_ Tryz.results38 (fun w_ hs_ => ?_) | refine r2_ Tryz.results38 (fun w_ hs_ => ?_) | refine r3_ Tryz.results38 (fun w_ hs_ => ?_) | refine retS0 Tryz.results38 (fun w_ hs_ => ?_) | refine retN0 Tryz.results38 (fun w_ hs_ => ?_))
    exact ⟨rfl, hs_.mod⟩
end Go.Proofs.YtmcaigmpcbkfpaaGreat

