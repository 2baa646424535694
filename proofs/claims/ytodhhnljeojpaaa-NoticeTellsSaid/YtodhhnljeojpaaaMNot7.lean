/- Package notice: the beginning of a packet's bytes; the document's answer. -/
import Derived.Test.YtodhhnljeojpaaaNot6
import Derived.Test.YtodhhnljeojpaaaHdr5
import Derived.Test.YtodhhnljeojpaaaMHdrC
import Derived.Test.YtodhhnljeojpaaaMax
set_option linter.unusedVariables false
set_option linter.unusedSimpArgs false
namespace Go.Proofs.Ytodhhnljeojpaaa
set_option maxRecDepth 8000
attribute [local irreducible] blk wpS seqS ordS OpVal RV endS LoadV StoreV Calls
open Go.RowKit
/-- How many bytes of n a fault tells of, where d of them are data. -/
def begLen (n d : Nat) : Nat := n - d + (if 8 ≤ d then 8 else d)
def begOf (l : List UInt8) : List UInt8 := match hdrParse l with
  | .inl p => l.take (begLen l.length p.data.size)
  | .inr _ => []
theorem hdr_dsize {l : List UInt8} {p : Pkt} (h : hdrParse l = .inl p) : p.data.size ≤ l.length := by
  by_cases h20 : l.length < 20
  · rw [hdr_short h20] at h; cases h
  obtain ⟨a0, a1, a2, a3, a4, a5, a6, a7, a8, a9, a10, a11, a12, a13, a14, a15, a16, a17, a18, a19, r, rfl⟩ := peel20 l (by omega)
  obtain ⟨k, L, hr⟩ := hdrRead_of h
  rw [hr.pkt]
  show (strOf (r.drop k)).size ≤ _
  rw [strOf_size, List.length_drop]
  simp only [List.length_cons]
  omega
theorem strOf_take (l : List UInt8) (k : Nat) : (strOf l).extract 0 k = strOf (l.take k) := by
  rw [strOf_extract, List.drop_zero, Nat.sub_zero]
set_option maxHeartbeats 4000000 in
theorem ntBeg_any (l : List UInt8) (hl : l.length ≤ 70000) (w : World) : Calls Try.prog 31 #[.string (strOf l)] w fun e w' => e = .returned (.string (strOf (begOf l))) ∧ Mod [] w w' := by
  have hP := fun w' => hdrParse_any l hl w'
  have hB : Hid (begOf l = match hdrParse l with
    | .inl p => l.take (begLen l.length p.data.size)
    | .inr _ => []) := Lib.hid rfl
  have hd := fun p => hdr_dsize (l := l) (p := p)
  have hx : ∀ k : Nat, (strOf l).extract 0 k = strOf (l.take k) := fun k => strOf_take l k
  have hsz := strOf_size l
  generalize begOf l = R at hB ⊢
  generalize hR : hdrParse l = X at hP hB
  generalize hBB : strOf l = B at hP hx hsz ⊢
  rcases X with p | x
  · have hdp := hd p hR
    have hrr := hB.out
    simp only at hrr
    rw [hrr, ← hx, ← hsz]
    have hz1 : p.data.size ≤ B.size := by omega
    have hz2 : B.size ≤ 70000 := by omega
    clear hd hsz hx hR hBB hl hB hrr hdp
    replace hP := Lib.hid hP
    by_cases h8 : 8 ≤ p.data.size
    · have hE : Hid (begLen B.size p.data.size = ((B.size : Int) - (p.data.size : Int) + if (8 : Int) < (p.data.size : Int) then 8 else (p.data.size : Int)).toNat) := Lib.hid (by unfold begLen; split <;> split <;> omega)
      (refine enterS ([]) (Sep.start _ []) Try.func31 rfl ?_; simp only [Try.ntmps31, List.size_toArray, List.length_cons, List.length_nil, Nat.reduceAdd, Nat.reduceSub, Array.replicate_succ, Array.replicate_zero, List.push_toArray, List.append_toArray, List.nil_append, List.cons_append])
      (repeat' (first | ((with_reducible refine isOps ?_); first | (refine seqS_nil ?_; (try simp only [thenS, blockS])) | ((first | ((with_reducible refine isCallF ?_); refine aCF ?_) | ((with_reducible refine isCallV ?_); refine aCV ?_)); first | (refine callS_N (fun w_ hs_ => hP.out _) (fun i_ l_ hl_ => ?_); dsimp only [sS, sZ] at hl_; subst hl_)) | ((with_reducible refine isStore ?_); first | refine aSt ?_) | ((with_reducible refine isAlloc ?_); first | (refine aAl (fun n_ l_ hl_ => ?_); dsimp only [sS, sZ] at hl_; subst hl_)) | refine aV ?_) | ((with_reducible refine isWp ?_); first | (refine wpS_seq (fun K_ hK_ => ?_)) | (refine wpS_region ?_) | (refine wpS_cond rfl (fun h_ => ?_) (fun h_ => ?_) <;> (try (simp only [beq_iff_eq, bne_iff_ne, beq_eq_false_iff_ne, bne_eq_false_iff_eq, ne_eq, decide_eq_true_eq, decide_eq_false_iff_not, Bool.and_eq_true, Bool.or_eq_true, Bool.and_eq_false_iff, Bool.or_eq_false_iff, Bool.false_eq_true, Bool.true_eq_false, reduceCtorEq] at h_)) <;> (try (first | (with_reducible contradiction) | (exfalso; omega)))) | (refine wpS_block ?_) | (refine wpS_ret ?_; (try simp only [thenS, blockS])) | (refine wpS_exit ?_; simp only [thenS, blockS, ↓reduceIte, Nat.reduceEqDiff]) | (refine wpS_skip ?_; (try simp only [thenS, blockS]))) | (refine useK (by with_reducible assumption) ?_)))
      (first | refine r1_ Try.results31 (fun w_ hs_ => ?_) | refine r2_ Try.results31 (fun w_ hs_ => ?_) | refine r3_ Try.results31 (fun w_ hs_ => ?_) | refine retS0 Try.results31 (fun w_ hs_ => ?_) | refine retN0 Try.results31 (fun w_ hs_ => ?_))
      refine ⟨?_, hs_.mod⟩
      rw [hE.out]
      try rfl
    · have hE : Hid (begLen B.size p.data.size = ((B.size : Int) - (p.data.size : Int) + if (8 : Int) < (p.data.size : Int) then 8 else (p.data.size : Int)).toNat) := Lib.hid (by unfold begLen; split <;> split <;> omega)
      (refine enterS ([]) (Sep.start _ []) Try.func31 rfl ?_; simp only [Try.ntmps31, List.size_toArray, List.length_cons, List.length_nil, Nat.reduceAdd, Nat.reduceSub, Array.replicate_succ, Array.replicate_zero, List.push_toArray, List.append_toArray, List.nil_append, List.cons_append])
      (repeat' (first | ((with_reducible refine isOps ?_); first | (refine seqS_nil ?_; (try simp only [thenS, blockS])) | ((first | ((with_reducible refine isCallF ?_); refine aCF ?_) | ((with_reducible refine isCallV ?_); refine aCV ?_)); first | (refine callS_N (fun w_ hs_ => hP.out _) (fun i_ l_ hl_ => ?_); dsimp only [sS, sZ] at hl_; subst hl_)) | ((with_reducible refine isStore ?_); first | refine aSt ?_) | ((with_reducible refine isAlloc ?_); first | (refine aAl (fun n_ l_ hl_ => ?_); dsimp only [sS, sZ] at hl_; subst hl_)) | refine aV ?_) | ((with_reducible refine isWp ?_); first | (refine wpS_seq (fun K_ hK_ => ?_)) | (refine wpS_region ?_) | (refine wpS_cond rfl (fun h_ => ?_) (fun h_ => ?_) <;> (try (simp only [beq_iff_eq, bne_iff_ne, beq_eq_false_iff_ne, bne_eq_false_iff_eq, ne_eq, decide_eq_true_eq, decide_eq_false_iff_not, Bool.and_eq_true, Bool.or_eq_true, Bool.and_eq_false_iff, Bool.or_eq_false_iff, Bool.false_eq_true, Bool.true_eq_false, reduceCtorEq] at h_)) <;> (try (first | (with_reducible contradiction) | (exfalso; omega)))) | (refine wpS_block ?_) | (refine wpS_ret ?_; (try simp only [thenS, blockS])) | (refine wpS_exit ?_; simp only [thenS, blockS, ↓reduceIte, Nat.reduceEqDiff]) | (refine wpS_skip ?_; (try simp only [thenS, blockS]))) | (refine useK (by with_reducible assumption) ?_)))
      (first | refine r1_ Try.results31 (fun w_ hs_ => ?_) | refine r2_ Try.results31 (fun w_ hs_ => ?_) | refine r3_ Try.results31 (fun w_ hs_ => ?_) | refine retS0 Try.results31 (fun w_ hs_ => ?_) | refine retN0 Try.results31 (fun w_ hs_ => ?_))
      refine ⟨?_, hs_.mod⟩
      rw [hE.out]
      try rfl
  · have hrr := hB.out
    simp only at hrr
    rw [hrr]
    have hx1 := hdrParse_inr hR
    clear hd hsz hx hR hBB hl hB hrr
    replace hP := Lib.hid hP
    (refine enterS ([]) (Sep.start _ []) Try.func31 rfl ?_; simp only [Try.ntmps31, List.size_toArray, List.length_cons, List.length_nil, Nat.reduceAdd, Nat.reduceSub, Array.replicate_succ, Array.replicate_zero, List.push_toArray, List.append_toArray, List.nil_append, List.cons_append])
    (repeat' (first | ((with_reducible refine isOps ?_); first | (refine seqS_nil ?_; (try simp only [thenS, blockS])) | ((first | ((with_reducible refine isCallF ?_); refine aCF ?_) | ((with_reducible refine isCallV ?_); refine aCV ?_)); first | refine cS0 (fun w_ hs_ => hP.out _) ?_) | ((with_reducible refine isStore ?_); first | refine aSt ?_) | ((with_reducible refine isAlloc ?_); first | (refine aAl (fun n_ l_ hl_ => ?_); dsimp only [sS, sZ] at hl_; subst hl_)) | refine aV ?_) | ((with_reducible refine isWp ?_); first | (refine wpS_seq (fun K_ hK_ => ?_)) | (refine wpS_region ?_) | (refine wpS_cond rfl (fun h_ => ?_) (fun h_ => ?_) <;> (try (simp only [beq_iff_eq, bne_iff_ne, beq_eq_false_iff_ne, bne_eq_false_iff_eq, ne_eq, decide_eq_true_eq, decide_eq_false_iff_not, Bool.and_eq_true, Bool.or_eq_true, Bool.and_eq_false_iff, Bool.or_eq_false_iff, Bool.false_eq_true, Bool.true_eq_false, reduceCtorEq] at h_)) <;> (try (first | (with_reducible contradiction) | (exfalso; omega)))) | (refine wpS_block ?_) | (refine wpS_ret ?_; (try simp only [thenS, blockS])) | (refine wpS_exit ?_; simp only [thenS, blockS, ↓reduceIte, Nat.reduceEqDiff]) | (refine wpS_skip ?_; (try simp only [thenS, blockS]))) | (refine useK (by with_reducible assumption) ?_)))
    (first | refine r1_ Try.results31 (fun w_ hs_ => ?_) | refine r2_ Try.results31 (fun w_ hs_ => ?_) | refine r3_ Try.results31 (fun w_ hs_ => ?_) | refine retS0 Try.results31 (fun w_ hs_ => ?_) | refine retN0 Try.results31 (fun w_ hs_ => ?_))
    exact ⟨rfl, hs_.mod⟩
set_option maxHeartbeats 4000000 in
theorem refBeg_any (l : List UInt8) (hl : l.length ≤ 70000) (w : World) : Calls Try.prog 32 #[.string (strOf l)] w fun e w' => e = .returned (.string (strOf (begOf l))) ∧ Mod [] w w' := by
  have hP := fun w' => refHdrParse_any l hl w'
  have hB : Hid (begOf l = match hdrParse l with
    | .inl p => l.take (begLen l.length p.data.size)
    | .inr _ => []) := Lib.hid rfl
  have hd := fun p => hdr_dsize (l := l) (p := p)
  have hx : ∀ k : Nat, (strOf l).extract 0 k = strOf (l.take k) := fun k => strOf_take l k
  have hsz := strOf_size l
  generalize begOf l = R at hB ⊢
  generalize hR : hdrParse l = X at hP hB
  generalize hBB : strOf l = B at hP hx hsz ⊢
  rcases X with p | x
  · have hdp := hd p hR
    have hrr := hB.out
    simp only at hrr
    rw [hrr, ← hx, ← hsz]
    have hz1 : p.data.size ≤ B.size := by omega
    have hz2 : B.size ≤ 70000 := by omega
    clear hd hsz hx hR hBB hl hB hrr hdp
    replace hP := Lib.hid hP
    by_cases h8 : 8 ≤ p.data.size
    · have hE : Hid (begLen B.size p.data.size = ((B.size : Int) - (p.data.size : Int) + if (8 : Int) < (p.data.size : Int) then 8 else (p.data.size : Int)).toNat) := Lib.hid (by unfold begLen; split <;> split <;> omega)
      (refine enterS ([]) (Sep.start _ []) Try.func32 rfl ?_; simp only [Try.ntmps32, List.size_toArray, List.length_cons, List.length_nil, Nat.reduceAdd, Nat.reduceSub, Array.replicate_succ, Array.replicate_zero, List.push_toArray, List.append_toArray, List.nil_append, List.cons_append])
      (repeat' (first | ((with_reducible refine isOps ?_); first | (refine seqS_nil ?_; (try simp only [thenS, blockS])) | ((first | ((with_reducible refine isCallF ?_); refine aCF ?_) | ((with_reducible refine isCallV ?_); refine aCV ?_)); first | (refine callS_N (fun w_ hs_ => hP.out _) (fun i_ l_ hl_ => ?_); dsimp only [sS, sZ] at hl_; subst hl_)) | ((with_reducible refine isStore ?_); first | refine aSt ?_) | ((with_reducible refine isAlloc ?_); first | (refine aAl (fun n_ l_ hl_ => ?_); dsimp only [sS, sZ] at hl_; subst hl_)) | refine aV ?_) | ((with_reducible refine isWp ?_); first | (refine wpS_seq (fun K_ hK_ => ?_)) | (refine wpS_region ?_) | (refine wpS_cond rfl (fun h_ => ?_) (fun h_ => ?_) <;> (try (simp only [beq_iff_eq, bne_iff_ne, beq_eq_false_iff_ne, bne_eq_false_iff_eq, ne_eq, decide_eq_true_eq, decide_eq_false_iff_not, Bool.and_eq_true, Bool.or_eq_true, Bool.and_eq_false_iff, Bool.or_eq_false_iff, Bool.false_eq_true, Bool.true_eq_false, reduceCtorEq] at h_)) <;> (try (first | (with_reducible contradiction) | (exfalso; omega)))) | (refine wpS_block ?_) | (refine wpS_ret ?_; (try simp only [thenS, blockS])) | (refine wpS_exit ?_; simp only [thenS, blockS, ↓reduceIte, Nat.reduceEqDiff]) | (refine wpS_skip ?_; (try simp only [thenS, blockS]))) | (refine useK (by with_reducible assumption) ?_)))
      (first | refine r1_ Try.results32 (fun w_ hs_ => ?_) | refine r2_ Try.results32 (fun w_ hs_ => ?_) | refine r3_ Try.results32 (fun w_ hs_ => ?_) | refine retS0 Try.results32 (fun w_ hs_ => ?_) | refine retN0 Try.results32 (fun w_ hs_ => ?_))
      refine ⟨?_, hs_.mod⟩
      rw [hE.out]
      try rfl
    · have hE : Hid (begLen B.size p.data.size = ((B.size : Int) - (p.data.size : Int) + if (8 : Int) < (p.data.size : Int) then 8 else (p.data.size : Int)).toNat) := Lib.hid (by unfold begLen; split <;> split <;> omega)
      (refine enterS ([]) (Sep.start _ []) Try.func32 rfl ?_; simp only [Try.ntmps32, List.size_toArray, List.length_cons, List.length_nil, Nat.reduceAdd, Nat.reduceSub, Array.replicate_succ, Array.replicate_zero, List.push_toArray, List.append_toArray, List.nil_append, List.cons_append])
      (repeat' (first | ((with_reducible refine isOps ?_); first | (refine seqS_nil ?_; (try simp only [thenS, blockS])) | ((first | ((with_reducible refine isCallF ?_); refine aCF ?_) | ((with_reducible refine isCallV ?_); refine aCV ?_)); first | (refine callS_N (fun w_ hs_ => hP.out _) (fun i_ l_ hl_ => ?_); dsimp only [sS, sZ] at hl_; subst hl_)) | ((with_reducible refine isStore ?_); first | refine aSt ?_) | ((with_reducible refine isAlloc ?_); first | (refine aAl (fun n_ l_ hl_ => ?_); dsimp only [sS, sZ] at hl_; subst hl_)) | refine aV ?_) | ((with_reducible refine isWp ?_); first | (refine wpS_seq (fun K_ hK_ => ?_)) | (refine wpS_region ?_) | (refine wpS_cond rfl (fun h_ => ?_) (fun h_ => ?_) <;> (try (simp only [beq_iff_eq, bne_iff_ne, beq_eq_false_iff_ne, bne_eq_false_iff_eq, ne_eq, decide_eq_true_eq, decide_eq_false_iff_not, Bool.and_eq_true, Bool.or_eq_true, Bool.and_eq_false_iff, Bool.or_eq_false_iff, Bool.false_eq_true, Bool.true_eq_false, reduceCtorEq] at h_)) <;> (try (first | (with_reducible contradiction) | (exfalso; omega)))) | (refine wpS_block ?_) | (refine wpS_ret ?_; (try simp only [thenS, blockS])) | (refine wpS_exit ?_; simp only [thenS, blockS, ↓reduceIte, Nat.reduceEqDiff]) | (refine wpS_skip ?_; (try simp only [thenS, blockS]))) | (refine useK (by with_reducible assumption) ?_)))
      (first | refine r1_ Try.results32 (fun w_ hs_ => ?_) | refine r2_ Try.results32 (fun w_ hs_ => ?_) | refine r3_ Try.results32 (fun w_ hs_ => ?_) | refine retS0 Try.results32 (fun w_ hs_ => ?_) | refine retN0 Try.results32 (fun w_ hs_ => ?_))
      refine ⟨?_, hs_.mod⟩
      rw [hE.out]
      try rfl
  · have hrr := hB.out
    simp only at hrr
    rw [hrr]
    have hx1 := hdrParse_inr hR
    clear hd hsz hx hR hBB hl hB hrr
    replace hP := Lib.hid hP
    (refine enterS ([]) (Sep.start _ []) Try.func32 rfl ?_; simp only [Try.ntmps32, List.size_toArray, List.length_cons, List.length_nil, Nat.reduceAdd, Nat.reduceSub, Array.replicate_succ, Array.replicate_zero, List.push_toArray, List.append_toArray, List.nil_append, List.cons_append])
    (repeat' (first | ((with_reducible refine isOps ?_); first | (refine seqS_nil ?_; (try simp only [thenS, blockS])) | ((first | ((with_reducible refine isCallF ?_); refine aCF ?_) | ((with_reducible refine isCallV ?_); refine aCV ?_)); first | refine cS0 (fun w_ hs_ => hP.out _) ?_) | ((with_reducible refine isStore ?_); first | refine aSt ?_) | ((with_reducible refine isAlloc ?_); first | (refine aAl (fun n_ l_ hl_ => ?_); dsimp only [sS, sZ] at hl_; subst hl_)) | refine aV ?_) | ((with_reducible refine isWp ?_); first | (refine wpS_seq (fun K_ hK_ => ?_)) | (refine wpS_region ?_) | (refine wpS_cond rfl (fun h_ => ?_) (fun h_ => ?_) <;> (try (simp only [beq_iff_eq, bne_iff_ne, beq_eq_false_iff_ne, bne_eq_false_iff_eq, ne_eq, decide_eq_true_eq, decide_eq_false_iff_not, Bool.and_eq_true, Bool.or_eq_true, Bool.and_eq_false_iff, Bool.or_eq_false_iff, Bool.false_eq_true, Bool.true_eq_false, reduceCtorEq] at h_)) <;> (try (first | (with_reducible contradiction) | (exfalso; omega)))) | (refine wpS_block ?_) | (refine wpS_ret ?_; (try simp only [thenS, blockS])) | (refine wpS_exit ?_; simp only [thenS, blockS, ↓reduceIte, Nat.reduceEqDiff]) | (refine wpS_skip ?_; (try simp only [thenS, blockS]))) | (refine useK (by with_reducible assumption) ?_)))
    (first | refine r1_ Try.results32 (fun w_ hs_ => ?_) | refine r2_ Try.results32 (fun w_ hs_ => ?_) | refine r3_ Try.results32 (fun w_ hs_ => ?_) | refine retS0 Try.results32 (fun w_ hs_ => ?_) | refine retN0 Try.results32 (fun w_ hs_ => ?_))
    exact ⟨rfl, hs_.mod⟩
end Go.Proofs.Ytodhhnljeojpaaa
namespace Go.Proofs.Ytodhhnljeojpaaa
theorem ports_take (q : Int) (x : List UInt8) : portsIn q (x.take (if 8 ≤ x.length then 8 else x.length)) = portsIn q x := by
  by_cases h : 8 ≤ x.length
  · rw [if_pos h]
    obtain ⟨b0, b1, b2, b3, b4, b5, b6, b7, t, rfl⟩ := nt_peel x h
    rfl
  · rw [if_neg h, List.take_length]
theorem inner_beg {l : List UInt8} {p : Pkt} (h : hdrParse l = .inl p) : innerOf (begOf l) = innerOf l ∧ ∀ k, innerOf l = some k → k.src = p.src ∧ k.dst = p.dst ∧ k.proto = p.proto := by
  by_cases h20 : l.length < 20
  · rw [hdr_short h20] at h; cases h
  obtain ⟨a0, a1, a2, a3, a4, a5, a6, a7, a8, a9, a10, a11, a12, a13, a14, a15, a16, a17, a18, a19, r, rfl⟩ := peel20 l (by omega)
  have hB : begOf (a0 :: a1 :: a2 :: a3 :: a4 :: a5 :: a6 :: a7 :: a8 :: a9 :: a10 :: a11 :: a12 :: a13 :: a14 :: a15 :: a16 :: a17 :: a18 :: a19 :: r) = (a0 :: a1 :: a2 :: a3 :: a4 :: a5 :: a6 :: a7 :: a8 :: a9 :: a10 :: a11 :: a12 :: a13 :: a14 :: a15 :: a16 :: a17 :: a18 :: a19 :: r).take (begLen (r.length + 20) p.data.size) := by
    unfold begOf
    rw [h]
    simp only [List.length_cons]
  obtain ⟨k, L, hr⟩ := hdrRead_of h
  have hds : p.data.size = r.length - k := by
    rw [hr.pkt]
    show (strOf (r.drop k)).size = _
    rw [strOf_size, List.length_drop]
  have hroom := hr.room
  have hwords := hr.words
  have u0 := a0.toNat_lt
  have hbl : begLen (r.length + 20) p.data.size = (k + (if 8 ≤ r.length - k then 8 else r.length - k)) + 20 := by
    unfold begLen
    rw [hds]
    split <;> omega
  rw [hB, hbl]
  have h5 : 5 ≤ (a0.toNat : Int) % 16 := by omega
  have hk : ((a0.toNat : Int) % 16 * 4 - 20).toNat = k := by omega
  have hk2 : (a0.toNat : Int) % 16 * 4 - 20 = k := by omega
  have hI : ∀ r, innerOf (a0 :: a1 :: a2 :: a3 :: a4 :: a5 :: a6 :: a7 :: a8 :: a9 :: a10 :: a11 :: a12 :: a13 :: a14 :: a15 :: a16 :: a17 :: a18 :: a19 :: r) =
    if (a0.toNat : Int) / 16 ≠ 4 ∨ (a0.toNat : Int) % 16 < 5 then none
    else if (r.length : Int) < (a0.toNat : Int) % 16 * 4 - 20 then none
    else if sh a6 a7 % 8192 ≠ 0 then none
    else match portsIn a9.toNat (r.drop ((a0.toNat : Int) % 16 * 4 - 20).toNat) with
      | some (x, y) => some ⟨w4 a12 a13 a14 a15, w4 a16 a17 a18 a19, a9.toNat, x, y⟩
      | none => none := fun _ => rfl
  simp only [List.take_succ_cons]
  refine ⟨?_, fun K hK => ?_⟩
  · rw [hI, hI, hk, hk2]
    have hp := ports_take a9.toNat (r.drop k)
    rw [List.length_drop] at hp
    have hq : (r.take (k + (if 8 ≤ r.length - k then 8 else r.length - k))).drop k = (r.drop k).take (if 8 ≤ r.length - k then 8 else r.length - k) := by
      rw [List.drop_take, Nat.add_sub_cancel_left]
    rw [hq, hp]
    have hl : ¬ ((r.take (k + (if 8 ≤ r.length - k then 8 else r.length - k))).length : Int) < k := by rw [List.length_take]; split <;> omega
    rw [if_neg hl, if_neg (show ¬ (r.length : Int) < k by omega)]
  · rw [hI] at hK
    split at hK
    · cases hK
    split at hK
    · cases hK
    split at hK
    · cases hK
    split at hK
    · injection hK with hK
      subst hK
      rw [hr.pkt]
      exact ⟨rfl, rfl, rfl⟩
    · cases hK
end Go.Proofs.Ytodhhnljeojpaaa
