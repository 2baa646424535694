/- sum.Pseudo and the document's Pseudo. -/
import Derived.Test.YtmcaigmpcbkfpaaGreatMSumText
import Derived.Test.YtmcaigmpcbkfpaaGreatAuto
set_option linter.unusedVariables false
set_option linter.unusedSimpArgs false
set_option maxRecDepth 100000
namespace Go.Proofs.YtmcaigmpcbkfpaaGreat
open Go.RowKit

def pseudoOf (src dst proto size : Int) : ByteArray := ⟨(numBytes 4 src ++ numBytes 4 dst ++ [0, UInt8.ofNat (proto % 256).toNat] ++ numBytes 2 (size % 65536)).toArray⟩

theorem pseudo_nums (src dst proto size : Int) (hs : 0 ≤ src ∧ src ≤ 4294967295) (hd : 0 ≤ dst ∧ dst ≤ 4294967295) :
    strOfNums [src / 16777216, src / 65536 % 256, src / 256 % 256, src % 256, dst / 16777216, dst / 65536 % 256, dst / 256 % 256, dst % 256, 0, proto % 256, size / 256 % 256, size % 256] = pseudoOf src dst proto size := by
  unfold strOfNums pseudoOf
  rw [numBytes4, numBytes4, numBytes2]
  rw [show src / 16777216 % 256 = src / 16777216 from by omega, show dst / 16777216 % 256 = dst / 16777216 from by omega, show size % 65536 / 256 % 256 = size / 256 % 256 from by omega, show size % 65536 % 256 = size % 256 from by omega]
  simp
set_option maxHeartbeats 1000000 in
theorem rPseudo_any (src dst proto size : Int) (hs : 0 ≤ src ∧ src ≤ 4294967295) (hd : 0 ≤ dst ∧ dst ≤ 4294967295) (w : World) :
    Calls Tryz.prog 96 #[.int .u32 src, .int .u32 dst, .int .i64 proto, .int .i64 size] w fun e w' => e = .returned (.string (pseudoOf src dst proto size)) ∧ Mod [] w w' := by
  have kc : (convert 118 9 (.slice (some ⟨w.heap.size, 0, none⟩) 12 12)).run Tryz.prog (w.alloc (.cells #[.int .u8 (src / 16777216), .int .u8 (src / 65536 % 256), .int .u8 (src / 256 % 256), .int .u8 (src % 256), .int .u8 (dst / 16777216), .int .u8 (dst / 65536 % 256), .int .u8 (dst / 256 % 256), .int .u8 (dst % 256), .int .u8 0, .int .u8 (proto % 256), .int .u8 (size / 256 % 256), .int .u8 (size % 256)] 5)) =
      .ok (.string (pseudoOf src dst proto size)) (w.alloc (.cells #[.int .u8 (src / 16777216), .int .u8 (src / 65536 % 256), .int .u8 (src / 256 % 256), .int .u8 (src % 256), .int .u8 (dst / 16777216), .int .u8 (dst / 65536 % 256), .int .u8 (dst / 256 % 256), .int .u8 (dst % 256), .int .u8 0, .int .u8 (proto % 256), .int .u8 (size / 256 % 256), .int .u8 (size % 256)] 5)) := by
    rw [← pseudo_nums src dst proto size hs hd]
    refine run_convert_bytes_arg (P := Tryz.prog) _ 118 5 Tryz.underlying118 Tryz.underlying5 w.heap.size 0 12 12 _ rfl ?_ 9 Tryz.underlying9
    intro i hi
    rw [World.cell?_alloc_new]
    match i, hi with
    | 0, _ => rfl
    | 1, _ => rfl
    | 2, _ => rfl
    | 3, _ => rfl
    | 4, _ => rfl
    | 5, _ => rfl
    | 6, _ => rfl
    | 7, _ => rfl
    | 8, _ => rfl
    | 9, _ => rfl
    | 10, _ => rfl
    | 11, _ => rfl
  go_enter Tryz.func96, Tryz.ntmps96
  go_wp2
  go_ret
  exact ⟨rfl, by (repeat' (first | (with_reducible exact Mod.refl _ _) | (with_reducible assumption) | (with_reducible refine Mod.drew ?_) | (with_reducible refine Mod.drewN ?_ _) | (with_reducible refine Mod.alloc ?_ _) | (with_reducible refine Mod.setCell_ ?_ ?_; focus (first | (intro hlt_; simp; done) | (intro hlt_; exfalso; simp at hlt_; done) | (intro hlt_; exfalso; simp at hlt_; omega) | (intro hlt_; exfalso; omega) | (intro hlt_; simp at hlt_ ⊢; omega))) | (with_reducible refine Mod.trans_ ‹Mod _ _ _› ?_ ?_; focus (first | (intro x_ hx_ hl_; simp at hx_; done) | (intro x_ hx_ hl_; simp at hx_ ⊢; omega) | (intro x_ hx_ hl_; simp at hx_ hl_ ⊢; omega) | (intro x_ hx_ hl_; simp_all; done) | (intro x_ hx_ hl_; simp_all; omega)))))⟩

set_option maxHeartbeats 2000000 in
theorem Pseudo_any (src dst proto size : Int) (hs : 0 ≤ src ∧ src ≤ 4294967295) (hd : 0 ≤ dst ∧ dst ≤ 4294967295) (w : World) :
    Calls Tryz.prog 108 #[.int .u32 src, .int .u32 dst, .int .i64 proto, .int .i64 size] w fun e w' => e = .returned (.string (pseudoOf src dst proto size)) ∧ Mod [] w w' := by
  have l1 := low255 proto
  have l2 := low65535 size
  go_enter Tryz.func108, Tryz.ntmps108
  go_wp2_with fail
  have h0 : Wr w.heap.size ((w.alloc (.cells #[.bool false, .pointer none, .slice none 0 0] 130)).alloc (.cells #[.int .u32 src, .int .u32 dst] 32)) w.heap.size false [] :=
    (Wr.new (w := w.alloc (.cells #[.bool false, .pointer none, .slice none 0 0] 130)) (by (repeat' (first | (with_reducible assumption) | (with_reducible rfl) | (with_reducible apply Blk.drew) | (with_reducible apply Blk.drewN) | (with_reducible refine Blk.new_ _ _ ?_; focus (first | assumption | (simp; omega) | (simp; done) | omega | (simp at *; omega))) | (with_reducible apply Blk.alloc) | (with_reducible apply Blk.other_; focus (first | assumption | (simp; omega) | (simp; done) | omega | (simp at *; omega))) | (with_reducible apply Blk.set_) | (with_reducible apply Blk.mod_ ‹Mod _ _ _›; focus (first | assumption | (simp; omega) | (simp; done) | omega | (simp at *; omega))) | (simp; done)))) (Nat.le_refl _)).mod0 ((Mod.refl [] _).alloc _)
  refine (wWord_any (b := w.heap.size + 1) (false, []) [src, dst] _ h0 (show Blk _ _ [Value.int .u32 src, Value.int .u32 dst] _ from by (repeat' (first | (with_reducible assumption) | (with_reducible rfl) | (with_reducible apply Blk.drew) | (with_reducible apply Blk.drewN) | (with_reducible refine Blk.new_ _ _ ?_; focus (first | assumption | (simp; omega) | (simp; done) | omega | (simp at *; omega))) | (with_reducible apply Blk.alloc) | (with_reducible apply Blk.other_; focus (first | assumption | (simp; omega) | (simp; done) | omega | (simp at *; omega))) | (with_reducible apply Blk.set_) | (with_reducible apply Blk.mod_ ‹Mod _ _ _›; focus (first | assumption | (simp; omega) | (simp; done) | omega | (simp at *; omega))) | (simp; done)))) (by simp) _ rfl (by simp) (by simp only [List.mem_cons, List.not_mem_nil, or_false]; rintro x (rfl | rfl) <;> assumption)).mono ?_
  rintro e w1 ⟨rfl, h1, hm1⟩
  rw [putAll_cons 4 4294967295 _ src _ hs.1 hs.2, putAll_one 4 4294967295 _ dst hd.1 hd.2] at h1
  go_wp2_with fail
  refine (wByte_any (b := w1.heap.size) (false, [] ++ numBytes 4 src ++ numBytes 4 dst) [0, proto % 256] _ (h1.mod0 ((Mod.refl [] _).alloc _)) (show Blk _ _ [Value.int .i64 0, Value.int .i64 (proto % 256)] _ from by (repeat' (first | (with_reducible assumption) | (with_reducible rfl) | (with_reducible apply Blk.drew) | (with_reducible apply Blk.drewN) | (with_reducible refine Blk.new_ _ _ ?_; focus (first | assumption | (simp; omega) | (simp; done) | omega | (simp at *; omega))) | (with_reducible apply Blk.alloc) | (with_reducible apply Blk.other_; focus (first | assumption | (simp; omega) | (simp; done) | omega | (simp at *; omega))) | (with_reducible apply Blk.set_) | (with_reducible apply Blk.mod_ ‹Mod _ _ _›; focus (first | assumption | (simp; omega) | (simp; done) | omega | (simp at *; omega))) | (simp; done)))) (by simp [numBytes_length]) _ rfl (by simp)).mono ?_
  rintro e w2 ⟨rfl, h2, hm2⟩
  rw [putAll_cons 1 255 _ 0 _ (by decide) (by decide), putAll_one 1 255 _ (proto % 256) (by omega) (by omega)] at h2
  go_wp2_with fail
  refine (wShort_any (b := w2.heap.size) (false, [] ++ numBytes 4 src ++ numBytes 4 dst ++ numBytes 1 0 ++ numBytes 1 (proto % 256)) [size % 65536] _ (h2.mod0 ((Mod.refl [] _).alloc _)) (show Blk _ _ [Value.int .i64 (size % 65536)] _ from by (repeat' (first | (with_reducible assumption) | (with_reducible rfl) | (with_reducible apply Blk.drew) | (with_reducible apply Blk.drewN) | (with_reducible refine Blk.new_ _ _ ?_; focus (first | assumption | (simp; omega) | (simp; done) | omega | (simp at *; omega))) | (with_reducible apply Blk.alloc) | (with_reducible apply Blk.other_; focus (first | assumption | (simp; omega) | (simp; done) | omega | (simp at *; omega))) | (with_reducible apply Blk.set_) | (with_reducible apply Blk.mod_ ‹Mod _ _ _›; focus (first | assumption | (simp; omega) | (simp; done) | omega | (simp at *; omega))) | (simp; done)))) (by simp [numBytes_length]) _ rfl (by simp)).mono ?_
  rintro e w3 ⟨rfl, h3, hm3⟩
  rw [putAll_one 2 65535 _ (size % 65536) (by omega) (by omega)] at h3
  go_wp2_with fail
  refine (wDone_any (false, _) _ h3).mono ?_
  rintro e w4 ⟨rfl, h4, hm4⟩
  have e1 : (⟨([] ++ numBytes 4 src ++ numBytes 4 dst ++ numBytes 1 0 ++ numBytes 1 (proto % 256) ++ numBytes 2 (size % 65536)).toArray⟩ : ByteArray) = pseudoOf src dst proto size := by
    unfold pseudoOf
    congr 2
    rw [numBytes1 0, numBytes1 (proto % 256), show proto % 256 % 256 = proto % 256 from by omega]
    simp
  rw [doneOf_ok _ (by simp only [List.length_append, numBytes_length, List.length_nil]; decide), e1]
  go_wp2_with fail
  go_ret
  exact ⟨rfl, Mod.wtrans hm4 (Mod.wtrans hm3 (Mod.alloc (Mod.wtrans hm2 (Mod.alloc (Mod.wtrans hm1 (Mod.alloc (Mod.alloc (Mod.refl _ _) _) _)) _)) _))⟩

end Go.Proofs.YtmcaigmpcbkfpaaGreat
namespace Go.Proofs.YtmcaigmpcbkfpaaGreat
set_option maxRecDepth 8000
attribute [local irreducible] blk wpS seqS ordS OpVal RV endS LoadV StoreV Calls
open Go.RowKit
structure Seg where
  sp : Int
  dp : Int
  seq : Int
  ack : Int
  fl : Int
  win : Int
  d : ByteArray
abbrev enSeg (s : Seg) : List Value := [.int .i64 s.sp, .int .i64 s.dp, .int .u32 s.seq, .int .u32 s.ack, .int .i64 s.fl, .int .i64 s.win, .string s.d]
abbrev sv (s : Seg) : Value := .agg #[.int .i64 s.sp, .int .i64 s.dp, .int .u32 s.seq, .int .u32 s.ack, .int .i64 s.fl, .int .i64 s.win, .string s.d]
def segRight (p : Int) (s : Seg) : Bool := decide (0 ≤ s.sp) && decide (s.sp ≤ 65535) && (decide (0 ≤ s.dp) && decide (s.dp ≤ 65535)) &&
  (if p = 6 then decide (0 ≤ s.fl) && decide (s.fl ≤ 63) && (decide (0 ≤ s.win) && decide (s.win ≤ 65535)) && decide ((s.d.size : Int) ≤ 65495)
   else decide (p = 17) && decide (s.seq = 0) && decide (s.ack = 0) && decide (s.fl = 0) && decide (s.win = 0) && decide ((s.d.size : Int) ≤ 65507))
/-- In the words of the program: each number as its type has it. -/
def segWf (s : Seg) : Prop := (0 ≤ s.seq ∧ s.seq ≤ 4294967295) ∧ (0 ≤ s.ack ∧ s.ack ≤ 4294967295) ∧ (-9223372036854775808 ≤ s.sp ∧ s.sp ≤ 9223372036854775807) ∧ (-9223372036854775808 ≤ s.dp ∧ s.dp ≤ 9223372036854775807) ∧ (-9223372036854775808 ≤ s.fl ∧ s.fl ≤ 9223372036854775807) ∧ (-9223372036854775808 ≤ s.win ∧ s.win ≤ 9223372036854775807)
set_option maxHeartbeats 1000000 in
theorem segIn_any (n most : Int) (w : World) : Calls Tryz.prog 132 #[.int .i64 n, .int .i64 most] w fun e w' => e = .returned (.bool (decide (0 ≤ n) && decide (n ≤ most))) ∧ Mod [] w w' := by
  (refine enterS ([]) (Sep.start _ []) Tryz.func132 rfl ?_; simp only [Tryz.ntmps132, List.size_toArray, List.length_cons, List.length_nil, Nat.reduceAdd, Nat.reduceSub, Array.replicate_succ, Array.replicate_zero, List.push_toArray, List.append_toArray, List.nil_append, List.cons_append])
  (repeat' (first | ((with_reducible refine isOps ?_); first | (refine seqS_nil ?_; (try simp only [thenS, blockS])) | refine aV ?_ | refine aNo ?_ | refine aNo' ?_ | ((fail_if_success (refine aIsT ?_)); (fail_if_success (refine aIsF ?_)); refine seqS_guard rfl rfl rfl (fun l_ hl_ h_ => ?_) (fun l_ hl_ h_ => ?_) <;> (dsimp only [sS, sZ] at hl_; subst hl_; (try (simp only [beq_iff_eq, bne_iff_ne, beq_eq_false_iff_ne, bne_eq_false_iff_eq, ne_eq, decide_eq_true_eq, decide_eq_false_iff_not, Bool.and_eq_true, Bool.or_eq_true, Bool.and_eq_false_iff, Bool.or_eq_false_iff, Bool.not_eq_true', Bool.not_eq_false', Bool.false_eq_true, Bool.true_eq_false, reduceCtorEq] at h_)); (try (first | (with_reducible contradiction) | (exfalso; omega)))))) | ((with_reducible refine isWp ?_); first | (refine wpS_seq (fun K_ hK_ => ?_)) | (refine wpS_region ?_) | (refine wpS_cond rfl (fun h_ => ?_) (fun h_ => ?_) <;> (try (simp only [beq_iff_eq, bne_iff_ne, beq_eq_false_iff_ne, bne_eq_false_iff_eq, ne_eq, decide_eq_true_eq, decide_eq_false_iff_not, Bool.and_eq_true, Bool.or_eq_true, Bool.and_eq_false_iff, Bool.or_eq_false_iff, Bool.false_eq_true, Bool.true_eq_false, reduceCtorEq] at h_)) <;> (try (first | (with_reducible contradiction) | (exfalso; omega)))) | (refine wpS_block ?_) | (refine wpS_ret ?_; (try simp only [thenS, blockS])) | (refine wpS_exit ?_; simp only [thenS, blockS, ↓reduceIte, Nat.reduceEqDiff]) | (refine wpS_skip ?_; (try simp only [thenS, blockS]))) | (refine useK (by with_reducible assumption) ?_)))
  all_goals
    (first | refine r1_ Tryz.results132 (fun w_ hs_ => ?_) | refine r2_ Tryz.results132 (fun w_ hs_ => ?_) | refine r3_ Tryz.results132 (fun w_ hs_ => ?_) | refine retS0 Tryz.results132 (fun w_ hs_ => ?_) | refine retN0 Tryz.results132 (fun w_ hs_ => ?_))
    exact ⟨by simp [*], hs_.mod⟩
set_option maxHeartbeats 4000000 in
theorem segRight_any (p : Int) (s : Seg) (w : World) : Calls Tryz.prog 104 #[.int .i64 p, sv s] w fun e w' => e = .returned (.bool (segRight p s)) ∧ Mod [] w w' := by
  unfold segRight
  (refine enterS ([]) (Sep.start _ []) Tryz.func104 rfl ?_; simp only [Tryz.ntmps104, List.size_toArray, List.length_cons, List.length_nil, Nat.reduceAdd, Nat.reduceSub, Array.replicate_succ, Array.replicate_zero, List.push_toArray, List.append_toArray, List.nil_append, List.cons_append])
  (repeat' (first | ((with_reducible refine isOps ?_); first | (refine seqS_nil ?_; (try simp only [thenS, blockS])) | ((first | ((with_reducible refine isCallF ?_); refine aCF ?_) | ((with_reducible refine isCallV ?_); refine aCV ?_)); first | refine cS0 (fun w_ hs_ => segIn_any _ _ _) ?_) | ((with_reducible refine isBox ?_); first | (refine aBox (fun n_ l_ hl_ => ?_); dsimp only [sS, sZ] at hl_; subst hl_)) | refine aV ?_ | refine aNo ?_ | refine aNo' ?_ | ((fail_if_success (refine aIsT ?_)); (fail_if_success (refine aIsF ?_)); refine seqS_guard rfl rfl rfl (fun l_ hl_ h_ => ?_) (fun l_ hl_ h_ => ?_) <;> (dsimp only [sS, sZ] at hl_; subst hl_; (try (simp only [beq_iff_eq, bne_iff_ne, beq_eq_false_iff_ne, bne_eq_false_iff_eq, ne_eq, decide_eq_true_eq, decide_eq_false_iff_not, Bool.and_eq_true, Bool.or_eq_true, Bool.and_eq_false_iff, Bool.or_eq_false_iff, Bool.not_eq_true', Bool.not_eq_false', Bool.false_eq_true, Bool.true_eq_false, reduceCtorEq] at h_)); (try (first | (with_reducible contradiction) | (exfalso; omega)))))) | ((with_reducible refine isWp ?_); first | (refine wpS_seq (fun K_ hK_ => ?_)) | (refine wpS_region ?_) | (refine wpS_cond rfl (fun h_ => ?_) (fun h_ => ?_) <;> (try (simp only [beq_iff_eq, bne_iff_ne, beq_eq_false_iff_ne, bne_eq_false_iff_eq, ne_eq, decide_eq_true_eq, decide_eq_false_iff_not, Bool.and_eq_true, Bool.or_eq_true, Bool.and_eq_false_iff, Bool.or_eq_false_iff, Bool.false_eq_true, Bool.true_eq_false, reduceCtorEq] at h_)) <;> (try (first | (with_reducible contradiction) | (exfalso; omega)))) | (refine wpS_block ?_) | (refine wpS_ret ?_; (try simp only [thenS, blockS])) | (refine wpS_exit ?_; simp only [thenS, blockS, ↓reduceIte, Nat.reduceEqDiff]) | (refine wpS_skip ?_; (try simp only [thenS, blockS]))) | (refine useK (by with_reducible assumption) ?_)))
  all_goals
    (first | refine r1_ Tryz.results104 (fun w_ hs_ => ?_) | refine r2_ Tryz.results104 (fun w_ hs_ => ?_) | refine r3_ Tryz.results104 (fun w_ hs_ => ?_) | refine retS0 Tryz.results104 (fun w_ hs_ => ?_) | refine retN0 Tryz.results104 (fun w_ hs_ => ?_))
    refine ⟨?_, hs_.mod⟩
    first
      | (simp [*]; done)
      | (simp_all; done)
      | (simp_all; omega)
end Go.Proofs.YtmcaigmpcbkfpaaGreat
