/- Package segment: the parser. -/
import Derived.Test.YtmcaigmpcbkfpaaMNot5
import Derived.Test.YtmcaigmpcbkfpaaRdNum
import Derived.Test.YtmcaigmpcbkfpaaOpen
set_option linter.unusedVariables false
set_option linter.unusedSimpArgs false
namespace Go.Proofs.Ytmcaigmpcbkfpaa
open Go.RowKit
abbrev prCells (q : Nat) (b : ByteArray) (g : Bool) (s : Seg) : List Value := [ptr0 q, .string b, .bool g, .int .i64 s.sp, .int .i64 s.dp, .int .u32 s.seq, .int .u32 s.ack, .int .i64 s.fl, .int .i64 s.win, .string s.d]
section
variable {P q : Nat} {b : ByteArray} {g : Bool} {s : Seg} {st : Bool × ByteArray} {w : World}
end
section
variable {P q : Nat} {b : ByteArray} {g : Bool} {s : Seg} {st st' : Bool × ByteArray} {R : Seg ⊕ Int} {w w' : World} {rs : List Res} {sp dp seq ack fl win : Int} {d : ByteArray}
end
set_option maxRecDepth 8000
attribute [local irreducible] blk wpS seqS ordS OpVal RV endS LoadV StoreV Calls
def noSeg : Seg := ⟨0, 0, 0, 0, 0, 0, ⟨#[]⟩⟩
theorem nand_t {p : Prop} {g : Bool} (h : g = true) : ¬ (p ∧ g = false) := fun e => by rw [h] at e; cases e.2
theorem nand_z {x : Int} {q : Prop} (h : x = 0) : ¬ (x ≠ 0 ∧ q) := fun e => e.1 h
/-- UDP's bytes. -/
def udpParse (g : Bool) : List UInt8 → Seg ⊕ Int
  | a0 :: a1 :: a2 :: a3 :: a4 :: a5 :: a6 :: a7 :: r => if sh a4 a5 < 8 then .inr 3 else if (r.length : Int) + 8 < sh a4 a5 then .inr 2 else if sh a4 a5 < (r.length : Int) + 8 then .inr 5 else if sh a6 a7 ≠ 0 ∧ g = false then .inr 4 else .inl ⟨sh a0 a1, sh a2 a3, 0, 0, 0, 0, strOf r⟩
  | _ => .inr 2
end Go.Proofs.Ytmcaigmpcbkfpaa
namespace Go.Proofs.Ytmcaigmpcbkfpaa
set_option maxRecDepth 8000
attribute [local irreducible] blk wpS seqS ordS OpVal RV endS LoadV StoreV Calls
open Go.RowKit
theorem nand_f {g : Bool} (h : g = true) : ¬ g = false := fun e => by rw [h] at e; cases e
/-- TCP's bytes. -/
def tcpParse (g : Bool) : List UInt8 → Seg ⊕ Int
  | a0 :: a1 :: a2 :: a3 :: a4 :: a5 :: a6 :: a7 :: a8 :: a9 :: a10 :: a11 :: a12 :: a13 :: a14 :: a15 :: _ :: _ :: _ :: _ :: r =>
    if (a12.toNat : Int) / 16 < 5 then .inr 3 else if (r.length : Int) + 20 < (a12.toNat : Int) / 16 * 4 then .inr 2 else if g = false then .inr 4 else
      .inl ⟨sh a0 a1, sh a2 a3, w4 a4 a5 a6 a7, w4 a8 a9 a10 a11, (a13.toNat : Int) % 64, sh a14 a15, strOf (r.drop ((a12.toNat : Int) / 16 * 4 - 20).toNat)⟩
  | _ => .inr 2
end Go.Proofs.Ytmcaigmpcbkfpaa
namespace Go.Proofs.Ytmcaigmpcbkfpaa
set_option maxRecDepth 8000
attribute [local irreducible] blk wpS seqS ordS OpVal RV endS LoadV StoreV Calls
open Go.RowKit
instance : Inhabited Seg := ⟨noSeg⟩
theorem peelS (l : List UInt8) (h : 0 < l.length) : ∃ a t, l = a :: t := by
  cases l with
  | nil => simp at h
  | cons a t => exact ⟨a, t, rfl⟩
section
variable {P q : Nat} {b : ByteArray} {g : Bool} {l : List UInt8} {w : World}
theorem udp_short (h : l.length < 8) : udpParse g l = .inr 2 := by
  unfold udpParse
  split
  · simp only [List.length_cons] at h; omega
  · rfl
theorem tcp_short (h : l.length < 20) : tcpParse g l = .inr 2 := by
  unfold tcpParse
  split
  · simp only [List.length_cons] at h; omega
  · rfl
end
theorem udp_inr {g : Bool} {l : List UInt8} {x : Int} (h : udpParse g l = .inr x) : x = 2 ∨ x = 3 ∨ x = 4 ∨ x = 5 := by
  unfold udpParse at h
  split at h
  · repeat (first | (split at h) | (injection h with h; omega) | (cases h; done))
  · injection h with h; omega
theorem tcp_inr {g : Bool} {l : List UInt8} {x : Int} (h : tcpParse g l = .inr x) : x = 2 ∨ x = 3 ∨ x = 4 ∨ x = 5 := by
  unfold tcpParse at h
  split at h
  · repeat (first | (split at h) | (injection h with h; omega) | (cases h; done))
  · injection h with h; omega
def segGood (p src dst : Int) (l : List UInt8) : Bool := sumOf [pseudoOf src dst p l.length, strOf l] == 0
/-- Bytes' segment, or the mistake's number. -/
def segParse (p src dst : Int) (l : List UInt8) : Seg ⊕ Int := if p = 6 then tcpParse (segGood p src dst l) l else if p = 17 then udpParse (segGood p src dst l) l else .inr 1
def parsed : Seg ⊕ Int → Seg × Int
  | .inl s => (s, 0)
  | .inr x => (noSeg, x)
end Go.Proofs.Ytmcaigmpcbkfpaa
namespace Go.Proofs.Ytmcaigmpcbkfpaa
set_option maxRecDepth 8000
attribute [local irreducible] blk wpS seqS ordS OpVal RV endS LoadV StoreV Calls
open Go.RowKit
theorem sh_rng (a b : UInt8) : 0 ≤ sh a b ∧ sh a b ≤ 65535 := by
  have h1 := a.toNat_lt
  have h2 := b.toNat_lt
  unfold sh; omega
theorem w4_sh (a b c d : UInt8) : w4 a b c d = sh a b * 65536 + sh c d := by unfold w4 sh; omega
set_option maxHeartbeats 1000000 in
theorem rshort06 (l : List UInt8) (k : Nat) (hk : k + 1 < l.length) (w : World) (hl : l.length ≤ 100000 := by omega) : Calls Try.prog 51 #[.string (strOf l), .int .i64 k] w fun e w' => e = .returned (.int .i64 (sh l[k] l[k + 1])) ∧ Mod [] w w' := by
  have hsz := strOf_size l
  have g1 := strOf_get l k (by omega)
  have g2 := strOf_get l (k + 1) hk
  have hsh := Lib.hid (show sh l[k] l[k + 1] = (l[k].toNat : Int) * 256 + l[k + 1].toNat from rfl)
  generalize l[k] = a at g1 hsh
  generalize l[k + 1] = b at g2 hsh
  have u1 := a.toNat_lt
  have u2 := b.toNat_lt
  have k1 : IntKind.i64.wrap (a.toNat : Int) = a.toNat := IntWalk.i64_in _ (by omega)
  have k2 : IntKind.i64.wrap (b.toNat : Int) = b.toNat := IntWalk.i64_in _ (by omega)
  (refine enterS ([]) (Sep.start _ []) Try.func51 rfl ?_; simp only [Try.ntmps51, List.size_toArray, List.length_cons, List.length_nil, Nat.reduceAdd, Nat.reduceSub, Array.replicate_succ, Array.replicate_zero, List.push_toArray, List.append_toArray, List.nil_append, List.cons_append])
  (repeat' (first | ((with_reducible refine isOps ?_); first | (refine seqS_nil ?_; (try simp only [thenS, blockS])) | ((with_reducible refine isConvert ?_); first | refine aBy ?_) | refine aV ?_) | ((with_reducible refine isOrd ?_); first | (refine ordS_nil ?_; (try simp only [thenS, blockS, blks, List.map_cons, List.map_nil, List.cons_append, List.nil_append])) | refine oV ?_ | refine oBy ?_) | ((with_reducible refine isWp ?_); first | (refine wpS_seq (fun K_ hK_ => ?_)) | (refine wpS_region ?_) | (refine wpS_cond rfl (fun h_ => ?_) (fun h_ => ?_) <;> (try (simp only [beq_iff_eq, bne_iff_ne, beq_eq_false_iff_ne, bne_eq_false_iff_eq, ne_eq, decide_eq_true_eq, decide_eq_false_iff_not, Bool.and_eq_true, Bool.or_eq_true, Bool.and_eq_false_iff, Bool.or_eq_false_iff, Bool.false_eq_true, Bool.true_eq_false, reduceCtorEq] at h_)) <;> (try (first | (with_reducible contradiction) | (exfalso; omega)))) | (refine wpS_block ?_) | (refine wpS_ret ?_; (try simp only [thenS, blockS])) | (refine wpS_exit ?_; simp only [thenS, blockS, ↓reduceIte, Nat.reduceEqDiff]) | (refine wpS_skip ?_; (try simp only [thenS, blockS]))) | ((with_reducible refine isDraw ?_); refine wpS_drawT (by simp only [List.length_cons, List.length_nil, Nat.zero_add, Nat.reduceAdd, List.range'_succ, List.range'_zero]; rfl) (by kernel_rfl) (by kernel_rfl) (fun B_ hB_ hf_ => ?_)) | (refine useK (by with_reducible assumption) ?_)))
  (first | refine r1_ Try.results51 (fun w_ hs_ => ?_) | refine r2_ Try.results51 (fun w_ hs_ => ?_) | refine r3_ Try.results51 (fun w_ hs_ => ?_) | refine retS0 Try.results51 (fun w_ hs_ => ?_) | refine retN0 Try.results51 (fun w_ hs_ => ?_))
  refine ⟨?_, hs_.mod⟩
  rw [hsh.out, Int.mul_comm 256]
theorem refOf_two (a b : ByteArray) (h : a.size + b.size ≤ 1000000) (w : World) : Calls Try.prog 25 #[.string (a ++ b)] w fun e w' => e = .returned (.int .i64 (sumOf [a, b])) ∧ Mod [] w w' := by
  refine (refOf_any (a ++ b) (by rw [ByteArray.size_append]; omega) w).mono fun e w' ⟨h1, h2⟩ => ⟨?_, h2 ▸ Mod.refl _ _⟩
  rw [h1, sumOf_eq, flat_two]
  congr 4
end Go.Proofs.Ytmcaigmpcbkfpaa
namespace Go.Proofs.Ytmcaigmpcbkfpaa
open Go.RowKit Go.ChangeShapes Go.WideShapes Go.Deep
end Go.Proofs.Ytmcaigmpcbkfpaa
namespace Go.Proofs.Ytmcaigmpcbkfpaa
set_option maxRecDepth 8000
attribute [local irreducible] blk wpS seqS ordS OpVal RV endS LoadV StoreV Calls
open Go.RowKit Go.ChangeShapes Go.WideShapes Go.Deep
set_option maxHeartbeats 1000000 in
theorem refPorts_ok (p : Int) (hp : p = 6 ∨ p = 17) (a b c d : UInt8) (l : List UInt8) (hl : 4 ≤ l.length ∧ l.length ≤ 90000) (w : World) :
    Calls Try.prog 27 #[.int .i64 p, .string (strOf (a :: b :: c :: d :: l))] w fun e w' => e = .returned (.tuple #[.int .i64 (sh a b), .int .i64 (sh c d)]) ∧ Mod [] w w' := by
  have hsz : ((strOf (a :: b :: c :: d :: l)).size : Int) = l.length + 4 := by rw [strOf_size]; simp; omega
  have h0 : Hid (∀ w', Calls Try.prog 51 #[.string (strOf (a :: b :: c :: d :: l)), .int .i64 0] w' fun e w'' => e = .returned (.int .i64 (sh a b)) ∧ Mod [] w' w'') := Lib.hid fun w' => rshort06 (a :: b :: c :: d :: l) 0 (by simp) w' (by simp only [List.length_cons]; omega)
  have h2 : Hid (∀ w', Calls Try.prog 51 #[.string (strOf (a :: b :: c :: d :: l)), .int .i64 2] w' fun e w'' => e = .returned (.int .i64 (sh c d)) ∧ Mod [] w' w'') := Lib.hid fun w' => rshort06 (a :: b :: c :: d :: l) 2 (by simp) w' (by simp only [List.length_cons]; omega)
  rcases hp with rfl | rfl
  all_goals
    (refine enterS ([]) (Sep.start _ []) Try.func27 rfl ?_; simp only [Try.ntmps27, List.size_toArray, List.length_cons, List.length_nil, Nat.reduceAdd, Nat.reduceSub, Array.replicate_succ, Array.replicate_zero, List.push_toArray, List.append_toArray, List.nil_append, List.cons_append])
    (repeat' (first | ((with_reducible refine isOps ?_); first | (refine seqS_nil ?_; (try simp only [thenS, blockS])) | ((first | ((with_reducible refine isCallF ?_); refine aCF ?_) | ((with_reducible refine isCallV ?_); refine aCV ?_)); first | refine cS0 (fun w_ hs_ => h0.out _) ?_ | refine cS0 (fun w_ hs_ => h2.out _) ?_) | refine aV ?_ | refine aNo ?_ | refine aNo' ?_ | ((fail_if_success (refine aIsT ?_)); (fail_if_success (refine aIsF ?_)); refine seqS_guard rfl rfl rfl (fun l_ hl_ h_ => ?_) (fun l_ hl_ h_ => ?_) <;> (dsimp only [sS, sZ] at hl_; subst hl_; (try (simp only [beq_iff_eq, bne_iff_ne, beq_eq_false_iff_ne, bne_eq_false_iff_eq, ne_eq, decide_eq_true_eq, decide_eq_false_iff_not, Bool.and_eq_true, Bool.or_eq_true, Bool.and_eq_false_iff, Bool.or_eq_false_iff, Bool.not_eq_true', Bool.not_eq_false', Bool.false_eq_true, Bool.true_eq_false, reduceCtorEq] at h_)); (try (first | (with_reducible contradiction) | (exfalso; omega)))))) | ((with_reducible refine isWp ?_); first | (refine wpS_seq (fun K_ hK_ => ?_)) | (refine wpS_region ?_) | (refine wpS_cond rfl (fun h_ => ?_) (fun h_ => ?_) <;> (try (simp only [beq_iff_eq, bne_iff_ne, beq_eq_false_iff_ne, bne_eq_false_iff_eq, ne_eq, decide_eq_true_eq, decide_eq_false_iff_not, Bool.and_eq_true, Bool.or_eq_true, Bool.and_eq_false_iff, Bool.or_eq_false_iff, Bool.false_eq_true, Bool.true_eq_false, reduceCtorEq] at h_)) <;> (try (first | (with_reducible contradiction) | (exfalso; omega)))) | (refine wpS_block ?_) | (refine wpS_ret ?_; (try simp only [thenS, blockS])) | (refine wpS_exit ?_; simp only [thenS, blockS, ↓reduceIte, Nat.reduceEqDiff]) | (refine wpS_skip ?_; (try simp only [thenS, blockS]))) | (refine useK (by with_reducible assumption) ?_)))
    (first | refine r1_ Try.results27 (fun w_ hs_ => ?_) | refine r2_ Try.results27 (fun w_ hs_ => ?_) | refine r3_ Try.results27 (fun w_ hs_ => ?_) | refine retS0 Try.results27 (fun w_ hs_ => ?_) | refine retN0 Try.results27 (fun w_ hs_ => ?_))
    exact ⟨rfl, hs_.mod⟩
set_option maxHeartbeats 1000000 in
theorem refPorts_no (p : Int) (s : ByteArray) (h : ¬ (p = 6 ∨ p = 17) ∨ s.size < 8) (w : World) :
    Calls Try.prog 27 #[.int .i64 p, .string s] w fun e w' => e = .returned (.tuple #[.int .i64 (-1), .int .i64 (-1)]) ∧ Mod [] w w' := by
  by_cases h6 : p = 6 <;> by_cases h17 : p = 17 <;> by_cases h8 : s.size < 8
  all_goals
    first
      | (exfalso; omega)
      | ((refine enterS ([]) (Sep.start _ []) Try.func27 rfl ?_; simp only [Try.ntmps27, List.size_toArray, List.length_cons, List.length_nil, Nat.reduceAdd, Nat.reduceSub, Array.replicate_succ, Array.replicate_zero, List.push_toArray, List.append_toArray, List.nil_append, List.cons_append])
         (repeat' (first | ((with_reducible refine isOps ?_); first | (refine seqS_nil ?_; (try simp only [thenS, blockS])) | refine aV ?_ | refine aNo ?_ | refine aNo' ?_ | ((fail_if_success (refine aIsT ?_)); (fail_if_success (refine aIsF ?_)); refine seqS_guard rfl rfl rfl (fun l_ hl_ h_ => ?_) (fun l_ hl_ h_ => ?_) <;> (dsimp only [sS, sZ] at hl_; subst hl_; (try (simp only [beq_iff_eq, bne_iff_ne, beq_eq_false_iff_ne, bne_eq_false_iff_eq, ne_eq, decide_eq_true_eq, decide_eq_false_iff_not, Bool.and_eq_true, Bool.or_eq_true, Bool.and_eq_false_iff, Bool.or_eq_false_iff, Bool.not_eq_true', Bool.not_eq_false', Bool.false_eq_true, Bool.true_eq_false, reduceCtorEq] at h_)); (try (first | (with_reducible contradiction) | (exfalso; omega)))))) | ((with_reducible refine isWp ?_); first | (refine wpS_seq (fun K_ hK_ => ?_)) | (refine wpS_region ?_) | (refine wpS_cond rfl (fun h_ => ?_) (fun h_ => ?_) <;> (try (simp only [beq_iff_eq, bne_iff_ne, beq_eq_false_iff_ne, bne_eq_false_iff_eq, ne_eq, decide_eq_true_eq, decide_eq_false_iff_not, Bool.and_eq_true, Bool.or_eq_true, Bool.and_eq_false_iff, Bool.or_eq_false_iff, Bool.false_eq_true, Bool.true_eq_false, reduceCtorEq] at h_)) <;> (try (first | (with_reducible contradiction) | (exfalso; omega)))) | (refine wpS_block ?_) | (refine wpS_ret ?_; (try simp only [thenS, blockS])) | (refine wpS_exit ?_; simp only [thenS, blockS, ↓reduceIte, Nat.reduceEqDiff]) | (refine wpS_skip ?_; (try simp only [thenS, blockS]))) | (refine useK (by with_reducible assumption) ?_)))
         all_goals
           (first | refine r1_ Try.results27 (fun w_ hs_ => ?_) | refine r2_ Try.results27 (fun w_ hs_ => ?_) | refine r3_ Try.results27 (fun w_ hs_ => ?_) | refine retS0 Try.results27 (fun w_ hs_ => ?_) | refine retN0 Try.results27 (fun w_ hs_ => ?_))
           exact ⟨rfl, hs_.mod⟩)
end Go.Proofs.Ytmcaigmpcbkfpaa
