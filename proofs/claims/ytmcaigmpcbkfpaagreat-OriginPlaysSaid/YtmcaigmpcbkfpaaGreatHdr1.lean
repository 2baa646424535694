/- Package header: a packet, and its parser. -/
import Derived.Test.YtmcaigmpcbkfpaaGreatMFrame
import Derived.Test.YtmcaigmpcbkfpaaGreatOpt6
import Derived.Test.YtmcaigmpcbkfpaaGreatMSum
import Derived.Test.YtmcaigmpcbkfpaaGreatMSumText
set_option linter.unusedVariables false
set_option linter.unusedSimpArgs false
namespace Go.Proofs.YtmcaigmpcbkfpaaGreat
set_option maxRecDepth 8000
attribute [local irreducible] blk wpS seqS ordS OpVal RV endS LoadV StoreV Calls
open Go.RowKit
structure Pkt where
  tos : Int
  id : Int
  df : Bool
  mf : Bool
  off : Int
  ttl : Int
  proto : Int
  src : Int
  dst : Int
  opts : List Opt
  data : ByteArray
abbrev pkCells (p : Pkt) (v : Value) : List Value := [.int .i64 p.tos, .int .i64 p.id, .bool p.df, .bool p.mf, .int .i64 p.off, .int .i64 p.ttl, .int .i64 p.proto, .int .u32 p.src, .int .u32 p.dst, v, .string p.data]
abbrev pv (p : Pkt) (v : Value) : Value := .agg #[.int .i64 p.tos, .int .i64 p.id, .bool p.df, .bool p.mf, .int .i64 p.off, .int .i64 p.ttl, .int .i64 p.proto, .int .u32 p.src, .int .u32 p.dst, v, .string p.data]
def noPkt : Pkt := ⟨0, 0, false, false, 0, 0, 0, 0, 0, [], ⟨#[]⟩⟩
/-- A parser: its reader's place, the text, and what it has read so far. -/
abbrev hpr (P q : Nat) (s : ByteArray) (wd sz : Int) (p : Pkt) (v : Value) : Res := blk P [ptr0 q, .string s, .int .i64 wd, .int .i64 sz, .int .i64 p.tos, .int .i64 p.id, .bool p.df, .bool p.mf, .int .i64 p.off, .int .i64 p.ttl, .int .i64 p.proto, .int .u32 p.src, .int .u32 p.dst, v, .string p.data] 178
abbrev nilS : Value := .slice none 0 0
/-- One bit. -/
theorem i64_bit (i : Nat) (hi : i ≤ 62) (x : Int) (h0 : 0 ≤ x) (h1 : x ≤ 1000000) : bits .and .i64 x (2 ^ i) = x / 2 ^ i % 2 * 2 ^ i := by
  obtain ⟨n, rfl⟩ : ∃ n : Nat, x = n := ⟨x.toNat, by omega⟩
  have hp : 2 ^ i ≤ 2 ^ 62 := Nat.pow_le_pow_right (by decide) hi
  have h62 : (2 : Nat) ^ 62 = 4611686018427387904 := by decide
  have h64 : (2 : Nat) ^ 64 = 18446744073709551616 := by decide
  have hc : ((2 : Int) ^ i) = ((2 ^ i : Nat) : Int) := by simp
  have hb : IntKind.i64.bits = 64 := rfl
  have hm1 : (2 ^ i) % 2 ^ 64 = 2 ^ i := Nat.mod_eq_of_lt (by omega)
  have hm2 : n % 2 ^ 64 = n := Nat.mod_eq_of_lt (by omega)
  have ha : n &&& 2 ^ i = n / 2 ^ i % 2 * 2 ^ i := by
    have ht : n.testBit i = decide (n / 2 ^ i % 2 = 1) := Nat.testBit_eq_decide_div_mod_eq
    have : n / 2 ^ i % 2 = 0 ∨ n / 2 ^ i % 2 = 1 := by omega
    apply Nat.eq_of_testBit_eq
    intro j
    rw [Nat.testBit_and, Nat.testBit_two_pow]
    rcases this with h | h
    · rw [h] at ht ⊢
      by_cases hj : i = j
      · subst hj; simp [ht]
      · simp [hj]
    · rw [h] at ht ⊢
      rw [Nat.one_mul, Nat.testBit_two_pow]
      by_cases hj : i = j
      · subst hj; simp [ht]
      · simp [hj]
  have hle : n &&& 2 ^ i ≤ n := Nat.and_le_left
  rw [hc]
  simp only [bits, hb, BitVec.ofInt_natCast, BitVec.toNat_and, BitVec.toNat_ofNat, hm1, hm2]
  rw [IntWalk.i64_in _ (by omega), ha]
  simp
theorem i64_b13 (x : Int) (h : 0 ≤ x ∧ x ≤ 65535) : bits .and .i64 x 8192 = x / 8192 % 2 * 8192 := i64_bit 13 (by decide) x h.1 (by omega)
theorem i64_b14 (x : Int) (h : 0 ≤ x ∧ x ≤ 65535) : bits .and .i64 x 16384 = x / 16384 % 2 * 16384 := i64_bit 14 (by decide) x h.1 (by omega)
theorem i64_b15 (x : Int) (h : 0 ≤ x ∧ x ≤ 65535) : bits .and .i64 x 32768 = x / 32768 % 2 * 32768 := i64_bit 15 (by decide) x h.1 (by omega)
def hFlag (x m : Int) : Bool := x / m % 2 * m != 0
/-- What is read of the first eight bytes. -/
abbrev frontPkt (a1 a4 a5 a6 a7 : UInt8) : Pkt := ⟨a1.toNat, sh a4 a5, hFlag (sh a6 a7) 16384, hFlag (sh a6 a7) 8192, sh a6 a7 % 8192 * 8, 0, 0, 0, 0, [], ⟨#[]⟩⟩
section
variable {P q : Nat} {s : ByteArray} {w : World}
set_option maxHeartbeats 1000000 in
theorem shape_short {l : List UInt8} (hs : (s.size : Int) < 20) (h : Sep w (feet [hpr P q s 0 0 noPkt nilS, rdr q (false, strOf l)]) [hpr P q s 0 0 noPkt nilS, rdr q (false, strOf l)] w) :
    Calls Tryz.prog 127 #[ptr0 P] w (Fr [hpr P q s 0 0 noPkt nilS, rdr q (false, strOf l)] (fun _ : Unit => .int .i64 2) (fun _ => []) w) := by
  (refine enterS ([hpr P q s 0 0 noPkt nilS, rdr q (false, strOf l)]) (h) Tryz.func127 rfl ?_; simp only [Tryz.ntmps127, List.size_toArray, List.length_cons, List.length_nil, Nat.reduceAdd, Nat.reduceSub, Array.replicate_succ, Array.replicate_zero, List.push_toArray, List.append_toArray, List.nil_append, List.cons_append])
  unfold hpr noPkt
  (repeat' (first | ((with_reducible refine isOps ?_); first | (refine seqS_nil ?_; (try simp only [thenS, blockS])) | ((with_reducible refine isStore ?_); first | refine aSt ?_) | refine aV ?_ | refine aNo ?_ | refine aNo' ?_ | ((fail_if_success (refine aIsT ?_)); (fail_if_success (refine aIsF ?_)); refine seqS_guard rfl rfl rfl (fun l_ hl_ h_ => ?_) (fun l_ hl_ h_ => ?_) <;> (dsimp only [sS, sZ] at hl_; subst hl_; (try (simp only [beq_iff_eq, bne_iff_ne, beq_eq_false_iff_ne, bne_eq_false_iff_eq, ne_eq, decide_eq_true_eq, decide_eq_false_iff_not, Bool.and_eq_true, Bool.or_eq_true, Bool.and_eq_false_iff, Bool.or_eq_false_iff, Bool.not_eq_true', Bool.not_eq_false', Bool.false_eq_true, Bool.true_eq_false, reduceCtorEq] at h_)); (try (first | (with_reducible contradiction) | (exfalso; omega)))))) | ((with_reducible refine isWp ?_); first | (refine wpS_seq (fun K_ hK_ => ?_)) | (refine wpS_region ?_) | (refine wpS_cond rfl (fun h_ => ?_) (fun h_ => ?_) <;> (try (simp only [beq_iff_eq, bne_iff_ne, beq_eq_false_iff_ne, bne_eq_false_iff_eq, ne_eq, decide_eq_true_eq, decide_eq_false_iff_not, Bool.and_eq_true, Bool.or_eq_true, Bool.and_eq_false_iff, Bool.or_eq_false_iff, Bool.false_eq_true, Bool.true_eq_false, reduceCtorEq] at h_)) <;> (try (first | (with_reducible contradiction) | (exfalso; omega)))) | (refine wpS_block ?_) | (refine wpS_ret ?_; (try simp only [thenS, blockS])) | (refine wpS_exit ?_; simp only [thenS, blockS, ↓reduceIte, Nat.reduceEqDiff]) | (refine wpS_skip ?_; (try simp only [thenS, blockS]))) | (refine useK (by with_reducible assumption) ?_)))
  (first | refine r1_ Tryz.results127 (fun w_ hs_ => ?_) | refine r2_ Tryz.results127 (fun w_ hs_ => ?_) | refine r3_ Tryz.results127 (fun w_ hs_ => ?_) | refine retS0 Tryz.results127 (fun w_ hs_ => ?_) | refine retN0 Tryz.results127 (fun w_ hs_ => ?_))
  exact ⟨(), rfl, hs_.sub (List.nil_sublist _)⟩
set_option maxHeartbeats 4000000 in
theorem shape_any (a0 a1 a2 a3 a4 a5 a6 a7 : UInt8) (r : List UInt8) (hs : 20 ≤ (s.size : Int)) (h : Sep w (feet [hpr P q s 0 0 noPkt nilS, rdr q (false, strOf (a0 :: a1 :: a2 :: a3 :: a4 :: a5 :: a6 :: a7 :: r))]) [hpr P q s 0 0 noPkt nilS, rdr q (false, strOf (a0 :: a1 :: a2 :: a3 :: a4 :: a5 :: a6 :: a7 :: r))] w) :
    Calls Tryz.prog 127 #[ptr0 P] w (Fr [hpr P q s 0 0 noPkt nilS, rdr q (false, strOf (a0 :: a1 :: a2 :: a3 :: a4 :: a5 :: a6 :: a7 :: r))]
      (fun _ : Unit => .int .i64 (if (a0.toNat : Int) / 16 ≠ 4 ∨ (a0.toNat : Int) % 16 < 5 ∨ 32768 ≤ sh a6 a7 then 3 else 0)) (fun _ => [hpr P q s ((a0.toNat : Int) % 16) (sh a2 a3) (frontPkt a1 a4 a5 a6 a7) nilS, rdr q (false, strOf r)]) w) := by
  have u0 := a0.toNat_lt
  have u6 := a6.toNat_lt
  have u7 := a7.toNat_lt
  have e6 : sh a6 a7 = (a6.toNat : Int) * 256 + a7.toNat := rfl
  have r6 : 0 ≤ (a6.toNat : Int) * 256 + a7.toNat ∧ (a6.toNat : Int) * 256 + a7.toNat ≤ 65535 := by omega
  have k15 : bits .and .i64 (a0.toNat : Int) 15 = (a0.toNat : Int) % 16 := i64_low 4 (by decide) _
  have kd := i64_b14 _ r6
  have km := i64_b13 _ r6
  have kk := i64_b15 _ r6
  have ko : bits .and .i64 ((a6.toNat : Int) * 256 + a7.toNat) 8191 = ((a6.toNat : Int) * 256 + a7.toNat) % 8192 := i64_low 13 (by decide) _
  (refine enterS ([hpr P q s 0 0 noPkt nilS, rdr q (false, strOf (a0 :: a1 :: a2 :: a3 :: a4 :: a5 :: a6 :: a7 :: r))]) (h) Tryz.func127 rfl ?_; simp only [Tryz.ntmps127, List.size_toArray, List.length_cons, List.length_nil, Nat.reduceAdd, Nat.reduceSub, Array.replicate_succ, Array.replicate_zero, List.push_toArray, List.append_toArray, List.nil_append, List.cons_append])
  unfold hpr noPkt
  (repeat' (first | ((with_reducible refine isOps ?_); first | (refine seqS_nil ?_; (try simp only [thenS, blockS])) | ((first | ((with_reducible refine isCallF ?_); refine aCF ?_) | ((with_reducible refine isCallV ?_); refine aCV ?_)); first | refine cSU (hc := fun w_ hs_ hr_ => rByte_cons hr_) (h := ?_) | refine cSU (hc := fun w_ hs_ hr_ => rShort_list hr_) (h := ?_)) | ((with_reducible refine isStore ?_); first | refine aSt ?_) | refine aV ?_ | refine aNo ?_ | refine aNo' ?_ | ((fail_if_success (refine aIsT ?_)); (fail_if_success (refine aIsF ?_)); refine seqS_guard rfl rfl rfl (fun l_ hl_ h_ => ?_) (fun l_ hl_ h_ => ?_) <;> (dsimp only [sS, sZ] at hl_; subst hl_; (try (simp only [beq_iff_eq, bne_iff_ne, beq_eq_false_iff_ne, bne_eq_false_iff_eq, ne_eq, decide_eq_true_eq, decide_eq_false_iff_not, Bool.and_eq_true, Bool.or_eq_true, Bool.and_eq_false_iff, Bool.or_eq_false_iff, Bool.not_eq_true', Bool.not_eq_false', Bool.false_eq_true, Bool.true_eq_false, reduceCtorEq] at h_)); (try (first | (with_reducible contradiction) | (exfalso; omega)))))) | ((with_reducible refine isWp ?_); first | (refine wpS_seq (fun K_ hK_ => ?_)) | (refine wpS_region ?_) | (refine wpS_cond rfl (fun h_ => ?_) (fun h_ => ?_) <;> (try (simp only [beq_iff_eq, bne_iff_ne, beq_eq_false_iff_ne, bne_eq_false_iff_eq, ne_eq, decide_eq_true_eq, decide_eq_false_iff_not, Bool.and_eq_true, Bool.or_eq_true, Bool.and_eq_false_iff, Bool.or_eq_false_iff, Bool.false_eq_true, Bool.true_eq_false, reduceCtorEq] at h_)) <;> (try (first | (with_reducible contradiction) | (exfalso; omega)))) | (refine wpS_block ?_) | (refine wpS_ret ?_; (try simp only [thenS, blockS])) | (refine wpS_exit ?_; simp only [thenS, blockS, ↓reduceIte, Nat.reduceEqDiff]) | (refine wpS_skip ?_; (try simp only [thenS, blockS]))) | (refine useK (by with_reducible assumption) ?_)))
  all_goals
    (first | refine r1_ Tryz.results127 (fun w_ hs_ => ?_) | refine r2_ Tryz.results127 (fun w_ hs_ => ?_) | refine r3_ Tryz.results127 (fun w_ hs_ => ?_) | refine retS0 Tryz.results127 (fun w_ hs_ => ?_) | refine retN0 Tryz.results127 (fun w_ hs_ => ?_))
    refine ⟨(), ?_, hs_.sub (by first | ((repeat (first | exact List.Sublist.refl _ | exact List.nil_sublist _ | apply List.Sublist.cons_cons | apply List.Sublist.cons)); done) | fail)⟩
    first
      | rw [if_pos (by omega)]
      | rw [if_neg (by omega)]
end
end Go.Proofs.YtmcaigmpcbkfpaaGreat
