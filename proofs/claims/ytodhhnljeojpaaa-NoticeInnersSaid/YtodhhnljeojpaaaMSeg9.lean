/- Comparing a segment with itself. -/
import Derived.Test.YtodhhnljeojpaaaSeg1
import Derived.Test.YtodhhnljeojpaaaOpen
import Derived.Test.YtodhhnljeojpaaaRdNum
import Derived.Test.YtodhhnljeojpaaaSumPseudo
import Derived.Test.YtodhhnljeojpaaaSeg4
set_option linter.unusedVariables false
set_option linter.unusedSimpArgs false
namespace Go.Proofs.Ytodhhnljeojpaaa
open Go.RowKit Go.ChangeShapes Go.WideShapes Go.Deep
theorem eqSeg (s : Seg) (w : World) : (Op.equalIn 10000 24 (sv s) (sv s)).run Try.prog w = .ok true w := by
  go_simp
theorem eqSegV (x y : Operand) (s : Seg) (w : World) : ((do eqGuard .eql 24 x y (sv s) (sv s); binOp .eql 24 (sv s) (sv s)) : Sem Value).run Try.prog w = .ok (.bool true) w := by
  have h := eqSeg s w
  rw [Sem.run_bind, run_eqGuard_agg w _ _ _ _ _ _ Try.eqGuardType24, Result.andThen_ok, run_eql_struct, h]
  rfl
end Go.Proofs.Ytodhhnljeojpaaa
namespace Go.Proofs.Ytodhhnljeojpaaa
open Go.RowKit
/-- A parser and its reader. -/
def pr (P q : Nat) (b : ByteArray) (g : Bool) (s : Seg) (st : Bool × ByteArray) : Res where
  foot := [P, q]
  holds := fun w => Blk w P [ptr0 q, .string b, .bool g, .int .i64 s.sp, .int .i64 s.dp, .int .u32 s.seq, .int .u32 s.ack, .int .i64 s.fl, .int .i64 s.win, .string s.d] 103 ∧ Rd w q st ∧ P ≠ q
  loc := fun w w' h ⟨h1, h2, h3⟩ => ⟨by unfold Blk at *; rw [h P (by simp)]; exact h1, ⟨by have := h2.1; unfold Blk at *; rw [h q (by simp)]; exact this, h2.2⟩, h3⟩
  ex := fun w ⟨h1, h2, h3⟩ n hn => by
    rcases List.mem_cons.1 hn with rfl | hn
    · exact h1.lt
    · obtain rfl := List.mem_singleton.1 hn; exact h2.lt
abbrev prCells (q : Nat) (b : ByteArray) (g : Bool) (s : Seg) : List Value := [ptr0 q, .string b, .bool g, .int .i64 s.sp, .int .i64 s.dp, .int .u32 s.seq, .int .u32 s.ack, .int .i64 s.fl, .int .i64 s.win, .string s.d]
abbrev prBlk (P q : Nat) (b : ByteArray) (g : Bool) (s : Seg) : Res := blk P (prCells q b g s) 103
section
variable {P q : Nat} {b : ByteArray} {g : Bool} {s : Seg} {st : Bool × ByteArray} {w : World}
theorem pr_sep (h : (pr P q b g s st).holds w) : Sep w (pr P q b g s st).foot [prBlk P q b g s, rdr q st] w :=
  Sep.two (r1 := prBlk P q b g s) (r2 := rdr q st) h.1 h.2.1 (fun n hn => by
    have h3 := h.2.2
    simp only [prBlk, blk, List.mem_singleton] at hn
    subst hn
    simpa [rdr] using h3)
theorem Sep.pr {w0 : World} {S : List Nat} {rs : List Res} (h : Sep w0 S rs w) (hs : [prBlk P q b g s, rdr q st].Sublist rs) : (Go.Proofs.Ytodhhnljeojpaaa.pr P q b g s st).holds w := by
  have h2 := h.sub hs
  have hd := h2.dis
  rw [List.pairwise_cons] at hd
  exact ⟨h2.all (prBlk P q b g s) (by simp), h2.all (rdr q st) (by simp), fun e => hd.1 (rdr q st) (by simp) P (by simp [prBlk, blk]) (by simp [rdr, e])⟩
/-- As one thing, and as two. -/
theorem Sep.join {w0 : World} {S : List Nat} {rs : List Res} (h : Sep w0 S (prBlk P q b g s :: rdr q st :: rs) w) : Sep w0 S (Go.Proofs.Ytodhhnljeojpaaa.pr P q b g s st :: rs) w := by
  have hp : (Go.Proofs.Ytodhhnljeojpaaa.pr P q b g s st).holds w := h.pr (by simp)
  have hd := h.dis
  rw [List.pairwise_cons, List.pairwise_cons] at hd
  refine ⟨h.mod, fun r hr => ?_, fun r hr n hn hlt => ?_, ?_⟩
  · rcases List.mem_cons.1 hr with rfl | hr
    · exact hp
    · exact h.all r (by simp [hr])
  · rcases List.mem_cons.1 hr with rfl | hr
    · rcases List.mem_cons.1 hn with rfl | hn
      · exact h.old (prBlk n q b g s) (by simp) n (by simp [prBlk, blk]) hlt
      · obtain rfl := List.mem_singleton.1 hn; exact h.old (rdr n st) (by simp) n (by simp [rdr]) hlt
    · exact h.old r (by simp [hr]) n hn hlt
  · rw [List.pairwise_cons]
    refine ⟨fun x hx n hn => ?_, hd.2.2⟩
    rcases List.mem_cons.1 hn with rfl | hn
    · exact hd.1 x (by simp [hx]) n (by simp [prBlk, blk])
    · obtain rfl := List.mem_singleton.1 hn; exact hd.2.1 x hx n (by simp [rdr])
theorem Sep.part {w0 : World} {S : List Nat} {rs : List Res} (h : Sep w0 S (Go.Proofs.Ytodhhnljeojpaaa.pr P q b g s st :: rs) w) : Sep w0 S (prBlk P q b g s :: rs) w := by
  have hp : (Go.Proofs.Ytodhhnljeojpaaa.pr P q b g s st).holds w := h.all _ (by simp)
  have hd := h.dis
  rw [List.pairwise_cons] at hd
  refine ⟨h.mod, fun r hr => ?_, fun r hr n hn hlt => ?_, ?_⟩
  · rcases List.mem_cons.1 hr with rfl | hr
    · exact hp.1
    · exact h.all r (by simp [hr])
  · rcases List.mem_cons.1 hr with rfl | hr
    · obtain rfl := List.mem_singleton.1 hn
      exact h.old (Go.Proofs.Ytodhhnljeojpaaa.pr n q b g s st) (by simp) n (by simp [Go.Proofs.Ytodhhnljeojpaaa.pr]) hlt
    · exact h.old r (by simp [hr]) n hn hlt
  · rw [List.pairwise_cons]
    refine ⟨fun x hx n hn => ?_, hd.2⟩
    obtain rfl := List.mem_singleton.1 hn
    exact hd.1 x hx n (by simp [Go.Proofs.Ytodhhnljeojpaaa.pr])
end
/-- What a parser's method leaves: the segment, or the mistake's number. -/
def PPost (P q : Nat) (b : ByteArray) (g : Bool) (s : Seg) (st : Bool × ByteArray) (R : Seg ⊕ Int) (w : World) (e : Ending) (w' : World) : Prop := match R with
  | .inl t => Turns (pr P q b g s st) (fun _ => .int .i64 0) (fun i : Bool × ByteArray => pr P q b g t i) w e w'
  | .inr x => Turns (pr P q b g s st) (fun _ => .int .i64 x) (fun i : Seg × (Bool × ByteArray) => pr P q b g i.1 i.2) w e w'
section
variable {P q : Nat} {b : ByteArray} {g : Bool} {s : Seg} {st st' : Bool × ByteArray} {R : Seg ⊕ Int} {w w' : World} {rs : List Res} {sp dp seq ack fl win : Int} {d : ByteArray}
theorem PPost.ok (h : Sep w (pr P q b g s st).foot rs w') (hs : [blk P [ptr0 q, .string b, .bool g, .int .i64 sp, .int .i64 dp, .int .u32 seq, .int .u32 ack, .int .i64 fl, .int .i64 win, .string d] 103, rdr q st'].Sublist rs) (hR : R = .inl ⟨sp, dp, seq, ack, fl, win, d⟩) :
    PPost P q b g s st R w (.returned (.int .i64 0)) w' := by
  subst hR
  exact ⟨st', rfl, h.pr (s := ⟨sp, dp, seq, ack, fl, win, d⟩) hs, h.mod, fun n hn => .inl hn⟩
theorem PPost.no {x : Int} (h : Sep w (pr P q b g s st).foot rs w') (hs : [blk P [ptr0 q, .string b, .bool g, .int .i64 sp, .int .i64 dp, .int .u32 seq, .int .u32 ack, .int .i64 fl, .int .i64 win, .string d] 103, rdr q st'].Sublist rs) (hR : R = .inr x) :
    PPost P q b g s st R w (.returned (.int .i64 x)) w' := by
  subst hR
  exact ⟨(⟨sp, dp, seq, ack, fl, win, d⟩, st'), rfl, h.pr (s := ⟨sp, dp, seq, ack, fl, win, d⟩) hs, h.mod, fun n hn => .inl hn⟩
end
set_option maxRecDepth 8000
attribute [local irreducible] blk wpS seqS ordS OpVal RV endS LoadV StoreV Calls
def noSeg : Seg := ⟨0, 0, 0, 0, 0, 0, ⟨#[]⟩⟩
theorem nand_t {p : Prop} {g : Bool} (h : g = true) : ¬ (p ∧ g = false) := fun e => by rw [h] at e; cases e.2
theorem nand_z {x : Int} {q : Prop} (h : x = 0) : ¬ (x ≠ 0 ∧ q) := fun e => e.1 h
/-- UDP's bytes. -/
def udpParse (g : Bool) : List UInt8 → Seg ⊕ Int
  | a0 :: a1 :: a2 :: a3 :: a4 :: a5 :: a6 :: a7 :: r => if sh a4 a5 < 8 then .inr 3 else if (r.length : Int) + 8 < sh a4 a5 then .inr 2 else if sh a4 a5 < (r.length : Int) + 8 then .inr 5 else if sh a6 a7 ≠ 0 ∧ g = false then .inr 4 else .inl ⟨sh a0 a1, sh a2 a3, 0, 0, 0, 0, strOf r⟩
  | _ => .inr 2
set_option maxHeartbeats 8000000 in
theorem pudp_any (P q : Nat) (b : ByteArray) (g : Bool) (a0 a1 a2 a3 a4 a5 a6 a7 : UInt8) (r : List UInt8) (hb : (b.size : Int) = r.length + 8) (hr : r.length ≤ 100000) (w : World) (h : (pr P q b g noSeg (false, strOf (a0 :: a1 :: a2 :: a3 :: a4 :: a5 :: a6 :: a7 :: r))).holds w) :
    Calls Try.prog 61 #[ptr0 P] w (PPost P q b g noSeg (false, strOf (a0 :: a1 :: a2 :: a3 :: a4 :: a5 :: a6 :: a7 :: r)) (udpParse g (a0 :: a1 :: a2 :: a3 :: a4 :: a5 :: a6 :: a7 :: r)) w) := by
  have hR := Lib.hid (show udpParse g (a0 :: a1 :: a2 :: a3 :: a4 :: a5 :: a6 :: a7 :: r) = if sh a4 a5 < 8 then .inr 3 else if (r.length : Int) + 8 < sh a4 a5 then .inr 2 else if sh a4 a5 < (r.length : Int) + 8 then .inr 5 else if sh a6 a7 ≠ 0 ∧ g = false then .inr 4 else .inl ⟨sh a0 a1, sh a2 a3, 0, 0, 0, 0, strOf r⟩ from rfl)
  have u0 := a4.toNat_lt
  have u1 := a5.toNat_lt
  have u2 := a6.toNat_lt
  have u3 := a7.toNat_lt
  (refine enterS ([prBlk P q b g noSeg, rdr q (false, strOf (a0 :: a1 :: a2 :: a3 :: a4 :: a5 :: a6 :: a7 :: r))]) (pr_sep h) Try.func61 rfl ?_; simp only [Try.ntmps61, List.size_toArray, List.length_cons, List.length_nil, Nat.reduceAdd, Nat.reduceSub, Array.replicate_succ, Array.replicate_zero, List.push_toArray, List.append_toArray, List.nil_append, List.cons_append])
  unfold prBlk noSeg
  (repeat' (first | ((with_reducible refine isOps ?_); first | (refine seqS_nil ?_; (try simp only [thenS, blockS])) | ((with_reducible refine isStore ?_); first | refine aSt ?_) | refine aV ?_ | refine aNo ?_ | refine aNo' ?_ | ((fail_if_success (refine aIsT ?_)); (fail_if_success (refine aIsF ?_)); refine seqS_guard rfl rfl rfl (fun l_ hl_ h_ => ?_) (fun l_ hl_ h_ => ?_) <;> (dsimp only [sS, sZ] at hl_; subst hl_; (try (simp only [beq_iff_eq, bne_iff_ne, beq_eq_false_iff_ne, bne_eq_false_iff_eq, ne_eq, decide_eq_true_eq, decide_eq_false_iff_not, Bool.and_eq_true, Bool.or_eq_true, Bool.and_eq_false_iff, Bool.or_eq_false_iff, Bool.not_eq_true', Bool.not_eq_false', Bool.false_eq_true, Bool.true_eq_false, reduceCtorEq] at h_)); (try (first | (with_reducible contradiction) | (exfalso; omega)))))) | ((with_reducible refine isOrd ?_); first | (refine ordS_nil ?_; (try simp only [thenS, blockS, blks, List.map_cons, List.map_nil, List.cons_append, List.nil_append])) | refine oV ?_ | refine oNo ?_ | ((fail_if_success (refine oIsT ?_)); (refine ordS_guard rfl rfl rfl rfl (fun l_ hl_ h_ => ?_) (fun l_ hl_ h_ => ?_) <;> (dsimp only [sS, sZ] at hl_; subst hl_; (try (simp only [beq_iff_eq, bne_iff_ne, beq_eq_false_iff_ne, bne_eq_false_iff_eq, ne_eq, decide_eq_true_eq, decide_eq_false_iff_not, Bool.and_eq_true, Bool.or_eq_true, Bool.and_eq_false_iff, Bool.or_eq_false_iff, Bool.not_eq_true', Bool.not_eq_false', Bool.false_eq_true, Bool.true_eq_false, reduceCtorEq] at h_)); (try (first | (with_reducible contradiction) | (exfalso; omega)))))) | refine oPut ?_ | refine oSt ?_ | refine oLd ?_) | ((with_reducible refine isWp ?_); first | (refine wpS_seq (fun K_ hK_ => ?_)) | (refine wpS_region ?_) | (refine wpS_cond rfl (fun h_ => ?_) (fun h_ => ?_) <;> (try (simp only [beq_iff_eq, bne_iff_ne, beq_eq_false_iff_ne, bne_eq_false_iff_eq, ne_eq, decide_eq_true_eq, decide_eq_false_iff_not, Bool.and_eq_true, Bool.or_eq_true, Bool.and_eq_false_iff, Bool.or_eq_false_iff, Bool.false_eq_true, Bool.true_eq_false, reduceCtorEq] at h_)) <;> (try (first | (with_reducible contradiction) | (exfalso; omega)))) | (refine wpS_block ?_) | (refine wpS_ret ?_; (try simp only [thenS, blockS])) | (refine wpS_exit ?_; simp only [thenS, blockS, ↓reduceIte, Nat.reduceEqDiff]) | (refine wpS_skip ?_; (try simp only [thenS, blockS]))) | (refine useK (by with_reducible assumption) ?_)))
  ((with_reducible refine isDraw ?_); refine wpS_drawC ([] : List Res) P [(0, ptr0 q)] (by first | ((repeat (first | exact List.Sublist.refl _ | exact List.nil_sublist _ | apply List.Sublist.cons_cons | apply List.Sublist.cons)); done) | fail) (by first | ((repeat (first | exact .head _ | apply List.Mem.tail)); done) | fail) (by simp) (by simp only [List.length_cons, List.length_nil, Nat.zero_add, Nat.reduceAdd, List.range'_succ, List.range'_zero]; rfl) (by kernel_rfl) (by kernel_rfl) (fun B_ hB_ hf_ => ?_))
  (repeat' (first | ((with_reducible refine isOps ?_); first | (refine seqS_nil ?_; (try simp only [thenS, blockS])) | ((first | ((with_reducible refine isCallF ?_); refine aCF ?_) | ((with_reducible refine isCallV ?_); refine aCV ?_)); first | refine cSU (hc := fun w_ hs_ hr_ => rShort_list hr_) (h := ?_)) | ((with_reducible refine isStore ?_); first | refine aSt ?_) | refine aV ?_ | refine aNo ?_ | refine aNo' ?_ | ((fail_if_success (refine aIsT ?_)); (fail_if_success (refine aIsF ?_)); refine seqS_guard rfl rfl rfl (fun l_ hl_ h_ => ?_) (fun l_ hl_ h_ => ?_) <;> (dsimp only [sS, sZ] at hl_; subst hl_; (try (simp only [beq_iff_eq, bne_iff_ne, beq_eq_false_iff_ne, bne_eq_false_iff_eq, ne_eq, decide_eq_true_eq, decide_eq_false_iff_not, Bool.and_eq_true, Bool.or_eq_true, Bool.and_eq_false_iff, Bool.or_eq_false_iff, Bool.not_eq_true', Bool.not_eq_false', Bool.false_eq_true, Bool.true_eq_false, reduceCtorEq] at h_)); (try (first | (with_reducible contradiction) | (exfalso; omega)))))) | ((with_reducible refine isOrd ?_); first | (refine ordS_nil ?_; (try simp only [thenS, blockS, blks, List.map_cons, List.map_nil, List.cons_append, List.nil_append])) | refine oV ?_ | refine oNo ?_ | ((fail_if_success (refine oIsT ?_)); (refine ordS_guard rfl rfl rfl rfl (fun l_ hl_ h_ => ?_) (fun l_ hl_ h_ => ?_) <;> (dsimp only [sS, sZ] at hl_; subst hl_; (try (simp only [beq_iff_eq, bne_iff_ne, beq_eq_false_iff_ne, bne_eq_false_iff_eq, ne_eq, decide_eq_true_eq, decide_eq_false_iff_not, Bool.and_eq_true, Bool.or_eq_true, Bool.and_eq_false_iff, Bool.or_eq_false_iff, Bool.not_eq_true', Bool.not_eq_false', Bool.false_eq_true, Bool.true_eq_false, reduceCtorEq] at h_)); (try (first | (with_reducible contradiction) | (exfalso; omega)))))) | (refine oC ?_; first | refine cDU (hc := fun w_ hs_ hr_ hg_ => rShort_list hr_) (h := ?_)) | refine oPut ?_ | refine oSt ?_ | refine oLd ?_) | ((with_reducible refine isWp ?_); first | (refine wpS_seq (fun K_ hK_ => ?_)) | (refine wpS_region ?_) | (refine wpS_cond rfl (fun h_ => ?_) (fun h_ => ?_) <;> (try (simp only [beq_iff_eq, bne_iff_ne, beq_eq_false_iff_ne, bne_eq_false_iff_eq, ne_eq, decide_eq_true_eq, decide_eq_false_iff_not, Bool.and_eq_true, Bool.or_eq_true, Bool.and_eq_false_iff, Bool.or_eq_false_iff, Bool.false_eq_true, Bool.true_eq_false, reduceCtorEq] at h_)) <;> (try (first | (with_reducible contradiction) | (exfalso; omega)))) | (refine wpS_block ?_) | (refine wpS_ret ?_; (try simp only [thenS, blockS])) | (refine wpS_exit ?_; simp only [thenS, blockS, ↓reduceIte, Nat.reduceEqDiff]) | (refine wpS_skip ?_; (try simp only [thenS, blockS]))) | (refine useK (by with_reducible assumption) ?_)))
  ((with_reducible refine isDraw ?_); refine wpS_drawC ([] : List Res) P [(0, ptr0 q)] (by first | ((repeat (first | exact List.Sublist.refl _ | exact List.nil_sublist _ | apply List.Sublist.cons_cons | apply List.Sublist.cons)); done) | fail) (by first | ((repeat (first | exact .head _ | apply List.Mem.tail)); done) | fail) (by simp) (by simp only [List.length_cons, List.length_nil, Nat.zero_add, Nat.reduceAdd, List.range'_succ, List.range'_zero]; rfl) (by kernel_rfl) (by kernel_rfl) (fun B_ hB_ hf_ => ?_))
  (repeat' (first | ((with_reducible refine isOps ?_); first | (refine seqS_nil ?_; (try simp only [thenS, blockS])) | ((first | ((with_reducible refine isCallF ?_); refine aCF ?_) | ((with_reducible refine isCallV ?_); refine aCV ?_)); first | refine cSU (hc := fun w_ hs_ hr_ => rShort_list hr_) (h := ?_) | refine cSU (hc := fun w_ hs_ hr_ => rRest_R hr_) (h := ?_)) | ((with_reducible refine isStore ?_); first | refine aSt ?_) | refine aV ?_ | refine aNo ?_ | refine aNo' ?_ | ((fail_if_success (refine aIsT ?_)); (fail_if_success (refine aIsF ?_)); refine seqS_guard rfl rfl rfl (fun l_ hl_ h_ => ?_) (fun l_ hl_ h_ => ?_) <;> (dsimp only [sS, sZ] at hl_; subst hl_; (try (simp only [beq_iff_eq, bne_iff_ne, beq_eq_false_iff_ne, bne_eq_false_iff_eq, ne_eq, decide_eq_true_eq, decide_eq_false_iff_not, Bool.and_eq_true, Bool.or_eq_true, Bool.and_eq_false_iff, Bool.or_eq_false_iff, Bool.not_eq_true', Bool.not_eq_false', Bool.false_eq_true, Bool.true_eq_false, reduceCtorEq] at h_)); (try (first | (with_reducible contradiction) | (exfalso; omega)))))) | ((with_reducible refine isOrd ?_); first | (refine ordS_nil ?_; (try simp only [thenS, blockS, blks, List.map_cons, List.map_nil, List.cons_append, List.nil_append])) | refine oV ?_ | refine oNo ?_ | ((fail_if_success (refine oIsT ?_)); (refine ordS_guard rfl rfl rfl rfl (fun l_ hl_ h_ => ?_) (fun l_ hl_ h_ => ?_) <;> (dsimp only [sS, sZ] at hl_; subst hl_; (try (simp only [beq_iff_eq, bne_iff_ne, beq_eq_false_iff_ne, bne_eq_false_iff_eq, ne_eq, decide_eq_true_eq, decide_eq_false_iff_not, Bool.and_eq_true, Bool.or_eq_true, Bool.and_eq_false_iff, Bool.or_eq_false_iff, Bool.not_eq_true', Bool.not_eq_false', Bool.false_eq_true, Bool.true_eq_false, reduceCtorEq] at h_)); (try (first | (with_reducible contradiction) | (exfalso; omega)))))) | (refine oC ?_; first | refine cDU (hc := fun w_ hs_ hr_ hg_ => rShort_list hr_) (h := ?_) | refine cDU (hc := fun w_ hs_ hr_ hg_ => rRest_R hr_) (h := ?_)) | refine oPut ?_ | refine oSt ?_ | refine oLd ?_) | ((with_reducible refine isWp ?_); first | (refine wpS_seq (fun K_ hK_ => ?_)) | (refine wpS_region ?_) | (refine wpS_cond rfl (fun h_ => ?_) (fun h_ => ?_) <;> (try (simp only [beq_iff_eq, bne_iff_ne, beq_eq_false_iff_ne, bne_eq_false_iff_eq, ne_eq, decide_eq_true_eq, decide_eq_false_iff_not, Bool.and_eq_true, Bool.or_eq_true, Bool.and_eq_false_iff, Bool.or_eq_false_iff, Bool.false_eq_true, Bool.true_eq_false, reduceCtorEq] at h_)) <;> (try (first | (with_reducible contradiction) | (exfalso; omega)))) | (refine wpS_block ?_) | (refine wpS_ret ?_; (try simp only [thenS, blockS])) | (refine wpS_exit ?_; simp only [thenS, blockS, ↓reduceIte, Nat.reduceEqDiff]) | (refine wpS_skip ?_; (try simp only [thenS, blockS]))) | (refine useK (by with_reducible assumption) ?_)))
  all_goals
    (first | refine r1_ Try.results61 (fun w_ hs_ => ?_) | refine r2_ Try.results61 (fun w_ hs_ => ?_) | refine r3_ Try.results61 (fun w_ hs_ => ?_) | refine retS0 Try.results61 (fun w_ hs_ => ?_) | refine retN0 Try.results61 (fun w_ hs_ => ?_))
    (try simp only [Bool.not_eq_true', Bool.not_eq_false'] at h_)
    first
      | (refine PPost.ok hs_ (by first | ((repeat (first | exact List.Sublist.refl _ | exact List.nil_sublist _ | apply List.Sublist.cons_cons | apply List.Sublist.cons)); done) | fail) ?_)
      | (refine PPost.no hs_ (by first | ((repeat (first | exact List.Sublist.refl _ | exact List.nil_sublist _ | apply List.Sublist.cons_cons | apply List.Sublist.cons)); done) | fail) ?_)
    rw [hR.out]
    have e1 : sh a4 a5 = (a4.toNat : Int) * 256 + a5.toNat := rfl
    have e2 : sh a6 a7 = (a6.toNat : Int) * 256 + a7.toNat := rfl
    (repeat (first | rw [if_pos (by omega)] | rw [if_neg (by omega)] | rw [if_neg (nand_t h_)] | rw [if_neg (nand_z (by omega))] | rw [if_pos (And.intro (by omega) h_)]))
    try rfl
end Go.Proofs.Ytodhhnljeojpaaa
namespace Go.Proofs.Ytodhhnljeojpaaa
set_option maxRecDepth 8000
attribute [local irreducible] blk wpS seqS ordS OpVal RV endS LoadV StoreV Calls
open Go.RowKit
theorem nand_f {g : Bool} (h : g = true) : ¬ g = false := fun e => by rw [h] at e; cases e
/-- TCP's bytes. -/
def tcpParse (g : Bool) : List UInt8 → Seg ⊕ Int
  | a0 :: a1 :: a2 :: a3 :: a4 :: a5 :: a6 :: a7 :: a8 :: a9 :: a10 :: a11 :: a12 :: a13 :: a14 :: a15 :: _ :: _ :: _ :: _ :: r =>
    if (a12.toNat : Int) / 16 < 5 then .inr 3 else if (r.length : Int) + 20 < (a12.toNat : Int) / 16 * 4 then .inr 2 else if g = false then .inr 4 else
      .inl ⟨sh a0 a1, sh a2 a3, w4 a4 a5 a6 a7, w4 a8 a9 a10 a11, (a13.toNat : Int) % 64, sh a14 a15, strOf (r.drop ((a12.toNat : Int) / 16 * 4 - 20).toNat)⟩
  | _ => .inr 2
set_option maxHeartbeats 8000000 in
theorem ptcp_any (P q : Nat) (b : ByteArray) (g : Bool) (a0 a1 a2 a3 a4 a5 a6 a7 a8 a9 a10 a11 a12 a13 a14 a15 a16 a17 a18 a19 : UInt8) (r : List UInt8) (hb : (b.size : Int) = r.length + 20) (hr : r.length ≤ 100000) (w : World)
    (h : (pr P q b g noSeg (false, strOf (a0 :: a1 :: a2 :: a3 :: a4 :: a5 :: a6 :: a7 :: a8 :: a9 :: a10 :: a11 :: a12 :: a13 :: a14 :: a15 :: a16 :: a17 :: a18 :: a19 :: r))).holds w) :
    Calls Try.prog 60 #[ptr0 P] w (PPost P q b g noSeg (false, strOf (a0 :: a1 :: a2 :: a3 :: a4 :: a5 :: a6 :: a7 :: a8 :: a9 :: a10 :: a11 :: a12 :: a13 :: a14 :: a15 :: a16 :: a17 :: a18 :: a19 :: r)) (tcpParse g (a0 :: a1 :: a2 :: a3 :: a4 :: a5 :: a6 :: a7 :: a8 :: a9 :: a10 :: a11 :: a12 :: a13 :: a14 :: a15 :: a16 :: a17 :: a18 :: a19 :: r)) w) := by
  have hR := Lib.hid (show tcpParse g (a0 :: a1 :: a2 :: a3 :: a4 :: a5 :: a6 :: a7 :: a8 :: a9 :: a10 :: a11 :: a12 :: a13 :: a14 :: a15 :: a16 :: a17 :: a18 :: a19 :: r) = if (a12.toNat : Int) / 16 < 5 then .inr 3 else if (r.length : Int) + 20 < (a12.toNat : Int) / 16 * 4 then .inr 2 else if g = false then .inr 4 else
      .inl ⟨sh a0 a1, sh a2 a3, w4 a4 a5 a6 a7, w4 a8 a9 a10 a11, (a13.toNat : Int) % 64, sh a14 a15, strOf (r.drop ((a12.toNat : Int) / 16 * 4 - 20).toNat)⟩ from rfl)
  have u0 := a12.toNat_lt
  have u1 := a13.toNat_lt
  have h63 : bits .and .i64 (a13.toNat : Int) 63 = (a13.toNat : Int) % 64 := i64_low 6 (by decide) _
  have hT : Hid (∀ n : Int, 0 ≤ n → n ≤ r.length → ∀ w', (rdr q (false, strOf r)).holds w' → Calls Try.prog 85 #[ptr0 q, .int .i64 n] w' fun e w'' => e = .returned (.string (strOf (r.take n.toNat))) ∧ (rdr q (false, strOf (r.drop n.toNat))).holds w'' ∧ Mod (rdr q (false, strOf r)).foot w' w'') := Lib.hid fun n h0 h1 w' h' => by
    have := rTake_R n.toNat (by omega) h'
    rwa [Int.toNat_of_nonneg h0] at this
  (refine enterS ([prBlk P q b g noSeg, rdr q (false, strOf (a0 :: a1 :: a2 :: a3 :: a4 :: a5 :: a6 :: a7 :: a8 :: a9 :: a10 :: a11 :: a12 :: a13 :: a14 :: a15 :: a16 :: a17 :: a18 :: a19 :: r))]) (pr_sep h) Try.func60 rfl ?_; simp only [Try.ntmps60, List.size_toArray, List.length_cons, List.length_nil, Nat.reduceAdd, Nat.reduceSub, Array.replicate_succ, Array.replicate_zero, List.push_toArray, List.append_toArray, List.nil_append, List.cons_append])
  unfold prBlk noSeg
  (repeat' (first | ((with_reducible refine isOps ?_); first | (refine seqS_nil ?_; (try simp only [thenS, blockS])) | ((with_reducible refine isStore ?_); first | refine aSt ?_) | refine aV ?_) | ((with_reducible refine isOrd ?_); first | (refine ordS_nil ?_; (try simp only [thenS, blockS, blks, List.map_cons, List.map_nil, List.cons_append, List.nil_append])) | refine oV ?_ | refine oPut ?_ | refine oSt ?_ | refine oLd ?_) | ((with_reducible refine isWp ?_); first | (refine wpS_seq (fun K_ hK_ => ?_)) | (refine wpS_region ?_) | (refine wpS_cond rfl (fun h_ => ?_) (fun h_ => ?_) <;> (try (simp only [beq_iff_eq, bne_iff_ne, beq_eq_false_iff_ne, bne_eq_false_iff_eq, ne_eq, decide_eq_true_eq, decide_eq_false_iff_not, Bool.and_eq_true, Bool.or_eq_true, Bool.and_eq_false_iff, Bool.or_eq_false_iff, Bool.false_eq_true, Bool.true_eq_false, reduceCtorEq] at h_)) <;> (try (first | (with_reducible contradiction) | (exfalso; omega)))) | (refine wpS_block ?_) | (refine wpS_ret ?_; (try simp only [thenS, blockS])) | (refine wpS_exit ?_; simp only [thenS, blockS, ↓reduceIte, Nat.reduceEqDiff]) | (refine wpS_skip ?_; (try simp only [thenS, blockS]))) | (refine useK (by with_reducible assumption) ?_)))
  ((with_reducible refine isDraw ?_); refine wpS_drawC ([] : List Res) P [(0, ptr0 q)] (by first | ((repeat (first | exact List.Sublist.refl _ | exact List.nil_sublist _ | apply List.Sublist.cons_cons | apply List.Sublist.cons)); done) | fail) (by first | ((repeat (first | exact .head _ | apply List.Mem.tail)); done) | fail) (by simp) (by simp only [List.length_cons, List.length_nil, Nat.zero_add, Nat.reduceAdd, List.range'_succ, List.range'_zero]; rfl) (by kernel_rfl) (by kernel_rfl) (fun B_ hB_ hf_ => ?_))
  (repeat' (first | ((with_reducible refine isOps ?_); first | (refine seqS_nil ?_; (try simp only [thenS, blockS])) | ((first | ((with_reducible refine isCallF ?_); refine aCF ?_) | ((with_reducible refine isCallV ?_); refine aCV ?_)); first | refine cSU (hc := fun w_ hs_ hr_ => rShort_list hr_) (h := ?_)) | ((with_reducible refine isStore ?_); first | refine aSt ?_) | refine aV ?_) | ((with_reducible refine isOrd ?_); first | (refine ordS_nil ?_; (try simp only [thenS, blockS, blks, List.map_cons, List.map_nil, List.cons_append, List.nil_append])) | refine oV ?_ | (refine oC ?_; first | refine cDU (hc := fun w_ hs_ hr_ hg_ => rShort_list hr_) (h := ?_)) | refine oPut ?_ | refine oSt ?_ | refine oLd ?_) | ((with_reducible refine isWp ?_); first | (refine wpS_seq (fun K_ hK_ => ?_)) | (refine wpS_region ?_) | (refine wpS_cond rfl (fun h_ => ?_) (fun h_ => ?_) <;> (try (simp only [beq_iff_eq, bne_iff_ne, beq_eq_false_iff_ne, bne_eq_false_iff_eq, ne_eq, decide_eq_true_eq, decide_eq_false_iff_not, Bool.and_eq_true, Bool.or_eq_true, Bool.and_eq_false_iff, Bool.or_eq_false_iff, Bool.false_eq_true, Bool.true_eq_false, reduceCtorEq] at h_)) <;> (try (first | (with_reducible contradiction) | (exfalso; omega)))) | (refine wpS_block ?_) | (refine wpS_ret ?_; (try simp only [thenS, blockS])) | (refine wpS_exit ?_; simp only [thenS, blockS, ↓reduceIte, Nat.reduceEqDiff]) | (refine wpS_skip ?_; (try simp only [thenS, blockS]))) | (refine useK (by with_reducible assumption) ?_)))
  ((with_reducible refine isDraw ?_); refine wpS_drawC ([] : List Res) P [(0, ptr0 q)] (by first | ((repeat (first | exact List.Sublist.refl _ | exact List.nil_sublist _ | apply List.Sublist.cons_cons | apply List.Sublist.cons)); done) | fail) (by first | ((repeat (first | exact .head _ | apply List.Mem.tail)); done) | fail) (by simp) (by simp only [List.length_cons, List.length_nil, Nat.zero_add, Nat.reduceAdd, List.range'_succ, List.range'_zero]; rfl) (by kernel_rfl) (by kernel_rfl) (fun B_ hB_ hf_ => ?_))
  (repeat' (first | ((with_reducible refine isOps ?_); first | (refine seqS_nil ?_; (try simp only [thenS, blockS])) | ((first | ((with_reducible refine isCallF ?_); refine aCF ?_) | ((with_reducible refine isCallV ?_); refine aCV ?_)); first | refine cSU (hc := fun w_ hs_ hr_ => rWord_list hr_) (h := ?_) | refine cSU (hc := fun w_ hs_ hr_ => rByte_cons hr_) (h := ?_) | refine cSU (hc := fun w_ hs_ hr_ => rShort_list hr_) (h := ?_) | refine cSU (hc := fun w_ hs_ hr_ => rTake4_list hr_) (h := ?_) | refine cSU (hc := fun w_ hs_ hr_ => hT.out _ (by omega) (by omega) _ hr_) (h := ?_) | refine cSU (hc := fun w_ hs_ hr_ => rRest_R hr_) (h := ?_)) | ((with_reducible refine isStore ?_); first | refine aSt ?_) | refine aV ?_) | ((with_reducible refine isOrd ?_); first | (refine ordS_nil ?_; (try simp only [thenS, blockS, blks, List.map_cons, List.map_nil, List.cons_append, List.nil_append])) | refine oV ?_ | (refine oC ?_; first | refine cDU (hc := fun w_ hs_ hr_ hg_ => rWord_list hr_) (h := ?_) | refine cDU (hc := fun w_ hs_ hr_ hg_ => rByte_cons hr_) (h := ?_) | refine cDU (hc := fun w_ hs_ hr_ hg_ => rShort_list hr_) (h := ?_) | refine cDU (hc := fun w_ hs_ hr_ hg_ => rTake4_list hr_) (h := ?_) | refine cDU (hc := fun w_ hs_ hr_ hg_ => hT.out _ (by omega) (by omega) _ hr_) (h := ?_) | refine cDU (hc := fun w_ hs_ hr_ hg_ => rRest_R hr_) (h := ?_)) | refine oPut ?_ | refine oSt ?_ | refine oLd ?_) | ((with_reducible refine isWp ?_); first | (refine wpS_seq (fun K_ hK_ => ?_)) | (refine wpS_region ?_) | (refine wpS_cond rfl (fun h_ => ?_) (fun h_ => ?_) <;> (try (simp only [beq_iff_eq, bne_iff_ne, beq_eq_false_iff_ne, bne_eq_false_iff_eq, ne_eq, decide_eq_true_eq, decide_eq_false_iff_not, Bool.and_eq_true, Bool.or_eq_true, Bool.and_eq_false_iff, Bool.or_eq_false_iff, Bool.false_eq_true, Bool.true_eq_false, reduceCtorEq] at h_)) <;> (try (first | (with_reducible contradiction) | (exfalso; omega)))) | (refine wpS_block ?_) | (refine wpS_ret ?_; (try simp only [thenS, blockS])) | (refine wpS_exit ?_; simp only [thenS, blockS, ↓reduceIte, Nat.reduceEqDiff]) | (refine wpS_skip ?_; (try simp only [thenS, blockS]))) | (refine useK (by with_reducible assumption) ?_)))
  all_goals
    (first | refine r1_ Try.results60 (fun w_ hs_ => ?_) | refine r2_ Try.results60 (fun w_ hs_ => ?_) | refine r3_ Try.results60 (fun w_ hs_ => ?_) | refine retS0 Try.results60 (fun w_ hs_ => ?_) | refine retN0 Try.results60 (fun w_ hs_ => ?_))
    (try simp only [Bool.not_eq_true', Bool.not_eq_false'] at h_)
    first
      | (refine PPost.ok hs_ (by first | ((repeat (first | exact List.Sublist.refl _ | exact List.nil_sublist _ | apply List.Sublist.cons_cons | apply List.Sublist.cons)); done) | fail) ?_)
      | (refine PPost.no hs_ (by first | ((repeat (first | exact List.Sublist.refl _ | exact List.nil_sublist _ | apply List.Sublist.cons_cons | apply List.Sublist.cons)); done) | fail) ?_)
    rw [hR.out]
    (repeat (first | rw [if_pos (by omega)] | rw [if_neg (by omega)] | rw [if_neg (nand_f h_)] | rw [if_pos h_]))
    try rfl
end Go.Proofs.Ytodhhnljeojpaaa
namespace Go.Proofs.Ytodhhnljeojpaaa
set_option maxRecDepth 8000
attribute [local irreducible] blk wpS seqS ordS OpVal RV endS LoadV StoreV Calls
open Go.RowKit
instance : Inhabited Seg := ⟨noSeg⟩
theorem peel (l : List UInt8) (h : 0 < l.length) : ∃ a t, l = a :: t := by
  cases l with
  | nil => simp at h
  | cons a t => exact ⟨a, t, rfl⟩
section
variable {P q : Nat} {b : ByteArray} {g : Bool} {l : List UInt8} {w : World}
theorem udp_short (h : l.length < 8) : udpParse g l = .inr 2 := by
  unfold udpParse
  split
  · simp only [List.length_cons] at h; omega
  · rfl
theorem tcp_short (h : l.length < 20) : tcpParse g l = .inr 2 := by
  unfold tcpParse
  split
  · simp only [List.length_cons] at h; omega
  · rfl
set_option maxHeartbeats 2000000 in
theorem pudp_all (hb : (b.size : Int) = l.length) (hl : l.length ≤ 100000) (h : (pr P q b g noSeg (false, strOf l)).holds w) :
    Calls Try.prog 61 #[ptr0 P] w (PPost P q b g noSeg (false, strOf l) (udpParse g l) w) := by
  by_cases h8 : l.length < 8
  · have hR := udp_short (g := g) h8
    (refine enterS ([prBlk P q b g noSeg, rdr q (false, strOf l)]) (pr_sep h) Try.func61 rfl ?_; simp only [Try.ntmps61, List.size_toArray, List.length_cons, List.length_nil, Nat.reduceAdd, Nat.reduceSub, Array.replicate_succ, Array.replicate_zero, List.push_toArray, List.append_toArray, List.nil_append, List.cons_append])
    unfold prBlk
    (repeat' (first | ((with_reducible refine isOps ?_); first | (refine seqS_nil ?_; (try simp only [thenS, blockS])) | ((with_reducible refine isStore ?_); first | refine aSt ?_) | refine aV ?_ | refine aNo ?_ | refine aNo' ?_ | ((fail_if_success (refine aIsT ?_)); (fail_if_success (refine aIsF ?_)); refine seqS_guard rfl rfl rfl (fun l_ hl_ h_ => ?_) (fun l_ hl_ h_ => ?_) <;> (dsimp only [sS, sZ] at hl_; subst hl_; (try (simp only [beq_iff_eq, bne_iff_ne, beq_eq_false_iff_ne, bne_eq_false_iff_eq, ne_eq, decide_eq_true_eq, decide_eq_false_iff_not, Bool.and_eq_true, Bool.or_eq_true, Bool.and_eq_false_iff, Bool.or_eq_false_iff, Bool.not_eq_true', Bool.not_eq_false', Bool.false_eq_true, Bool.true_eq_false, reduceCtorEq] at h_)); (try (first | (with_reducible contradiction) | (exfalso; omega)))))) | ((with_reducible refine isOrd ?_); first | (refine ordS_nil ?_; (try simp only [thenS, blockS, blks, List.map_cons, List.map_nil, List.cons_append, List.nil_append])) | refine oV ?_ | refine oNo ?_ | ((fail_if_success (refine oIsT ?_)); (refine ordS_guard rfl rfl rfl rfl (fun l_ hl_ h_ => ?_) (fun l_ hl_ h_ => ?_) <;> (dsimp only [sS, sZ] at hl_; subst hl_; (try (simp only [beq_iff_eq, bne_iff_ne, beq_eq_false_iff_ne, bne_eq_false_iff_eq, ne_eq, decide_eq_true_eq, decide_eq_false_iff_not, Bool.and_eq_true, Bool.or_eq_true, Bool.and_eq_false_iff, Bool.or_eq_false_iff, Bool.not_eq_true', Bool.not_eq_false', Bool.false_eq_true, Bool.true_eq_false, reduceCtorEq] at h_)); (try (first | (with_reducible contradiction) | (exfalso; omega)))))) | refine oPut ?_ | refine oSt ?_ | refine oLd ?_) | ((with_reducible refine isWp ?_); first | (refine wpS_seq (fun K_ hK_ => ?_)) | (refine wpS_region ?_) | (refine wpS_cond rfl (fun h_ => ?_) (fun h_ => ?_) <;> (try (simp only [beq_iff_eq, bne_iff_ne, beq_eq_false_iff_ne, bne_eq_false_iff_eq, ne_eq, decide_eq_true_eq, decide_eq_false_iff_not, Bool.and_eq_true, Bool.or_eq_true, Bool.and_eq_false_iff, Bool.or_eq_false_iff, Bool.false_eq_true, Bool.true_eq_false, reduceCtorEq] at h_)) <;> (try (first | (with_reducible contradiction) | (exfalso; omega)))) | (refine wpS_block ?_) | (refine wpS_ret ?_; (try simp only [thenS, blockS])) | (refine wpS_exit ?_; simp only [thenS, blockS, ↓reduceIte, Nat.reduceEqDiff]) | (refine wpS_skip ?_; (try simp only [thenS, blockS]))) | (refine useK (by with_reducible assumption) ?_)))
    (first | refine r1_ Try.results61 (fun w_ hs_ => ?_) | refine r2_ Try.results61 (fun w_ hs_ => ?_) | refine r3_ Try.results61 (fun w_ hs_ => ?_) | refine retS0 Try.results61 (fun w_ hs_ => ?_) | refine retN0 Try.results61 (fun w_ hs_ => ?_))
    exact PPost.no hs_ (by first | ((repeat (first | exact List.Sublist.refl _ | exact List.nil_sublist _ | apply List.Sublist.cons_cons | apply List.Sublist.cons)); done) | fail) hR
  obtain ⟨a0, l, rfl⟩ := peel l (by first | omega | (simp only [List.length_cons] at h8; omega))
  obtain ⟨a1, l, rfl⟩ := peel l (by first | omega | (simp only [List.length_cons] at h8; omega))
  obtain ⟨a2, l, rfl⟩ := peel l (by first | omega | (simp only [List.length_cons] at h8; omega))
  obtain ⟨a3, l, rfl⟩ := peel l (by first | omega | (simp only [List.length_cons] at h8; omega))
  obtain ⟨a4, l, rfl⟩ := peel l (by first | omega | (simp only [List.length_cons] at h8; omega))
  obtain ⟨a5, l, rfl⟩ := peel l (by first | omega | (simp only [List.length_cons] at h8; omega))
  obtain ⟨a6, l, rfl⟩ := peel l (by first | omega | (simp only [List.length_cons] at h8; omega))
  obtain ⟨a7, l, rfl⟩ := peel l (by first | omega | (simp only [List.length_cons] at h8; omega))
  simp only [List.length_cons] at hb hl
  exact pudp_any P q b g a0 a1 a2 a3 a4 a5 a6 a7 l (by omega) (by omega) w h
set_option maxHeartbeats 2000000 in
theorem ptcp_all (hb : (b.size : Int) = l.length) (hl : l.length ≤ 100000) (h : (pr P q b g noSeg (false, strOf l)).holds w) :
    Calls Try.prog 60 #[ptr0 P] w (PPost P q b g noSeg (false, strOf l) (tcpParse g l) w) := by
  by_cases h20 : l.length < 20
  · have hR := tcp_short (g := g) h20
    (refine enterS ([prBlk P q b g noSeg, rdr q (false, strOf l)]) (pr_sep h) Try.func60 rfl ?_; simp only [Try.ntmps60, List.size_toArray, List.length_cons, List.length_nil, Nat.reduceAdd, Nat.reduceSub, Array.replicate_succ, Array.replicate_zero, List.push_toArray, List.append_toArray, List.nil_append, List.cons_append])
    unfold prBlk
    (repeat' (first | ((with_reducible refine isOps ?_); first | (refine seqS_nil ?_; (try simp only [thenS, blockS])) | ((with_reducible refine isStore ?_); first | refine aSt ?_) | refine aV ?_) | ((with_reducible refine isOrd ?_); first | (refine ordS_nil ?_; (try simp only [thenS, blockS, blks, List.map_cons, List.map_nil, List.cons_append, List.nil_append])) | refine oV ?_ | refine oPut ?_ | refine oSt ?_ | refine oLd ?_) | ((with_reducible refine isWp ?_); first | (refine wpS_seq (fun K_ hK_ => ?_)) | (refine wpS_region ?_) | (refine wpS_cond rfl (fun h_ => ?_) (fun h_ => ?_) <;> (try (simp only [beq_iff_eq, bne_iff_ne, beq_eq_false_iff_ne, bne_eq_false_iff_eq, ne_eq, decide_eq_true_eq, decide_eq_false_iff_not, Bool.and_eq_true, Bool.or_eq_true, Bool.and_eq_false_iff, Bool.or_eq_false_iff, Bool.false_eq_true, Bool.true_eq_false, reduceCtorEq] at h_)) <;> (try (first | (with_reducible contradiction) | (exfalso; omega)))) | (refine wpS_block ?_) | (refine wpS_ret ?_; (try simp only [thenS, blockS])) | (refine wpS_exit ?_; simp only [thenS, blockS, ↓reduceIte, Nat.reduceEqDiff]) | (refine wpS_skip ?_; (try simp only [thenS, blockS]))) | (refine useK (by with_reducible assumption) ?_)))
    (first | refine r1_ Try.results60 (fun w_ hs_ => ?_) | refine r2_ Try.results60 (fun w_ hs_ => ?_) | refine r3_ Try.results60 (fun w_ hs_ => ?_) | refine retS0 Try.results60 (fun w_ hs_ => ?_) | refine retN0 Try.results60 (fun w_ hs_ => ?_))
    exact PPost.no hs_ (by first | ((repeat (first | exact List.Sublist.refl _ | exact List.nil_sublist _ | apply List.Sublist.cons_cons | apply List.Sublist.cons)); done) | fail) hR
  obtain ⟨a0, l, rfl⟩ := peel l (by first | omega | (simp only [List.length_cons] at h20; omega))
  obtain ⟨a1, l, rfl⟩ := peel l (by first | omega | (simp only [List.length_cons] at h20; omega))
  obtain ⟨a2, l, rfl⟩ := peel l (by first | omega | (simp only [List.length_cons] at h20; omega))
  obtain ⟨a3, l, rfl⟩ := peel l (by first | omega | (simp only [List.length_cons] at h20; omega))
  obtain ⟨a4, l, rfl⟩ := peel l (by first | omega | (simp only [List.length_cons] at h20; omega))
  obtain ⟨a5, l, rfl⟩ := peel l (by first | omega | (simp only [List.length_cons] at h20; omega))
  obtain ⟨a6, l, rfl⟩ := peel l (by first | omega | (simp only [List.length_cons] at h20; omega))
  obtain ⟨a7, l, rfl⟩ := peel l (by first | omega | (simp only [List.length_cons] at h20; omega))
  obtain ⟨a8, l, rfl⟩ := peel l (by first | omega | (simp only [List.length_cons] at h20; omega))
  obtain ⟨a9, l, rfl⟩ := peel l (by first | omega | (simp only [List.length_cons] at h20; omega))
  obtain ⟨a10, l, rfl⟩ := peel l (by first | omega | (simp only [List.length_cons] at h20; omega))
  obtain ⟨a11, l, rfl⟩ := peel l (by first | omega | (simp only [List.length_cons] at h20; omega))
  obtain ⟨a12, l, rfl⟩ := peel l (by first | omega | (simp only [List.length_cons] at h20; omega))
  obtain ⟨a13, l, rfl⟩ := peel l (by first | omega | (simp only [List.length_cons] at h20; omega))
  obtain ⟨a14, l, rfl⟩ := peel l (by first | omega | (simp only [List.length_cons] at h20; omega))
  obtain ⟨a15, l, rfl⟩ := peel l (by first | omega | (simp only [List.length_cons] at h20; omega))
  obtain ⟨a16, l, rfl⟩ := peel l (by first | omega | (simp only [List.length_cons] at h20; omega))
  obtain ⟨a17, l, rfl⟩ := peel l (by first | omega | (simp only [List.length_cons] at h20; omega))
  obtain ⟨a18, l, rfl⟩ := peel l (by first | omega | (simp only [List.length_cons] at h20; omega))
  obtain ⟨a19, l, rfl⟩ := peel l (by first | omega | (simp only [List.length_cons] at h20; omega))
  simp only [List.length_cons] at hb hl
  exact ptcp_any P q b g a0 a1 a2 a3 a4 a5 a6 a7 a8 a9 a10 a11 a12 a13 a14 a15 a16 a17 a18 a19 l (by omega) (by omega) w h
end
theorem udp_inr {g : Bool} {l : List UInt8} {x : Int} (h : udpParse g l = .inr x) : x = 2 ∨ x = 3 ∨ x = 4 ∨ x = 5 := by
  unfold udpParse at h
  split at h
  · repeat (first | (split at h) | (injection h with h; omega) | (cases h; done))
  · injection h with h; omega
theorem tcp_inr {g : Bool} {l : List UInt8} {x : Int} (h : tcpParse g l = .inr x) : x = 2 ∨ x = 3 ∨ x = 4 ∨ x = 5 := by
  unfold tcpParse at h
  split at h
  · repeat (first | (split at h) | (injection h with h; omega) | (cases h; done))
  · injection h with h; omega
def segGood (p src dst : Int) (l : List UInt8) : Bool := sumOf [pseudoOf src dst p l.length, strOf l] == 0
/-- Bytes' segment, or the mistake's number. -/
def segParse (p src dst : Int) (l : List UInt8) : Seg ⊕ Int := if p = 6 then tcpParse (segGood p src dst l) l else if p = 17 then udpParse (segGood p src dst l) l else .inr 1
def parsed : Seg ⊕ Int → Seg × Int
  | .inl s => (s, 0)
  | .inr x => (noSeg, x)
set_option maxHeartbeats 8000000 in
theorem segParse_any (p src dst : Int) (l : List UInt8) (hl : l.length ≤ 70000) (hsrc : 0 ≤ src ∧ src ≤ 4294967295) (hdst : 0 ≤ dst ∧ dst ≤ 4294967295) (w : World) :
    Calls Try.prog 25 #[.int .i64 p, .int .u32 src, .int .u32 dst, .string (strOf l)] w fun e w' => e = .returned (.tuple #[sv (parsed (segParse p src dst l)).1, .int .i64 (parsed (segParse p src dst l)).2]) ∧ Mod [] w w' := by
  have hsz : ((strOf l).size : Int) = l.length := by rw [strOf_size]
  have hP : Hid (∀ w', Calls Try.prog 39 #[.int .u32 src, .int .u32 dst, .int .i64 p, .int .i64 l.length] w' fun e w'' => e = .returned (.string (pseudoOf src dst p l.length)) ∧ Mod [] w' w'') := Lib.hid fun w' => Pseudo_any src dst p l.length hsrc hdst w'
  have hG : Hid (∀ w' b, Blk w' b [.string (pseudoOf src dst p l.length), .string (strOf l)] 9 → Calls Try.prog 51 #[.slice (some ⟨b, 0, none⟩) 2 2] w' fun e w'' => e = .returned (.bool (segGood p src dst l)) ∧ Mod [] w' w'') := Lib.hid fun w' b hb =>
    Good_any _ [pseudoOf src dst p l.length, strOf l] w' (Row.of_blk hb 2 2 (by omega)) (two_le (by rw [pseudo_size]; omega) (by omega))
  have hRd := Lib.hid (fun w' => Read_R (w := w') (strOf l) (by omega))
  have hsp := Lib.hid (show segParse p src dst l = if p = 6 then tcpParse (segGood p src dst l) l else if p = 17 then udpParse (segGood p src dst l) l else .inr 1 from rfl)
  generalize segGood p src dst l = g at hG hsp
  generalize pseudoOf src dst p l.length = PS at hP hG
  by_cases h6 : p = 6
  case pos =>
    subst h6
    have hT := Lib.hid (fun P q w' => ptcp_all (P := P) (q := q) (b := strOf l) (g := g) (l := l) (w := w') hsz (by omega))
    have hs2 : segParse 6 src dst l = tcpParse g l := hsp.out.trans (if_pos rfl)
    rw [hs2]
    have hx := fun x => @tcp_inr g l x
    rcases hR : tcpParse g l with t | x
    · rw [hR] at hT
      (refine enterS ([]) (Sep.start _ []) Try.func25 rfl ?_; simp only [Try.ntmps25, List.size_toArray, List.length_cons, List.length_nil, Nat.reduceAdd, Nat.reduceSub, Array.replicate_succ, Array.replicate_zero, List.push_toArray, List.append_toArray, List.nil_append, List.cons_append])
      (repeat' (first | ((with_reducible refine isOps ?_); first | (refine seqS_nil ?_; (try simp only [thenS, blockS])) | ((first | ((with_reducible refine isCallF ?_); refine aCF ?_) | ((with_reducible refine isCallV ?_); refine aCV ?_)); first | (refine callS_N (fun w_ hs_ => hRd.out _) (fun i_ l_ hl_ => ?_); dsimp only [sS, sZ] at hl_; subst hl_) | refine cS0 (fun w_ hs_ => hP.out _) ?_ | refine cS0 (fun w_ hs_ => hG.out _ _ (by first | exact Sep.getBlk hs_ (by first | ((repeat (first | exact .head _ | apply List.Mem.tail)); done) | fail) | exact hg_ _ _ _ (by first | ((repeat (first | exact .head _ | apply List.Mem.tail)); done) | fail))) ?_) | ((with_reducible refine isBuildSlice ?_); first | (refine aBs (fun n_ l_ hl_ => ?_); dsimp only [sS, sZ] at hl_; subst hl_)) | ((with_reducible refine isStore ?_); first | refine aSt ?_) | ((with_reducible refine isBox ?_); first | (refine aBox (fun n_ l_ hl_ => ?_); dsimp only [sS, sZ] at hl_; subst hl_)) | ((with_reducible refine isAlloc ?_); first | (refine aAl (fun n_ l_ hl_ => ?_); dsimp only [sS, sZ] at hl_; subst hl_)) | refine aV ?_) | ((with_reducible refine isWp ?_); first | (refine wpS_seq (fun K_ hK_ => ?_)) | (refine wpS_region ?_) | (refine wpS_cond rfl (fun h_ => ?_) (fun h_ => ?_) <;> (try (simp only [beq_iff_eq, bne_iff_ne, beq_eq_false_iff_ne, bne_eq_false_iff_eq, ne_eq, decide_eq_true_eq, decide_eq_false_iff_not, Bool.and_eq_true, Bool.or_eq_true, Bool.and_eq_false_iff, Bool.or_eq_false_iff, Bool.false_eq_true, Bool.true_eq_false, reduceCtorEq] at h_)) <;> (try (first | (with_reducible contradiction) | (exfalso; omega)))) | (refine wpS_block ?_) | (refine wpS_ret ?_; (try simp only [thenS, blockS])) | (refine wpS_exit ?_; simp only [thenS, blockS, ↓reduceIte, Nat.reduceEqDiff]) | (refine wpS_skip ?_; (try simp only [thenS, blockS]))) | (refine useK (by with_reducible assumption) ?_)))
      refine seqS_weaken (fun w_ h_ => Sep.join (P := n_) (q := i_) (b := strOf l) (g := g) (s := noSeg) (st := (false, strOf l)) (Sep.sub h_ (by first | ((repeat (first | exact List.Sublist.refl _ | exact List.nil_sublist _ | apply List.Sublist.cons_cons | apply List.Sublist.cons)); done) | fail))) ?_
      (repeat' (first | ((with_reducible refine isOps ?_); first | (refine seqS_nil ?_; (try simp only [thenS, blockS])) | ((first | ((with_reducible refine isCallF ?_); refine aCF ?_) | ((with_reducible refine isCallV ?_); refine aCV ?_)); first | (refine cSE (hc := fun w_ hs_ hr_ => hT.out _ _ _ hr_) (h := fun i_ l_ hl_ => ?_); dsimp only [sS, sZ] at hl_; subst hl_)) | ((with_reducible refine isBuildSlice ?_); first | (refine aBs (fun n_ l_ hl_ => ?_); dsimp only [sS, sZ] at hl_; subst hl_)) | ((with_reducible refine isStore ?_); first | refine aSt ?_) | ((with_reducible refine isBox ?_); first | (refine aBox (fun n_ l_ hl_ => ?_); dsimp only [sS, sZ] at hl_; subst hl_)) | ((with_reducible refine isAlloc ?_); first | (refine aAl (fun n_ l_ hl_ => ?_); dsimp only [sS, sZ] at hl_; subst hl_)) | refine aV ?_) | ((with_reducible refine isWp ?_); first | (refine wpS_seq (fun K_ hK_ => ?_)) | (refine wpS_region ?_) | (refine wpS_cond rfl (fun h_ => ?_) (fun h_ => ?_) <;> (try (simp only [beq_iff_eq, bne_iff_ne, beq_eq_false_iff_ne, bne_eq_false_iff_eq, ne_eq, decide_eq_true_eq, decide_eq_false_iff_not, Bool.and_eq_true, Bool.or_eq_true, Bool.and_eq_false_iff, Bool.or_eq_false_iff, Bool.false_eq_true, Bool.true_eq_false, reduceCtorEq] at h_)) <;> (try (first | (with_reducible contradiction) | (exfalso; omega)))) | (refine wpS_block ?_) | (refine wpS_ret ?_; (try simp only [thenS, blockS])) | (refine wpS_exit ?_; simp only [thenS, blockS, ↓reduceIte, Nat.reduceEqDiff]) | (refine wpS_skip ?_; (try simp only [thenS, blockS]))) | (refine useK (by with_reducible assumption) ?_)))
      refine seqS_weaken (fun w_ h_ => h_.part) ?_
      unfold prBlk
      (repeat' (first | ((with_reducible refine isOps ?_); first | (refine seqS_nil ?_; (try simp only [thenS, blockS])) | ((with_reducible refine isBuildSlice ?_); first | (refine aBs (fun n_ l_ hl_ => ?_); dsimp only [sS, sZ] at hl_; subst hl_)) | ((with_reducible refine isStore ?_); first | refine aSt ?_) | ((with_reducible refine isBox ?_); first | (refine aBox (fun n_ l_ hl_ => ?_); dsimp only [sS, sZ] at hl_; subst hl_)) | ((with_reducible refine isAlloc ?_); first | (refine aAl (fun n_ l_ hl_ => ?_); dsimp only [sS, sZ] at hl_; subst hl_)) | refine aV ?_) | ((with_reducible refine isWp ?_); first | (refine wpS_seq (fun K_ hK_ => ?_)) | (refine wpS_region ?_) | (refine wpS_cond rfl (fun h_ => ?_) (fun h_ => ?_) <;> (try (simp only [beq_iff_eq, bne_iff_ne, beq_eq_false_iff_ne, bne_eq_false_iff_eq, ne_eq, decide_eq_true_eq, decide_eq_false_iff_not, Bool.and_eq_true, Bool.or_eq_true, Bool.and_eq_false_iff, Bool.or_eq_false_iff, Bool.false_eq_true, Bool.true_eq_false, reduceCtorEq] at h_)) <;> (try (first | (with_reducible contradiction) | (exfalso; omega)))) | (refine wpS_block ?_) | (refine wpS_ret ?_; (try simp only [thenS, blockS])) | (refine wpS_exit ?_; simp only [thenS, blockS, ↓reduceIte, Nat.reduceEqDiff]) | (refine wpS_skip ?_; (try simp only [thenS, blockS]))) | (refine useK (by with_reducible assumption) ?_)))
      (first | refine r1_ Try.results25 (fun w_ hs_ => ?_) | refine r2_ Try.results25 (fun w_ hs_ => ?_) | refine r3_ Try.results25 (fun w_ hs_ => ?_) | refine retS0 Try.results25 (fun w_ hs_ => ?_) | refine retN0 Try.results25 (fun w_ hs_ => ?_))
      exact ⟨rfl, hs_.mod⟩
    · have hx2 := hx x hR
      rw [hR] at hT
      (refine enterS ([]) (Sep.start _ []) Try.func25 rfl ?_; simp only [Try.ntmps25, List.size_toArray, List.length_cons, List.length_nil, Nat.reduceAdd, Nat.reduceSub, Array.replicate_succ, Array.replicate_zero, List.push_toArray, List.append_toArray, List.nil_append, List.cons_append])
      (repeat' (first | ((with_reducible refine isOps ?_); first | (refine seqS_nil ?_; (try simp only [thenS, blockS])) | ((first | ((with_reducible refine isCallF ?_); refine aCF ?_) | ((with_reducible refine isCallV ?_); refine aCV ?_)); first | (refine callS_N (fun w_ hs_ => hRd.out _) (fun i_ l_ hl_ => ?_); dsimp only [sS, sZ] at hl_; subst hl_) | refine cS0 (fun w_ hs_ => hP.out _) ?_ | refine cS0 (fun w_ hs_ => hG.out _ _ (by first | exact Sep.getBlk hs_ (by first | ((repeat (first | exact .head _ | apply List.Mem.tail)); done) | fail) | exact hg_ _ _ _ (by first | ((repeat (first | exact .head _ | apply List.Mem.tail)); done) | fail))) ?_) | ((with_reducible refine isBuildSlice ?_); first | (refine aBs (fun n_ l_ hl_ => ?_); dsimp only [sS, sZ] at hl_; subst hl_)) | ((with_reducible refine isStore ?_); first | refine aSt ?_) | ((with_reducible refine isBox ?_); first | (refine aBox (fun n_ l_ hl_ => ?_); dsimp only [sS, sZ] at hl_; subst hl_)) | ((with_reducible refine isAlloc ?_); first | (refine aAl (fun n_ l_ hl_ => ?_); dsimp only [sS, sZ] at hl_; subst hl_)) | refine aV ?_) | ((with_reducible refine isWp ?_); first | (refine wpS_seq (fun K_ hK_ => ?_)) | (refine wpS_region ?_) | (refine wpS_cond rfl (fun h_ => ?_) (fun h_ => ?_) <;> (try (simp only [beq_iff_eq, bne_iff_ne, beq_eq_false_iff_ne, bne_eq_false_iff_eq, ne_eq, decide_eq_true_eq, decide_eq_false_iff_not, Bool.and_eq_true, Bool.or_eq_true, Bool.and_eq_false_iff, Bool.or_eq_false_iff, Bool.false_eq_true, Bool.true_eq_false, reduceCtorEq] at h_)) <;> (try (first | (with_reducible contradiction) | (exfalso; omega)))) | (refine wpS_block ?_) | (refine wpS_ret ?_; (try simp only [thenS, blockS])) | (refine wpS_exit ?_; simp only [thenS, blockS, ↓reduceIte, Nat.reduceEqDiff]) | (refine wpS_skip ?_; (try simp only [thenS, blockS]))) | (refine useK (by with_reducible assumption) ?_)))
      refine seqS_weaken (fun w_ h_ => Sep.join (P := n_) (q := i_) (b := strOf l) (g := g) (s := noSeg) (st := (false, strOf l)) (Sep.sub h_ (by first | ((repeat (first | exact List.Sublist.refl _ | exact List.nil_sublist _ | apply List.Sublist.cons_cons | apply List.Sublist.cons)); done) | fail))) ?_
      (repeat' (first | ((with_reducible refine isOps ?_); first | (refine seqS_nil ?_; (try simp only [thenS, blockS])) | ((first | ((with_reducible refine isCallF ?_); refine aCF ?_) | ((with_reducible refine isCallV ?_); refine aCV ?_)); first | (refine cSE (hc := fun w_ hs_ hr_ => hT.out _ _ _ hr_) (h := fun i_ l_ hl_ => ?_); dsimp only [sS, sZ] at hl_; subst hl_)) | ((with_reducible refine isBuildSlice ?_); first | (refine aBs (fun n_ l_ hl_ => ?_); dsimp only [sS, sZ] at hl_; subst hl_)) | ((with_reducible refine isStore ?_); first | refine aSt ?_) | ((with_reducible refine isBox ?_); first | (refine aBox (fun n_ l_ hl_ => ?_); dsimp only [sS, sZ] at hl_; subst hl_)) | ((with_reducible refine isAlloc ?_); first | (refine aAl (fun n_ l_ hl_ => ?_); dsimp only [sS, sZ] at hl_; subst hl_)) | refine aV ?_) | ((with_reducible refine isWp ?_); first | (refine wpS_seq (fun K_ hK_ => ?_)) | (refine wpS_region ?_) | (refine wpS_cond rfl (fun h_ => ?_) (fun h_ => ?_) <;> (try (simp only [beq_iff_eq, bne_iff_ne, beq_eq_false_iff_ne, bne_eq_false_iff_eq, ne_eq, decide_eq_true_eq, decide_eq_false_iff_not, Bool.and_eq_true, Bool.or_eq_true, Bool.and_eq_false_iff, Bool.or_eq_false_iff, Bool.false_eq_true, Bool.true_eq_false, reduceCtorEq] at h_)) <;> (try (first | (with_reducible contradiction) | (exfalso; omega)))) | (refine wpS_block ?_) | (refine wpS_ret ?_; (try simp only [thenS, blockS])) | (refine wpS_exit ?_; simp only [thenS, blockS, ↓reduceIte, Nat.reduceEqDiff]) | (refine wpS_skip ?_; (try simp only [thenS, blockS]))) | (refine useK (by with_reducible assumption) ?_)))
      (first | refine r1_ Try.results25 (fun w_ hs_ => ?_) | refine r2_ Try.results25 (fun w_ hs_ => ?_) | refine r3_ Try.results25 (fun w_ hs_ => ?_) | refine retS0 Try.results25 (fun w_ hs_ => ?_) | refine retN0 Try.results25 (fun w_ hs_ => ?_))
      exact ⟨rfl, hs_.mod⟩
  by_cases h17 : p = 17
  case pos =>
    subst h17
    have hT := Lib.hid (fun P q w' => pudp_all (P := P) (q := q) (b := strOf l) (g := g) (l := l) (w := w') hsz (by omega))
    have hs2 : segParse 17 src dst l = udpParse g l := hsp.out.trans ((if_neg (by decide)).trans (if_pos rfl))
    rw [hs2]
    have hx := fun x => @udp_inr g l x
    rcases hR : udpParse g l with t | x
    · rw [hR] at hT
      (refine enterS ([]) (Sep.start _ []) Try.func25 rfl ?_; simp only [Try.ntmps25, List.size_toArray, List.length_cons, List.length_nil, Nat.reduceAdd, Nat.reduceSub, Array.replicate_succ, Array.replicate_zero, List.push_toArray, List.append_toArray, List.nil_append, List.cons_append])
      (repeat' (first | ((with_reducible refine isOps ?_); first | (refine seqS_nil ?_; (try simp only [thenS, blockS])) | ((first | ((with_reducible refine isCallF ?_); refine aCF ?_) | ((with_reducible refine isCallV ?_); refine aCV ?_)); first | (refine callS_N (fun w_ hs_ => hRd.out _) (fun i_ l_ hl_ => ?_); dsimp only [sS, sZ] at hl_; subst hl_) | refine cS0 (fun w_ hs_ => hP.out _) ?_ | refine cS0 (fun w_ hs_ => hG.out _ _ (by first | exact Sep.getBlk hs_ (by first | ((repeat (first | exact .head _ | apply List.Mem.tail)); done) | fail) | exact hg_ _ _ _ (by first | ((repeat (first | exact .head _ | apply List.Mem.tail)); done) | fail))) ?_) | ((with_reducible refine isBuildSlice ?_); first | (refine aBs (fun n_ l_ hl_ => ?_); dsimp only [sS, sZ] at hl_; subst hl_)) | ((with_reducible refine isStore ?_); first | refine aSt ?_) | ((with_reducible refine isBox ?_); first | (refine aBox (fun n_ l_ hl_ => ?_); dsimp only [sS, sZ] at hl_; subst hl_)) | ((with_reducible refine isAlloc ?_); first | (refine aAl (fun n_ l_ hl_ => ?_); dsimp only [sS, sZ] at hl_; subst hl_)) | refine aV ?_) | ((with_reducible refine isWp ?_); first | (refine wpS_seq (fun K_ hK_ => ?_)) | (refine wpS_region ?_) | (refine wpS_cond rfl (fun h_ => ?_) (fun h_ => ?_) <;> (try (simp only [beq_iff_eq, bne_iff_ne, beq_eq_false_iff_ne, bne_eq_false_iff_eq, ne_eq, decide_eq_true_eq, decide_eq_false_iff_not, Bool.and_eq_true, Bool.or_eq_true, Bool.and_eq_false_iff, Bool.or_eq_false_iff, Bool.false_eq_true, Bool.true_eq_false, reduceCtorEq] at h_)) <;> (try (first | (with_reducible contradiction) | (exfalso; omega)))) | (refine wpS_block ?_) | (refine wpS_ret ?_; (try simp only [thenS, blockS])) | (refine wpS_exit ?_; simp only [thenS, blockS, ↓reduceIte, Nat.reduceEqDiff]) | (refine wpS_skip ?_; (try simp only [thenS, blockS]))) | (refine useK (by with_reducible assumption) ?_)))
      refine seqS_weaken (fun w_ h_ => Sep.join (P := n_) (q := i_) (b := strOf l) (g := g) (s := noSeg) (st := (false, strOf l)) (Sep.sub h_ (by first | ((repeat (first | exact List.Sublist.refl _ | exact List.nil_sublist _ | apply List.Sublist.cons_cons | apply List.Sublist.cons)); done) | fail))) ?_
      (repeat' (first | ((with_reducible refine isOps ?_); first | (refine seqS_nil ?_; (try simp only [thenS, blockS])) | ((first | ((with_reducible refine isCallF ?_); refine aCF ?_) | ((with_reducible refine isCallV ?_); refine aCV ?_)); first | (refine cSE (hc := fun w_ hs_ hr_ => hT.out _ _ _ hr_) (h := fun i_ l_ hl_ => ?_); dsimp only [sS, sZ] at hl_; subst hl_)) | ((with_reducible refine isBuildSlice ?_); first | (refine aBs (fun n_ l_ hl_ => ?_); dsimp only [sS, sZ] at hl_; subst hl_)) | ((with_reducible refine isStore ?_); first | refine aSt ?_) | ((with_reducible refine isBox ?_); first | (refine aBox (fun n_ l_ hl_ => ?_); dsimp only [sS, sZ] at hl_; subst hl_)) | ((with_reducible refine isAlloc ?_); first | (refine aAl (fun n_ l_ hl_ => ?_); dsimp only [sS, sZ] at hl_; subst hl_)) | refine aV ?_) | ((with_reducible refine isWp ?_); first | (refine wpS_seq (fun K_ hK_ => ?_)) | (refine wpS_region ?_) | (refine wpS_cond rfl (fun h_ => ?_) (fun h_ => ?_) <;> (try (simp only [beq_iff_eq, bne_iff_ne, beq_eq_false_iff_ne, bne_eq_false_iff_eq, ne_eq, decide_eq_true_eq, decide_eq_false_iff_not, Bool.and_eq_true, Bool.or_eq_true, Bool.and_eq_false_iff, Bool.or_eq_false_iff, Bool.false_eq_true, Bool.true_eq_false, reduceCtorEq] at h_)) <;> (try (first | (with_reducible contradiction) | (exfalso; omega)))) | (refine wpS_block ?_) | (refine wpS_ret ?_; (try simp only [thenS, blockS])) | (refine wpS_exit ?_; simp only [thenS, blockS, ↓reduceIte, Nat.reduceEqDiff]) | (refine wpS_skip ?_; (try simp only [thenS, blockS]))) | (refine useK (by with_reducible assumption) ?_)))
      refine seqS_weaken (fun w_ h_ => h_.part) ?_
      unfold prBlk
      (repeat' (first | ((with_reducible refine isOps ?_); first | (refine seqS_nil ?_; (try simp only [thenS, blockS])) | ((with_reducible refine isBuildSlice ?_); first | (refine aBs (fun n_ l_ hl_ => ?_); dsimp only [sS, sZ] at hl_; subst hl_)) | ((with_reducible refine isStore ?_); first | refine aSt ?_) | ((with_reducible refine isBox ?_); first | (refine aBox (fun n_ l_ hl_ => ?_); dsimp only [sS, sZ] at hl_; subst hl_)) | ((with_reducible refine isAlloc ?_); first | (refine aAl (fun n_ l_ hl_ => ?_); dsimp only [sS, sZ] at hl_; subst hl_)) | refine aV ?_) | ((with_reducible refine isWp ?_); first | (refine wpS_seq (fun K_ hK_ => ?_)) | (refine wpS_region ?_) | (refine wpS_cond rfl (fun h_ => ?_) (fun h_ => ?_) <;> (try (simp only [beq_iff_eq, bne_iff_ne, beq_eq_false_iff_ne, bne_eq_false_iff_eq, ne_eq, decide_eq_true_eq, decide_eq_false_iff_not, Bool.and_eq_true, Bool.or_eq_true, Bool.and_eq_false_iff, Bool.or_eq_false_iff, Bool.false_eq_true, Bool.true_eq_false, reduceCtorEq] at h_)) <;> (try (first | (with_reducible contradiction) | (exfalso; omega)))) | (refine wpS_block ?_) | (refine wpS_ret ?_; (try simp only [thenS, blockS])) | (refine wpS_exit ?_; simp only [thenS, blockS, ↓reduceIte, Nat.reduceEqDiff]) | (refine wpS_skip ?_; (try simp only [thenS, blockS]))) | (refine useK (by with_reducible assumption) ?_)))
      (first | refine r1_ Try.results25 (fun w_ hs_ => ?_) | refine r2_ Try.results25 (fun w_ hs_ => ?_) | refine r3_ Try.results25 (fun w_ hs_ => ?_) | refine retS0 Try.results25 (fun w_ hs_ => ?_) | refine retN0 Try.results25 (fun w_ hs_ => ?_))
      exact ⟨rfl, hs_.mod⟩
    · have hx2 := hx x hR
      rw [hR] at hT
      (refine enterS ([]) (Sep.start _ []) Try.func25 rfl ?_; simp only [Try.ntmps25, List.size_toArray, List.length_cons, List.length_nil, Nat.reduceAdd, Nat.reduceSub, Array.replicate_succ, Array.replicate_zero, List.push_toArray, List.append_toArray, List.nil_append, List.cons_append])
      (repeat' (first | ((with_reducible refine isOps ?_); first | (refine seqS_nil ?_; (try simp only [thenS, blockS])) | ((first | ((with_reducible refine isCallF ?_); refine aCF ?_) | ((with_reducible refine isCallV ?_); refine aCV ?_)); first | (refine callS_N (fun w_ hs_ => hRd.out _) (fun i_ l_ hl_ => ?_); dsimp only [sS, sZ] at hl_; subst hl_) | refine cS0 (fun w_ hs_ => hP.out _) ?_ | refine cS0 (fun w_ hs_ => hG.out _ _ (by first | exact Sep.getBlk hs_ (by first | ((repeat (first | exact .head _ | apply List.Mem.tail)); done) | fail) | exact hg_ _ _ _ (by first | ((repeat (first | exact .head _ | apply List.Mem.tail)); done) | fail))) ?_) | ((with_reducible refine isBuildSlice ?_); first | (refine aBs (fun n_ l_ hl_ => ?_); dsimp only [sS, sZ] at hl_; subst hl_)) | ((with_reducible refine isStore ?_); first | refine aSt ?_) | ((with_reducible refine isBox ?_); first | (refine aBox (fun n_ l_ hl_ => ?_); dsimp only [sS, sZ] at hl_; subst hl_)) | ((with_reducible refine isAlloc ?_); first | (refine aAl (fun n_ l_ hl_ => ?_); dsimp only [sS, sZ] at hl_; subst hl_)) | refine aV ?_) | ((with_reducible refine isWp ?_); first | (refine wpS_seq (fun K_ hK_ => ?_)) | (refine wpS_region ?_) | (refine wpS_cond rfl (fun h_ => ?_) (fun h_ => ?_) <;> (try (simp only [beq_iff_eq, bne_iff_ne, beq_eq_false_iff_ne, bne_eq_false_iff_eq, ne_eq, decide_eq_true_eq, decide_eq_false_iff_not, Bool.and_eq_true, Bool.or_eq_true, Bool.and_eq_false_iff, Bool.or_eq_false_iff, Bool.false_eq_true, Bool.true_eq_false, reduceCtorEq] at h_)) <;> (try (first | (with_reducible contradiction) | (exfalso; omega)))) | (refine wpS_block ?_) | (refine wpS_ret ?_; (try simp only [thenS, blockS])) | (refine wpS_exit ?_; simp only [thenS, blockS, ↓reduceIte, Nat.reduceEqDiff]) | (refine wpS_skip ?_; (try simp only [thenS, blockS]))) | (refine useK (by with_reducible assumption) ?_)))
      refine seqS_weaken (fun w_ h_ => Sep.join (P := n_) (q := i_) (b := strOf l) (g := g) (s := noSeg) (st := (false, strOf l)) (Sep.sub h_ (by first | ((repeat (first | exact List.Sublist.refl _ | exact List.nil_sublist _ | apply List.Sublist.cons_cons | apply List.Sublist.cons)); done) | fail))) ?_
      (repeat' (first | ((with_reducible refine isOps ?_); first | (refine seqS_nil ?_; (try simp only [thenS, blockS])) | ((first | ((with_reducible refine isCallF ?_); refine aCF ?_) | ((with_reducible refine isCallV ?_); refine aCV ?_)); first | (refine cSE (hc := fun w_ hs_ hr_ => hT.out _ _ _ hr_) (h := fun i_ l_ hl_ => ?_); dsimp only [sS, sZ] at hl_; subst hl_)) | ((with_reducible refine isBuildSlice ?_); first | (refine aBs (fun n_ l_ hl_ => ?_); dsimp only [sS, sZ] at hl_; subst hl_)) | ((with_reducible refine isStore ?_); first | refine aSt ?_) | ((with_reducible refine isBox ?_); first | (refine aBox (fun n_ l_ hl_ => ?_); dsimp only [sS, sZ] at hl_; subst hl_)) | ((with_reducible refine isAlloc ?_); first | (refine aAl (fun n_ l_ hl_ => ?_); dsimp only [sS, sZ] at hl_; subst hl_)) | refine aV ?_) | ((with_reducible refine isWp ?_); first | (refine wpS_seq (fun K_ hK_ => ?_)) | (refine wpS_region ?_) | (refine wpS_cond rfl (fun h_ => ?_) (fun h_ => ?_) <;> (try (simp only [beq_iff_eq, bne_iff_ne, beq_eq_false_iff_ne, bne_eq_false_iff_eq, ne_eq, decide_eq_true_eq, decide_eq_false_iff_not, Bool.and_eq_true, Bool.or_eq_true, Bool.and_eq_false_iff, Bool.or_eq_false_iff, Bool.false_eq_true, Bool.true_eq_false, reduceCtorEq] at h_)) <;> (try (first | (with_reducible contradiction) | (exfalso; omega)))) | (refine wpS_block ?_) | (refine wpS_ret ?_; (try simp only [thenS, blockS])) | (refine wpS_exit ?_; simp only [thenS, blockS, ↓reduceIte, Nat.reduceEqDiff]) | (refine wpS_skip ?_; (try simp only [thenS, blockS]))) | (refine useK (by with_reducible assumption) ?_)))
      (first | refine r1_ Try.results25 (fun w_ hs_ => ?_) | refine r2_ Try.results25 (fun w_ hs_ => ?_) | refine r3_ Try.results25 (fun w_ hs_ => ?_) | refine retS0 Try.results25 (fun w_ hs_ => ?_) | refine retN0 Try.results25 (fun w_ hs_ => ?_))
      exact ⟨rfl, hs_.mod⟩
  have hs2 := Lib.hid (show segParse p src dst l = .inr 1 from by rw [hsp.out, if_neg h6, if_neg h17])
  (refine enterS ([]) (Sep.start _ []) Try.func25 rfl ?_; simp only [Try.ntmps25, List.size_toArray, List.length_cons, List.length_nil, Nat.reduceAdd, Nat.reduceSub, Array.replicate_succ, Array.replicate_zero, List.push_toArray, List.append_toArray, List.nil_append, List.cons_append])
  (repeat' (first | ((with_reducible refine isOps ?_); first | (refine seqS_nil ?_; (try simp only [thenS, blockS])) | ((first | ((with_reducible refine isCallF ?_); refine aCF ?_) | ((with_reducible refine isCallV ?_); refine aCV ?_)); first | (refine callS_N (fun w_ hs_ => hRd.out _) (fun i_ l_ hl_ => ?_); dsimp only [sS, sZ] at hl_; subst hl_) | refine cS0 (fun w_ hs_ => hP.out _) ?_ | refine cS0 (fun w_ hs_ => hG.out _ _ (by first | exact Sep.getBlk hs_ (by first | ((repeat (first | exact .head _ | apply List.Mem.tail)); done) | fail) | exact hg_ _ _ _ (by first | ((repeat (first | exact .head _ | apply List.Mem.tail)); done) | fail))) ?_) | ((with_reducible refine isBuildSlice ?_); first | (refine aBs (fun n_ l_ hl_ => ?_); dsimp only [sS, sZ] at hl_; subst hl_)) | ((with_reducible refine isStore ?_); first | refine aSt ?_) | ((with_reducible refine isBox ?_); first | (refine aBox (fun n_ l_ hl_ => ?_); dsimp only [sS, sZ] at hl_; subst hl_)) | ((with_reducible refine isAlloc ?_); first | (refine aAl (fun n_ l_ hl_ => ?_); dsimp only [sS, sZ] at hl_; subst hl_)) | refine aV ?_) | ((with_reducible refine isWp ?_); first | (refine wpS_seq (fun K_ hK_ => ?_)) | (refine wpS_region ?_) | (refine wpS_cond rfl (fun h_ => ?_) (fun h_ => ?_) <;> (try (simp only [beq_iff_eq, bne_iff_ne, beq_eq_false_iff_ne, bne_eq_false_iff_eq, ne_eq, decide_eq_true_eq, decide_eq_false_iff_not, Bool.and_eq_true, Bool.or_eq_true, Bool.and_eq_false_iff, Bool.or_eq_false_iff, Bool.false_eq_true, Bool.true_eq_false, reduceCtorEq] at h_)) <;> (try (first | (with_reducible contradiction) | (exfalso; omega)))) | (refine wpS_block ?_) | (refine wpS_ret ?_; (try simp only [thenS, blockS])) | (refine wpS_exit ?_; simp only [thenS, blockS, ↓reduceIte, Nat.reduceEqDiff]) | (refine wpS_skip ?_; (try simp only [thenS, blockS]))) | (refine useK (by with_reducible assumption) ?_)))
  (first | refine r1_ Try.results25 (fun w_ hs_ => ?_) | refine r2_ Try.results25 (fun w_ hs_ => ?_) | refine r3_ Try.results25 (fun w_ hs_ => ?_) | refine retS0 Try.results25 (fun w_ hs_ => ?_) | refine retN0 Try.results25 (fun w_ hs_ => ?_))
  exact ⟨by rw [hs2.out]; rfl, hs_.mod⟩
end Go.Proofs.Ytodhhnljeojpaaa
namespace Go.Proofs.Ytodhhnljeojpaaa
set_option maxRecDepth 8000
attribute [local irreducible] blk wpS seqS ordS OpVal RV endS LoadV StoreV Calls
open Go.RowKit
theorem sh_rng (a b : UInt8) : 0 ≤ sh a b ∧ sh a b ≤ 65535 := by
  have h1 := a.toNat_lt
  have h2 := b.toNat_lt
  unfold sh; omega
theorem w4_sh (a b c d : UInt8) : w4 a b c d = sh a b * 65536 + sh c d := by unfold w4 sh; omega
set_option maxHeartbeats 1000000 in
theorem rshort06 (l : List UInt8) (k : Nat) (hk : k + 1 < l.length) (w : World) (hl : l.length ≤ 100000 := by omega) : Calls Try.prog 65 #[.string (strOf l), .int .i64 k] w fun e w' => e = .returned (.int .i64 (sh l[k] l[k + 1])) ∧ Mod [] w w' := by
  have hsz := strOf_size l
  have g1 := strOf_get l k (by omega)
  have g2 := strOf_get l (k + 1) hk
  have hsh := Lib.hid (show sh l[k] l[k + 1] = (l[k].toNat : Int) * 256 + l[k + 1].toNat from rfl)
  generalize l[k] = a at g1 hsh
  generalize l[k + 1] = b at g2 hsh
  have u1 := a.toNat_lt
  have u2 := b.toNat_lt
  have k1 : IntKind.i64.wrap (a.toNat : Int) = a.toNat := IntWalk.i64_in _ (by omega)
  have k2 : IntKind.i64.wrap (b.toNat : Int) = b.toNat := IntWalk.i64_in _ (by omega)
  (refine enterS ([]) (Sep.start _ []) Try.func65 rfl ?_; simp only [Try.ntmps65, List.size_toArray, List.length_cons, List.length_nil, Nat.reduceAdd, Nat.reduceSub, Array.replicate_succ, Array.replicate_zero, List.push_toArray, List.append_toArray, List.nil_append, List.cons_append])
  (repeat' (first | ((with_reducible refine isOps ?_); first | (refine seqS_nil ?_; (try simp only [thenS, blockS])) | ((with_reducible refine isConvert ?_); first | refine aBy ?_) | refine aV ?_) | ((with_reducible refine isOrd ?_); first | (refine ordS_nil ?_; (try simp only [thenS, blockS, blks, List.map_cons, List.map_nil, List.cons_append, List.nil_append])) | refine oV ?_ | refine oBy ?_) | ((with_reducible refine isWp ?_); first | (refine wpS_seq (fun K_ hK_ => ?_)) | (refine wpS_region ?_) | (refine wpS_cond rfl (fun h_ => ?_) (fun h_ => ?_) <;> (try (simp only [beq_iff_eq, bne_iff_ne, beq_eq_false_iff_ne, bne_eq_false_iff_eq, ne_eq, decide_eq_true_eq, decide_eq_false_iff_not, Bool.and_eq_true, Bool.or_eq_true, Bool.and_eq_false_iff, Bool.or_eq_false_iff, Bool.false_eq_true, Bool.true_eq_false, reduceCtorEq] at h_)) <;> (try (first | (with_reducible contradiction) | (exfalso; omega)))) | (refine wpS_block ?_) | (refine wpS_ret ?_; (try simp only [thenS, blockS])) | (refine wpS_exit ?_; simp only [thenS, blockS, ↓reduceIte, Nat.reduceEqDiff]) | (refine wpS_skip ?_; (try simp only [thenS, blockS]))) | ((with_reducible refine isDraw ?_); refine wpS_drawT (by simp only [List.length_cons, List.length_nil, Nat.zero_add, Nat.reduceAdd, List.range'_succ, List.range'_zero]; rfl) (by kernel_rfl) (by kernel_rfl) (fun B_ hB_ hf_ => ?_)) | (refine useK (by with_reducible assumption) ?_)))
  (first | refine r1_ Try.results65 (fun w_ hs_ => ?_) | refine r2_ Try.results65 (fun w_ hs_ => ?_) | refine r3_ Try.results65 (fun w_ hs_ => ?_) | refine retS0 Try.results65 (fun w_ hs_ => ?_) | refine retN0 Try.results65 (fun w_ hs_ => ?_))
  refine ⟨?_, hs_.mod⟩
  rw [hsh.out, Int.mul_comm 256]
theorem refOf_two (a b : ByteArray) (h : a.size + b.size ≤ 1000000) (w : World) : Calls Try.prog 57 #[.string (a ++ b)] w fun e w' => e = .returned (.int .i64 (sumOf [a, b])) ∧ Mod [] w w' := by
  refine (refOf_any (a ++ b) (by rw [ByteArray.size_append]; omega) w).mono fun e w' ⟨h1, h2⟩ => ⟨?_, h2 ▸ Mod.refl _ _⟩
  rw [h1, sumOf_eq, flat_two]
  congr 4
set_option maxHeartbeats 16000000 in
theorem refSegParse_any (p src dst : Int) (l : List UInt8) (hl : l.length ≤ 70000) (hsrc : 0 ≤ src ∧ src ≤ 4294967295) (hdst : 0 ≤ dst ∧ dst ≤ 4294967295) (w : World) :
    Calls Try.prog 27 #[.int .i64 p, .int .u32 src, .int .u32 dst, .string (strOf l)] w fun e w' => e = .returned (.tuple #[sv (parsed (segParse p src dst l)).1, .int .i64 (parsed (segParse p src dst l)).2]) ∧ Mod [] w w' := by
  have hsz : ((strOf l).size : Int) = l.length := by rw [strOf_size]
  have hps := pseudo_size src dst p l.length
  have hP : Hid (∀ w', Calls Try.prog 64 #[.int .u32 src, .int .u32 dst, .int .i64 p, .int .i64 l.length] w' fun e w'' => e = .returned (.string (pseudoOf src dst p l.length)) ∧ Mod [] w' w'') := Lib.hid fun w' => rPseudo_any src dst p l.length hsrc hdst w'
  have hO : Hid (∀ w', Calls Try.prog 57 #[.string (pseudoOf src dst p l.length ++ strOf l)] w' fun e w'' => e = .returned (.int .i64 (sumOf [pseudoOf src dst p l.length, strOf l])) ∧ Mod [] w' w'') := Lib.hid fun w' => refOf_two _ _ (by omega) w'
  have hgN : (sumOf [pseudoOf src dst p l.length, strOf l] == 0) = segGood p src dst l := rfl
  have hsp := Lib.hid (show segParse p src dst l = if p = 6 then tcpParse (segGood p src dst l) l else if p = 17 then udpParse (segGood p src dst l) l else .inr 1 from rfl)
  generalize segGood p src dst l = g at hgN hsp
  generalize sumOf [pseudoOf src dst p l.length, strOf l] = N at hO hgN
  generalize pseudoOf src dst p l.length = PS at hP hO hps
  obtain ⟨B, hB⟩ : ∃ B, B = strOf l := ⟨_, rfl⟩
  rw [← hB] at hO hsz ⊢
  rw [← hsz] at hP
  have hszH := Lib.hid hsz
  have hzm : B.size ≤ 70000 := by omega
  replace hB := Lib.hid hB
  by_cases h6 : p = 6
  case pos =>
    subst h6
    have hs2 := hsp.out.trans (if_pos rfl)
    by_cases h20 : l.length < 20
    · have hR := Lib.hid (hs2.trans (tcp_short h20))
      have hz : B.size < 20 := by omega
      clear hsp hs2 hsz
      (refine enterS ([]) (Sep.start _ []) Try.func27 rfl ?_; simp only [Try.ntmps27, List.size_toArray, List.length_cons, List.length_nil, Nat.reduceAdd, Nat.reduceSub, Array.replicate_succ, Array.replicate_zero, List.push_toArray, List.append_toArray, List.nil_append, List.cons_append])
      (repeat' (first | ((with_reducible refine isOps ?_); first | (refine seqS_nil ?_; (try simp only [thenS, blockS])) | ((first | ((with_reducible refine isCallF ?_); refine aCF ?_) | ((with_reducible refine isCallV ?_); refine aCV ?_)); first | refine cS0 (fun w_ hs_ => hP.out _) ?_ | refine cS0 (fun w_ hs_ => hO.out _) ?_) | ((with_reducible refine isBuildSlice ?_); first | (refine aBs (fun n_ l_ hl_ => ?_); dsimp only [sS, sZ] at hl_; subst hl_)) | ((with_reducible refine isBuiltin ?_); first | (refine aApp (fun A_ c_ l_ hl_ => ?_); dsimp only [sS, sZ] at hl_; subst hl_)) | ((with_reducible refine isConvert ?_); first | refine aBy ?_) | ((with_reducible refine isStore ?_); first | refine aSt ?_) | ((with_reducible refine isBox ?_); first | (refine aBox (fun n_ l_ hl_ => ?_); dsimp only [sS, sZ] at hl_; subst hl_)) | ((with_reducible refine isAlloc ?_); first | (refine aAl (fun n_ l_ hl_ => ?_); dsimp only [sS, sZ] at hl_; subst hl_)) | refine aV ?_ | refine aNo ?_ | refine aNo' ?_ | ((fail_if_success (refine aIsT ?_)); (fail_if_success (refine aIsF ?_)); refine seqS_guard rfl rfl rfl (fun l_ hl_ h_ => ?_) (fun l_ hl_ h_ => ?_) <;> (dsimp only [sS, sZ] at hl_; subst hl_; (try (simp only [beq_iff_eq, bne_iff_ne, beq_eq_false_iff_ne, bne_eq_false_iff_eq, ne_eq, decide_eq_true_eq, decide_eq_false_iff_not, Bool.and_eq_true, Bool.or_eq_true, Bool.and_eq_false_iff, Bool.or_eq_false_iff, Bool.not_eq_true', Bool.not_eq_false', Bool.false_eq_true, Bool.true_eq_false, reduceCtorEq] at h_)); (try (first | (with_reducible contradiction) | (exfalso; omega)))))) | ((with_reducible refine isOrd ?_); first | (refine ordS_nil ?_; (try simp only [thenS, blockS, blks, List.map_cons, List.map_nil, List.cons_append, List.nil_append])) | refine oV ?_ | refine oNo ?_ | ((fail_if_success (refine oIsT ?_)); (refine ordS_guard rfl rfl rfl rfl (fun l_ hl_ h_ => ?_) (fun l_ hl_ h_ => ?_) <;> (dsimp only [sS, sZ] at hl_; subst hl_; (try (simp only [beq_iff_eq, bne_iff_ne, beq_eq_false_iff_ne, bne_eq_false_iff_eq, ne_eq, decide_eq_true_eq, decide_eq_false_iff_not, Bool.and_eq_true, Bool.or_eq_true, Bool.and_eq_false_iff, Bool.or_eq_false_iff, Bool.not_eq_true', Bool.not_eq_false', Bool.false_eq_true, Bool.true_eq_false, reduceCtorEq] at h_)); (try (first | (with_reducible contradiction) | (exfalso; omega)))))) | (refine oC ?_; first | refine cD0 (fun w_ hs_ hg_ => hP.out _) ?_ | refine cD0 (fun w_ hs_ hg_ => hO.out _) ?_) | (refine oBs (fun n_ l_ hl_ => ?_); dsimp only [sS, sZ] at hl_; subst hl_) | refine oBy ?_ | (refine oAl (fun n_ l_ hl_ => ?_); dsimp only [sS, sZ] at hl_; subst hl_) | (refine oBox (fun n_ l_ hl_ => ?_); dsimp only [sS, sZ] at hl_; subst hl_) | refine oPut ?_ | refine oSt ?_ | refine oLd ?_) | ((with_reducible refine isWp ?_); first | (refine wpS_seq (fun K_ hK_ => ?_)) | (refine wpS_region ?_) | (refine wpS_cond rfl (fun h_ => ?_) (fun h_ => ?_) <;> (try (simp only [beq_iff_eq, bne_iff_ne, beq_eq_false_iff_ne, bne_eq_false_iff_eq, ne_eq, decide_eq_true_eq, decide_eq_false_iff_not, Bool.and_eq_true, Bool.or_eq_true, Bool.and_eq_false_iff, Bool.or_eq_false_iff, Bool.false_eq_true, Bool.true_eq_false, reduceCtorEq] at h_)) <;> (try (first | (with_reducible contradiction) | (exfalso; omega)))) | (refine wpS_block ?_) | (refine wpS_ret ?_; (try simp only [thenS, blockS])) | (refine wpS_exit ?_; simp only [thenS, blockS, ↓reduceIte, Nat.reduceEqDiff]) | (refine wpS_skip ?_; (try simp only [thenS, blockS]))) | ((with_reducible refine isDraw ?_); refine wpS_drawT (by simp only [List.length_cons, List.length_nil, Nat.zero_add, Nat.reduceAdd, List.range'_succ, List.range'_zero]; rfl) (by kernel_rfl) (by kernel_rfl) (fun B_ hB_ hf_ => ?_)) | (refine useK (by with_reducible assumption) ?_)))
      all_goals
        (first | refine r1_ Try.results27 (fun w_ hs_ => ?_) | refine r2_ Try.results27 (fun w_ hs_ => ?_) | refine r3_ Try.results27 (fun w_ hs_ => ?_) | refine retS0 Try.results27 (fun w_ hs_ => ?_) | refine retN0 Try.results27 (fun w_ hs_ => ?_))
        exact ⟨by rw [hR.out]; rfl, hs_.mod⟩
    obtain ⟨a0, l, rfl⟩ := peel l (by first | omega | (simp only [List.length_cons] at h20; omega))
    obtain ⟨a1, l, rfl⟩ := peel l (by first | omega | (simp only [List.length_cons] at h20; omega))
    obtain ⟨a2, l, rfl⟩ := peel l (by first | omega | (simp only [List.length_cons] at h20; omega))
    obtain ⟨a3, l, rfl⟩ := peel l (by first | omega | (simp only [List.length_cons] at h20; omega))
    obtain ⟨a4, l, rfl⟩ := peel l (by first | omega | (simp only [List.length_cons] at h20; omega))
    obtain ⟨a5, l, rfl⟩ := peel l (by first | omega | (simp only [List.length_cons] at h20; omega))
    obtain ⟨a6, l, rfl⟩ := peel l (by first | omega | (simp only [List.length_cons] at h20; omega))
    obtain ⟨a7, l, rfl⟩ := peel l (by first | omega | (simp only [List.length_cons] at h20; omega))
    obtain ⟨a8, l, rfl⟩ := peel l (by first | omega | (simp only [List.length_cons] at h20; omega))
    obtain ⟨a9, l, rfl⟩ := peel l (by first | omega | (simp only [List.length_cons] at h20; omega))
    obtain ⟨a10, l, rfl⟩ := peel l (by first | omega | (simp only [List.length_cons] at h20; omega))
    obtain ⟨a11, l, rfl⟩ := peel l (by first | omega | (simp only [List.length_cons] at h20; omega))
    obtain ⟨a12, l, rfl⟩ := peel l (by first | omega | (simp only [List.length_cons] at h20; omega))
    obtain ⟨a13, l, rfl⟩ := peel l (by first | omega | (simp only [List.length_cons] at h20; omega))
    obtain ⟨a14, l, rfl⟩ := peel l (by first | omega | (simp only [List.length_cons] at h20; omega))
    obtain ⟨a15, l, rfl⟩ := peel l (by first | omega | (simp only [List.length_cons] at h20; omega))
    obtain ⟨a16, l, rfl⟩ := peel l (by first | omega | (simp only [List.length_cons] at h20; omega))
    obtain ⟨a17, l, rfl⟩ := peel l (by first | omega | (simp only [List.length_cons] at h20; omega))
    obtain ⟨a18, l, rfl⟩ := peel l (by first | omega | (simp only [List.length_cons] at h20; omega))
    obtain ⟨a19, l, rfl⟩ := peel l (by first | omega | (simp only [List.length_cons] at h20; omega))
    have hdr : ((a12.toNat : Int) / 16 * 4 - 20).toNat = ((a12.toNat : Int) / 16 * 4).toNat - 20 := by omega
    have hR := hs2.trans (show tcpParse g (a0 :: a1 :: a2 :: a3 :: a4 :: a5 :: a6 :: a7 :: a8 :: a9 :: a10 :: a11 :: a12 :: a13 :: a14 :: a15 :: a16 :: a17 :: a18 :: a19 :: l) = if (a12.toNat : Int) / 16 < 5 then .inr 3 else if (l.length : Int) + 20 < (a12.toNat : Int) / 16 * 4 then .inr 2 else if g = false then .inr 4 else
      .inl ⟨sh a0 a1, sh a2 a3, w4 a4 a5 a6 a7, w4 a8 a9 a10 a11, (a13.toNat : Int) % 64, sh a14 a15, strOf (l.drop ((a12.toNat : Int) / 16 * 4 - 20).toNat)⟩ from rfl)
    rw [w4_sh, w4_sh, hdr] at hR
    replace hR := Lib.hid hR
    clear hsp hs2 hdr
    replace hB := hB.out
    simp only [List.length_cons] at hl hsz
    replace hszH := Lib.hid hsz
    have h0 : Hid (∀ w', Calls Try.prog 65 #[.string B, .int .i64 0] w' fun e w'' => e = .returned (.int .i64 (sh a0 a1)) ∧ Mod [] w' w'') := Lib.hid fun w' => by
      rw [hB]; exact rshort06 (a0 :: a1 :: a2 :: a3 :: a4 :: a5 :: a6 :: a7 :: a8 :: a9 :: a10 :: a11 :: a12 :: a13 :: a14 :: a15 :: a16 :: a17 :: a18 :: a19 :: l) 0 (by simp) w' (by simp only [List.length_cons]; omega)
    have r0 := sh_rng a0 a1
    have h2 : Hid (∀ w', Calls Try.prog 65 #[.string B, .int .i64 2] w' fun e w'' => e = .returned (.int .i64 (sh a2 a3)) ∧ Mod [] w' w'') := Lib.hid fun w' => by
      rw [hB]; exact rshort06 (a0 :: a1 :: a2 :: a3 :: a4 :: a5 :: a6 :: a7 :: a8 :: a9 :: a10 :: a11 :: a12 :: a13 :: a14 :: a15 :: a16 :: a17 :: a18 :: a19 :: l) 2 (by simp) w' (by simp only [List.length_cons]; omega)
    have r2 := sh_rng a2 a3
    have h4 : Hid (∀ w', Calls Try.prog 65 #[.string B, .int .i64 4] w' fun e w'' => e = .returned (.int .i64 (sh a4 a5)) ∧ Mod [] w' w'') := Lib.hid fun w' => by
      rw [hB]; exact rshort06 (a0 :: a1 :: a2 :: a3 :: a4 :: a5 :: a6 :: a7 :: a8 :: a9 :: a10 :: a11 :: a12 :: a13 :: a14 :: a15 :: a16 :: a17 :: a18 :: a19 :: l) 4 (by simp) w' (by simp only [List.length_cons]; omega)
    have r4 := sh_rng a4 a5
    have h6 : Hid (∀ w', Calls Try.prog 65 #[.string B, .int .i64 6] w' fun e w'' => e = .returned (.int .i64 (sh a6 a7)) ∧ Mod [] w' w'') := Lib.hid fun w' => by
      rw [hB]; exact rshort06 (a0 :: a1 :: a2 :: a3 :: a4 :: a5 :: a6 :: a7 :: a8 :: a9 :: a10 :: a11 :: a12 :: a13 :: a14 :: a15 :: a16 :: a17 :: a18 :: a19 :: l) 6 (by simp) w' (by simp only [List.length_cons]; omega)
    have r6 := sh_rng a6 a7
    have h8 : Hid (∀ w', Calls Try.prog 65 #[.string B, .int .i64 8] w' fun e w'' => e = .returned (.int .i64 (sh a8 a9)) ∧ Mod [] w' w'') := Lib.hid fun w' => by
      rw [hB]; exact rshort06 (a0 :: a1 :: a2 :: a3 :: a4 :: a5 :: a6 :: a7 :: a8 :: a9 :: a10 :: a11 :: a12 :: a13 :: a14 :: a15 :: a16 :: a17 :: a18 :: a19 :: l) 8 (by simp) w' (by simp only [List.length_cons]; omega)
    have r8 := sh_rng a8 a9
    have h10 : Hid (∀ w', Calls Try.prog 65 #[.string B, .int .i64 10] w' fun e w'' => e = .returned (.int .i64 (sh a10 a11)) ∧ Mod [] w' w'') := Lib.hid fun w' => by
      rw [hB]; exact rshort06 (a0 :: a1 :: a2 :: a3 :: a4 :: a5 :: a6 :: a7 :: a8 :: a9 :: a10 :: a11 :: a12 :: a13 :: a14 :: a15 :: a16 :: a17 :: a18 :: a19 :: l) 10 (by simp) w' (by simp only [List.length_cons]; omega)
    have r10 := sh_rng a10 a11
    have h14 : Hid (∀ w', Calls Try.prog 65 #[.string B, .int .i64 14] w' fun e w'' => e = .returned (.int .i64 (sh a14 a15)) ∧ Mod [] w' w'') := Lib.hid fun w' => by
      rw [hB]; exact rshort06 (a0 :: a1 :: a2 :: a3 :: a4 :: a5 :: a6 :: a7 :: a8 :: a9 :: a10 :: a11 :: a12 :: a13 :: a14 :: a15 :: a16 :: a17 :: a18 :: a19 :: l) 14 (by simp) w' (by simp only [List.length_cons]; omega)
    have r14 := sh_rng a14 a15
    have z20 : 20 ≤ B.size := by omega
    have g12 : B[12]'(Nat.lt_of_lt_of_le (by decide : 12 < 20) z20) = a12 := by subst hB; rfl
    have g13 : B[13]'(Nat.lt_of_lt_of_le (by decide : 13 < 20) z20) = a13 := by subst hB; rfl
    have u12 := a12.toNat_lt
    have u13 := a13.toNat_lt
    have k12 : IntKind.i64.wrap (a12.toNat : Int) = a12.toNat := IntWalk.i64_in _ (by omega)
    have k13 : IntKind.i64.wrap (a13.toNat : Int) = a13.toNat := IntWalk.i64_in _ (by omega)
    have hx := Lib.hid (fun k (h : 20 ≤ k) => show B.extract k B.size = strOf (l.drop (k - 20)) from by
      rw [hB, strOf_extract, strOf_size]
      obtain ⟨j, rfl⟩ : ∃ j, k = j + 20 := ⟨k - 20, by omega⟩
      simp only [List.drop_succ_cons, Nat.add_sub_cancel, List.length_cons]
      rw [List.take_of_length_le (by rw [List.length_drop]; omega)])
    replace hB := Lib.hid hB
    clear hsz hl
    (refine enterS ([]) (Sep.start _ []) Try.func27 rfl ?_; simp only [Try.ntmps27, List.size_toArray, List.length_cons, List.length_nil, Nat.reduceAdd, Nat.reduceSub, Array.replicate_succ, Array.replicate_zero, List.push_toArray, List.append_toArray, List.nil_append, List.cons_append])
    (repeat' (first | ((with_reducible refine isOps ?_); first | (refine seqS_nil ?_; (try simp only [thenS, blockS])) | ((first | ((with_reducible refine isCallF ?_); refine aCF ?_) | ((with_reducible refine isCallV ?_); refine aCV ?_)); first | refine cS0 (fun w_ hs_ => hP.out _) ?_ | refine cS0 (fun w_ hs_ => hO.out _) ?_ | refine cS0 (fun w_ hs_ => h0.out _) ?_ | refine cS0 (fun w_ hs_ => h2.out _) ?_ | refine cS0 (fun w_ hs_ => h4.out _) ?_ | refine cS0 (fun w_ hs_ => h6.out _) ?_ | refine cS0 (fun w_ hs_ => h8.out _) ?_ | refine cS0 (fun w_ hs_ => h10.out _) ?_ | refine cS0 (fun w_ hs_ => h14.out _) ?_) | ((with_reducible refine isBuildSlice ?_); first | (refine aBs (fun n_ l_ hl_ => ?_); dsimp only [sS, sZ] at hl_; subst hl_)) | ((with_reducible refine isBuiltin ?_); first | (refine aApp (fun A_ c_ l_ hl_ => ?_); dsimp only [sS, sZ] at hl_; subst hl_)) | ((with_reducible refine isConvert ?_); first | refine aBy ?_) | ((with_reducible refine isStore ?_); first | refine aSt ?_) | ((with_reducible refine isBox ?_); first | (refine aBox (fun n_ l_ hl_ => ?_); dsimp only [sS, sZ] at hl_; subst hl_)) | ((with_reducible refine isAlloc ?_); first | (refine aAl (fun n_ l_ hl_ => ?_); dsimp only [sS, sZ] at hl_; subst hl_)) | refine aV ?_ | refine aNo ?_ | refine aNo' ?_ | ((fail_if_success (refine aIsT ?_)); (fail_if_success (refine aIsF ?_)); refine seqS_guard rfl rfl rfl (fun l_ hl_ h_ => ?_) (fun l_ hl_ h_ => ?_) <;> (dsimp only [sS, sZ] at hl_; subst hl_; (try (simp only [beq_iff_eq, bne_iff_ne, beq_eq_false_iff_ne, bne_eq_false_iff_eq, ne_eq, decide_eq_true_eq, decide_eq_false_iff_not, Bool.and_eq_true, Bool.or_eq_true, Bool.and_eq_false_iff, Bool.or_eq_false_iff, Bool.not_eq_true', Bool.not_eq_false', Bool.false_eq_true, Bool.true_eq_false, reduceCtorEq] at h_)); (try (first | (with_reducible contradiction) | (exfalso; omega)))))) | ((with_reducible refine isOrd ?_); first | (refine ordS_nil ?_; (try simp only [thenS, blockS, blks, List.map_cons, List.map_nil, List.cons_append, List.nil_append])) | refine oV ?_ | refine oNo ?_ | ((fail_if_success (refine oIsT ?_)); (refine ordS_guard rfl rfl rfl rfl (fun l_ hl_ h_ => ?_) (fun l_ hl_ h_ => ?_) <;> (dsimp only [sS, sZ] at hl_; subst hl_; (try (simp only [beq_iff_eq, bne_iff_ne, beq_eq_false_iff_ne, bne_eq_false_iff_eq, ne_eq, decide_eq_true_eq, decide_eq_false_iff_not, Bool.and_eq_true, Bool.or_eq_true, Bool.and_eq_false_iff, Bool.or_eq_false_iff, Bool.not_eq_true', Bool.not_eq_false', Bool.false_eq_true, Bool.true_eq_false, reduceCtorEq] at h_)); (try (first | (with_reducible contradiction) | (exfalso; omega)))))) | (refine oC ?_; first | refine cD0 (fun w_ hs_ hg_ => hP.out _) ?_ | refine cD0 (fun w_ hs_ hg_ => hO.out _) ?_ | refine cD0 (fun w_ hs_ hg_ => h0.out _) ?_ | refine cD0 (fun w_ hs_ hg_ => h2.out _) ?_ | refine cD0 (fun w_ hs_ hg_ => h4.out _) ?_ | refine cD0 (fun w_ hs_ hg_ => h6.out _) ?_ | refine cD0 (fun w_ hs_ hg_ => h8.out _) ?_ | refine cD0 (fun w_ hs_ hg_ => h10.out _) ?_ | refine cD0 (fun w_ hs_ hg_ => h14.out _) ?_) | (refine oBs (fun n_ l_ hl_ => ?_); dsimp only [sS, sZ] at hl_; subst hl_) | refine oBy ?_ | (refine oAl (fun n_ l_ hl_ => ?_); dsimp only [sS, sZ] at hl_; subst hl_) | (refine oBox (fun n_ l_ hl_ => ?_); dsimp only [sS, sZ] at hl_; subst hl_) | refine oPut ?_ | refine oSt ?_ | refine oLd ?_) | ((with_reducible refine isWp ?_); first | (refine wpS_seq (fun K_ hK_ => ?_)) | (refine wpS_region ?_) | (refine wpS_cond rfl (fun h_ => ?_) (fun h_ => ?_) <;> (try (simp only [beq_iff_eq, bne_iff_ne, beq_eq_false_iff_ne, bne_eq_false_iff_eq, ne_eq, decide_eq_true_eq, decide_eq_false_iff_not, Bool.and_eq_true, Bool.or_eq_true, Bool.and_eq_false_iff, Bool.or_eq_false_iff, Bool.false_eq_true, Bool.true_eq_false, reduceCtorEq] at h_)) <;> (try (first | (with_reducible contradiction) | (exfalso; omega)))) | (refine wpS_block ?_) | (refine wpS_ret ?_; (try simp only [thenS, blockS])) | (refine wpS_exit ?_; simp only [thenS, blockS, ↓reduceIte, Nat.reduceEqDiff]) | (refine wpS_skip ?_; (try simp only [thenS, blockS]))) | (refine useK (by with_reducible assumption) ?_)))
    all_goals
      (first | refine r1_ Try.results27 (fun w_ hs_ => ?_) | refine r2_ Try.results27 (fun w_ hs_ => ?_) | refine r3_ Try.results27 (fun w_ hs_ => ?_) | refine retS0 Try.results27 (fun w_ hs_ => ?_) | refine retN0 Try.results27 (fun w_ hs_ => ?_))
      (try simp only [Bool.not_eq_true', Bool.not_eq_false'] at h_)
      refine ⟨?_, hs_.mod⟩
      rw [hR.out]
      have hsz := hszH.out
      (repeat (first | rw [if_pos (by omega)] | rw [if_neg (by omega)] | rw [if_neg (nand_f h_)] | rw [if_pos h_] | rw [if_neg (nand_t h_)] | rw [if_neg (nand_z (by omega))] | rw [if_pos (And.intro (by omega) h_)]))
      first | rfl | (rw [hx.out _ (by omega)]; rfl)
  by_cases h17 : p = 17
  case pos =>
    subst h17
    have hs2 := hsp.out.trans ((if_neg (by decide)).trans (if_pos rfl))
    by_cases h8 : l.length < 8
    · have hR := Lib.hid (hs2.trans (udp_short h8))
      have hz : B.size < 8 := by omega
      clear hsp hs2 hsz
      (refine enterS ([]) (Sep.start _ []) Try.func27 rfl ?_; simp only [Try.ntmps27, List.size_toArray, List.length_cons, List.length_nil, Nat.reduceAdd, Nat.reduceSub, Array.replicate_succ, Array.replicate_zero, List.push_toArray, List.append_toArray, List.nil_append, List.cons_append])
      (repeat' (first | ((with_reducible refine isOps ?_); first | (refine seqS_nil ?_; (try simp only [thenS, blockS])) | ((first | ((with_reducible refine isCallF ?_); refine aCF ?_) | ((with_reducible refine isCallV ?_); refine aCV ?_)); first | refine cS0 (fun w_ hs_ => hP.out _) ?_ | refine cS0 (fun w_ hs_ => hO.out _) ?_) | ((with_reducible refine isBuildSlice ?_); first | (refine aBs (fun n_ l_ hl_ => ?_); dsimp only [sS, sZ] at hl_; subst hl_)) | ((with_reducible refine isBuiltin ?_); first | (refine aApp (fun A_ c_ l_ hl_ => ?_); dsimp only [sS, sZ] at hl_; subst hl_)) | ((with_reducible refine isConvert ?_); first | refine aBy ?_) | ((with_reducible refine isStore ?_); first | refine aSt ?_) | ((with_reducible refine isBox ?_); first | (refine aBox (fun n_ l_ hl_ => ?_); dsimp only [sS, sZ] at hl_; subst hl_)) | ((with_reducible refine isAlloc ?_); first | (refine aAl (fun n_ l_ hl_ => ?_); dsimp only [sS, sZ] at hl_; subst hl_)) | refine aV ?_ | refine aNo ?_ | refine aNo' ?_ | ((fail_if_success (refine aIsT ?_)); (fail_if_success (refine aIsF ?_)); refine seqS_guard rfl rfl rfl (fun l_ hl_ h_ => ?_) (fun l_ hl_ h_ => ?_) <;> (dsimp only [sS, sZ] at hl_; subst hl_; (try (simp only [beq_iff_eq, bne_iff_ne, beq_eq_false_iff_ne, bne_eq_false_iff_eq, ne_eq, decide_eq_true_eq, decide_eq_false_iff_not, Bool.and_eq_true, Bool.or_eq_true, Bool.and_eq_false_iff, Bool.or_eq_false_iff, Bool.not_eq_true', Bool.not_eq_false', Bool.false_eq_true, Bool.true_eq_false, reduceCtorEq] at h_)); (try (first | (with_reducible contradiction) | (exfalso; omega)))))) | ((with_reducible refine isOrd ?_); first | (refine ordS_nil ?_; (try simp only [thenS, blockS, blks, List.map_cons, List.map_nil, List.cons_append, List.nil_append])) | refine oV ?_ | refine oNo ?_ | ((fail_if_success (refine oIsT ?_)); (refine ordS_guard rfl rfl rfl rfl (fun l_ hl_ h_ => ?_) (fun l_ hl_ h_ => ?_) <;> (dsimp only [sS, sZ] at hl_; subst hl_; (try (simp only [beq_iff_eq, bne_iff_ne, beq_eq_false_iff_ne, bne_eq_false_iff_eq, ne_eq, decide_eq_true_eq, decide_eq_false_iff_not, Bool.and_eq_true, Bool.or_eq_true, Bool.and_eq_false_iff, Bool.or_eq_false_iff, Bool.not_eq_true', Bool.not_eq_false', Bool.false_eq_true, Bool.true_eq_false, reduceCtorEq] at h_)); (try (first | (with_reducible contradiction) | (exfalso; omega)))))) | (refine oC ?_; first | refine cD0 (fun w_ hs_ hg_ => hP.out _) ?_ | refine cD0 (fun w_ hs_ hg_ => hO.out _) ?_) | (refine oBs (fun n_ l_ hl_ => ?_); dsimp only [sS, sZ] at hl_; subst hl_) | refine oBy ?_ | (refine oAl (fun n_ l_ hl_ => ?_); dsimp only [sS, sZ] at hl_; subst hl_) | (refine oBox (fun n_ l_ hl_ => ?_); dsimp only [sS, sZ] at hl_; subst hl_) | refine oPut ?_ | refine oSt ?_ | refine oLd ?_) | ((with_reducible refine isWp ?_); first | (refine wpS_seq (fun K_ hK_ => ?_)) | (refine wpS_region ?_) | (refine wpS_cond rfl (fun h_ => ?_) (fun h_ => ?_) <;> (try (simp only [beq_iff_eq, bne_iff_ne, beq_eq_false_iff_ne, bne_eq_false_iff_eq, ne_eq, decide_eq_true_eq, decide_eq_false_iff_not, Bool.and_eq_true, Bool.or_eq_true, Bool.and_eq_false_iff, Bool.or_eq_false_iff, Bool.false_eq_true, Bool.true_eq_false, reduceCtorEq] at h_)) <;> (try (first | (with_reducible contradiction) | (exfalso; omega)))) | (refine wpS_block ?_) | (refine wpS_ret ?_; (try simp only [thenS, blockS])) | (refine wpS_exit ?_; simp only [thenS, blockS, ↓reduceIte, Nat.reduceEqDiff]) | (refine wpS_skip ?_; (try simp only [thenS, blockS]))) | ((with_reducible refine isDraw ?_); refine wpS_drawT (by simp only [List.length_cons, List.length_nil, Nat.zero_add, Nat.reduceAdd, List.range'_succ, List.range'_zero]; rfl) (by kernel_rfl) (by kernel_rfl) (fun B_ hB_ hf_ => ?_)) | (refine useK (by with_reducible assumption) ?_)))
      all_goals
        (first | refine r1_ Try.results27 (fun w_ hs_ => ?_) | refine r2_ Try.results27 (fun w_ hs_ => ?_) | refine r3_ Try.results27 (fun w_ hs_ => ?_) | refine retS0 Try.results27 (fun w_ hs_ => ?_) | refine retN0 Try.results27 (fun w_ hs_ => ?_))
        exact ⟨by rw [hR.out]; rfl, hs_.mod⟩
    obtain ⟨a0, l, rfl⟩ := peel l (by first | omega | (simp only [List.length_cons] at h8; omega))
    obtain ⟨a1, l, rfl⟩ := peel l (by first | omega | (simp only [List.length_cons] at h8; omega))
    obtain ⟨a2, l, rfl⟩ := peel l (by first | omega | (simp only [List.length_cons] at h8; omega))
    obtain ⟨a3, l, rfl⟩ := peel l (by first | omega | (simp only [List.length_cons] at h8; omega))
    obtain ⟨a4, l, rfl⟩ := peel l (by first | omega | (simp only [List.length_cons] at h8; omega))
    obtain ⟨a5, l, rfl⟩ := peel l (by first | omega | (simp only [List.length_cons] at h8; omega))
    obtain ⟨a6, l, rfl⟩ := peel l (by first | omega | (simp only [List.length_cons] at h8; omega))
    obtain ⟨a7, l, rfl⟩ := peel l (by first | omega | (simp only [List.length_cons] at h8; omega))
    have hR := Lib.hid (hs2.trans (show udpParse g (a0 :: a1 :: a2 :: a3 :: a4 :: a5 :: a6 :: a7 :: l) = if sh a4 a5 < 8 then .inr 3 else if (l.length : Int) + 8 < sh a4 a5 then .inr 2 else if sh a4 a5 < (l.length : Int) + 8 then .inr 5 else if sh a6 a7 ≠ 0 ∧ g = false then .inr 4 else .inl ⟨sh a0 a1, sh a2 a3, 0, 0, 0, 0, strOf l⟩ from rfl))
    clear hsp hs2
    replace hB := hB.out
    simp only [List.length_cons] at hl hsz
    replace hszH := Lib.hid hsz
    have h0 : Hid (∀ w', Calls Try.prog 65 #[.string B, .int .i64 0] w' fun e w'' => e = .returned (.int .i64 (sh a0 a1)) ∧ Mod [] w' w'') := Lib.hid fun w' => by
      rw [hB]; exact rshort06 (a0 :: a1 :: a2 :: a3 :: a4 :: a5 :: a6 :: a7 :: l) 0 (by simp) w' (by simp only [List.length_cons]; omega)
    have r0 := sh_rng a0 a1
    have h2 : Hid (∀ w', Calls Try.prog 65 #[.string B, .int .i64 2] w' fun e w'' => e = .returned (.int .i64 (sh a2 a3)) ∧ Mod [] w' w'') := Lib.hid fun w' => by
      rw [hB]; exact rshort06 (a0 :: a1 :: a2 :: a3 :: a4 :: a5 :: a6 :: a7 :: l) 2 (by simp) w' (by simp only [List.length_cons]; omega)
    have r2 := sh_rng a2 a3
    have h4 : Hid (∀ w', Calls Try.prog 65 #[.string B, .int .i64 4] w' fun e w'' => e = .returned (.int .i64 (sh a4 a5)) ∧ Mod [] w' w'') := Lib.hid fun w' => by
      rw [hB]; exact rshort06 (a0 :: a1 :: a2 :: a3 :: a4 :: a5 :: a6 :: a7 :: l) 4 (by simp) w' (by simp only [List.length_cons]; omega)
    have r4 := sh_rng a4 a5
    have h6 : Hid (∀ w', Calls Try.prog 65 #[.string B, .int .i64 6] w' fun e w'' => e = .returned (.int .i64 (sh a6 a7)) ∧ Mod [] w' w'') := Lib.hid fun w' => by
      rw [hB]; exact rshort06 (a0 :: a1 :: a2 :: a3 :: a4 :: a5 :: a6 :: a7 :: l) 6 (by simp) w' (by simp only [List.length_cons]; omega)
    have r6 := sh_rng a6 a7
    have z8 : 8 ≤ B.size := by omega
    have hx := Lib.hid (show B.extract 8 B.size = strOf l from by
      rw [hB, strOf_extract, strOf_size]
      simp only [List.drop_succ_cons, List.drop_zero, List.length_cons]
      rw [List.take_of_length_le (by omega)])
    replace hB := Lib.hid hB
    clear hsz hl
    (refine enterS ([]) (Sep.start _ []) Try.func27 rfl ?_; simp only [Try.ntmps27, List.size_toArray, List.length_cons, List.length_nil, Nat.reduceAdd, Nat.reduceSub, Array.replicate_succ, Array.replicate_zero, List.push_toArray, List.append_toArray, List.nil_append, List.cons_append])
    (repeat' (first | ((with_reducible refine isOps ?_); first | (refine seqS_nil ?_; (try simp only [thenS, blockS])) | ((first | ((with_reducible refine isCallF ?_); refine aCF ?_) | ((with_reducible refine isCallV ?_); refine aCV ?_)); first | refine cS0 (fun w_ hs_ => hP.out _) ?_ | refine cS0 (fun w_ hs_ => hO.out _) ?_ | refine cS0 (fun w_ hs_ => h0.out _) ?_ | refine cS0 (fun w_ hs_ => h2.out _) ?_ | refine cS0 (fun w_ hs_ => h4.out _) ?_ | refine cS0 (fun w_ hs_ => h6.out _) ?_) | ((with_reducible refine isBuildSlice ?_); first | (refine aBs (fun n_ l_ hl_ => ?_); dsimp only [sS, sZ] at hl_; subst hl_)) | ((with_reducible refine isBuiltin ?_); first | (refine aApp (fun A_ c_ l_ hl_ => ?_); dsimp only [sS, sZ] at hl_; subst hl_)) | ((with_reducible refine isConvert ?_); first | refine aBy ?_) | ((with_reducible refine isStore ?_); first | refine aSt ?_) | ((with_reducible refine isBox ?_); first | (refine aBox (fun n_ l_ hl_ => ?_); dsimp only [sS, sZ] at hl_; subst hl_)) | ((with_reducible refine isAlloc ?_); first | (refine aAl (fun n_ l_ hl_ => ?_); dsimp only [sS, sZ] at hl_; subst hl_)) | refine aV ?_ | refine aNo ?_ | refine aNo' ?_ | ((fail_if_success (refine aIsT ?_)); (fail_if_success (refine aIsF ?_)); refine seqS_guard rfl rfl rfl (fun l_ hl_ h_ => ?_) (fun l_ hl_ h_ => ?_) <;> (dsimp only [sS, sZ] at hl_; subst hl_; (try (simp only [beq_iff_eq, bne_iff_ne, beq_eq_false_iff_ne, bne_eq_false_iff_eq, ne_eq, decide_eq_true_eq, decide_eq_false_iff_not, Bool.and_eq_true, Bool.or_eq_true, Bool.and_eq_false_iff, Bool.or_eq_false_iff, Bool.not_eq_true', Bool.not_eq_false', Bool.false_eq_true, Bool.true_eq_false, reduceCtorEq] at h_)); (try (first | (with_reducible contradiction) | (exfalso; omega)))))) | ((with_reducible refine isOrd ?_); first | (refine ordS_nil ?_; (try simp only [thenS, blockS, blks, List.map_cons, List.map_nil, List.cons_append, List.nil_append])) | refine oV ?_ | refine oNo ?_ | ((fail_if_success (refine oIsT ?_)); (refine ordS_guard rfl rfl rfl rfl (fun l_ hl_ h_ => ?_) (fun l_ hl_ h_ => ?_) <;> (dsimp only [sS, sZ] at hl_; subst hl_; (try (simp only [beq_iff_eq, bne_iff_ne, beq_eq_false_iff_ne, bne_eq_false_iff_eq, ne_eq, decide_eq_true_eq, decide_eq_false_iff_not, Bool.and_eq_true, Bool.or_eq_true, Bool.and_eq_false_iff, Bool.or_eq_false_iff, Bool.not_eq_true', Bool.not_eq_false', Bool.false_eq_true, Bool.true_eq_false, reduceCtorEq] at h_)); (try (first | (with_reducible contradiction) | (exfalso; omega)))))) | (refine oC ?_; first | refine cD0 (fun w_ hs_ hg_ => hP.out _) ?_ | refine cD0 (fun w_ hs_ hg_ => hO.out _) ?_ | refine cD0 (fun w_ hs_ hg_ => h0.out _) ?_ | refine cD0 (fun w_ hs_ hg_ => h2.out _) ?_ | refine cD0 (fun w_ hs_ hg_ => h4.out _) ?_ | refine cD0 (fun w_ hs_ hg_ => h6.out _) ?_) | (refine oBs (fun n_ l_ hl_ => ?_); dsimp only [sS, sZ] at hl_; subst hl_) | refine oBy ?_ | (refine oAl (fun n_ l_ hl_ => ?_); dsimp only [sS, sZ] at hl_; subst hl_) | (refine oBox (fun n_ l_ hl_ => ?_); dsimp only [sS, sZ] at hl_; subst hl_) | refine oPut ?_ | refine oSt ?_ | refine oLd ?_) | ((with_reducible refine isWp ?_); first | (refine wpS_seq (fun K_ hK_ => ?_)) | (refine wpS_region ?_) | (refine wpS_cond rfl (fun h_ => ?_) (fun h_ => ?_) <;> (try (simp only [beq_iff_eq, bne_iff_ne, beq_eq_false_iff_ne, bne_eq_false_iff_eq, ne_eq, decide_eq_true_eq, decide_eq_false_iff_not, Bool.and_eq_true, Bool.or_eq_true, Bool.and_eq_false_iff, Bool.or_eq_false_iff, Bool.false_eq_true, Bool.true_eq_false, reduceCtorEq] at h_)) <;> (try (first | (with_reducible contradiction) | (exfalso; omega)))) | (refine wpS_block ?_) | (refine wpS_ret ?_; (try simp only [thenS, blockS])) | (refine wpS_exit ?_; simp only [thenS, blockS, ↓reduceIte, Nat.reduceEqDiff]) | (refine wpS_skip ?_; (try simp only [thenS, blockS]))) | (refine useK (by with_reducible assumption) ?_)))
    all_goals
      (first | refine r1_ Try.results27 (fun w_ hs_ => ?_) | refine r2_ Try.results27 (fun w_ hs_ => ?_) | refine r3_ Try.results27 (fun w_ hs_ => ?_) | refine retS0 Try.results27 (fun w_ hs_ => ?_) | refine retN0 Try.results27 (fun w_ hs_ => ?_))
      (try simp only [Bool.not_eq_true', Bool.not_eq_false'] at h_)
      refine ⟨?_, hs_.mod⟩
      rw [hR.out]
      have hsz := hszH.out
      (repeat (first | rw [if_pos (by omega)] | rw [if_neg (by omega)] | rw [if_neg (nand_f h_)] | rw [if_pos h_] | rw [if_neg (nand_t h_)] | rw [if_neg (nand_z (by omega))] | rw [if_pos (And.intro (by omega) h_)]))
      first | rfl | (rw [hx.out]; rfl)
  have hR := Lib.hid (show segParse p src dst l = .inr 1 from by rw [hsp.out, if_neg h6, if_neg h17])
  clear hsp hsz
  (refine enterS ([]) (Sep.start _ []) Try.func27 rfl ?_; simp only [Try.ntmps27, List.size_toArray, List.length_cons, List.length_nil, Nat.reduceAdd, Nat.reduceSub, Array.replicate_succ, Array.replicate_zero, List.push_toArray, List.append_toArray, List.nil_append, List.cons_append])
  (repeat' (first | ((with_reducible refine isOps ?_); first | (refine seqS_nil ?_; (try simp only [thenS, blockS])) | ((first | ((with_reducible refine isCallF ?_); refine aCF ?_) | ((with_reducible refine isCallV ?_); refine aCV ?_)); first | refine cS0 (fun w_ hs_ => hP.out _) ?_ | refine cS0 (fun w_ hs_ => hO.out _) ?_) | ((with_reducible refine isBuildSlice ?_); first | (refine aBs (fun n_ l_ hl_ => ?_); dsimp only [sS, sZ] at hl_; subst hl_)) | ((with_reducible refine isBuiltin ?_); first | (refine aApp (fun A_ c_ l_ hl_ => ?_); dsimp only [sS, sZ] at hl_; subst hl_)) | ((with_reducible refine isConvert ?_); first | refine aBy ?_) | ((with_reducible refine isStore ?_); first | refine aSt ?_) | ((with_reducible refine isBox ?_); first | (refine aBox (fun n_ l_ hl_ => ?_); dsimp only [sS, sZ] at hl_; subst hl_)) | ((with_reducible refine isAlloc ?_); first | (refine aAl (fun n_ l_ hl_ => ?_); dsimp only [sS, sZ] at hl_; subst hl_)) | refine aV ?_ | refine aNo ?_ | refine aNo' ?_ | ((fail_if_success (refine aIsT ?_)); (fail_if_success (refine aIsF ?_)); refine seqS_guard rfl rfl rfl (fun l_ hl_ h_ => ?_) (fun l_ hl_ h_ => ?_) <;> (dsimp only [sS, sZ] at hl_; subst hl_; (try (simp only [beq_iff_eq, bne_iff_ne, beq_eq_false_iff_ne, bne_eq_false_iff_eq, ne_eq, decide_eq_true_eq, decide_eq_false_iff_not, Bool.and_eq_true, Bool.or_eq_true, Bool.and_eq_false_iff, Bool.or_eq_false_iff, Bool.not_eq_true', Bool.not_eq_false', Bool.false_eq_true, Bool.true_eq_false, reduceCtorEq] at h_)); (try (first | (with_reducible contradiction) | (exfalso; omega)))))) | ((with_reducible refine isOrd ?_); first | (refine ordS_nil ?_; (try simp only [thenS, blockS, blks, List.map_cons, List.map_nil, List.cons_append, List.nil_append])) | refine oV ?_ | refine oNo ?_ | ((fail_if_success (refine oIsT ?_)); (refine ordS_guard rfl rfl rfl rfl (fun l_ hl_ h_ => ?_) (fun l_ hl_ h_ => ?_) <;> (dsimp only [sS, sZ] at hl_; subst hl_; (try (simp only [beq_iff_eq, bne_iff_ne, beq_eq_false_iff_ne, bne_eq_false_iff_eq, ne_eq, decide_eq_true_eq, decide_eq_false_iff_not, Bool.and_eq_true, Bool.or_eq_true, Bool.and_eq_false_iff, Bool.or_eq_false_iff, Bool.not_eq_true', Bool.not_eq_false', Bool.false_eq_true, Bool.true_eq_false, reduceCtorEq] at h_)); (try (first | (with_reducible contradiction) | (exfalso; omega)))))) | (refine oC ?_; first | refine cD0 (fun w_ hs_ hg_ => hP.out _) ?_ | refine cD0 (fun w_ hs_ hg_ => hO.out _) ?_) | (refine oBs (fun n_ l_ hl_ => ?_); dsimp only [sS, sZ] at hl_; subst hl_) | refine oBy ?_ | (refine oAl (fun n_ l_ hl_ => ?_); dsimp only [sS, sZ] at hl_; subst hl_) | (refine oBox (fun n_ l_ hl_ => ?_); dsimp only [sS, sZ] at hl_; subst hl_) | refine oPut ?_ | refine oSt ?_ | refine oLd ?_) | ((with_reducible refine isWp ?_); first | (refine wpS_seq (fun K_ hK_ => ?_)) | (refine wpS_region ?_) | (refine wpS_cond rfl (fun h_ => ?_) (fun h_ => ?_) <;> (try (simp only [beq_iff_eq, bne_iff_ne, beq_eq_false_iff_ne, bne_eq_false_iff_eq, ne_eq, decide_eq_true_eq, decide_eq_false_iff_not, Bool.and_eq_true, Bool.or_eq_true, Bool.and_eq_false_iff, Bool.or_eq_false_iff, Bool.false_eq_true, Bool.true_eq_false, reduceCtorEq] at h_)) <;> (try (first | (with_reducible contradiction) | (exfalso; omega)))) | (refine wpS_block ?_) | (refine wpS_ret ?_; (try simp only [thenS, blockS])) | (refine wpS_exit ?_; simp only [thenS, blockS, ↓reduceIte, Nat.reduceEqDiff]) | (refine wpS_skip ?_; (try simp only [thenS, blockS]))) | ((with_reducible refine isDraw ?_); refine wpS_drawT (by simp only [List.length_cons, List.length_nil, Nat.zero_add, Nat.reduceAdd, List.range'_succ, List.range'_zero]; rfl) (by kernel_rfl) (by kernel_rfl) (fun B_ hB_ hf_ => ?_)) | (refine useK (by with_reducible assumption) ?_)))
  all_goals
    (first | refine r1_ Try.results27 (fun w_ hs_ => ?_) | refine r2_ Try.results27 (fun w_ hs_ => ?_) | refine r3_ Try.results27 (fun w_ hs_ => ?_) | refine retS0 Try.results27 (fun w_ hs_ => ?_) | refine retN0 Try.results27 (fun w_ hs_ => ?_))
    exact ⟨by rw [hR.out]; rfl, hs_.mod⟩
end Go.Proofs.Ytodhhnljeojpaaa
namespace Go.Proofs.Ytodhhnljeojpaaa
set_option maxRecDepth 8000
attribute [local irreducible] blk wpS seqS ordS OpVal RV endS LoadV StoreV Calls
open Go.RowKit Go.ChangeShapes Go.WideShapes Go.Deep
set_option maxHeartbeats 1000000 in
theorem refPorts_ok (p : Int) (hp : p = 6 ∨ p = 17) (a b c d : UInt8) (l : List UInt8) (hl : 4 ≤ l.length ∧ l.length ≤ 90000) (w : World) :
    Calls Try.prog 28 #[.int .i64 p, .string (strOf (a :: b :: c :: d :: l))] w fun e w' => e = .returned (.tuple #[.int .i64 (sh a b), .int .i64 (sh c d)]) ∧ Mod [] w w' := by
  have hsz : ((strOf (a :: b :: c :: d :: l)).size : Int) = l.length + 4 := by rw [strOf_size]; simp; omega
  have h0 : Hid (∀ w', Calls Try.prog 65 #[.string (strOf (a :: b :: c :: d :: l)), .int .i64 0] w' fun e w'' => e = .returned (.int .i64 (sh a b)) ∧ Mod [] w' w'') := Lib.hid fun w' => rshort06 (a :: b :: c :: d :: l) 0 (by simp) w' (by simp only [List.length_cons]; omega)
  have h2 : Hid (∀ w', Calls Try.prog 65 #[.string (strOf (a :: b :: c :: d :: l)), .int .i64 2] w' fun e w'' => e = .returned (.int .i64 (sh c d)) ∧ Mod [] w' w'') := Lib.hid fun w' => rshort06 (a :: b :: c :: d :: l) 2 (by simp) w' (by simp only [List.length_cons]; omega)
  rcases hp with rfl | rfl
  all_goals
    (refine enterS ([]) (Sep.start _ []) Try.func28 rfl ?_; simp only [Try.ntmps28, List.size_toArray, List.length_cons, List.length_nil, Nat.reduceAdd, Nat.reduceSub, Array.replicate_succ, Array.replicate_zero, List.push_toArray, List.append_toArray, List.nil_append, List.cons_append])
    (repeat' (first | ((with_reducible refine isOps ?_); first | (refine seqS_nil ?_; (try simp only [thenS, blockS])) | ((first | ((with_reducible refine isCallF ?_); refine aCF ?_) | ((with_reducible refine isCallV ?_); refine aCV ?_)); first | refine cS0 (fun w_ hs_ => h0.out _) ?_ | refine cS0 (fun w_ hs_ => h2.out _) ?_) | refine aV ?_ | refine aNo ?_ | refine aNo' ?_ | ((fail_if_success (refine aIsT ?_)); (fail_if_success (refine aIsF ?_)); refine seqS_guard rfl rfl rfl (fun l_ hl_ h_ => ?_) (fun l_ hl_ h_ => ?_) <;> (dsimp only [sS, sZ] at hl_; subst hl_; (try (simp only [beq_iff_eq, bne_iff_ne, beq_eq_false_iff_ne, bne_eq_false_iff_eq, ne_eq, decide_eq_true_eq, decide_eq_false_iff_not, Bool.and_eq_true, Bool.or_eq_true, Bool.and_eq_false_iff, Bool.or_eq_false_iff, Bool.not_eq_true', Bool.not_eq_false', Bool.false_eq_true, Bool.true_eq_false, reduceCtorEq] at h_)); (try (first | (with_reducible contradiction) | (exfalso; omega)))))) | ((with_reducible refine isWp ?_); first | (refine wpS_seq (fun K_ hK_ => ?_)) | (refine wpS_region ?_) | (refine wpS_cond rfl (fun h_ => ?_) (fun h_ => ?_) <;> (try (simp only [beq_iff_eq, bne_iff_ne, beq_eq_false_iff_ne, bne_eq_false_iff_eq, ne_eq, decide_eq_true_eq, decide_eq_false_iff_not, Bool.and_eq_true, Bool.or_eq_true, Bool.and_eq_false_iff, Bool.or_eq_false_iff, Bool.false_eq_true, Bool.true_eq_false, reduceCtorEq] at h_)) <;> (try (first | (with_reducible contradiction) | (exfalso; omega)))) | (refine wpS_block ?_) | (refine wpS_ret ?_; (try simp only [thenS, blockS])) | (refine wpS_exit ?_; simp only [thenS, blockS, ↓reduceIte, Nat.reduceEqDiff]) | (refine wpS_skip ?_; (try simp only [thenS, blockS]))) | (refine useK (by with_reducible assumption) ?_)))
    (first | refine r1_ Try.results28 (fun w_ hs_ => ?_) | refine r2_ Try.results28 (fun w_ hs_ => ?_) | refine r3_ Try.results28 (fun w_ hs_ => ?_) | refine retS0 Try.results28 (fun w_ hs_ => ?_) | refine retN0 Try.results28 (fun w_ hs_ => ?_))
    exact ⟨rfl, hs_.mod⟩
set_option maxHeartbeats 1000000 in
theorem refPorts_no (p : Int) (s : ByteArray) (h : ¬ (p = 6 ∨ p = 17) ∨ s.size < 8) (w : World) :
    Calls Try.prog 28 #[.int .i64 p, .string s] w fun e w' => e = .returned (.tuple #[.int .i64 (-1), .int .i64 (-1)]) ∧ Mod [] w w' := by
  by_cases h6 : p = 6 <;> by_cases h17 : p = 17 <;> by_cases h8 : s.size < 8
  all_goals
    first
      | (exfalso; omega)
      | ((refine enterS ([]) (Sep.start _ []) Try.func28 rfl ?_; simp only [Try.ntmps28, List.size_toArray, List.length_cons, List.length_nil, Nat.reduceAdd, Nat.reduceSub, Array.replicate_succ, Array.replicate_zero, List.push_toArray, List.append_toArray, List.nil_append, List.cons_append])
         (repeat' (first | ((with_reducible refine isOps ?_); first | (refine seqS_nil ?_; (try simp only [thenS, blockS])) | refine aV ?_ | refine aNo ?_ | refine aNo' ?_ | ((fail_if_success (refine aIsT ?_)); (fail_if_success (refine aIsF ?_)); refine seqS_guard rfl rfl rfl (fun l_ hl_ h_ => ?_) (fun l_ hl_ h_ => ?_) <;> (dsimp only [sS, sZ] at hl_; subst hl_; (try (simp only [beq_iff_eq, bne_iff_ne, beq_eq_false_iff_ne, bne_eq_false_iff_eq, ne_eq, decide_eq_true_eq, decide_eq_false_iff_not, Bool.and_eq_true, Bool.or_eq_true, Bool.and_eq_false_iff, Bool.or_eq_false_iff, Bool.not_eq_true', Bool.not_eq_false', Bool.false_eq_true, Bool.true_eq_false, reduceCtorEq] at h_)); (try (first | (with_reducible contradiction) | (exfalso; omega)))))) | ((with_reducible refine isWp ?_); first | (refine wpS_seq (fun K_ hK_ => ?_)) | (refine wpS_region ?_) | (refine wpS_cond rfl (fun h_ => ?_) (fun h_ => ?_) <;> (try (simp only [beq_iff_eq, bne_iff_ne, beq_eq_false_iff_ne, bne_eq_false_iff_eq, ne_eq, decide_eq_true_eq, decide_eq_false_iff_not, Bool.and_eq_true, Bool.or_eq_true, Bool.and_eq_false_iff, Bool.or_eq_false_iff, Bool.false_eq_true, Bool.true_eq_false, reduceCtorEq] at h_)) <;> (try (first | (with_reducible contradiction) | (exfalso; omega)))) | (refine wpS_block ?_) | (refine wpS_ret ?_; (try simp only [thenS, blockS])) | (refine wpS_exit ?_; simp only [thenS, blockS, ↓reduceIte, Nat.reduceEqDiff]) | (refine wpS_skip ?_; (try simp only [thenS, blockS]))) | (refine useK (by with_reducible assumption) ?_)))
         all_goals
           (first | refine r1_ Try.results28 (fun w_ hs_ => ?_) | refine r2_ Try.results28 (fun w_ hs_ => ?_) | refine r3_ Try.results28 (fun w_ hs_ => ?_) | refine retS0 Try.results28 (fun w_ hs_ => ?_) | refine retN0 Try.results28 (fun w_ hs_ => ?_))
           exact ⟨rfl, hs_.mod⟩)
end Go.Proofs.Ytodhhnljeojpaaa
