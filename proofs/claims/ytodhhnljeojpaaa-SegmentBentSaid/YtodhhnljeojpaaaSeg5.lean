/- Package segment: the parser. -/
import Derived.Test.YtodhhnljeojpaaaSeg1
import Derived.Test.YtodhhnljeojpaaaRdNum
set_option linter.unusedVariables false
set_option linter.unusedSimpArgs false
namespace Go.Proofs.Ytodhhnljeojpaaa
open Go.RowKit
/-- A parser and its reader. -/
def pr (P q : Nat) (b : ByteArray) (g : Bool) (s : Seg) (st : Bool × ByteArray) : Res where
  foot := [P, q]
  holds := fun w => Blk w P [ptr0 q, .string b, .bool g, .int .i64 s.sp, .int .i64 s.dp, .int .u32 s.seq, .int .u32 s.ack, .int .i64 s.fl, .int .i64 s.win, .string s.d] 103 ∧ Rd w q st ∧ P ≠ q
  loc := fun w w' h ⟨h1, h2, h3⟩ => ⟨by unfold Blk at *; rw [h P (by simp)]; exact h1, ⟨by have := h2.1; unfold Blk at *; rw [h q (by simp)]; exact this, h2.2⟩, h3⟩
  ex := fun w ⟨h1, h2, h3⟩ n hn => by
    rcases List.mem_cons.1 hn with rfl | hn
    · exact h1.lt
    · obtain rfl := List.mem_singleton.1 hn; exact h2.lt
abbrev prCells (q : Nat) (b : ByteArray) (g : Bool) (s : Seg) : List Value := [ptr0 q, .string b, .bool g, .int .i64 s.sp, .int .i64 s.dp, .int .u32 s.seq, .int .u32 s.ack, .int .i64 s.fl, .int .i64 s.win, .string s.d]
abbrev prBlk (P q : Nat) (b : ByteArray) (g : Bool) (s : Seg) : Res := blk P (prCells q b g s) 103
section
variable {P q : Nat} {b : ByteArray} {g : Bool} {s : Seg} {st : Bool × ByteArray} {w : World}
theorem pr_sep (h : (pr P q b g s st).holds w) : Sep w (pr P q b g s st).foot [prBlk P q b g s, rdr q st] w :=
  Sep.two (r1 := prBlk P q b g s) (r2 := rdr q st) h.1 h.2.1 (fun n hn => by
    have h3 := h.2.2
    simp only [prBlk, blk, List.mem_singleton] at hn
    subst hn
    simpa [rdr] using h3)
theorem Sep.pr {w0 : World} {S : List Nat} {rs : List Res} (h : Sep w0 S rs w) (hs : [prBlk P q b g s, rdr q st].Sublist rs) : (Go.Proofs.Ytodhhnljeojpaaa.pr P q b g s st).holds w := by
  have h2 := h.sub hs
  have hd := h2.dis
  rw [List.pairwise_cons] at hd
  exact ⟨h2.all (prBlk P q b g s) (by simp), h2.all (rdr q st) (by simp), fun e => hd.1 (rdr q st) (by simp) P (by simp [prBlk, blk]) (by simp [rdr, e])⟩
/-- As one thing, and as two. -/
theorem Sep.join {w0 : World} {S : List Nat} {rs : List Res} (h : Sep w0 S (prBlk P q b g s :: rdr q st :: rs) w) : Sep w0 S (Go.Proofs.Ytodhhnljeojpaaa.pr P q b g s st :: rs) w := by
  have hp : (Go.Proofs.Ytodhhnljeojpaaa.pr P q b g s st).holds w := h.pr (by simp)
  have hd := h.dis
  rw [List.pairwise_cons, List.pairwise_cons] at hd
  refine ⟨h.mod, fun r hr => ?_, fun r hr n hn hlt => ?_, ?_⟩
  · rcases List.mem_cons.1 hr with rfl | hr
    · exact hp
    · exact h.all r (by simp [hr])
  · rcases List.mem_cons.1 hr with rfl | hr
    · rcases List.mem_cons.1 hn with rfl | hn
      · exact h.old (prBlk n q b g s) (by simp) n (by simp [prBlk, blk]) hlt
      · obtain rfl := List.mem_singleton.1 hn; exact h.old (rdr n st) (by simp) n (by simp [rdr]) hlt
    · exact h.old r (by simp [hr]) n hn hlt
  · rw [List.pairwise_cons]
    refine ⟨fun x hx n hn => ?_, hd.2.2⟩
    rcases List.mem_cons.1 hn with rfl | hn
    · exact hd.1 x (by simp [hx]) n (by simp [prBlk, blk])
    · obtain rfl := List.mem_singleton.1 hn; exact hd.2.1 x hx n (by simp [rdr])
theorem Sep.part {w0 : World} {S : List Nat} {rs : List Res} (h : Sep w0 S (Go.Proofs.Ytodhhnljeojpaaa.pr P q b g s st :: rs) w) : Sep w0 S (prBlk P q b g s :: rs) w := by
  have hp : (Go.Proofs.Ytodhhnljeojpaaa.pr P q b g s st).holds w := h.all _ (by simp)
  have hd := h.dis
  rw [List.pairwise_cons] at hd
  refine ⟨h.mod, fun r hr => ?_, fun r hr n hn hlt => ?_, ?_⟩
  · rcases List.mem_cons.1 hr with rfl | hr
    · exact hp.1
    · exact h.all r (by simp [hr])
  · rcases List.mem_cons.1 hr with rfl | hr
    · obtain rfl := List.mem_singleton.1 hn
      exact h.old (Go.Proofs.Ytodhhnljeojpaaa.pr n q b g s st) (by simp) n (by simp [Go.Proofs.Ytodhhnljeojpaaa.pr]) hlt
    · exact h.old r (by simp [hr]) n hn hlt
  · rw [List.pairwise_cons]
    refine ⟨fun x hx n hn => ?_, hd.2⟩
    obtain rfl := List.mem_singleton.1 hn
    exact hd.1 x hx n (by simp [Go.Proofs.Ytodhhnljeojpaaa.pr])
end
/-- What a parser's method leaves: the segment, or the mistake's number. -/
def PPost (P q : Nat) (b : ByteArray) (g : Bool) (s : Seg) (st : Bool × ByteArray) (R : Seg ⊕ Int) (w : World) (e : Ending) (w' : World) : Prop := match R with
  | .inl t => Turns (pr P q b g s st) (fun _ => .int .i64 0) (fun i : Bool × ByteArray => pr P q b g t i) w e w'
  | .inr x => Turns (pr P q b g s st) (fun _ => .int .i64 x) (fun i : Seg × (Bool × ByteArray) => pr P q b g i.1 i.2) w e w'
section
variable {P q : Nat} {b : ByteArray} {g : Bool} {s : Seg} {st st' : Bool × ByteArray} {R : Seg ⊕ Int} {w w' : World} {rs : List Res} {sp dp seq ack fl win : Int} {d : ByteArray}
theorem PPost.ok (h : Sep w (pr P q b g s st).foot rs w') (hs : [blk P [ptr0 q, .string b, .bool g, .int .i64 sp, .int .i64 dp, .int .u32 seq, .int .u32 ack, .int .i64 fl, .int .i64 win, .string d] 103, rdr q st'].Sublist rs) (hR : R = .inl ⟨sp, dp, seq, ack, fl, win, d⟩) :
    PPost P q b g s st R w (.returned (.int .i64 0)) w' := by
  subst hR
  exact ⟨st', rfl, h.pr (s := ⟨sp, dp, seq, ack, fl, win, d⟩) hs, h.mod, fun n hn => .inl hn⟩
theorem PPost.no {x : Int} (h : Sep w (pr P q b g s st).foot rs w') (hs : [blk P [ptr0 q, .string b, .bool g, .int .i64 sp, .int .i64 dp, .int .u32 seq, .int .u32 ack, .int .i64 fl, .int .i64 win, .string d] 103, rdr q st'].Sublist rs) (hR : R = .inr x) :
    PPost P q b g s st R w (.returned (.int .i64 x)) w' := by
  subst hR
  exact ⟨(⟨sp, dp, seq, ack, fl, win, d⟩, st'), rfl, h.pr (s := ⟨sp, dp, seq, ack, fl, win, d⟩) hs, h.mod, fun n hn => .inl hn⟩
end
set_option maxRecDepth 8000
attribute [local irreducible] blk wpS seqS ordS OpVal RV endS LoadV StoreV Calls
def noSeg : Seg := ⟨0, 0, 0, 0, 0, 0, ⟨#[]⟩⟩
theorem nand_t {p : Prop} {g : Bool} (h : g = true) : ¬ (p ∧ g = false) := fun e => by rw [h] at e; cases e.2
theorem nand_z {x : Int} {q : Prop} (h : x = 0) : ¬ (x ≠ 0 ∧ q) := fun e => e.1 h
/-- UDP's bytes. -/
def udpParse (g : Bool) : List UInt8 → Seg ⊕ Int
  | a0 :: a1 :: a2 :: a3 :: a4 :: a5 :: a6 :: a7 :: r => if sh a4 a5 < 8 then .inr 3 else if (r.length : Int) + 8 < sh a4 a5 then .inr 2 else if sh a4 a5 < (r.length : Int) + 8 then .inr 5 else if sh a6 a7 ≠ 0 ∧ g = false then .inr 4 else .inl ⟨sh a0 a1, sh a2 a3, 0, 0, 0, 0, strOf r⟩
  | _ => .inr 2
set_option maxHeartbeats 8000000 in
theorem pudp_any (P q : Nat) (b : ByteArray) (g : Bool) (a0 a1 a2 a3 a4 a5 a6 a7 : UInt8) (r : List UInt8) (hb : (b.size : Int) = r.length + 8) (hr : r.length ≤ 100000) (w : World) (h : (pr P q b g noSeg (false, strOf (a0 :: a1 :: a2 :: a3 :: a4 :: a5 :: a6 :: a7 :: r))).holds w) :
    Calls Try.prog 61 #[ptr0 P] w (PPost P q b g noSeg (false, strOf (a0 :: a1 :: a2 :: a3 :: a4 :: a5 :: a6 :: a7 :: r)) (udpParse g (a0 :: a1 :: a2 :: a3 :: a4 :: a5 :: a6 :: a7 :: r)) w) := by
  have hR := Lib.hid (show udpParse g (a0 :: a1 :: a2 :: a3 :: a4 :: a5 :: a6 :: a7 :: r) = if sh a4 a5 < 8 then .inr 3 else if (r.length : Int) + 8 < sh a4 a5 then .inr 2 else if sh a4 a5 < (r.length : Int) + 8 then .inr 5 else if sh a6 a7 ≠ 0 ∧ g = false then .inr 4 else .inl ⟨sh a0 a1, sh a2 a3, 0, 0, 0, 0, strOf r⟩ from rfl)
  have u0 := a4.toNat_lt
  have u1 := a5.toNat_lt
  have u2 := a6.toNat_lt
  have u3 := a7.toNat_lt
  (refine enterS ([prBlk P q b g noSeg, rdr q (false, strOf (a0 :: a1 :: a2 :: a3 :: a4 :: a5 :: a6 :: a7 :: r))]) (pr_sep h) Try.func61 rfl ?_; simp only [Try.ntmps61, List.size_toArray, List.length_cons, List.length_nil, Nat.reduceAdd, Nat.reduceSub, Array.replicate_succ, Array.replicate_zero, List.push_toArray, List.append_toArray, List.nil_append, List.cons_append])
  unfold prBlk noSeg
  (repeat' (first | ((with_reducible refine isOps ?_); first | (refine seqS_nil ?_; (try simp only [thenS, blockS])) | ((with_reducible refine isStore ?_); first | refine aSt ?_) | refine aV ?_ | refine aNo ?_ | refine aNo' ?_ | ((fail_if_success (refine aIsT ?_)); (fail_if_success (refine aIsF ?_)); refine seqS_guard rfl rfl rfl (fun l_ hl_ h_ => ?_) (fun l_ hl_ h_ => ?_) <;> (dsimp only [sS, sZ] at hl_; subst hl_; (try (simp only [beq_iff_eq, bne_iff_ne, beq_eq_false_iff_ne, bne_eq_false_iff_eq, ne_eq, decide_eq_true_eq, decide_eq_false_iff_not, Bool.and_eq_true, Bool.or_eq_true, Bool.and_eq_false_iff, Bool.or_eq_false_iff, Bool.not_eq_true', Bool.not_eq_false', Bool.false_eq_true, Bool.true_eq_false, reduceCtorEq] at h_)); (try (first | (with_reducible contradiction) | (exfalso; omega)))))) | ((with_reducible refine isOrd ?_); first | (refine ordS_nil ?_; (try simp only [thenS, blockS, blks, List.map_cons, List.map_nil, List.cons_append, List.nil_append])) | refine oV ?_ | refine oNo ?_ | ((fail_if_success (refine oIsT ?_)); (refine ordS_guard rfl rfl rfl rfl (fun l_ hl_ h_ => ?_) (fun l_ hl_ h_ => ?_) <;> (dsimp only [sS, sZ] at hl_; subst hl_; (try (simp only [beq_iff_eq, bne_iff_ne, beq_eq_false_iff_ne, bne_eq_false_iff_eq, ne_eq, decide_eq_true_eq, decide_eq_false_iff_not, Bool.and_eq_true, Bool.or_eq_true, Bool.and_eq_false_iff, Bool.or_eq_false_iff, Bool.not_eq_true', Bool.not_eq_false', Bool.false_eq_true, Bool.true_eq_false, reduceCtorEq] at h_)); (try (first | (with_reducible contradiction) | (exfalso; omega)))))) | refine oPut ?_ | refine oSt ?_ | refine oLd ?_) | ((with_reducible refine isWp ?_); first | (refine wpS_seq (fun K_ hK_ => ?_)) | (refine wpS_region ?_) | (refine wpS_cond rfl (fun h_ => ?_) (fun h_ => ?_) <;> (try (simp only [beq_iff_eq, bne_iff_ne, beq_eq_false_iff_ne, bne_eq_false_iff_eq, ne_eq, decide_eq_true_eq, decide_eq_false_iff_not, Bool.and_eq_true, Bool.or_eq_true, Bool.and_eq_false_iff, Bool.or_eq_false_iff, Bool.false_eq_true, Bool.true_eq_false, reduceCtorEq] at h_)) <;> (try (first | (with_reducible contradiction) | (exfalso; omega)))) | (refine wpS_block ?_) | (refine wpS_ret ?_; (try simp only [thenS, blockS])) | (refine wpS_exit ?_; simp only [thenS, blockS, ↓reduceIte, Nat.reduceEqDiff]) | (refine wpS_skip ?_; (try simp only [thenS, blockS]))) | (refine useK (by with_reducible assumption) ?_)))
  ((with_reducible refine isDraw ?_); refine wpS_drawC ([] : List Res) P [(0, ptr0 q)] (by first | ((repeat (first | exact List.Sublist.refl _ | exact List.nil_sublist _ | apply List.Sublist.cons_cons | apply List.Sublist.cons)); done) | fail) (by first | ((repeat (first | exact .head _ | apply List.Mem.tail)); done) | fail) (by simp) (by simp only [List.length_cons, List.length_nil, Nat.zero_add, Nat.reduceAdd, List.range'_succ, List.range'_zero]; rfl) (by kernel_rfl) (by kernel_rfl) (fun B_ hB_ hf_ => ?_))
  (repeat' (first | ((with_reducible refine isOps ?_); first | (refine seqS_nil ?_; (try simp only [thenS, blockS])) | ((first | ((with_reducible refine isCallF ?_); refine aCF ?_) | ((with_reducible refine isCallV ?_); refine aCV ?_)); first | refine cSU (hc := fun w_ hs_ hr_ => rShort_list hr_) (h := ?_)) | ((with_reducible refine isStore ?_); first | refine aSt ?_) | refine aV ?_ | refine aNo ?_ | refine aNo' ?_ | ((fail_if_success (refine aIsT ?_)); (fail_if_success (refine aIsF ?_)); refine seqS_guard rfl rfl rfl (fun l_ hl_ h_ => ?_) (fun l_ hl_ h_ => ?_) <;> (dsimp only [sS, sZ] at hl_; subst hl_; (try (simp only [beq_iff_eq, bne_iff_ne, beq_eq_false_iff_ne, bne_eq_false_iff_eq, ne_eq, decide_eq_true_eq, decide_eq_false_iff_not, Bool.and_eq_true, Bool.or_eq_true, Bool.and_eq_false_iff, Bool.or_eq_false_iff, Bool.not_eq_true', Bool.not_eq_false', Bool.false_eq_true, Bool.true_eq_false, reduceCtorEq] at h_)); (try (first | (with_reducible contradiction) | (exfalso; omega)))))) | ((with_reducible refine isOrd ?_); first | (refine ordS_nil ?_; (try simp only [thenS, blockS, blks, List.map_cons, List.map_nil, List.cons_append, List.nil_append])) | refine oV ?_ | refine oNo ?_ | ((fail_if_success (refine oIsT ?_)); (refine ordS_guard rfl rfl rfl rfl (fun l_ hl_ h_ => ?_) (fun l_ hl_ h_ => ?_) <;> (dsimp only [sS, sZ] at hl_; subst hl_; (try (simp only [beq_iff_eq, bne_iff_ne, beq_eq_false_iff_ne, bne_eq_false_iff_eq, ne_eq, decide_eq_true_eq, decide_eq_false_iff_not, Bool.and_eq_true, Bool.or_eq_true, Bool.and_eq_false_iff, Bool.or_eq_false_iff, Bool.not_eq_true', Bool.not_eq_false', Bool.false_eq_true, Bool.true_eq_false, reduceCtorEq] at h_)); (try (first | (with_reducible contradiction) | (exfalso; omega)))))) | (refine oC ?_; first | refine cDU (hc := fun w_ hs_ hr_ hg_ => rShort_list hr_) (h := ?_)) | refine oPut ?_ | refine oSt ?_ | refine oLd ?_) | ((with_reducible refine isWp ?_); first | (refine wpS_seq (fun K_ hK_ => ?_)) | (refine wpS_region ?_) | (refine wpS_cond rfl (fun h_ => ?_) (fun h_ => ?_) <;> (try (simp only [beq_iff_eq, bne_iff_ne, beq_eq_false_iff_ne, bne_eq_false_iff_eq, ne_eq, decide_eq_true_eq, decide_eq_false_iff_not, Bool.and_eq_true, Bool.or_eq_true, Bool.and_eq_false_iff, Bool.or_eq_false_iff, Bool.false_eq_true, Bool.true_eq_false, reduceCtorEq] at h_)) <;> (try (first | (with_reducible contradiction) | (exfalso; omega)))) | (refine wpS_block ?_) | (refine wpS_ret ?_; (try simp only [thenS, blockS])) | (refine wpS_exit ?_; simp only [thenS, blockS, ↓reduceIte, Nat.reduceEqDiff]) | (refine wpS_skip ?_; (try simp only [thenS, blockS]))) | (refine useK (by with_reducible assumption) ?_)))
  ((with_reducible refine isDraw ?_); refine wpS_drawC ([] : List Res) P [(0, ptr0 q)] (by first | ((repeat (first | exact List.Sublist.refl _ | exact List.nil_sublist _ | apply List.Sublist.cons_cons | apply List.Sublist.cons)); done) | fail) (by first | ((repeat (first | exact .head _ | apply List.Mem.tail)); done) | fail) (by simp) (by simp only [List.length_cons, List.length_nil, Nat.zero_add, Nat.reduceAdd, List.range'_succ, List.range'_zero]; rfl) (by kernel_rfl) (by kernel_rfl) (fun B_ hB_ hf_ => ?_))
  (repeat' (first | ((with_reducible refine isOps ?_); first | (refine seqS_nil ?_; (try simp only [thenS, blockS])) | ((first | ((with_reducible refine isCallF ?_); refine aCF ?_) | ((with_reducible refine isCallV ?_); refine aCV ?_)); first | refine cSU (hc := fun w_ hs_ hr_ => rShort_list hr_) (h := ?_) | refine cSU (hc := fun w_ hs_ hr_ => rRest_R hr_) (h := ?_)) | ((with_reducible refine isStore ?_); first | refine aSt ?_) | refine aV ?_ | refine aNo ?_ | refine aNo' ?_ | ((fail_if_success (refine aIsT ?_)); (fail_if_success (refine aIsF ?_)); refine seqS_guard rfl rfl rfl (fun l_ hl_ h_ => ?_) (fun l_ hl_ h_ => ?_) <;> (dsimp only [sS, sZ] at hl_; subst hl_; (try (simp only [beq_iff_eq, bne_iff_ne, beq_eq_false_iff_ne, bne_eq_false_iff_eq, ne_eq, decide_eq_true_eq, decide_eq_false_iff_not, Bool.and_eq_true, Bool.or_eq_true, Bool.and_eq_false_iff, Bool.or_eq_false_iff, Bool.not_eq_true', Bool.not_eq_false', Bool.false_eq_true, Bool.true_eq_false, reduceCtorEq] at h_)); (try (first | (with_reducible contradiction) | (exfalso; omega)))))) | ((with_reducible refine isOrd ?_); first | (refine ordS_nil ?_; (try simp only [thenS, blockS, blks, List.map_cons, List.map_nil, List.cons_append, List.nil_append])) | refine oV ?_ | refine oNo ?_ | ((fail_if_success (refine oIsT ?_)); (refine ordS_guard rfl rfl rfl rfl (fun l_ hl_ h_ => ?_) (fun l_ hl_ h_ => ?_) <;> (dsimp only [sS, sZ] at hl_; subst hl_; (try (simp only [beq_iff_eq, bne_iff_ne, beq_eq_false_iff_ne, bne_eq_false_iff_eq, ne_eq, decide_eq_true_eq, decide_eq_false_iff_not, Bool.and_eq_true, Bool.or_eq_true, Bool.and_eq_false_iff, Bool.or_eq_false_iff, Bool.not_eq_true', Bool.not_eq_false', Bool.false_eq_true, Bool.true_eq_false, reduceCtorEq] at h_)); (try (first | (with_reducible contradiction) | (exfalso; omega)))))) | (refine oC ?_; first | refine cDU (hc := fun w_ hs_ hr_ hg_ => rShort_list hr_) (h := ?_) | refine cDU (hc := fun w_ hs_ hr_ hg_ => rRest_R hr_) (h := ?_)) | refine oPut ?_ | refine oSt ?_ | refine oLd ?_) | ((with_reducible refine isWp ?_); first | (refine wpS_seq (fun K_ hK_ => ?_)) | (refine wpS_region ?_) | (refine wpS_cond rfl (fun h_ => ?_) (fun h_ => ?_) <;> (try (simp only [beq_iff_eq, bne_iff_ne, beq_eq_false_iff_ne, bne_eq_false_iff_eq, ne_eq, decide_eq_true_eq, decide_eq_false_iff_not, Bool.and_eq_true, Bool.or_eq_true, Bool.and_eq_false_iff, Bool.or_eq_false_iff, Bool.false_eq_true, Bool.true_eq_false, reduceCtorEq] at h_)) <;> (try (first | (with_reducible contradiction) | (exfalso; omega)))) | (refine wpS_block ?_) | (refine wpS_ret ?_; (try simp only [thenS, blockS])) | (refine wpS_exit ?_; simp only [thenS, blockS, ↓reduceIte, Nat.reduceEqDiff]) | (refine wpS_skip ?_; (try simp only [thenS, blockS]))) | (refine useK (by with_reducible assumption) ?_)))
  all_goals
    (first | refine r1_ Try.results61 (fun w_ hs_ => ?_) | refine r2_ Try.results61 (fun w_ hs_ => ?_) | refine r3_ Try.results61 (fun w_ hs_ => ?_) | refine retS0 Try.results61 (fun w_ hs_ => ?_) | refine retN0 Try.results61 (fun w_ hs_ => ?_))
    (try simp only [Bool.not_eq_true', Bool.not_eq_false'] at h_)
    first
      | (refine PPost.ok hs_ (by first | ((repeat (first | exact List.Sublist.refl _ | exact List.nil_sublist _ | apply List.Sublist.cons_cons | apply List.Sublist.cons)); done) | fail) ?_)
      | (refine PPost.no hs_ (by first | ((repeat (first | exact List.Sublist.refl _ | exact List.nil_sublist _ | apply List.Sublist.cons_cons | apply List.Sublist.cons)); done) | fail) ?_)
    rw [hR.out]
    have e1 : sh a4 a5 = (a4.toNat : Int) * 256 + a5.toNat := rfl
    have e2 : sh a6 a7 = (a6.toNat : Int) * 256 + a7.toNat := rfl
    (repeat (first | rw [if_pos (by omega)] | rw [if_neg (by omega)] | rw [if_neg (nand_t h_)] | rw [if_neg (nand_z (by omega))] | rw [if_pos (And.intro (by omega) h_)]))
    try rfl
end Go.Proofs.Ytodhhnljeojpaaa

