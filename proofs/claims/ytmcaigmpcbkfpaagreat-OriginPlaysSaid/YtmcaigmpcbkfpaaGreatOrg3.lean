/- Package origin: what is said, a fault, a reply; time. -/
import Derived.Test.YtmcaigmpcbkfpaaGreatOrg2
import Derived.Test.YtmcaigmpcbkfpaaGreatMHdrE
import Derived.Test.YtmcaigmpcbkfpaaGreatHdrF
import Derived.Test.YtmcaigmpcbkfpaaGreatNot7
import Derived.Test.YtmcaigmpcbkfpaaGreatNot2
set_option linter.unusedVariables false
set_option linter.unusedSimpArgs false
namespace Go.Proofs.YtmcaigmpcbkfpaaGreat
set_option maxRecDepth 8000
attribute [local irreducible] blk wpS seqS ordS OpVal RV endS LoadV StoreV Calls
open Go.RowKit
/-- What is said: tokens and number behind it, the packet, and the error's number. -/
structure Said where
  n : Int
  id : Int
  p : Pkt
  e : Int
abbrev saidPkt (id a b : Int) (m : Ntc) : Pkt := ⟨0, id, false, false, 0, 64, 1, a, b, [], strOf (ntBytes m)⟩
def sayOf (n id a b : Int) (m : Ntc) : Said := if n ≤ 0 then ⟨n, id, noPkt, 9⟩ else ⟨n - 1, (id + 1) % 65536, saidPkt id a b m, 0⟩
def msgSaid (n id a b : Int) : Ntc ⊕ Int → Said
  | .inl m => sayOf n id a b m
  | .inr x => ⟨n, id, noPkt, x⟩
def faultMsg (k c word : Int) (p : Pkt) : Ntc ⊕ Int := if ntRight ⟨k, c, word, ⟨#[]⟩⟩ = true then (if pkRight p = true ∧ mayOf p = true then .inl ⟨k, c, word, strOf (begOf (hdrBytes p))⟩ else .inr 12) else .inr 1
def replyMsg (p : Pkt) : Ntc ⊕ Int := if pkRight p = true ∧ p.off = 0 ∧ p.mf = false ∧ kindOf p.src = 4 ∧ p.proto = 1 then
    (match ntParse p.data.data.toList with
      | .inl n => if n.ty = 8 then .inl { n with ty := 0 } else .inr 12
      | .inr _ => .inr 12) else .inr 12
def faultOf (n id a k c word : Int) (p : Pkt) : Said := msgSaid n id a p.src (faultMsg k c word p)
def replyOf (n id a : Int) (p : Pkt) : Said := msgSaid n id a p.src (replyMsg p)
theorem begOf_len (l : List UInt8) : (begOf l).length ≤ l.length := by
  unfold begOf
  split
  · rw [List.length_take]; omega
  · simp
theorem begRight {k c word : Int} {p : Pkt} (h : ntRight ⟨k, c, word, ⟨#[]⟩⟩ = true) (hr : pkRight p = true) : ntRight ⟨k, c, word, strOf (begOf (hdrBytes p))⟩ = true := by
  obtain ⟨h1, h2, h3⟩ := ntRight_iff.1 h
  refine ntRight_iff.2 ⟨h1, h2, ?_⟩
  have hf := pkRight_iff.1 hr
  have hl := hdrBytes_len hf.opts
  have ho := allSize_rng p.opts hf.opts
  have h40 := hf.size
  have hall := hf.all
  show (strOf (begOf (hdrBytes p))).size ≤ 65507
  rw [strOf_size]
  unfold begOf
  split
  · rename_i q hq
    rw [List.length_take]
    have hd := hdr_dsize hq
    have he : p.data.size = q.data.size ∨ True := .inr trivial
    unfold begLen
    by_cases h8 : (hdrBytes p).length ≤ 65507
    · omega
    · have hpe : ∃ q', hdrParse (hdrBytes p) = .inl q' := ⟨q, hq⟩
      obtain ⟨a0, a1, a2, a3, a4, a5, a6, a7, a8, a9, a10, a11, a12, a13, a14, a15, a16, a17, a18, a19, r, hp⟩ := peel20 (hdrBytes p) (by omega)
      rw [hp] at hq
      obtain ⟨j, L, hrd⟩ := hdrRead_of hq
      have hroom := hrd.room
      have hwords := hrd.words
      have u0 := a0.toNat_lt
      have hds : q.data.size = r.length - j := by
        rw [hrd.pkt]
        show (strOf (r.drop j)).size = _
        rw [strOf_size, List.length_drop]
      have hlr : (hdrBytes p).length = r.length + 20 := by rw [hp]; simp
      rw [hlr, hds]
      split <;> omega
  · simp
theorem parse_right {l : List UInt8} {m : Ntc} (h : ntParse l = .inl m) (hl : l.length ≤ 65515) : ntRight { m with ty := 0 } = true ∧ 0 ≤ m.word ∧ m.word ≤ 4294967295 := by
  by_cases h8 : l.length < 8
  · rw [nt_short h8] at h; cases h
  obtain ⟨a0, a1, a2, a3, a4, a5, a6, a7, r, rfl⟩ := nt_peel l (by omega)
  rw [ntParse_8] at h
  split at h
  · injection h with h
    subst h
    refine ⟨ntRight_iff.2 ⟨by simp, ?_, ?_⟩, ?_⟩
    · have := a1.toNat_lt; simp only; omega
    · simp only [strOf_size]
      simp only [List.length_cons] at hl
      omega
    · have h4 := a4.toNat_lt
      have h5 := a5.toNat_lt
      have h6 := a6.toNat_lt
      have h7 := a7.toNat_lt
      simp only [w4]
      omega
  · cases h
/-- A list that came in stays what it is, while a block that was made later turns. -/
theorem Sep.later {w0 w : World} {rs : List Res} {P : Nat} {n room id : Int} {α : Type} {en : α → List Value} {sz : Nat} {v : Value} {l : List α} (h : Sep w0 [] rs w) (hm : og P n room id ∈ rs) (hr : Structs en sz w0 v l) : ∀ w', Mod [P] w w' → Structs en sz w' v l := fun w' hw => by
  have h1 := (h.made hm).2
  refine hr.below ((h1.1.below (Nat.le_refl _) (by simp)).trans (hw.below h1.1.size (fun k hk => ?_)))
  exact h1.2 k (by rw [og_foot]; exact hk)
section
variable {P : Nat} {n room id : Int} {w : World}
set_option maxHeartbeats 2000000 in
theorem say_no (a b : Int) (m : Ntc) (hm : ntRight m = true) (hw : 0 ≤ m.word ∧ m.word ≤ 4294967295) (hn : n ≤ 0) (h : (og P n room id).holds w) : Calls Tryz.prog 44 #[ptr0 P, .int .u32 a, .int .u32 b, nv m] w fun e w' =>
    e = .returned (.tuple #[pv noPkt nilS, .int .i64 9]) ∧ (og P n room id).holds w' ∧ Mod (og P n room id).foot w w' := by
  have HE : Hid (∀ w', Calls Tryz.prog 41 #[nv m] w' fun e w'' => e = .returned (.tuple #[.string (strOf (ntBytes m)), .int .i64 0]) ∧ Mod [] w' w'') := Lib.hid fun w' => by
    have := ntEncode_any m hw w'
    rwa [show ntEnc m = (strOf (ntBytes m), 0) from if_pos hm] at this
  generalize strOf (ntBytes m) = B at HE
  (refine enterS ([og P n room id]) ((Sep.one h (fun _ h => h))) Tryz.func44 rfl ?_; simp only [Tryz.ntmps44, List.size_toArray, List.length_cons, List.length_nil, Nat.reduceAdd, Nat.reduceSub, Array.replicate_succ, Array.replicate_zero, List.push_toArray, List.append_toArray, List.nil_append, List.cons_append])
  (repeat' (first | ((with_reducible refine isOps ?_); first | (refine seqS_nil ?_; (try simp only [thenS, blockS])) | ((first | ((with_reducible refine isCallF ?_); refine aCF ?_) | ((with_reducible refine isCallV ?_); refine aCV ?_)); first | refine cS0 (fun w_ hs_ => HE.out _) ?_ | (refine cSE (hc := fun w_ hs_ hr_ => og_calls (take_no hn hr_)) (h := fun i_ l_ hl_ => ?_); dsimp only [sS, sZ] at hl_; subst hl_)) | ((with_reducible refine isStore ?_); first | refine aSt ?_) | ((with_reducible refine isBox ?_); first | (refine aBox (fun n_ l_ hl_ => ?_); dsimp only [sS, sZ] at hl_; subst hl_)) | ((with_reducible refine isAlloc ?_); first | (refine aAl (fun n_ l_ hl_ => ?_); dsimp only [sS, sZ] at hl_; subst hl_)) | refine aV ?_) | ((with_reducible refine isWp ?_); first | (refine wpS_seq (fun K_ hK_ => ?_)) | (refine wpS_region ?_) | (refine wpS_cond rfl (fun h_ => ?_) (fun h_ => ?_) <;> (try (simp only [beq_iff_eq, bne_iff_ne, beq_eq_false_iff_ne, bne_eq_false_iff_eq, ne_eq, decide_eq_true_eq, decide_eq_false_iff_not, Bool.and_eq_true, Bool.or_eq_true, Bool.and_eq_false_iff, Bool.or_eq_false_iff, Bool.false_eq_true, Bool.true_eq_false, reduceCtorEq] at h_)) <;> (try (first | (with_reducible contradiction) | (exfalso; omega)))) | (refine wpS_block ?_) | (refine wpS_ret ?_; (try simp only [thenS, blockS])) | (refine wpS_exit ?_; simp only [thenS, blockS, ↓reduceIte, Nat.reduceEqDiff]) | (refine wpS_skip ?_; (try simp only [thenS, blockS]))) | (refine useK (by with_reducible assumption) ?_)))
  (first | refine r1_ Tryz.results44 (fun w_ hs_ => ?_) | refine r2_ Tryz.results44 (fun w_ hs_ => ?_) | refine r3_ Tryz.results44 (fun w_ hs_ => ?_) | refine retS0 Tryz.results44 (fun w_ hs_ => ?_) | refine retN0 Tryz.results44 (fun w_ hs_ => ?_))
  exact ⟨rfl, hs_.all _ (by first | ((repeat (first | exact .head _ | apply List.Mem.tail)); done) | fail), hs_.mod⟩
set_option maxHeartbeats 2000000 in
theorem say_yes (a b : Int) (m : Ntc) (hm : ntRight m = true) (hw : 0 ≤ m.word ∧ m.word ≤ 4294967295) (hn : 0 < n ∧ n ≤ 9223372036854775807) (hid : 0 ≤ id ∧ id ≤ 65535) (h : (og P n room id).holds w) : Calls Tryz.prog 44 #[ptr0 P, .int .u32 a, .int .u32 b, nv m] w fun e w' =>
    e = .returned (.tuple #[pv (saidPkt id a b m) nilS, .int .i64 0]) ∧ (og P (n - 1) room ((id + 1) % 65536)).holds w' ∧ Mod (og P n room id).foot w w' := by
  have HE : Hid (∀ w', Calls Tryz.prog 41 #[nv m] w' fun e w'' => e = .returned (.tuple #[.string (strOf (ntBytes m)), .int .i64 0]) ∧ Mod [] w' w'') := Lib.hid fun w' => by
    have := ntEncode_any m hw w'
    rwa [show ntEnc m = (strOf (ntBytes m), 0) from if_pos hm] at this
  unfold saidPkt
  generalize strOf (ntBytes m) = B at HE ⊢
  (refine enterS ([og P n room id]) ((Sep.one h (fun _ h => h))) Tryz.func44 rfl ?_; simp only [Tryz.ntmps44, List.size_toArray, List.length_cons, List.length_nil, Nat.reduceAdd, Nat.reduceSub, Array.replicate_succ, Array.replicate_zero, List.push_toArray, List.append_toArray, List.nil_append, List.cons_append])
  (repeat' (first | ((with_reducible refine isOps ?_); first | (refine seqS_nil ?_; (try simp only [thenS, blockS])) | ((first | ((with_reducible refine isCallF ?_); refine aCF ?_) | ((with_reducible refine isCallV ?_); refine aCV ?_)); first | refine cS0 (fun w_ hs_ => HE.out _) ?_ | (refine cSE (hc := fun w_ hs_ hr_ => og_calls (take_yes hn hr_)) (h := fun i_ l_ hl_ => ?_); dsimp only [sS, sZ] at hl_; subst hl_)) | ((with_reducible refine isStore ?_); first | refine aSt ?_) | ((with_reducible refine isBox ?_); first | (refine aBox (fun n_ l_ hl_ => ?_); dsimp only [sS, sZ] at hl_; subst hl_)) | ((with_reducible refine isAlloc ?_); first | (refine aAl (fun n_ l_ hl_ => ?_); dsimp only [sS, sZ] at hl_; subst hl_)) | refine aV ?_) | ((with_reducible refine isWp ?_); first | (refine wpS_seq (fun K_ hK_ => ?_)) | (refine wpS_region ?_) | (refine wpS_cond rfl (fun h_ => ?_) (fun h_ => ?_) <;> (try (simp only [beq_iff_eq, bne_iff_ne, beq_eq_false_iff_ne, bne_eq_false_iff_eq, ne_eq, decide_eq_true_eq, decide_eq_false_iff_not, Bool.and_eq_true, Bool.or_eq_true, Bool.and_eq_false_iff, Bool.or_eq_false_iff, Bool.false_eq_true, Bool.true_eq_false, reduceCtorEq] at h_)) <;> (try (first | (with_reducible contradiction) | (exfalso; omega)))) | (refine wpS_block ?_) | (refine wpS_ret ?_; (try simp only [thenS, blockS])) | (refine wpS_exit ?_; simp only [thenS, blockS, ↓reduceIte, Nat.reduceEqDiff]) | (refine wpS_skip ?_; (try simp only [thenS, blockS]))) | (refine useK (by with_reducible assumption) ?_)))
  (first | refine r1_ Tryz.results44 (fun w_ hs_ => ?_) | refine r2_ Tryz.results44 (fun w_ hs_ => ?_) | refine r3_ Tryz.results44 (fun w_ hs_ => ?_) | refine retS0 Tryz.results44 (fun w_ hs_ => ?_) | refine retN0 Tryz.results44 (fun w_ hs_ => ?_))
  exact ⟨rfl, hs_.all _ (by first | ((repeat (first | exact .head _ | apply List.Mem.tail)); done) | fail), hs_.mod⟩
theorem say_any (a b : Int) (m : Ntc) (hm : ntRight m = true) (hw : 0 ≤ m.word ∧ m.word ≤ 4294967295) (hn : n ≤ 9223372036854775807) (hid : 0 ≤ id ∧ id ≤ 65535) (h : (og P n room id).holds w) : Calls Tryz.prog 44 #[ptr0 P, .int .u32 a, .int .u32 b, nv m] w fun e w' =>
    e = .returned (.tuple #[pv (sayOf n id a b m).p nilS, .int .i64 (sayOf n id a b m).e]) ∧ (og P (sayOf n id a b m).n room (sayOf n id a b m).id).holds w' ∧ Mod (og P n room id).foot w w' := by
  unfold sayOf
  by_cases h0 : n ≤ 0
  · rw [if_pos h0]; exact say_no a b m hm hw h0 h
  · rw [if_neg h0]; exact say_yes a b m hm hw ⟨by omega, hn⟩ hid h
set_option maxHeartbeats 4000000 in
theorem fault_any (a k c word : Int) (p : Pkt) (v : Value) (hr : ∀ w', Mod [P] w w' → Structs enOpt 2 w' v p.opts) (hg : great05 p = false) (hsrc : 0 ≤ p.src ∧ p.src ≤ 4294967295) (hdst : 0 ≤ p.dst ∧ p.dst ≤ 4294967295) (hw : 0 ≤ word ∧ word ≤ 4294967295)
    (hn : n ≤ 9223372036854775807) (hid : 0 ≤ id ∧ id ≤ 65535) (h : (og P n room id).holds w) : Calls Tryz.prog 13 #[ptr0 P, .int .u32 a, .int .i64 k, .int .i64 c, .int .u32 word, pv p v] w fun e w' =>
    e = .returned (.tuple #[pv (faultOf n id a k c word p).p nilS, .int .i64 (faultOf n id a k c word p).e]) ∧ (og P (faultOf n id a k c word p).n room (faultOf n id a k c word p).id).holds w' ∧ Mod (og P n room id).foot w w' := by
  obtain ⟨hgo, hd⟩ := great05_not hg
  have HN : Hid (∀ w', Calls Tryz.prog 41 #[nv ⟨k, c, word, ⟨#[]⟩⟩] w' fun e w'' => e = .returned (.tuple #[.string (ntEnc ⟨k, c, word, ⟨#[]⟩⟩).1, .int .i64 (ntEnc ⟨k, c, word, ⟨#[]⟩⟩).2]) ∧ Mod [] w' w'') := Lib.hid fun w' => ntEncode_any ⟨k, c, word, ⟨#[]⟩⟩ hw w'
  rcases hnr : ntRight ⟨k, c, word, ⟨#[]⟩⟩ with _ | _
  · rw [show ntEnc ⟨k, c, word, ⟨#[]⟩⟩ = (⟨#[]⟩, 1) from if_neg (by rw [hnr]; decide)] at HN
    rw [show faultOf n id a k c word p = ⟨n, id, noPkt, 1⟩ from by unfold faultOf faultMsg; rw [if_neg (by rw [hnr]; decide)]; rfl]
    (refine enterS ([og P n room id]) ((Sep.one h (fun _ h => h))) Tryz.func13 rfl ?_; simp only [Tryz.ntmps13, List.size_toArray, List.length_cons, List.length_nil, Nat.reduceAdd, Nat.reduceSub, Array.replicate_succ, Array.replicate_zero, List.push_toArray, List.append_toArray, List.nil_append, List.cons_append])
    (repeat' (first | ((with_reducible refine isOps ?_); first | (refine seqS_nil ?_; (try simp only [thenS, blockS])) | ((first | ((with_reducible refine isCallF ?_); refine aCF ?_) | ((with_reducible refine isCallV ?_); refine aCV ?_)); first | refine cS0 (fun w_ hs_ => HN.out _) ?_) | ((with_reducible refine isStore ?_); first | refine aSt ?_) | ((with_reducible refine isBox ?_); first | (refine aBox (fun n_ l_ hl_ => ?_); dsimp only [sS, sZ] at hl_; subst hl_)) | ((with_reducible refine isAlloc ?_); first | (refine aAl (fun n_ l_ hl_ => ?_); dsimp only [sS, sZ] at hl_; subst hl_)) | refine aV ?_ | refine aNo ?_ | refine aNo' ?_ | ((fail_if_success (refine aIsT ?_)); (fail_if_success (refine aIsF ?_)); refine seqS_guard rfl rfl rfl (fun l_ hl_ h_ => ?_) (fun l_ hl_ h_ => ?_) <;> (dsimp only [sS, sZ] at hl_; subst hl_; (try (simp only [beq_iff_eq, bne_iff_ne, beq_eq_false_iff_ne, bne_eq_false_iff_eq, ne_eq, decide_eq_true_eq, decide_eq_false_iff_not, Bool.and_eq_true, Bool.or_eq_true, Bool.and_eq_false_iff, Bool.or_eq_false_iff, Bool.not_eq_true', Bool.not_eq_false', Bool.false_eq_true, Bool.true_eq_false, reduceCtorEq] at h_)); (try (first | (with_reducible contradiction) | (exfalso; omega)))))) | ((with_reducible refine isWp ?_); first | (refine wpS_seq (fun K_ hK_ => ?_)) | (refine wpS_region ?_) | (refine wpS_cond rfl (fun h_ => ?_) (fun h_ => ?_) <;> (try (simp only [beq_iff_eq, bne_iff_ne, beq_eq_false_iff_ne, bne_eq_false_iff_eq, ne_eq, decide_eq_true_eq, decide_eq_false_iff_not, Bool.and_eq_true, Bool.or_eq_true, Bool.and_eq_false_iff, Bool.or_eq_false_iff, Bool.false_eq_true, Bool.true_eq_false, reduceCtorEq] at h_)) <;> (try (first | (with_reducible contradiction) | (exfalso; omega)))) | (refine wpS_block ?_) | (refine wpS_ret ?_; (try simp only [thenS, blockS])) | (refine wpS_exit ?_; simp only [thenS, blockS, ↓reduceIte, Nat.reduceEqDiff]) | (refine wpS_skip ?_; (try simp only [thenS, blockS]))) | (refine useK (by with_reducible assumption) ?_)))
    (first | refine r1_ Tryz.results13 (fun w_ hs_ => ?_) | refine r2_ Tryz.results13 (fun w_ hs_ => ?_) | refine r3_ Tryz.results13 (fun w_ hs_ => ?_) | refine retS0 Tryz.results13 (fun w_ hs_ => ?_) | refine retN0 Tryz.results13 (fun w_ hs_ => ?_))
    exact ⟨rfl, hs_.all _ (by first | ((repeat (first | exact .head _ | apply List.Mem.tail)); done) | fail), hs_.mod⟩
  rw [show ntEnc ⟨k, c, word, ⟨#[]⟩⟩ = (strOf (ntBytes ⟨k, c, word, ⟨#[]⟩⟩), 0) from if_pos hnr] at HN
  generalize strOf (ntBytes ⟨k, c, word, ⟨#[]⟩⟩) = B0 at HN
  have HH : Hid (∀ w', Mod (og P n room id).foot w w' → Calls Tryz.prog 42 #[pv p v] w' fun e w'' => e = .returned (.tuple #[.string (hdrEnc p).1, .int .i64 (hdrEnc p).2]) ∧ Mod [] w' w'') := Lib.hid fun w' hm => hdrEncode_any p v w' (hr w' (by rw [og_foot] at hm; exact hm)) hgo (by omega) hsrc hdst
  rcases hrt : pkRight p with _ | _
  · rw [show hdrEnc p = (⟨#[]⟩, 1) from if_neg (by rw [hrt]; decide)] at HH
    rw [show faultOf n id a k c word p = ⟨n, id, noPkt, 12⟩ from by unfold faultOf faultMsg; rw [if_pos hnr, if_neg (by rw [hrt]; simp)]; rfl]
    (refine enterS ([og P n room id]) ((Sep.one h (fun _ h => h))) Tryz.func13 rfl ?_; simp only [Tryz.ntmps13, List.size_toArray, List.length_cons, List.length_nil, Nat.reduceAdd, Nat.reduceSub, Array.replicate_succ, Array.replicate_zero, List.push_toArray, List.append_toArray, List.nil_append, List.cons_append])
    (repeat' (first | ((with_reducible refine isOps ?_); first | (refine seqS_nil ?_; (try simp only [thenS, blockS])) | ((first | ((with_reducible refine isCallF ?_); refine aCF ?_) | ((with_reducible refine isCallV ?_); refine aCV ?_)); first | refine cS0 (fun w_ hs_ => HN.out _) ?_ | refine cS0 (fun w_ hs_ => HH.out _ hs_.mod) ?_) | ((with_reducible refine isStore ?_); first | refine aSt ?_) | ((with_reducible refine isBox ?_); first | (refine aBox (fun n_ l_ hl_ => ?_); dsimp only [sS, sZ] at hl_; subst hl_)) | ((with_reducible refine isAlloc ?_); first | (refine aAl (fun n_ l_ hl_ => ?_); dsimp only [sS, sZ] at hl_; subst hl_)) | refine aV ?_ | refine aNo ?_ | refine aNo' ?_ | ((fail_if_success (refine aIsT ?_)); (fail_if_success (refine aIsF ?_)); refine seqS_guard rfl rfl rfl (fun l_ hl_ h_ => ?_) (fun l_ hl_ h_ => ?_) <;> (dsimp only [sS, sZ] at hl_; subst hl_; (try (simp only [beq_iff_eq, bne_iff_ne, beq_eq_false_iff_ne, bne_eq_false_iff_eq, ne_eq, decide_eq_true_eq, decide_eq_false_iff_not, Bool.and_eq_true, Bool.or_eq_true, Bool.and_eq_false_iff, Bool.or_eq_false_iff, Bool.not_eq_true', Bool.not_eq_false', Bool.false_eq_true, Bool.true_eq_false, reduceCtorEq] at h_)); (try (first | (with_reducible contradiction) | (exfalso; omega)))))) | ((with_reducible refine isWp ?_); first | (refine wpS_seq (fun K_ hK_ => ?_)) | (refine wpS_region ?_) | (refine wpS_cond rfl (fun h_ => ?_) (fun h_ => ?_) <;> (try (simp only [beq_iff_eq, bne_iff_ne, beq_eq_false_iff_ne, bne_eq_false_iff_eq, ne_eq, decide_eq_true_eq, decide_eq_false_iff_not, Bool.and_eq_true, Bool.or_eq_true, Bool.and_eq_false_iff, Bool.or_eq_false_iff, Bool.false_eq_true, Bool.true_eq_false, reduceCtorEq] at h_)) <;> (try (first | (with_reducible contradiction) | (exfalso; omega)))) | (refine wpS_block ?_) | (refine wpS_ret ?_; (try simp only [thenS, blockS])) | (refine wpS_exit ?_; simp only [thenS, blockS, ↓reduceIte, Nat.reduceEqDiff]) | (refine wpS_skip ?_; (try simp only [thenS, blockS]))) | (refine useK (by with_reducible assumption) ?_)))
    (first | refine r1_ Tryz.results13 (fun w_ hs_ => ?_) | refine r2_ Tryz.results13 (fun w_ hs_ => ?_) | refine r3_ Tryz.results13 (fun w_ hs_ => ?_) | refine retS0 Tryz.results13 (fun w_ hs_ => ?_) | refine retN0 Tryz.results13 (fun w_ hs_ => ?_))
    exact ⟨rfl, hs_.all _ (by first | ((repeat (first | exact .head _ | apply List.Mem.tail)); done) | fail), hs_.mod⟩
  rw [show hdrEnc p = (strOf (hdrBytes p), 0) from if_pos hrt] at HH
  have HM := Lib.hid (fun w' => may_any p v w' hsrc (by omega))
  rcases hmy : mayOf p with _ | _
  · rw [hmy] at HM
    rw [show faultOf n id a k c word p = ⟨n, id, noPkt, 12⟩ from by unfold faultOf faultMsg; rw [if_pos hnr, if_neg (by rw [hmy]; simp)]; rfl]
    generalize strOf (hdrBytes p) = B1 at HH
    (refine enterS ([og P n room id]) ((Sep.one h (fun _ h => h))) Tryz.func13 rfl ?_; simp only [Tryz.ntmps13, List.size_toArray, List.length_cons, List.length_nil, Nat.reduceAdd, Nat.reduceSub, Array.replicate_succ, Array.replicate_zero, List.push_toArray, List.append_toArray, List.nil_append, List.cons_append])
    (repeat' (first | ((with_reducible refine isOps ?_); first | (refine seqS_nil ?_; (try simp only [thenS, blockS])) | ((first | ((with_reducible refine isCallF ?_); refine aCF ?_) | ((with_reducible refine isCallV ?_); refine aCV ?_)); first | refine cS0 (fun w_ hs_ => HN.out _) ?_ | refine cS0 (fun w_ hs_ => HH.out _ hs_.mod) ?_ | refine cS0 (fun w_ hs_ => HM.out _) ?_) | ((with_reducible refine isStore ?_); first | refine aSt ?_) | ((with_reducible refine isBox ?_); first | (refine aBox (fun n_ l_ hl_ => ?_); dsimp only [sS, sZ] at hl_; subst hl_)) | ((with_reducible refine isAlloc ?_); first | (refine aAl (fun n_ l_ hl_ => ?_); dsimp only [sS, sZ] at hl_; subst hl_)) | refine aV ?_ | refine aNo ?_ | refine aNo' ?_ | ((fail_if_success (refine aIsT ?_)); (fail_if_success (refine aIsF ?_)); refine seqS_guard rfl rfl rfl (fun l_ hl_ h_ => ?_) (fun l_ hl_ h_ => ?_) <;> (dsimp only [sS, sZ] at hl_; subst hl_; (try (simp only [beq_iff_eq, bne_iff_ne, beq_eq_false_iff_ne, bne_eq_false_iff_eq, ne_eq, decide_eq_true_eq, decide_eq_false_iff_not, Bool.and_eq_true, Bool.or_eq_true, Bool.and_eq_false_iff, Bool.or_eq_false_iff, Bool.not_eq_true', Bool.not_eq_false', Bool.false_eq_true, Bool.true_eq_false, reduceCtorEq] at h_)); (try (first | (with_reducible contradiction) | (exfalso; omega)))))) | ((with_reducible refine isWp ?_); first | (refine wpS_seq (fun K_ hK_ => ?_)) | (refine wpS_region ?_) | (refine wpS_cond rfl (fun h_ => ?_) (fun h_ => ?_) <;> (try (simp only [beq_iff_eq, bne_iff_ne, beq_eq_false_iff_ne, bne_eq_false_iff_eq, ne_eq, decide_eq_true_eq, decide_eq_false_iff_not, Bool.and_eq_true, Bool.or_eq_true, Bool.and_eq_false_iff, Bool.or_eq_false_iff, Bool.false_eq_true, Bool.true_eq_false, reduceCtorEq] at h_)) <;> (try (first | (with_reducible contradiction) | (exfalso; omega)))) | (refine wpS_block ?_) | (refine wpS_ret ?_; (try simp only [thenS, blockS])) | (refine wpS_exit ?_; simp only [thenS, blockS, ↓reduceIte, Nat.reduceEqDiff]) | (refine wpS_skip ?_; (try simp only [thenS, blockS]))) | (refine useK (by with_reducible assumption) ?_)))
    (first | refine r1_ Tryz.results13 (fun w_ hs_ => ?_) | refine r2_ Tryz.results13 (fun w_ hs_ => ?_) | refine r3_ Tryz.results13 (fun w_ hs_ => ?_) | refine retS0 Tryz.results13 (fun w_ hs_ => ?_) | refine retN0 Tryz.results13 (fun w_ hs_ => ?_))
    exact ⟨rfl, hs_.all _ (by first | ((repeat (first | exact .head _ | apply List.Mem.tail)); done) | fail), hs_.mod⟩
  rw [hmy] at HM
  have hln : (hdrBytes p).length ≤ 70000 := by
    have := hdrBytes_len (pkRight_iff.1 hrt).opts
    have := (pkRight_iff.1 hrt).all
    omega
  have HB := Lib.hid (fun w' => ntBeg_any (hdrBytes p) hln w')
  rw [show faultOf n id a k c word p = sayOf n id a p.src ⟨k, c, word, strOf (begOf (hdrBytes p))⟩ from by unfold faultOf faultMsg; rw [if_pos hnr, if_pos ⟨hrt, hmy⟩]; rfl]
  have HS : Hid (∀ w', (og P n room id).holds w' → Calls Tryz.prog 44 #[ptr0 P, .int .u32 a, .int .u32 p.src, nv ⟨k, c, word, strOf (begOf (hdrBytes p))⟩] w' fun e w'' =>
    e = .returned (.tuple #[pv (sayOf n id a p.src ⟨k, c, word, strOf (begOf (hdrBytes p))⟩).p nilS, .int .i64 (sayOf n id a p.src ⟨k, c, word, strOf (begOf (hdrBytes p))⟩).e]) ∧ (og P (sayOf n id a p.src ⟨k, c, word, strOf (begOf (hdrBytes p))⟩).n room (sayOf n id a p.src ⟨k, c, word, strOf (begOf (hdrBytes p))⟩).id).holds w'' ∧ Mod (og P n room id).foot w' w'') := Lib.hid fun w' h' =>
    say_any a p.src _ (begRight hnr hrt) hw hn hid h'
  generalize sayOf n id a p.src ⟨k, c, word, strOf (begOf (hdrBytes p))⟩ = R at HS ⊢
  clear hln
  generalize strOf (begOf (hdrBytes p)) = B2 at HB HS
  generalize strOf (hdrBytes p) = B1 at HH HB
  (refine enterS ([og P n room id]) ((Sep.one h (fun _ h => h))) Tryz.func13 rfl ?_; simp only [Tryz.ntmps13, List.size_toArray, List.length_cons, List.length_nil, Nat.reduceAdd, Nat.reduceSub, Array.replicate_succ, Array.replicate_zero, List.push_toArray, List.append_toArray, List.nil_append, List.cons_append])
  (repeat' (first | ((with_reducible refine isOps ?_); first | (refine seqS_nil ?_; (try simp only [thenS, blockS])) | ((first | ((with_reducible refine isCallF ?_); refine aCF ?_) | ((with_reducible refine isCallV ?_); refine aCV ?_)); first | refine cS0 (fun w_ hs_ => HN.out _) ?_ | refine cS0 (fun w_ hs_ => HH.out _ hs_.mod) ?_ | refine cS0 (fun w_ hs_ => HM.out _) ?_ | refine cS0 (fun w_ hs_ => HB.out _) ?_ | (refine cSE (hc := fun w_ hs_ hr_ => og_calls (HS.out _ hr_)) (h := fun i_ l_ hl_ => ?_); dsimp only [sS, sZ] at hl_; subst hl_)) | ((with_reducible refine isStore ?_); first | refine aSt ?_) | ((with_reducible refine isBox ?_); first | (refine aBox (fun n_ l_ hl_ => ?_); dsimp only [sS, sZ] at hl_; subst hl_)) | ((with_reducible refine isAlloc ?_); first | (refine aAl (fun n_ l_ hl_ => ?_); dsimp only [sS, sZ] at hl_; subst hl_)) | refine aV ?_ | refine aNo ?_ | refine aNo' ?_ | ((fail_if_success (refine aIsT ?_)); (fail_if_success (refine aIsF ?_)); refine seqS_guard rfl rfl rfl (fun l_ hl_ h_ => ?_) (fun l_ hl_ h_ => ?_) <;> (dsimp only [sS, sZ] at hl_; subst hl_; (try (simp only [beq_iff_eq, bne_iff_ne, beq_eq_false_iff_ne, bne_eq_false_iff_eq, ne_eq, decide_eq_true_eq, decide_eq_false_iff_not, Bool.and_eq_true, Bool.or_eq_true, Bool.and_eq_false_iff, Bool.or_eq_false_iff, Bool.not_eq_true', Bool.not_eq_false', Bool.false_eq_true, Bool.true_eq_false, reduceCtorEq] at h_)); (try (first | (with_reducible contradiction) | (exfalso; omega)))))) | ((with_reducible refine isWp ?_); first | (refine wpS_seq (fun K_ hK_ => ?_)) | (refine wpS_region ?_) | (refine wpS_cond rfl (fun h_ => ?_) (fun h_ => ?_) <;> (try (simp only [beq_iff_eq, bne_iff_ne, beq_eq_false_iff_ne, bne_eq_false_iff_eq, ne_eq, decide_eq_true_eq, decide_eq_false_iff_not, Bool.and_eq_true, Bool.or_eq_true, Bool.and_eq_false_iff, Bool.or_eq_false_iff, Bool.false_eq_true, Bool.true_eq_false, reduceCtorEq] at h_)) <;> (try (first | (with_reducible contradiction) | (exfalso; omega)))) | (refine wpS_block ?_) | (refine wpS_ret ?_; (try simp only [thenS, blockS])) | (refine wpS_exit ?_; simp only [thenS, blockS, ↓reduceIte, Nat.reduceEqDiff]) | (refine wpS_skip ?_; (try simp only [thenS, blockS]))) | (refine useK (by with_reducible assumption) ?_)))
  (first | refine r1_ Tryz.results13 (fun w_ hs_ => ?_) | refine r2_ Tryz.results13 (fun w_ hs_ => ?_) | refine r3_ Tryz.results13 (fun w_ hs_ => ?_) | refine retS0 Tryz.results13 (fun w_ hs_ => ?_) | refine retN0 Tryz.results13 (fun w_ hs_ => ?_))
  exact ⟨rfl, hs_.all _ (by first | ((repeat (first | exact .head _ | apply List.Mem.tail)); done) | fail), hs_.mod⟩
set_option maxHeartbeats 4000000 in
theorem reply_any (a : Int) (p : Pkt) (v : Value) (hr : ∀ w', Mod [P] w w' → Structs enOpt 2 w' v p.opts) (hg : great05 p = false) (hsrc : 0 ≤ p.src ∧ p.src ≤ 4294967295)
    (hn : n ≤ 9223372036854775807) (hid : 0 ≤ id ∧ id ≤ 65535) (h : (og P n room id).holds w) : Calls Tryz.prog 16 #[ptr0 P, .int .u32 a, pv p v] w fun e w' =>
    e = .returned (.tuple #[pv (replyOf n id a p).p nilS, .int .i64 (replyOf n id a p).e]) ∧ (og P (replyOf n id a p).n room (replyOf n id a p).id).holds w' ∧ Mod (og P n room id).foot w w' := by
  obtain ⟨hgo, hd⟩ := great05_not hg
  have HP : Hid (∀ w', Calls Tryz.prog 32 #[.string p.data] w' fun e w'' => e = .returned (ntVal (ntParse p.data.data.toList)) ∧ Mod [] w' w'') := Lib.hid fun w' => by
    have := ntParse_any p.data.data.toList (by simp; omega) w'
    rwa [strOf_self] at this
  have HR : Hid (∀ w', Mod (og P n room id).foot w w' → Calls Tryz.prog 47 #[pv p v] w' fun e w'' => e = .returned (.bool (pkRight p)) ∧ Mod [] w' w'') := Lib.hid fun w' hm => hRight_any p v w' (hr w' (by rw [og_foot] at hm; exact hm)) hgo (by omega)
  have HW := Lib.hid (fun w' => whole_any p v w')
  have HK := Lib.hid (fun w' => addrKind_any p.src hsrc w')
  have hrm : replyMsg p = if pkRight p = true ∧ p.off = 0 ∧ p.mf = false ∧ kindOf p.src = 4 ∧ p.proto = 1 then
    (match ntParse p.data.data.toList with
      | .inl n => if n.ty = 8 then .inl { n with ty := 0 } else .inr 12
      | .inr _ => .inr 12) else .inr 12 := rfl
  by_cases hgd : (∃ m, ntParse p.data.data.toList = .inl m ∧ m.ty = 8) ∧ pkRight p = true ∧ p.off = 0 ∧ p.mf = false ∧ kindOf p.src = 4 ∧ p.proto = 1
  · obtain ⟨⟨m, hm, h8⟩, hgd⟩ := hgd
    obtain ⟨g1, g2, g3, g4, g5⟩ := hgd
    rw [if_pos ⟨g1, g2, g3, g4, g5⟩, hm] at hrm
    simp only [if_pos h8] at hrm
    rw [show replyOf n id a p = sayOf n id a p.src { m with ty := 0 } from by unfold replyOf; rw [hrm]; rfl]
    have HE : Hid (∀ w', Calls Tryz.prog 46 #[nv m] w' fun e w'' => e = .returned (.tuple #[nv { m with ty := 0 }, .bool true]) ∧ Mod [] w' w'') := Lib.hid fun w' => by
      have := ntEcho_any m w'
      rwa [show ntEcho m = ({ m with ty := 0 }, true) from if_pos h8] at this
    have hmr : ntRight { m with ty := 0 } = true ∧ 0 ≤ m.word ∧ m.word ≤ 4294967295 := parse_right hm (by have := (pkRight_iff.1 g1).all; have := allSize_rng p.opts (pkRight_iff.1 g1).opts; rw [Array.length_toList, ByteArray.size_data]; omega)
    have HS : Hid (∀ w', (og P n room id).holds w' → Calls Tryz.prog 44 #[ptr0 P, .int .u32 a, .int .u32 p.src, nv { m with ty := 0 }] w' fun e w'' =>
      e = .returned (.tuple #[pv (sayOf n id a p.src { m with ty := 0 }).p nilS, .int .i64 (sayOf n id a p.src { m with ty := 0 }).e]) ∧ (og P (sayOf n id a p.src { m with ty := 0 }).n room (sayOf n id a p.src { m with ty := 0 }).id).holds w'' ∧ Mod (og P n room id).foot w' w'') := Lib.hid fun w' h' =>
      say_any a p.src _ hmr.1 hmr.2 hn hid h'
    rw [hm] at HP
    rw [g1] at HR
    rw [show (p.off == 0 && !p.mf) = true from by rw [g2, g3]; rfl] at HW
    rw [g4] at HK
    generalize sayOf n id a p.src { m with ty := 0 } = R at HS ⊢
    clear hrm hmr hm
    (refine enterS ([og P n room id]) ((Sep.one h (fun _ h => h))) Tryz.func16 rfl ?_; simp only [Tryz.ntmps16, List.size_toArray, List.length_cons, List.length_nil, Nat.reduceAdd, Nat.reduceSub, Array.replicate_succ, Array.replicate_zero, List.push_toArray, List.append_toArray, List.nil_append, List.cons_append])
    (repeat' (first | ((with_reducible refine isOps ?_); first | (refine seqS_nil ?_; (try simp only [thenS, blockS])) | ((first | ((with_reducible refine isCallF ?_); refine aCF ?_) | ((with_reducible refine isCallV ?_); refine aCV ?_)); first | refine cS0 (fun w_ hs_ => HP.out _) ?_ | refine cS0 (fun w_ hs_ => HE.out _) ?_ | refine cS0 (fun w_ hs_ => HR.out _ hs_.mod) ?_ | refine cS0 (fun w_ hs_ => HW.out _) ?_ | refine cS0 (fun w_ hs_ => HK.out _) ?_ | (refine cSE (hc := fun w_ hs_ hr_ => og_calls (HS.out _ hr_)) (h := fun i_ l_ hl_ => ?_); dsimp only [sS, sZ] at hl_; subst hl_)) | ((with_reducible refine isStore ?_); first | refine aSt ?_) | ((with_reducible refine isBox ?_); first | (refine aBox (fun n_ l_ hl_ => ?_); dsimp only [sS, sZ] at hl_; subst hl_)) | ((with_reducible refine isAlloc ?_); first | (refine aAl (fun n_ l_ hl_ => ?_); dsimp only [sS, sZ] at hl_; subst hl_)) | refine aV ?_ | refine aNo ?_ | refine aNo' ?_ | ((fail_if_success (refine aIsT ?_)); (fail_if_success (refine aIsF ?_)); refine seqS_guard rfl rfl rfl (fun l_ hl_ h_ => ?_) (fun l_ hl_ h_ => ?_) <;> (dsimp only [sS, sZ] at hl_; subst hl_; (try (simp only [beq_iff_eq, bne_iff_ne, beq_eq_false_iff_ne, bne_eq_false_iff_eq, ne_eq, decide_eq_true_eq, decide_eq_false_iff_not, Bool.and_eq_true, Bool.or_eq_true, Bool.and_eq_false_iff, Bool.or_eq_false_iff, Bool.not_eq_true', Bool.not_eq_false', Bool.false_eq_true, Bool.true_eq_false, reduceCtorEq] at h_)); (try (first | (with_reducible contradiction) | (exfalso; omega)))))) | ((with_reducible refine isWp ?_); first | (refine wpS_seq (fun K_ hK_ => ?_)) | (refine wpS_region ?_) | (refine wpS_cond rfl (fun h_ => ?_) (fun h_ => ?_) <;> (try (simp only [beq_iff_eq, bne_iff_ne, beq_eq_false_iff_ne, bne_eq_false_iff_eq, ne_eq, decide_eq_true_eq, decide_eq_false_iff_not, Bool.and_eq_true, Bool.or_eq_true, Bool.and_eq_false_iff, Bool.or_eq_false_iff, Bool.false_eq_true, Bool.true_eq_false, reduceCtorEq] at h_)) <;> (try (first | (with_reducible contradiction) | (exfalso; omega)))) | (refine wpS_block ?_) | (refine wpS_ret ?_; (try simp only [thenS, blockS])) | (refine wpS_exit ?_; simp only [thenS, blockS, ↓reduceIte, Nat.reduceEqDiff]) | (refine wpS_skip ?_; (try simp only [thenS, blockS]))) | (refine useK (by with_reducible assumption) ?_)))
    (first | refine r1_ Tryz.results16 (fun w_ hs_ => ?_) | refine r2_ Tryz.results16 (fun w_ hs_ => ?_) | refine r3_ Tryz.results16 (fun w_ hs_ => ?_) | refine retS0 Tryz.results16 (fun w_ hs_ => ?_) | refine retN0 Tryz.results16 (fun w_ hs_ => ?_))
    exact ⟨rfl, hs_.all _ (by first | ((repeat (first | exact .head _ | apply List.Mem.tail)); done) | fail), hs_.mod⟩
  · have hre : replyOf n id a p = ⟨n, id, noPkt, 12⟩ := by
      unfold replyOf
      rw [hrm]
      split
      · rename_i hc
        cases hq : ntParse p.data.data.toList with
        | inl m =>
          simp only
          by_cases h8 : m.ty = 8
          · exact absurd ⟨⟨m, hq, h8⟩, hc⟩ hgd
          · rw [if_neg h8]; rfl
        | inr x => rfl
      · rfl
    rw [hre]
    clear hrm hre
    rcases hq : ntParse p.data.data.toList with m | x
    · rw [hq] at HP
      have HE := Lib.hid (fun w' => ntEcho_any m w')
      by_cases h8 : m.ty = 8
      · rw [show ntEcho m = ({ m with ty := 0 }, true) from if_pos h8] at HE
        have hgd2 : ¬ (pkRight p = true ∧ (p.off == 0 && !p.mf) = true ∧ kindOf p.src = 4 ∧ p.proto = 1) := fun hc => hgd ⟨⟨m, hq, h8⟩, hc.1, by
          have := hc.2.1
          simp only [Bool.and_eq_true, beq_iff_eq, Bool.not_eq_true'] at this
          exact ⟨this.1, this.2, hc.2.2⟩⟩
        clear hgd
        generalize (p.off == 0 && !p.mf) = W at HW hgd2
        generalize pkRight p = R at HR hgd2
        generalize kindOf p.src = K at HK hgd2
        (refine enterS ([og P n room id]) ((Sep.one h (fun _ h => h))) Tryz.func16 rfl ?_; simp only [Tryz.ntmps16, List.size_toArray, List.length_cons, List.length_nil, Nat.reduceAdd, Nat.reduceSub, Array.replicate_succ, Array.replicate_zero, List.push_toArray, List.append_toArray, List.nil_append, List.cons_append])
        (repeat' (first | ((with_reducible refine isOps ?_); first | (refine seqS_nil ?_; (try simp only [thenS, blockS])) | ((first | ((with_reducible refine isCallF ?_); refine aCF ?_) | ((with_reducible refine isCallV ?_); refine aCV ?_)); first | refine cS0 (fun w_ hs_ => HP.out _) ?_ | refine cS0 (fun w_ hs_ => HE.out _) ?_ | refine cS0 (fun w_ hs_ => HR.out _ hs_.mod) ?_ | refine cS0 (fun w_ hs_ => HW.out _) ?_ | refine cS0 (fun w_ hs_ => HK.out _) ?_) | ((with_reducible refine isStore ?_); first | refine aSt ?_) | ((with_reducible refine isBox ?_); first | (refine aBox (fun n_ l_ hl_ => ?_); dsimp only [sS, sZ] at hl_; subst hl_)) | ((with_reducible refine isAlloc ?_); first | (refine aAl (fun n_ l_ hl_ => ?_); dsimp only [sS, sZ] at hl_; subst hl_)) | refine aV ?_ | refine aNo ?_ | refine aNo' ?_ | ((fail_if_success (refine aIsT ?_)); (fail_if_success (refine aIsF ?_)); refine seqS_guard rfl rfl rfl (fun l_ hl_ h_ => ?_) (fun l_ hl_ h_ => ?_) <;> (dsimp only [sS, sZ] at hl_; subst hl_; (try (simp only [beq_iff_eq, bne_iff_ne, beq_eq_false_iff_ne, bne_eq_false_iff_eq, ne_eq, decide_eq_true_eq, decide_eq_false_iff_not, Bool.and_eq_true, Bool.or_eq_true, Bool.and_eq_false_iff, Bool.or_eq_false_iff, Bool.not_eq_true', Bool.not_eq_false', Bool.false_eq_true, Bool.true_eq_false, reduceCtorEq] at h_)); (try (first | (with_reducible contradiction) | (exfalso; omega)))))) | ((with_reducible refine isWp ?_); first | (refine wpS_seq (fun K_ hK_ => ?_)) | (refine wpS_region ?_) | (refine wpS_cond rfl (fun h_ => ?_) (fun h_ => ?_) <;> (try (simp only [beq_iff_eq, bne_iff_ne, beq_eq_false_iff_ne, bne_eq_false_iff_eq, ne_eq, decide_eq_true_eq, decide_eq_false_iff_not, Bool.and_eq_true, Bool.or_eq_true, Bool.and_eq_false_iff, Bool.or_eq_false_iff, Bool.false_eq_true, Bool.true_eq_false, reduceCtorEq] at h_)) <;> (try (first | (with_reducible contradiction) | (exfalso; omega)))) | (refine wpS_block ?_) | (refine wpS_ret ?_; (try simp only [thenS, blockS])) | (refine wpS_exit ?_; simp only [thenS, blockS, ↓reduceIte, Nat.reduceEqDiff]) | (refine wpS_skip ?_; (try simp only [thenS, blockS]))) | (refine useK (by with_reducible assumption) ?_)))
        all_goals
          first
            | (exfalso; simp_all; done)
            | ((first | refine r1_ Tryz.results16 (fun w_ hs_ => ?_) | refine r2_ Tryz.results16 (fun w_ hs_ => ?_) | refine r3_ Tryz.results16 (fun w_ hs_ => ?_) | refine retS0 Tryz.results16 (fun w_ hs_ => ?_) | refine retN0 Tryz.results16 (fun w_ hs_ => ?_))
               exact ⟨rfl, hs_.all _ (by first | ((repeat (first | exact .head _ | apply List.Mem.tail)); done) | fail), hs_.mod⟩)
      · rw [show ntEcho m = (noNtc, false) from if_neg h8] at HE
        (refine enterS ([og P n room id]) ((Sep.one h (fun _ h => h))) Tryz.func16 rfl ?_; simp only [Tryz.ntmps16, List.size_toArray, List.length_cons, List.length_nil, Nat.reduceAdd, Nat.reduceSub, Array.replicate_succ, Array.replicate_zero, List.push_toArray, List.append_toArray, List.nil_append, List.cons_append])
        (repeat' (first | ((with_reducible refine isOps ?_); first | (refine seqS_nil ?_; (try simp only [thenS, blockS])) | ((first | ((with_reducible refine isCallF ?_); refine aCF ?_) | ((with_reducible refine isCallV ?_); refine aCV ?_)); first | refine cS0 (fun w_ hs_ => HP.out _) ?_ | refine cS0 (fun w_ hs_ => HE.out _) ?_ | refine cS0 (fun w_ hs_ => HR.out _ hs_.mod) ?_ | refine cS0 (fun w_ hs_ => HW.out _) ?_ | refine cS0 (fun w_ hs_ => HK.out _) ?_) | ((with_reducible refine isStore ?_); first | refine aSt ?_) | ((with_reducible refine isBox ?_); first | (refine aBox (fun n_ l_ hl_ => ?_); dsimp only [sS, sZ] at hl_; subst hl_)) | ((with_reducible refine isAlloc ?_); first | (refine aAl (fun n_ l_ hl_ => ?_); dsimp only [sS, sZ] at hl_; subst hl_)) | refine aV ?_ | refine aNo ?_ | refine aNo' ?_ | ((fail_if_success (refine aIsT ?_)); (fail_if_success (refine aIsF ?_)); refine seqS_guard rfl rfl rfl (fun l_ hl_ h_ => ?_) (fun l_ hl_ h_ => ?_) <;> (dsimp only [sS, sZ] at hl_; subst hl_; (try (simp only [beq_iff_eq, bne_iff_ne, beq_eq_false_iff_ne, bne_eq_false_iff_eq, ne_eq, decide_eq_true_eq, decide_eq_false_iff_not, Bool.and_eq_true, Bool.or_eq_true, Bool.and_eq_false_iff, Bool.or_eq_false_iff, Bool.not_eq_true', Bool.not_eq_false', Bool.false_eq_true, Bool.true_eq_false, reduceCtorEq] at h_)); (try (first | (with_reducible contradiction) | (exfalso; omega)))))) | ((with_reducible refine isWp ?_); first | (refine wpS_seq (fun K_ hK_ => ?_)) | (refine wpS_region ?_) | (refine wpS_cond rfl (fun h_ => ?_) (fun h_ => ?_) <;> (try (simp only [beq_iff_eq, bne_iff_ne, beq_eq_false_iff_ne, bne_eq_false_iff_eq, ne_eq, decide_eq_true_eq, decide_eq_false_iff_not, Bool.and_eq_true, Bool.or_eq_true, Bool.and_eq_false_iff, Bool.or_eq_false_iff, Bool.false_eq_true, Bool.true_eq_false, reduceCtorEq] at h_)) <;> (try (first | (with_reducible contradiction) | (exfalso; omega)))) | (refine wpS_block ?_) | (refine wpS_ret ?_; (try simp only [thenS, blockS])) | (refine wpS_exit ?_; simp only [thenS, blockS, ↓reduceIte, Nat.reduceEqDiff]) | (refine wpS_skip ?_; (try simp only [thenS, blockS]))) | (refine useK (by with_reducible assumption) ?_)))
        all_goals
          first
            | (exfalso; simp_all; done)
            | ((first | refine r1_ Tryz.results16 (fun w_ hs_ => ?_) | refine r2_ Tryz.results16 (fun w_ hs_ => ?_) | refine r3_ Tryz.results16 (fun w_ hs_ => ?_) | refine retS0 Tryz.results16 (fun w_ hs_ => ?_) | refine retN0 Tryz.results16 (fun w_ hs_ => ?_))
               exact ⟨rfl, hs_.all _ (by first | ((repeat (first | exact .head _ | apply List.Mem.tail)); done) | fail), hs_.mod⟩)
    · rw [hq] at HP
      have hx : x = 2 ∨ x = 4 := nt_inr hq
      have HE : Hid (∀ w', Calls Tryz.prog 46 #[nv noNtc] w' fun e w'' => e = .returned (.tuple #[nv noNtc, .bool false]) ∧ Mod [] w' w'') := Lib.hid fun w' => by
        have := ntEcho_any noNtc w'
        rwa [show ntEcho noNtc = (noNtc, false) from if_neg (by decide)] at this
      (refine enterS ([og P n room id]) ((Sep.one h (fun _ h => h))) Tryz.func16 rfl ?_; simp only [Tryz.ntmps16, List.size_toArray, List.length_cons, List.length_nil, Nat.reduceAdd, Nat.reduceSub, Array.replicate_succ, Array.replicate_zero, List.push_toArray, List.append_toArray, List.nil_append, List.cons_append])
      (repeat' (first | ((with_reducible refine isOps ?_); first | (refine seqS_nil ?_; (try simp only [thenS, blockS])) | ((first | ((with_reducible refine isCallF ?_); refine aCF ?_) | ((with_reducible refine isCallV ?_); refine aCV ?_)); first | refine cS0 (fun w_ hs_ => HP.out _) ?_ | refine cS0 (fun w_ hs_ => HE.out _) ?_ | refine cS0 (fun w_ hs_ => HR.out _ hs_.mod) ?_ | refine cS0 (fun w_ hs_ => HW.out _) ?_ | refine cS0 (fun w_ hs_ => HK.out _) ?_) | ((with_reducible refine isStore ?_); first | refine aSt ?_) | ((with_reducible refine isBox ?_); first | (refine aBox (fun n_ l_ hl_ => ?_); dsimp only [sS, sZ] at hl_; subst hl_)) | ((with_reducible refine isAlloc ?_); first | (refine aAl (fun n_ l_ hl_ => ?_); dsimp only [sS, sZ] at hl_; subst hl_)) | refine aV ?_ | refine aNo ?_ | refine aNo' ?_ | ((fail_if_success (refine aIsT ?_)); (fail_if_success (refine aIsF ?_)); refine seqS_guard rfl rfl rfl (fun l_ hl_ h_ => ?_) (fun l_ hl_ h_ => ?_) <;> (dsimp only [sS, sZ] at hl_; subst hl_; (try (simp only [beq_iff_eq, bne_iff_ne, beq_eq_false_iff_ne, bne_eq_false_iff_eq, ne_eq, decide_eq_true_eq, decide_eq_false_iff_not, Bool.and_eq_true, Bool.or_eq_true, Bool.and_eq_false_iff, Bool.or_eq_false_iff, Bool.not_eq_true', Bool.not_eq_false', Bool.false_eq_true, Bool.true_eq_false, reduceCtorEq] at h_)); (try (first | (with_reducible contradiction) | (exfalso; omega)))))) | ((with_reducible refine isWp ?_); first | (refine wpS_seq (fun K_ hK_ => ?_)) | (refine wpS_region ?_) | (refine wpS_cond rfl (fun h_ => ?_) (fun h_ => ?_) <;> (try (simp only [beq_iff_eq, bne_iff_ne, beq_eq_false_iff_ne, bne_eq_false_iff_eq, ne_eq, decide_eq_true_eq, decide_eq_false_iff_not, Bool.and_eq_true, Bool.or_eq_true, Bool.and_eq_false_iff, Bool.or_eq_false_iff, Bool.false_eq_true, Bool.true_eq_false, reduceCtorEq] at h_)) <;> (try (first | (with_reducible contradiction) | (exfalso; omega)))) | (refine wpS_block ?_) | (refine wpS_ret ?_; (try simp only [thenS, blockS])) | (refine wpS_exit ?_; simp only [thenS, blockS, ↓reduceIte, Nat.reduceEqDiff]) | (refine wpS_skip ?_; (try simp only [thenS, blockS]))) | (refine useK (by with_reducible assumption) ?_)))
      all_goals
        first
          | (exfalso; simp_all; done)
          | ((first | refine r1_ Tryz.results16 (fun w_ hs_ => ?_) | refine r2_ Tryz.results16 (fun w_ hs_ => ?_) | refine r3_ Tryz.results16 (fun w_ hs_ => ?_) | refine retS0 Tryz.results16 (fun w_ hs_ => ?_) | refine retN0 Tryz.results16 (fun w_ hs_ => ?_))
             exact ⟨rfl, hs_.all _ (by first | ((repeat (first | exact .head _ | apply List.Mem.tail)); done) | fail), hs_.mod⟩)
end
end Go.Proofs.YtmcaigmpcbkfpaaGreat

