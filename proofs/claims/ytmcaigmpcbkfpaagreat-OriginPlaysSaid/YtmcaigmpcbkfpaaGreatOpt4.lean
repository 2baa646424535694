/- The document's bytes of options, and its example. -/
import Derived.Test.YtmcaigmpcbkfpaaGreatOpt3
set_option linter.unusedVariables false
set_option linter.unusedSimpArgs false
namespace Go.Proofs.YtmcaigmpcbkfpaaGreat
set_option maxRecDepth 8000
attribute [local irreducible] blk wpS seqS ordS OpVal RV endS LoadV StoreV Calls
open Go.RowKit
theorem open_opt {H : Type} {enc : TypeId × Value → H} {w : World} (n : Nat) (cs : List Value) (y : DataW H × List MemPlace) (hl : cs.length = 2)
    (h : DataW.trod enc Tryz.prog w 0 (fun _ => true) true n 140 cs = some y) : ∃ x : Opt, cs = enOpt x ∧ ((Lit.int .i64 x.1).wf = true ∧ x.2.size ≤ maxLen) := by
  obtain ⟨m, hf⟩ := open_fields Tryz.underlying140 (by kernel_rfl) hl h
  match cs, hl with
  | [c0, c1], _ =>
    obtain ⟨v0, y0, e0, h0⟩ := hf 0 _ rfl
    obtain ⟨v1, y1, e1, h1⟩ := hf 1 _ rfl
    obtain ⟨a, ha, _, wa⟩ := DataW.trod_int Tryz.underlying3 h0
    obtain ⟨b, hb, _, wb⟩ := DataW.trod_string Tryz.underlying9 h1
    simp at ha hb e0 e1
    subst ha; subst hb; subst e0; subst e1
    exact ⟨(a, b), rfl, wa, wb⟩
def strLen : Value → Nat
  | .string s => s.size
  | _ => 0
/-- A slice that was built of structs. -/
theorem Structs.ofBlk {α : Type} {en : α → List Value} {sz : Nat} {w : World} {b : Nat} {t : TypeId} (l : List α) (h : ∀ x ∈ l, (en x).length = sz) (hb : Blk w b (l.flatMap en) t) (hn : l.length ≤ 1000) : Structs en sz w (.slice (some ⟨b, 0, none⟩) l.length l.length) l := by
  refine ⟨_, _, rfl, by omega, Nat.le_refl _, by simp, fun i hi j x hx => ⟨b, 0, rfl, ?_⟩⟩
  rw [hb.cell]
  have key : ∀ (l : List α) (i : Nat) (hi : i < l.length), (∀ x ∈ l, (en x).length = sz) → ∀ j x, (en l[i])[j]? = some x → (l.flatMap en)[i * sz + j]? = some x := by
    intro l
    induction l with
    | nil => intro i hi; simp at hi
    | cons a l ih =>
      intro i hi hall j x hx
      have ha := hall a (by simp)
      cases i with
      | zero =>
        have hj := (List.getElem?_eq_some_iff.1 hx).1
        simp only [List.getElem_cons_zero] at hx hj
        rw [Nat.zero_mul, Nat.zero_add, List.flatMap_cons, List.getElem?_append_left hj]; exact hx
      | succ i =>
        rw [List.flatMap_cons, List.getElem?_append_right (by rw [ha, Nat.succ_mul]; omega), ha]
        rw [show (i + 1) * sz + j - sz = i * sz + j from by rw [Nat.succ_mul]; omega]
        exact ih i (by simpa using hi) (fun x hx => hall x (by simp [hx])) j x (by simpa using hx)
  simpa using key l i hi h j x hx
set_option maxHeartbeats 4000000 in
theorem refEncode_any (v : Value) (l : List Opt) (w : World) (hr : Structs enOpt 2 w v l) (hg : great l = false) (har : l.all optRight = true) :
    Calls Tryz.prog 77 #[v] w fun e w' => e = .returned (.string (strOf (encBytes l))) ∧ Mod [] w w' := by
  obtain ⟨hl60, h100⟩ := great_not hg
  have hR0 := fun k hk => rawSize_rng l k hk h100
  have hRl := hR0 l.length (Nat.le_refl _)
  rw [List.take_length] at hRl
  have hAl : rawSize l ≤ allSize l ∧ allSize l ≤ rawSize l + 3 := by unfold allSize; omega
  replace hR0 := Lib.hid hR0
  have hle := Lib.hid (opts_len l har)
  obtain ⟨A, cap, rfl⟩ := hr.form
  (refine enterS ([]) (Sep.start _ []) Tryz.func77 rfl ?_; simp only [Tryz.ntmps77, List.size_toArray, List.length_cons, List.length_nil, Nat.reduceAdd, Nat.reduceSub, Array.replicate_succ, Array.replicate_zero, List.push_toArray, List.append_toArray, List.nil_append, List.cons_append])
  (repeat' (first | ((with_reducible refine isOps ?_); first | (refine seqS_nil ?_; (try simp only [thenS, blockS])) | ((with_reducible refine isBuildSlice ?_); first | (refine aBs (fun n_ l_ hl_ => ?_); dsimp only [sS, sZ] at hl_; subst hl_)) | ((with_reducible refine isConvert ?_); first | refine aBy ?_) | refine aV ?_) | ((with_reducible refine isOrd ?_); first | (refine ordS_nil ?_; (try simp only [thenS, blockS, blks, List.map_cons, List.map_nil, List.cons_append, List.nil_append])) | refine oV ?_ | (refine oBs (fun n_ l_ hl_ => ?_); dsimp only [sS, sZ] at hl_; subst hl_) | refine oBy ?_ | refine oLd ?_) | ((with_reducible refine isWp ?_); first | (refine wpS_seq (fun K_ hK_ => ?_)) | (refine wpS_region ?_) | (refine wpS_cond rfl (fun h_ => ?_) (fun h_ => ?_) <;> (try (simp only [beq_iff_eq, bne_iff_ne, beq_eq_false_iff_ne, bne_eq_false_iff_eq, ne_eq, decide_eq_true_eq, decide_eq_false_iff_not, Bool.and_eq_true, Bool.or_eq_true, Bool.and_eq_false_iff, Bool.or_eq_false_iff, Bool.false_eq_true, Bool.true_eq_false, reduceCtorEq] at h_)) <;> (try (first | (with_reducible contradiction) | (exfalso; omega)))) | (refine wpS_block ?_) | (refine wpS_ret ?_; (try simp only [thenS, blockS])) | (refine wpS_exit ?_; simp only [thenS, blockS, ↓reduceIte, Nat.reduceEqDiff]) | (refine wpS_skip ?_; (try simp only [thenS, blockS]))) | ((with_reducible refine isDraw ?_); refine wpS_drawT (by simp only [List.length_cons, List.length_nil, Nat.zero_add, Nat.reduceAdd, List.range'_succ, List.range'_zero]; rfl) (by kernel_rfl) (by kernel_rfl) (fun B_ hB_ hf_ => ?_)) | (refine useK (by with_reducible assumption) ?_)))
  ((with_reducible refine isLoop ?_); refine wpS_loopU [false, false, false, true, true, true, true, true, true, true, true, true, true, true, true, true, true, true, true, true, true, true, true, true, true, true, true, true, true, true, true, true, true, true, true, true, true, true, true, true, true, true, true, true, true, false, false, false, false, false, false, false] (fun u rs_ => ∃ k : Nat, k ≤ l.length ∧ u 4 = .int .i64 k ∧ u 3 = .string (strOf ((l.take k).flatMap optBytes)) ∧ rs_ = []) (fun u => l.length - (intOf (u 4)).toNat) ?_ (fun u rs_ l_ K_ hN_ hl_ hR => ?_))
  · exact ⟨0, Nat.zero_le _, rfl, rfl, rfl⟩
  · (simp only [mask_t, mask_f, mask_n, Nat.reduceAdd] at hl_; subst hl_)
    obtain ⟨k, hk, hu, hu3, rfl⟩ := hR
    rw [hu, hu3]
    have hlk := hle.out k
    have hrk := hR0.out k hk
    by_cases hlt : k < l.length
    · obtain ⟨b, off, rfl, -, HK, HD⟩ := opt_at hr k hlt
      have hop := Lib.hid (opts_snoc l k hlt)
      have hok := h100 k hlt
      have hor := optRight_rng (List.all_eq_true.1 har _ (List.getElem_mem hlt))
      obtain ⟨bs, hbs⟩ : ∃ x, x = (l.take k).flatMap optBytes := ⟨_, rfl⟩
      rw [← hbs] at hlk hop ⊢
      clear hbs
      (repeat' (first | ((with_reducible refine isOps ?_); first | (refine seqS_nil ?_; (try simp only [thenS, blockS])) | ((with_reducible refine isBuildSlice ?_); first | (refine aBs (fun n_ l_ hl_ => ?_); dsimp only [sS, sZ] at hl_; subst hl_)) | ((with_reducible refine isConvert ?_); first | refine aBy ?_) | refine aVh (opv_bin rfl rfl (fun w_ hs_ => by (first | exact HK.out _ hs_.mod | exact HD.out _ hs_.mod))) ?_ | refine aV ?_ | refine aVh (opv_loadO rfl (fun w_ hs_ => by (first | exact HK.out _ hs_.mod | exact HD.out _ hs_.mod))) ?_) | ((with_reducible refine isOrd ?_); first | (refine ordS_nil ?_; (try simp only [thenS, blockS, blks, List.map_cons, List.map_nil, List.cons_append, List.nil_append])) | (refine oAt rfl ?_; refine oVh (opv_bin rfl rfl (fun w_ hs_ => by (first | exact HK.out _ hs_.mod | exact HD.out _ hs_.mod))) ?_) | refine oV ?_ | (refine oAt rfl ?_; refine oVh (opv_loadO rfl (fun w_ hs_ => by (first | exact HK.out _ hs_.mod | exact HD.out _ hs_.mod))) ?_) | (refine oBs (fun n_ l_ hl_ => ?_); dsimp only [sS, sZ] at hl_; subst hl_) | refine oBy ?_ | refine oLd ?_) | ((with_reducible refine isWp ?_); first | (refine wpS_seq (fun K_ hK_ => ?_)) | (refine wpS_region ?_) | (refine wpS_cond rfl (fun h_ => ?_) (fun h_ => ?_) <;> (try (simp only [beq_iff_eq, bne_iff_ne, beq_eq_false_iff_ne, bne_eq_false_iff_eq, ne_eq, decide_eq_true_eq, decide_eq_false_iff_not, Bool.and_eq_true, Bool.or_eq_true, Bool.and_eq_false_iff, Bool.or_eq_false_iff, Bool.false_eq_true, Bool.true_eq_false, reduceCtorEq] at h_)) <;> (try (first | (with_reducible contradiction) | (exfalso; omega)))) | (refine wpS_block ?_) | (refine wpS_ret ?_; (try simp only [thenS, blockS])) | (refine wpS_exit ?_; simp only [thenS, blockS, ↓reduceIte, Nat.reduceEqDiff]) | (refine wpS_skip ?_; (try simp only [thenS, blockS]))) | ((with_reducible refine isDraw ?_); refine wpS_drawT (by simp only [List.length_cons, List.length_nil, Nat.zero_add, Nat.reduceAdd, List.range'_succ, List.range'_zero]; rfl) (by kernel_rfl) (by kernel_rfl) (fun B_ hB_ hf_ => ?_)) | (refine useK (by with_reducible assumption) ?_)))
      · (refine hN_ _ ([]) _ rfl ?_ (by first | ((repeat (first | exact List.Sublist.refl _ | exact List.nil_sublist _ | apply List.Sublist.cons_cons | apply List.Sublist.cons)); done) | fail) ?_ <;> dsimp only [List.getD_cons_succ, List.getD_cons_zero])
        · refine ⟨k + 1, by omega, by go_num, ?_, rfl⟩
          rw [hop.out, optBytes, if_neg (by simpa using h_), optSize, if_neg (by simpa using h_), List.append_cons, List.append_cons, ← strOf_cat, ← strOf_add, ← strOf_add]
          first | rfl | (rw [IntWalk.u8_in _ ⟨by omega, by omega⟩, IntWalk.u8_in _ ⟨by omega, by omega⟩]; rfl)
        · rw [hu]; simp [intOf]; omega
      · (refine hN_ _ ([]) _ rfl ?_ (by first | ((repeat (first | exact List.Sublist.refl _ | exact List.nil_sublist _ | apply List.Sublist.cons_cons | apply List.Sublist.cons)); done) | fail) ?_ <;> dsimp only [List.getD_cons_succ, List.getD_cons_zero])
        · refine ⟨k + 1, by omega, by go_num, ?_, rfl⟩
          rw [hop.out, optBytes, if_pos (by simpa using h_), ← strOf_add]
          first | rfl | (rw [IntWalk.u8_in _ ⟨by omega, by omega⟩]; rfl)
        · rw [hu]; simp [intOf]; omega
    · rw [List.take_of_length_le (by omega)] at hlk ⊢
      have hel := rawSize_all l k (by omega)
      rw [List.take_of_length_le (by omega)] at hel
      (repeat' (first | ((with_reducible refine isOps ?_); first | (refine seqS_nil ?_; (try simp only [thenS, blockS])) | ((with_reducible refine isBuildSlice ?_); first | (refine aBs (fun n_ l_ hl_ => ?_); dsimp only [sS, sZ] at hl_; subst hl_)) | ((with_reducible refine isConvert ?_); first | refine aBy ?_) | refine aV ?_) | ((with_reducible refine isOrd ?_); first | (refine ordS_nil ?_; (try simp only [thenS, blockS, blks, List.map_cons, List.map_nil, List.cons_append, List.nil_append])) | refine oV ?_ | (refine oBs (fun n_ l_ hl_ => ?_); dsimp only [sS, sZ] at hl_; subst hl_) | refine oBy ?_ | refine oLd ?_) | ((with_reducible refine isWp ?_); first | (refine wpS_seq (fun K_ hK_ => ?_)) | (refine wpS_region ?_) | (refine wpS_cond rfl (fun h_ => ?_) (fun h_ => ?_) <;> (try (simp only [beq_iff_eq, bne_iff_ne, beq_eq_false_iff_ne, bne_eq_false_iff_eq, ne_eq, decide_eq_true_eq, decide_eq_false_iff_not, Bool.and_eq_true, Bool.or_eq_true, Bool.and_eq_false_iff, Bool.or_eq_false_iff, Bool.false_eq_true, Bool.true_eq_false, reduceCtorEq] at h_)) <;> (try (first | (with_reducible contradiction) | (exfalso; omega)))) | (refine wpS_block ?_) | (refine wpS_ret ?_; (try simp only [thenS, blockS])) | (refine wpS_exit ?_; simp only [thenS, blockS, ↓reduceIte, Nat.reduceEqDiff]) | (refine wpS_skip ?_; (try simp only [thenS, blockS]))) | ((with_reducible refine isDraw ?_); refine wpS_drawT (by simp only [List.length_cons, List.length_nil, Nat.zero_add, Nat.reduceAdd, List.range'_succ, List.range'_zero]; rfl) (by kernel_rfl) (by kernel_rfl) (fun B_ hB_ hf_ => ?_)) | (refine useK (by with_reducible assumption) ?_)))
      ((with_reducible refine isLoop ?_); refine wpS_loopU [false, false, false, true, false, false, false, false, false, false, false, false, false, false, false, false, false, false, false, false, false, false, false, false, false, false, false, false, false, false, false, false, false, false, false, false, false, false, false, false, false, false, false, false, false, true, true, true, true, true, true, false] (fun u rs_ => ∃ j : Nat, rawSize l + j ≤ allSize l ∧ u 3 = .string (strOf (l.flatMap optBytes ++ List.replicate j 0)) ∧ rs_ = []) (fun u => (allSize l - strLen (u 3)).toNat) ?_ (fun u rs_ l_ K_ hN_ hl_ hR => ?_))
      · exact ⟨0, by omega, by simp, rfl⟩
      · (simp only [mask_t, mask_f, mask_n, Nat.reduceAdd] at hl_; subst hl_)
        obtain ⟨j, hj, hu3, rfl⟩ := hR
        rw [hu3]
        have hsz : ((strOf (l.flatMap optBytes ++ List.replicate j (0 : UInt8))).size : Int) = rawSize l + j := by
          simp only [ByteArray.size, List.size_toArray, List.length_append, List.length_replicate]; omega
        have hrep := Lib.hid (show strOf (l.flatMap optBytes ++ List.replicate j (0 : UInt8)) ++ ⟨#[0]⟩ = strOf (l.flatMap optBytes ++ List.replicate (j + 1) 0) from by
          rw [strOf_cat, List.replicate_succ', List.append_assoc])
        have hsz2 := Lib.hid (show ((strOf (l.flatMap optBytes ++ List.replicate (j + 1) (0 : UInt8))).size : Int) = rawSize l + (j + 1) from by
          simp only [ByteArray.size, List.size_toArray, List.length_append, List.length_replicate]; omega)
        have hel2 := Lib.hid (show encBytes l = l.flatMap optBytes ++ List.replicate (allSize l - rawSize l).toNat 0 from rfl)
        have hal := Lib.hid (show allSize l = (rawSize l + 3) / 4 * 4 from rfl)
        obtain ⟨s, hs⟩ : ∃ x, x = strOf (l.flatMap optBytes ++ List.replicate j (0 : UInt8)) := ⟨_, rfl⟩
        rw [← hs] at hsz hrep ⊢
        replace hs := Lib.hid hs
        (repeat' (first | ((with_reducible refine isOps ?_); first | (refine seqS_nil ?_; (try simp only [thenS, blockS])) | ((with_reducible refine isBuildSlice ?_); first | (refine aBs (fun n_ l_ hl_ => ?_); dsimp only [sS, sZ] at hl_; subst hl_)) | ((with_reducible refine isConvert ?_); first | refine aBy ?_) | refine aV ?_) | ((with_reducible refine isOrd ?_); first | (refine ordS_nil ?_; (try simp only [thenS, blockS, blks, List.map_cons, List.map_nil, List.cons_append, List.nil_append])) | refine oV ?_ | (refine oBs (fun n_ l_ hl_ => ?_); dsimp only [sS, sZ] at hl_; subst hl_) | refine oBy ?_ | refine oLd ?_) | ((with_reducible refine isWp ?_); first | (refine wpS_seq (fun K_ hK_ => ?_)) | (refine wpS_region ?_) | (refine wpS_cond rfl (fun h_ => ?_) (fun h_ => ?_) <;> (try (simp only [beq_iff_eq, bne_iff_ne, beq_eq_false_iff_ne, bne_eq_false_iff_eq, ne_eq, decide_eq_true_eq, decide_eq_false_iff_not, Bool.and_eq_true, Bool.or_eq_true, Bool.and_eq_false_iff, Bool.or_eq_false_iff, Bool.false_eq_true, Bool.true_eq_false, reduceCtorEq] at h_)) <;> (try (first | (with_reducible contradiction) | (exfalso; omega)))) | (refine wpS_block ?_) | (refine wpS_ret ?_; (try simp only [thenS, blockS])) | (refine wpS_exit ?_; simp only [thenS, blockS, ↓reduceIte, Nat.reduceEqDiff]) | (refine wpS_skip ?_; (try simp only [thenS, blockS]))) | ((with_reducible refine isDraw ?_); refine wpS_drawT (by simp only [List.length_cons, List.length_nil, Nat.zero_add, Nat.reduceAdd, List.range'_succ, List.range'_zero]; rfl) (by kernel_rfl) (by kernel_rfl) (fun B_ hB_ hf_ => ?_)) | (refine useK (by with_reducible assumption) ?_)))
        · (refine hN_ _ ([]) _ rfl ?_ (by first | ((repeat (first | exact List.Sublist.refl _ | exact List.nil_sublist _ | apply List.Sublist.cons_cons | apply List.Sublist.cons)); done) | fail) ?_ <;> dsimp only [List.getD_cons_succ, List.getD_cons_zero])
          · refine ⟨j + 1, ?_, by rw [← hrep.out]; rfl, rfl⟩
            have := hal.out; omega
          · rw [hu3]
            show (allSize l - ((s ++ ⟨#[0]⟩ : ByteArray).size : Int)).toNat < (allSize l - ((strOf (l.flatMap optBytes ++ List.replicate j (0 : UInt8))).size : Int)).toNat
            rw [hrep.out, hsz2.out, ← hs.out, hsz]
            have := hal.out; omega
        · (first | refine r1_ Tryz.results77 (fun w_ hs_ => ?_) | refine r2_ Tryz.results77 (fun w_ hs_ => ?_) | refine r3_ Tryz.results77 (fun w_ hs_ => ?_) | refine retS0 Tryz.results77 (fun w_ hs_ => ?_) | refine retN0 Tryz.results77 (fun w_ hs_ => ?_))
          refine ⟨?_, hs_.mod⟩
          have := hal.out
          rw [hel2.out, hs.out, show (allSize l - rawSize l).toNat = j from by omega]
def exOpts : List Opt := [(1, ⟨#[]⟩), (134, ⟨#[55, 55]⟩)]
end Go.Proofs.YtmcaigmpcbkfpaaGreat
