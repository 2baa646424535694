/- HeaderLowers: P5.3, P5.4: any bytes with a lesser Ttl: read as what they were, but for that. No condition. -/
import Derived.Test.YtdichoibidccoaaHdrL
import Derived.Test.YtdichoibidccoaaHdrA
import Derived.Test.YtdichoibidccoaaHdrB
import Derived.Test.YtdichoibidccoaaHdr5
set_option linter.unusedVariables false
set_option linter.unusedSimpArgs false
namespace Go.Proofs.Ytdichoibidccoaa
set_option maxRecDepth 8000
attribute [local irreducible] blk wpS seqS ordS OpVal RV endS LoadV StoreV Calls
open Go.RowKit
theorem lowBytes_len (l : List UInt8) : (lowBytes l).length = l.length := by
  unfold lowBytes
  split <;> simp
theorem hdrParse_low {l : List UInt8} {p : Pkt} (h : hdrParse l = .inl p) (ht : p.ttl ≠ 0) : hdrParse (lowBytes l) = .inl { p with ttl := p.ttl - 1 } := by
  have h20 : 20 ≤ l.length := by
    rcases Nat.lt_or_ge l.length 20 with h2 | h2
    · rw [hdr_short h2] at h; cases h
    · exact h2
  obtain ⟨a0, a1, a2, a3, a4, a5, a6, a7, a8, a9, a10, a11, a12, a13, a14, a15, a16, a17, a18, a19, r, rfl⟩ := peel20 l h20
  obtain ⟨k, L, hk⟩ := hdrRead_of h
  have hpt : p.ttl = (a8.toNat : Int) := by rw [hk.pkt]
  exact hdrParse_of (hdr_lower hk (by omega))
set_option maxHeartbeats 4000000 in
theorem hdrLowers_any (l : List UInt8) (w : World) (hl : l.length ≤ 140737488351232) : Calls Try.prog 11 #[.string (strOf l)] w fun e w' => e = .returned (.bool true) ∧ Mod [] w w' := by
  have hsz := strOf_size l
  by_cases h3000 : 3000 < l.length
  · have h3 : decide ((3000 : Int) < ((strOf l).size : Int)) = true := decide_eq_true (by omega)
    clear hsz h3000
    generalize strOf l = B at h3 ⊢
    (refine enterS ([]) (Sep.start _ []) Try.func11 rfl ?_; simp only [Try.ntmps11, List.size_toArray, List.length_cons, List.length_nil, Nat.reduceAdd, Nat.reduceSub, Array.replicate_succ, Array.replicate_zero, List.push_toArray, List.append_toArray, List.nil_append, List.cons_append])
    (repeat' (first | ((with_reducible refine isOps ?_); first | (refine seqS_nil ?_; (try simp only [thenS, blockS])) | ((first | ((with_reducible refine isCallF ?_); refine aCF ?_) | ((with_reducible refine isCallV ?_); refine aCV ?_)); first | refine cS0 (fun w_ hs_ => awake05_any _) ?_) | ((with_reducible refine isStore ?_); first | refine aSt ?_) | ((with_reducible refine isAlloc ?_); first | (refine aAl (fun n_ l_ hl_ => ?_); dsimp only [sS, sZ] at hl_; subst hl_)) | refine aV ?_ | refine aNo ?_ | refine aNo' ?_ | ((fail_if_success (refine aIsT ?_)); (fail_if_success (refine aIsF ?_)); refine seqS_guard rfl rfl rfl (fun l_ hl_ h_ => ?_) (fun l_ hl_ h_ => ?_) <;> (dsimp only [sS, sZ] at hl_; subst hl_; (try (simp only [beq_iff_eq, bne_iff_ne, beq_eq_false_iff_ne, bne_eq_false_iff_eq, ne_eq, decide_eq_true_eq, decide_eq_false_iff_not, Bool.and_eq_true, Bool.or_eq_true, Bool.and_eq_false_iff, Bool.or_eq_false_iff, Bool.not_eq_true', Bool.not_eq_false', Bool.false_eq_true, Bool.true_eq_false, reduceCtorEq] at h_)); (try (first | (with_reducible contradiction) | (exfalso; omega)))))) | ((with_reducible refine isWp ?_); first | (refine wpS_seq (fun K_ hK_ => ?_)) | (refine wpS_region ?_) | (refine wpS_cond rfl (fun h_ => ?_) (fun h_ => ?_) <;> (try (simp only [beq_iff_eq, bne_iff_ne, beq_eq_false_iff_ne, bne_eq_false_iff_eq, ne_eq, decide_eq_true_eq, decide_eq_false_iff_not, Bool.and_eq_true, Bool.or_eq_true, Bool.and_eq_false_iff, Bool.or_eq_false_iff, Bool.false_eq_true, Bool.true_eq_false, reduceCtorEq] at h_)) <;> (try (first | (with_reducible contradiction) | (exfalso; omega)))) | (refine wpS_block ?_) | (refine wpS_ret ?_; (try simp only [thenS, blockS])) | (refine wpS_exit ?_; simp only [thenS, blockS, ↓reduceIte, Nat.reduceEqDiff]) | (refine wpS_skip ?_; (try simp only [thenS, blockS]))) | (refine useK (by with_reducible assumption) ?_)))
    (first | refine r1_ Try.results11 (fun w_ hs_ => ?_) | refine r2_ Try.results11 (fun w_ hs_ => ?_) | refine r3_ Try.results11 (fun w_ hs_ => ?_) | refine retS0 Try.results11 (fun w_ hs_ => ?_) | refine retN0 Try.results11 (fun w_ hs_ => ?_))
    exact ⟨rfl, hs_.mod⟩
  have h3 : decide ((3000 : Int) < ((strOf l).size : Int)) = false := decide_eq_false (by omega)
  have h1 := fun w' => hdrLower_any l (by omega) w'
  have h2 := fun w' => refHdrParse_any l (by omega) w'
  unfold lowE at h1
  rcases hR : hdrParse l with P | x
  case inr =>
    have hx := hdrParse_inr hR
    rw [hR] at h1 h2
    replace h1 := Lib.hid h1
    replace h2 := Lib.hid h2
    clear hsz h3000
    generalize strOf l = B at h1 h2 h3 ⊢
    (refine enterS ([]) (Sep.start _ []) Try.func11 rfl ?_; simp only [Try.ntmps11, List.size_toArray, List.length_cons, List.length_nil, Nat.reduceAdd, Nat.reduceSub, Array.replicate_succ, Array.replicate_zero, List.push_toArray, List.append_toArray, List.nil_append, List.cons_append])
    (repeat' (first | ((with_reducible refine isOps ?_); first | (refine seqS_nil ?_; (try simp only [thenS, blockS])) | ((first | ((with_reducible refine isCallF ?_); refine aCF ?_) | ((with_reducible refine isCallV ?_); refine aCV ?_)); first | refine cS0 (fun w_ hs_ => h1.out _) ?_ | refine cS0 (fun w_ hs_ => h2.out _) ?_ | refine cS0 (fun w_ hs_ => awake05_any _) ?_) | ((with_reducible refine isStore ?_); first | refine aSt ?_) | ((with_reducible refine isAlloc ?_); first | (refine aAl (fun n_ l_ hl_ => ?_); dsimp only [sS, sZ] at hl_; subst hl_)) | refine aV ?_ | refine aNo ?_ | refine aNo' ?_ | ((fail_if_success (refine aIsT ?_)); (fail_if_success (refine aIsF ?_)); refine seqS_guard rfl rfl rfl (fun l_ hl_ h_ => ?_) (fun l_ hl_ h_ => ?_) <;> (dsimp only [sS, sZ] at hl_; subst hl_; (try (simp only [beq_iff_eq, bne_iff_ne, beq_eq_false_iff_ne, bne_eq_false_iff_eq, ne_eq, decide_eq_true_eq, decide_eq_false_iff_not, Bool.and_eq_true, Bool.or_eq_true, Bool.and_eq_false_iff, Bool.or_eq_false_iff, Bool.not_eq_true', Bool.not_eq_false', Bool.false_eq_true, Bool.true_eq_false, reduceCtorEq] at h_)); (try (first | (with_reducible contradiction) | (exfalso; omega)))))) | ((with_reducible refine isWp ?_); first | (refine wpS_seq (fun K_ hK_ => ?_)) | (refine wpS_region ?_) | (refine wpS_cond rfl (fun h_ => ?_) (fun h_ => ?_) <;> (try (simp only [beq_iff_eq, bne_iff_ne, beq_eq_false_iff_ne, bne_eq_false_iff_eq, ne_eq, decide_eq_true_eq, decide_eq_false_iff_not, Bool.and_eq_true, Bool.or_eq_true, Bool.and_eq_false_iff, Bool.or_eq_false_iff, Bool.false_eq_true, Bool.true_eq_false, reduceCtorEq] at h_)) <;> (try (first | (with_reducible contradiction) | (exfalso; omega)))) | (refine wpS_block ?_) | (refine wpS_ret ?_; (try simp only [thenS, blockS])) | (refine wpS_exit ?_; simp only [thenS, blockS, ↓reduceIte, Nat.reduceEqDiff]) | (refine wpS_skip ?_; (try simp only [thenS, blockS]))) | (refine useK (by with_reducible assumption) ?_)))
    (first | refine r1_ Try.results11 (fun w_ hs_ => ?_) | refine r2_ Try.results11 (fun w_ hs_ => ?_) | refine r3_ Try.results11 (fun w_ hs_ => ?_) | refine retS0 Try.results11 (fun w_ hs_ => ?_) | refine retN0 Try.results11 (fun w_ hs_ => ?_))
    exact ⟨rfl, hs_.mod⟩
  rw [hR] at h1 h2
  dsimp only at h1
  by_cases ht : P.ttl = 0
  · rw [if_pos ht] at h1
    replace h1 := Lib.hid h1
    replace h2 := Lib.hid h2
    clear hsz h3000
    generalize strOf l = B at h1 h2 h3 ⊢
    (refine enterS ([]) (Sep.start _ []) Try.func11 rfl ?_; simp only [Try.ntmps11, List.size_toArray, List.length_cons, List.length_nil, Nat.reduceAdd, Nat.reduceSub, Array.replicate_succ, Array.replicate_zero, List.push_toArray, List.append_toArray, List.nil_append, List.cons_append])
    (repeat' (first | ((with_reducible refine isOps ?_); first | (refine seqS_nil ?_; (try simp only [thenS, blockS])) | ((first | ((with_reducible refine isCallF ?_); refine aCF ?_) | ((with_reducible refine isCallV ?_); refine aCV ?_)); first | refine cS0 (fun w_ hs_ => h1.out _) ?_ | (refine callS_N (fun w_ hs_ => h2.out _) (fun i_ l_ hl_ => ?_); dsimp only [sS, sZ] at hl_; subst hl_) | refine cS0 (fun w_ hs_ => awake05_any _) ?_) | ((with_reducible refine isStore ?_); first | refine aSt ?_) | ((with_reducible refine isAlloc ?_); first | (refine aAl (fun n_ l_ hl_ => ?_); dsimp only [sS, sZ] at hl_; subst hl_)) | refine aV ?_ | refine aNo ?_ | refine aNo' ?_ | ((fail_if_success (refine aIsT ?_)); (fail_if_success (refine aIsF ?_)); refine seqS_guard rfl rfl rfl (fun l_ hl_ h_ => ?_) (fun l_ hl_ h_ => ?_) <;> (dsimp only [sS, sZ] at hl_; subst hl_; (try (simp only [beq_iff_eq, bne_iff_ne, beq_eq_false_iff_ne, bne_eq_false_iff_eq, ne_eq, decide_eq_true_eq, decide_eq_false_iff_not, Bool.and_eq_true, Bool.or_eq_true, Bool.and_eq_false_iff, Bool.or_eq_false_iff, Bool.not_eq_true', Bool.not_eq_false', Bool.false_eq_true, Bool.true_eq_false, reduceCtorEq] at h_)); (try (first | (with_reducible contradiction) | (exfalso; omega)))))) | ((with_reducible refine isWp ?_); first | (refine wpS_seq (fun K_ hK_ => ?_)) | (refine wpS_region ?_) | (refine wpS_cond rfl (fun h_ => ?_) (fun h_ => ?_) <;> (try (simp only [beq_iff_eq, bne_iff_ne, beq_eq_false_iff_ne, bne_eq_false_iff_eq, ne_eq, decide_eq_true_eq, decide_eq_false_iff_not, Bool.and_eq_true, Bool.or_eq_true, Bool.and_eq_false_iff, Bool.or_eq_false_iff, Bool.false_eq_true, Bool.true_eq_false, reduceCtorEq] at h_)) <;> (try (first | (with_reducible contradiction) | (exfalso; omega)))) | (refine wpS_block ?_) | (refine wpS_ret ?_; (try simp only [thenS, blockS])) | (refine wpS_exit ?_; simp only [thenS, blockS, ↓reduceIte, Nat.reduceEqDiff]) | (refine wpS_skip ?_; (try simp only [thenS, blockS]))) | (refine useK (by with_reducible assumption) ?_)))
    (first | refine r1_ Try.results11 (fun w_ hs_ => ?_) | refine r2_ Try.results11 (fun w_ hs_ => ?_) | refine r3_ Try.results11 (fun w_ hs_ => ?_) | refine retS0 Try.results11 (fun w_ hs_ => ?_) | refine retN0 Try.results11 (fun w_ hs_ => ?_))
    exact ⟨rfl, hs_.mod⟩
  rw [if_neg ht] at h1
  replace h1 := Lib.hid h1
  replace h2 := Lib.hid h2
  have h4 := fun w' => refHdrParse_any (lowBytes l) (by rw [lowBytes_len]; omega) w'
  rw [hdrParse_low hR ht] at h4
  replace h4 := Lib.hid h4
  have hsl : ((strOf (lowBytes l)).size : Int) = ((strOf l).size : Int) := by rw [strOf_size, strOf_size, lowBytes_len]
  have hS : Hid (∀ w' v v', Structs enOpt 2 w' v P.opts → Structs enOpt 2 w' v' P.opts → Calls Try.prog 29 #[pv { P with ttl := P.ttl - 1 } v, pv { P with ttl := P.ttl - 1 } v'] w' fun e w'' => e = .returned (.bool true) ∧ Mod [] w' w'') := Lib.hid fun w' v v' hv hv' => by
    have := refSame05_any { P with ttl := P.ttl - 1 } { P with ttl := P.ttl - 1 } v v' w' hv hv'
    rwa [pkSame_self] at this
  have htr : 1 ≤ P.ttl ∧ P.ttl ≤ 255 := by
    have h20 : 20 ≤ l.length := by
      rcases Nat.lt_or_ge l.length 20 with h2 | h2
      · rw [hdr_short h2] at hR; cases hR
      · exact h2
    obtain ⟨a0, a1, a2, a3, a4, a5, a6, a7, a8, a9, a10, a11, a12, a13, a14, a15, a16, a17, a18, a19, r, rfl⟩ := peel20 l h20
    obtain ⟨k, L, hk⟩ := hdrRead_of hR
    have hpt : P.ttl = (a8.toNat : Int) := by rw [hk.pkt]
    have := a8.toNat_lt
    omega
  clear hsz h3000
  generalize strOf (lowBytes l) = T at h1 h4 hsl
  generalize strOf l = B at h1 h2 h3 hsl ⊢
  (refine enterS ([]) (Sep.start _ []) Try.func11 rfl ?_; simp only [Try.ntmps11, List.size_toArray, List.length_cons, List.length_nil, Nat.reduceAdd, Nat.reduceSub, Array.replicate_succ, Array.replicate_zero, List.push_toArray, List.append_toArray, List.nil_append, List.cons_append])
  (repeat' (first | ((with_reducible refine isOps ?_); first | (refine seqS_nil ?_; (try simp only [thenS, blockS])) | ((first | ((with_reducible refine isCallF ?_); refine aCF ?_) | ((with_reducible refine isCallV ?_); refine aCV ?_)); first | refine cS0 (fun w_ hs_ => h1.out _) ?_ | (refine callS_N (fun w_ hs_ => h2.out _) (fun i_ l_ hl_ => ?_); dsimp only [sS, sZ] at hl_; subst hl_) | (refine callS_N (fun w_ hs_ => h4.out _) (fun i_ l_ hl_ => ?_); dsimp only [sS, sZ] at hl_; subst hl_) | refine cS0 (fun w_ hs_ => hS.out _ _ _ (own_structs (hs_.all (own _ _ _ _ _ _) (by first | ((repeat (first | exact .head _ | apply List.Mem.tail)); done) | fail)) (fun _ _ => rfl)) (own_structs (hs_.all (own _ _ _ _ _ _) (by first | ((repeat (first | exact .head _ | apply List.Mem.tail)); done) | fail)) (fun _ _ => rfl))) ?_ | refine cS0 (fun w_ hs_ => awake05_any _) ?_) | ((with_reducible refine isStore ?_); first | refine aSt ?_) | ((with_reducible refine isAlloc ?_); first | (refine aAl (fun n_ l_ hl_ => ?_); dsimp only [sS, sZ] at hl_; subst hl_)) | refine aV ?_ | refine aNo ?_ | refine aNo' ?_ | ((fail_if_success (refine aIsT ?_)); (fail_if_success (refine aIsF ?_)); refine seqS_guard rfl rfl rfl (fun l_ hl_ h_ => ?_) (fun l_ hl_ h_ => ?_) <;> (dsimp only [sS, sZ] at hl_; subst hl_; (try (simp only [beq_iff_eq, bne_iff_ne, beq_eq_false_iff_ne, bne_eq_false_iff_eq, ne_eq, decide_eq_true_eq, decide_eq_false_iff_not, Bool.and_eq_true, Bool.or_eq_true, Bool.and_eq_false_iff, Bool.or_eq_false_iff, Bool.not_eq_true', Bool.not_eq_false', Bool.false_eq_true, Bool.true_eq_false, reduceCtorEq] at h_)); (try (first | (with_reducible contradiction) | (exfalso; omega)))))) | ((with_reducible refine isWp ?_); first | (refine wpS_seq (fun K_ hK_ => ?_)) | (refine wpS_region ?_) | (refine wpS_cond rfl (fun h_ => ?_) (fun h_ => ?_) <;> (try (simp only [beq_iff_eq, bne_iff_ne, beq_eq_false_iff_ne, bne_eq_false_iff_eq, ne_eq, decide_eq_true_eq, decide_eq_false_iff_not, Bool.and_eq_true, Bool.or_eq_true, Bool.and_eq_false_iff, Bool.or_eq_false_iff, Bool.false_eq_true, Bool.true_eq_false, reduceCtorEq] at h_)) <;> (try (first | (with_reducible contradiction) | (exfalso; omega)))) | (refine wpS_block ?_) | (refine wpS_ret ?_; (try simp only [thenS, blockS])) | (refine wpS_exit ?_; simp only [thenS, blockS, ↓reduceIte, Nat.reduceEqDiff]) | (refine wpS_skip ?_; (try simp only [thenS, blockS]))) | (refine useK (by with_reducible assumption) ?_)))
  (first | refine r1_ Try.results11 (fun w_ hs_ => ?_) | refine r2_ Try.results11 (fun w_ hs_ => ?_) | refine r3_ Try.results11 (fun w_ hs_ => ?_) | refine retS0 Try.results11 (fun w_ hs_ => ?_) | refine retN0 Try.results11 (fun w_ hs_ => ?_))
  exact ⟨by simp [hsl], hs_.mod⟩
theorem hdrLowers_s (s : ByteArray) (w : World) (hl : s.size ≤ 140737488351232) : Calls Try.prog 11 #[.string s] w fun e w' => e = .returned (.bool true) ∧ Mod [] w w' := by
  have := hdrLowers_any s.data.toList w (by simpa using hl)
  rwa [strOf_self] at this
namespace headerLowers
open Go.ChangeShapes Go.WideShapes Go.ChangeAt Go.RowKit
open Go.ChangeMaps (open_string shut_string)
theorem own : ownKnob Try.prog.godebug = none := by kernel_rfl
theorem laidOut : laidOutB Try.prog = true := by kernel_rfl
set_option maxRecDepth 100000 in
theorem lifted (os : Os) (started : os.Started) (H : Type) (enc : TypeId × Value → H) :
    ReturnsInHanded {} Try.checked os 11 .any (Rows.headerLowersSpec.pre6 enc Try.prog Try.f11 Rows.headerLowersRow.domain false) (Rows.headerLowersSpec.post enc Try.prog Try.f11 false true false false) := by
  refine returnsInHanded_of_change_sized (C := Try.checked) own started (by kernel_rfl) Try.func11
    (ChangeSpec.witness6 (enc := enc) (C := Try.checked) false ⟨#[], #[.string ByteArray.empty], []⟩ 8 (by kernel_rfl) (by kernel_rfl) (by kernel_rfl) (by kernel_rfl)) ?_
  intro W base args ds gs before hval0 hW hcnd hsz0 _
  have hsz : (DataW.weightsEach Try.prog (Try.f11.params.toList ++ Rows.headerLowersSpec.plain.varTypes Try.prog) (ds ++ gs)).all (· ≤ reachBytes) = true := hsz0
  have hval : ∀ (j : Nat) t v, Try.f11.params[j]? = some t → args[j]? = some v → Value.okWide Try.prog W .any base t v := hval0
  have hW' := hW
  obtain ⟨p, q, hA0, hV, rfl, hfz, hnd⟩ := hW
  have hA : DataW.TrodAll enc Try.prog W 0 (fun _ => true) true Try.f11.params.toList args.toList ds p := hA0
  rw [Try.params11] at hA hval hsz
  obtain ⟨v0, vs0, d0, ds0, p0, q0, hargs, rfl, rfl, h0, r0⟩ := trodAll_cons hA
  obtain ⟨rfl, rfl, rfl⟩ := trodAll_nil r0
  obtain rfl : args = #[v0] := by cases args; simp_all
  obtain ⟨rfl, rfl⟩ := trodVars_none hV
  obtain ⟨a0, rfl, rfl, rfl, y0⟩ := open_string Try.underlying9 (hval 0 9 v0 rfl rfl) h0
  have w0 : a0.size ≤ 140737488351232 := by
    have z := sized_string hsz (j := 0) (t := 9) rfl rfl
    rw [Array.length_toList] at z
    exact z
  clear hA0 hval0 hsz0
  refine (hdrLowers_s a0 W w0).mono fun e W' ⟨he, mod⟩ => ?_
  have bel : Below W.heap.size W W' := mod.below (Nat.le_refl _) (by simp)
  subst he
  exact ⟨_, rfl, _, _, _, [], _, [], hW', trodAll_mk1 (shut_bool Try.underlying4 _), (trodAll_cons_mk (shut_string Try.underlying9 y0) trodAll_mk0), rfl, bel.frame _, fun h => by cases h⟩
theorem over : Rows.headerLowersRow.holds Try.pinned (OpenSpec.ofChange Rows.headerLowersSpec) :=
  OpenClaim.holds_of_wide 11 Try.f11 rfl rfl rfl rfl rfl rfl rfl ⟨rfl, rfl, rfl, rfl, rfl⟩ rfl rfl rfl rfl rfl (by kernel_rfl) Try.func11 (by kernel_rfl)
    (of_decide_eq_true (by kernel_rfl)) (by unfold Func.isWrapper; first | (rw [if_pos (by decide +kernel)]; kernel_rfl) | (rw [if_neg (by decide +kernel)]; exact ⟨rfl, rfl⟩))
    (fun os started H enc _ => lifted os started H enc)
theorem proved : Rows.HeaderLowersSaid := over
#print axioms proved
end headerLowers
/-- The row, under a short name, for the claim. -/
theorem headerLowers_holds : Rows.HeaderLowersSaid := headerLowers.proved
end Go.Proofs.Ytdichoibidccoaa
