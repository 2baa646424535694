/- Package option: two lists of options; what was encoded is read as it was. -/
import Derived.Test.YtmcaigmpcbkfpaaOpt6
import Derived.Test.YtmcaigmpcbkfpaaHdr8
import Derived.Test.YtmcaigmpcbkfpaaMByt
set_option linter.unusedVariables false
set_option linter.unusedSimpArgs false
namespace Go.Proofs.Ytmcaigmpcbkfpaa
set_option maxRecDepth 8000
attribute [local irreducible] blk wpS seqS ordS OpVal RV endS LoadV StoreV Calls
open Go.RowKit Go.ChangeShapes Go.WideShapes Go.Deep
/-! ### Comparing -/
theorem bytes_inj {a b : ByteArray} : a.toList = b.toList ↔ a = b :=
  ⟨fun h => ByteArray.ext (Array.toList_inj.1 (by rw [ByteArray.toList_eq, ByteArray.toList_eq] at h; exact h)), fun h => by rw [h]⟩
theorem eqOpt (a b : Opt) (w : World) : (Op.equalIn 10000 76 (ov a) (ov b)).run Try.prog w = .ok (decide (a = b)) w := by
  go_simp
  simp only [bytes_inj]
  obtain ⟨a1, a2⟩ := a
  obtain ⟨b1, b2⟩ := b
  by_cases h1 : a1 = b1 <;> by_cases h2 : a2 = b2 <;> simp [h1, h2]
theorem neqOptV (x y : Operand) (a b : Opt) (w : World) : ((do eqGuard .neq 76 x y (ov a) (ov b); binOp .neq 76 (ov a) (ov b)) : Sem Value).run Try.prog w = .ok (.bool (!decide (a = b))) w := by
  have h := eqOpt a b w
  rw [Sem.run_bind, run_eqGuard_agg w _ _ _ _ _ _ Try.eqGuardType76, Result.andThen_ok, run_neq_struct, h]
  rfl
theorem neqOpt_ne (x y : Operand) (a b : Opt) (w : World) (h : a ≠ b) : ((do eqGuard .neq 76 x y (ov a) (ov b); binOp .neq 76 (ov a) (ov b)) : Sem Value).run Try.prog w = .ok (.bool true) w := by
  rw [neqOptV, show decide (a = b) = false from by simpa using h]; rfl
theorem neqOpt_eq (x y : Operand) (a b : Opt) (w : World) (h : a = b) : ((do eqGuard .neq 76 x y (ov a) (ov b); binOp .neq 76 (ov a) (ov b)) : Sem Value).run Try.prog w = .ok (.bool false) w := by
  rw [neqOptV, show decide (a = b) = true from by simpa using h]; rfl
/-- Rows of one's own are read as any are. -/
theorem flat_at {α : Type} {en : α → List Value} {sz : Nat} : ∀ (l : List α) (i : Nat) (hi : i < l.length), (∀ x ∈ l, (en x).length = sz) → ∀ j x, (en l[i])[j]? = some x → (l.flatMap en)[i * sz + j]? = some x := by
  intro l
  induction l with
  | nil => intro i hi; simp at hi
  | cons a l ih =>
    intro i hi hall j x hx
    have ha := hall a (by simp)
    cases i with
    | zero =>
      have hj := (List.getElem?_eq_some_iff.1 hx).1
      simp only [List.getElem_cons_zero] at hx hj
      rw [Nat.zero_mul, Nat.zero_add, List.flatMap_cons, List.getElem?_append_left hj]; exact hx
    | succ i =>
      rw [List.flatMap_cons, List.getElem?_append_right (by rw [ha, Nat.succ_mul]; omega), ha]
      rw [show (i + 1) * sz + j - sz = i * sz + j from by rw [Nat.succ_mul]; omega]
      exact ih i (by simpa using hi) (fun x hx => hall x (by simp [hx])) j x (by simpa using hx)
theorem own_structs {α : Type} {en : α → List Value} {sz e cap : Nat} {A : Option Addr} {l : List α} {w : World} (h : (own A cap e sz l.length (l.flatMap en)).holds w) (hall : ∀ x ∈ l, (en x).length = sz) : Structs en sz w (.slice A l.length cap) l := by
  have h' : w.ownsRowF 0 e sz (.slice A l.length cap) l.length (l.flatMap en) := h
  rcases h'.2 with ⟨hv, hn⟩ | ⟨g, cap', cur, fz, hv, _, hg, _, h1, h2, _, _⟩
  · injection hv with hA hl hc
    subst hA; subst hc
    obtain rfl := List.eq_nil_of_length_eq_zero hl
    exact Structs.nil _ _ _
  · injection hv with hA hl hc
    subst hA; subst hc
    refine ⟨_, _, rfl, by unfold maxLen at h2; omega, h1, by simp, fun i hi j x hx => ⟨g, 0, rfl, ?_⟩⟩
    have := h'.cells (g := g) rfl (i * sz + j) x (flat_at l i hi hall j x hx)
    rw [show (⟨g, 0, none⟩ : Addr).add (i * sz + j) = ⟨g, 0 + i * sz + j, none⟩ from by unfold Addr.add; split <;> simp_all] at this
    exact this
end Go.Proofs.Ytmcaigmpcbkfpaa
namespace Go.Proofs.Ytmcaigmpcbkfpaa
set_option maxRecDepth 8000
attribute [local irreducible] blk wpS seqS ordS OpVal RV endS LoadV StoreV Calls
open Go.RowKit
theorem strOf_app5 (a b : List UInt8) : strOf a ++ strOf b = strOf (a ++ b) := by apply ByteArray.ext; simp
theorem sn2 (x y : Int) (hx : 0 ≤ x ∧ x ≤ 255) (hy : 0 ≤ y ∧ y ≤ 255) : strOfNums [x, y] = strOf [b8 x, b8 y] := by
  have e1 : x % 256 = x := by omega
  have e2 : y % 256 = y := by omega
  apply ByteArray.ext; simp [strOfNums, b8, e1, e2]
theorem sn4 (x y : Int) (hx : 0 ≤ x ∧ x ≤ 255) (hy : 0 ≤ y ∧ y ≤ 255) : strOfNums [x, y, 0, 0] = strOf [b8 x, b8 y, 0, 0] := by
  have e1 : x % 256 = x := by omega
  have e2 : y % 256 = y := by omega
  apply ByteArray.ext; simp [strOfNums, b8, e1, e2]
def great05 (p : Pkt) : Bool := great p.opts || (decide ((2000 : Int) < (p.data.size : Int)) && decide ((p.data.size : Int) < 65000) || decide ((66000 : Int) < (p.data.size : Int)))
theorem great05_not {p : Pkt} (h : great05 p = false) : great p.opts = false ∧ p.data.size ≤ 66000 := by
  unfold great05 at h
  simp only [Bool.or_eq_false_iff, decide_eq_false_iff_not] at h
  exact ⟨h.1, by omega⟩
set_option maxHeartbeats 4000000 in
theorem great05_any (p : Pkt) (v : Value) (w : World) (hr : Structs enOpt 2 w v p.opts) : Calls Try.prog 6 #[pv p v] w fun e w' => e = .returned (.bool (great05 p)) ∧ Mod [] w w' := by
  have hG : Hid (∀ w', Mod [] w w' → Calls Try.prog 20 #[v] w' fun e w'' => e = .returned (.bool (great p.opts)) ∧ Mod [] w' w'') := Lib.hid fun w' hm => Great_any v p.opts w' (hr.mod0 hm)
  have hF : Hid (great05 p = (great p.opts || (decide ((2000 : Int) < (p.data.size : Int)) && decide ((p.data.size : Int) < 65000) || decide ((66000 : Int) < (p.data.size : Int))))) := Lib.hid rfl
  generalize great05 p = R at hF ⊢
  generalize great p.opts = G at hG hF
  rcases h1 : decide ((2000 : Int) < (p.data.size : Int)) with _ | _ <;> rcases h2 : decide ((p.data.size : Int) < 65000) with _ | _ <;> rcases h3 : decide ((66000 : Int) < (p.data.size : Int)) with _ | _
  all_goals
    rw [h1, h2, h3] at hF
    (refine enterS ([]) (Sep.start _ []) Try.func6 rfl ?_; simp only [Try.ntmps6, List.size_toArray, List.length_cons, List.length_nil, Nat.reduceAdd, Nat.reduceSub, Array.replicate_succ, Array.replicate_zero, List.push_toArray, List.append_toArray, List.nil_append, List.cons_append])
    (repeat' (first | ((with_reducible refine isOps ?_); first | (refine seqS_nil ?_; (try simp only [thenS, blockS])) | ((first | ((with_reducible refine isCallF ?_); refine aCF ?_) | ((with_reducible refine isCallV ?_); refine aCV ?_)); first | refine cS0 (fun w_ hs_ => hG.out _ hs_.mod) ?_) | ((with_reducible refine isBox ?_); first | (refine aBox (fun n_ l_ hl_ => ?_); dsimp only [sS, sZ] at hl_; subst hl_)) | refine aV ?_ | refine aNo ?_ | refine aNo' ?_ | ((fail_if_success (refine aIsT ?_)); (fail_if_success (refine aIsF ?_)); refine seqS_guard rfl rfl rfl (fun l_ hl_ h_ => ?_) (fun l_ hl_ h_ => ?_) <;> (dsimp only [sS, sZ] at hl_; subst hl_; (try (simp only [beq_iff_eq, bne_iff_ne, beq_eq_false_iff_ne, bne_eq_false_iff_eq, ne_eq, decide_eq_true_eq, decide_eq_false_iff_not, Bool.and_eq_true, Bool.or_eq_true, Bool.and_eq_false_iff, Bool.or_eq_false_iff, Bool.not_eq_true', Bool.not_eq_false', Bool.false_eq_true, Bool.true_eq_false, reduceCtorEq] at h_)); (try (first | (with_reducible contradiction) | (exfalso; omega)))))) | ((with_reducible refine isWp ?_); first | (refine wpS_seq (fun K_ hK_ => ?_)) | (refine wpS_region ?_) | (refine wpS_cond rfl (fun h_ => ?_) (fun h_ => ?_) <;> (try (simp only [beq_iff_eq, bne_iff_ne, beq_eq_false_iff_ne, bne_eq_false_iff_eq, ne_eq, decide_eq_true_eq, decide_eq_false_iff_not, Bool.and_eq_true, Bool.or_eq_true, Bool.and_eq_false_iff, Bool.or_eq_false_iff, Bool.false_eq_true, Bool.true_eq_false, reduceCtorEq] at h_)) <;> (try (first | (with_reducible contradiction) | (exfalso; omega)))) | (refine wpS_block ?_) | (refine wpS_ret ?_; (try simp only [thenS, blockS])) | (refine wpS_exit ?_; simp only [thenS, blockS, ↓reduceIte, Nat.reduceEqDiff]) | (refine wpS_skip ?_; (try simp only [thenS, blockS]))) | (refine useK (by with_reducible assumption) ?_)))
    all_goals
      (first | refine r1_ Try.results6 (fun w_ hs_ => ?_) | refine r2_ Try.results6 (fun w_ hs_ => ?_) | refine r3_ Try.results6 (fun w_ hs_ => ?_) | refine retS0 Try.results6 (fun w_ hs_ => ?_) | refine retN0 Try.results6 (fun w_ hs_ => ?_))
      refine ⟨?_, hs_.mod⟩
      rw [hF.out]
      first
        | rfl
        | (simp [*]; done)
end Go.Proofs.Ytmcaigmpcbkfpaa
