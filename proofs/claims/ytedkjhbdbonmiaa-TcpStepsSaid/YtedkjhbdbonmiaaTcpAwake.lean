/- Package tcp: the document's example; slices over whole blocks. -/
import Derived.Test.YtedkjhbdbonmiaaTcpRun
set_option linter.unusedVariables false
set_option linter.unusedSimpArgs false
namespace Go.Proofs.Ytedkjhbdbonmiaa
open Go.RowKit Go.ChangeShapes Go.WideShapes Go.Deep

theorem flat_get {α : Type} (en : α → List Value) (sz : Nat) (hlen : ∀ x, (en x).length = sz) : ∀ (l : List α) (i : Nat) (hi : i < l.length) (j : Nat) (x : Value), (en l[i])[j]? = some x → (l.flatMap en)[i * sz + j]? = some x
  | a :: l, 0, hi, j, x, h => by
    have hj : j < (en a).length := (List.getElem?_eq_some_iff.1 h).1
    rw [List.flatMap_cons, Nat.zero_mul, Nat.zero_add, List.getElem?_append_left hj]; exact h
  | a :: l, i + 1, hi, j, x, h => by
    have := flat_get en sz hlen l i (by simpa using hi) j x h
    rw [List.flatMap_cons, List.getElem?_append_right (by rw [hlen, Nat.succ_mul]; omega), hlen, show (i + 1) * sz + j - sz = i * sz + j from by rw [Nat.succ_mul]; omega]
    exact this
/-- A slice over a whole block. -/
theorem Structs.of_blk {α : Type} {en : α → List Value} {sz : Nat} {w : World} {b : Nat} {cells : List Value} {t : TypeId} (h : Blk w b cells t) (l : List α) (n : Nat) (hn : l.length = n) (hc : cells = l.flatMap en) (hlen : ∀ x, (en x).length = sz)
    (hmax : n ≤ 9223372036854775807) : Structs en sz w (.slice (some ⟨b, 0, none⟩) n n) l := by
  subst hn; subst hc
  refine ⟨_, _, rfl, hmax, Nat.le_refl _, by simp, fun i hi j x hx => ⟨b, 0, rfl, ?_⟩⟩
  rw [Nat.zero_add, h.cell]
  have := flat_get en sz hlen l i hi j x hx
  simpa using this
set_option maxHeartbeats 2000000 in
theorem awake22_any (w : World) : Calls Try.prog 10 #[] w fun e w' => e = .returned (.bool true) ∧ Mod [] w w' := by
  go_enter Try.func10, Try.ntmps10
  go_wp2_with fail
  refine (Run_any _ [(true, 2), (false, 18), (true, 16)] _ (Structs.of_blk (cells := [.bool true, .int .i64 2, .bool false, .int .i64 18, .bool true, .int .i64 16]) (t := 30) (by (repeat' (first | (with_reducible assumption) | (with_reducible rfl) | (with_reducible apply Blk.drew) | (with_reducible apply Blk.drewN) | (with_reducible refine Blk.new_ _ _ ?_; focus (first | assumption | (simp; omega) | (simp; done) | omega | (simp at *; omega))) | (with_reducible apply Blk.alloc) | (with_reducible apply Blk.other_; focus (first | assumption | (simp; omega) | (simp; done) | omega | (simp at *; omega))) | (with_reducible apply Blk.set_) | (with_reducible apply Blk.mod_ ‹Mod _ _ _›; focus (first | assumption | (simp; omega) | (simp; done) | omega | (simp at *; omega))) | (simp; done)))) _ 3 rfl rfl (fun _ => rfl) (by omega))).mono ?_
  rintro e w1 ⟨rfl, hm1⟩
  rw [show tRun ((0, false, false), 0) [(true, 2), (false, 18), (true, 16)] = ((3, false, false), 3) from by decide +kernel]
  have hz1 := hm1.size
  go_wp2_with fail
  refine (Run_any _ [(true, 2), (false, 18), (true, 16), (true, 17), (false, 17), (true, 16)] _ (Structs.of_blk (cells := [.bool true, .int .i64 2, .bool false, .int .i64 18, .bool true, .int .i64 16, .bool true, .int .i64 17, .bool false, .int .i64 17, .bool true, .int .i64 16]) (t := 30) (by (repeat' (first | (with_reducible assumption) | (with_reducible rfl) | (with_reducible apply Blk.drew) | (with_reducible apply Blk.drewN) | (with_reducible refine Blk.new_ _ _ ?_; focus (first | assumption | (simp; omega) | (simp; done) | omega | (simp at *; omega))) | (with_reducible apply Blk.alloc) | (with_reducible apply Blk.other_; focus (first | assumption | (simp; omega) | (simp; done) | omega | (simp at *; omega))) | (with_reducible apply Blk.set_) | (with_reducible apply Blk.mod_ ‹Mod _ _ _›; focus (first | assumption | (simp; omega) | (simp; done) | omega | (simp at *; omega))) | (simp; done)))) _ 6 rfl rfl (fun _ => rfl) (by omega))).mono ?_
  rintro e w2 ⟨rfl, hm2⟩
  rw [show tRun ((0, false, false), 0) [(true, 2), (false, 18), (true, 16), (true, 17), (false, 17), (true, 16)] = ((4, true, true), 6) from by decide +kernel]
  have hz2 := hm2.size
  apply Blk.use (b := w1.heap.size) hm2
  · (repeat' (first | (with_reducible assumption) | (with_reducible rfl) | (with_reducible apply Blk.drew) | (with_reducible apply Blk.drewN) | (with_reducible refine Blk.new_ _ _ ?_; focus (first | assumption | (simp; omega) | (simp; done) | omega | (simp at *; omega))) | (with_reducible apply Blk.alloc) | (with_reducible apply Blk.other_; focus (first | assumption | (simp; omega) | (simp; done) | omega | (simp at *; omega))) | (with_reducible apply Blk.set_) | (with_reducible apply Blk.mod_ ‹Mod _ _ _›; focus (first | assumption | (simp; omega) | (simp; done) | omega | (simp at *; omega))) | (simp; done)))
  intro B1 c1 f1
  have lt1 := B1.lt
  go_wp2_with fail
  refine (Stage_any _ _ _ _).mono ?_
  rintro e w3 ⟨rfl, hm3⟩
  apply Blk.use (b := w2.heap.size) hm3
  · (repeat' (first | (with_reducible assumption) | (with_reducible rfl) | (with_reducible apply Blk.drew) | (with_reducible apply Blk.drewN) | (with_reducible refine Blk.new_ _ _ ?_; focus (first | assumption | (simp; omega) | (simp; done) | omega | (simp at *; omega))) | (with_reducible apply Blk.alloc) | (with_reducible apply Blk.other_; focus (first | assumption | (simp; omega) | (simp; done) | omega | (simp at *; omega))) | (with_reducible apply Blk.set_) | (with_reducible apply Blk.mod_ ‹Mod _ _ _›; focus (first | assumption | (simp; omega) | (simp; done) | omega | (simp at *; omega))) | (simp; done)))
  intro B2 c2 f2
  have lt2 := B2.lt
  clear c1 f1
  go_wp2_with fail
  refine (Stage_any _ _ _ _).mono ?_
  rintro e w4 ⟨rfl, hm4⟩
  go_wp2_with fail
  go_ret
  exact ⟨rfl, by (repeat' (first | (with_reducible exact Mod.refl _ _) | (with_reducible assumption) | (with_reducible refine Mod.drew ?_) | (with_reducible refine Mod.drewN ?_ _) | (with_reducible refine Mod.alloc ?_ _) | (with_reducible refine Mod.setCell_ ?_ ?_; focus (first | (intro hlt_; simp; done) | (intro hlt_; exfalso; simp at hlt_; done) | (intro hlt_; exfalso; simp at hlt_; omega) | (intro hlt_; exfalso; omega) | (intro hlt_; simp at hlt_ ⊢; omega))) | (with_reducible refine Mod.trans_ ‹Mod _ _ _› ?_ ?_; focus (first | (intro x_ hx_ hl_; simp at hx_; done) | (intro x_ hx_ hl_; simp at hx_ ⊢; omega) | (intro x_ hx_ hl_; simp at hx_ hl_ ⊢; omega) | (intro x_ hx_ hl_; simp_all; done) | (intro x_ hx_ hl_; simp_all; omega)))))⟩

/-- A world is given a name, with what is known of two of its blocks. -/
theorem named {F : Exit → Act → World → Prop} {e : Exit} {a : Act} {W w0 : World} (p q : Nat) (lp lq : List Value) (tp tq : TypeId) (hp : Blk W p lp tp) (hq : Blk W q lq tq) (hm : Mod [] w0 W)
    (k : ∀ W', Blk W' p lp tp → Blk W' q lq tq → Mod [] w0 W' → F e a W') : F e a W := k W hp hq hm
theorem Ended_t (st : Int) (e0 e1 : Bool) (w : World) : Calls Try.prog 14 #[.agg #[.int .i64 st, .bool e0, .bool e1], .bool true] w fun e w' => e = .returned (.bool e0) ∧ Mod [] w w' := Ended_any st e0 e1 true w
theorem Ended_f (st : Int) (e0 e1 : Bool) (w : World) : Calls Try.prog 14 #[.agg #[.int .i64 st, .bool e0, .bool e1], .bool false] w fun e w' => e = .returned (.bool e1) ∧ Mod [] w w' := Ended_any st e0 e1 false w
end Go.Proofs.Ytedkjhbdbonmiaa
