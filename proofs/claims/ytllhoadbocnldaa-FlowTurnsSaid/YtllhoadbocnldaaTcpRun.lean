/- Package tcp: its exported methods, and all segments one behind the other. -/
import Derived.Test.YtllhoadbocnldaaTcpStep
import Derived.Test.YtllhoadbocnldaaOpen
set_option linter.unusedVariables false
set_option linter.unusedSimpArgs false
namespace Go.Proofs.Ytllhoadbocnldaa
open Go.RowKit Go.ChangeShapes Go.WideShapes Go.Deep

/-- A move's cells. -/
def enMove (a : Bool × Int) : List Value := [.bool a.1, .int .i64 a.2]
theorem open_move {H : Type} {enc : TypeId × Value → H} {w : World} (n : Nat) (cs : List Value) (y : DataW H × List MemPlace) (hl : cs.length = 2)
    (h : DataW.trod enc Try.prog w 0 (fun _ => true) true n 68 cs = some y) : ∃ x : Bool × Int, cs = enMove x ∧ (Lit.int .i64 x.2).wf = true := by
  obtain ⟨m, hf⟩ := open_fields Try.underlying68 (by kernel_rfl) hl h
  match cs, hl with
  | [c0, c1], _ =>
    obtain ⟨v0, y0, e0, h0⟩ := hf 0 _ rfl
    obtain ⟨v1, y1, e1, h1⟩ := hf 1 _ rfl
    obtain ⟨a, ha, _⟩ := DataW.trod_bool Try.underlying4 h0
    obtain ⟨b, hb, _, wb⟩ := DataW.trod_int Try.underlying3 h1
    simp at ha hb e0 e1
    subst ha; subst hb; subst e0; subst e1
    exact ⟨(a, b), rfl, wb⟩

/-- In range. -/
def Rng (s : TS) : Prop := 0 ≤ s.1 ∧ s.1 ≤ 4
theorem rng_mk (k : Int) (a b : Bool) (h0 : 0 ≤ k) (h4 : k ≤ 4) : Rng (k, a, b) := ⟨h0, h4⟩
theorem tOpen_rng {s : TS} (o F A : Bool) (h : Rng s) : Rng (tOpen s o F A).1 := by
  unfold tOpen; split
  · exact rng_mk _ _ _ (by decide) (by decide)
  · split <;> exact h
theorem tSyn_rng {s : TS} (o x y : Bool) (h : Rng s) : Rng (tSyn s o x y).1 := by
  unfold tSyn; split
  · exact h
  · split
    · exact rng_mk _ _ _ (by decide) (by decide)
    · split <;> exact h
theorem tStep_rng {s : TS} (o : Bool) (f : Int) (h : Rng s) : Rng (tStep s o f).1 := by
  unfold tStep
  split
  · split
    · exact rng_mk _ _ _ (by decide) (by decide)
    · exact h
  split
  · exact h
  split
  · split
    · exact h
    · exact rng_mk _ _ _ (by decide) (by decide)
  split
  · exact tSyn_rng _ _ _ h
  split
  · exact h
  split
  · split
    · exact tOpen_rng _ _ _ (rng_mk _ _ _ (by decide) (by decide))
    · exact h
  · exact tOpen_rng _ _ _ h
theorem tOpen_ok (s : TS) (o F A : Bool) : (tOpen s o F A).2 = true := by
  unfold tOpen; split
  · rfl
  · split <;> rfl
theorem tSyn_no {s : TS} {o x y : Bool} (h : (tSyn s o x y).2 = false) : (tSyn s o x y).1 = s := by
  unfold tSyn at *
  split at h
  · cases h
  · split at h
    · cases h
    · split at h
      · cases h
      · rw [if_neg ‹_›, if_neg ‹_›, if_neg ‹_›]
theorem tStep_no {s : TS} {o : Bool} {f : Int} (h : (tStep s o f).2 = false) : (tStep s o f).1 = s := by
  unfold tStep at *
  split at h
  · rw [if_pos ‹_›]
    split at h
    · cases h
    · rw [if_neg ‹_›]
  rw [if_neg ‹_›]
  split at h
  · rw [if_pos ‹_›]
  rw [if_neg ‹_›]
  split at h
  · rw [if_pos ‹_›]
    split at h
    · rw [if_pos ‹_›]
    · cases h
  rw [if_neg ‹_›]
  split at h
  · rw [if_pos ‹_›]; exact tSyn_no h
  rw [if_neg ‹_›]
  split at h
  · rw [if_pos ‹_›]
  rw [if_neg ‹_›]
  split at h
  · rw [if_pos ‹_›]
    split at h
    · rw [tOpen_ok] at h; cases h
    · rw [if_neg ‹_›]
  · rw [tOpen_ok] at h; cases h

/-- All of them. -/
def tRun (p : TS × Nat) (l : List (Bool × Int)) : TS × Nat := l.foldl (fun p m => ((tStep p.1 m.1 m.2).1, p.2 + if (tStep p.1 m.1 m.2).2 then 1 else 0)) p
theorem tRun_take (l : List (Bool × Int)) (k : Nat) (hk : k < l.length) : tRun ((0, false, false), 0) (l.take (k + 1)) =
    ((tStep (tRun ((0, false, false), 0) (l.take k)).1 l[k].1 l[k].2).1, (tRun ((0, false, false), 0) (l.take k)).2 + if (tStep (tRun ((0, false, false), 0) (l.take k)).1 l[k].1 l[k].2).2 then 1 else 0) := by
  rw [List.take_succ_eq_append_getElem hk]
  unfold tRun
  rw [List.foldl_append]; rfl
theorem tRun_rng (l : List (Bool × Int)) : ∀ p : TS × Nat, Rng p.1 → Rng (tRun p l).1 := by
  induction l with
  | nil => intro p h; exact h
  | cons m l ih => intro p h; exact ih _ (tStep_rng _ _ h)
theorem tRun_le (l : List (Bool × Int)) : ∀ p : TS × Nat, (tRun p l).2 ≤ p.2 + l.length := by
  induction l with
  | nil => intro p; exact Nat.le_refl _
  | cons m l ih =>
    intro p
    refine Nat.le_trans (ih _) ?_
    simp only [List.length_cons]
    split <;> omega

set_option maxHeartbeats 400000 in
theorem Stage_any (st : Int) (e0 e1 : Bool) (w : World) :
    Calls Try.prog 18 #[.agg #[.int .i64 st, .bool e0, .bool e1]] w fun e w' => e = .returned (.int .i64 st) ∧ Mod [] w w' := by
  go_enter Try.func18, Try.ntmps18
  go_wp2
  go_ret
  exact ⟨rfl, by (repeat' (first | (with_reducible exact Mod.refl _ _) | (with_reducible assumption) | (with_reducible refine Mod.drew ?_) | (with_reducible refine Mod.drewN ?_ _) | (with_reducible refine Mod.alloc ?_ _) | (with_reducible refine Mod.setCell_ ?_ ?_; focus (first | (intro hlt_; simp; done) | (intro hlt_; exfalso; simp at hlt_; done) | (intro hlt_; exfalso; simp at hlt_; omega) | (intro hlt_; exfalso; omega) | (intro hlt_; simp at hlt_ ⊢; omega))) | (with_reducible refine Mod.trans_ ‹Mod _ _ _› ?_ ?_; focus (first | (intro x_ hx_ hl_; simp at hx_; done) | (intro x_ hx_ hl_; simp at hx_ ⊢; omega) | (intro x_ hx_ hl_; simp at hx_ hl_ ⊢; omega) | (intro x_ hx_ hl_; simp_all; done) | (intro x_ hx_ hl_; simp_all; omega)))))⟩
set_option maxHeartbeats 400000 in
theorem Step_any (st : Int) (e0 e1 o : Bool) (f : Int) (hst : 0 ≤ st ∧ st ≤ 4) (w : World) :
    Calls Try.prog 22 #[.agg #[.int .i64 st, .bool e0, .bool e1], .bool o, .int .i64 f] w (TPost (tStep (st, e0, e1) o f) w) := by
  have HS := Lib.hid (step_any st e0 e1 o f hst)
  go_enter Try.func22, Try.ntmps22
  go_wp2_with (go_at_call 26; (with_reducible refine (HS.out _).mono ?_); rintro e w1 ⟨rfl, hm1⟩; apply Blk.use (b := w.heap.size + 1) hm1; (focus ((repeat' (first | (with_reducible assumption) | (with_reducible rfl) | (with_reducible apply Blk.drew) | (with_reducible apply Blk.drewN) | (with_reducible refine Blk.new_ _ _ ?_; focus (first | assumption | (simp; omega) | (simp; done) | omega | (simp at *; omega))) | (with_reducible apply Blk.alloc) | (with_reducible apply Blk.other_; focus (first | assumption | (simp; omega) | (simp; done) | omega | (simp at *; omega))) | (with_reducible apply Blk.set_) | (with_reducible apply Blk.mod_ ‹Mod _ _ _›; focus (first | assumption | (simp; omega) | (simp; done) | omega | (simp at *; omega))) | (simp; done))))); intro B1 c1 f1)
  exact tret (by simp [results, Try.results22, go_sem, *]) rfl (by (repeat' (first | (with_reducible exact Mod.refl _ _) | (with_reducible assumption) | (with_reducible refine Mod.drew ?_) | (with_reducible refine Mod.drewN ?_ _) | (with_reducible refine Mod.alloc ?_ _) | (with_reducible refine Mod.setCell_ ?_ ?_; focus (first | (intro hlt_; simp; done) | (intro hlt_; exfalso; simp at hlt_; done) | (intro hlt_; exfalso; simp at hlt_; omega) | (intro hlt_; exfalso; omega) | (intro hlt_; simp at hlt_ ⊢; omega))) | (with_reducible refine Mod.trans_ ‹Mod _ _ _› ?_ ?_; focus (first | (intro x_ hx_ hl_; simp at hx_; done) | (intro x_ hx_ hl_; simp at hx_ ⊢; omega) | (intro x_ hx_ hl_; simp at hx_ hl_ ⊢; omega) | (intro x_ hx_ hl_; simp_all; done) | (intro x_ hx_ hl_; simp_all; omega))))))

end Go.Proofs.Ytllhoadbocnldaa
