/- Package tcp: its exported methods, and all segments one behind the other. -/
import Derived.Test.YtedkjhbdbonmiaaTcpStep
import Derived.Test.YtedkjhbdbonmiaaOpen
set_option linter.unusedVariables false
set_option linter.unusedSimpArgs false
namespace Go.Proofs.Ytedkjhbdbonmiaa
open Go.RowKit Go.ChangeShapes Go.WideShapes Go.Deep

/-- A move's cells. -/
def enMove (a : Bool × Int) : List Value := [.bool a.1, .int .i64 a.2]
theorem open_move {H : Type} {enc : TypeId × Value → H} {w : World} (n : Nat) (cs : List Value) (y : DataW H × List MemPlace) (hl : cs.length = 2)
    (h : DataW.trod enc Try.prog w 0 (fun _ => true) true n 30 cs = some y) : ∃ x : Bool × Int, cs = enMove x ∧ (Lit.int .i64 x.2).wf = true := by
  obtain ⟨m, hf⟩ := open_fields Try.underlying30 (by kernel_rfl) hl h
  match cs, hl with
  | [c0, c1], _ =>
    obtain ⟨v0, y0, e0, h0⟩ := hf 0 _ rfl
    obtain ⟨v1, y1, e1, h1⟩ := hf 1 _ rfl
    obtain ⟨a, ha, _⟩ := DataW.trod_bool Try.underlying4 h0
    obtain ⟨b, hb, _, wb⟩ := DataW.trod_int Try.underlying3 h1
    simp at ha hb e0 e1
    subst ha; subst hb; subst e0; subst e1
    exact ⟨(a, b), rfl, wb⟩

/-- In range. -/
def Rng (s : TS) : Prop := 0 ≤ s.1 ∧ s.1 ≤ 4
theorem rng_mk (k : Int) (a b : Bool) (h0 : 0 ≤ k) (h4 : k ≤ 4) : Rng (k, a, b) := ⟨h0, h4⟩
theorem tOpen_rng {s : TS} (o F A : Bool) (h : Rng s) : Rng (tOpen s o F A).1 := by
  unfold tOpen; split
  · exact rng_mk _ _ _ (by decide) (by decide)
  · split <;> exact h
theorem tSyn_rng {s : TS} (o x y : Bool) (h : Rng s) : Rng (tSyn s o x y).1 := by
  unfold tSyn; split
  · exact h
  · split
    · exact rng_mk _ _ _ (by decide) (by decide)
    · split <;> exact h
theorem tStep_rng {s : TS} (o : Bool) (f : Int) (h : Rng s) : Rng (tStep s o f).1 := by
  unfold tStep
  split
  · split
    · exact rng_mk _ _ _ (by decide) (by decide)
    · exact h
  split
  · exact h
  split
  · split
    · exact h
    · exact rng_mk _ _ _ (by decide) (by decide)
  split
  · exact tSyn_rng _ _ _ h
  split
  · exact h
  split
  · split
    · exact tOpen_rng _ _ _ (rng_mk _ _ _ (by decide) (by decide))
    · exact h
  · exact tOpen_rng _ _ _ h
theorem tOpen_ok (s : TS) (o F A : Bool) : (tOpen s o F A).2 = true := by
  unfold tOpen; split
  · rfl
  · split <;> rfl
theorem tSyn_no {s : TS} {o x y : Bool} (h : (tSyn s o x y).2 = false) : (tSyn s o x y).1 = s := by
  unfold tSyn at *
  split at h
  · cases h
  · split at h
    · cases h
    · split at h
      · cases h
      · rw [if_neg ‹_›, if_neg ‹_›, if_neg ‹_›]
theorem tStep_no {s : TS} {o : Bool} {f : Int} (h : (tStep s o f).2 = false) : (tStep s o f).1 = s := by
  unfold tStep at *
  split at h
  · rw [if_pos ‹_›]
    split at h
    · cases h
    · rw [if_neg ‹_›]
  rw [if_neg ‹_›]
  split at h
  · rw [if_pos ‹_›]
  rw [if_neg ‹_›]
  split at h
  · rw [if_pos ‹_›]
    split at h
    · rw [if_pos ‹_›]
    · cases h
  rw [if_neg ‹_›]
  split at h
  · rw [if_pos ‹_›]; exact tSyn_no h
  rw [if_neg ‹_›]
  split at h
  · rw [if_pos ‹_›]
  rw [if_neg ‹_›]
  split at h
  · rw [if_pos ‹_›]
    split at h
    · rw [tOpen_ok] at h; cases h
    · rw [if_neg ‹_›]
  · rw [tOpen_ok] at h; cases h

/-- All of them. -/
def tRun (p : TS × Nat) (l : List (Bool × Int)) : TS × Nat := l.foldl (fun p m => ((tStep p.1 m.1 m.2).1, p.2 + if (tStep p.1 m.1 m.2).2 then 1 else 0)) p
theorem tRun_take (l : List (Bool × Int)) (k : Nat) (hk : k < l.length) : tRun ((0, false, false), 0) (l.take (k + 1)) =
    ((tStep (tRun ((0, false, false), 0) (l.take k)).1 l[k].1 l[k].2).1, (tRun ((0, false, false), 0) (l.take k)).2 + if (tStep (tRun ((0, false, false), 0) (l.take k)).1 l[k].1 l[k].2).2 then 1 else 0) := by
  rw [List.take_succ_eq_append_getElem hk]
  unfold tRun
  rw [List.foldl_append]; rfl
theorem tRun_rng (l : List (Bool × Int)) : ∀ p : TS × Nat, Rng p.1 → Rng (tRun p l).1 := by
  induction l with
  | nil => intro p h; exact h
  | cons m l ih => intro p h; exact ih _ (tStep_rng _ _ h)
theorem tRun_le (l : List (Bool × Int)) : ∀ p : TS × Nat, (tRun p l).2 ≤ p.2 + l.length := by
  induction l with
  | nil => intro p; exact Nat.le_refl _
  | cons m l ih =>
    intro p
    refine Nat.le_trans (ih _) ?_
    simp only [List.length_cons]
    split <;> omega

set_option maxHeartbeats 400000 in
theorem Stage_any (st : Int) (e0 e1 : Bool) (w : World) :
    Calls Try.prog 12 #[.agg #[.int .i64 st, .bool e0, .bool e1]] w fun e w' => e = .returned (.int .i64 st) ∧ Mod [] w w' := by
  go_enter Try.func12, Try.ntmps12
  go_wp2
  go_ret
  exact ⟨rfl, by (repeat' (first | (with_reducible exact Mod.refl _ _) | (with_reducible assumption) | (with_reducible refine Mod.drew ?_) | (with_reducible refine Mod.drewN ?_ _) | (with_reducible refine Mod.alloc ?_ _) | (with_reducible refine Mod.setCell_ ?_ ?_; focus (first | (intro hlt_; simp; done) | (intro hlt_; exfalso; simp at hlt_; done) | (intro hlt_; exfalso; simp at hlt_; omega) | (intro hlt_; exfalso; omega) | (intro hlt_; simp at hlt_ ⊢; omega))) | (with_reducible refine Mod.trans_ ‹Mod _ _ _› ?_ ?_; focus (first | (intro x_ hx_ hl_; simp at hx_; done) | (intro x_ hx_ hl_; simp at hx_ ⊢; omega) | (intro x_ hx_ hl_; simp at hx_ hl_ ⊢; omega) | (intro x_ hx_ hl_; simp_all; done) | (intro x_ hx_ hl_; simp_all; omega)))))⟩
set_option maxHeartbeats 400000 in
theorem Ended_any (st : Int) (e0 e1 o : Bool) (w : World) :
    Calls Try.prog 14 #[.agg #[.int .i64 st, .bool e0, .bool e1], .bool o] w fun e w' => e = .returned (.bool (if o then e0 else e1)) ∧ Mod [] w w' := by
  have HSf := Lib.hid (side_f 0)
  have HSt := Lib.hid (side_t 0)
  rcases o with _ | _
  · go_enter Try.func14, Try.ntmps14
    go_wp2_with (go_at_call 26; (with_reducible refine (HSf.out _).mono ?_); rintro e w1 ⟨rfl, hm1⟩; apply Blk.use (b := w.heap.size) hm1; (focus ((repeat' (first | (with_reducible assumption) | (with_reducible rfl) | (with_reducible apply Blk.drew) | (with_reducible apply Blk.drewN) | (with_reducible refine Blk.new_ _ _ ?_; focus (first | assumption | (simp; omega) | (simp; done) | omega | (simp at *; omega))) | (with_reducible apply Blk.alloc) | (with_reducible apply Blk.other_; focus (first | assumption | (simp; omega) | (simp; done) | omega | (simp at *; omega))) | (with_reducible apply Blk.set_) | (with_reducible apply Blk.mod_ ‹Mod _ _ _›; focus (first | assumption | (simp; omega) | (simp; done) | omega | (simp at *; omega))) | (simp; done))))); intro B1 c1 f1)
    go_ret
    exact ⟨rfl, by (repeat' (first | (with_reducible exact Mod.refl _ _) | (with_reducible assumption) | (with_reducible refine Mod.drew ?_) | (with_reducible refine Mod.drewN ?_ _) | (with_reducible refine Mod.alloc ?_ _) | (with_reducible refine Mod.setCell_ ?_ ?_; focus (first | (intro hlt_; simp; done) | (intro hlt_; exfalso; simp at hlt_; done) | (intro hlt_; exfalso; simp at hlt_; omega) | (intro hlt_; exfalso; omega) | (intro hlt_; simp at hlt_ ⊢; omega))) | (with_reducible refine Mod.trans_ ‹Mod _ _ _› ?_ ?_; focus (first | (intro x_ hx_ hl_; simp at hx_; done) | (intro x_ hx_ hl_; simp at hx_ ⊢; omega) | (intro x_ hx_ hl_; simp at hx_ hl_ ⊢; omega) | (intro x_ hx_ hl_; simp_all; done) | (intro x_ hx_ hl_; simp_all; omega)))))⟩
  · go_enter Try.func14, Try.ntmps14
    go_wp2_with (go_at_call 26; (with_reducible refine (HSt.out _).mono ?_); rintro e w1 ⟨rfl, hm1⟩; apply Blk.use (b := w.heap.size) hm1; (focus ((repeat' (first | (with_reducible assumption) | (with_reducible rfl) | (with_reducible apply Blk.drew) | (with_reducible apply Blk.drewN) | (with_reducible refine Blk.new_ _ _ ?_; focus (first | assumption | (simp; omega) | (simp; done) | omega | (simp at *; omega))) | (with_reducible apply Blk.alloc) | (with_reducible apply Blk.other_; focus (first | assumption | (simp; omega) | (simp; done) | omega | (simp at *; omega))) | (with_reducible apply Blk.set_) | (with_reducible apply Blk.mod_ ‹Mod _ _ _›; focus (first | assumption | (simp; omega) | (simp; done) | omega | (simp at *; omega))) | (simp; done))))); intro B1 c1 f1)
    go_ret
    exact ⟨rfl, by (repeat' (first | (with_reducible exact Mod.refl _ _) | (with_reducible assumption) | (with_reducible refine Mod.drew ?_) | (with_reducible refine Mod.drewN ?_ _) | (with_reducible refine Mod.alloc ?_ _) | (with_reducible refine Mod.setCell_ ?_ ?_; focus (first | (intro hlt_; simp; done) | (intro hlt_; exfalso; simp at hlt_; done) | (intro hlt_; exfalso; simp at hlt_; omega) | (intro hlt_; exfalso; omega) | (intro hlt_; simp at hlt_ ⊢; omega))) | (with_reducible refine Mod.trans_ ‹Mod _ _ _› ?_ ?_; focus (first | (intro x_ hx_ hl_; simp at hx_; done) | (intro x_ hx_ hl_; simp at hx_ ⊢; omega) | (intro x_ hx_ hl_; simp at hx_ hl_ ⊢; omega) | (intro x_ hx_ hl_; simp_all; done) | (intro x_ hx_ hl_; simp_all; omega)))))⟩
set_option maxHeartbeats 400000 in
theorem Step_any (st : Int) (e0 e1 o : Bool) (f : Int) (hst : 0 ≤ st ∧ st ≤ 4) (w : World) :
    Calls Try.prog 11 #[.agg #[.int .i64 st, .bool e0, .bool e1], .bool o, .int .i64 f] w (TPost (tStep (st, e0, e1) o f) w) := by
  have HS := Lib.hid (step_any st e0 e1 o f hst)
  go_enter Try.func11, Try.ntmps11
  go_wp2_with (go_at_call 25; (with_reducible refine (HS.out _).mono ?_); rintro e w1 ⟨rfl, hm1⟩; apply Blk.use (b := w.heap.size + 1) hm1; (focus ((repeat' (first | (with_reducible assumption) | (with_reducible rfl) | (with_reducible apply Blk.drew) | (with_reducible apply Blk.drewN) | (with_reducible refine Blk.new_ _ _ ?_; focus (first | assumption | (simp; omega) | (simp; done) | omega | (simp at *; omega))) | (with_reducible apply Blk.alloc) | (with_reducible apply Blk.other_; focus (first | assumption | (simp; omega) | (simp; done) | omega | (simp at *; omega))) | (with_reducible apply Blk.set_) | (with_reducible apply Blk.mod_ ‹Mod _ _ _›; focus (first | assumption | (simp; omega) | (simp; done) | omega | (simp at *; omega))) | (simp; done))))); intro B1 c1 f1)
  exact tret (by simp [results, Try.results11, go_sem, *]) rfl (by (repeat' (first | (with_reducible exact Mod.refl _ _) | (with_reducible assumption) | (with_reducible refine Mod.drew ?_) | (with_reducible refine Mod.drewN ?_ _) | (with_reducible refine Mod.alloc ?_ _) | (with_reducible refine Mod.setCell_ ?_ ?_; focus (first | (intro hlt_; simp; done) | (intro hlt_; exfalso; simp at hlt_; done) | (intro hlt_; exfalso; simp at hlt_; omega) | (intro hlt_; exfalso; omega) | (intro hlt_; simp at hlt_ ⊢; omega))) | (with_reducible refine Mod.trans_ ‹Mod _ _ _› ?_ ?_; focus (first | (intro x_ hx_ hl_; simp at hx_; done) | (intro x_ hx_ hl_; simp at hx_ ⊢; omega) | (intro x_ hx_ hl_; simp at hx_ hl_ ⊢; omega) | (intro x_ hx_ hl_; simp_all; done) | (intro x_ hx_ hl_; simp_all; omega))))))

set_option maxHeartbeats 2000000 in
theorem Run_any (v : Value) (l : List (Bool × Int)) (w : World) (hr : Structs enMove 2 w v l) :
    Calls Try.prog 15 #[v] w fun e w' => e = .returned (.tuple #[.agg #[.int .i64 (tRun ((0, false, false), 0) l).1.1, .bool (tRun ((0, false, false), 0) l).1.2.1, .bool (tRun ((0, false, false), 0) l).1.2.2], .int .i64 (tRun ((0, false, false), 0) l).2]) ∧ Mod [] w w' := by
  have hll := hr.len
  obtain ⟨A, cap, rfl⟩ := hr.form
  go_enter Try.func15, Try.ntmps15
  go_wp2_with fail
  obtain ⟨p, hp⟩ : ∃ p, p = w.heap.size := ⟨_, rfl⟩
  have hm0 : Mod [] w ((w.alloc (.cells #[.int .i64 0, .bool false, .bool false] 26)).alloc (.cells #[.int .i64 0, .bool false, .bool false] 26)) := by (repeat' (first | (with_reducible exact Mod.refl _ _) | (with_reducible assumption) | (with_reducible refine Mod.drew ?_) | (with_reducible refine Mod.drewN ?_ _) | (with_reducible refine Mod.alloc ?_ _) | (with_reducible refine Mod.setCell_ ?_ ?_; focus (first | (intro hlt_; simp; done) | (intro hlt_; exfalso; simp at hlt_; done) | (intro hlt_; exfalso; simp at hlt_; omega) | (intro hlt_; exfalso; omega) | (intro hlt_; simp at hlt_ ⊢; omega))) | (with_reducible refine Mod.trans_ ‹Mod _ _ _› ?_ ?_; focus (first | (intro x_ hx_ hl_; simp at hx_; done) | (intro x_ hx_ hl_; simp at hx_ ⊢; omega) | (intro x_ hx_ hl_; simp at hx_ hl_ ⊢; omega) | (intro x_ hx_ hl_; simp_all; done) | (intro x_ hx_ hl_; simp_all; omega)))))
  have B0 : Blk ((w.alloc (.cells #[.int .i64 0, .bool false, .bool false] 26)).alloc (.cells #[.int .i64 0, .bool false, .bool false] 26)) w.heap.size [.int .i64 0, .bool false, .bool false] 26 := by (repeat' (first | (with_reducible assumption) | (with_reducible rfl) | (with_reducible apply Blk.drew) | (with_reducible apply Blk.drewN) | (with_reducible refine Blk.new_ _ _ ?_; focus (first | assumption | (simp; omega) | (simp; done) | omega | (simp at *; omega))) | (with_reducible apply Blk.alloc) | (with_reducible apply Blk.other_; focus (first | assumption | (simp; omega) | (simp; done) | omega | (simp at *; omega))) | (with_reducible apply Blk.set_) | (with_reducible apply Blk.mod_ ‹Mod _ _ _›; focus (first | assumption | (simp; omega) | (simp; done) | omega | (simp at *; omega))) | (simp; done)))
  have C0 : Blk ((w.alloc (.cells #[.int .i64 0, .bool false, .bool false] 26)).alloc (.cells #[.int .i64 0, .bool false, .bool false] 26)) (w.heap.size + 1) [.int .i64 0, .bool false, .bool false] 26 := by (repeat' (first | (with_reducible assumption) | (with_reducible rfl) | (with_reducible apply Blk.drew) | (with_reducible apply Blk.drewN) | (with_reducible refine Blk.new_ _ _ ?_; focus (first | assumption | (simp; omega) | (simp; done) | omega | (simp at *; omega))) | (with_reducible apply Blk.alloc) | (with_reducible apply Blk.other_; focus (first | assumption | (simp; omega) | (simp; done) | omega | (simp at *; omega))) | (with_reducible apply Blk.set_) | (with_reducible apply Blk.mod_ ‹Mod _ _ _›; focus (first | assumption | (simp; omega) | (simp; done) | omega | (simp at *; omega))) | (simp; done)))
  go_loopw [5, 12] (fun n i wr => ∃ k : Nat, k ≤ l.length ∧ i = .int .i64 k ∧ n = .int .i64 (tRun ((0, false, false), 0) (l.take k)).2 ∧ Blk wr w.heap.size [.int .i64 0, .bool false, .bool false] 26 ∧
      Blk wr (w.heap.size + 1) [.int .i64 (tRun ((0, false, false), 0) (l.take k)).1.1, .bool (tRun ((0, false, false), 0) (l.take k)).1.2.1, .bool (tRun ((0, false, false), 0) (l.take k)).1.2.2] 26 ∧ Mod [] w wr) (fun _ i _ => l.length - (intOf i).toNat)
  case atStart => exact ⟨0, Nat.zero_le _, rfl, rfl, B0, C0, hm0⟩
  case round =>
    obtain ⟨k, hk, rfl, rfl, hB, hC, hm⟩ := hrel
    clear B0 C0 hm0
    have hz := hm.size
    have hp1 := hC.lt
    by_cases hlt : k < l.length
    · obtain ⟨b, off, rfl, hcell⟩ := hr.gets k hlt (by simp [enMove])
      have Hc := Lib.hid hcell
      clear hcell
      have hc0 := Hc.out _ hm 0 _ rfl
      have hc1 := Hc.out _ hm 1 _ rfl
      have hT := Lib.hid (tRun_take l k hlt)
      have hR := Lib.hid (tRun_rng (l.take k) ((0, false, false), 0) (rng_mk _ _ _ (by decide) (by decide)))
      have hN0 := tRun_le (l.take k) ((0, false, false), 0)
      rw [List.length_take] at hN0
      have hN : (tRun ((0, false, false), 0) (l.take k)).2 ≤ 9223372036854775806 := by
        have : (((0, false, false), 0) : TS × Nat).2 = 0 := rfl
        omega
      clear hN0
      obtain ⟨o, ho⟩ : ∃ x, x = l[k].1 := ⟨_, rfl⟩
      obtain ⟨f, hf⟩ : ∃ x, x = l[k].2 := ⟨_, rfl⟩
      rw [← ho, Nat.add_zero] at hc0
      rw [← hf] at hc1
      rw [← ho, ← hf] at hT
      clear ho hf
      generalize (tRun ((0, false, false), 0) (l.take k)) = r at hC hT hR hN ⊢
      obtain ⟨⟨st, e0, e1⟩, n⟩ := r
      simp only at hC hN ⊢
      have HS := Lib.hid (step_any st e0 e1 o f hR.out)
      have hno := Lib.hid (@tStep_no (st, e0, e1) o f)
      generalize tStep (st, e0, e1) o f = r2 at hT HS hno
      obtain ⟨⟨st2, f0, f1⟩, ok⟩ := r2
      have cC := hC.cell
      have fC := hC.free
      go_wp2_with fail
      refine (HS.out _).mono ?_
      rintro e w1 ⟨rfl, hm1⟩
      have hB1 : Blk w1 w.heap.size [.int .i64 0, .bool false, .bool false] 26 := Blk.mod_ hm1 (by simp) (by (repeat' (first | (with_reducible assumption) | (with_reducible rfl) | (with_reducible apply Blk.drew) | (with_reducible apply Blk.drewN) | (with_reducible refine Blk.new_ _ _ ?_; focus (first | assumption | (simp; omega) | (simp; done) | omega | (simp at *; omega))) | (with_reducible apply Blk.alloc) | (with_reducible apply Blk.other_; focus (first | assumption | (simp; omega) | (simp; done) | omega | (simp at *; omega))) | (with_reducible apply Blk.set_) | (with_reducible apply Blk.mod_ ‹Mod _ _ _›; focus (first | assumption | (simp; omega) | (simp; done) | omega | (simp at *; omega))) | (simp; done))))
      have hC1 : Blk w1 (w.heap.size + 1) [.int .i64 st, .bool e0, .bool e1] 26 := Blk.mod_ hm1 (by simp) (by (repeat' (first | (with_reducible assumption) | (with_reducible rfl) | (with_reducible apply Blk.drew) | (with_reducible apply Blk.drewN) | (with_reducible refine Blk.new_ _ _ ?_; focus (first | assumption | (simp; omega) | (simp; done) | omega | (simp at *; omega))) | (with_reducible apply Blk.alloc) | (with_reducible apply Blk.other_; focus (first | assumption | (simp; omega) | (simp; done) | omega | (simp at *; omega))) | (with_reducible apply Blk.set_) | (with_reducible apply Blk.mod_ ‹Mod _ _ _›; focus (first | assumption | (simp; omega) | (simp; done) | omega | (simp at *; omega))) | (simp; done))))
      have hmm : Mod [] w w1 := by (repeat' (first | (with_reducible exact Mod.refl _ _) | (with_reducible assumption) | (with_reducible refine Mod.drew ?_) | (with_reducible refine Mod.drewN ?_ _) | (with_reducible refine Mod.alloc ?_ _) | (with_reducible refine Mod.setCell_ ?_ ?_; focus (first | (intro hlt_; simp; done) | (intro hlt_; exfalso; simp at hlt_; done) | (intro hlt_; exfalso; simp at hlt_; omega) | (intro hlt_; exfalso; omega) | (intro hlt_; simp at hlt_ ⊢; omega))) | (with_reducible refine Mod.trans_ ‹Mod _ _ _› ?_ ?_; focus (first | (intro x_ hx_ hl_; simp at hx_; done) | (intro x_ hx_ hl_; simp at hx_ ⊢; omega) | (intro x_ hx_ hl_; simp at hx_ hl_ ⊢; omega) | (intro x_ hx_ hl_; simp_all; done) | (intro x_ hx_ hl_; simp_all; omega)))))
      have hz1 := hmm.size
      have hp2 := hC1.lt
      have cC1 := hC1.cell
      have fC1 := hC1.free
      clear hB hC hm cC fC hc0 hc1 hz hp1
      rcases ok with _ | _
      · have hno' := hno.out rfl
        simp only [Prod.mk.injEq] at hno'
        obtain ⟨rfl, rfl, rfl⟩ := hno'
        go_wp2_with fail
        go_roundw
        case rel => exact ⟨k + 1, by omega, by go_num, by rw [hT.out]; rfl, by (repeat' (first | (with_reducible assumption) | (with_reducible rfl) | (with_reducible apply Blk.drew) | (with_reducible apply Blk.drewN) | (with_reducible refine Blk.new_ _ _ ?_; focus (first | assumption | (simp; omega) | (simp; done) | omega | (simp at *; omega))) | (with_reducible apply Blk.alloc) | (with_reducible apply Blk.other_; focus (first | assumption | (simp; omega) | (simp; done) | omega | (simp at *; omega))) | (with_reducible apply Blk.set_) | (with_reducible apply Blk.mod_ ‹Mod _ _ _›; focus (first | assumption | (simp; omega) | (simp; done) | omega | (simp at *; omega))) | (simp; done))), by rw [hT.out]; (repeat' (first | (with_reducible assumption) | (with_reducible rfl) | (with_reducible apply Blk.drew) | (with_reducible apply Blk.drewN) | (with_reducible refine Blk.new_ _ _ ?_; focus (first | assumption | (simp; omega) | (simp; done) | omega | (simp at *; omega))) | (with_reducible apply Blk.alloc) | (with_reducible apply Blk.other_; focus (first | assumption | (simp; omega) | (simp; done) | omega | (simp at *; omega))) | (with_reducible apply Blk.set_) | (with_reducible apply Blk.mod_ ‹Mod _ _ _›; focus (first | assumption | (simp; omega) | (simp; done) | omega | (simp at *; omega))) | (simp; done))), by (repeat' (first | (with_reducible exact Mod.refl _ _) | (with_reducible assumption) | (with_reducible refine Mod.drew ?_) | (with_reducible refine Mod.drewN ?_ _) | (with_reducible refine Mod.alloc ?_ _) | (with_reducible refine Mod.setCell_ ?_ ?_; focus (first | (intro hlt_; simp; done) | (intro hlt_; exfalso; simp at hlt_; done) | (intro hlt_; exfalso; simp at hlt_; omega) | (intro hlt_; exfalso; omega) | (intro hlt_; simp at hlt_ ⊢; omega))) | (with_reducible refine Mod.trans_ ‹Mod _ _ _› ?_ ?_; focus (first | (intro x_ hx_ hl_; simp at hx_; done) | (intro x_ hx_ hl_; simp at hx_ ⊢; omega) | (intro x_ hx_ hl_; simp at hx_ hl_ ⊢; omega) | (intro x_ hx_ hl_; simp_all; done) | (intro x_ hx_ hl_; simp_all; omega)))))⟩
        case measure => simp [intOf]; omega
      · go_wp2_with fail
        go_roundw
        case rel => exact ⟨k + 1, by omega, by go_num, by rw [hT.out]; go_num, by (repeat' (first | (with_reducible assumption) | (with_reducible rfl) | (with_reducible apply Blk.drew) | (with_reducible apply Blk.drewN) | (with_reducible refine Blk.new_ _ _ ?_; focus (first | assumption | (simp; omega) | (simp; done) | omega | (simp at *; omega))) | (with_reducible apply Blk.alloc) | (with_reducible apply Blk.other_; focus (first | assumption | (simp; omega) | (simp; done) | omega | (simp at *; omega))) | (with_reducible apply Blk.set_) | (with_reducible apply Blk.mod_ ‹Mod _ _ _›; focus (first | assumption | (simp; omega) | (simp; done) | omega | (simp at *; omega))) | (simp; done))), by rw [hT.out]; (repeat' (first | (with_reducible assumption) | (with_reducible rfl) | (with_reducible apply Blk.drew) | (with_reducible apply Blk.drewN) | (with_reducible refine Blk.new_ _ _ ?_; focus (first | assumption | (simp; omega) | (simp; done) | omega | (simp at *; omega))) | (with_reducible apply Blk.alloc) | (with_reducible apply Blk.other_; focus (first | assumption | (simp; omega) | (simp; done) | omega | (simp at *; omega))) | (with_reducible apply Blk.set_) | (with_reducible apply Blk.mod_ ‹Mod _ _ _›; focus (first | assumption | (simp; omega) | (simp; done) | omega | (simp at *; omega))) | (simp; done))), by (repeat' (first | (with_reducible exact Mod.refl _ _) | (with_reducible assumption) | (with_reducible refine Mod.drew ?_) | (with_reducible refine Mod.drewN ?_ _) | (with_reducible refine Mod.alloc ?_ _) | (with_reducible refine Mod.setCell_ ?_ ?_; focus (first | (intro hlt_; simp; done) | (intro hlt_; exfalso; simp at hlt_; done) | (intro hlt_; exfalso; simp at hlt_; omega) | (intro hlt_; exfalso; omega) | (intro hlt_; simp at hlt_ ⊢; omega))) | (with_reducible refine Mod.trans_ ‹Mod _ _ _› ?_ ?_; focus (first | (intro x_ hx_ hl_; simp at hx_; done) | (intro x_ hx_ hl_; simp at hx_ ⊢; omega) | (intro x_ hx_ hl_; simp at hx_ hl_ ⊢; omega) | (intro x_ hx_ hl_; simp_all; done) | (intro x_ hx_ hl_; simp_all; omega)))))⟩
        case measure => simp [intOf]; omega
    · obtain rfl : k = l.length := by omega
      rw [List.take_length] at hC ⊢
      have cC := hC.cell
      have fC := hC.free
      have cB := hB.cell
      have fB := hB.free
      go_wp2_with fail
      refine bodyPost_ret (v := .tuple #[.agg #[.int .i64 (tRun ((0, false, false), 0) l).1.1, .bool (tRun ((0, false, false), 0) l).1.2.1, .bool (tRun ((0, false, false), 0) l).1.2.2], .int .i64 (tRun ((0, false, false), 0) l).2]) ?_ rfl ⟨rfl, by (repeat' (first | (with_reducible exact Mod.refl _ _) | (with_reducible assumption) | (with_reducible refine Mod.drew ?_) | (with_reducible refine Mod.drewN ?_ _) | (with_reducible refine Mod.alloc ?_ _) | (with_reducible refine Mod.setCell_ ?_ ?_; focus (first | (intro hlt_; simp; done) | (intro hlt_; exfalso; simp at hlt_; done) | (intro hlt_; exfalso; simp at hlt_; omega) | (intro hlt_; exfalso; omega) | (intro hlt_; simp at hlt_ ⊢; omega))) | (with_reducible refine Mod.trans_ ‹Mod _ _ _› ?_ ?_; focus (first | (intro x_ hx_ hl_; simp at hx_; done) | (intro x_ hx_ hl_; simp at hx_ ⊢; omega) | (intro x_ hx_ hl_; simp at hx_ hl_ ⊢; omega) | (intro x_ hx_ hl_; simp_all; done) | (intro x_ hx_ hl_; simp_all; omega)))))⟩
      simp [results, Try.results15, go_sem, *]

end Go.Proofs.Ytedkjhbdbonmiaa
