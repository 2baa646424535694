/- Regions that draw their order, with calls, allocations and stores in them: one walk of one order serves every order. Plain laws over the model; no function of the program. -/
import Derived.Test.YtllhoadbocnldaaBase
import Derived.Deep.Quiet
set_option linter.unusedVariables false
set_option linter.unusedSimpArgs false
namespace Go.Proofs.Ytllhoadbocnldaa
open Go.RowKit

/-! ### What holds of some blocks -/
structure Res where
  foot : List Nat
  holds : World → Prop
  loc : ∀ w w', (∀ n ∈ foot, w'.heap[n]? = w.heap[n]?) → holds w → holds w'
  ex : ∀ w, holds w → ∀ n ∈ foot, n < w.heap.size

/-! ### Memory that the region makes itself -/
abbrev Gh := Nat → Option (List Value × TypeId)
def Gh.put (g : Gh) (n : Nat) (x : List Value × TypeId) : Gh := fun k => if k = n then some x else g k
theorem Gh.put_comm (g : Gh) {n m : Nat} (h : n ≠ m) (x y : List Value × TypeId) : (g.put n x).put m y = (g.put m y).put n x := by
  funext k
  simp only [Gh.put]
  by_cases h1 : k = m
  · subst h1; simp [Ne.symm h]
  · by_cases h2 : k = n
    · subst h2; simp [h1]
    · simp [h1, h2]
theorem Gh.put_same (g : Gh) (n : Nat) (x : List Value × TypeId) : (g.put n x) n = some x := by simp [Gh.put]
theorem Gh.put_ne (g : Gh) {n m : Nat} (h : m ≠ n) (x : List Value × TypeId) : (g.put n x) m = g m := by simp [Gh.put, h]
theorem Gh.put_none {g : Gh} {n m : Nat} {x : List Value × TypeId} (h : (g.put n x) m = none) : m ≠ n ∧ g m = none := by
  by_cases e : m = n
  · subst e; simp [Gh.put] at h
  · exact ⟨e, by rwa [Gh.put_ne g e] at h⟩

/-- The world is of the class, R holds, and what the region made reads as g says. -/
structure RW (B : Nat) (C : World → Prop) (R : Res) (g : Gh) (w : World) : Prop where
  base : B ≤ w.heap.size
  c : C w
  r : R.holds w
  mem : ∀ n l t, g n = some (l, t) → Blk w n l t
  low : ∀ n, n < B → g n = none
  dis : ∀ n, n ∈ R.foot → g n = none
/-- Nothing above B matters. -/
def Shut (B : Nat) (C : World → Prop) : Prop := ∀ w w', C w → Below B w w' → C w'
/-- Behind an operation: blocks from B on that were there, and are not of the foot, are as they were. -/
def Kp (B : Nat) (foot foot' : List Nat) (w w' : World) : Prop := w.heap.size ≤ w'.heap.size ∧ (∀ k, B ≤ k → k < w.heap.size → k ∉ foot → w'.heap[k]? = w.heap[k]?) ∧ ∀ n ∈ foot', n ∈ foot ∨ w.heap.size ≤ n
theorem Kp.of_mod {B : Nat} {S foot foot' : List Nat} {w w' : World} (h : Mod S w w') (hS : ∀ x, x ∈ S → B ≤ x → x ∈ foot) (hf : ∀ n ∈ foot', n ∈ foot ∨ w.heap.size ≤ n) : Kp B foot foot' w w' :=
  ⟨h.size, fun k hk hlt hn => h.block k hlt (fun hm => hn (hS k hm hk)), hf⟩
theorem Kp.blk {B : Nat} {f f' : List Nat} {w w' : World} (h : Kp B f f' w w') {n : Nat} {l : List Value} {t : TypeId} (hB : B ≤ n) (hn : n ∉ f) (hb : Blk w n l t) : Blk w' n l t := by
  unfold Blk at *; rw [h.2.1 n hB (lt_of_block hb) hn]; exact hb
theorem RW.act {B : Nat} {C : World → Prop} {R R' : Res} {g : Gh} {w w' : World} (hw : RW B C R g w) (hc : C w') (hr : R'.holds w') (hk : Kp B R.foot R'.foot w w') : RW B C R' g w' := by
  refine ⟨Nat.le_trans hw.base hk.1, hc, hr, fun n l t hn => ?_, hw.low, fun n hn => ?_⟩
  · refine hk.blk ?_ (fun hf => by rw [hw.dis n hf] at hn; cases hn) (hw.mem n l t hn)
    rcases Nat.lt_or_ge n B with q | q
    · rw [hw.low n q] at hn; cases hn
    · exact q
  · rcases hk.2.2 n hn with h | h
    · exact hw.dis n h
    · cases e : g n with
      | none => rfl
      | some x => obtain ⟨l, t⟩ := x; have := (hw.mem _ _ _ e).lt; omega
theorem RW.fresh {B : Nat} {C : World → Prop} {R : Res} {g : Gh} {w : World} (h : RW B C R g w) : g w.heap.size = none := by
  cases e : g w.heap.size with
  | none => rfl
  | some x => obtain ⟨l, t⟩ := x; have := (h.mem _ _ _ e).lt; omega
theorem RW.weaken {B : Nat} {C : World → Prop} {R : Res} {g : Gh} {n : Nat} {x : List Value × TypeId} {w : World} (h : RW B C R (g.put n x) w) (hn : g n = none) : RW B C R g w :=
  ⟨h.base, h.c, h.r, fun m l t hm => h.mem m l t (by rw [Gh.put_ne]; exact hm; rintro rfl; rw [hn] at hm; cases hm), fun m hm => by
    by_cases e : m = n
    · subst e; exact hn
    · have := h.low m hm; rwa [Gh.put_ne g e] at this, fun m hm => by
    by_cases e : m = n
    · subst e; exact hn
    · have := h.dis m hm; rwa [Gh.put_ne g e] at this⟩
theorem RW.alloc {B : Nat} {C : World → Prop} {R : Res} {g : Gh} {w : World} (h : RW B C R g w) (hC : Shut B C) (l : List Value) (t : TypeId) :
    RW B C R (g.put w.heap.size (l, t)) (w.alloc (.cells l.toArray t)) := by
  have hb : Below B w (w.alloc (.cells l.toArray t)) := (Below.refl B w).alloc h.base _
  refine ⟨by have := h.base; simp; omega, hC _ _ h.c hb, R.loc _ _ (fun n hn => Below.heap_alloc _ _ _ (R.ex w h.r n hn)) h.r, fun n l' t' hn => ?_, fun n hn => ?_, fun n hn => ?_⟩
  · by_cases e : n = w.heap.size
    · subst e; rw [Gh.put_same] at hn; injection hn with hn; injection hn with h1 h2; subst h1; subst h2; exact Blk.new _ _ _
    · rw [Gh.put_ne g e] at hn; exact (h.mem _ _ _ hn).alloc _
  · rw [Gh.put_ne]; exact h.low n hn; have := h.base; omega
  · rw [Gh.put_ne]; exact h.dis n hn; have := R.ex w h.r n hn; omega
/-- Nothing but block n has turned. -/
structure OnlyAt (n : Nat) (w w' : World) : Prop where
  os : w'.os = w.os
  tape : w'.tape = w.tape
  output : w'.output = w.output
  size : w'.heap.size = w.heap.size
  block : ∀ k, k ≠ n → w'.heap[k]? = w.heap[k]?
theorem RW.put {B : Nat} {C : World → Prop} {R : Res} {g : Gh} {w w' : World} (h : RW B C R g w) (hC : Shut B C) {n : Nat} {l l' : List Value} {t : TypeId} (hg : g n = some (l, t))
    (ho : OnlyAt n w w') (hb : Blk w' n l' t) : RW B C R (g.put n (l', t)) w' := by
  have hBn : B ≤ n := by
    rcases Nat.lt_or_ge n B with h1 | h1
    · rw [h.low n h1] at hg; cases hg
    · exact h1
  have hbl : Below B w w' := ⟨ho.os, ho.tape, ho.output, by rw [ho.size]; exact Nat.le_refl _, fun k hk => ho.block k (by omega)⟩
  refine ⟨by rw [ho.size]; exact h.base, hC _ _ h.c hbl, R.loc _ _ (fun k hk => ho.block k (fun e => by subst e; rw [h.dis k hk] at hg; cases hg)) h.r, fun m l2 t2 hm => ?_, fun m hm => ?_, fun m hm => ?_⟩
  · by_cases e : m = n
    · subst e; rw [Gh.put_same] at hm; injection hm with hm; injection hm with h1 h2; subst h1; subst h2; exact hb
    · rw [Gh.put_ne g e] at hm
      have := h.mem _ _ _ hm
      unfold Blk at *; rw [ho.block m e]; exact this
  · rw [Gh.put_ne]; exact h.low m hm; omega
  · rw [Gh.put_ne]; exact h.dis m hm; rintro rfl; rw [h.dis m hm] at hg; cases hg

/-! ### What an operation does -/
section
variable {P : Program} {ops : Array Oper} {md : Region.Mode} {B : Nat} {C : World → Prop}
/-- It yields v and leaves the world as it is. -/
def valAt (P : Program) (o : Oper) (a : Act) (w : World) (v : Value) : Prop :=
  (execOp a.eval o).run P w = .ok (.value v) w ∨ ((execOp a.eval o).run P w = .ok .skip w ∧ v = undef)
theorem valAt.uniq {o : Oper} {a : Act} {w : World} {v u : Value} (h : valAt P o a w v) (k : valAt P o a w u) : v = u := by
  rcases h with h | ⟨h, rfl⟩ <;> rcases k with k | ⟨k, rfl⟩ <;> rw [h] at k
  · injection k with k _; injection k
  · injection k with k _; cases k
  · injection k with k _; cases k
/-- It makes a block. -/
def newAt (P : Program) (o : Oper) (a : Act) (x : (Nat → Value) × List Value × TypeId) : Prop :=
  ∀ w, (execOp a.eval o).run P w = .ok (.value (x.1 w.heap.size)) (w.alloc (.cells x.2.1.toArray x.2.2))
theorem newAt.uniq (w : World) {o : Oper} {a : Act} {x y : (Nat → Value) × List Value × TypeId} (h : newAt P o a x) (k : newAt P o a y) : (∀ n, x.1 n = y.1 n) ∧ x.2 = y.2 := by
  constructor
  · intro n
    have e : ({ w with heap := Array.replicate n (.cells #[] 0) } : World).heap.size = n := by simp
    have h1 := h { w with heap := Array.replicate n (.cells #[] 0) }
    rw [k] at h1
    injection h1 with h1 _
    injection h1 with h1
    rw [e] at h1
    exact h1.symm
  · have h1 := h w
    rw [k] at h1
    injection h1 with _ h1
    have h2 := congrArg World.heap h1
    have h3 : w.heap.push (.cells y.2.1.toArray y.2.2) = w.heap.push (.cells x.2.1.toArray x.2.2) := h2
    have h4 := (Array.push_eq_push.1 h3).1
    injection h4 with h5 h6
    exact Prod.ext (by simpa using h5.symm) h6.symm
/-- It turns what R tells of, or calls. -/
def actUpon (P : Program) (B : Nat) (C : World → Prop) (R : Res) (Φ : Value → Res → Prop) (w : World) : Result Next → Prop
  | .ok (.value v) w' => ∃ r, Φ v r ∧ C w' ∧ r.holds w' ∧ Kp B R.foot r.foot w w'
  | .ok .skip w' => ∃ r, Φ undef r ∧ C w' ∧ r.holds w' ∧ Kp B R.foot r.foot w w'
  | .ok (.enter f args) w' => w' = w ∧ Calls P f args w (fun e w'' => ∃ v r, e = .returned v ∧ Φ v r ∧ C w'' ∧ r.holds w'' ∧ Kp B R.foot r.foot w w'')
  | _ => False
def actAt (P : Program) (B : Nat) (C : World → Prop) (g : Gh) (R : Res) (o : Oper) (a : Act) (Φ : Value → Res → Prop) : Prop :=
  ∀ w, C w → R.holds w → (∀ n l t, g n = some (l, t) → Blk w n l t) → actUpon P B C R Φ w ((execOp a.eval o).run P w)
theorem actAt.more {P : Program} {B : Nat} {C : World → Prop} {g : Gh} {R : Res} {o : Oper} {a : Act} {Φ : Value → Res → Prop} (h : actAt P B C g R o a Φ) {n : Nat} (hn : g n = none) (x : List Value × TypeId) : actAt P B C (g.put n x) R o a Φ :=
  fun w hc hr hg => h w hc hr fun m l t hm => hg m l t (by rw [Gh.put_ne]; exact hm; rintro rfl; rw [hn] at hm; cases hm)
/-- It turns a block that the region made. -/
def putAt (P : Program) (o : Oper) (a : Act) (n : Nat) (l : List Value) (t : TypeId) (l' : List Value) : Prop :=
  ∀ w, Blk w n l t → ∃ w', ((execOp a.eval o).run P w = .ok (.value undef) w' ∨ (execOp a.eval o).run P w = .ok .skip w') ∧ OnlyAt n w w' ∧ Blk w' n l' t
def isAct (o : Oper) : Bool :=
  match o.op with
  | .call { callee := .builtin b, .. } => !(match b with | .len | .cap | .min | .max => true | _ => false)
  | .convert s d _ => Nat.beq d 9999999
  | .load T _ => Nat.beq T 5
  | .call _ | .store .. | .mapUpdate .. | .mapEntry .. | .entryStore .. | .lookup .. | .next .. | .range .. | .makeSlice .. | .makeMap .. | .go _ | .defer _ | .insert .. => true
  | _ => false
def isPut (o : Oper) : Bool := match o.op with | .store .. => true | _ => false
/-- It reads a row of bytes, to make a string of it. -/
def isGet (o : Oper) : Bool := match o.op with | .convert s d _ => Nat.beq s 9999999 && !Nat.beq d 9999999 | _ => false
/-- It yields v, wherever the region's own blocks are as they are told. -/
def getAt (P : Program) (C : World → Prop) (g : Gh) (o : Oper) (a : Act) (v : Value) : Prop := ∀ w, C w → (∀ n l t, g n = some (l, t) → Blk w n l t) → (execOp a.eval o).run P w = .ok (.value v) w
theorem getAt.more {P : Program} {C : World → Prop} {g : Gh} {o : Oper} {a : Act} {v : Value} (h : getAt P C g o a v) {n : Nat} (hn : g n = none) (x : List Value × TypeId) : getAt P C (g.put n x) o a v :=
  fun w hc hg => h w hc fun m l t hm => hg m l t (by rw [Gh.put_ne]; exact hm; rintro rfl; rw [hn] at hm; cases hm)
/-- It makes memory. -/
def isNew (o : Oper) : Bool := match o.op with | .alloc _ | .box .. | .buildSlice .. => true | _ => false
abbrev KT := Act → Gh → Res → Prop
def Inh (B : Nat) (C : World → Prop) (R : Res) (g : Gh) : Prop := ∃ w, RW B C R g w
/-- Operation o, wanted or not. -/
def opT (P : Program) (B : Nat) (C : World → Prop) (ops : Array Oper) (o : Oper) (K : KT) : KT := fun a g R =>
  if Region.wanted o (yielded ops a.tmps) = true then
    if isAct o = true then
      (∃ Φ, actAt P B C g R o a Φ ∧ ∀ v r, Φ v r → Inh B C r g → K (a.put o.dst v) g r) ∨
      (isPut o = true ∧ ∃ n l t l', g n = some (l, t) ∧ putAt P o a n l t l' ∧ K (a.put o.dst undef) (g.put n (l', t)) R)
    else if isNew o = true then
      (∃ x, newAt P o a x) ∧ ∀ x, newAt P o a x → ∀ n, B ≤ n → g n = none → Inh B C R (g.put n x.2) → K (a.put o.dst (x.1 n)) (g.put n x.2) R
    else if isGet o = true then ∃ v, getAt P C g o a v ∧ K (a.put o.dst v) g R
    else (∃ v, ∀ w, C w → valAt P o a w v) ∧ ∀ v, (∀ w, C w → valAt P o a w v) → K (a.put o.dst v) g R
  else K (a.put o.dst undef) g R

theorem opT_mono {o : Oper} {K K' : KT} {a : Act} {g : Gh} {R : Res} (hC : Shut B C) (hI : Inh B C R g) (h : ∀ a g R, Inh B C R g → K a g R → K' a g R)
    (hh : opT P B C ops o K a g R) : opT P B C ops o K' a g R := by
  unfold opT at *
  split
  · rename_i h1; rw [if_pos h1] at hh
    split
    · rename_i h2; rw [if_pos h2] at hh
      rcases hh with ⟨Φ, h3, h4⟩ | ⟨hst, n, l, t, l', h3, h4, h5⟩
      · exact .inl ⟨Φ, h3, fun v r hv hi => h _ _ _ hi (h4 v r hv hi)⟩
      · obtain ⟨w, hw⟩ := hI
        obtain ⟨w', _, ho, hb⟩ := h4 w (hw.mem _ _ _ h3)
        exact .inr ⟨hst, n, l, t, l', h3, h4, h _ _ _ ⟨w', hw.put hC h3 ho hb⟩ h5⟩
    · rename_i h2; rw [if_neg h2] at hh
      split
      · rename_i h3; rw [if_pos h3] at hh
        exact ⟨hh.1, fun x hx n hn hg hi => h _ _ _ hi (hh.2 x hx n hn hg hi)⟩
      · rename_i h3; rw [if_neg h3] at hh
        split
        · rename_i h4; rw [if_pos h4] at hh
          obtain ⟨v, h5, h6⟩ := hh
          exact ⟨v, h5, h _ _ _ hI h6⟩
        · rename_i h4; rw [if_neg h4] at hh
          exact ⟨hh.1, fun v hv => h _ _ _ hI (hh.2 v hv)⟩
  · rename_i h1; rw [if_neg h1] at hh
    exact h _ _ _ hI hh

theorem opT_mono' {o : Oper} {K K' : KT} {a : Act} {g : Gh} {R : Res} (h : ∀ a g R, K a g R → K' a g R) (hh : opT P B C ops o K a g R) : opT P B C ops o K' a g R := by
  unfold opT at *
  split
  · rename_i h1; rw [if_pos h1] at hh
    split
    · rename_i h2; rw [if_pos h2] at hh
      rcases hh with ⟨Φ, h3, h4⟩ | ⟨hst, n, l, t, l', h3, h4, h5⟩
      · exact .inl ⟨Φ, h3, fun v r hv hi => h _ _ _ (h4 v r hv hi)⟩
      · exact .inr ⟨hst, n, l, t, l', h3, h4, h _ _ _ h5⟩
    · rename_i h2; rw [if_neg h2] at hh
      split
      · rename_i h3; rw [if_pos h3] at hh
        exact ⟨hh.1, fun x hx n hn hg hi => h _ _ _ (hh.2 x hx n hn hg hi)⟩
      · rename_i h3; rw [if_neg h3] at hh
        split
        · rename_i h4; rw [if_pos h4] at hh
          obtain ⟨v, h5, h6⟩ := hh
          exact ⟨v, h5, h _ _ _ h6⟩
        · rename_i h4; rw [if_neg h4] at hh
          exact ⟨hh.1, fun v hv => h _ _ _ (hh.2 v hv)⟩
  · rename_i h1; rw [if_neg h1] at hh
    exact h _ _ _ hh
/-- It is what the model asks of it. -/
theorem opT_sound {o : Oper} {K : KT} {K' : Act → World → Prop} {Q : Exit → Act → World → Prop} {a : Act} {g : Gh} {R : Res} {w : World} (hC : Shut B C) (hw : RW B C R g w)
    (h : ∀ a g R w, RW B C R g w → K a g R → K' a w) (hh : opT P B C ops o K a g R) :
    if Region.wanted o (yielded ops a.tmps) then o.wp P a w K' Q ∨ (o.asks P a w ∧ LetsOut Q) else K' (a.put o.dst undef) w := by
  unfold opT at hh
  by_cases h1 : Region.wanted o (yielded ops a.tmps) = true
  · rw [if_pos h1] at hh ⊢
    left
    unfold Oper.wp
    by_cases h2 : isAct o = true
    · rw [if_pos h2] at hh
      rcases hh with ⟨Φ, h3, h4⟩ | ⟨hst, n, l, t, l', h3, h4, h5⟩
      · have h5 := h3 w hw.c hw.r hw.mem
        have low : ∀ {w' : World} {v : Value}, (∃ r, Φ v r ∧ C w' ∧ r.holds w' ∧ Kp B R.foot r.foot w w') → K' (a.put o.dst v) w' := by
          rintro w' v ⟨r, hv, hc, hr, hk⟩
          have hrw := hw.act hc hr hk
          exact h _ _ _ _ hrw (h4 v r hv ⟨w', hrw⟩)
        generalize (execOp a.eval o).run P w = r at h5
        cases r with
        | ok n w' =>
          cases n <;> simp only [actUpon] at h5 <;> simp only [Oper.upon]
          case value u => exact low h5
          case skip => exact low h5
          case enter f args =>
            obtain ⟨rfl, hc⟩ := h5
            exact hc.mono fun e w'' ⟨v, r, he, hv, hc, hr, hk⟩ => by subst he; exact low ⟨r, hv, hc, hr, hk⟩
        | halt x w' => simp only [actUpon] at h5
      · obtain ⟨w', hrun, ho, hb⟩ := h4 w (hw.mem _ _ _ h3)
        have := h _ _ _ _ (hw.put hC h3 ho hb) h5
        rcases hrun with hrun | hrun <;> rw [hrun] <;> exact this
    · rw [if_neg h2] at hh
      split at hh
      · obtain ⟨⟨x, hx⟩, h4⟩ := hh
        rw [hx w]
        have hrw := hw.alloc hC x.2.1 x.2.2
        exact h _ _ _ _ hrw (h4 x hx _ hw.base hw.fresh ⟨_, hrw⟩)
      · split at hh
        · obtain ⟨v, hv, h4⟩ := hh
          have := h _ _ _ _ hw h4
          rw [hv w hw.c hw.mem]
          exact this
        · obtain ⟨⟨v, hv⟩, h4⟩ := hh
          have := h _ _ _ _ hw (h4 v hv)
          rcases hv w hw.c with hrun | ⟨hrun, rfl⟩ <;> rw [hrun] <;> exact this
  · rw [if_neg h1] at hh ⊢
    exact h _ _ _ _ hw hh

/-! ### Whatever order is picked -/
def wpAnyT (P : Program) (B : Nat) (C : World → Prop) (md : Region.Mode) (ops : Array Oper) (Q : KT) : Nat → Array Bool → KT
  | 0, listed => fun a g R => Region.ready md ops listed = [] ∧ Q a g R
  | fuel + 1, listed => fun a g R =>
    (Region.ready md ops listed = [] → Q a g R) ∧ ∀ i ∈ Region.ready md ops listed, ∀ o, ops[i]? = some o → opT P B C ops o (wpAnyT P B C md ops Q fuel (listed.setIfInBounds i true)) a g R
theorem wpAny_of_T {Q : KT} {Q' : Exit → Act → World → Prop} (hC : Shut B C) (hQ : ∀ a g R w, RW B C R g w → Q a g R → Q' .normal a w) : ∀ (fuel : Nat) (listed : Array Bool) (a : Act) (g : Gh) (R : Res) (w : World),
    RW B C R g w → wpAnyT P B C md ops Q fuel listed a g R → wpAny P md ops Q' fuel listed a w
  | 0, _, _, _, _, _, hw, h => ⟨h.1, hQ _ _ _ _ hw h.2⟩
  | fuel + 1, listed, _, _, _, _, hw, h => ⟨fun h0 => hQ _ _ _ _ hw (h.1 h0), fun i hi => by
      obtain ⟨_, o, ho, _⟩ := mem_ready.1 hi
      unfold wpOp
      simp only [ho]
      exact opT_sound hC hw (fun a g R w hw hk => wpAny_of_T hC hQ fuel _ a g R w hw hk) (h.2 i hi o ho)⟩

/-- May the two come up in either order? -/
def pairT (oi oj : Oper) : Bool := !(isAct oi && isAct oj) && !(isNew oi && isAct oj) && !(isNew oi && isGet oj) && !(isGet oi && isPut oj) && !(isPut oi && isGet oj)

section comm
variable {oi oj : Oper} {a : Act} {v : Value}
theorem valAt_put (hs : ∀ cs b, oj.op ≠ .select cs b) (h : ∀ d, oi.dst = some d → d ∉ oj.looksAt ops) {w : World} {u : Value} : valAt P oj (a.put oi.dst v) w u ↔ valAt P oj a w u := by
  unfold valAt; rw [execOp_put oj hs a oi.dst v h]
theorem newAt_put (hs : ∀ cs b, oj.op ≠ .select cs b) (h : ∀ d, oi.dst = some d → d ∉ oj.looksAt ops) {x : (Nat → Value) × List Value × TypeId} : newAt P oj (a.put oi.dst v) x ↔ newAt P oj a x := by
  unfold newAt; rw [execOp_put oj hs a oi.dst v h]
theorem actAt_put (hs : ∀ cs b, oj.op ≠ .select cs b) (h : ∀ d, oi.dst = some d → d ∉ oj.looksAt ops) {g : Gh} {R : Res} {Φ : Value → Res → Prop} : actAt P B C g R oj (a.put oi.dst v) Φ ↔ actAt P B C g R oj a Φ := by
  unfold actAt; rw [execOp_put oj hs a oi.dst v h]
theorem putAt_put (hs : ∀ cs b, oj.op ≠ .select cs b) (h : ∀ d, oi.dst = some d → d ∉ oj.looksAt ops) {n : Nat} {l l' : List Value} {t : TypeId} : putAt P oj (a.put oi.dst v) n l t l' ↔ putAt P oj a n l t l' := by
  unfold putAt; rw [execOp_put oj hs a oi.dst v h]
theorem getAt_put (hs : ∀ cs b, oj.op ≠ .select cs b) (h : ∀ d, oi.dst = some d → d ∉ oj.looksAt ops) {g : Gh} {u : Value} : getAt P C g oj (a.put oi.dst v) u ↔ getAt P C g oj a u := by
  unfold getAt; rw [execOp_put oj hs a oi.dst v h]
end comm

theorem Inh.weaken {R : Res} {g : Gh} {n : Nat} {x : List Value × TypeId} (h : Inh B C R (g.put n x)) (hn : g n = none) : Inh B C R g := let ⟨w, hw⟩ := h; ⟨w, hw.weaken hn⟩

theorem act_real {o : Oper} {a : Act} {g : Gh} {R : Res} {Φ : Value → Res → Prop} (hact : actAt P B C g R o a Φ) (hI : Inh B C R g) : ∃ v r, Φ v r ∧ Inh B C r g := by
  obtain ⟨w, hw⟩ := hI
  have h5 := hact w hw.c hw.r hw.mem
  have low : ∀ {w' : World} {v : Value}, (∃ r, Φ v r ∧ C w' ∧ r.holds w' ∧ Kp B R.foot r.foot w w') → ∃ v r, Φ v r ∧ Inh B C r g := fun {w'} {v} ⟨r, hv, hc, hr, hk⟩ => ⟨v, r, hv, w', hw.act hc hr hk⟩
  generalize (execOp a.eval o).run P w = r at h5
  cases r with
  | ok n w' =>
    cases n <;> simp only [actUpon] at h5
    case value u => exact low h5
    case skip => exact low h5
    case enter f args =>
      obtain ⟨rfl, hc⟩ := h5
      obtain ⟨e, w'', fr, ⟨v, r, _, hv, hc, hr, hk⟩, _⟩ := hc []
      exact low ⟨r, hv, hc, hr, hk⟩
  | halt x w' => simp only [actUpon] at h5
theorem opT_false {o : Oper} {a : Act} {g : Gh} {R : Res} (hC : Shut B C) (hI : Inh B C R g) : ¬ opT P B C ops o (fun _ _ _ => False) a g R := by
  intro h
  unfold opT at h
  split at h
  · split at h
    · rcases h with ⟨Φ, h3, h4⟩ | ⟨hst, n, l, t, l', h3, h4, h5⟩
      · obtain ⟨v, r, hv, hi⟩ := act_real h3 hI
        exact h4 v r hv hi
      · exact h5
    · split at h
      · obtain ⟨⟨x, hx⟩, h⟩ := h
        obtain ⟨w, hw⟩ := hI
        exact h x hx _ hw.base hw.fresh ⟨_, hw.alloc hC _ _⟩
      · split at h
        · obtain ⟨v, _, h⟩ := h
          exact h
        · obtain ⟨⟨v, hv⟩, h⟩ := h
          exact h v hv
  · exact h

/-- Two that are apart: either may be first. -/
theorem opT_comm {oi oj : Oper} {K : KT} {a : Act} {g : Gh} {R : Res} (hap : oi.apart ops oj = true) (hp : pairT oi oj = true) (hsi : ∀ cs b, oi.op ≠ .select cs b) (hsj : ∀ cs b, oj.op ≠ .select cs b)
    (hC : Shut B C) (hI : Inh B C R g) (h : opT P B C ops oi (opT P B C ops oj K) a g R) : opT P B C ops oj (opT P B C ops oi K) a g R := by
  obtain ⟨h1, h2, h3⟩ := Oper.apart_spec hap
  have hwj : ∀ v, Region.wanted oj (yielded ops (a.put oi.dst v).tmps) = Region.wanted oj (yielded ops a.tmps) := fun v => wanted_put oj a oi.dst v h1
  have hwi : ∀ v, Region.wanted oi (yielded ops (a.put oj.dst v).tmps) = Region.wanted oi (yielded ops a.tmps) := fun v => wanted_put oi a oj.dst v h3
  have hpc : ∀ v u, (a.put oi.dst v).put oj.dst u = (a.put oj.dst u).put oi.dst v := fun v u => Act.put_comm a v u h2
  have cv := fun (v : Value) (w : World) (u : Value) => @valAt_put P ops oi oj a v hsj h1 w u
  have cn := fun (v : Value) x => @newAt_put P ops oi oj a v hsj h1 x
  have ca := fun (v : Value) g R Φ => @actAt_put P ops B C oi oj a v hsj h1 g R Φ
  have cp := fun (v : Value) n l l' t => @putAt_put P ops oi oj a v hsj h1 n l l' t
  have dv := fun (v : Value) (w : World) (u : Value) => @valAt_put P ops oj oi a v hsi h3 w u
  have dn := fun (v : Value) x => @newAt_put P ops oj oi a v hsi h3 x
  have da := fun (v : Value) g R Φ => @actAt_put P ops B C oj oi a v hsi h3 g R Φ
  have dp := fun (v : Value) n l l' t => @putAt_put P ops oj oi a v hsi h3 n l l' t
  simp only [pairT, Bool.and_eq_true, Bool.not_eq_true', Bool.and_eq_false_iff] at hp
  obtain ⟨⟨⟨⟨hp1, hp2⟩, hp3⟩, hp4⟩, hp5⟩ := hp
  have cg := fun (v : Value) g u => @getAt_put P ops C oi oj a v hsj h1 g u
  have dg := fun (v : Value) g u => @getAt_put P ops C oj oi a v hsi h3 g u
  unfold opT at h ⊢
  simp only [hwj, cv, cn, ca, cp, cg, hpc] at h
  simp only [hwi, dv, dn, da, dp, dg]
  clear hwj hwi cv cn ca cp cg dv dn da dp dg hpc
  have val1 : ∀ {o : Oper} {v u : Value}, (∀ w, C w → valAt P o a w v) → (∀ w, C w → valAt P o a w u) → v = u := fun hv hu => by
    obtain ⟨w, hw⟩ := hI
    exact (hv w hw.c).uniq (hu w hw.c)
  have get1 : ∀ {o : Oper} {v u : Value}, getAt P C g o a v → getAt P C g o a u → v = u := fun hv hu => by
    obtain ⟨w, hw⟩ := hI
    have e1 := hv w hw.c hw.mem
    have e2 := hu w hw.c hw.mem
    rw [e1] at e2
    injection e2 with e2 _
    injection e2
  by_cases wi : Region.wanted oi (yielded ops a.tmps) = true <;> by_cases wj : Region.wanted oj (yielded ops a.tmps) = true
  · simp only [wi, wj, if_true] at h ⊢
    by_cases ai : isAct oi = true
    · have aj : isAct oj = false := hp1.resolve_left (by simp [ai])
      simp only [ai, aj, if_true, Bool.false_eq_true, if_false] at h ⊢
      by_cases nj : isNew oj = true
      · simp only [nj, if_true] at h ⊢
        rcases h with ⟨Φ, hact, hk⟩ | ⟨hst, n, l, t, l', hg, hput, hk⟩
        · obtain ⟨v0, r0, hv0, hi0⟩ := act_real hact hI
          exact ⟨(hk v0 r0 hv0 hi0).1, fun x hx n hn hg hi => .inl ⟨Φ, hact.more hg x.2, fun v r hv hi' => (hk v r hv (hi'.weaken hg)).2 x hx n hn hg hi'⟩⟩
        · refine ⟨hk.1, fun x hx m hm hgm hi => ?_⟩
          have hne : n ≠ m := by rintro rfl; rw [hgm] at hg; cases hg
          have hg' : (g.put m x.2) n = some (l, t) := by rw [Gh.put_ne _ hne]; exact hg
          refine .inr ⟨hst, n, l, t, l', hg', hput, ?_⟩
          rw [Gh.put_comm _ (Ne.symm hne)]
          refine hk.2 x hx m hm (by rw [Gh.put_ne _ (Ne.symm hne)]; exact hgm) ?_
          rw [Gh.put_comm _ hne]
          obtain ⟨w, hw⟩ := hi
          obtain ⟨w', _, ho, hb⟩ := hput w (hw.mem _ _ _ hg')
          exact ⟨w', hw.put hC hg' ho hb⟩
      · simp only [nj, Bool.false_eq_true, if_false] at h ⊢
        by_cases gj : isGet oj = true
        · have si : isPut oi = false := hp5.resolve_right (by simp [gj])
          simp only [gj, si, if_true, Bool.false_eq_true, false_and, or_false] at h ⊢
          obtain ⟨Φ, hact, hk⟩ := h
          obtain ⟨v0, r0, hv0, hi0⟩ := act_real hact hI
          obtain ⟨u0, hu0, _⟩ := hk v0 r0 hv0 hi0
          refine ⟨u0, hu0, Φ, hact, fun v r hv hi => ?_⟩
          obtain ⟨u, hu, hk2⟩ := hk v r hv hi
          rw [get1 hu0 hu]
          exact hk2
        · simp only [gj, Bool.false_eq_true, if_false] at h ⊢
          rcases h with ⟨Φ, hact, hk⟩ | ⟨hst, n, l, t, l', hg, hput, hk⟩
          · obtain ⟨v0, r0, hv0, hi0⟩ := act_real hact hI
            exact ⟨(hk v0 r0 hv0 hi0).1, fun u hu => .inl ⟨Φ, hact, fun v r hv hi => (hk v r hv hi).2 u hu⟩⟩
          · exact ⟨hk.1, fun u hu => .inr ⟨hst, n, l, t, l', hg, hput, hk.2 u hu⟩⟩
    · simp only [ai, Bool.false_eq_true, if_false] at h ⊢
      by_cases ni : isNew oi = true
      · have aj : isAct oj = false := hp2.resolve_left (by simp [ni])
        have gj : isGet oj = false := hp3.resolve_left (by simp [ni])
        simp only [ni, aj, gj, if_true, Bool.false_eq_true, if_false] at h ⊢
        obtain ⟨⟨x0, hx0⟩, hk⟩ := h
        have hI0 : ∃ n, B ≤ n ∧ g n = none ∧ Inh B C R (g.put n x0.2) := by
          obtain ⟨w, hw⟩ := hI
          exact ⟨w.heap.size, hw.base, hw.fresh, _, hw.alloc hC _ _⟩
        obtain ⟨n0, hn0, hg0, hi0⟩ := hI0
        by_cases nj : isNew oj = true
        · simp only [nj, if_true] at hk ⊢
          refine ⟨(hk x0 hx0 n0 hn0 hg0 hi0).1, fun y hy m hm hgm hi => ⟨⟨x0, hx0⟩, fun x hx n hn hgn hi' => ?_⟩⟩
          obtain ⟨hne, hgn'⟩ := Gh.put_none hgn
          have hgm' : (g.put n x.2) m = none := by rw [Gh.put_ne _ (Ne.symm hne)]; exact hgm
          rw [Gh.put_comm _ (Ne.symm hne)] at hi' ⊢
          exact (hk x hx n hn hgn' (hi'.weaken hgm')).2 y hy m hm hgm' hi'
        · simp only [nj, Bool.false_eq_true, if_false] at hk ⊢
          exact ⟨(hk x0 hx0 n0 hn0 hg0 hi0).1, fun u hu => ⟨⟨x0, hx0⟩, fun x hx n hn hg hi => (hk x hx n hn hg hi).2 u hu⟩⟩
      · simp only [ni, Bool.false_eq_true, if_false] at h ⊢
        by_cases gi : isGet oi = true
        · have sj : isPut oj = false := hp4.resolve_left (by simp [gi])
          simp only [gi, sj, if_true, Bool.false_eq_true, false_and, or_false] at h ⊢
          obtain ⟨u0, hu0, hk⟩ := h
          by_cases aj : isAct oj = true
          · simp only [aj, if_true] at hk ⊢
            obtain ⟨Φ, hact, hk1⟩ := hk
            exact ⟨Φ, hact, fun v r hv hi => ⟨u0, hu0, hk1 v r hv hi⟩⟩
          · simp only [aj, Bool.false_eq_true, if_false] at hk ⊢
            by_cases nj : isNew oj = true
            · simp only [nj, if_true] at hk ⊢
              exact ⟨hk.1, fun x hx n hn hg hi => ⟨u0, hu0.more hg x.2, hk.2 x hx n hn hg hi⟩⟩
            · simp only [nj, Bool.false_eq_true, if_false] at hk ⊢
              by_cases gj : isGet oj = true
              · simp only [gj, if_true] at hk ⊢
                obtain ⟨u1, hu1, hk2⟩ := hk
                exact ⟨u1, hu1, u0, hu0, hk2⟩
              · simp only [gj, Bool.false_eq_true, if_false] at hk ⊢
                exact ⟨hk.1, fun u hu => ⟨u0, hu0, hk.2 u hu⟩⟩
        · simp only [gi, Bool.false_eq_true, if_false] at h ⊢
          obtain ⟨⟨u0, hu0⟩, hk⟩ := h
          have hk0 := hk u0 hu0
          by_cases aj : isAct oj = true
          · simp only [aj, if_true] at hk0 ⊢
            rcases hk0 with ⟨Φ, hact, hk1⟩ | ⟨hst, n, l, t, l', hg, hput, hk1⟩
            · exact .inl ⟨Φ, hact, fun v r hv hi => ⟨⟨u0, hu0⟩, fun u hu => by rw [val1 hu hu0]; exact hk1 v r hv hi⟩⟩
            · exact .inr ⟨hst, n, l, t, l', hg, hput, ⟨u0, hu0⟩, fun u hu => by rw [val1 hu hu0]; exact hk1⟩
          · simp only [aj, Bool.false_eq_true, if_false] at hk hk0 ⊢
            by_cases nj : isNew oj = true
            · simp only [nj, if_true] at hk hk0 ⊢
              exact ⟨hk0.1, fun x hx n hn hg hi => ⟨⟨u0, hu0⟩, fun u hu => (hk u hu).2 x hx n hn hg hi⟩⟩
            · simp only [nj, Bool.false_eq_true, if_false] at hk hk0 ⊢
              by_cases gj : isGet oj = true
              · simp only [gj, if_true] at hk hk0 ⊢
                obtain ⟨u1, hu1, hk2⟩ := hk0
                exact ⟨u1, hu1, ⟨u0, hu0⟩, fun u hu => by rw [val1 hu hu0]; exact hk2⟩
              · simp only [gj, Bool.false_eq_true, if_false] at hk hk0 ⊢
                exact ⟨hk0.1, fun v hv => ⟨⟨u0, hu0⟩, fun u hu => (hk u hu).2 v hv⟩⟩
  · simp only [wi, wj, if_true] at h ⊢; exact h
  · simp only [wi, wj, if_true] at h ⊢; exact h
  · simp only [wi, wj] at h ⊢; exact h

/-! ### Who waits for whom -/
def EdgesIn (md : Region.Mode) (ops : Array Oper) (listed : Array Bool) (j : Nat) : Prop := ∀ o, ops[j]? = some o → ∀ e ∈ o.after, Region.binds md e = true → listed.getD e.on false = true
def Closed (md : Region.Mode) (ops : Array Oper) (listed : Array Bool) : Prop := ∀ j, listed.getD j false = true → EdgesIn md ops listed j
/-- j can't come up before i. -/
def Anc (md : Region.Mode) (ops : Array Oper) (i j : Nat) : Prop := ∀ listed, Closed md ops listed → EdgesIn md ops listed j → listed.getD i false = true
theorem Closed.start (n : Nat) : Closed md ops (Array.replicate n false) := fun j h => by
  by_cases hj : j < n <;> simp [hj] at h
theorem getD_set {listed : Array Bool} {i j : Nat} (h : (listed.setIfInBounds i true).getD j false = true) : j = i ∨ listed.getD j false = true := by
  by_cases hij : i = j
  · exact .inl hij.symm
  · right; simpa [Array.getElem?_setIfInBounds_ne hij] using h
theorem Closed.step {listed : Array Bool} {j : Nat} (h : Closed md ops listed) (hj : EdgesIn md ops listed j) : Closed md ops (listed.setIfInBounds j true) := fun k hk o ho e he hb => by
  rcases getD_set hk with rfl | hk
  · exact getD_set_true (hj o ho e he hb)
  · exact getD_set_true (h k hk o ho e he hb)
def mfold (md : Region.Mode) (acc : List Nat) (es : List Edge) : Nat := es.foldl (fun s e => if Region.binds md e = true then s ||| (2 ^ e.on ||| acc.getD e.on 0) else s) 0
def masks (md : Region.Mode) (l : List Oper) : List Nat := l.foldl (fun acc o => acc ++ [mfold md acc o.after.toList]) []
theorem mfold_spec (acc : List Nat) (i : Nat) : ∀ (es : List Edge) (s : Nat), (es.foldl (fun s e => if Region.binds md e = true then s ||| (2 ^ e.on ||| acc.getD e.on 0) else s) s).testBit i = true →
    s.testBit i = true ∨ ∃ e ∈ es, Region.binds md e = true ∧ (e.on = i ∨ (acc.getD e.on 0).testBit i = true)
  | [], s, h => .inl h
  | e :: es, s, h => by
    rcases mfold_spec acc i es _ h with h | ⟨e', he', h⟩
    · by_cases hb : Region.binds md e = true
      · simp only [hb, if_true] at h
        rw [Nat.testBit_or, Nat.testBit_or, Nat.testBit_two_pow] at h
        simp only [Bool.or_eq_true, decide_eq_true_eq] at h
        rcases h with h | h | h
        · exact .inl h
        · exact .inr ⟨e, by simp, hb, .inl h⟩
        · exact .inr ⟨e, by simp, hb, .inr h⟩
      · simp only [hb, if_false, Bool.false_eq_true] at h; exact .inl h
    · exact .inr ⟨e', by simp [he'], h⟩
theorem masks_spec (l : List Oper) (hl : ops = l.toArray) : ∀ (done rest : List Oper) (acc : List Nat), l = done ++ rest → acc.length = done.length → (∀ j i, (acc.getD j 0).testBit i = true → Anc md ops i j) →
    ∀ j i, ((rest.foldl (fun acc o => acc ++ [mfold md acc o.after.toList]) acc).getD j 0).testBit i = true → Anc md ops i j
  | done, [], acc, _, _, h => h
  | done, o :: rest, acc, hd, hlen, h => by
    refine masks_spec l hl (done ++ [o]) rest _ (by simp [hd]) (by simp [hlen]) ?_
    intro j i hb
    by_cases hj : j < acc.length
    · exact h j i (by simpa [List.getElem?_append_left hj] using hb)
    · by_cases hj2 : j = acc.length
      · subst hj2
        have hb : (mfold md acc o.after.toList).testBit i = true := by simpa using hb
        have ho : ops[acc.length]? = some o := by rw [hl, hd, hlen]; simp
        rcases mfold_spec acc i _ _ hb with h0 | ⟨e, he, hbe, h1⟩
        · simp at h0
        · intro listed hc hE
          have h2 := hE o ho e (by simpa using he) hbe
          rcases h1 with rfl | h1
          · exact h2
          · exact h e.on i h1 listed hc (hc e.on h2)
      · have : acc.length + 1 ≤ j := by omega
        rw [List.getD_eq_getElem?_getD, List.getElem?_eq_none (by simp; omega)] at hb
        simp at hb
theorem masks_anc {l : List Oper} {j i : Nat} (h : ((masks md l).getD j 0).testBit i = true) : Anc md l.toArray i j :=
  masks_spec l rfl [] l [] rfl rfl (by simp) j i h

/-- **One that may come up may be taken first**. -/
theorem wpAnyT_first {Q : KT} {i : Nat} {oi : Oper} (hi : ops[i]? = some oi) (hsel : ∀ (j : Nat) (o : Oper) cs b, ops[j]? = some o → o.op ≠ .select cs b) (hC : Shut B C) :
    ∀ (fuel : Nat) (listed : Array Bool) (a : Act) (g : Gh) (R : Res), (∀ j oj, ops[j]? = some oj → j ≠ i → listed.getD j true = false → ¬ Anc md ops i j → oi.apart ops oj = true ∧ pairT oi oj = true) → Closed md ops listed →
      i ∈ Region.ready md ops listed → Inh B C R g →
      opT P B C ops oi (wpAnyT P B C md ops Q fuel (listed.setIfInBounds i true)) a g R → wpAnyT P B C md ops Q (fuel + 1) listed a g R := by
  intro fuel
  induction fuel with
  | zero =>
    intro listed a g R _ _ hr hI H
    refine ⟨fun h => (by rw [h] at hr; cases hr), fun j hj o ho => ?_⟩
    by_cases hji : j = i
    · subst hji; rw [hi] at ho; injection ho with ho; subst ho; exact H
    · have hne : Region.ready md ops (listed.setIfInBounds i true) ≠ [] := fun h0 => by
        have := ready_mono hj hji
        rw [h0] at this
        cases this
      exact absurd (opT_mono (K' := fun _ _ _ => False) hC hI (fun _ _ _ _ hh => hne hh.1) H) (opT_false hC hI)
  | succ fuel ih =>
    intro listed a g R hfree hcl hr hI H
    refine ⟨fun h => (by rw [h] at hr; cases hr), fun j hj oj hoj => ?_⟩
    by_cases hji : j = i
    · subst hji; rw [hi] at hoj; injection hoj with hoj; subst hoj; exact H
    · obtain ⟨hjun, oj', hoj', hall⟩ := mem_ready.1 hj
      rw [hoj] at hoj'; injection hoj' with hoj'; subst hoj'
      have hE : EdgesIn md ops listed j := fun o ho e he hb => by rw [hoj] at ho; injection ho with ho; subst ho; exact hall e he hb
      have hnot : ¬ Anc md ops i j := fun h => by
        have h1 := h listed hcl hE
        have h0 := (mem_ready.1 hr).1
        rcases Nat.lt_or_ge i listed.size with h' | h'
        · simp [h'] at h0 h1; rw [h0] at h1; cases h1
        · simp [Array.getElem?_eq_none h'] at h1
      obtain ⟨hap, hpair⟩ := hfree j oj hoj hji hjun hnot
      have h1 := opT_mono hC hI (fun a g R hI hh => hh.2 j (ready_mono hj hji) oj hoj) H
      have h2 := opT_comm hap hpair (fun cs b => hsel i oi cs b hi) (fun cs b => hsel j oj cs b hoj) hC hI h1
      have hfree' : ∀ k ok, ops[k]? = some ok → k ≠ i → (listed.setIfInBounds j true).getD k true = false → ¬ Anc md ops i k → oi.apart ops ok = true ∧ pairT oi ok = true := fun k ok hk hki hun hno => by
        refine hfree k ok hk hki ?_ hno
        by_cases hjk : j = k
        · subst hjk; exact hjun
        · rw [getD_set_ne true hjk] at hun; exact hun
      refine opT_mono hC hI (fun a' g' R' hI' h3 => ih (listed.setIfInBounds j true) a' g' R' hfree' (hcl.step hE) (ready_mono hr (Ne.symm hji)) hI' ?_) h2
      rw [Array.setIfInBounds_comm _ _ hji]
      exact h3

/-! ### A walk in one order -/
/-- Those that are taken already needn't be asked. -/
def Region.freeL (ms : List Nat) (ops : Array Oper) (listed : Array Bool) (i : Nat) : Bool :=
  match ops[i]? with
  | none => false
  | some oi => (List.range ops.size).all fun j => j == i || listed.getD j true || (ms.getD j 0).testBit i || match ops[j]? with
      | some oj => oi.apart ops oj && pairT oi oj
      | none => true
def Region.ordFrom (md : Region.Mode) (ms : List Nat) (ops : Array Oper) : List Nat → Array Bool → Bool
  | [], listed => (Region.ready md ops listed).isEmpty
  | k :: rest, listed => (Region.ready md ops listed).contains k && Region.freeL ms ops listed k && Region.ordFrom md ms ops rest (listed.setIfInBounds k true)
def Region.ordB (md : Region.Mode) (l : List Oper) (ord : List Nat) : Bool := Region.noSelect l.toArray && (ord.length == l.length) && Region.ordFrom md (masks md l) l.toArray ord (Array.replicate l.length false)
theorem Region.freeL_spec {l : List Oper} {i : Nat} {oi : Oper} {listed : Array Bool} (hi : l.toArray[i]? = some oi) (h : Region.freeL (masks md l) l.toArray listed i = true) (j : Nat) (oj : Oper)
    (hj : l.toArray[j]? = some oj) (hne : j ≠ i) (hun : listed.getD j true = false) (hno : ¬ Anc md l.toArray i j) : oi.apart l.toArray oj = true ∧ pairT oi oj = true := by
  simp only [Region.freeL, hi, List.all_eq_true, List.mem_range] at h
  have h1 := h j (Array.getElem?_eq_some_iff.1 hj).1
  simp only [hj, Bool.or_eq_true, beq_iff_eq, hne, false_or, hun, Bool.false_eq_true] at h1
  rcases h1 with h1 | h1
  · exact absurd (masks_anc h1) hno
  · simpa using h1
/-- The operations one behind the other, in this order. -/
def wpOrd (P : Program) (B : Nat) (C : World → Prop) (ops : Array Oper) (Q : KT) : List Nat → KT
  | [] => Q
  | i :: rest => fun a g R => ∃ o, ops[i]? = some o ∧ opT P B C ops o (wpOrd P B C ops Q rest) a g R
theorem wpAnyT_ord {l : List Oper} {Q : KT} (hs : Region.noSelect l.toArray = true) (hC : Shut B C) : ∀ (ord : List Nat) (listed : Array Bool) (a : Act) (g : Gh) (R : Res), Region.ordFrom md (masks md l) l.toArray ord listed = true → Closed md l.toArray listed → Inh B C R g →
    wpOrd P B C l.toArray Q ord a g R → wpAnyT P B C md l.toArray Q ord.length listed a g R
  | [], _, _, _, _, hB, _, _, h => ⟨by simpa [Region.ordFrom] using hB, h⟩
  | k :: ord, listed, a, g, R, hB, hcl, hI, h => by
    obtain ⟨o, ho, h⟩ := h
    simp only [Region.ordFrom, Bool.and_eq_true] at hB
    obtain ⟨⟨hr, hf⟩, hB'⟩ := hB
    have hr' : k ∈ Region.ready md l.toArray listed := by simpa using hr
    have hE : EdgesIn md l.toArray listed k := fun o' ho' e he hb => by
      obtain ⟨_, o2, ho2, hall⟩ := mem_ready.1 hr'
      rw [ho2] at ho'; injection ho' with ho'; subst ho'
      exact hall e he hb
    exact wpAnyT_first ho (Region.noSelect_spec hs) hC ord.length listed a g R (Region.freeL_spec ho hf) hcl hr' hI
      (opT_mono hC hI (fun a g R hI h => wpAnyT_ord hs hC ord _ a g R hB' (hcl.step hE) hI h) h)
/-- **A region that asks the tape: one order serves every order.** -/
theorem wp_region_ord {l : List Oper} {id : Nat} {Q : Exit → Act → World → Prop} {a : Act} {w : World} (ord : List Nat) (R : Res) (hm : P.follows .mixedOrders = true) (hB : Region.ordB .any l ord = true)
    (hBw : B ≤ w.heap.size) (hC : Shut B C) (hCw : C w.drew) (hRw : R.holds w.drew)
    (h : wpOrd P B C l.toArray (fun a g R => ∀ w, RW B C R g w → Q .normal a w) ord a (fun _ => none) R) : (Code.region id l.toArray true).wp P Q a w := by
  simp only [Region.ordB, Bool.and_eq_true, beq_iff_eq] at hB
  have hrw : RW B C R (fun _ => none) w.drew := ⟨hBw, hCw, hRw, (fun n l t h => by cases h), fun _ _ => rfl, fun _ _ => rfl⟩
  refine wp_region_any hm (wpAny_of_T hC (Q := fun a g R => ∀ w, RW B C R g w → Q .normal a w) (fun a g R w hw h => h w hw) _ _ _ _ _ _ hrw ?_)
  have := wpAnyT_ord hB.1.1 hC ord (Array.replicate l.length false) a _ R hB.2 (Closed.start _) ⟨_, hrw⟩ h
  rw [hB.1.2] at this
  simpa using this

/-! ### The steps of the walk -/
section steps
variable {Q : KT} {a : Act} {g : Gh} {R : Res} {i : Nat} {rest : List Nat} {o : Oper}
theorem ord_nil (h : Q a g R) : wpOrd P B C ops Q [] a g R := h
theorem ord_no (ho : ops[i]? = some o) (hw : Region.wanted o (yielded ops a.tmps) = false) (h : wpOrd P B C ops Q rest (a.put o.dst undef) g R) : wpOrd P B C ops Q (i :: rest) a g R :=
  ⟨o, ho, by unfold opT; simp only [hw, Bool.false_eq_true, if_false]; exact h⟩
theorem ord_val {w0 : World} (hw0 : C w0) (ho : ops[i]? = some o) (hw : Region.wanted o (yielded ops a.tmps) = true) (ha : isAct o = false) (hn : isNew o = false) (hgt : isGet o = false) {v : Value}
    (hv : ∀ w, C w → (execOp a.eval o).run P w = .ok (.value v) w) (h : wpOrd P B C ops Q rest (a.put o.dst v) g R) : wpOrd P B C ops Q (i :: rest) a g R :=
  ⟨o, ho, by
    unfold opT
    simp only [hw, ha, hn, hgt, Bool.false_eq_true, if_false, if_true]
    exact ⟨⟨v, fun w h => .inl (hv w h)⟩, fun u hu => by rw [(hu w0 hw0).uniq (.inl (hv w0 hw0))]; exact h⟩⟩
theorem ord_new (w0 : World) (ho : ops[i]? = some o) (hw : Region.wanted o (yielded ops a.tmps) = true) (ha : isAct o = false) (hn : isNew o = true) (mk : Nat → Value) (l : List Value) (t : TypeId)
    (hx : ∀ w, (execOp a.eval o).run P w = .ok (.value (mk w.heap.size)) (w.alloc (.cells l.toArray t)))
    (h : ∀ n, B ≤ n → g n = none → wpOrd P B C ops Q rest (a.put o.dst (mk n)) (g.put n (l, t)) R) : wpOrd P B C ops Q (i :: rest) a g R :=
  ⟨o, ho, by
    unfold opT
    simp only [hw, ha, hn, Bool.false_eq_true, if_false, if_true]
    exact ⟨⟨(mk, l, t), hx⟩, fun x hx' n hn' hg _ => by
      obtain ⟨h1, h2⟩ := newAt.uniq w0 hx' (show newAt P o a (mk, l, t) from hx)
      rw [h1 n, h2]
      exact h n hn' hg⟩⟩
/-- A string of a row of bytes. -/
theorem ord_get (ho : ops[i]? = some o) (hw : Region.wanted o (yielded ops a.tmps) = true) (ha : isAct o = false) (hn : isNew o = false) (hgt : isGet o = true) {v : Value} (hv : getAt P C g o a v) (h : wpOrd P B C ops Q rest (a.put o.dst v) g R) :
    wpOrd P B C ops Q (i :: rest) a g R :=
  ⟨o, ho, by
    unfold opT
    simp only [hw, ha, hn, hgt, Bool.false_eq_true, if_false, if_true]
    exact ⟨v, hv, h⟩⟩
/-- Whatever turns what R tells of. -/
theorem ord_act (ho : ops[i]? = some o) (hw : Region.wanted o (yielded ops a.tmps) = true) (ha : isAct o = true) (Φ : Value → Res → Prop) (hc : actAt P B C g R o a Φ)
    (h : ∀ v r, Φ v r → wpOrd P B C ops Q rest (a.put o.dst v) g r) : wpOrd P B C ops Q (i :: rest) a g R :=
  ⟨o, ho, by
    unfold opT
    simp only [hw, ha, if_true]
    exact .inl ⟨Φ, hc, fun u r hu _ => h u r hu⟩⟩
/-- A call. -/
theorem ord_call (ho : ops[i]? = some o) (hw : Region.wanted o (yielded ops a.tmps) = true) (ha : isAct o = true) {f : FuncId} {args : Array Value} (Φ : Value → Res → Prop)
    (hx : ∀ w, (execOp a.eval o).run P w = .ok (.enter f args) w)
    (hc : ∀ w, C w → R.holds w → (∀ n l t, g n = some (l, t) → Blk w n l t) → Calls P f args w (fun e w'' => ∃ v r, e = .returned v ∧ Φ v r ∧ C w'' ∧ r.holds w'' ∧ Kp B R.foot r.foot w w''))
    (h : ∀ v r, Φ v r → wpOrd P B C ops Q rest (a.put o.dst v) g r) : wpOrd P B C ops Q (i :: rest) a g R :=
  ord_act ho hw ha Φ (fun w hC hR hG => by
    rw [hx w]
    exact ⟨rfl, hc w hC hR hG⟩) h
/-- A store into what R tells of. -/
theorem ord_store (ho : ops[i]? = some o) (hw : Region.wanted o (yielded ops a.tmps) = true) (ha : isAct o = true) (R' : Res)
    (hx : ∀ w, C w → R.holds w → ∃ w', (execOp a.eval o).run P w = .ok .skip w' ∧ C w' ∧ R'.holds w' ∧ Kp B R.foot R'.foot w w')
    (h : wpOrd P B C ops Q rest (a.put o.dst undef) g R') : wpOrd P B C ops Q (i :: rest) a g R :=
  ord_act ho hw ha (fun v r => v = undef ∧ r = R') (fun w hC hR _ => by
    obtain ⟨w', hr, h1, h2, h3⟩ := hx w hC hR
    rw [hr]
    exact ⟨R', ⟨rfl, rfl⟩, h1, h2, h3⟩) (fun v r ⟨hv, hr⟩ => by subst hv; subst hr; exact h)
/-- A store into a block that the region made. -/
theorem ord_put (ho : ops[i]? = some o) (hw : Region.wanted o (yielded ops a.tmps) = true) (ha : isAct o = true) (hst : isPut o = true) (n : Nat) (l : List Value) (t : TypeId) (l' : List Value) (hg : g n = some (l, t))
    (hx : putAt P o a n l t l') (h : wpOrd P B C ops Q rest (a.put o.dst undef) (g.put n (l', t)) R) : wpOrd P B C ops Q (i :: rest) a g R :=
  ⟨o, ho, by
    unfold opT
    simp only [hw, ha, if_true]
    exact .inr ⟨hst, n, l, t, l', hg, hx, h⟩⟩
end steps
end
end Go.Proofs.Ytllhoadbocnldaa
