/- Package cursor's writer: what it holds ('Wr'), what a writing call may have turned ('WMod'), and its methods' contracts. -/
import Derived.Test.YtllhoadbocnldaaOwnLaw
import Derived.Lib.UnsafeStr
set_option linter.unusedVariables false
set_option linter.unusedSimpArgs false
set_option maxRecDepth 100000
namespace Go.Proofs.Ytllhoadbocnldaa
open Go.RowKit

/-- A writer at the block p, made from block B on: whether it has failed, and its bytes. -/
def Wr (B : Nat) (w : World) (p : Nat) (f : Bool) (bs : List UInt8) : Prop :=
  B ≤ p ∧ B ≤ w.heap.size ∧ ∃ ad v, Blk w p [.bool f, ad, v] 9999999 ∧ (ad = .pointer none ∨ ad = .pointer (some ⟨p, 1, none⟩)) ∧
    w.ownsRowF B 5 1 v bs.length (Lib.byteCells bs) ∧ v.ownBlock ≠ some p ∧ (v = .slice none 0 0 ↔ bs = [])
/-- What writing may turn: the writer's block, and rows of bytes from B on. -/
structure WMod (B p : Nat) (w w' : World) : Prop where
  os : w'.os = w.os
  tape : w'.tape = w.tape
  output : w'.output = w.output
  size : w.heap.size ≤ w'.heap.size
  low : ∀ k, k < B → w'.heap[k]? = w.heap[k]?
  other : ∀ k, k < w.heap.size → k ≠ p → (∀ c fr, w.heap[k]? ≠ some (.cells c 5 fr)) → w'.heap[k]? = w.heap[k]?
  prec : ∀ k, k < w.heap.size → k ≠ p → rowAt w p ≠ some k → w'.heap[k]? = w.heap[k]?
  row : rowAt w' p = rowAt w p ∨ ∀ k, rowAt w' p = some k → w.heap.size ≤ k
theorem WMod.refl (B p : Nat) (w : World) : WMod B p w w := ⟨rfl, rfl, rfl, Nat.le_refl _, fun _ _ => rfl, fun _ _ _ _ => rfl, fun _ _ _ _ => rfl, .inl rfl⟩
theorem WMod.trans {B p : Nat} {a b c : World} (h : WMod B p a b) (k : WMod B p b c) : WMod B p a c :=
  ⟨k.os.trans h.os, k.tape.trans h.tape, k.output.trans h.output, Nat.le_trans h.size k.size, fun i hi => (k.low i hi).trans (h.low i hi),
    fun i hi hp hr => (k.other i (Nat.lt_of_lt_of_le hi h.size) hp (fun c fr => by rw [h.other i hi hp hr]; exact hr c fr)).trans (h.other i hi hp hr),
    fun i hi hp hr => (k.prec i (Nat.lt_of_lt_of_le hi h.size) hp (fun e => by
      rcases h.row with h1 | h1
      · rw [h1] at e; exact hr e
      · have := h1 i e; omega)).trans (h.prec i hi hp hr),
    by
      rcases k.row with k1 | k1
      · rw [k1]; exact h.row
      · exact .inr fun i hi => Nat.le_trans h.size (k1 i hi)⟩
theorem WMod.below {B p : Nat} {a b : World} (h : WMod B p a b) : Below B a b := ⟨h.os, h.tape, h.output, h.size, h.low⟩
theorem WMod.of_mod {B p : Nat} {a b : World} (h : Mod [] a b) (hB : B ≤ a.heap.size) (hp : p < a.heap.size) : WMod B p a b :=
  ⟨h.os, h.tape, h.output, h.size, fun k hk => h.block k (Nat.lt_of_lt_of_le hk hB) (by simp), fun k hk _ _ => h.block k hk (by simp), fun k hk _ _ => h.block k hk (by simp), .inl (rowAt_same (h.block p hp (by simp)))⟩
theorem rowAt_set {w : World} {p o : Nat} {v : Value} (ho : o ≠ 2) : rowAt (w.setCell ⟨p, o, none⟩ v) p = rowAt w p := by
  unfold rowAt
  cases hp : w.heap[p]? with
  | none =>
    have h1 : w.heap.size ≤ p := Array.getElem?_eq_none_iff.1 hp
    rw [Array.getElem?_eq_none (by simpa using h1)]
  | some x =>
    have hlt := (Array.getElem?_eq_some_iff.1 hp).1
    have he := (Array.getElem?_eq_some_iff.1 hp).2
    have h2 : (w.setCell ⟨p, o, none⟩ v).heap[p]? = (w.heap.modify p fun x => match x with | .cells cs t fz => .cells (cs.setIfInBounds o v) t fz | x => x)[p]? := rfl
    rw [h2, Array.getElem?_modify, if_pos rfl, hp]
    cases x <;> simp [Array.getElem?_setIfInBounds, ho]
theorem WMod.setCell {B p o : Nat} {w : World} (hp : B ≤ p) (v : Value) (ho : o ≠ 2) : WMod B p w (w.setCell ⟨p, o, none⟩ v) :=
  ⟨rfl, rfl, rfl, by simp, fun k hk => Below.heap_setCell _ _ _ _ (by simp; omega), fun k _ hkp _ => Below.heap_setCell _ _ _ _ hkp, fun k _ hkp _ => Below.heap_setCell _ _ _ _ hkp, .inl (rowAt_set ho)⟩
/-- The writer's row is put in its place. -/
theorem WMod.put2 {B p : Nat} {a b : World} {x y v v' : Value} {t : TypeId} (h : WMod B p a b) (hp : B ≤ p) (hb : Blk b p [x, y, v] t) (hf : Fresh a v v') : WMod B p a (b.setCell ⟨p, 2, none⟩ v') := by
  have e : rowAt (b.setCell ⟨p, 2, none⟩ v') p = v'.ownBlock := rowAt_blk (hb.set 2 v')
  have e0 := rowAt_blk hb
  refine ⟨h.os, h.tape, h.output, by simpa using h.size, fun k hk => (Below.heap_setCell _ _ _ _ (by simp; omega)).trans (h.low k hk), fun k h1 hkp h2 => (Below.heap_setCell _ _ _ _ hkp).trans (h.other k h1 hkp h2), fun k h1 hkp h2 => (Below.heap_setCell _ _ _ _ hkp).trans (h.prec k h1 hkp h2), ?_⟩
  rw [e]
  rcases hf with hf | hf
  · rw [hf, ← e0]; exact h.row
  · exact .inr hf
theorem WMod.grown {B p : Nat} {w w' : World} {v : Value} {n : Nat} {xs : List Value} (hown : w.ownsRowF B 5 1 v n xs) (hB : B ≤ w.heap.size) (hg : w.grownBy w' v.ownBlock) {x y : Value} {t : TypeId} (hb : Blk w p [x, y, v] t) (hne : v.ownBlock ≠ some p) : WMod B p w w' :=
  ⟨hg.os, hg.tape, hg.output, hg.size, fun k hk => hg.block k (by omega) (fun e => by have := (hown.lt k e.symm).1; omega),
    fun k hk hkp hr => hg.block k hk (fun e => by
      rcases hown.2 with ⟨rfl, _⟩ | ⟨g, cap, cur, fz, rfl, _, hgg, _⟩
      · simp [Value.ownBlock] at e
      · simp [Value.ownBlock] at e
        subst e
        exact hr _ _ hgg),
    fun k hk _ hr => hg.block k hk (fun e => hr ((rowAt_blk hb).trans e.symm)), .inl (rowAt_same (hg.block p hb.lt (fun e => hne e.symm)))⟩
theorem WMod.blk {B p : Nat} {w w' : World} (h : WMod B p w w') {b : Nat} {l : List Value} {t : TypeId} (hb : Blk w b l t) (hp : b ≠ p) (ht : t ≠ 5) : Blk w' b l t := by
  unfold Blk
  rw [h.other b hb.lt hp (fun c fr e => by
    unfold Blk at hb
    rw [hb] at e
    injection e with e
    injection e with _ e
    exact ht e)]
  exact hb
/-- Behind the life of a writer that a call has made itself nothing that was there has turned. -/
theorem Mod.wtrans {p : Nat} {S : List Nat} {a b c : World} (k : WMod a.heap.size p b c) (h : Mod S a b) : Mod S a c :=
  h.trans (S' := (List.range c.heap.size).filter fun x => decide (a.heap.size ≤ x)) ⟨k.os, k.tape, k.output, k.size, fun i hi hn => by
    by_cases hlt : i < a.heap.size
    · exact k.low i hlt
    · exact absurd (by simp; have := k.size; omega) hn⟩ (by intro x hx hl; simp at hx; omega)
theorem Mod.wtrans_ {B p : Nat} {S : List Nat} {a b c : World} (k : WMod B p b c) (hB : a.heap.size ≤ B) (h : Mod S a b) : Mod S a c :=
  Mod.wtrans (p := p) ⟨k.os, k.tape, k.output, k.size, fun i hi => k.low i (by omega), k.other, k.prec, k.row⟩ h
theorem Wr.lt {B : Nat} {w : World} {p : Nat} {f : Bool} {bs : List UInt8} (h : Wr B w p f bs) : p < w.heap.size := by
  obtain ⟨_, _, ad, v, hb, _⟩ := h
  exact hb.lt
theorem Wr.base {B : Nat} {w : World} {p : Nat} {f : Bool} {bs : List UInt8} (h : Wr B w p f bs) : B ≤ p := h.1
/-- A new writer. -/
theorem Wr.new {B : Nat} {w : World} {p : Nat} (hb : Blk w p [.bool false, .pointer none, .slice none 0 0] 9999999) (hB : B ≤ p) : Wr B w p false [] :=
  ⟨hB, by have := hb.lt; omega, _, _, hb, .inl rfl, World.ownsRowF_nil _ _ _ _, by simp [Value.ownBlock], by simp⟩
theorem Wr.mod0 {B : Nat} {w w' : World} {p : Nat} {f : Bool} {bs : List UInt8} (h : Wr B w p f bs) (hm : Mod [] w w') : Wr B w' p f bs := by
  obtain ⟨h1, h2, ad, v, hb, had, hown, hne, hn⟩ := h
  exact ⟨h1, Nat.le_trans h2 hm.size, ad, v, hb.mod hm (by simp), had, hown.kept (row := none) ⟨hm.os, hm.tape, hm.output, hm.size, fun k hk _ => hm.block k hk (by simp)⟩ (by cases v.ownBlock <;> simp), hne, hn⟩
theorem Wr.drew {B : Nat} {w : World} {p : Nat} {f : Bool} {bs : List UInt8} (h : Wr B w p f bs) : Wr B w.drew p f bs := h
theorem Wr.drewN {B : Nat} {w : World} {p : Nat} {f : Bool} {bs : List UInt8} (h : Wr B w p f bs) (n : Nat) : Wr B (w.drewN n) p f bs := h
/-- What a call turned that knows nothing of this writer. -/
theorem Wr.mod {B : Nat} {S : List Nat} {w w' : World} {p : Nat} {f : Bool} {bs : List UInt8} (h : Wr B w p f bs) (hm : Mod S w w') (hS : ∀ x, x ∈ S → x < B) : Wr B w' p f bs := by
  obtain ⟨h1, h2, ad, v, hb, had, hown, hne, hn⟩ := h
  refine ⟨h1, Nat.le_trans h2 hm.size, ad, v, hb.mod hm (fun hp => by have := hS _ hp; omega), had, ⟨hown.1, ?_⟩, hne, hn⟩
  rcases hown.2 with h0 | ⟨g, cap, cur, fz, hv, hbg, hg, r⟩
  · exact .inl h0
  · exact .inr ⟨g, cap, cur, fz, hv, hbg, hm.heap hg (fun hp => by have := hS _ hp; omega), r⟩

theorem infoByte : (Try.prog.info? 5).map (fun i => (i.zero, i.size, i.bytes)) = some (some (.int .u8 0), 1, 1) := by kernel_rfl

/-! ### strings.Builder, a writer's second field -/
theorem byteCells_one (c : Int) (h0 : 0 ≤ c) (h1 : c ≤ 255) : [Value.int .u8 c] = Lib.byteCells [UInt8.ofNat c.toNat] := by
  simp [Lib.byteCells]; omega

theorem WMod.freeze {B p g n : Nat} {w : World} {cur : Array Value} {fz : Nat × Nat} (hg : w.heap[g]? = some (.cells cur 5 fz)) (hB : B ≤ g) (hr : rowAt w p = some g) (hgp : g ≠ p) : WMod B p w (w.freeze ⟨g, 0, none⟩ n) := by
  unfold World.freeze
  split
  · exact WMod.refl _ _ _
  · refine ⟨rfl, rfl, rfl, by simp, fun k hk => ?_, fun k hk hkp hr => ?_, fun k hk hkp hk2 => ?_, .inl (rowAt_same ?_)⟩
    · simp only [Array.getElem?_modify]; rw [if_neg (by omega)]
    · simp only [Array.getElem?_modify]; rw [if_neg (fun e => by subst e; exact hr _ _ hg)]
    · simp only [Array.getElem?_modify]; rw [if_neg (fun e => by subst e; exact hk2 hr)]
    · simp only [Array.getElem?_modify]; rw [if_neg hgp]
theorem WMod.drew {B p : Nat} {a b : World} (h : WMod B p a b) : WMod B p a b.drew := ⟨h.os, h.tape, h.output, h.size, h.low, h.other, h.prec, h.row⟩
end Go.Proofs.Ytllhoadbocnldaa
