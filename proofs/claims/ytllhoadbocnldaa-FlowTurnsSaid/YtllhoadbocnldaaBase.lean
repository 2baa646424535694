/- The ground that all texts of this seat stand on: blocks of known cells ('Blk'), what a call may have turned ('Mod'), slices that are read ('Row'). Plain lemmas; no function of the program. -/
import Derived.Test.YtllhoadbocnldaaRows
import Derived.WalkKit
import Derived.WalkSpells
import Derived.WalkLawsBesides
import Derived.Deep.QuietTactic
import Derived.BigQuiet
import Derived.Lib.Hide
import Derived.Deep.DeepFit
import Derived.Deep.RegionWith
import Derived.Deep.RegionHeld3
import Derived.Deep.DeepCutAuto
import Derived.KernelRfl
set_option linter.unusedVariables false
set_option linter.unusedSimpArgs false
namespace Go.Proofs.Ytllhoadbocnldaa
open Go.RowKit

theorem ret_int {k : IntKind} {a b : Int} (h : a = b) : Ending.returned (.int k a) = .returned (.int k b) := by rw [h]

/-! ### Blocks -/
/-- Block b is a row of just these cells, none of them frozen. -/
def Blk (w : World) (b : Nat) (l : List Value) (t : TypeId) : Prop := w.heap[b]? = some (.cells l.toArray t (0, 0))
theorem Blk.cell {w : World} {b : Nat} {l : List Value} {t : TypeId} (h : Blk w b l t) : ∀ o, w.cell? ⟨b, o, none⟩ = l.toArray[o]? := by
  intro o; unfold Blk at h; simp [World.cell?, h]
theorem Blk.free {w : World} {b : Nat} {l : List Value} {t : TypeId} (h : Blk w b l t) : ∀ o, w.frozen? ⟨b, o, none⟩ = false := by
  intro o; unfold Blk at h; simp [World.frozen?, h]
theorem Blk.lt {w : World} {b : Nat} {l : List Value} {t : TypeId} (h : Blk w b l t) : b < w.heap.size := lt_of_block h
theorem Blk.drewN {w : World} {b : Nat} {l : List Value} {t : TypeId} (h : Blk w b l t) (n : Nat) : Blk (w.drewN n) b l t := h
theorem Blk.drew {w : World} {b : Nat} {l : List Value} {t : TypeId} (h : Blk w b l t) : Blk w.drew b l t := h
theorem Blk.alloc {w : World} {b : Nat} {l : List Value} {t : TypeId} (h : Blk w b l t) (o : Obj) : Blk (w.alloc o) b l t := by
  unfold Blk; rw [Below.heap_alloc _ _ _ h.lt]; exact h
theorem Blk.new (w : World) (l : List Value) (t : TypeId) : Blk (w.alloc (.cells l.toArray t)) w.heap.size l t := by
  unfold Blk World.alloc; simp
theorem Blk.set {w : World} {b : Nat} {l : List Value} {t : TypeId} (h : Blk w b l t) (o : Nat) (v : Value) : Blk (w.setCell ⟨b, o, none⟩ v) b (l.set o v) t := by
  have hlt := h.lt
  unfold Blk at *
  have h' : w.heap[b] = .cells l.toArray t (0, 0) := by simpa [Array.getElem?_eq_getElem hlt] using h
  show (w.heap.modify b _)[b]? = _
  rw [Array.getElem?_eq_getElem (by simpa using hlt), Array.getElem_modify_self, h']
  simp
theorem Blk.other {w : World} {b : Nat} {l : List Value} {t : TypeId} (h : Blk w b l t) {a : Addr} (hne : b ≠ a.block) (v : Value) : Blk (w.setCell a v) b l t := by
  unfold Blk; rw [Below.heap_setCell _ _ _ _ hne]; exact h
theorem Blk.set_ {w : World} {b : Nat} {l l' : List Value} {t : TypeId} {o : Nat} {v : Value} (h : Blk w b l t) (e : l.set o v = l') : Blk (w.setCell ⟨b, o, none⟩ v) b l' t := e ▸ h.set o v
theorem Blk.new_ {w : World} {n : Nat} (l : List Value) (t : TypeId) (hn : n = w.heap.size) : Blk (w.alloc (.cells l.toArray t)) n l t := hn ▸ Blk.new w l t
theorem Blk.other_ {w : World} {b : Nat} {l : List Value} {t : TypeId} {c o : Nat} {v : Value} (hne : b ≠ c) (h : Blk w b l t) : Blk (w.setCell ⟨c, o, none⟩ v) b l t := h.other hne v
theorem Blk.ne {w : World} {b b' : Nat} {l l' : List Value} {t t' : TypeId} (h : Blk w b l t) (h' : Blk w b' l' t') (ht : t ≠ t') : b ≠ b' := by
  rintro rfl
  unfold Blk at h h'
  rw [h] at h'
  injection h' with h'
  injection h' with _ e
  exact ht e
theorem Blk.eq {w : World} {b : Nat} {l l' : List Value} {t : TypeId} (h : Blk w b l t) (e : l = l') : Blk w b l' t := e ▸ h

/-! ### What a call may have turned -/
/-- Of the blocks that were there only those of S may have turned. -/
structure Mod (S : List Nat) (w w' : World) : Prop where
  os : w'.os = w.os
  tape : w'.tape = w.tape
  output : w'.output = w.output
  size : w.heap.size ≤ w'.heap.size
  block : ∀ k, k < w.heap.size → k ∉ S → w'.heap[k]? = w.heap[k]?
theorem Mod.refl (S : List Nat) (w : World) : Mod S w w := ⟨rfl, rfl, rfl, Nat.le_refl _, fun _ _ _ => rfl⟩
theorem Mod.trans {S S' : List Nat} {a b c : World} (h : Mod S a b) (k : Mod S' b c) (hS : ∀ x, x ∈ S' → x < a.heap.size → x ∈ S) : Mod S a c :=
  ⟨k.os.trans h.os, k.tape.trans h.tape, k.output.trans h.output, Nat.le_trans h.size k.size,
    fun i hi hn => (k.block i (Nat.lt_of_lt_of_le hi h.size) (fun hm => hn (hS i hm hi))).trans (h.block i hi hn)⟩
theorem Mod.mono {S S' : List Nat} {a b : World} (h : Mod S a b) (hS : ∀ x, x ∈ S → x < a.heap.size → x ∈ S') : Mod S' a b :=
  ⟨h.os, h.tape, h.output, h.size, fun i hi hn => h.block i hi (fun hm => hn (hS i hm hi))⟩
theorem Mod.drewN {S : List Nat} {a b : World} (h : Mod S a b) (n : Nat) : Mod S a (b.drewN n) := ⟨h.os, h.tape, h.output, h.size, h.block⟩
theorem Mod.drew {S : List Nat} {a b : World} (h : Mod S a b) : Mod S a b.drew := ⟨h.os, h.tape, h.output, h.size, h.block⟩
theorem Mod.alloc {S : List Nat} {a b : World} (h : Mod S a b) (o : Obj) : Mod S a (b.alloc o) :=
  h.trans (S' := []) ⟨rfl, rfl, rfl, by simp, fun k hk _ => Below.heap_alloc _ _ _ hk⟩ (by simp)
theorem Mod.setCell {S : List Nat} {a b : World} (h : Mod S a b) {p : Addr} (hp : p.block < a.heap.size → p.block ∈ S) (u : Value) : Mod S a (b.setCell p u) :=
  h.trans (S' := [p.block]) ⟨rfl, rfl, rfl, by simp, fun k hk hn => Below.heap_setCell _ _ _ _ (by simpa using hn)⟩ (by intro x hx hlt; simp at hx; subst hx; exact hp hlt)
theorem Mod.grown {S : List Nat} {a w w' : World} {row : Option Nat} (h : Mod S a w) (hg : w.grownBy w' row) (hr : ∀ k, row = some k → k < a.heap.size → k ∈ S) : Mod S a w' :=
  h.trans (S' := row.toList) ⟨hg.os, hg.tape, hg.output, hg.size, fun k hk hn => hg.block k hk (fun e => hn (by simp [← e]))⟩ (by intro x hx hlt; exact hr x (by simpa using hx) hlt)
theorem Mod.below {S : List Nat} {a w : World} (h : Mod S a w) {B : Nat} (hB : B ≤ a.heap.size) (hS : ∀ x, x ∈ S → B ≤ x) : Below B a w :=
  ⟨h.os, h.tape, h.output, h.size, fun k hk => h.block k (Nat.lt_of_lt_of_le hk hB) (fun hm => by have := hS k hm; omega)⟩
theorem Mod.of_below {S : List Nat} {a w : World} (h : Below a.heap.size a w) : Mod S a w := ⟨h.os, h.tape, h.output, h.size, fun k hk _ => h.block k hk⟩
theorem Mod.heap {S : List Nat} {a w : World} (h : Mod S a w) {k : Nat} {o : Obj} (hb : a.heap[k]? = some o) (hk : k ∉ S) : w.heap[k]? = some o :=
  (h.block k (lt_of_block hb) hk).trans hb
theorem Mod.cell {S : List Nat} {a w : World} (h : Mod S a w) {p : Addr} {v : Value} (hc : a.cell? p = some v) (hk : p.block ∉ S) : w.cell? p = some v :=
  (World.cell?_of_block (h.block _ (World.block_lt_of_cell? a p hc) hk)).trans hc
theorem Blk.mod {S : List Nat} {w w' : World} {b : Nat} {l : List Value} {t : TypeId} (h : Blk w b l t) (hm : Mod S w w') (hb : b ∉ S) : Blk w' b l t := hm.heap h hb

theorem Blk.mod_ {S : List Nat} {w w' : World} {b : Nat} {l : List Value} {t : TypeId} (hm : Mod S w w') (hb : b ∉ S) (h : Blk w b l t) : Blk w' b l t := hm.heap h hb
theorem Mod.setCell_ {S : List Nat} {a b : World} {c o : Nat} {u : Value} (hp : c < a.heap.size → c ∈ S) (h : Mod S a b) : Mod S a (b.setCell ⟨c, o, none⟩ u) := h.setCell hp u
theorem Mod.trans_ {S S' : List Nat} {a b c : World} (k : Mod S' b c) (hS : ∀ x, x ∈ S' → x < a.heap.size → x ∈ S) (h : Mod S a b) : Mod S a c := h.trans k hS
theorem Mod.grown_ {S : List Nat} {a w w' : World} {row : Option Nat} (hg : w.grownBy w' row) (hr : ∀ k, row = some k → k < a.heap.size → k ∈ S) (h : Mod S a w) : Mod S a w' := h.grown hg hr

/-- Behind a call that turned nothing every old cell reads as it did: for the walk. -/
theorem bcells {w w' : World} (h : Mod [] w w') : (∀ b o, b < w.heap.size → w'.cell? ⟨b, o, none⟩ = w.cell? ⟨b, o, none⟩) ∧ (∀ b o, b < w.heap.size → w'.frozen? ⟨b, o, none⟩ = w.frozen? ⟨b, o, none⟩) :=
  ⟨fun b o hb => World.cell?_of_block (h.block b hb (by simp)), fun b o hb => World.frozen?_of_block (h.block b hb (by simp))⟩

/-! ### Slices that are read -/
/-- The slice v has n places; from its first one on stand the cells xs. -/
def Row (w : World) (v : Value) (n : Nat) (xs : List Value) : Prop :=
  ∃ A cap, v = .slice A n cap ∧ n ≤ 9223372036854775807 ∧ ∀ j x, xs[j]? = some x → ∃ b off, A = some ⟨b, off, none⟩ ∧ w.cell? ⟨b, off + j, none⟩ = some x
/-- The block of a slice. -/
def rowIn (v : Value) (S : List Nat) : Prop := ∃ b, v.ownBlock = some b ∧ b ∈ S
theorem Row.mod {S : List Nat} {w w' : World} {v : Value} {n : Nat} {xs : List Value} (h : Row w v n xs) (hm : Mod S w w') (hv : ¬ rowIn v S) : Row w' v n xs := by
  obtain ⟨A, cap, rfl, hn, hc⟩ := h
  refine ⟨A, cap, rfl, hn, fun j x hx => ?_⟩
  obtain ⟨b, off, rfl, hcell⟩ := hc j x hx
  exact ⟨b, off, rfl, hm.cell hcell (fun hb => hv ⟨b, rfl, hb⟩)⟩
theorem Row.mod0 {w w' : World} {v : Value} {n : Nat} {xs : List Value} (h : Row w v n xs) (hm : Mod [] w w') : Row w' v n xs :=
  h.mod hm (by rintro ⟨b, _, hb⟩; cases hb)
theorem Row.at_ {w : World} {v : Value} {n : Nat} {xs : List Value} (h : Row w v n xs) {b off cap : Nat} (hv : v = .slice (some ⟨b, off, none⟩) n cap) {j : Nat} {x : Value} (hx : xs[j]? = some x) : w.cell? ⟨b, off + j, none⟩ = some x := by
  obtain ⟨A, cap', e, hn, hc⟩ := h
  rw [hv] at e
  injection e with e1 e2 e3
  subst e1
  obtain ⟨b', off', e, hcell⟩ := hc j x hx
  injection e with e
  injection e with eb eo
  subst eb; subst eo
  exact hcell
theorem Row.get {w : World} {A : Option Addr} {m cap n : Nat} {xs : List Value} (h : Row w (.slice A m cap) n xs) {j : Nat} {x : Value} (hx : xs[j]? = some x) : ∃ b off, A = some ⟨b, off, none⟩ ∧ w.cell? ⟨b, off + j, none⟩ = some x := by
  obtain ⟨A', cap', e, hn, hc⟩ := h
  injection e with e1 e2 e3
  subst e1
  exact hc j x hx
theorem Row.mod_ {S : List Nat} {w w' : World} {v : Value} {n : Nat} {xs : List Value} (hm : Mod S w w') (hv : ¬ rowIn v S) (h : Row w v n xs) : Row w' v n xs := h.mod hm hv
theorem Row.drew {w : World} {v : Value} {n : Nat} {xs : List Value} (h : Row w v n xs) : Row w.drew v n xs := h
theorem Row.drewN {w : World} {v : Value} {n : Nat} {xs : List Value} (h : Row w v n xs) (m : Nat) : Row (w.drewN m) v n xs := h
theorem Row.alloc {w : World} {v : Value} {n : Nat} {xs : List Value} (h : Row w v n xs) (o : Obj) : Row (w.alloc o) v n xs := h.mod0 ((Mod.refl [] w).alloc o)
theorem Row.nil (w : World) : Row w (.slice none 0 0) 0 [] := ⟨none, 0, rfl, by omega, by simp⟩
theorem Row.of_blk {w : World} {b : Nat} {l : List Value} {t : TypeId} (h : Blk w b l t) (n cap : Nat) (hn : n ≤ 9223372036854775807) : Row w (.slice (some ⟨b, 0, none⟩) n cap) n l :=
  ⟨_, cap, rfl, hn, fun j x hx => ⟨b, 0, rfl, by rw [Nat.zero_add, h.cell]; simpa using hx⟩⟩
theorem Row.new (w : World) (l : List Value) (t : TypeId) (m n cap : Nat) (hm : m = w.heap.size) (hn : n ≤ 9223372036854775807) : Row (w.alloc (.cells l.toArray t)) (.slice (some ⟨m, 0, none⟩) n cap) n l :=
  Row.of_blk (Blk.new_ l t hm) n cap hn
theorem Row.take {w : World} {v : Value} {n : Nat} {xs : List Value} (h : Row w v n xs) (k : Nat) : Row w v n (xs.take k) := by
  obtain ⟨A, cap, rfl, hn, hc⟩ := h
  refine ⟨A, cap, rfl, hn, fun j x hx => hc j x ?_⟩
  rw [List.getElem?_take] at hx
  split at hx
  · exact hx
  · cases hx

/-! ### Masks and shifts -/
theorem i64_mask (i : Nat) (hi : i ≤ 62) (x : Int) (h0 : 0 ≤ x) (h1 : x < 4611686018427387904) : bits .and .i64 x (2 ^ i - 1) = x % 2 ^ i :=
  bits_mask .i64 62 (by decide) (fun n a b => IntWalk.i64_in n ⟨by omega, by
    have : (2 : Int) ^ 62 = 4611686018427387904 := by decide
    omega⟩) i hi x h0 (by
    have : (2 : Int) ^ 62 = 4611686018427387904 := by decide
    omega)
end Go.Proofs.Ytllhoadbocnldaa
