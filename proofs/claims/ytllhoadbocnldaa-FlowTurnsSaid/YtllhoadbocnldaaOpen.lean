/- Arguments that are slices, opened to lists: a slice of whatever elements as a list of what they hold ('Structs'). -/
import Derived.Test.YtllhoadbocnldaaBase
import Derived.Deep.Slices
import Derived.Deep.Fields
import Derived.ChangeSame
import Derived.ProofKit
import Derived.OpenShut
import Derived.ShutString
import Derived.ChangeOld
import Derived.SizedLaws
set_option linter.unusedVariables false
set_option linter.unusedSimpArgs false
namespace Go.Proofs.Ytllhoadbocnldaa
open Go.RowKit Go.ChangeShapes Go.WideShapes Go.Deep

/-- The slice v is the list l: its i-th element's cells, sz of them, are 'en l[i]'. -/
def Structs {α : Type} (en : α → List Value) (sz : Nat) (w : World) (v : Value) (l : List α) : Prop :=
  ∃ A cap, v = .slice A l.length cap ∧ cap ≤ 9223372036854775807 ∧ l.length ≤ cap ∧ (A = none → cap = 0) ∧ ∀ i (h : i < l.length) j x, (en l[i])[j]? = some x → ∃ b off, A = some ⟨b, off, none⟩ ∧ w.cell? ⟨b, off + i * sz + j, none⟩ = some x
theorem Structs.len {α : Type} {en : α → List Value} {sz : Nat} {w : World} {v : Value} {l : List α} (h : Structs en sz w v l) : l.length ≤ 9223372036854775807 := by
  obtain ⟨A, cap, _, h1, h2, _⟩ := h
  omega
theorem Structs.form {α : Type} {en : α → List Value} {sz : Nat} {w : World} {v : Value} {l : List α} (h : Structs en sz w v l) : ∃ A cap, v = .slice A l.length cap := by
  obtain ⟨A, cap, h1, _⟩ := h
  exact ⟨A, cap, h1⟩
/-- An element's cells, where there is one. -/
theorem Structs.get {α : Type} {en : α → List Value} {sz : Nat} {w : World} {A : Option Addr} {m cap : Nat} {l : List α} (h : Structs en sz w (.slice A m cap) l) (i : Nat) (hi : i < l.length) (hpos : en l[i] ≠ []) :
    ∃ b off, A = some ⟨b, off, none⟩ ∧ ∀ j x, (en l[i])[j]? = some x → w.cell? ⟨b, off + i * sz + j, none⟩ = some x := by
  obtain ⟨A', cap', e, _, _, _, hc⟩ := h
  injection e with e1 e2 e3
  subst e1
  obtain ⟨x0, hx0⟩ : ∃ x0, (en l[i])[0]? = some x0 := by
    cases he : en l[i] with
    | nil => exact absurd he hpos
    | cons x0 _ => exact ⟨x0, rfl⟩
  obtain ⟨b, off, rfl, _⟩ := hc i hi 0 x0 hx0
  refine ⟨b, off, rfl, fun j x hx => ?_⟩
  obtain ⟨b', off', e, hcell⟩ := hc i hi j x hx
  injection e with e
  injection e with e1 e2
  subst e1; subst e2
  exact hcell
theorem Structs.mod {α : Type} {en : α → List Value} {sz : Nat} {w w' : World} {v : Value} {l : List α} (h : Structs en sz w v l) {S : List Nat} (hm : Mod S w w') (hv : ∀ b, v.ownBlock = some b → b ∉ S) : Structs en sz w' v l := by
  obtain ⟨A, cap, rfl, h1, h2, h3, hc⟩ := h
  refine ⟨A, cap, rfl, h1, h2, h3, fun i hi j x hx => ?_⟩
  obtain ⟨b, off, rfl, hcell⟩ := hc i hi j x hx
  exact ⟨b, off, rfl, hm.cell hcell (hv b rfl)⟩
/-- Of the world in which it was read nothing has turned: it reads as it did. -/
theorem Structs.below {α : Type} {en : α → List Value} {sz : Nat} {w w' : World} {v : Value} {l : List α} (h : Structs en sz w v l) (hm : Below w.heap.size w w') : Structs en sz w' v l := by
  obtain ⟨A, cap, rfl, h1, h2, h3, hc⟩ := h
  refine ⟨A, cap, rfl, h1, h2, h3, fun i hi j x hx => ?_⟩
  obtain ⟨b, off, rfl, hcell⟩ := hc i hi j x hx
  exact ⟨b, off, rfl, (hm.cell (World.block_lt_of_cell? w _ hcell)).trans hcell⟩
theorem Structs.mod0 {α : Type} {en : α → List Value} {sz : Nat} {w w' : World} {v : Value} {l : List α} (h : Structs en sz w v l) (hm : Mod [] w w') : Structs en sz w' v l :=
  h.below (hm.below (Nat.le_refl _) (by simp))
/-- An element's cells, in every later world. -/
theorem Structs.gets {α : Type} {en : α → List Value} {sz : Nat} {w : World} {A : Option Addr} {m cap : Nat} {l : List α} (h : Structs en sz w (.slice A m cap) l) (i : Nat) (hi : i < l.length) (hpos : en l[i] ≠ []) :
    ∃ b off, A = some ⟨b, off, none⟩ ∧ ∀ w', Mod [] w w' → ∀ j x, (en l[i])[j]? = some x → w'.cell? ⟨b, off + i * sz + j, none⟩ = some x := by
  obtain ⟨b, off, rfl, hc⟩ := h.get i hi hpos
  exact ⟨b, off, rfl, fun w' hm j x hx => hm.cell (hc j x hx) (by simp)⟩
theorem Structs.nil {α : Type} (en : α → List Value) (sz : Nat) (w : World) : Structs en sz w (.slice none 0 0) [] := ⟨none, 0, rfl, by omega, by simp, by simp, by simp⟩

theorem exists_list {α : Type} (n : Nat) (P : Nat → α → Prop) (h : ∀ i, i < n → ∃ x, P i x) : ∃ l : List α, l.length = n ∧ ∀ i (hi : i < l.length), P i l[i] := by
  induction n with
  | zero => exact ⟨[], rfl, by simp⟩
  | succ n ih =>
    obtain ⟨l, hl, hp⟩ := ih (fun i hi => h i (by omega))
    obtain ⟨x, hx⟩ := h n (by omega)
    refine ⟨l ++ [x], by simp [hl], fun i hi => ?_⟩
    by_cases hin : i < l.length
    · rw [List.getElem_append_left hin]; exact hp i hin
    · have : i = n := by simp at hi; omega
      subst this
      rw [List.getElem_append_right (by omega)]
      simpa [hl] using hx

section
variable {H : Type} {enc : TypeId × Value → H} {P : Program} {w : World}
/-- A slice that came in: each element by what the type's own reading tells of its cells. -/
theorem open_structs {α : Type} (en : α → List Value) (Ok : α → Prop) {t e : TypeId} {sz fuel : Nat} {v : Value} {x : DataW H × List MemPlace} (ht : P.underlying t = some (.slice e)) (hC : P.cellsOf e = sz)
    (he : ∀ n cs y, cs.length = sz → DataW.trod enc P w 0 (fun _ => true) true n e cs = some y → ∃ x : α, cs = en x ∧ Ok x)
    (hv : ∃ a len cap, v = .slice a len cap) (h : DataW.trod enc P w 0 (fun _ => true) true fuel t v.cells.toList = some x) (hpos : 0 < sz) :
    ∃ l : List α, Structs en sz w v l ∧ (∀ x ∈ l, Ok x) := by
  obtain ⟨a0, len0, cap0, rfl⟩ := hv
  rcases open_slice ht h with ⟨h0, _⟩ | ⟨a, len, cap, m, n, D, Pl, hcs, hb, hl, hm, hmm, hx, hi⟩
  · simp [Value.cells] at h0
    obtain ⟨rfl, rfl, rfl⟩ := h0
    exact ⟨[], Structs.nil _ _ _, by simp⟩
  · simp [Value.cells] at hcs
    obtain ⟨rfl, rfl, rfl⟩ := hcs
    simp only [if_true] at hmm
    subst hmm
    have hsp : ∀ i, i < m → ∃ x : α, (Ok x ∧ ∀ j y, (en x)[j]? = some y → w.cell? (a.add (i * sz + j)) = some y) ∧ (en x).length = sz := by
      intro i him
      obtain ⟨cs', hc, ht'⟩ := hi i him
      rw [hC] at hc
      obtain ⟨_, hcl, hat⟩ := World.cells?_some hc
      obtain ⟨x, rfl, hok⟩ := he _ _ _ hcl ht'
      refine ⟨x, ⟨hok, fun j y hj => ?_⟩, hcl⟩
      have hjl : j < (en x).length := (List.getElem?_eq_some_iff.1 hj).1
      have := hat j (by omega)
      rw [Go.Deep.add_add] at this
      rw [this]; exact hj
    obtain ⟨l, hll, hlp⟩ := exists_list len0 (fun i x => (Ok x ∧ ∀ j y, (en x)[j]? = some y → w.cell? (a.add (i * sz + j)) = some y) ∧ (en x).length = sz) (fun i hi => hsp i (by omega))
    refine ⟨l, ⟨_, m, by rw [hll], by unfold maxLen at hm; omega, by omega, by simp, fun i hi' j y hy => ?_⟩, fun x hx => ?_⟩
    · have hc := (hlp i hi').1.2 j y hy
      obtain ⟨b, off, sp⟩ := a
      have hs : sp = none := by
        cases sp with
        | none => rfl
        | some q =>
          have h1 := hlp 0 (by omega)
          have hlen0 : 0 < (en (l[0]'(by omega))).length := by rw [h1.2]; exact hpos
          obtain ⟨x0, hx0⟩ : ∃ x0, (en (l[0]'(by omega)))[0]? = some x0 := ⟨_, List.getElem?_eq_getElem hlen0⟩
          have h3 : w.cell? ⟨b, off, some q⟩ = some x0 := by simpa [Addr.add] using h1.1.2 0 x0 hx0
          unfold World.cell? at h3
          split at h3 <;> simp at h3
      subst hs
      refine ⟨b, off, rfl, ?_⟩
      rw [show (⟨b, off, none⟩ : Addr).add (i * sz + j) = ⟨b, off + i * sz + j, none⟩ from by unfold Addr.add; split <;> simp_all; omega] at hc
      exact hc
    · obtain ⟨i, hi', rfl⟩ := List.mem_iff_getElem.1 hx
      exact (hlp i hi').1.1
/-- A struct of one-cell fields: each field's own cell, and its reading. -/
theorem open_fields {t : TypeId} {fs : Array Field} {n : Nat} {cs : List Value} {y : DataW H × List MemPlace} (ht : P.underlying t = some (.struct fs)) (hone : oneCellFields P fs = true) (hl : cs.length = fs.size)
    (h : DataW.trod enc P w 0 (fun _ => true) true n t cs = some y) :
    ∃ m, ∀ (j : Nat) (f : Field), fs[j]? = some f → ∃ (v : Value) (y : DataW H × List MemPlace), cs[j]? = some v ∧ DataW.trod enc P w 0 (fun _ => true) true m f.type [v] = some y := by
  obtain ⟨ys, m, _, _, _, hyl, hf⟩ := DataW.trod_struct ht h
  refine ⟨m, fun j f hj => ?_⟩
  obtain ⟨ho, hk⟩ := hone_of hone j f hj
  have hjl : j < fs.size := (Array.getElem?_eq_some_iff.1 hj).1
  have h1 := hf j f hj
  rw [ho, hk] at h1
  have hone' : (cs.drop j).take 1 = [cs[j]'(by omega)] := by
    rw [List.drop_eq_getElem_cons (by omega)]
    rfl
  rw [hone'] at h1
  exact ⟨_, _, List.getElem?_eq_getElem (by omega), h1.trans (List.getElem?_eq_getElem (by omega))⟩
end
end Go.Proofs.Ytllhoadbocnldaa
