/- Package alarm: the most lines of a reason within a time (plain); a row's elements. -/
import Derived.Test.YtedkjhbdbonmiaaAlm3
set_option linter.unusedVariables false
set_option linter.unusedSimpArgs false
set_option maxRecDepth 8000
namespace Go.Proofs.Ytedkjhbdbonmiaa
open Go.RowKit
/-- The times of a reason's lines. -/
def tsOf (r : Int) (l : List Line) : List Int := (l.filter fun y => decide (y.reason = r)).map (·.time)
theorem tsOf_snoc (r : Int) (l : List Line) (i : Nat) (h : i < l.length) : tsOf r (l.take (i + 1)) = tsOf r (l.take i) ++ (if l[i].reason = r then [l[i].time] else []) := by
  unfold tsOf
  rw [List.take_succ_eq_append_getElem h, List.filter_append, List.map_append]
  congr 1
  by_cases h : l[i].reason = r
  · rw [if_pos h]; simp [h]
  · rw [if_neg h]; simp [h]
theorem tsOf_len (r : Int) (l : List Line) : (tsOf r l).length ≤ l.length := by
  unfold tsOf
  rw [List.length_map]
  exact List.length_filter_le _ _
theorem tsOf_mem {r : Int} {l : List Line} {P : Int → Prop} (h : ∀ y ∈ l, P y.time) : ∀ t ∈ tsOf r l, P t := fun t ht => by
  unfold tsOf at ht
  obtain ⟨y, hy, rfl⟩ := List.mem_map.1 ht
  exact h y (List.mem_filter.1 hy).1
def rIn (ts : List Int) (b : Int) (i : Nat) (acc : Int) : Nat → Int
  | 0 => acc
  | j + 1 => if lateOf (ts.getD i 0) (ts.getD (i + j) 0) b = true then (if rIn ts b i acc j < (j : Int) + 1 then (j : Int) + 1 else rIn ts b i acc j) else rIn ts b i acc j
def rOut (ts : List Int) (b : Int) : Nat → Int
  | 0 => 0
  | i + 1 => rIn ts b i (rOut ts b i) (ts.length - i)
theorem rIn_rng (ts : List Int) (b : Int) (i : Nat) {acc n : Int} (h : 0 ≤ acc ∧ acc ≤ n) : ∀ j : Nat, (j : Int) ≤ n → 0 ≤ rIn ts b i acc j ∧ rIn ts b i acc j ≤ n
  | 0, _ => h
  | j + 1, hj => by
    have ih := rIn_rng ts b i h j (by omega)
    rw [rIn]
    split
    · split <;> omega
    · exact ih
theorem rOut_rng (ts : List Int) (b : Int) : ∀ i : Nat, 0 ≤ rOut ts b i ∧ rOut ts b i ≤ ts.length
  | 0 => ⟨Int.le_refl _, by simp [rOut]⟩
  | i + 1 => by
    rw [rOut]
    exact rIn_rng ts b i (rOut_rng ts b i) _ (by omega)
theorem row_cap {w : World} {b cap : Nat} {ts : List Int} (h : (tsRow (some ⟨b, 0, none⟩) cap ts).holds w) : ts.length ≤ cap ∧ cap ≤ maxLen := by
  have h' : w.ownsRowF 0 3 1 (.slice (some ⟨b, 0, none⟩) ts.length cap) ts.length (ts.map (Value.int .i64)) := h
  rcases h'.2 with ⟨hv, hn'⟩ | ⟨g, cap', cur, fz, hv, _, _, _, h1, h2, _⟩
  · cases hv
  · injection hv with _ _ hc
    subst hc
    exact ⟨h1, h2⟩
theorem getD_at {ts : List Int} {i : Nat} (h : i < ts.length) : ts.getD i 0 = ts[i] := by
  rw [List.getD_eq_getElem?_getD, List.getElem?_eq_getElem h]; rfl
theorem tsRow_push2 (A : Option Addr) (c : Nat) (ts : List Int) (t : Int) : own A c 3 1 (ts.length + 1) (ts.map (Value.int .i64) ++ [Value.int .i64 t]) = tsRow A c (ts ++ [t]) := by
  unfold tsRow
  rw [List.length_append, List.map_append]
  rfl
end Go.Proofs.Ytedkjhbdbonmiaa
