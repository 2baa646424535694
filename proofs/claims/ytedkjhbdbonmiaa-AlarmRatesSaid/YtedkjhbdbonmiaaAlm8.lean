/- Package alarm: lines and watches that came in. -/
import Derived.Test.YtedkjhbdbonmiaaAlm3
import Derived.Test.YtedkjhbdbonmiaaRdNum
set_option linter.unusedVariables false
set_option linter.unusedSimpArgs false
set_option maxRecDepth 100000
namespace Go.Proofs.Ytedkjhbdbonmiaa
open Go.RowKit Go.ChangeShapes Go.WideShapes Go.Deep
theorem open_key {H : Type} {enc : TypeId × Value → H} {w : World} (n : Nat) (cs : List Value) (y : DataW H × List MemPlace) (hl : cs.length = 5)
    (h : DataW.trod enc Try.prog w 0 (fun _ => true) true n 56 cs = some y) : ∃ k : FKey, cs = [.int .u32 k.src, .int .u32 k.dst, .int .i64 k.proto, .int .i64 k.sport, .int .i64 k.dport] := by
  obtain ⟨m, hf⟩ := open_fields Try.underlying56 (by kernel_rfl) hl h
  match cs, hl with
  | [c0, c1, c2, c3, c4], _ =>
    obtain ⟨v0, y0, e0, h0⟩ := hf 0 _ rfl
    obtain ⟨v1, y1, e1, h1⟩ := hf 1 _ rfl
    obtain ⟨v2, y2, e2, h2⟩ := hf 2 _ rfl
    obtain ⟨v3, y3, e3, h3⟩ := hf 3 _ rfl
    obtain ⟨v4, y4, e4, h4⟩ := hf 4 _ rfl
    obtain ⟨a0, ha0, _, w0⟩ := DataW.trod_int Try.underlying54 h0
    obtain ⟨a1, ha1, _, w1⟩ := DataW.trod_int Try.underlying54 h1
    obtain ⟨a2, ha2, _, w2⟩ := DataW.trod_int Try.underlying3 h2
    obtain ⟨a3, ha3, _, w3⟩ := DataW.trod_int Try.underlying3 h3
    obtain ⟨a4, ha4, _, w4⟩ := DataW.trod_int Try.underlying3 h4
    simp at ha0 ha1 ha2 ha3 ha4 e0 e1 e2 e3 e4
    subst ha0 ha1 ha2 ha3 ha4 e0 e1 e2 e3 e4
    exact ⟨⟨a0, a1, a2, a3, a4⟩, rfl⟩
theorem open_parts37 {H : Type} {enc : TypeId × Value → H} {w : World} {t : TypeId} {fs : Array Field} {n : Nat} {cs : List Value} {y : DataW H × List MemPlace} (ht : Try.prog.underlying t = some (.struct fs))
    (h : DataW.trod enc Try.prog w 0 (fun _ => true) true n t cs = some y) :
    ∃ m, ∀ (j : Nat) (f : Field) (k : Nat), fs[j]? = some f → Try.prog.cellsOf f.type = k → ∃ (y : DataW H × List MemPlace), DataW.trod enc Try.prog w 0 (fun _ => true) true m f.type ((cs.drop f.offset).take k) = some y := by
  obtain ⟨ys, m, _, _, _, hyl, hf⟩ := DataW.trod_struct ht h
  refine ⟨m, fun j f k hj hk => ?_⟩
  have hjl : j < fs.size := (Array.getElem?_eq_some_iff.1 hj).1
  have h1 := hf j f hj
  rw [hk] at h1
  exact ⟨_, h1.trans (List.getElem?_eq_getElem (by omega))⟩
theorem open_line {H : Type} {enc : TypeId × Value → H} {w : World} (n : Nat) (cs : List Value) (y : DataW H × List MemPlace) (hl : cs.length = 7)
    (h : DataW.trod enc Try.prog w 0 (fun _ => true) true n 58 cs = some y) : ∃ x : Line, cs = lnCells x ∧ (-9223372036854775808 ≤ x.time ∧ x.time ≤ 9223372036854775807) := by
  obtain ⟨m, hf⟩ := open_parts37 Try.underlying58 h
  match cs, hl with
  | [c0, c1, c2, c3, c4, c5, c6], _ =>
    obtain ⟨y0, h0⟩ := hf 0 _ 1 rfl (by kernel_rfl)
    obtain ⟨y1, h1⟩ := hf 1 _ 1 rfl (by kernel_rfl)
    obtain ⟨y2, h2⟩ := hf 2 _ 5 rfl (by kernel_rfl)
    obtain ⟨a0, ha0, _, w0⟩ := DataW.trod_int Try.underlying3 h0
    obtain ⟨a1, ha1, _, w1⟩ := DataW.trod_int Try.underlying49 h1
    obtain ⟨k, hk⟩ := open_key m _ y2 rfl h2
    simp at ha0 ha1 hk
    obtain ⟨e1, e2, e3, e4, e5⟩ := hk
    subst ha0 ha1 e1 e2 e3 e4 e5
    exact ⟨⟨a0, a1, k⟩, rfl, wf_i64 w0⟩
theorem open_watch {H : Type} {enc : TypeId × Value → H} {w : World} (n : Nat) (cs : List Value) (y : DataW H × List MemPlace) (hl : cs.length = 4)
    (h : DataW.trod enc Try.prog w 0 (fun _ => true) true n 51 cs = some y) : ∃ x : Wtc, cs = wcCells x := by
  obtain ⟨m, hf⟩ := open_fields Try.underlying51 (by kernel_rfl) hl h
  match cs, hl with
  | [c0, c1, c2, c3], _ =>
    obtain ⟨v0, y0, e0, h0⟩ := hf 0 _ rfl
    obtain ⟨v1, y1, e1, h1⟩ := hf 1 _ rfl
    obtain ⟨v2, y2, e2, h2⟩ := hf 2 _ rfl
    obtain ⟨v3, y3, e3, h3⟩ := hf 3 _ rfl
    obtain ⟨a0, ha0, _, w0⟩ := DataW.trod_int Try.underlying49 h0
    obtain ⟨a1, ha1, _, w1⟩ := DataW.trod_int Try.underlying3 h1
    obtain ⟨a2, ha2, _, w2⟩ := DataW.trod_int Try.underlying3 h2
    obtain ⟨a3, ha3, _, w3⟩ := DataW.trod_int Try.underlying3 h3
    simp at ha0 ha1 ha2 ha3 e0 e1 e2 e3
    subst ha0 ha1 ha2 ha3 e0 e1 e2 e3
    exact ⟨⟨a0, a1, a2, a3⟩, rfl⟩
theorem open_watchv {H : Type} {enc : TypeId × Value → H} {w : World} {n : Nat} {u : Value} {y : DataW H × List MemPlace} {r : Reach} {b0 : Nat} (hv : Value.okWide Try.prog w r b0 51 u)
    (h : DataW.trod enc Try.prog w 0 (fun _ => true) true n 51 u.cells.toList = some y) : ∃ x : Wtc, u = wcv x := by
  obtain ⟨cs, rfl, hc⟩ := Go.WideShapes.okWide_struct Try.underlying51 hv
  have hc4 : cs.size = 4 := hc.trans (by kernel_rfl)
  obtain ⟨x, hs⟩ := open_watch n cs.toList y (by simpa using hc4) (by simpa [Value.cells] using h)
  refine ⟨x, ?_⟩
  rw [show cs = (wcCells x).toArray from by rw [← hs]]
end Go.Proofs.Ytedkjhbdbonmiaa
