/- A key that came in. -/
import Derived.Test.YtllhoadbocnldaaFKey
import Derived.Test.YtllhoadbocnldaaOpen
import Derived.Test.YtllhoadbocnldaaRdNum
set_option linter.unusedVariables false
set_option linter.unusedSimpArgs false
set_option maxRecDepth 100000
namespace Go.Proofs.Ytllhoadbocnldaa
open Go.RowKit Go.ChangeShapes Go.WideShapes Go.Deep
theorem open_key {H : Type} {enc : TypeId × Value → H} {w : World} (n : Nat) (cs : List Value) (y : DataW H × List MemPlace) (hl : cs.length = 5)
    (h : DataW.trod enc Try.prog w 0 (fun _ => true) true n 24 cs = some y) : ∃ k : FKey, cs = [.int .u32 k.src, .int .u32 k.dst, .int .i64 k.proto, .int .i64 k.sport, .int .i64 k.dport] := by
  obtain ⟨m, hf⟩ := open_fields Try.underlying24 (by kernel_rfl) hl h
  match cs, hl with
  | [c0, c1, c2, c3, c4], _ =>
    obtain ⟨v0, y0, e0, h0⟩ := hf 0 _ rfl
    obtain ⟨v1, y1, e1, h1⟩ := hf 1 _ rfl
    obtain ⟨v2, y2, e2, h2⟩ := hf 2 _ rfl
    obtain ⟨v3, y3, e3, h3⟩ := hf 3 _ rfl
    obtain ⟨v4, y4, e4, h4⟩ := hf 4 _ rfl
    obtain ⟨a0, ha0, _, w0⟩ := DataW.trod_int Try.underlying22 h0
    obtain ⟨a1, ha1, _, w1⟩ := DataW.trod_int Try.underlying22 h1
    obtain ⟨a2, ha2, _, w2⟩ := DataW.trod_int Try.underlying3 h2
    obtain ⟨a3, ha3, _, w3⟩ := DataW.trod_int Try.underlying3 h3
    obtain ⟨a4, ha4, _, w4⟩ := DataW.trod_int Try.underlying3 h4
    simp at ha0 ha1 ha2 ha3 ha4 e0 e1 e2 e3 e4
    subst ha0 ha1 ha2 ha3 ha4 e0 e1 e2 e3 e4
    exact ⟨⟨a0, a1, a2, a3, a4⟩, rfl⟩
theorem open_keyv {H : Type} {enc : TypeId × Value → H} {w : World} {n : Nat} {u : Value} {y : DataW H × List MemPlace} {r : Reach} {b0 : Nat} (hv : Value.okWide Try.prog w r b0 24 u)
    (h : DataW.trod enc Try.prog w 0 (fun _ => true) true n 24 u.cells.toList = some y) : ∃ k : FKey, u = fkv k := by
  obtain ⟨cs, rfl, hc⟩ := Go.WideShapes.okWide_struct Try.underlying24 hv
  have hc5 : cs.size = 5 := hc.trans (by kernel_rfl)
  obtain ⟨k, hs⟩ := open_key n cs.toList y (by simpa using hc5) (by simpa [Value.cells] using h)
  refine ⟨k, ?_⟩
  rw [show cs = ([.int .u32 k.src, .int .u32 k.dst, .int .i64 k.proto, .int .i64 k.sport, .int .i64 k.dport] : List Value).toArray from by rw [← hs]]
end Go.Proofs.Ytllhoadbocnldaa
