/- A packet that came in. -/
import Derived.Test.YtdichoibidccoaaHdr1
set_option linter.unusedVariables false
set_option linter.unusedSimpArgs false
set_option maxRecDepth 100000
namespace Go.Proofs.Ytdichoibidccoaa
open Go.RowKit Go.ChangeShapes Go.WideShapes Go.Deep
structure PkWf (p : Pkt) : Prop where
  tos : -9223372036854775808 ≤ p.tos ∧ p.tos ≤ 9223372036854775807
  id : -9223372036854775808 ≤ p.id ∧ p.id ≤ 9223372036854775807
  off : -9223372036854775808 ≤ p.off ∧ p.off ≤ 9223372036854775807
  ttl : -9223372036854775808 ≤ p.ttl ∧ p.ttl ≤ 9223372036854775807
  proto : -9223372036854775808 ≤ p.proto ∧ p.proto ≤ 9223372036854775807
  src : 0 ≤ p.src ∧ p.src ≤ 4294967295
  dst : 0 ≤ p.dst ∧ p.dst ≤ 4294967295
  data : p.data.size ≤ maxLen
/-- A packet as a value in a world: its options as they lie there. -/
def PkIn (w : World) (u : Value) (p : Pkt) : Prop := ∃ v, u = pv p v ∧ Structs enOpt 2 w v p.opts
theorem open_structs1 {H : Type} {enc : TypeId × Value → H} {w : World} {α : Type} (en : α → List Value) (Ok : α → Prop) {t e : TypeId} {sz fuel : Nat} {v : Value} {x : DataW H × List MemPlace} (ht : Try.prog.underlying t = some (.slice e)) (hC : Try.prog.cellsOf e = sz)
    (he : ∀ n cs y, cs.length = sz → DataW.trod enc Try.prog w 0 (fun _ => true) true n e cs = some y → ∃ x : α, cs = en x ∧ Ok x)
    (h : DataW.trod enc Try.prog w 0 (fun _ => true) true fuel t [v] = some x) (hpos : 0 < sz) : ∃ l : List α, Structs en sz w v l ∧ (∀ x ∈ l, Ok x) := by
  have hv : ∃ a len cap, v = .slice a len cap := by
    rcases open_slice ht h with ⟨h0, _⟩ | ⟨a, len, cap, m, n, D, Pl, hcs, _⟩
    · injection h0 with h0; exact ⟨_, _, _, h0⟩
    · injection hcs with h0; exact ⟨_, _, _, h0⟩
  obtain ⟨a, len, cap, rfl⟩ := hv
  exact open_structs en Ok ht hC he ⟨_, _, _, rfl⟩ (by simpa [Value.cells] using h) hpos
theorem open_pktF {H : Type} {enc : TypeId × Value → H} {w : World} (n : Nat) (cs : List Value) (y : DataW H × List MemPlace) (hl : cs.length = 11)
    (h : DataW.trod enc Try.prog w 0 (fun _ => true) true n 46 cs = some y) : ∃ (p : Pkt) (v : Value), cs = pkCells p v ∧ Structs enOpt 2 w v p.opts ∧ PkWf p := by
  obtain ⟨m, hf⟩ := open_fields Try.underlying46 (by kernel_rfl) hl h
  match cs, hl with
  | [c0, c1, c2, c3, c4, c5, c6, c7, c8, c9, c10], _ =>
    obtain ⟨v0, y0, e0, h0⟩ := hf 0 _ rfl
    obtain ⟨v1, y1, e1, h1⟩ := hf 1 _ rfl
    obtain ⟨v2, y2, e2, h2⟩ := hf 2 _ rfl
    obtain ⟨v3, y3, e3, h3⟩ := hf 3 _ rfl
    obtain ⟨v4, y4, e4, h4⟩ := hf 4 _ rfl
    obtain ⟨v5, y5, e5, h5⟩ := hf 5 _ rfl
    obtain ⟨v6, y6, e6, h6⟩ := hf 6 _ rfl
    obtain ⟨v7, y7, e7, h7⟩ := hf 7 _ rfl
    obtain ⟨v8, y8, e8, h8⟩ := hf 8 _ rfl
    obtain ⟨v9, y9, e9, h9⟩ := hf 9 _ rfl
    obtain ⟨v10, y10, e10, h10⟩ := hf 10 _ rfl
    obtain ⟨a0, ha0, _, w0⟩ := DataW.trod_int Try.underlying3 h0
    obtain ⟨a1, ha1, _, w1⟩ := DataW.trod_int Try.underlying3 h1
    obtain ⟨a2, ha2, _⟩ := DataW.trod_bool Try.underlying4 h2
    obtain ⟨a3, ha3, _⟩ := DataW.trod_bool Try.underlying4 h3
    obtain ⟨a4, ha4, _, w4⟩ := DataW.trod_int Try.underlying3 h4
    obtain ⟨a5, ha5, _, w5⟩ := DataW.trod_int Try.underlying3 h5
    obtain ⟨a6, ha6, _, w6⟩ := DataW.trod_int Try.underlying3 h6
    obtain ⟨a7, ha7, _, w7⟩ := DataW.trod_int Try.underlying44 h7
    obtain ⟨a8, ha8, _, w8⟩ := DataW.trod_int Try.underlying44 h8
    obtain ⟨l, hs, -⟩ := open_structs1 enOpt _ Try.underlying22 (by kernel_rfl) open_opt h9 (by decide)
    obtain ⟨a10, ha10, _, w10⟩ := DataW.trod_string Try.underlying9 h10
    simp at ha0 ha1 ha2 ha3 ha4 ha5 ha6 ha7 ha8 ha10 e0 e1 e2 e3 e4 e5 e6 e7 e8 e9 e10
    subst ha0 ha1 ha2 ha3 ha4 ha5 ha6 ha7 ha8 ha10 e0 e1 e2 e3 e4 e5 e6 e7 e8 e9 e10
    exact ⟨⟨a0, a1, a2, a3, a4, a5, a6, a7, a8, l, a10⟩, _, rfl, hs, wf_i64 w0, wf_i64 w1, wf_i64 w4, wf_i64 w5, wf_i64 w6, wf_u32 w7, wf_u32 w8, w10⟩
theorem open_pktv {H : Type} {enc : TypeId × Value → H} {w : World} {n : Nat} {u : Value} {y : DataW H × List MemPlace} {r : Reach} {b0 : Nat} (hv : Value.okWide Try.prog w r b0 46 u)
    (h : DataW.trod enc Try.prog w 0 (fun _ => true) true n 46 u.cells.toList = some y) : ∃ (p : Pkt) (v : Value), u = pv p v ∧ Structs enOpt 2 w v p.opts ∧ PkWf p := by
  obtain ⟨cs, rfl, hc⟩ := Go.WideShapes.okWide_struct Try.underlying46 hv
  have hc11 : cs.size = 11 := hc.trans (by kernel_rfl)
  obtain ⟨p, v, hs, hw, hd⟩ := open_pktF n cs.toList y (by simpa using hc11) (by simpa [Value.cells] using h)
  refine ⟨p, v, ?_, hw, hd⟩
  rw [show cs = (pkCells p v).toArray from by rw [← hs]]
end Go.Proofs.Ytdichoibidccoaa
