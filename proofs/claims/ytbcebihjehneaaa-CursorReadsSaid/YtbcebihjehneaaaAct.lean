/- What a law on cursors reads: its acts' cells. -/
import Derived.Test.YtbcebihjehneaaaOpen
set_option linter.unusedVariables false
set_option linter.unusedSimpArgs false
namespace Go.Proofs.Ytbcebihjehneaaa
open Go.RowKit Go.ChangeShapes Go.WideShapes Go.Deep

/-- An act's cells. -/
def enAct (a : Int × Int) : List Value := [.int .i64 a.1, .int .i64 a.2]
theorem open_act {H : Type} {enc : TypeId × Value → H} {w : World} (n : Nat) (cs : List Value) (y : DataW H × List MemPlace) (hl : cs.length = 2)
    (h : DataW.trod enc Try.prog w 0 (fun _ => true) true n 55 cs = some y) : ∃ x : Int × Int, cs = enAct x ∧ ((Lit.int .i64 x.1).wf = true ∧ (Lit.int .i64 x.2).wf = true) := by
  obtain ⟨m, hf⟩ := open_fields Try.underlying55 (by kernel_rfl) hl h
  match cs, hl with
  | [c0, c1], _ =>
    obtain ⟨v0, y0, e0, h0⟩ := hf 0 _ rfl
    obtain ⟨v1, y1, e1, h1⟩ := hf 1 _ rfl
    obtain ⟨a, ha, _, wa⟩ := DataW.trod_int Try.underlying3 h0
    obtain ⟨b, hb, _, wb⟩ := DataW.trod_int Try.underlying3 h1
    simp at ha hb e0 e1
    subst ha; subst hb; subst e0; subst e1
    exact ⟨(a, b), rfl, wa, wb⟩

end Go.Proofs.Ytbcebihjehneaaa
