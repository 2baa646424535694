/- The frame rule: a call that turns some of the things, in whatever order they stand, leaves the others; a loop, round by round. Program-free but for the calls. -/
import Derived.Test.YtllhoadbocnldaaWl
import Derived.LoopN
set_option linter.unusedVariables false
set_option linter.unusedSimpArgs false
namespace Go.Proofs.Ytllhoadbocnldaa
open Go.RowKit
def feet (rs : List Res) : List Nat := rs.flatMap (·.foot)
theorem mem_feet {rs : List Res} {r : Res} {n : Nat} (hr : r ∈ rs) (hn : n ∈ r.foot) : n ∈ feet rs := List.mem_flatMap.2 ⟨r, hr, hn⟩
inductive Outs : List Res → List Res → List Res → Prop
  | nil {rs : List Res} : Outs [] rs rs
  | cons {r : Res} {l rs rs' rs'' : List Res} : Out r rs rs' → Outs l rs' rs'' → Outs (r :: l) rs rs''
theorem Outs.perm {l rs rest : List Res} (h : Outs l rs rest) : rs.Perm (l ++ rest) := by
  induction h with
  | nil => exact List.Perm.refl _
  | cons ho _ ih =>
    obtain ⟨pre, post, rfl, rfl⟩ := ho.split
    exact (List.perm_middle).trans (ih.cons _)
theorem Sep.perm {w0 w : World} {S : List Nat} {rs rs' : List Res} (h : Sep w0 S rs w) (hp : rs.Perm rs') : Sep w0 S rs' w :=
  ⟨h.mod, fun r hr => h.all r (hp.mem_iff.2 hr), fun r hr => h.old r (hp.mem_iff.2 hr), h.dis.perm hp (fun {x y} hxy n hn hn' => hxy n hn' hn)⟩
/-- Some of the things, by themselves. -/
theorem Sep.alone {w0 w : World} {S : List Nat} {rs1 rest : List Res} (h : Sep w0 S (rs1 ++ rest) w) : Sep w (feet rs1) rs1 w :=
  ⟨Mod.refl _ _, fun r hr => h.all r (by simp [hr]), fun r hr n hn _ => mem_feet hr hn, (List.pairwise_append.1 h.dis).1⟩
theorem Sep.frame {w0 w w' : World} {S : List Nat} {rs1 rs2 rest : List Res} (h : Sep w0 S (rs1 ++ rest) w) (h2 : Sep w (feet rs1) rs2 w') : Sep w0 S (rs2 ++ rest) w' := by
  obtain ⟨d1, d2, d3⟩ := List.pairwise_append.1 h.dis
  have nf : ∀ x ∈ rest, ∀ n ∈ x.foot, n ∉ feet rs1 := fun x hx n hn hf => by
    obtain ⟨r, hr, hr'⟩ := List.mem_flatMap.1 hf
    exact d3 r hr x hx n hr' hn
  have hS : ∀ n ∈ feet rs1, n < w0.heap.size → n ∈ S := fun n hn hlt => by
    obtain ⟨r, hr, hr'⟩ := List.mem_flatMap.1 hn
    exact h.old r (by simp [hr]) n hr' hlt
  refine ⟨h.mod.trans h2.mod hS, fun r hr => ?_, fun r hr n hn hlt => ?_, List.pairwise_append.2 ⟨h2.dis, d2, fun r hr x hx n hn hn' => ?_⟩⟩
  · rcases List.mem_append.1 hr with hr | hr
    · exact h2.all r hr
    · exact r.loc w w' (fun n hn => h2.mod.block n (r.ex w (h.all r (by simp [hr])) n hn) (nf r hr n hn)) (h.all r (by simp [hr]))
  · rcases List.mem_append.1 hr with hr | hr
    · exact hS n (h2.old r hr n hn (Nat.lt_of_lt_of_le hlt h.mod.size)) hlt
    · exact h.old r (by simp [hr]) n hn hlt
  · have hlt : n < w.heap.size := x.ex w (h.all x (by simp [hx])) n hn'
    exact nf x hx n hn' (h2.old r hr n hn hlt)
section
variable {w0 : World} {S : List Nat} {Q : SP} {ops : Array Oper} {rs : List Res} {l l' : List Value} {ds : List Deferred} {d : Tmp} {o : Oper} {rest : List Oper}
/-- What a call leaves that turns the things rs1: an answer, and other things. -/
abbrev Fr {ι : Type} (rs1 : List Res) (v : ι → Value) (rs2 : ι → List Res) (w : World) (e : Ending) (w' : World) : Prop := ∃ i, e = .returned (v i) ∧ Sep w (feet rs1) (rs2 i) w'
theorem seqS_enterF {ι : Type} {f : FuncId} {vs : List Value} {v : ι → Value} {rs1 rs3 : List Res} {rs2 : ι → List Res} (hw : Region.wanted o (yielded ops l.toArray) = true) (hd : o.dst = some d)
    (he : ∀ w, (execOp (Act.eval ⟨l.toArray, ds⟩) o).run Try.prog w = .ok (.enter f vs.toArray) w)
    (hc : ∀ w, Sep w (feet rs1) rs1 w → Calls Try.prog f vs.toArray w (Fr rs1 v rs2 w)) (ho : Outs rs1 rs rs3)
    (h : ∀ i l', l.set d (v i) = l' → seqS Try.prog w0 S ops Q rest ⟨l'.toArray, ds⟩ (rs2 i ++ rs3)) : seqS Try.prog w0 S ops Q (o :: rest) ⟨l.toArray, ds⟩ rs :=
  seqS_act (Φ := fun u q => ∃ i, u = v i ∧ q = rs2 i ++ rs3) hw (fun w hs => by
    have hs1 := hs.perm ho.perm
    rw [he w]
    refine (hc w hs1.alone).mono ?_
    rintro e w' ⟨i, rfl, h2⟩
    exact ⟨v i, _, rfl, ⟨i, rfl, rfl⟩, hs1.frame h2⟩) (fun u q ⟨i, hu, hr⟩ => by
    subst hu; subst hr
    rw [hd, put_some rfl]; exact h i _ rfl)
section
variable {ty : TypeId} {pos : String} {aft : Array Edge} {gd : Option (Nat × Bool)} {dt : Option Tmp}
/-- An element of an array, of one cell, of several. -/
theorem opv_idx1 {T e n sz : Nat} {x y : Operand} {cs : List Value} {kk : IntKind} {i : Int} {v : Value} (hT : Try.prog.underlying T = some (.array n e)) (ha : look aggL e = some false) (hz : look sizL e = some sz)
    (hx : opnd l x = some (.agg cs.toArray)) (hy : opnd l y = some (.int kk i)) (hi : 0 ≤ i ∧ i < n) (hv : cs[i.toNat * sz]? = some v) : OpVal Try.prog w0 S rs l ds ⟨dt, .index T x y, ty, pos, aft, gd⟩ v :=
  opv_index hx hy fun w _ => by
    simp [Instr.index, run_underlying hT, asIntOf, hi, go_sem, sizT hz, part, aggF ha, hv]
theorem opv_idxN {T e n sz : Nat} {x y : Operand} {cs vs : List Value} {kk : IntKind} {i : Int} (hT : Try.prog.underlying T = some (.array n e)) (ha : look aggL e = some true) (hz : look sizL e = some sz)
    (hx : opnd l x = some (.agg cs.toArray)) (hy : opnd l y = some (.int kk i)) (hi : 0 ≤ i ∧ i < n) (hv : (cs.drop (i.toNat * sz)).take sz = vs) : OpVal Try.prog w0 S rs l ds ⟨dt, .index T x y, ty, pos, aft, gd⟩ (.agg vs.toArray) :=
  opv_index hx hy fun w _ => by
    subst hv
    simp [Instr.index, run_underlying hT, asIntOf, hi, go_sem, sizT hz, part, aggT ha]
end
/-- A loop, round by round. -/
def roundsS (P : Program) (w0 : World) (S : List Nat) (c : Code) (Q : SP) : Nat → Act → List Res → Prop
  | 0, _, _ => False
  | n + 1, a, rs => wpS P w0 S c (thenS (roundsS P w0 S c Q n) Q) a rs
theorem roundsS_next {P : Program} {c : Code} {n : Nat} {a : Act} {rs : List Res} (h : ∀ K : Act → List Res → Prop, (∀ a rs, roundsS P w0 S c Q n a rs → K a rs) → wpS P w0 S c (thenS K Q) a rs) : roundsS P w0 S c Q (n + 1) a rs := h _ (fun _ _ h => h)
theorem wpS_rounds {P : Program} {c : Code} (n : Nat) {a : Act} {rs : List Res} (h : roundsS P w0 S c Q n a rs) : wpS P w0 S (.loop c) Q a rs := by
  intro w hw
  refine wp_loop_rounds n ?_
  induction n generalizing a rs w with
  | zero => exact h.elim
  | succ n ih =>
    rw [rounds_succ]
    refine Code.wp_mono ?_ (h w hw)
    rintro e a' w' ⟨rs', hs', hq⟩
    cases e <;> first | exact ih hq w' hs' | exact ⟨rs', hs', hq⟩
end
end Go.Proofs.Ytllhoadbocnldaa
