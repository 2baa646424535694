/- Package alarm: append of a row that the function holds. -/
import Derived.Test.YtedkjhbdbonmiaaAlm3
set_option linter.unusedVariables false
set_option linter.unusedSimpArgs false
namespace Go.Proofs.Ytedkjhbdbonmiaa
open Go.RowKit
section
variable {w0 : World} {S : List Nat} {Q : SP} {ops : Array Oper} {rs : List Res} {l l' : List Value} {ds : List Deferred} {d : Tmp} {rest : List Oper} {ty : TypeId} {pos : String} {aft : Array Edge} {gd : Option (Nat × Bool)} {dt : Option Tmp}
theorem run_app_nil {w : World} {T e s : Nat} {A : Option Addr} {n cap : Nat} {ty : TypeId} {B : Nat} {xs : List Value} (hT : look elemL T = some (e, s)) (h : w.ownsRowF B e s (.slice A n cap) n xs) :
    (Builtin.append_ #[T, T] ty #[.slice A n cap, .slice none 0 0]).run Try.prog w = .ok (.slice A n cap) w := by
  obtain ⟨ht, hs1, hs2, i, z, hi, hz, hsz, hby, hzc⟩ := elem_spec hT
  rcases h.2 with ⟨hv, hn⟩ | ⟨g, cap', cur, fz, hv, _, _, _, h1, _⟩
  · injection hv with hA hl hc
    subst hA; subst hl; subst hc
    simp [Builtin.append_, run_underlying ht, sizeOf, typeInfo, hi, Builtin.lenOf, Builtin.firstCells, loadCells, loadCellsFrom, storeCells]
  · injection hv with hA hl hc
    subst hA; subst hc
    simp [Builtin.append_, run_underlying ht, sizeOf, typeInfo, hi, Builtin.lenOf, Builtin.firstCells, loadCells, loadCellsFrom, storeCells, h1]
theorem seqS_appendOwn {T e s : Nat} {x y : Operand} {A A2 : Option Addr} {cap n m c2 : Nat} {xs ys : List Value} {rs' : Option Addr → Nat → List Res}
    (hw : Region.wanted ⟨some d, .call { callee := .builtin .append, args := #[x, y], argTypes := #[T, T] }, ty, pos, aft, gd⟩ (yielded ops l.toArray) = true) (hT : look elemL T = some (e, s))
    (hx : opnd l x = some (.slice A n cap)) (hy : opnd l y = some (.slice A2 m c2)) (hb : own A2 c2 e s m ys ∈ rs) (h1 : ys.all (·.oneCell') = true)
    (hu : ∀ A' cap', Upd (own A cap e s n xs) (own A' cap' e s (n + m) (xs ++ ys)) rs (rs' A' cap')) (hn : n + m ≤ 34359738368)
    (h : ∀ A' cap' l', l.set d (.slice A' (n + m) cap') = l' → seqS Try.prog w0 S ops Q rest ⟨l'.toArray, ds⟩ (rs' A' cap')) :
    seqS Try.prog w0 S ops Q (⟨some d, .call { callee := .builtin .append, args := #[x, y], argTypes := #[T, T] }, ty, pos, aft, gd⟩ :: rest) ⟨l.toArray, ds⟩ rs := by
  obtain ⟨ht, hs1, hs2, i, z, hi, hz, hsz, hby, hzc⟩ := elem_spec hT
  refine seqS_act (Φ := fun v q => ∃ A' cap', v = .slice A' (n + m) cap' ∧ q = rs' A' cap') hw (fun w hs => ?_) (fun v q ⟨A', cap', hv, hq⟩ => by subst hv; subst hq; rw [put_some rfl]; exact h A' cap' _ rfl)
  have hown : w.ownsRowF 0 e s (.slice A n cap) n xs := hs.all _ (hu none 0).mem
  have hown2 : w.ownsRowF 0 e s (.slice A2 m c2) m ys := hs.all _ hb
  have hmb : (n + m) * i.bytes ≤ 140737488355328 := Nat.le_trans (Nat.mul_le_mul hn hby) (by decide)
  rcases hown2.2 with ⟨hv2, hm0⟩ | ⟨g2, cap2, cur2, fz2, hv2, _⟩
  · injection hv2 with e1 e2 e3
    subst e1; subst e2; subst e3
    have hys : ys = [] := List.eq_nil_of_length_eq_zero (by have := hown2.1; omega)
    subst hys
    simp only [execOp, resolve, invoke, builtin, Sem.run_bind, Sem.run_pure, Result.andThen_ok, List.map_toArray, List.map_cons, List.map_nil, opnd_eval hx, opnd_eval hy, run_app_nil hT hown]
    refine ⟨_, _, rfl, ⟨A, cap, rfl, rfl⟩, hs.updU (hu A cap) (Mod.refl _ _) (by rw [List.append_nil]; exact hown) (fun k hk => .inl hk)⟩
  · injection hv2 with e1 e2 e3
    subst e1
    obtain ⟨v', w', hr, h2, h3, h4, h5⟩ := append_row (P := Try.prog) w T ty e i z s i.bytes ht hi hz hsz rfl hzc hs1 0 (Nat.zero_le _) (.slice A n cap) n xs hown ⟨g2, 0, none⟩ m c2 ys hown2.1
      (fun j u hj => hown2.cells (g := g2) rfl j u hj) (fun u hu => List.all_eq_true.1 h1 u hu) (by unfold maxLen; omega) hmb
    obtain ⟨A', cap', rfl⟩ : ∃ A' cap', v' = .slice A' (n + m) cap' := by
      rcases h2.2 with ⟨hv, h0⟩ | ⟨g, cap', cur, fz, hv, _⟩
      · exact ⟨none, 0, by rw [hv, h0]⟩
      · exact ⟨_, _, hv⟩
    simp only [execOp, resolve, invoke, builtin, Sem.run_bind, Sem.run_pure, Result.andThen_ok, List.map_toArray, List.map_cons, List.map_nil, opnd_eval hx, opnd_eval hy, hr]
    refine ⟨_, _, rfl, ⟨A', cap', rfl, rfl⟩, hs.updU (hu A' cap') ⟨h3.os, h3.tape, h3.output, h3.size, fun k hk hkn => h3.block k hk (fun e => hkn (by simp [own, ← e]))⟩ h2 (fun k hk => ?_)⟩
    simp only [own, Option.mem_toList] at hk ⊢
    rcases h5 with h5 | h5
    · exact .inl (by rw [← h5]; exact hk)
    · exact .inr (h5 k hk)
end
/-- All alarms of a list of watches. -/
def findOf (W : List Wtc) (l : List Line) : Nat → List (Int × Int × Int)
  | 0 => []
  | i + 1 => if h : i < W.length then findOf W l i ++ ((almSt W[i] l l.length).out.map fun p => ((i : Int), p.1, p.2)) else findOf W l i
theorem findOf_snoc (W : List Wtc) (l : List Line) (i : Nat) (h : i < W.length) : findOf W l (i + 1) = findOf W l i ++ ((almSt W[i] l l.length).out.map fun p => ((i : Int), p.1, p.2)) := by
  rw [findOf, dif_pos h]
theorem almOut_le (x : Wtc) (l : List Line) : ∀ i, (almSt x l i).out.length ≤ i
  | 0 => Nat.zero_le _
  | i + 1 => by
    have ih := almOut_le x l i
    rw [almSt]
    split
    · unfold aStep
      split
      · split
        · simp only [List.length_append, List.length_cons, List.length_nil]; omega
        · simp only; omega
      · omega
    · omega
theorem find_le (W : List Wtc) (l : List Line) : ∀ i, (findOf W l i).length ≤ i * l.length
  | 0 => Nat.zero_le _
  | i + 1 => by
    have ih := find_le W l i
    rw [findOf]
    split
    · rw [List.length_append, List.length_map, Nat.succ_mul]
      have := almOut_le W[i] l l.length
      omega
    · rw [Nat.succ_mul]; omega
theorem almCells (L : List (Int × Int × Int)) : (L.flatMap enAlm).all (·.oneCell') = true := by
  induction L with
  | nil => rfl
  | cons a t ih => simp only [List.flatMap_cons, List.all_append, ih, Bool.and_true]; rfl
theorem watch_at {w : World} {A : Option Addr} {n cap : Nat} {l : List Wtc} (hr : Structs wcCells 4 w (.slice A n cap) l) (k : Nat) (hlt : k < l.length) : ∃ b off, A = some ⟨b, off, none⟩ ∧
    Hid (∀ w', Mod [] w w' → (Instr.loadAt 51 (.pointer (some ⟨b, off + k * 4, none⟩))).run Try.prog w' = .ok (wcv l[k]) w') := by
  obtain ⟨b, off, rfl, hcell⟩ := hr.gets k hlt (by simp [wcCells])
  exact ⟨b, off, rfl, Lib.hid fun w' hm => run_loadN (vs := wcCells l[k]) (aggT rfl) (sizT rfl) (fun j v hj => hcell w' hm j v hj)⟩
end Go.Proofs.Ytedkjhbdbonmiaa
