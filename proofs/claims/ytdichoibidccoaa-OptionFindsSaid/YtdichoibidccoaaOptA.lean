/- Package option: a copy of a list, and what is left of it. -/
import Derived.Test.YtdichoibidccoaaOpt10
import Derived.Test.YtdichoibidccoaaOpt8
import Derived.Test.YtdichoibidccoaaByt
import Derived.Laws.IdiomCopy
import Derived.Laws.CopyRow
import Derived.Laws.AppendOwn
import Derived.Lib.SliceRun
set_option linter.unusedVariables false
set_option linter.unusedSimpArgs false
namespace Go.Proofs.Ytdichoibidccoaa
open Go.RowKit
/-! ### A list's cells -/
theorem flat_len (l : List Opt) : (l.flatMap enOpt).length = l.length * 2 := by
  induction l with
  | nil => rfl
  | cons a t ih => simp only [List.flatMap_cons, List.length_append, ih, enOpt, List.length_cons, List.length_nil]; omega
theorem flat_drop (zs : List Value) : ∀ (l : List Opt) (i : Nat) (hi : i < l.length), ((l.flatMap enOpt ++ zs).drop (i * 2)).take 2 = enOpt l[i]
  | [], i, hi => by simp at hi
  | a :: t, 0, _ => rfl
  | a :: t, i + 1, hi => by
    rw [show (i + 1) * 2 = i * 2 + 1 + 1 from by omega]
    exact flat_drop zs t i (by simpa using hi)
theorem flat_set (zs : List Value) (o : Opt) : ∀ (l : List Opt) (i : Nat) (hi : i < l.length), (l.flatMap enOpt ++ zs).take (i * 2) ++ enOpt o ++ (l.flatMap enOpt ++ zs).drop (i * 2 + (enOpt o).length) = (l.set i o).flatMap enOpt ++ zs
  | [], i, hi => by simp at hi
  | a :: t, 0, _ => by simp [enOpt]
  | a :: t, i + 1, hi => by
    have := flat_set zs o t i (by simpa using hi)
    rw [show (i + 1) * 2 = i * 2 + 1 + 1 from by omega]
    simp only [List.set_cons_succ, List.flatMap_cons, List.append_assoc]
    rw [show i * 2 + 1 + 1 + (enOpt o).length = i * 2 + (enOpt o).length + 1 + 1 from by omega]
    simp only [enOpt, List.cons_append, List.nil_append, List.take_succ_cons, List.drop_succ_cons]
    simp only [enOpt, List.append_assoc, List.cons_append, List.nil_append] at this
    rw [this]
theorem flat_take (zs : List Value) (l : List Opt) (i : Nat) (hi : i ≤ l.length) : (l.flatMap enOpt ++ zs).take (i * 2) = (l.take i).flatMap enOpt := by
  induction l generalizing i with
  | nil => simp at hi; subst hi; simp
  | cons a t ih =>
    cases i with
    | zero => simp
    | succ i =>
      have := ih i (by simpa using hi)
      have e : enOpt a = [.int .i64 a.1, .string a.2] := rfl
      rw [show (i + 1) * 2 = i * 2 + 1 + 1 from by omega]
      simp only [List.take_succ_cons, List.flatMap_cons]
      rw [e]
      simp only [List.cons_append, List.nil_append, List.take_succ_cons]
      rw [this]
section
variable {w0 : World} {S : List Nat} {Q : SP} {ops : Array Oper} {rs : List Res} {l l' : List Value} {ds : List Deferred} {d : Tmp} {rest : List Oper} {ty : TypeId} {pos : String} {aft : Array Edge} {gd : Option (Nat × Bool)} {dt : Option Tmp}
/-- A row of no elements. -/
theorem seqS_empty {T e s : Nat} (hw : Region.wanted ⟨some d, .buildSlice T 0 #[], ty, pos, aft, gd⟩ (yielded ops l.toArray) = true) (hT : look elemL T = some (e, s))
    (h : ∀ m l', l.set d (.slice (some ⟨m, 0, none⟩) 0 0) = l' → seqS Try.prog w0 S ops Q rest ⟨l'.toArray, ds⟩ (blk m [] e :: rs)) :
    seqS Try.prog w0 S ops Q (⟨some d, .buildSlice T 0 #[], ty, pos, aft, gd⟩ :: rest) ⟨l.toArray, ds⟩ rs :=
  seqS_new (mk := fun m => .slice (some ⟨m, 0, none⟩) 0 0) hw rfl (fun w => by
    obtain ⟨hu, hs1, hs2, i, z, hi, hz, hsz, hby, hzc⟩ := elem_spec hT
    simp [execOp, Instr.buildSlice, run_underlying hu, sizeOf, typeInfo, hi, newRow, Instr.fill]
    rw [show Array.range 0 = #[] from by decide]
    simp) (fun m => h m _ rfl)
/-- A row that came in, behind a row of no elements: a new row. -/
theorem seqS_appNew {T e s : Nat} {x y : Operand} {m : Nat} {a : Addr} {n c : Nat} {cs : List Value} (hw : Region.wanted ⟨some d, .call { callee := .builtin .append, args := #[x, y], argTypes := #[T, T] }, ty, pos, aft, gd⟩ (yielded ops l.toArray) = true)
    (hT : look elemL T = some (e, s)) (hx : opnd l x = some (.slice (some ⟨m, 0, none⟩) 0 0)) (hy : opnd l y = some (.slice (some a) n c)) (hn : 0 < n) (hn2 : n ≤ 34359738368) (hl : cs.length = n * s)
    (hcs : ∀ w, Sep w0 S rs w → ∀ j v, cs[j]? = some v → w.cell? (a.add j) = some v)
    (h : ∀ b cap zs l', l.set d (.slice (some ⟨b, 0, none⟩) n cap) = l' → n ≤ cap → cap ≤ maxLen → zs.length = (cap - n) * s → seqS Try.prog w0 S ops Q rest ⟨l'.toArray, ds⟩ (blk b (cs ++ zs) e :: rs)) :
    seqS Try.prog w0 S ops Q (⟨some d, .call { callee := .builtin .append, args := #[x, y], argTypes := #[T, T] }, ty, pos, aft, gd⟩ :: rest) ⟨l.toArray, ds⟩ rs := by
  obtain ⟨ht, hs1, hs2, i, z, hi, hz, hsz, hby, hzc⟩ := elem_spec hT
  refine seqS_act (Φ := fun v q => ∃ b cap zs, v = .slice (some ⟨b, 0, none⟩) n cap ∧ q = blk b (cs ++ zs) e :: rs ∧ n ≤ cap ∧ cap ≤ maxLen ∧ zs.length = (cap - n) * s) hw (fun w hs => ?_)
    (fun v q ⟨b, cap, zs, hv, hq, h1, h2, h3⟩ => by subst hv; subst hq; rw [put_some rfl]; exact h b cap zs _ rfl h1 h2 h3)
  have hmb : n * i.bytes ≤ 140737488355328 := Nat.le_trans (Nat.mul_le_mul hn2 hby) (by decide)
  have hr := run_append_grow (P := Try.prog) w T ty e i z ht hi hz ⟨m, 0, none⟩ 0 0 [] (by simp) (by simp) a n c cs (by rw [hsz]; exact hl) (hcs w hs) (by omega) (by omega) (growslice_fits (by omega) (by simpa using hmb))
  simp only [Nat.zero_add] at hr
  have hge := grownCap_ge w n 0 e
  have hle := grownCap_le_maxLen w n 0 e (by unfold maxLen; omega)
  simp only [execOp, resolve, invoke, builtin, Sem.run_bind, Sem.run_pure, Result.andThen_ok, List.map_toArray, List.map_cons, List.map_nil, opnd_eval hx, opnd_eval hy, hr]
  refine ⟨_, _, rfl, ⟨w.heap.size, grownCap w n 0 e, (Builtin.zeroCells z.cells (grownCap w n 0 e - n)).toList, rfl, rfl, hge, hle, ?_⟩, hs.add ((Mod.refl _ _).drew.alloc _) ?_ (by simp [blk])⟩
  · simp [Builtin.zeroCells, hzc]
  · have := Blk.new w.drew (cs ++ (Builtin.zeroCells z.cells (grownCap w n 0 e - n)).toList) e
    simp only [← List.append_toArray, Array.toArray_toList] at this
    simp only [Array.empty_append]
    exact this
/-- 'clear(s)'. -/
theorem seqS_clear {T e s : Nat} {x : Operand} {b off n c : Nat} {cs zc : List Value} {t : TypeId} (k : Nat) (hw : Region.wanted ⟨none, .call { callee := .builtin .clear, args := #[x], argTypes := #[T] }, ty, pos, aft, gd⟩ (yielded ops l.toArray) = true)
    (hT : look elemL T = some (e, s)) (hz : look zerL e = some zc) (hzs : zc.length = s) (h1 : zc.all (·.oneCell') = true) (hx : opnd l x = some (.slice (some ⟨b, off, none⟩) n c)) (hk : rs[k]? = some (blk b cs t)) (hn : 0 < n) (hlt : off + n * s ≤ cs.length)
    (h : ∀ zz, zz.length = n * s → seqS Try.prog w0 S ops Q rest ⟨l.toArray, ds⟩ (rs.set k (blk b (cs.take off ++ zz ++ cs.drop (off + n * s)) t))) :
    seqS Try.prog w0 S ops Q (⟨none, .call { callee := .builtin .clear, args := #[x], argTypes := #[T] }, ty, pos, aft, gd⟩ :: rest) ⟨l.toArray, ds⟩ rs := by
  obtain ⟨ht, hs1, hs2, i, z, hi, hz', hsz, hby, hzc⟩ := elem_spec hT
  obtain ⟨zz, hzz, hz1⟩ : ∃ zz : List Value, zz = (Builtin.zeroCells zc.toArray n).toList ∧ (∀ v ∈ zz, v.oneCell' = true) := ⟨_, rfl, fun v hv => by
    simp only [Builtin.zeroCells, Array.toList_map, List.mem_map] at hv
    obtain ⟨j, _, rfl⟩ := hv
    have hj : j % zc.length < zc.length := Nat.mod_lt _ (by omega)
    rw [List.size_toArray, List.getElem!_toArray, getElem!_pos zc _ hj]
    exact List.all_eq_true.1 h1 _ (List.getElem_mem hj)⟩
  have hzl : zz.length = n * s := by rw [hzz]; simp [Builtin.zeroCells, hzs]
  refine seqS_act (Φ := fun v q => q = rs.set k (blk b (cs.take off ++ zz ++ cs.drop (off + n * s)) t)) hw (fun w hs => ?_) (fun v q hq => by subst hq; exact h zz hzl)
  have hb : Blk w b cs t := hs.isBlk hk
  have hst := run_storeCells_at Try.prog b off t zz 0 cs.toArray w hb (by simp; omega) hz1
  simp only [Nat.add_zero, hzl] at hst
  obtain ⟨z2, hr2, hc2⟩ := zerAll _ (look_mem hz) w
  obtain ⟨n', rfl⟩ : ∃ n', n = n' + 1 := ⟨n - 1, by omega⟩
  have hr : (Builtin.clear_ #[T] ty #[.slice (some ⟨b, off, none⟩) (n' + 1) c]).run Try.prog w = .ok (.tuple #[]) (w.setRow b (cs.take off ++ zz ++ cs.drop (off + (n' + 1) * s)).toArray) := by
    simp only at hr2 hc2
    simp [Builtin.clear_, run_underlying ht, hr2, hc2, ← hzz, hst]
  simp only [execOp, resolve, invoke, builtin, Sem.run_bind, Sem.run_pure, Result.andThen_ok, List.map_toArray, List.map_cons, List.map_nil, opnd_eval hx, hr]
  exact ⟨_, _, rfl, rfl, sep_setRow hs hk _⟩
end
end Go.Proofs.Ytdichoibidccoaa
