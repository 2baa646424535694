/- The walk's steps, one for each sort of operation. Plain laws over the model; no function of the program. -/
import Derived.Test.YtllhoadbocnldaaSep
set_option linter.unusedVariables false
set_option linter.unusedSimpArgs false
namespace Go.Proofs.Ytllhoadbocnldaa
open Go.RowKit

section
variable {P : Program} {w0 : World} {S : List Nat} {Q : SP} {rs : List Res} {ops : Array Oper} {l l' : List Value} {ds : List Deferred} {rest : List Oper} {d : Tmp} {ty : TypeId} {pos : String} {aft : Array Edge} {gd : Option (Nat × Bool)}
theorem useK {a : Act} {rs : List Res} {K X : Act → List Res → Prop} (h : ∀ a rs, X a rs → K a rs) (hx : X a rs) : K a rs := h a rs hx
/-- A guard that isn't decided yet. -/
theorem seqS_split {o : Oper} (t : Tmp) (b : Bool) (hb : l[t]? = some (.bool b)) (h1 : b = true → seqS P w0 S ops Q (o :: rest) ⟨(l.set t (.bool true)).toArray, ds⟩ rs)
    (h2 : b = false → seqS P w0 S ops Q (o :: rest) ⟨(l.set t (.bool false)).toArray, ds⟩ rs) : seqS P w0 S ops Q (o :: rest) ⟨l.toArray, ds⟩ rs := by
  obtain ⟨hlt, he⟩ := List.getElem?_eq_some_iff.1 hb
  cases b with
  | true => have := h1 rfl; rwa [← he, List.set_getElem_self] at this
  | false => have := h2 rfl; rwa [← he, List.set_getElem_self] at this
theorem want_none {o : Oper} (h : o.guard = none) : Region.wanted o (yielded ops l.toArray) = true := by unfold Region.wanted; rw [h]
theorem want_t {ol : List Oper} {o : Oper} {g : Nat} {t : Tmp} {b : Bool} (hg : o.guard = some (g, true)) (ht : (ol[g]?).bind (·.dst) = some t) (hb : opnd l (.tmp t) = some (.bool b)) (h : b = true) : Region.wanted o (yielded ol.toArray l.toArray) = true := by
  simp only [opnd] at hb
  simp [Region.wanted, hg, yielded, ht, hb, h]
theorem want_f {ol : List Oper} {o : Oper} {g : Nat} {t : Tmp} {b : Bool} (hg : o.guard = some (g, false)) (ht : (ol[g]?).bind (·.dst) = some t) (hb : opnd l (.tmp t) = some (.bool b)) (h : b = false) : Region.wanted o (yielded ol.toArray l.toArray) = true := by
  simp only [opnd] at hb
  simp [Region.wanted, hg, yielded, ht, hb, h]
theorem unwant_t {ol : List Oper} {o : Oper} {g : Nat} {t : Tmp} {b : Bool} (hg : o.guard = some (g, true)) (ht : (ol[g]?).bind (·.dst) = some t) (hb : opnd l (.tmp t) = some (.bool b)) (h : b = false) : Region.wanted o (yielded ol.toArray l.toArray) = false := by
  simp only [opnd] at hb
  simp [Region.wanted, hg, yielded, ht, hb, h]
theorem unwant_f {ol : List Oper} {o : Oper} {g : Nat} {t : Tmp} {b : Bool} (hg : o.guard = some (g, false)) (ht : (ol[g]?).bind (·.dst) = some t) (hb : opnd l (.tmp t) = some (.bool b)) (h : b = true) : Region.wanted o (yielded ol.toArray l.toArray) = false := by
  simp only [opnd] at hb
  simp [Region.wanted, hg, yielded, ht, hb, h]
/-- .. by its slot. -/
theorem seqS_guard {ol : List Oper} {o : Oper} {g : Nat} {want : Bool} {t : Tmp} {b : Bool} (hg : o.guard = some (g, want)) (ht : (ol[g]?).bind (·.dst) = some t) (hb : opnd l (.tmp t) = some (.bool b)) (h1 : ∀ l', l.set t (.bool true) = l' → b = true → seqS P w0 S ol.toArray Q (o :: rest) ⟨l'.toArray, ds⟩ rs)
    (h2 : ∀ l', l.set t (.bool false) = l' → b = false → seqS P w0 S ol.toArray Q (o :: rest) ⟨l'.toArray, ds⟩ rs) : seqS P w0 S ol.toArray Q (o :: rest) ⟨l.toArray, ds⟩ rs :=
  seqS_split t b (by simpa only [opnd] using hb) (h1 _ rfl) (h2 _ rfl)
theorem seqS_isT {o : Oper} (hw : Region.wanted o (yielded ops l.toArray) = true) (h : seqS P w0 S ops Q (o :: rest) ⟨l.toArray, ds⟩ rs) : seqS P w0 S ops Q (o :: rest) ⟨l.toArray, ds⟩ rs := h
theorem seqS_isF {o : Oper} (hw : Region.wanted o (yielded ops l.toArray) = false) (h : seqS P w0 S ops Q (o :: rest) ⟨l.toArray, ds⟩ rs) : seqS P w0 S ops Q (o :: rest) ⟨l.toArray, ds⟩ rs := h
/-- Operation o yields v, and turns nothing, wherever the things hold. -/
def OpVal (P : Program) (w0 : World) (S : List Nat) (rs : List Res) (l : List Value) (ds : List Deferred) (o : Oper) (v : Value) : Prop := ∀ w, Sep w0 S rs w → (execOp (Act.eval ⟨l.toArray, ds⟩) o).run P w = .ok (.value v) w
theorem seqS_v {o : Oper} {v : Value} (hw : Region.wanted o (yielded ops l.toArray) = true) (hd : o.dst = some d) (hv : OpVal P w0 S rs l ds o v) (hl : l.set d v = l')
    (h : seqS P w0 S ops Q rest ⟨l'.toArray, ds⟩ rs) : seqS P w0 S ops Q (o :: rest) ⟨l.toArray, ds⟩ rs := seqS_val hw hd hv hl h
section opv
variable {dt : Option Tmp}
theorem opv_move {x : Operand} {v : Value}  (hx : opnd l x = some v) :
    OpVal P w0 S rs l ds ⟨dt, .move x, ty, pos, aft, gd⟩ v :=
  (fun w _ => by simp only [execOp, opnd_eval hx]; rfl)
theorem opv_assign {x : Operand} {v : Value}  (hx : opnd l x = some v) :
    OpVal P w0 S rs l ds ⟨dt, .assign x, ty, pos, aft, gd⟩ v :=
  (fun w _ => by simp only [execOp, opnd_eval hx]; rfl)
theorem opv_pick {c x y : Operand} {b : Bool} {v u : Value}  (hc : opnd l c = some (.bool b)) (hx : opnd l x = some v) (hy : opnd l y = some u) :
    OpVal P w0 S rs l ds ⟨dt, .pick c x y, ty, pos, aft, gd⟩ (if b then v else u) :=
  (fun w _ => by simp only [execOp, opnd_eval hc, opnd_eval hx, opnd_eval hy, asBool]; rfl)
theorem opv_pickT {c x y : Operand} {v : Value}  (hc : opnd l c = some (.bool true)) (hx : opnd l x = some v) :
    OpVal P w0 S rs l ds ⟨dt, .pick c x y, ty, pos, aft, gd⟩ v :=
  (fun w _ => by simp only [execOp, opnd_eval hc, opnd_eval hx, asBool]; rfl)
theorem opv_pickF {c x y : Operand} {v : Value}  (hc : opnd l c = some (.bool false)) (hy : opnd l y = some v) :
    OpVal P w0 S rs l ds ⟨dt, .pick c x y, ty, pos, aft, gd⟩ v :=
  (fun w _ => by simp only [execOp, opnd_eval hc, opnd_eval hy, asBool]; rfl)
theorem opv_bin {op : BinOp} {T U : TypeId} {x y : Operand} {vx vy v : Value}  (hx : opnd l x = some vx) (hy : opnd l y = some vy)
    (hv : ∀ w, Sep w0 S rs w → ((do eqGuard op T x y vx vy; binOp op T vx vy) : Sem Value).run P w = .ok v w) :
    OpVal P w0 S rs l ds ⟨dt, .binOp op T x y U, ty, pos, aft, gd⟩ v :=
  (fun w hs => by have := hv w hs; simp only [Sem.run_bind] at this; simp only [execOp, opnd_eval hx, opnd_eval hy, Sem.run_bind, this]; rfl)
theorem opv_un {op : UnOp} {T : TypeId} {x : Operand} {vx v : Value}  (hx : opnd l x = some vx)
    (hv : ∀ w, Sep w0 S rs w → (Op.unary op vx).run P w = .ok v w) :
    OpVal P w0 S rs l ds ⟨dt, .unOp op T x, ty, pos, aft, gd⟩ v :=
  (fun w hs => by simp only [execOp, opnd_eval hx, Sem.run_bind, hv w hs]; rfl)
theorem opv_extract {k : Nat} {x : Operand} {vs : List Value} {v : Value}  (hx : opnd l x = some (.tuple vs.toArray)) (hv : vs[k]? = some v) :
    OpVal P w0 S rs l ds ⟨dt, .extract x k, ty, pos, aft, gd⟩ v :=
  (fun w hs => by simp only [execOp, opnd_eval hx, Sem.run_bind, Instr.extract, List.getElem?_toArray, hv]; rfl)
theorem opv_fieldAddr {T : TypeId} {x : Operand} {f : Nat} {vx v : Value}  (hx : opnd l x = some vx)
    (hv : ∀ w, Sep w0 S rs w → (Instr.fieldAt T vx f).run P w = .ok v w) :
    OpVal P w0 S rs l ds ⟨dt, .fieldAddr T x f, ty, pos, aft, gd⟩ v :=
  (fun w hs => by simp only [execOp, opnd_eval hx, Sem.run_bind, hv w hs]; rfl)
theorem opv_field {T : TypeId} {x : Operand} {f : Nat} {vx v : Value}  (hx : opnd l x = some vx)
    (hv : ∀ w, Sep w0 S rs w → (Instr.field T vx f).run P w = .ok v w) :
    OpVal P w0 S rs l ds ⟨dt, .field T x f, ty, pos, aft, gd⟩ v :=
  (fun w hs => by simp only [execOp, opnd_eval hx, Sem.run_bind, hv w hs]; rfl)
theorem opv_indexAddr {T : TypeId} {x y : Operand} {vx vy v : Value}  (hx : opnd l x = some vx) (hy : opnd l y = some vy)
    (hv : ∀ w, Sep w0 S rs w → (Instr.indexAt T vx vy).run P w = .ok v w) :
    OpVal P w0 S rs l ds ⟨dt, .indexAddr T x y, ty, pos, aft, gd⟩ v :=
  (fun w hs => by simp only [execOp, opnd_eval hx, opnd_eval hy, Sem.run_bind, hv w hs]; rfl)
theorem opv_index {T : TypeId} {x y : Operand} {vx vy v : Value}  (hx : opnd l x = some vx) (hy : opnd l y = some vy)
    (hv : ∀ w, Sep w0 S rs w → (Instr.index T vx vy).run P w = .ok v w) :
    OpVal P w0 S rs l ds ⟨dt, .index T x y, ty, pos, aft, gd⟩ v :=
  (fun w hs => by simp only [execOp, opnd_eval hx, opnd_eval hy, Sem.run_bind, hv w hs]; rfl)
theorem opv_convert {s t : TypeId} {x : Operand} {vx v : Value}  (hx : opnd l x = some vx)
    (hv : ∀ w, Sep w0 S rs w → (convert s t vx).run P w = .ok v w) :
    OpVal P w0 S rs l ds ⟨dt, .convert s t x, ty, pos, aft, gd⟩ v :=
  (fun w hs => by simp only [execOp, opnd_eval hx, Sem.run_bind, hv w hs]; rfl)
theorem opv_nilCheck {x : Operand} {ad : Addr}  (hx : opnd l x = some (.pointer (some ad))) :
    OpVal P w0 S rs l ds ⟨dt, .nilCheck x, ty, pos, aft, gd⟩ (.pointer (some ad)) :=
  (fun w hs => by simp only [execOp, opnd_eval hx]; rfl)
theorem opv_any {o : Oper} {v : Value} (hv : ∀ w, Sep w0 S rs w → (execOp (Act.eval ⟨l.toArray, ds⟩) o).run P w = .ok (.value v) w) : OpVal P w0 S rs l ds o v := hv
end opv
theorem seqS_alloc {T : TypeId} {cs : List Value} (hw : Region.wanted ⟨some d, .alloc T, ty, pos, aft, gd⟩ (yielded ops l.toArray) = true)
    (hz : ∀ w, (execOp (Act.eval ⟨l.toArray, ds⟩) ⟨some d, .alloc T, ty, pos, aft, gd⟩).run P w = .ok (.value (.pointer (some ⟨w.heap.size, 0, none⟩))) (w.alloc (.cells cs.toArray T)))
    (h : ∀ n l', l.set d (.pointer (some ⟨n, 0, none⟩)) = l' → seqS P w0 S ops Q rest ⟨l'.toArray, ds⟩ (blk n cs T :: rs)) :
    seqS P w0 S ops Q (⟨some d, .alloc T, ty, pos, aft, gd⟩ :: rest) ⟨l.toArray, ds⟩ rs :=
  seqS_new (mk := fun n => .pointer (some ⟨n, 0, none⟩)) hw rfl hz (fun n => h n _ rfl)
theorem seqS_box {T : TypeId} {x : Operand} {vx : Value} {cs : List Value} (hw : Region.wanted ⟨some d, .box T x, ty, pos, aft, gd⟩ (yielded ops l.toArray) = true) (hx : opnd l x = some vx) (hc : vx.cells.toList = cs)
    (h : ∀ n l', l.set d (.pointer (some ⟨n, 0, none⟩)) = l' → seqS P w0 S ops Q rest ⟨l'.toArray, ds⟩ (blk n cs T :: rs)) :
    seqS P w0 S ops Q (⟨some d, .box T x, ty, pos, aft, gd⟩ :: rest) ⟨l.toArray, ds⟩ rs :=
  seqS_new (mk := fun n => .pointer (some ⟨n, 0, none⟩)) hw rfl (fun w => by
    subst hc
    simp only [execOp, opnd_eval hx, Sem.run_bind, Instr.box, newVar, newRow, run_newObj_alloc, Sem.run_pure, Result.andThen_ok, Array.toArray_toList]) (fun n => h n _ rfl)
end

/-! ### Loads and stores -/
section
variable {P : Program} {w : World}
theorem add_none (n o j : Nat) : (⟨n, o, none⟩ : Addr).add j = ⟨n, o + j, none⟩ := by unfold Addr.add; split <;> simp_all
theorem run_load1 {T : TypeId} {n off : Nat} {v : Value} (hT : ∀ w, (isAgg T).run P w = .ok false w) (hc : w.cell? ⟨n, off, none⟩ = some v) : (Instr.loadAt T (.pointer (some ⟨n, off, none⟩))).run P w = .ok v w := by
  simp only [Instr.loadAt, Instr.sureAddr, Sem.run_bind, Sem.run_pure, Result.andThen_ok, loadVar, hT, run_load, hc, Bool.false_eq_true, if_false]
theorem run_loadN {T : TypeId} {n off : Nat} {vs : List Value} (hT : ∀ w, (isAgg T).run P w = .ok true w) (hz : ∀ w, (sizeOf T).run P w = .ok vs.length w) (hc : ∀ j v, vs[j]? = some v → w.cell? ⟨n, off + j, none⟩ = some v) :
    (Instr.loadAt T (.pointer (some ⟨n, off, none⟩))).run P w = .ok (.agg vs.toArray) w := by
  have h := run_loadCells_list (P := P) w ⟨n, off, none⟩ vs (fun j v hv => by rw [add_none]; exact hc j v hv)
  simp only [Instr.loadAt, Instr.sureAddr, Sem.run_bind, Sem.run_pure, Result.andThen_ok, loadVar, hT, hz, h, if_true]
theorem run_store1 {T : TypeId} {n off : Nat} {v u : Value} (hz : ∀ w, (sizeOf T).run P w = .ok 1 w) (h1 : v.oneCell' = true) (hc : w.cell? ⟨n, off, none⟩ = some u) (hf : w.frozen? ⟨n, off, none⟩ = false) :
    (Instr.storeAt T (.pointer (some ⟨n, off, none⟩)) v).run P w = .ok () (w.setCell ⟨n, off, none⟩ v) := by
  have hcs : v.cells = #[v] := by cases v <;> simp_all [Value.oneCell', Value.cells]
  simp only [Instr.storeAt, Instr.sureAddr, Sem.run_bind, Sem.run_pure, Result.andThen_ok, storeVar, hcs, hz, storeCells, add_none, Nat.add_zero]
  have hs := run_store P w ⟨n, off, none⟩ v .plain h1
  rw [hc] at hs
  simp only [hf] at hs
  simp [hs, storeCells]
theorem run_storeN {T : TypeId} {n off : Nat} {vs cs : List Value} {t : TypeId} (hz : ∀ w, (sizeOf T).run P w = .ok vs.length w) (h1 : ∀ v ∈ vs, v.oneCell' = true) (hb : Blk w n cs t) (hl : off + vs.length ≤ cs.length) :
    (Instr.storeAt T (.pointer (some ⟨n, off, none⟩)) (.agg vs.toArray)).run P w = .ok () (w.setRow n (cs.take off ++ vs ++ cs.drop (off + vs.length)).toArray) := by
  have h := run_storeCells_at P n off t vs 0 cs.toArray w hb (by simpa using hl) h1
  simp only [Nat.add_zero] at h
  simp only [Instr.storeAt, Instr.sureAddr, Sem.run_bind, Sem.run_pure, Result.andThen_ok, storeVar, Value.cells, hz]
  simpa using h
end

section
variable {P : Program} {w0 : World} {S : List Nat} {Q : SP} {rs : List Res} {ops : Array Oper} {l l' : List Value} {ds : List Deferred} {rest : List Oper} {d : Tmp} {ty : TypeId} {pos : String} {aft : Array Edge} {gd : Option (Nat × Bool)}
section opv
variable {dt : Option Tmp}
theorem opv_load1 {T : TypeId} {x : Operand} {n off : Nat} {v : Value} (k : Nat) {cs : List Value} {t : TypeId} 
    (hx : opnd l x = some (.pointer (some ⟨n, off, none⟩))) (hk : rs[k]? = some (blk n cs t)) (hv : cs[off]? = some v) (hT : ∀ w, (isAgg T).run P w = .ok false w) :
    OpVal P w0 S rs l ds ⟨dt, .load T x, ty, pos, aft, gd⟩ v :=
  (fun w hs => by simp only [execOp, opnd_eval hx, Sem.run_bind, run_load1 hT (show w.cell? ⟨n, off, none⟩ = some v by rw [(hs.isBlk hk).cell]; simpa using hv)]; rfl)
theorem opv_loadB {T : TypeId} {x : Operand} {n : Nat} (k : Nat) {cs : List Value} {t : TypeId} 
    (hx : opnd l x = some (.pointer (some ⟨n, 0, none⟩))) (hk : rs[k]? = some (blk n cs t)) (hT : ∀ w, (isAgg T).run P w = .ok true w) (hz : ∀ w, (sizeOf T).run P w = .ok cs.length w) :
    OpVal P w0 S rs l ds ⟨dt, .load T x, ty, pos, aft, gd⟩ (.agg cs.toArray) :=
  (fun w hs => by simp only [execOp, opnd_eval hx, Sem.run_bind, run_loadN hT hz (show ∀ j v, cs[j]? = some v → w.cell? ⟨n, 0 + j, none⟩ = some v from fun j v hj => by rw [(hs.isBlk hk).cell]; simpa using hj)]; rfl)
theorem opv_loadN {T : TypeId} {x : Operand} {n off m : Nat} (k : Nat) {cs vs : List Value} {t : TypeId} 
    (hx : opnd l x = some (.pointer (some ⟨n, off, none⟩))) (hk : rs[k]? = some (blk n cs t)) (hT : ∀ w, (isAgg T).run P w = .ok true w) (hz : ∀ w, (sizeOf T).run P w = .ok m w) (hv : (cs.drop off).take m = vs) (hm : vs.length = m) :
    OpVal P w0 S rs l ds ⟨dt, .load T x, ty, pos, aft, gd⟩ (.agg vs.toArray) :=
  (fun w hs => by
    subst hm
    simp only [execOp, opnd_eval hx, Sem.run_bind, run_loadN hT hz (show ∀ j v, vs[j]? = some v → w.cell? ⟨n, off + j, none⟩ = some v from fun j v hj => by
      rw [(hs.isBlk hk).cell]
      have hlt := (List.getElem?_eq_some_iff.1 hj).1
      rw [← hv, List.getElem?_take, if_pos hlt, List.getElem?_drop] at hj
      simpa using hj)]; rfl)
theorem opv_loadO {T : TypeId} {x : Operand} {ad : Addr} {v : Value} 
    (hx : opnd l x = some (.pointer (some ad))) (hv : ∀ w, Sep w0 S rs w → (Instr.loadAt T (.pointer (some ad))).run P w = .ok v w) :
    OpVal P w0 S rs l ds ⟨dt, .load T x, ty, pos, aft, gd⟩ v :=
  (fun w hs => by simp only [execOp, opnd_eval hx, Sem.run_bind, hv w hs]; rfl)
end opv
theorem seqS_put {o : Oper} {rs' : List Res} (hw : Region.wanted o (yielded ops l.toArray) = true) (hd : o.dst = none)
    (hv : ∀ w, Sep w0 S rs w → ∃ w', (execOp (Act.eval ⟨l.toArray, ds⟩) o).run P w = .ok .skip w' ∧ Sep w0 S rs' w')
    (h : seqS P w0 S ops Q rest ⟨l.toArray, ds⟩ rs') : seqS P w0 S ops Q (o :: rest) ⟨l.toArray, ds⟩ rs := fun w hs => by
  unfold wpList
  rw [if_pos hw]
  refine .inl ?_
  unfold Oper.wp
  obtain ⟨w', hr, hs'⟩ := hv w hs
  rw [hr]
  show wpList P ops (lowS w0 S Q) rest (Act.put ⟨l.toArray, ds⟩ o.dst undef) _
  rw [hd]
  exact h _ hs'
/-- A store of one cell. -/
theorem seqS_store1 {T : TypeId} {x y : Operand} {n off : Nat} {v : Value} (k : Nat) {cs cs' : List Value} {t : TypeId} {rs' : List Res} (hw : Region.wanted ⟨none, .store T x y, ty, pos, aft, gd⟩ (yielded ops l.toArray) = true)
    (hx : opnd l x = some (.pointer (some ⟨n, off, none⟩))) (hy : opnd l y = some v) (hk : rs[k]? = some (blk n cs t)) (hz : ∀ w, (sizeOf T).run P w = .ok 1 w) (h1 : v.oneCell' = true) (hlt : off < cs.length) (hc : cs.set off v = cs') (hr : rs.set k (blk n cs' t) = rs')
    (h : seqS P w0 S ops Q rest ⟨l.toArray, ds⟩ rs') : seqS P w0 S ops Q (⟨none, .store T x y, ty, pos, aft, gd⟩ :: rest) ⟨l.toArray, ds⟩ rs :=
  seqS_put hw rfl (fun w hs => by
    subst hc; subst hr
    have hb := hs.isBlk hk
    refine ⟨_, ?_, hs.setBlk (o := off) hk v⟩
    simp only [execOp, opnd_eval hx, opnd_eval hy, Sem.run_bind, run_store1 hz h1 (show w.cell? ⟨n, off, none⟩ = some cs[off] by rw [hb.cell]; simp [hlt]) (hb.free off)]
    rfl) h
theorem sep_setRow {w : World} (hs : Sep w0 S rs w) {k n : Nat} {cs : List Value} {t : TypeId} (hk : rs[k]? = some (blk n cs t)) (new : List Value) : Sep w0 S (rs.set k (blk n new t)) (w.setRow n new.toArray) :=
  hs.updk hk ⟨rfl, rfl, rfl, by simp, fun j hj hn => setRow_other w n j _ (by simpa [blk] using hn)⟩ (setRow_heap w n _ _ _ _ (hs.isBlk hk)) (by simp [blk])
/-- A store of a struct. -/
theorem seqS_storeN {T : TypeId} {x y : Operand} {n off : Nat} {vs : List Value} (k : Nat) {cs cs' : List Value} {t : TypeId} {rs' : List Res} (hw : Region.wanted ⟨none, .store T x y, ty, pos, aft, gd⟩ (yielded ops l.toArray) = true)
    (hx : opnd l x = some (.pointer (some ⟨n, off, none⟩))) (hy : opnd l y = some (.agg vs.toArray)) (hk : rs[k]? = some (blk n cs t)) (hz : ∀ w, (sizeOf T).run P w = .ok vs.length w) (h1 : vs.all (·.oneCell') = true) (hlt : off + vs.length ≤ cs.length)
    (hc : cs.take off ++ vs ++ cs.drop (off + vs.length) = cs') (hr : rs.set k (blk n cs' t) = rs')
    (h : seqS P w0 S ops Q rest ⟨l.toArray, ds⟩ rs') : seqS P w0 S ops Q (⟨none, .store T x y, ty, pos, aft, gd⟩ :: rest) ⟨l.toArray, ds⟩ rs :=
  seqS_put hw rfl (fun w hs => by
    subst hc; subst hr
    have hb := hs.isBlk hk
    refine ⟨_, ?_, sep_setRow hs hk _⟩
    simp only [execOp, opnd_eval hx, opnd_eval hy, Sem.run_bind, run_storeN hz (by simpa using h1) hb hlt]
    rfl) h

/-! ### Calls -/
def opnds (l : List Value) : List Operand → Option (List Value)
  | [] => some []
  | x :: xs => match opnd l x, opnds l xs with
    | some v, some vs => some (v :: vs)
    | _, _ => none
/-- A call of a function of the program: a new list of things. -/
theorem seqS_call {f : FuncId} {xs : List Operand} {ts : Array TypeId} {vs : List Value} {Φ : Value → List Res → Prop} (hw : Region.wanted ⟨some d, .call { callee := .value (.func f), args := xs.toArray, argTypes := ts }, ty, pos, aft, gd⟩ (yielded ops l.toArray) = true)
    (hx : opnds l xs = some vs) (he : ∀ w, (execOp (Act.eval ⟨l.toArray, ds⟩) ⟨some d, .call { callee := .value (.func f), args := xs.toArray, argTypes := ts }, ty, pos, aft, gd⟩).run P w = .ok (.enter f vs.toArray) w)
    (hc : ∀ w, Sep w0 S rs w → Calls P f vs.toArray w (fun e w' => ∃ v rs', e = .returned v ∧ Φ v rs' ∧ Sep w0 S rs' w'))
    (h : ∀ v rs' l', l.set d v = l' → Φ v rs' → seqS P w0 S ops Q rest ⟨l'.toArray, ds⟩ rs') :
    seqS P w0 S ops Q (⟨some d, .call { callee := .value (.func f), args := xs.toArray, argTypes := ts }, ty, pos, aft, gd⟩ :: rest) ⟨l.toArray, ds⟩ rs :=
  seqS_act (Φ := Φ) hw (fun w hs => by
    rw [he w]
    refine (hc w hs).mono ?_
    rintro e w' ⟨v, rs', rfl, hΦ, hs'⟩
    exact ⟨v, rs', rfl, hΦ, hs'⟩) (fun v rs' hΦ => by
    show seqS P w0 S ops Q rest (Act.put ⟨l.toArray, ds⟩ (some d) v) rs'
    rw [put_some rfl]; exact h v rs' _ rfl hΦ)
/-- .. whose answer is known, and that turns nothing. -/
theorem seqS_call0 {f : FuncId} {xs : List Operand} {ts : Array TypeId} {vs : List Value} {v : Value} (hw : Region.wanted ⟨some d, .call { callee := .value (.func f), args := xs.toArray, argTypes := ts }, ty, pos, aft, gd⟩ (yielded ops l.toArray) = true)
    (hx : opnds l xs = some vs) (he : ∀ w, (execOp (Act.eval ⟨l.toArray, ds⟩) ⟨some d, .call { callee := .value (.func f), args := xs.toArray, argTypes := ts }, ty, pos, aft, gd⟩).run P w = .ok (.enter f vs.toArray) w)
    (hc : ∀ w, Sep w0 S rs w → Calls P f vs.toArray w (fun e w' => e = .returned v ∧ Mod [] w w')) (hl : l.set d v = l')
    (h : seqS P w0 S ops Q rest ⟨l'.toArray, ds⟩ rs) :
    seqS P w0 S ops Q (⟨some d, .call { callee := .value (.func f), args := xs.toArray, argTypes := ts }, ty, pos, aft, gd⟩ :: rest) ⟨l.toArray, ds⟩ rs :=
  seqS_call (Φ := fun u rs' => u = v ∧ rs' = rs) hw hx he (fun w hs => (hc w hs).mono fun e w' ⟨he, hm⟩ => ⟨v, rs, he, ⟨rfl, rfl⟩, hs.garb hm⟩) (fun u rs' l2 hl2 ⟨hu, hr⟩ => by subst hu; subst hr; rw [hl] at hl2; subst hl2; exact h)
/-- .. that turns one thing. -/
theorem seqS_call1 {f : FuncId} {xs : List Operand} {ts : Array TypeId} {vs : List Value} {v : Value} (k : Nat) {r r' : Res} {rs' : List Res} (hw : Region.wanted ⟨some d, .call { callee := .value (.func f), args := xs.toArray, argTypes := ts }, ty, pos, aft, gd⟩ (yielded ops l.toArray) = true)
    (hx : opnds l xs = some vs) (he : ∀ w, (execOp (Act.eval ⟨l.toArray, ds⟩) ⟨some d, .call { callee := .value (.func f), args := xs.toArray, argTypes := ts }, ty, pos, aft, gd⟩).run P w = .ok (.enter f vs.toArray) w)
    (hk : rs[k]? = some r) (hf : r'.foot = r.foot)
    (hc : ∀ w, r.holds w → Calls P f vs.toArray w (fun e w' => e = .returned v ∧ r'.holds w' ∧ Mod r.foot w w')) (hl : l.set d v = l') (hr : rs.set k r' = rs')
    (h : seqS P w0 S ops Q rest ⟨l'.toArray, ds⟩ rs') :
    seqS P w0 S ops Q (⟨some d, .call { callee := .value (.func f), args := xs.toArray, argTypes := ts }, ty, pos, aft, gd⟩ :: rest) ⟨l.toArray, ds⟩ rs :=
  seqS_call (Φ := fun u q => u = v ∧ q = rs.set k r') hw hx he (fun w hs => (hc w (hs.at hk)).mono fun e w' ⟨he, hr, hm⟩ => ⟨v, _, he, ⟨rfl, rfl⟩, hs.updk hk hm hr (by rw [hf]; exact fun n hn => .inl hn)⟩)
    (fun u q l2 hl2 ⟨hu, hq⟩ => by subst hu; subst hq; rw [hl] at hl2; subst hl2; rw [hr]; exact h)

/-! ### What is returned -/
def rvar (l : List Value) : ResultVar → Sem Value
  | .tmp t => pure (l.toArray.getD t undef)
  | .cell a t => do loadVar t (← asAddr (l.toArray.getD a undef))
def RV (P : Program) (w0 : World) (S : List Nat) (rs : List Res) (l : List Value) (r : ResultVar) (v : Value) : Prop := ∀ w, Sep w0 S rs w → (rvar l r).run P w = .ok v w
theorem RV.tmp {t : Tmp} {v : Value} (ht : opnd l (.tmp t) = some v) : RV P w0 S rs l (.tmp t) v := fun w _ => by simp only [opnd] at ht; simp [rvar, ht]
theorem RV.cell1 (k : Nat) {a : Tmp} {T : TypeId} {n off : Nat} {v : Value} {cs : List Value} {t : TypeId} (ha : opnd l (.tmp a) = some (.pointer (some ⟨n, off, none⟩))) (hk : rs[k]? = some (blk n cs t)) (hv : cs[off]? = some v)
    (hT : ∀ w, (isAgg T).run P w = .ok false w) : RV P w0 S rs l (.cell a T) v := fun w hs => by
  have := run_load1 hT (show w.cell? ⟨n, off, none⟩ = some v by rw [(hs.isBlk hk).cell]; simpa using hv)
  simp only [opnd] at ha
  simp only [Instr.loadAt, Instr.sureAddr, Sem.run_bind, Sem.run_pure, Result.andThen_ok] at this
  simp only [rvar, Array.getD_eq_getD_getElem?, List.getElem?_toArray, ha, Option.getD_some, asAddr, Sem.run_bind, Sem.run_pure, Result.andThen_ok, this]
theorem RV.cellB (k : Nat) {a : Tmp} {T : TypeId} {n : Nat} {cs : List Value} {t : TypeId} (ha : opnd l (.tmp a) = some (.pointer (some ⟨n, 0, none⟩))) (hk : rs[k]? = some (blk n cs t))
    (hT : ∀ w, (isAgg T).run P w = .ok true w) (hz : ∀ w, (sizeOf T).run P w = .ok cs.length w) : RV P w0 S rs l (.cell a T) (.agg cs.toArray) := fun w hs => by
  have := run_loadN hT hz (show ∀ j v, cs[j]? = some v → w.cell? ⟨n, 0 + j, none⟩ = some v from fun j v hj => by rw [(hs.isBlk hk).cell]; simpa using hj)
  simp only [opnd] at ha
  simp only [Instr.loadAt, Instr.sureAddr, Sem.run_bind, Sem.run_pure, Result.andThen_ok] at this
  simp only [rvar, Array.getD_eq_getD_getElem?, List.getElem?_toArray, ha, Option.getD_some, asAddr, Sem.run_bind, Sem.run_pure, Result.andThen_ok, this]
theorem run_results {fn : Func} {rvs : List ResultVar} {vs : List Value} (hf : fn.results = rvs.toArray) {w : World} (h1 : (rvs.mapM (rvar l)).run P w = .ok vs w) :
    (results fn l.toArray).run P w = .ok (if h : vs.toArray.size = 1 then vs.toArray[0] else .tuple vs.toArray) w := by
  have e : results fn l.toArray = (do let vs ← fn.results.mapM (rvar l); pure (if h : vs.size = 1 then vs[0] else .tuple vs)) := by
    unfold results
    congr 1
    try (congr 1; funext x; cases x <;> rfl)
  rw [e, hf, Sem.run_bind, List.mapM_toArray, Sem.run_map, h1]
  rfl
theorem retS1 {fn : Func} {R : Ending → World → Prop} {r1 : ResultVar} {v1 : Value} (hf : fn.results = #[r1]) (h1 : RV P w0 S rs l r1 v1) (hR : ∀ w, Sep w0 S rs w → R (.returned v1) w) : endS P w0 S fn R .ret ⟨l.toArray, []⟩ rs :=
  endS_ret (fun w hs => run_results (rvs := [r1]) (vs := [v1]) hf (by simp only [List.mapM_cons, List.mapM_nil, Sem.run_bind, h1 w hs, Result.andThen_ok, Sem.run_pure])) rfl hR
theorem retS2 {fn : Func} {R : Ending → World → Prop} {r1 r2 : ResultVar} {v1 v2 : Value} (hf : fn.results = #[r1, r2]) (h1 : RV P w0 S rs l r1 v1) (h2 : RV P w0 S rs l r2 v2) (hR : ∀ w, Sep w0 S rs w → R (.returned (.tuple #[v1, v2])) w) : endS P w0 S fn R .ret ⟨l.toArray, []⟩ rs :=
  endS_ret (fun w hs => run_results (rvs := [r1, r2]) (vs := [v1, v2]) hf (by simp only [List.mapM_cons, List.mapM_nil, Sem.run_bind, h1 w hs, h2 w hs, Result.andThen_ok, Sem.run_pure])) rfl hR
theorem retS3 {fn : Func} {R : Ending → World → Prop} {r1 r2 r3 : ResultVar} {v1 v2 v3 : Value} (hf : fn.results = #[r1, r2, r3]) (h1 : RV P w0 S rs l r1 v1) (h2 : RV P w0 S rs l r2 v2) (h3 : RV P w0 S rs l r3 v3) (hR : ∀ w, Sep w0 S rs w → R (.returned (.tuple #[v1, v2, v3])) w) : endS P w0 S fn R .ret ⟨l.toArray, []⟩ rs :=
  endS_ret (fun w hs => run_results (rvs := [r1, r2, r3]) (vs := [v1, v2, v3]) hf (by simp only [List.mapM_cons, List.mapM_nil, Sem.run_bind, h1 w hs, h2 w hs, h3 w hs, Result.andThen_ok, Sem.run_pure])) rfl hR
theorem retS0 {fn : Func} {R : Ending → World → Prop} (hf : fn.results = #[]) (hR : ∀ w, Sep w0 S rs w → R (.returned (.tuple #[])) w) : endS P w0 S fn R .ret ⟨l.toArray, []⟩ rs :=
  endS_ret (fun w hs => run_results (rvs := []) (vs := []) hf rfl) rfl hR
theorem retN0 {fn : Func} {R : Ending → World → Prop} (hf : fn.results = #[]) (hR : ∀ w, Sep w0 S rs w → R (.returned (.tuple #[])) w) : endS P w0 S fn R .normal ⟨l.toArray, []⟩ rs :=
  endS_end (fun w hs => run_results (rvs := []) (vs := []) hf rfl) rfl hR
end
/-! ### Which sort of operation is it? -/
section
variable {P : Program} {w0 : World} {S : List Nat} {Q : SP} {rs : List Res} {ops : Array Oper} {a : Act} {rest : List Oper} {d : Option Tmp} {ty : TypeId} {pos : String} {aft : Array Edge} {gd : Option (Nat × Bool)}
theorem isMove {x : Operand} (h : seqS P w0 S ops Q (⟨d, .move x, ty, pos, aft, gd⟩ :: rest) a rs) : seqS P w0 S ops Q (⟨d, .move x, ty, pos, aft, gd⟩ :: rest) a rs := h
theorem isAssign {x : Operand} (h : seqS P w0 S ops Q (⟨d, .assign x, ty, pos, aft, gd⟩ :: rest) a rs) : seqS P w0 S ops Q (⟨d, .assign x, ty, pos, aft, gd⟩ :: rest) a rs := h
theorem isPick {x y z : Operand} (h : seqS P w0 S ops Q (⟨d, .pick x y z, ty, pos, aft, gd⟩ :: rest) a rs) : seqS P w0 S ops Q (⟨d, .pick x y z, ty, pos, aft, gd⟩ :: rest) a rs := h
theorem isBin {bo : BinOp} {T U : TypeId} {x y : Operand} (h : seqS P w0 S ops Q (⟨d, .binOp bo T x y U, ty, pos, aft, gd⟩ :: rest) a rs) : seqS P w0 S ops Q (⟨d, .binOp bo T x y U, ty, pos, aft, gd⟩ :: rest) a rs := h
theorem isUn {uo : UnOp} {T : TypeId} {x : Operand} (h : seqS P w0 S ops Q (⟨d, .unOp uo T x, ty, pos, aft, gd⟩ :: rest) a rs) : seqS P w0 S ops Q (⟨d, .unOp uo T x, ty, pos, aft, gd⟩ :: rest) a rs := h
theorem isExtract {x : Operand} {k : Nat} (h : seqS P w0 S ops Q (⟨d, .extract x k, ty, pos, aft, gd⟩ :: rest) a rs) : seqS P w0 S ops Q (⟨d, .extract x k, ty, pos, aft, gd⟩ :: rest) a rs := h
theorem isFieldAddr {T : TypeId} {x : Operand} {f : Nat} (h : seqS P w0 S ops Q (⟨d, .fieldAddr T x f, ty, pos, aft, gd⟩ :: rest) a rs) : seqS P w0 S ops Q (⟨d, .fieldAddr T x f, ty, pos, aft, gd⟩ :: rest) a rs := h
theorem isField {T : TypeId} {x : Operand} {f : Nat} (h : seqS P w0 S ops Q (⟨d, .field T x f, ty, pos, aft, gd⟩ :: rest) a rs) : seqS P w0 S ops Q (⟨d, .field T x f, ty, pos, aft, gd⟩ :: rest) a rs := h
theorem isIndexAddr {T : TypeId} {x y : Operand} (h : seqS P w0 S ops Q (⟨d, .indexAddr T x y, ty, pos, aft, gd⟩ :: rest) a rs) : seqS P w0 S ops Q (⟨d, .indexAddr T x y, ty, pos, aft, gd⟩ :: rest) a rs := h
theorem isIndex {T : TypeId} {x y : Operand} (h : seqS P w0 S ops Q (⟨d, .index T x y, ty, pos, aft, gd⟩ :: rest) a rs) : seqS P w0 S ops Q (⟨d, .index T x y, ty, pos, aft, gd⟩ :: rest) a rs := h
theorem isConvert {T U : TypeId} {x : Operand} (h : seqS P w0 S ops Q (⟨d, .convert T U x, ty, pos, aft, gd⟩ :: rest) a rs) : seqS P w0 S ops Q (⟨d, .convert T U x, ty, pos, aft, gd⟩ :: rest) a rs := h
theorem isNilCheck {x : Operand} (h : seqS P w0 S ops Q (⟨d, .nilCheck x, ty, pos, aft, gd⟩ :: rest) a rs) : seqS P w0 S ops Q (⟨d, .nilCheck x, ty, pos, aft, gd⟩ :: rest) a rs := h
theorem isAlloc {T : TypeId} (h : seqS P w0 S ops Q (⟨d, .alloc T, ty, pos, aft, gd⟩ :: rest) a rs) : seqS P w0 S ops Q (⟨d, .alloc T, ty, pos, aft, gd⟩ :: rest) a rs := h
theorem isBox {T : TypeId} {x : Operand} (h : seqS P w0 S ops Q (⟨d, .box T x, ty, pos, aft, gd⟩ :: rest) a rs) : seqS P w0 S ops Q (⟨d, .box T x, ty, pos, aft, gd⟩ :: rest) a rs := h
theorem isLoad {T : TypeId} {x : Operand} (h : seqS P w0 S ops Q (⟨d, .load T x, ty, pos, aft, gd⟩ :: rest) a rs) : seqS P w0 S ops Q (⟨d, .load T x, ty, pos, aft, gd⟩ :: rest) a rs := h
theorem isStore {T : TypeId} {x y : Operand} (h : seqS P w0 S ops Q (⟨d, .store T x y, ty, pos, aft, gd⟩ :: rest) a rs) : seqS P w0 S ops Q (⟨d, .store T x y, ty, pos, aft, gd⟩ :: rest) a rs := h
theorem isCall {c : Call} (h : seqS P w0 S ops Q (⟨d, .call c, ty, pos, aft, gd⟩ :: rest) a rs) : seqS P w0 S ops Q (⟨d, .call c, ty, pos, aft, gd⟩ :: rest) a rs := h
theorem isSlice {T : TypeId} {x : Operand} {lo hi mx : Option Operand} (h : seqS P w0 S ops Q (⟨d, .slice T x lo hi mx, ty, pos, aft, gd⟩ :: rest) a rs) : seqS P w0 S ops Q (⟨d, .slice T x lo hi mx, ty, pos, aft, gd⟩ :: rest) a rs := h
theorem isBuildSlice {T : TypeId} {n : Nat} {ps : Array (Nat × Operand)} (h : seqS P w0 S ops Q (⟨d, .buildSlice T n ps, ty, pos, aft, gd⟩ :: rest) a rs) : seqS P w0 S ops Q (⟨d, .buildSlice T n ps, ty, pos, aft, gd⟩ :: rest) a rs := h
theorem isBuild {T : TypeId} {ps : Array (Nat × Operand)} (h : seqS P w0 S ops Q (⟨d, .build T ps, ty, pos, aft, gd⟩ :: rest) a rs) : seqS P w0 S ops Q (⟨d, .build T ps, ty, pos, aft, gd⟩ :: rest) a rs := h
theorem isMakeFunc {fn : Fn} {xs ys : Array Operand} (h : seqS P w0 S ops Q (⟨d, .makeFunc fn xs ys, ty, pos, aft, gd⟩ :: rest) a rs) : seqS P w0 S ops Q (⟨d, .makeFunc fn xs ys, ty, pos, aft, gd⟩ :: rest) a rs := h
theorem isMakeSlice {T : TypeId} {x y : Operand} (h : seqS P w0 S ops Q (⟨d, .makeSlice T x y, ty, pos, aft, gd⟩ :: rest) a rs) : seqS P w0 S ops Q (⟨d, .makeSlice T x y, ty, pos, aft, gd⟩ :: rest) a rs := h
theorem isPlain {op : Op} (h : seqS P w0 S ops Q (⟨d, op, ty, pos, aft, gd⟩ :: rest) a rs) : seqS P w0 S ops Q (⟨d, op, ty, pos, aft, gd⟩ :: rest) a rs := h
section opv
variable {l : List Value} {ds : List Deferred} {v : Value}
theorem vMove {x : Operand} (h : OpVal P w0 S rs l ds ⟨d, .move x, ty, pos, aft, gd⟩ v) : OpVal P w0 S rs l ds ⟨d, .move x, ty, pos, aft, gd⟩ v := h
theorem vAssign {x : Operand} (h : OpVal P w0 S rs l ds ⟨d, .assign x, ty, pos, aft, gd⟩ v) : OpVal P w0 S rs l ds ⟨d, .assign x, ty, pos, aft, gd⟩ v := h
theorem vPick {x y z : Operand} (h : OpVal P w0 S rs l ds ⟨d, .pick x y z, ty, pos, aft, gd⟩ v) : OpVal P w0 S rs l ds ⟨d, .pick x y z, ty, pos, aft, gd⟩ v := h
theorem vBin {bo : BinOp} {T U : TypeId} {x y : Operand} (h : OpVal P w0 S rs l ds ⟨d, .binOp bo T x y U, ty, pos, aft, gd⟩ v) : OpVal P w0 S rs l ds ⟨d, .binOp bo T x y U, ty, pos, aft, gd⟩ v := h
theorem vUn {uo : UnOp} {T : TypeId} {x : Operand} (h : OpVal P w0 S rs l ds ⟨d, .unOp uo T x, ty, pos, aft, gd⟩ v) : OpVal P w0 S rs l ds ⟨d, .unOp uo T x, ty, pos, aft, gd⟩ v := h
theorem vExtract {x : Operand} {k : Nat} (h : OpVal P w0 S rs l ds ⟨d, .extract x k, ty, pos, aft, gd⟩ v) : OpVal P w0 S rs l ds ⟨d, .extract x k, ty, pos, aft, gd⟩ v := h
theorem vFieldAddr {T : TypeId} {x : Operand} {f : Nat} (h : OpVal P w0 S rs l ds ⟨d, .fieldAddr T x f, ty, pos, aft, gd⟩ v) : OpVal P w0 S rs l ds ⟨d, .fieldAddr T x f, ty, pos, aft, gd⟩ v := h
theorem vField {T : TypeId} {x : Operand} {f : Nat} (h : OpVal P w0 S rs l ds ⟨d, .field T x f, ty, pos, aft, gd⟩ v) : OpVal P w0 S rs l ds ⟨d, .field T x f, ty, pos, aft, gd⟩ v := h
theorem vIndexAddr {T : TypeId} {x y : Operand} (h : OpVal P w0 S rs l ds ⟨d, .indexAddr T x y, ty, pos, aft, gd⟩ v) : OpVal P w0 S rs l ds ⟨d, .indexAddr T x y, ty, pos, aft, gd⟩ v := h
theorem vIndex {T : TypeId} {x y : Operand} (h : OpVal P w0 S rs l ds ⟨d, .index T x y, ty, pos, aft, gd⟩ v) : OpVal P w0 S rs l ds ⟨d, .index T x y, ty, pos, aft, gd⟩ v := h
theorem vConvert {T U : TypeId} {x : Operand} (h : OpVal P w0 S rs l ds ⟨d, .convert T U x, ty, pos, aft, gd⟩ v) : OpVal P w0 S rs l ds ⟨d, .convert T U x, ty, pos, aft, gd⟩ v := h
theorem vNilCheck {x : Operand} (h : OpVal P w0 S rs l ds ⟨d, .nilCheck x, ty, pos, aft, gd⟩ v) : OpVal P w0 S rs l ds ⟨d, .nilCheck x, ty, pos, aft, gd⟩ v := h
theorem vLoad {T : TypeId} {x : Operand} (h : OpVal P w0 S rs l ds ⟨d, .load T x, ty, pos, aft, gd⟩ v) : OpVal P w0 S rs l ds ⟨d, .load T x, ty, pos, aft, gd⟩ v := h
theorem vSlice {T : TypeId} {x : Operand} {lo hi mx : Option Operand} (h : OpVal P w0 S rs l ds ⟨d, .slice T x lo hi mx, ty, pos, aft, gd⟩ v) : OpVal P w0 S rs l ds ⟨d, .slice T x lo hi mx, ty, pos, aft, gd⟩ v := h
theorem vBuildSlice {T : TypeId} {n : Nat} {ps : Array (Nat × Operand)} (h : OpVal P w0 S rs l ds ⟨d, .buildSlice T n ps, ty, pos, aft, gd⟩ v) : OpVal P w0 S rs l ds ⟨d, .buildSlice T n ps, ty, pos, aft, gd⟩ v := h
theorem vBuild {T : TypeId} {ps : Array (Nat × Operand)} (h : OpVal P w0 S rs l ds ⟨d, .build T ps, ty, pos, aft, gd⟩ v) : OpVal P w0 S rs l ds ⟨d, .build T ps, ty, pos, aft, gd⟩ v := h
theorem vMakeFunc {fn : Fn} {xs ys : Array Operand} (h : OpVal P w0 S rs l ds ⟨d, .makeFunc fn xs ys, ty, pos, aft, gd⟩ v) : OpVal P w0 S rs l ds ⟨d, .makeFunc fn xs ys, ty, pos, aft, gd⟩ v := h
theorem vMakeSlice {T : TypeId} {x y : Operand} (h : OpVal P w0 S rs l ds ⟨d, .makeSlice T x y, ty, pos, aft, gd⟩ v) : OpVal P w0 S rs l ds ⟨d, .makeSlice T x y, ty, pos, aft, gd⟩ v := h
theorem vBuiltin {b : Builtin} {xs : Array Operand} {ts : Array TypeId} (h : OpVal P w0 S rs l ds ⟨d, .call { callee := .builtin b, args := xs, argTypes := ts }, ty, pos, aft, gd⟩ v) : OpVal P w0 S rs l ds ⟨d, .call { callee := .builtin b, args := xs, argTypes := ts }, ty, pos, aft, gd⟩ v := h
end opv
theorem isSome {t : Tmp} {op : Op} (h : seqS P w0 S ops Q (⟨some t, op, ty, pos, aft, gd⟩ :: rest) a rs) : seqS P w0 S ops Q (⟨some t, op, ty, pos, aft, gd⟩ :: rest) a rs := h
theorem isBuiltin {b : Builtin} {xs : Array Operand} {ts : Array TypeId} (h : seqS P w0 S ops Q (⟨d, .call { callee := .builtin b, args := xs, argTypes := ts }, ty, pos, aft, gd⟩ :: rest) a rs) : seqS P w0 S ops Q (⟨d, .call { callee := .builtin b, args := xs, argTypes := ts }, ty, pos, aft, gd⟩ :: rest) a rs := h
theorem isOps {l : List Oper} (h : seqS P w0 S ops Q l a rs) : seqS P w0 S ops Q l a rs := h
theorem isWp {c : Code} (h : wpS P w0 S c Q a rs) : wpS P w0 S c Q a rs := h
end
end Go.Proofs.Ytllhoadbocnldaa
