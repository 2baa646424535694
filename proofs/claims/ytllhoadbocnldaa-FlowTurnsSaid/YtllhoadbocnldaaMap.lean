/- Maps that the function made: the entries are known, keys are structs (or arrays). Program-free. -/
import Derived.Test.YtllhoadbocnldaaAuto
import Derived.MapKept
set_option linter.unusedVariables false
set_option linter.unusedSimpArgs false
set_option linter.unusedSectionVars false
namespace Go.Proofs.Ytllhoadbocnldaa
open Go.RowKit
structure Ent (K : Type) where
  k : K
  v : Value
  born : Nat
section
variable {K : Type} [DecidableEq K]
def mesL (kv : K → Value) (M : List (Ent K)) : List MapEntry := M.map fun e => ⟨kv e.k, e.v, e.born⟩
/-- What the model does with a key. -/
structure KeyTy (kt : TypeId) (kv : K → Value) : Prop where
  und : ∃ d, Try.prog.underlying kt = some d ∧ ∀ k e r i, Instr.findNow d (kv k) (e :: r) i = none
  chk : ∀ b k w, (Instr.checkKey b 10000 kt (kv k)).run Try.prog w = .ok () w
  eq : ∀ x y w, (Op.equal kt (kv x) (kv y)).run Try.prog w = .ok (decide (x = y)) w
  same : ∀ k, Instr.sameBits 10000 (kv k) (kv k) = true
/-- A map, its entries as they lie there. -/
def mpb (kv : K → Value) (b : Nat) (M : List (Ent K)) (c : Nat) : Res where
  foot := [b]
  holds := fun w => w.heap[b]? = some (.map (mesL kv M).toArray c)
  loc := fun w w' h hb => by rw [h b (by simp)]; exact hb
  ex := fun w h n hn => by simp at hn; subst hn; exact (Array.getElem?_eq_some_iff.1 h).1
def mfind (k : K) : List (Ent K) → Nat → Option (Nat × Value)
  | [], _ => none
  | e :: r, i => if k = e.k then some (i, e.v) else mfind k r (i + 1)
theorem mfind_none {k : K} {M : List (Ent K)} {i : Nat} (h : ∀ e ∈ M, e.k ≠ k) : mfind k M i = none := by
  induction M generalizing i with
  | nil => rfl
  | cons e r ih => rw [mfind, if_neg (fun h' => h e (by simp) h'.symm), ih (fun e he => h e (by simp [he]))]
theorem mfind_none_iff {k : K} {M : List (Ent K)} {i : Nat} : mfind k M i = none ↔ ∀ e ∈ M, e.k ≠ k := by
  refine ⟨fun h => ?_, mfind_none⟩
  induction M generalizing i with
  | nil => simp
  | cons e r ih =>
    rw [mfind] at h
    by_cases hk : k = e.k
    · rw [if_pos hk] at h; cases h
    · rw [if_neg hk] at h
      intro e' he'
      rcases List.mem_cons.1 he' with rfl | he'
      · exact fun h' => hk h'.symm
      · exact ih h e' he'
theorem mfind_some {k : K} {M : List (Ent K)} {i j : Nat} {v : Value} (h : mfind k M i = some (j, v)) : ∃ n, ∃ hn : n < M.length, j = i + n ∧ M[n].k = k ∧ M[n].v = v := by
  induction M generalizing i with
  | nil => cases h
  | cons e r ih =>
    rw [mfind] at h
    by_cases hk : k = e.k
    · rw [if_pos hk] at h
      injection h with h
      injection h with h1 h2
      exact ⟨0, by simp, by omega, hk.symm, h2⟩
    · rw [if_neg hk] at h
      obtain ⟨n, hn, h1, h2, h3⟩ := ih h
      exact ⟨n + 1, by simp; omega, by omega, h2, h3⟩
theorem mfind_at {k : K} {M : List (Ent K)} {n : Nat} (hn : n < M.length) (hk : M[n].k = k) (hu : ∀ j (hj : j < M.length), j < n → M[j].k ≠ k) (i : Nat) : mfind k M i = some (i + n, M[n].v) := by
  induction M generalizing i n with
  | nil => simp at hn
  | cons e r ih =>
    rw [mfind]
    cases n with
    | zero => rw [if_pos (by simpa using hk.symm)]; rfl
    | succ n =>
      rw [if_neg (fun h' => hu 0 (by simp) (by omega) h'.symm), ih (by simpa using hn) (by simpa using hk) (fun j hj hjn => hu (j + 1) (by simp; omega) (by omega)) (i + 1)]
      simp only [List.getElem_cons_succ]
      congr 2
      omega
variable {kt : TypeId} {kv : K → Value}
theorem asking_run (H : KeyTy kt kv) (k : K) (w : World) : ∀ (M : List (Ent K)) (i : Nat), (Instr.findAsking kt (kv k) (mesL kv M) i).run Try.prog w = .ok (mfind k M i) w
  | [], i => rfl
  | e :: r, i => by
    simp only [mesL, List.map_cons, Instr.findAsking, Sem.run_bind, H.eq, Result.andThen_ok, mfind]
    by_cases hk : k = e.k
    · simp [hk]
    · simp only [hk, decide_false, Bool.false_eq_true, if_false]
      exact asking_run H k w r (i + 1)
theorem find_run (H : KeyTy kt kv) (k : K) (M : List (Ent K)) (w : World) : (Instr.findKey kt (kv k) (mesL kv M)).run Try.prog w = .ok (mfind k M 0) w := by
  obtain ⟨d, hd, hn⟩ := H.und
  simp only [Instr.findKey, Sem.run_bind, run_underlying hd, Result.andThen_ok]
  cases M with
  | nil => rfl
  | cons e r =>
    have : Instr.findNow d (kv k) (mesL kv (e :: r)) 0 = none := hn k _ _ _
    rw [this]
    exact asking_run H k w (e :: r) 0
theorem mpb_obj {w : World} {b c : Nat} {M : List (Ent K)} (h : (mpb kv b M c).holds w) (P : Program) : (getObj b).run P w = .ok (.map (mesL kv M).toArray c) w := MapKept.run_getObj_map h
/-- The block is set anew. -/
theorem mpb_set {w : World} {b c c' : Nat} {M M' : List (Ent K)} (h : (mpb kv b M c).holds w) (P : Program) : ∃ w', (setObj b (.map (mesL kv M').toArray c')).run P w = .ok () w' ∧ (mpb kv b M' c').holds w' ∧ Mod (mpb kv b M c).foot w w' := by
  refine ⟨_, MapKept.run_setObj_map _ h, ?_, ⟨rfl, rfl, rfl, by simp, fun k hk hn => ?_⟩⟩
  · have hlt := (Array.getElem?_eq_some_iff.1 h).1
    show (w.heap.setIfInBounds b _)[b]? = _
    rw [Array.getElem?_setIfInBounds_self_of_lt hlt]
  · have : b ≠ k := fun e => hn (by simp [mpb, e])
    simp [this]
end
section
variable {K : Type} [DecidableEq K] {kt : TypeId} {kv : K → Value} {w0 : World} {S : List Nat} {Q : SP} {ops : Array Oper} {rs : List Res} {l l' : List Value} {ds : List Deferred} {d : Tmp} {rest : List Oper} {ty : TypeId} {pos : String} {aft : Array Edge} {gd : Option (Nat × Bool)} {dt : Option Tmp}
/-- 'map[K]V{}' -/
theorem seqS_makeMap (kv : K → Value) {T : TypeId} (hw : Region.wanted ⟨some d, .makeMap T none, ty, pos, aft, gd⟩ (yielded ops l.toArray) = true)
    (h : ∀ b l', l.set d (.map (some b)) = l' → seqS Try.prog w0 S ops Q rest ⟨l'.toArray, ds⟩ (mpb kv b [] 0 :: rs)) :
    seqS Try.prog w0 S ops Q (⟨some d, .makeMap T none, ty, pos, aft, gd⟩ :: rest) ⟨l.toArray, ds⟩ rs :=
  seqS_act (Φ := fun v q => ∃ b, v = .map (some b) ∧ q = mpb kv b [] 0 :: rs) hw (fun w hs => by
    have hr : (Instr.makeMap T none).run Try.prog w = .ok (.map (some w.heap.size)) (w.alloc (.map #[] 0)) := rfl
    simp only [execOp, Option.map_none, Sem.run_bind, hr, Result.andThen_ok]
    exact ⟨_, _, rfl, ⟨_, rfl, rfl⟩, hs.add ((Mod.refl _ _).alloc _) (MapKept.heap_alloc w _).1 (by simp [mpb])⟩)
    (fun v q ⟨b, hv, hq⟩ => by subst hv; subst hq; rw [put_some rfl]; exact h b _ rfl)
/-- 'm[k]' -/
theorem opv_lookup (H : KeyTy kt kv) {T e : TypeId} {x y : Operand} {b c : Nat} {M : List (Ent K)} (k : K) {zv : Value} (hT : Try.prog.underlying T = some (.map kt e)) (hz : ∀ w, (zeroValue e).run Try.prog w = .ok zv w)
    (hx : opnd l x = some (.map (some b))) (hy : opnd l y = some (kv k)) (hm : mpb kv b M c ∈ rs) :
    OpVal Try.prog w0 S rs l ds ⟨dt, .lookup T x y false, ty, pos, aft, gd⟩ (match mfind k M 0 with | some (_, v) => v | none => zv) := fun w hs => by
  have hb := hs.all _ hm
  simp only [execOp, opnd_eval hx, opnd_eval hy, Instr.lookup, Sem.run_bind, run_underlying hT, Result.andThen_ok, mpb_obj hb, Sem.run_pure, H.chk, find_run H k M w, List.toList_toArray]
  cases mfind k M 0 with
  | none => simp [hz]
  | some p => rfl
theorem opv_lookup2 (H : KeyTy kt kv) {T e : TypeId} {x y : Operand} {b c : Nat} {M : List (Ent K)} (k : K) {zv : Value} (hT : Try.prog.underlying T = some (.map kt e)) (hz : ∀ w, (zeroValue e).run Try.prog w = .ok zv w)
    (hx : opnd l x = some (.map (some b))) (hy : opnd l y = some (kv k)) (hm : mpb kv b M c ∈ rs) :
    OpVal Try.prog w0 S rs l ds ⟨dt, .lookup T x y true, ty, pos, aft, gd⟩ (match mfind k M 0 with | some (_, v) => .tuple #[v, .bool true] | none => .tuple #[zv, .bool false]) := fun w hs => by
  have hb := hs.all _ hm
  simp only [execOp, opnd_eval hx, opnd_eval hy, Instr.lookup, Sem.run_bind, run_underlying hT, Result.andThen_ok, mpb_obj hb, Sem.run_pure, H.chk, find_run H k M w, List.toList_toArray]
  cases mfind k M 0 with
  | none => simp [hz]
  | some p => rfl
theorem mes_key {M : List (Ent K)} {n : Nat} (hn : n < M.length) : ((mesL kv M).toArray.modify n fun e => { e with key := kv M[n].k }) = (mesL kv M).toArray := by
  apply Array.ext'
  rw [Array.toList_modify, List.toList_toArray]
  apply List.ext_getElem?
  intro j
  rw [List.getElem?_modify]
  by_cases hj : n = j
  · subst hj; simp [mesL, hn]
  · simp [hj]
theorem mes_val {M : List (Ent K)} {n : Nat} (hn : n < M.length) (v : Value) : ((mesL kv M).toArray.modify n fun e => { e with val := v }) = (mesL kv (M.set n ⟨M[n].k, v, M[n].born⟩)).toArray := by
  apply Array.ext'
  rw [Array.toList_modify, List.toList_toArray]
  apply List.ext_getElem?
  intro j
  rw [List.getElem?_modify, List.toList_toArray]
  by_cases hj : n = j
  · subst hj; simp [mesL, hn]
  · simp [hj, mesL]
theorem mes_erase : ∀ (M : List (Ent K)) (n : Nat), (mesL kv M).eraseIdx n = mesL kv (M.eraseIdx n)
  | [], _ => by simp [mesL]
  | _ :: _, 0 => rfl
  | a :: M, n + 1 => by
    have := mes_erase M n
    simp only [mesL, List.map_cons, List.eraseIdx_cons_succ] at this ⊢
    rw [this]
/-- 'm[k] op= ..': the entry, which is there. -/
theorem seqS_entry (H : KeyTy kt kv) {T e : TypeId} {x y : Operand} {b c : Nat} {M : List (Ent K)} (k : K) (n : Nat) (hn : n < M.length) (hk : M[n].k = k) (hu : ∀ j (hj : j < M.length), j < n → M[j].k ≠ k)
    (hw : Region.wanted ⟨some d, .mapEntry T x y, ty, pos, aft, gd⟩ (yielded ops l.toArray) = true) (hT : Try.prog.underlying T = some (.map kt e))
    (hx : opnd l x = some (.map (some b))) (hy : opnd l y = some (kv k)) (hm : mpb kv b M c ∈ rs) (hl : l.set d (.tuple #[M[n].v, .int .i64 M[n].born]) = l')
    (h : seqS Try.prog w0 S ops Q rest ⟨l'.toArray, ds⟩ rs) :
    seqS Try.prog w0 S ops Q (⟨some d, .mapEntry T x y, ty, pos, aft, gd⟩ :: rest) ⟨l.toArray, ds⟩ rs :=
  seqS_act (Φ := fun v q => v = .tuple #[M[n].v, .int .i64 M[n].born] ∧ q = rs) hw (fun w hs => by
    have hb := hs.all _ hm
    obtain ⟨w', hr, h1, h2⟩ := mpb_set (M' := M) (c' := c) hb Try.prog
    have hge : (mesL kv M)[n]? = some ⟨kv M[n].k, M[n].v, M[n].born⟩ := by simp [mesL, hn]
    subst hk
    simp only [execOp, opnd_eval hx, opnd_eval hy, Instr.mapEntry, Sem.run_bind, run_underlying hT, Result.andThen_ok, mpb_obj hb, H.chk, find_run H _ M w, List.toList_toArray, mfind_at hn rfl hu 0, Nat.zero_add, List.getElem?_toArray, hge, Option.map_some, Option.getD_some,
      Instr.keyThatStays, H.same, if_true, Sem.run_pure, mes_key hn, hr]
    refine ⟨_, rs, rfl, ⟨rfl, rfl⟩, ?_⟩
    obtain ⟨pre, post, rfl⟩ := List.append_of_mem hm
    exact hs.upd h2 h1 (fun n hn => .inl hn))
    (fun v q ⟨hv, hq⟩ => by subst hv; subst hq; rw [put_some rfl, hl]; exact h)
/-- .. which is new. -/
theorem seqS_entryNew (H : KeyTy kt kv) {T e : TypeId} {x y : Operand} {b c : Nat} {M : List (Ent K)} (k : K) {zv : Value} {rs' : List Res} (hno : ∀ e ∈ M, e.k ≠ k)
    (hw : Region.wanted ⟨some d, .mapEntry T x y, ty, pos, aft, gd⟩ (yielded ops l.toArray) = true) (hT : Try.prog.underlying T = some (.map kt e)) (hz : ∀ w, (zeroValue e).run Try.prog w = .ok zv w)
    (hx : opnd l x = some (.map (some b))) (hy : opnd l y = some (kv k)) (hu : Upd (mpb kv b M c) (mpb kv b (M ++ [⟨k, zv, c⟩]) (c + 1)) rs rs') (hl : l.set d (.tuple #[zv, .int .i64 c]) = l')
    (h : seqS Try.prog w0 S ops Q rest ⟨l'.toArray, ds⟩ rs') :
    seqS Try.prog w0 S ops Q (⟨some d, .mapEntry T x y, ty, pos, aft, gd⟩ :: rest) ⟨l.toArray, ds⟩ rs :=
  seqS_act (Φ := fun v q => v = .tuple #[zv, .int .i64 c] ∧ q = rs') hw (fun w hs => by
    have hb := hs.all _ hu.mem
    obtain ⟨w', hr, h1, h2⟩ := mpb_set (M' := M ++ [⟨k, zv, c⟩]) (c' := c + 1) hb Try.prog
    have e1 : (mesL kv M).toArray.push ⟨kv k, zv, c⟩ = (mesL kv (M ++ [⟨k, zv, c⟩])).toArray := by simp [mesL]
    simp only [execOp, opnd_eval hx, opnd_eval hy, Instr.mapEntry, Sem.run_bind, run_underlying hT, Result.andThen_ok, mpb_obj hb, H.chk, find_run H _ M w, List.toList_toArray, mfind_none hno, hz, e1, hr, Sem.run_pure]
    exact ⟨_, rs', rfl, ⟨rfl, rfl⟩, hs.updU hu h2 h1 (fun n hn => .inl hn)⟩)
    (fun v q ⟨hv, hq⟩ => by subst hv; subst hq; rw [put_some rfl, hl]; exact h)
/-- What is stored into it. -/
theorem seqS_entryStore {T : TypeId} {x y z : Operand} {b c : Nat} {M : List (Ent K)} {v : Value} {rs' : List Res} (n : Nat) (hn : n < M.length) (hb1 : ∀ j (hj : j < M.length), j < n → M[j].born ≠ M[n].born)
    (hw : Region.wanted ⟨none, .entryStore T x y z, ty, pos, aft, gd⟩ (yielded ops l.toArray) = true)
    (hx : opnd l x = some (.map (some b))) (hy : opnd l y = some (.int .i64 M[n].born)) (hz : opnd l z = some v) (hu : Upd (mpb kv b M c) (mpb kv b (M.set n ⟨M[n].k, v, M[n].born⟩) c) rs rs')
    (h : seqS Try.prog w0 S ops Q rest ⟨l.toArray, ds⟩ rs') :
    seqS Try.prog w0 S ops Q (⟨none, .entryStore T x y z, ty, pos, aft, gd⟩ :: rest) ⟨l.toArray, ds⟩ rs :=
  seqS_put hw rfl (fun w hs => by
    have hb := hs.all _ hu.mem
    obtain ⟨w', hr, h1, h2⟩ := mpb_set (M' := M.set n ⟨M[n].k, v, M[n].born⟩) (c' := c) hb Try.prog
    have hf : (mesL kv M).toArray.findIdx? (fun e => (e.born : Int) == (M[n].born : Int)) = some n := by
      rw [List.findIdx?_toArray, List.findIdx?_eq_some_iff_getElem]
      refine ⟨by simpa [mesL] using hn, by simp [mesL], fun j hj => ?_⟩
      have := hb1 j (by omega) hj
      simp only [mesL, List.getElem_map, beq_iff_eq]
      omega
    refine ⟨w', ?_, hs.updU hu h2 h1 (fun n hn => .inl hn)⟩
    simp only [execOp, opnd_eval hx, opnd_eval hy, opnd_eval hz, Instr.entryStore, Sem.run_bind, Result.andThen_ok, mpb_obj hb, asInt, asIntOf, Sem.run_pure, hf, mes_val hn, hr]) h
/-- 'delete(m, k)' -/
theorem seqS_delete (H : KeyTy kt kv) {T e : TypeId} {x y : Operand} {t2 : TypeId} {b c : Nat} {M : List (Ent K)} (k : K) (n : Nat) (hn : n < M.length) (hk : M[n].k = k) (hu1 : ∀ j (hj : j < M.length), j < n → M[j].k ≠ k) {rs' : List Res}
    (hw : Region.wanted ⟨none, .call { callee := .builtin .delete, args := #[x, y], argTypes := #[T, t2] }, ty, pos, aft, gd⟩ (yielded ops l.toArray) = true) (hT : Try.prog.underlying T = some (.map kt e))
    (hx : opnd l x = some (.map (some b))) (hy : opnd l y = some (kv k)) (hu : Upd (mpb kv b M c) (mpb kv b (M.eraseIdx n) c) rs rs')
    (h : seqS Try.prog w0 S ops Q rest ⟨l.toArray, ds⟩ rs') :
    seqS Try.prog w0 S ops Q (⟨none, .call { callee := .builtin .delete, args := #[x, y], argTypes := #[T, t2] }, ty, pos, aft, gd⟩ :: rest) ⟨l.toArray, ds⟩ rs :=
  seqS_act (Φ := fun v q => q = rs') hw (fun w hs => by
    have hb := hs.all _ hu.mem
    obtain ⟨w', hr, h1, h2⟩ := mpb_set (M' := M.eraseIdx n) (c' := c) hb Try.prog
    have he : (mesL kv M).toArray.eraseIdxIfInBounds n = (mesL kv (M.eraseIdx n)).toArray := by
      unfold Array.eraseIdxIfInBounds
      rw [dif_pos (by simpa [mesL] using hn)]
      apply Array.ext'
      simp [mes_erase]
    have hd : (Builtin.delete_ #[T, t2] ty #[.map (some b), kv k]).run Try.prog w = .ok (.tuple #[]) w' := by
      simp only [Builtin.delete_, List.getElem?_toArray, List.getElem?_cons_zero, List.getElem?_cons_succ, Sem.run_bind, run_underlying hT, Result.andThen_ok, mpb_obj hb, H.chk, find_run H _ M w, List.toList_toArray, mfind_at hn hk hu1 0, Nat.zero_add, he, hr, Sem.run_pure]
    simp only [execOp, resolve, invoke, builtin, Sem.run_bind, Sem.run_pure, Result.andThen_ok, List.map_toArray, List.map_cons, List.map_nil, opnd_eval hx, opnd_eval hy, hd]
    exact ⟨_, rs', rfl, rfl, hs.updU hu h2 h1 (fun n hn => .inl hn)⟩)
    (fun v q hq => by subst hq; exact h)
/-- 'm[k] = v': the entry is new. -/
theorem seqS_updNew (H : KeyTy kt kv) {T e : TypeId} {x y z : Operand} {b c : Nat} {M : List (Ent K)} (k : K) {v : Value} {rs' : List Res} (hno : ∀ e ∈ M, e.k ≠ k)
    (hw : Region.wanted ⟨none, .mapUpdate T x y z, ty, pos, aft, gd⟩ (yielded ops l.toArray) = true) (hT : Try.prog.underlying T = some (.map kt e))
    (hx : opnd l x = some (.map (some b))) (hy : opnd l y = some (kv k)) (hz : opnd l z = some v) (hu : Upd (mpb kv b M c) (mpb kv b (M ++ [⟨k, v, c⟩]) (c + 1)) rs rs')
    (h : seqS Try.prog w0 S ops Q rest ⟨l.toArray, ds⟩ rs') :
    seqS Try.prog w0 S ops Q (⟨none, .mapUpdate T x y z, ty, pos, aft, gd⟩ :: rest) ⟨l.toArray, ds⟩ rs :=
  seqS_put hw rfl (fun w hs => by
    have hb := hs.all _ hu.mem
    obtain ⟨w', hr, h1, h2⟩ := mpb_set (M' := M ++ [⟨k, v, c⟩]) (c' := c + 1) hb Try.prog
    have e1 : (mesL kv M).toArray.push ⟨kv k, v, c⟩ = (mesL kv (M ++ [⟨k, v, c⟩])).toArray := by simp [mesL]
    refine ⟨w', ?_, hs.updU hu h2 h1 (fun n hn => .inl hn)⟩
    simp only [execOp, opnd_eval hx, opnd_eval hy, opnd_eval hz, Instr.mapUpdate, Sem.run_bind, run_underlying hT, Result.andThen_ok, mpb_obj hb, H.chk, find_run H _ M w, List.toList_toArray, mfind_none hno, e1, hr, Sem.run_pure]) h
/-- 'len(m)' -/
theorem opv_lenMap {T kt2 e : TypeId} {x : Operand} {b c : Nat} {M : List (Ent K)} (hT : Try.prog.underlying T = some (.map kt2 e)) (hx : opnd l x = some (.map (some b))) (hm : mpb kv b M c ∈ rs) :
    OpVal Try.prog w0 S rs l ds ⟨dt, .call { callee := .builtin .len, args := #[x], argTypes := #[T] }, ty, pos, aft, gd⟩ (.int .i64 M.length) := fun w hs => by
  have hb := hs.all _ hm
  have hr : (Builtin.len_ #[T] ty #[.map (some b)]).run Try.prog w = .ok (.int .i64 M.length) w := by
    simp [Builtin.len_, run_underlying hT, Builtin.lenOf, mpb_obj hb, mesL, goInt]
  simp only [execOp, resolve, invoke, builtin, Sem.run_bind, Sem.run_pure, Result.andThen_ok, List.map_toArray, List.map_cons, List.map_nil, opnd_eval hx, hr]
theorem opv_lookupS (H : KeyTy kt kv) {T e : TypeId} {x y : Operand} {b c : Nat} {M : List (Ent K)} (k : K) (n : Nat) (hn : n < M.length) (hk : M[n].k = k) (hu : ∀ j (hj : j < M.length), j < n → M[j].k ≠ k) {v zv : Value} (hv : M[n].v = v) (hT : Try.prog.underlying T = some (.map kt e)) (hz : ∀ w, (zeroValue e).run Try.prog w = .ok zv w)
    (hx : opnd l x = some (.map (some b))) (hy : opnd l y = some (kv k)) (hm : mpb kv b M c ∈ rs) : OpVal Try.prog w0 S rs l ds ⟨dt, .lookup T x y false, ty, pos, aft, gd⟩ v := by
  have := opv_lookup (w0 := w0) (S := S) (ds := ds) (ty := ty) (pos := pos) (aft := aft) (gd := gd) (dt := dt) H k hT hz hx hy hm
  rw [mfind_at hn hk hu 0, hv] at this
  exact this
/-- What the things tell, without a world. -/
theorem wpS_know {c : Code} {a : Act} {Φ : Prop} (h : ∀ w, Sep w0 S rs w → Φ) (k : Φ → wpS Try.prog w0 S c Q a rs) : wpS Try.prog w0 S c Q a rs := fun w hw => k (h w hw) w hw
theorem seqS_know {a : Act} {os : List Oper} {Φ : Prop} (h : ∀ w, Sep w0 S rs w → Φ) (k : Φ → seqS Try.prog w0 S ops Q os a rs) : seqS Try.prog w0 S ops Q os a rs := fun w hw => k (h w hw) w hw
/-! ### Several things as one -/
def bund (l : List Res) : Res where
  foot := feet l
  holds := fun w => (∀ r ∈ l, r.holds w) ∧ l.Pairwise fun (r r' : Res) => ∀ n : Nat, n ∈ r.foot → n ∉ r'.foot
  loc := fun w w' h ⟨h1, h2⟩ => ⟨fun r hr => r.loc w w' (fun n hn => h n (mem_feet hr hn)) (h1 r hr), h2⟩
  ex := fun w ⟨h1, _⟩ n hn => by
    obtain ⟨r, hr, hr'⟩ := List.mem_flatMap.1 hn
    exact r.ex w (h1 r hr) n hr'
theorem Sep.bund0 {w : World} (h : Sep w0 S rs w) : Sep w0 S (bund [] :: rs) w :=
  ⟨h.mod, fun r hr => by
    rcases List.mem_cons.1 hr with rfl | hr
    · exact ⟨by simp, List.Pairwise.nil⟩
    · exact h.all r hr, fun r hr n hn => by
    rcases List.mem_cons.1 hr with rfl | hr
    · simp [bund, feet] at hn
    · exact h.old r hr n hn,
    List.pairwise_cons.2 ⟨fun r hr n hn => by simp [bund, feet] at hn, h.dis⟩⟩
theorem Sep.take {w : World} {r : Res} {l1 l2 : List Res} (h : Sep w0 S (bund (l1 ++ r :: l2) :: rs) w) : Sep w0 S (r :: bund (l1 ++ l2) :: rs) w := by
  obtain ⟨h1, h2⟩ := h.all (bund (l1 ++ r :: l2)) (by simp)
  obtain ⟨d1, d2⟩ := List.pairwise_cons.1 h.dis
  obtain ⟨p1, p2, p3⟩ := List.pairwise_append.1 h2
  obtain ⟨p4, p5⟩ := List.pairwise_cons.1 p2
  have fr : ∀ n ∈ r.foot, n ∈ (bund (l1 ++ r :: l2)).foot := fun n hn => mem_feet (r := r) (by simp) hn
  have fb : ∀ n ∈ (bund (l1 ++ l2)).foot, n ∈ (bund (l1 ++ r :: l2)).foot := fun n hn => by
    obtain ⟨x, hx, hx'⟩ := List.mem_flatMap.1 hn
    exact mem_feet (r := x) (by simp at hx ⊢; rcases hx with hx | hx <;> simp [hx]) hx'
  refine ⟨h.mod, fun x hx => ?_, fun x hx n hn => ?_, List.pairwise_cons.2 ⟨fun x hx n hn => ?_, List.pairwise_cons.2 ⟨fun x hx n hn => d1 x hx n (fb n hn), d2⟩⟩⟩
  · rcases List.mem_cons.1 hx with rfl | hx
    · exact h1 x (by simp)
    · rcases List.mem_cons.1 hx with rfl | hx
      · refine ⟨fun y hy => h1 y (by simp at hy ⊢; rcases hy with hy | hy <;> simp [hy]), List.pairwise_append.2 ⟨p1, p5, fun y hy z hz => p3 y hy z (by simp [hz])⟩⟩
      · exact h.all x (by simp [hx])
  · rcases List.mem_cons.1 hx with rfl | hx
    · exact h.old _ (by simp) n (fr n hn)
    · rcases List.mem_cons.1 hx with rfl | hx
      · exact h.old _ (by simp) n (fb n hn)
      · exact h.old x (by simp [hx]) n hn
  · rcases List.mem_cons.1 hx with rfl | hx
    · intro hn'
      obtain ⟨y, hy, hy'⟩ := List.mem_flatMap.1 hn'
      rcases List.mem_append.1 hy with hy | hy
      · exact p3 y hy r (by simp) n hy' hn
      · exact p4 y hy n hn hy'
    · exact d1 x hx n (fr n hn)
theorem Sep.give {w : World} {r : Res} {l1 l2 : List Res} (h : Sep w0 S (r :: bund (l1 ++ l2) :: rs) w) : Sep w0 S (bund (l1 ++ r :: l2) :: rs) w := by
  obtain ⟨h1, h2⟩ := h.all (bund (l1 ++ l2)) (by simp)
  have hr := h.all r (by simp)
  obtain ⟨d0, d1⟩ := List.pairwise_cons.1 h.dis
  obtain ⟨d2, d3⟩ := List.pairwise_cons.1 d1
  obtain ⟨p1, p2, p3⟩ := List.pairwise_append.1 h2
  have db : ∀ x ∈ l1 ++ l2, ∀ n ∈ r.foot, n ∉ x.foot := fun x hx n hn hn' => d0 (bund (l1 ++ l2)) (by simp) n hn (mem_feet hx hn')
  have fb : ∀ n ∈ (bund (l1 ++ r :: l2)).foot, n ∈ r.foot ∨ n ∈ (bund (l1 ++ l2)).foot := fun n hn => by
    obtain ⟨x, hx, hx'⟩ := List.mem_flatMap.1 hn
    simp only [List.mem_append, List.mem_cons] at hx
    rcases hx with hx | rfl | hx
    · exact .inr (mem_feet (r := x) (by simp [hx]) hx')
    · exact .inl hx'
    · exact .inr (mem_feet (r := x) (by simp [hx]) hx')
  refine ⟨h.mod, fun x hx => ?_, fun x hx n hn => ?_, List.pairwise_cons.2 ⟨fun x hx n hn => ?_, d3⟩⟩
  · rcases List.mem_cons.1 hx with rfl | hx
    · refine ⟨fun y hy => ?_, List.pairwise_append.2 ⟨p1, List.pairwise_cons.2 ⟨fun y hy => db y (by simp [hy]), p2⟩, fun y hy z hz => ?_⟩⟩
      · simp only [List.mem_append, List.mem_cons] at hy
        rcases hy with hy | rfl | hy
        · exact h1 y (by simp [hy])
        · exact hr
        · exact h1 y (by simp [hy])
      · rcases List.mem_cons.1 hz with rfl | hz
        · exact fun n hn hn' => db y (by simp [hy]) n hn' hn
        · exact p3 y hy z hz
    · exact h.all x (by simp [hx])
  · rcases List.mem_cons.1 hx with rfl | hx
    · rcases fb n hn with hn | hn
      · exact h.old r (by simp) n hn
      · exact h.old _ (by simp) n hn
    · exact h.old x (by simp [hx]) n hn
  · rcases fb n hn with hn | hn
    · exact d0 x (by simp [hx]) n hn
    · exact d2 x hx n hn
/-- The thing in front goes anywhere. -/
theorem Sep.front {w : World} {r : Res} {rs' : List Res} (h : Sep w0 S rs w) (ho : Out r rs rs') : Sep w0 S (r :: rs') w := h.perm (by
  obtain ⟨pre, post, rfl, rfl⟩ := ho.split
  exact List.perm_middle)
/-! ### The same, at an entry that is told -/
theorem at_some {α : Type} {M : List α} {n : Nat} {e : α} (h : M[n]? = some e) : ∃ hn : n < M.length, M[n] = e := by
  obtain ⟨hn, he⟩ := List.getElem?_eq_some_iff.1 h
  exact ⟨hn, he⟩
theorem seqS_entryE (H : KeyTy kt kv) {T e : TypeId} {x y : Operand} {b c : Nat} {M : List (Ent K)} (k : K) (n : Nat) {v : Value} {bn : Nat} (he : M[n]? = some ⟨k, v, bn⟩) (hu : ∀ j (hj : j < M.length), j < n → M[j].k ≠ k)
    (hw : Region.wanted ⟨some d, .mapEntry T x y, ty, pos, aft, gd⟩ (yielded ops l.toArray) = true) (hT : Try.prog.underlying T = some (.map kt e))
    (hx : opnd l x = some (.map (some b))) (hy : opnd l y = some (kv k)) (hm : mpb kv b M c ∈ rs) (hl : l.set d (.tuple #[v, .int .i64 bn]) = l')
    (h : seqS Try.prog w0 S ops Q rest ⟨l'.toArray, ds⟩ rs) :
    seqS Try.prog w0 S ops Q (⟨some d, .mapEntry T x y, ty, pos, aft, gd⟩ :: rest) ⟨l.toArray, ds⟩ rs := by
  obtain ⟨hn, hE⟩ := at_some he
  exact seqS_entry H k n hn (by rw [hE]) hu hw hT hx hy hm (by rw [hE]; exact hl) h
theorem seqS_entryStoreE {T : TypeId} {x y z : Operand} {b c : Nat} {M : List (Ent K)} (n : Nat) {k : K} {v v' : Value} {bn : Nat} {rs' : List Res} (he : M[n]? = some ⟨k, v, bn⟩) (hb1 : ∀ j (hj : j < M.length), j < n → M[j].born ≠ bn)
    (hw : Region.wanted ⟨none, .entryStore T x y z, ty, pos, aft, gd⟩ (yielded ops l.toArray) = true)
    (hx : opnd l x = some (.map (some b))) (hy : opnd l y = some (.int .i64 bn)) (hz : opnd l z = some v') (hu : Upd (mpb kv b M c) (mpb kv b (M.set n ⟨k, v', bn⟩) c) rs rs')
    (h : seqS Try.prog w0 S ops Q rest ⟨l.toArray, ds⟩ rs') :
    seqS Try.prog w0 S ops Q (⟨none, .entryStore T x y z, ty, pos, aft, gd⟩ :: rest) ⟨l.toArray, ds⟩ rs := by
  obtain ⟨hn, hE⟩ := at_some he
  exact seqS_entryStore (kv := kv) (M := M) n hn (by rw [hE]; exact hb1) hw hx (by rw [hE]; exact hy) hz (by rw [hE]; exact hu) h
theorem opv_lookupE (H : KeyTy kt kv) {T e : TypeId} {x y : Operand} {b c : Nat} {M : List (Ent K)} (k : K) (n : Nat) {v zv : Value} {bn : Nat} (he : M[n]? = some ⟨k, v, bn⟩) (hu : ∀ j (hj : j < M.length), j < n → M[j].k ≠ k) (hT : Try.prog.underlying T = some (.map kt e)) (hz : ∀ w, (zeroValue e).run Try.prog w = .ok zv w)
    (hx : opnd l x = some (.map (some b))) (hy : opnd l y = some (kv k)) (hm : mpb kv b M c ∈ rs) : OpVal Try.prog w0 S rs l ds ⟨dt, .lookup T x y false, ty, pos, aft, gd⟩ v := by
  obtain ⟨hn, hE⟩ := at_some he
  exact opv_lookupS H k n hn (by rw [hE]) hu (by rw [hE]) hT hz hx hy hm
theorem seqS_deleteE (H : KeyTy kt kv) {T e : TypeId} {x y : Operand} {t2 : TypeId} {b c : Nat} {M : List (Ent K)} (k : K) (n : Nat) {v : Value} {bn : Nat} (he : M[n]? = some ⟨k, v, bn⟩) (hu1 : ∀ j (hj : j < M.length), j < n → M[j].k ≠ k) {rs' : List Res}
    (hw : Region.wanted ⟨none, .call { callee := .builtin .delete, args := #[x, y], argTypes := #[T, t2] }, ty, pos, aft, gd⟩ (yielded ops l.toArray) = true) (hT : Try.prog.underlying T = some (.map kt e))
    (hx : opnd l x = some (.map (some b))) (hy : opnd l y = some (kv k)) (hu : Upd (mpb kv b M c) (mpb kv b (M.eraseIdx n) c) rs rs')
    (h : seqS Try.prog w0 S ops Q rest ⟨l.toArray, ds⟩ rs') :
    seqS Try.prog w0 S ops Q (⟨none, .call { callee := .builtin .delete, args := #[x, y], argTypes := #[T, t2] }, ty, pos, aft, gd⟩ :: rest) ⟨l.toArray, ds⟩ rs := by
  obtain ⟨hn, hE⟩ := at_some he
  exact seqS_delete H k n hn (by rw [hE]) hu1 hw hT hx hy hu h
/-! ### A thing of the bundle, by its place -/
theorem Sep.takeAt {w : World} {L : List Res} (h : Sep w0 S (bund L :: rs) w) (n : Nat) {r : Res} (hr : L[n]? = some r) : Sep w0 S (r :: bund (L.eraseIdx n) :: rs) w := by
  obtain ⟨hn, hE⟩ := at_some hr
  have e : L = L.take n ++ r :: L.drop (n + 1) := by rw [← hE, List.getElem_cons_drop, List.take_append_drop]
  rw [List.eraseIdx_eq_take_drop_succ]
  rw [e] at h
  have := h.take
  simpa [Nat.min_eq_left (Nat.le_of_lt hn)] using this
theorem Sep.giveAt {w : World} {L : List Res} {r : Res} (n : Nat) (hn : n < L.length) (h : Sep w0 S (r :: bund (L.eraseIdx n) :: rs) w) : Sep w0 S (bund (L.set n r) :: rs) w := by
  rw [List.eraseIdx_eq_take_drop_succ] at h
  rw [List.set_eq_take_append_cons_drop, if_pos hn]
  exact h.give
theorem erase_set {α : Type} (x : α) : ∀ (L : List α) (n : Nat), (L.set n x).eraseIdx n = L.eraseIdx n
  | [], _ => rfl
  | _ :: _, 0 => rfl
  | a :: L, n + 1 => by
    have := erase_set x L n
    simp only [List.set_cons_succ, List.eraseIdx_cons_succ, this]
theorem map_erase {α β : Type} (f : α → β) : ∀ (L : List α) (n : Nat), (L.map f).eraseIdx n = (L.eraseIdx n).map f
  | [], _ => rfl
  | _ :: _, 0 => rfl
  | a :: L, n + 1 => by
    have := map_erase f L n
    simp only [List.map_cons, List.eraseIdx_cons_succ, this]
end
section
variable {P : Program} {w0 : World} {S : List Nat} {Q : SP} {rs : List Res} {ops : Array Oper} {a : Act} {rest : List Oper} {d : Option Tmp} {ty : TypeId} {pos : String} {aft : Array Edge} {gd : Option (Nat × Bool)}
theorem isMakeMap {T : TypeId} {x : Option Operand} (h : seqS P w0 S ops Q (⟨d, .makeMap T x, ty, pos, aft, gd⟩ :: rest) a rs) : seqS P w0 S ops Q (⟨d, .makeMap T x, ty, pos, aft, gd⟩ :: rest) a rs := h
theorem isMapEntry {T : TypeId} {x y : Operand} (h : seqS P w0 S ops Q (⟨d, .mapEntry T x y, ty, pos, aft, gd⟩ :: rest) a rs) : seqS P w0 S ops Q (⟨d, .mapEntry T x y, ty, pos, aft, gd⟩ :: rest) a rs := h
theorem isEntryStore {T : TypeId} {x y z : Operand} (h : seqS P w0 S ops Q (⟨d, .entryStore T x y z, ty, pos, aft, gd⟩ :: rest) a rs) : seqS P w0 S ops Q (⟨d, .entryStore T x y z, ty, pos, aft, gd⟩ :: rest) a rs := h
theorem isMapUpdate {T : TypeId} {x y z : Operand} (h : seqS P w0 S ops Q (⟨d, .mapUpdate T x y z, ty, pos, aft, gd⟩ :: rest) a rs) : seqS P w0 S ops Q (⟨d, .mapUpdate T x y z, ty, pos, aft, gd⟩ :: rest) a rs := h
theorem isLookup {T : TypeId} {x y : Operand} {ok : Bool} (h : seqS P w0 S ops Q (⟨d, .lookup T x y ok, ty, pos, aft, gd⟩ :: rest) a rs) : seqS P w0 S ops Q (⟨d, .lookup T x y ok, ty, pos, aft, gd⟩ :: rest) a rs := h
theorem isDelete {xs : Array Operand} {ts : Array TypeId} (h : seqS P w0 S ops Q (⟨d, .call { callee := .builtin .delete, args := xs, argTypes := ts }, ty, pos, aft, gd⟩ :: rest) a rs) : seqS P w0 S ops Q (⟨d, .call { callee := .builtin .delete, args := xs, argTypes := ts }, ty, pos, aft, gd⟩ :: rest) a rs := h
end
theorem ldAt {P : Program} {T : TypeId} {p v : Value} {w w' : World} (h : (Instr.loadAt T p).run P w = .ok v w') : (Instr.loadAt T p).run P w = .ok v w' := h
end Go.Proofs.Ytllhoadbocnldaa
