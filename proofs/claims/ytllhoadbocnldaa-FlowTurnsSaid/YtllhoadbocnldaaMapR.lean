/- Maps: a range over one whose entries are known. Program-free. -/
import Derived.Test.YtllhoadbocnldaaMap
import Derived.Maps.RangeRun
set_option linter.unusedVariables false
set_option linter.unusedSimpArgs false
set_option linter.unusedSectionVars false
namespace Go.Proofs.Ytllhoadbocnldaa
open Go.RowKit
open Go.ChangeMaps (setBlock)
section
variable {K : Type} [DecidableEq K] {kv : K → Value}
/-- A range's own block: the map's, the clock when it began, the births that were seen, the clock at the last step. -/
def mit (r b since : Nat) (seen : List Nat) (c : Nat) : Res where
  foot := [r]
  holds := fun w => w.heap[r]? = some (.mapIter (some b) since seen.toArray c)
  loc := fun w w' h hb => by rw [h r (by simp)]; exact hb
  ex := fun w h n hn => by simp at hn; subst hn; exact (Array.getElem?_eq_some_iff.1 h).1
theorem mit_set {w w1 : World} {r b since c c' : Nat} {seen seen' : List Nat} (h : (mit r b since seen c).holds w) (hw : w1 = w ∨ w1 = w.drew) :
    (mit r b since seen' c').holds (setBlock w1 r (.mapIter (some b) since seen'.toArray c')) ∧ Mod (mit r b since seen c).foot w (setBlock w1 r (.mapIter (some b) since seen'.toArray c')) := by
  have hlt := (Array.getElem?_eq_some_iff.1 h).1
  have h1 : Mod [] w w1 := by
    rcases hw with rfl | rfl
    · exact Mod.refl _ _
    · exact (Mod.refl _ _).drew
  have hh : w1.heap = w.heap := by rcases hw with rfl | rfl <;> rfl
  refine ⟨?_, ⟨h1.os, h1.tape, h1.output, by simp [setBlock, hh], fun k hk hn => ?_⟩⟩
  · show (w1.heap.setIfInBounds r _)[r]? = _
    rw [Array.getElem?_setIfInBounds_self_of_lt (by rw [hh]; exact hlt)]
  · have : r ≠ k := fun e => hn (by simp [mit, e])
    simp [setBlock, this, hh]
end
section
variable {K : Type} [DecidableEq K] {kt : TypeId} {kv : K → Value} {w0 : World} {S : List Nat} {Q : SP} {ops : Array Oper} {rs : List Res} {l l' : List Value} {ds : List Deferred} {d : Tmp} {rest : List Oper} {ty : TypeId} {pos : String} {aft : Array Edge} {gd : Option (Nat × Bool)} {dt : Option Tmp}
theorem seqS_range {T e : TypeId} {x : Operand} {b c : Nat} {M : List (Ent K)} (hw : Region.wanted ⟨some d, .range T x, ty, pos, aft, gd⟩ (yielded ops l.toArray) = true) (hT : Try.prog.underlying T = some (.map kt e))
    (hx : opnd l x = some (.map (some b))) (hm : mpb kv b M c ∈ rs) (h : ∀ r l', l.set d (.pointer (some ⟨r, 0, none⟩)) = l' → seqS Try.prog w0 S ops Q rest ⟨l'.toArray, ds⟩ (mit r b c [] c :: rs)) :
    seqS Try.prog w0 S ops Q (⟨some d, .range T x, ty, pos, aft, gd⟩ :: rest) ⟨l.toArray, ds⟩ rs :=
  seqS_act (Φ := fun v q => ∃ r, v = .pointer (some ⟨r, 0, none⟩) ∧ q = mit r b c [] c :: rs) hw (fun w hs => by
    have hb := hs.all _ hm
    simp only [execOp, opnd_eval hx, Instr.range, Sem.run_bind, run_underlying hT, Result.andThen_ok, mpb_obj hb, Sem.run_pure, run_newObj_alloc]
    exact ⟨_, _, rfl, ⟨_, rfl, rfl⟩, hs.add ((Mod.refl _ _).alloc _) (MapKept.heap_alloc w _).1 (by simp [mit])⟩)
    (fun v q ⟨r, hv, hq⟩ => by subst hv; subst hq; rw [put_some rfl]; exact h r _ rfl)
/-- A step: nothing is left, or some entry that wasn't seen. -/
theorem seqS_next {x : Operand} {r b since c c0 : Nat} {seen : List Nat} {M : List (Ent K)} {rs' : Ent K → List Res} (hold : ∀ e ∈ M, e.born < since) (hsc : since ≤ c0)
    (hw : Region.wanted ⟨some d, .next x false, ty, pos, aft, gd⟩ (yielded ops l.toArray) = true) (hx : opnd l x = some (.pointer (some ⟨r, 0, none⟩))) (hm : mpb kv b M c ∈ rs) (hmi : mit r b since seen c0 ∈ rs)
    (hu : ∀ e : Ent K, Upd (mit r b since seen c0) (mit r b since (seen ++ [e.born]) c) rs (rs' e))
    (h0 : (∀ e ∈ M, e.born ∈ seen) → ∀ l', l.set d (.tuple #[.bool false]) = l' → seqS Try.prog w0 S ops Q rest ⟨l'.toArray, ds⟩ rs)
    (h1 : ∀ e ∈ M, e.born ∉ seen → ∀ l', l.set d (.tuple #[.bool true, kv e.k, e.v]) = l' → seqS Try.prog w0 S ops Q rest ⟨l'.toArray, ds⟩ (rs' e)) :
    seqS Try.prog w0 S ops Q (⟨some d, .next x false, ty, pos, aft, gd⟩ :: rest) ⟨l.toArray, ds⟩ rs :=
  seqS_act (Φ := fun v q => (v = .tuple #[.bool false] ∧ q = rs ∧ ∀ e ∈ M, e.born ∈ seen) ∨ ∃ e ∈ M, e.born ∉ seen ∧ v = .tuple #[.bool true, kv e.k, e.v] ∧ q = rs' e) hw (fun w hs => by
    have hb := hs.all _ hm
    have hi := hs.all _ hmi
    have hold2 : ∀ x ∈ (mesL kv M).toArray.toList, x.born < since := fun x hx => by
      rw [List.toList_toArray, mesL] at hx
      obtain ⟨e, he, rfl⟩ := List.mem_map.1 hx
      exact hold e he
    simp only [execOp, opnd_eval hx]
    rcases run_next_at (P := Try.prog) w ty r b since c0 seen.toArray (mesL kv M).toArray c hi hb hold2 hsc with ⟨hsz, hr⟩ | ⟨x, hxm, w1, hw1, hr⟩
    · rw [Sem.run_bind, hr]
      refine ⟨_, rs, rfl, .inl ⟨rfl, rfl, fun e he => ?_⟩, hs⟩
      unfold leftOf at hsz
      have hnil : (Array.filter (fun e : MapEntry => !seen.toArray.contains e.born) (mesL kv M).toArray) = #[] := Array.eq_empty_of_size_eq_zero hsz
      rw [Array.filter_eq_empty_iff] at hnil
      have := hnil ⟨kv e.k, e.v, e.born⟩ (by simp only [mesL, List.mem_toArray, List.mem_map]; exact ⟨e, he, rfl⟩)
      simpa using this
    · rw [Sem.run_bind, hr]
      unfold leftOf at hxm
      rw [Array.toList_filter, List.toList_toArray, List.mem_filter, mesL] at hxm
      obtain ⟨hx1, hx2⟩ := hxm
      obtain ⟨e, he, rfl⟩ := List.mem_map.1 hx1
      have hset := mit_set (seen' := seen ++ [e.born]) (c' := c) hi hw1
      rw [show (seen ++ [e.born]).toArray = seen.toArray.push e.born from by simp] at hset
      refine ⟨_, rs' e, rfl, .inr ⟨e, he, by simpa using hx2, rfl, rfl⟩, hs.updU (hu e) hset.2 ?_ (fun n hn => .inl hn)⟩
      have := hset.1
      simpa [mit] using this)
    (fun v q hq => by
      rcases hq with ⟨hv, hq, he⟩ | ⟨e, he, hn, hv, hq⟩
      · subst hv; subst hq; rw [put_some rfl]; exact h0 he _ rfl
      · subst hv; subst hq; rw [put_some rfl]; exact h1 e he hn _ rfl)
/-- The entry of the last step. -/
theorem opv_entry {x : Operand} {r b since c : Nat} {seen : List Nat} {M : List (Ent K)} (e : Ent K) (he : e ∈ M) (hn : (M.map (·.born)).Nodup) (hx : opnd l x = some (.pointer (some ⟨r, 0, none⟩))) (hm : mpb kv b M c ∈ rs) (hmi : mit r b since (seen ++ [e.born]) c ∈ rs) :
    OpVal Try.prog w0 S rs l ds ⟨dt, .entry x, ty, pos, aft, gd⟩ (.tuple #[kv e.k, e.v]) := fun w hs => by
  have hb := hs.all _ hm
  have hi : w.heap[r]? = some (.mapIter (some b) since (seen ++ [e.born]).toArray c) := hs.all _ hmi
  rw [show (seen ++ [e.born]).toArray = seen.toArray.push e.born from by simp] at hi
  have := run_entry_at (P := Try.prog) w r b since seen.toArray (mesL kv M).toArray c ⟨kv e.k, e.v, e.born⟩ hi hb (by rw [List.toList_toArray, mesL]; exact List.mem_map.2 ⟨e, he, rfl⟩) (by rw [List.toList_toArray, mesL, List.map_map]; exact hn)
  simp only [execOp, opnd_eval hx, Sem.run_bind, this, Result.andThen_ok, Sem.run_pure]
end
end Go.Proofs.Ytllhoadbocnldaa
