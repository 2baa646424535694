/- Package cursor's writer: what it holds ('Wr'), what a writing call may have turned ('WMod'), and its methods' contracts. -/
import Derived.Test.YtmcaigmpcbkfpaaGreatOwnLaw
import Derived.Lib.UnsafeStr
set_option linter.unusedVariables false
set_option linter.unusedSimpArgs false
set_option maxRecDepth 100000
namespace Go.Proofs.YtmcaigmpcbkfpaaGreat
open Go.RowKit

/-- A writer at the block p, made from block B on: whether it has failed, and its bytes. -/
def Wr (B : Nat) (w : World) (p : Nat) (f : Bool) (bs : List UInt8) : Prop :=
  B ≤ p ∧ B ≤ w.heap.size ∧ ∃ ad v, Blk w p [.bool f, ad, v] 130 ∧ (ad = .pointer none ∨ ad = .pointer (some ⟨p, 1, none⟩)) ∧
    w.ownsRowF B 5 1 v bs.length (Lib.byteCells bs) ∧ v.ownBlock ≠ some p ∧ (v = .slice none 0 0 ↔ bs = [])
/-- What writing may turn: the writer's block, and rows of bytes from B on. -/
structure WMod (B p : Nat) (w w' : World) : Prop where
  os : w'.os = w.os
  tape : w'.tape = w.tape
  output : w'.output = w.output
  size : w.heap.size ≤ w'.heap.size
  low : ∀ k, k < B → w'.heap[k]? = w.heap[k]?
  other : ∀ k, k < w.heap.size → k ≠ p → (∀ c fr, w.heap[k]? ≠ some (.cells c 5 fr)) → w'.heap[k]? = w.heap[k]?
  prec : ∀ k, k < w.heap.size → k ≠ p → rowAt w p ≠ some k → w'.heap[k]? = w.heap[k]?
  row : rowAt w' p = rowAt w p ∨ ∀ k, rowAt w' p = some k → w.heap.size ≤ k
theorem WMod.refl (B p : Nat) (w : World) : WMod B p w w := ⟨rfl, rfl, rfl, Nat.le_refl _, fun _ _ => rfl, fun _ _ _ _ => rfl, fun _ _ _ _ => rfl, .inl rfl⟩
theorem WMod.trans {B p : Nat} {a b c : World} (h : WMod B p a b) (k : WMod B p b c) : WMod B p a c :=
  ⟨k.os.trans h.os, k.tape.trans h.tape, k.output.trans h.output, Nat.le_trans h.size k.size, fun i hi => (k.low i hi).trans (h.low i hi),
    fun i hi hp hr => (k.other i (Nat.lt_of_lt_of_le hi h.size) hp (fun c fr => by rw [h.other i hi hp hr]; exact hr c fr)).trans (h.other i hi hp hr),
    fun i hi hp hr => (k.prec i (Nat.lt_of_lt_of_le hi h.size) hp (fun e => by
      rcases h.row with h1 | h1
      · rw [h1] at e; exact hr e
      · have := h1 i e; omega)).trans (h.prec i hi hp hr),
    by
      rcases k.row with k1 | k1
      · rw [k1]; exact h.row
      · exact .inr fun i hi => Nat.le_trans h.size (k1 i hi)⟩
theorem WMod.below {B p : Nat} {a b : World} (h : WMod B p a b) : Below B a b := ⟨h.os, h.tape, h.output, h.size, h.low⟩
theorem WMod.of_mod {B p : Nat} {a b : World} (h : Mod [] a b) (hB : B ≤ a.heap.size) (hp : p < a.heap.size) : WMod B p a b :=
  ⟨h.os, h.tape, h.output, h.size, fun k hk => h.block k (Nat.lt_of_lt_of_le hk hB) (by simp), fun k hk _ _ => h.block k hk (by simp), fun k hk _ _ => h.block k hk (by simp), .inl (rowAt_same (h.block p hp (by simp)))⟩
theorem rowAt_set {w : World} {p o : Nat} {v : Value} (ho : o ≠ 2) : rowAt (w.setCell ⟨p, o, none⟩ v) p = rowAt w p := by
  unfold rowAt
  cases hp : w.heap[p]? with
  | none =>
    have h1 : w.heap.size ≤ p := Array.getElem?_eq_none_iff.1 hp
    rw [Array.getElem?_eq_none (by simpa using h1)]
  | some x =>
    have hlt := (Array.getElem?_eq_some_iff.1 hp).1
    have he := (Array.getElem?_eq_some_iff.1 hp).2
    have h2 : (w.setCell ⟨p, o, none⟩ v).heap[p]? = (w.heap.modify p fun x => match x with | .cells cs t fz => .cells (cs.setIfInBounds o v) t fz | x => x)[p]? := rfl
    rw [h2, Array.getElem?_modify, if_pos rfl, hp]
    cases x <;> simp [Array.getElem?_setIfInBounds, ho]
theorem WMod.setCell {B p o : Nat} {w : World} (hp : B ≤ p) (v : Value) (ho : o ≠ 2) : WMod B p w (w.setCell ⟨p, o, none⟩ v) :=
  ⟨rfl, rfl, rfl, by simp, fun k hk => Below.heap_setCell _ _ _ _ (by simp; omega), fun k _ hkp _ => Below.heap_setCell _ _ _ _ hkp, fun k _ hkp _ => Below.heap_setCell _ _ _ _ hkp, .inl (rowAt_set ho)⟩
/-- The writer's row is put in its place. -/
theorem WMod.put2 {B p : Nat} {a b : World} {x y v v' : Value} {t : TypeId} (h : WMod B p a b) (hp : B ≤ p) (hb : Blk b p [x, y, v] t) (hf : Fresh a v v') : WMod B p a (b.setCell ⟨p, 2, none⟩ v') := by
  have e : rowAt (b.setCell ⟨p, 2, none⟩ v') p = v'.ownBlock := rowAt_blk (hb.set 2 v')
  have e0 := rowAt_blk hb
  refine ⟨h.os, h.tape, h.output, by simpa using h.size, fun k hk => (Below.heap_setCell _ _ _ _ (by simp; omega)).trans (h.low k hk), fun k h1 hkp h2 => (Below.heap_setCell _ _ _ _ hkp).trans (h.other k h1 hkp h2), fun k h1 hkp h2 => (Below.heap_setCell _ _ _ _ hkp).trans (h.prec k h1 hkp h2), ?_⟩
  rw [e]
  rcases hf with hf | hf
  · rw [hf, ← e0]; exact h.row
  · exact .inr hf
theorem WMod.grown {B p : Nat} {w w' : World} {v : Value} {n : Nat} {xs : List Value} (hown : w.ownsRowF B 5 1 v n xs) (hB : B ≤ w.heap.size) (hg : w.grownBy w' v.ownBlock) {x y : Value} {t : TypeId} (hb : Blk w p [x, y, v] t) (hne : v.ownBlock ≠ some p) : WMod B p w w' :=
  ⟨hg.os, hg.tape, hg.output, hg.size, fun k hk => hg.block k (by omega) (fun e => by have := (hown.lt k e.symm).1; omega),
    fun k hk hkp hr => hg.block k hk (fun e => by
      rcases hown.2 with ⟨rfl, _⟩ | ⟨g, cap, cur, fz, rfl, _, hgg, _⟩
      · simp [Value.ownBlock] at e
      · simp [Value.ownBlock] at e
        subst e
        exact hr _ _ hgg),
    fun k hk _ hr => hg.block k hk (fun e => hr ((rowAt_blk hb).trans e.symm)), .inl (rowAt_same (hg.block p hb.lt (fun e => hne e.symm)))⟩
theorem WMod.blk {B p : Nat} {w w' : World} (h : WMod B p w w') {b : Nat} {l : List Value} {t : TypeId} (hb : Blk w b l t) (hp : b ≠ p) (ht : t ≠ 5) : Blk w' b l t := by
  unfold Blk
  rw [h.other b hb.lt hp (fun c fr e => by
    unfold Blk at hb
    rw [hb] at e
    injection e with e
    injection e with _ e
    exact ht e)]
  exact hb
/-- Behind the life of a writer that a call has made itself nothing that was there has turned. -/
theorem Mod.wtrans {p : Nat} {S : List Nat} {a b c : World} (k : WMod a.heap.size p b c) (h : Mod S a b) : Mod S a c :=
  h.trans (S' := (List.range c.heap.size).filter fun x => decide (a.heap.size ≤ x)) ⟨k.os, k.tape, k.output, k.size, fun i hi hn => by
    by_cases hlt : i < a.heap.size
    · exact k.low i hlt
    · exact absurd (by simp; have := k.size; omega) hn⟩ (by intro x hx hl; simp at hx; omega)
theorem Mod.wtrans_ {B p : Nat} {S : List Nat} {a b c : World} (k : WMod B p b c) (hB : a.heap.size ≤ B) (h : Mod S a b) : Mod S a c :=
  Mod.wtrans (p := p) ⟨k.os, k.tape, k.output, k.size, fun i hi => k.low i (by omega), k.other, k.prec, k.row⟩ h
theorem Wr.lt {B : Nat} {w : World} {p : Nat} {f : Bool} {bs : List UInt8} (h : Wr B w p f bs) : p < w.heap.size := by
  obtain ⟨_, _, ad, v, hb, _⟩ := h
  exact hb.lt
theorem Wr.base {B : Nat} {w : World} {p : Nat} {f : Bool} {bs : List UInt8} (h : Wr B w p f bs) : B ≤ p := h.1
/-- A new writer. -/
theorem Wr.new {B : Nat} {w : World} {p : Nat} (hb : Blk w p [.bool false, .pointer none, .slice none 0 0] 130) (hB : B ≤ p) : Wr B w p false [] :=
  ⟨hB, by have := hb.lt; omega, _, _, hb, .inl rfl, World.ownsRowF_nil _ _ _ _, by simp [Value.ownBlock], by simp⟩
theorem Wr.mod0 {B : Nat} {w w' : World} {p : Nat} {f : Bool} {bs : List UInt8} (h : Wr B w p f bs) (hm : Mod [] w w') : Wr B w' p f bs := by
  obtain ⟨h1, h2, ad, v, hb, had, hown, hne, hn⟩ := h
  exact ⟨h1, Nat.le_trans h2 hm.size, ad, v, hb.mod hm (by simp), had, hown.kept (row := none) ⟨hm.os, hm.tape, hm.output, hm.size, fun k hk _ => hm.block k hk (by simp)⟩ (by cases v.ownBlock <;> simp), hne, hn⟩
theorem Wr.drew {B : Nat} {w : World} {p : Nat} {f : Bool} {bs : List UInt8} (h : Wr B w p f bs) : Wr B w.drew p f bs := h
theorem Wr.drewN {B : Nat} {w : World} {p : Nat} {f : Bool} {bs : List UInt8} (h : Wr B w p f bs) (n : Nat) : Wr B (w.drewN n) p f bs := h
/-- What a call turned that knows nothing of this writer. -/
theorem Wr.mod {B : Nat} {S : List Nat} {w w' : World} {p : Nat} {f : Bool} {bs : List UInt8} (h : Wr B w p f bs) (hm : Mod S w w') (hS : ∀ x, x ∈ S → x < B) : Wr B w' p f bs := by
  obtain ⟨h1, h2, ad, v, hb, had, hown, hne, hn⟩ := h
  refine ⟨h1, Nat.le_trans h2 hm.size, ad, v, hb.mod hm (fun hp => by have := hS _ hp; omega), had, ⟨hown.1, ?_⟩, hne, hn⟩
  rcases hown.2 with h0 | ⟨g, cap, cur, fz, hv, hbg, hg, r⟩
  · exact .inl h0
  · exact .inr ⟨g, cap, cur, fz, hv, hbg, hm.heap hg (fun hp => by have := hS _ hp; omega), r⟩

theorem sizeBuilder : (Tryz.prog.info? 128).map (·.size) = some 2 := by kernel_rfl
theorem liesBuilder : liesAt Tryz.prog Tryz.prog.depth 130 (3 / Tryz.prog.cellsOf 130) 1 128 1 = true := by kernel_rfl
theorem infoByte : (Tryz.prog.info? 5).map (fun i => (i.zero, i.size, i.bytes)) = some (some (.int .u8 0), 1, 1) := by kernel_rfl

/-! ### strings.Builder, a writer's second field -/
set_option maxHeartbeats 1000000 in
theorem cc_used (p : Nat) (f : Bool) (v : Value) (w : World) (hb : Blk w p [.bool f, .pointer (some ⟨p, 1, none⟩), v] 130) :
    Calls Tryz.prog 137 #[.pointer (some ⟨p, 1, none⟩)] w fun e w' => e = .returned (.tuple #[]) ∧ w = w' := by
  obtain ⟨j, hj, hjs⟩ := Option.map_eq_some_iff.1 sizeBuilder
  have c := hb.cell
  go_enter Tryz.func137, Tryz.ntmps137
  go_wp2
  rw [Lib.run_neq_ptr_same w _ Tryz.underlying126 hj]
  go_wp2
  go_end0
  exact ⟨rfl, rfl⟩
set_option maxHeartbeats 1000000 in
theorem cc_fresh (p : Nat) (f : Bool) (v : Value) (w : World) (hb : Blk w p [.bool f, .pointer none, v] 130) :
    Calls Tryz.prog 137 #[.pointer (some ⟨p, 1, none⟩)] w fun e w' => e = .returned (.tuple #[]) ∧ w' = w.setCell ⟨p, 1, none⟩ (.pointer (some ⟨p, 1, none⟩)) := by
  obtain ⟨j, hj, hjs⟩ := Option.map_eq_some_iff.1 sizeBuilder
  have c := hb.cell
  have fz := hb.free
  have hsh : w.shape? p = some (130, 3) := by unfold Blk at hb; simp [World.shape?, hb]
  go_enter Tryz.func137, Tryz.ntmps137
  go_wp2
  rw [Lib.run_to_unsafe w ⟨p, 1, none⟩ Tryz.underlying126 Tryz.underlying193 hj (by rw [hjs]; decide) hsh (Nat.lt_of_sub_pos (by simp))]
  simp only [Result.andThen]
  rw [Oper.upon_value]
  go_wp2
  rw [run_callFunc_extern Tryz.func145 (by kernel_rfl) (by kernel_rfl) (by kernel_rfl) (e := Extern.AbiNoEscape.same) (by kernel_rfl)]
  rw [Lib.run_noEscape]
  simp only [Result.andThen]
  rw [Oper.upon_value]
  go_wp2
  rw [Lib.run_from_unsafe w ⟨p, 1, none⟩ Tryz.underlying193 Tryz.underlying126 hj hsh liesBuilder]
  simp only [Result.andThen]
  rw [Oper.upon_value]
  go_wp2
  go_end0
  exact ⟨rfl, rfl⟩
/-- copyCheck at a writer. -/
theorem cc_any {B : Nat} {w : World} {p : Nat} {f : Bool} {bs : List UInt8} (h : Wr B w p f bs) :
    Calls Tryz.prog 137 #[.pointer (some ⟨p, 1, none⟩)] w fun e w' => e = .returned (.tuple #[]) ∧ WMod B p w w' ∧
      B ≤ w'.heap.size ∧ ∃ v, Blk w' p [.bool f, .pointer (some ⟨p, 1, none⟩), v] 130 ∧ w'.ownsRowF B 5 1 v bs.length (Lib.byteCells bs) ∧ v.ownBlock ≠ some p ∧ (v = .slice none 0 0 ↔ bs = []) := by
  obtain ⟨hB, hB2, ad, v, hb, had, hown, hne, hn⟩ := h
  rcases had with rfl | rfl
  · refine (cc_fresh p f v w hb).mono ?_
    rintro e w' ⟨rfl, rfl⟩
    exact ⟨rfl, WMod.setCell hB _ (by decide), by simpa using hB2, v, hb.set 1 _, hown.kept (row := some p) ⟨rfl, rfl, rfl, by simp, fun k _ hk => Below.heap_setCell _ _ _ _ (fun e => hk (by simp [e]))⟩ (.inr hne), hne, hn⟩
  · refine (cc_used p f v w hb).mono ?_
    rintro e w' ⟨rfl, rfl⟩
    exact ⟨rfl, WMod.refl _ _ _, hB2, v, hb, hown, hne, hn⟩

theorem byteCells_one (c : Int) (h0 : 0 ≤ c) (h1 : c ≤ 255) : [Value.int .u8 c] = Lib.byteCells [UInt8.ofNat c.toNat] := by
  simp [Lib.byteCells]; omega

set_option maxHeartbeats 2000000 in
theorem wbyte_any {B : Nat} {w : World} {p : Nat} {f : Bool} {bs : List UInt8} (h : Wr B w p f bs) (c : Int) (h0 : 0 ≤ c) (h1 : c ≤ 255) (hlen : bs.length + 1 ≤ 140737488355328) :
    Calls Tryz.prog 136 #[.pointer (some ⟨p, 1, none⟩), .int .u8 c] w fun e w' => e = .returned .nilIface ∧ Wr B w' p f (bs ++ [UInt8.ofNat c.toNat]) ∧ WMod B p w w' := by
  obtain ⟨i0, hi, hz0, hz1, hz2⟩ := info_parts infoByte
  have hB := h.1
  go_enter Tryz.func136, Tryz.ntmps136
  go_wp2_with fail
  refine (cc_any h).mono ?_
  rintro e w1 ⟨rfl, hm1, hB1, v, hb1, hown, hne, hn⟩
  have c1 := hb1.cell
  go_wp2_with (at_builtin; refine wpList_append_row (P := Tryz.prog) rfl _ _ 118 rfl B (by simp; omega) 5 i0 (.int .u8 0) 1 1 Tryz.underlying118 hi hz0 hz1 hz2 rfl (by decide) _ _ _ rfl (hown.kept (World.grownBy_alloc _ _ none) (by cases v.ownBlock <;> simp)) ⟨w1.heap.size, 0, none⟩ 1 1 [.int .u8 c] rfl rfl ?c1 ?c2 ?c3 ?c4 ?_)
  case c1 =>
    intro j u hj
    match j, hj with
    | 0, hj => simp at hj; subst hj; simp [Addr.add]
  case c2 => intro u hu; simp at hu; subst hu; rfl
  case c3 => unfold maxLen; omega
  case c4 => omega
  intro v' w2 hown' hgrow hnil hfr
  have hgr : WMod B p (w1.alloc (.cells #[.int .u8 c] 5)) w2 := WMod.grown (hown.kept (World.grownBy_alloc _ _ none) (by cases v.ownBlock <;> simp)) (by simp; omega) hgrow (hb1.alloc _) hne
  have hm2 : WMod B p w1 w2 := (WMod.of_mod ((Mod.refl [] w1).alloc _) hB1 hb1.lt).trans hgr
  have hb2 : Blk w2 p [.bool f, .pointer (some ⟨p, 1, none⟩), v] 130 := by
    unfold Blk; rw [hgrow.block p (by have := hb1.lt; simp; omega) (fun e => hne e.symm)]; exact hb1.alloc _
  have c2 := hb2.cell
  have f2 := hb2.free
  obtain ⟨g, cap, rfl⟩ : ∃ g cap, v' = .slice (some ⟨g, 0, none⟩) (bs.length + 1) cap := by
    rcases hown'.2 with ⟨_, h0⟩ | ⟨g, cap, cur, fz, hv, _⟩
    · omega
    · exact ⟨g, cap, hv⟩
  go_wp2
  go_ret
  have hne' : Value.ownBlock (.slice (some ⟨g, 0, none⟩) (bs.length + 1) cap) ≠ some p := Lib.ownBlock_neF hown' hb2 (by decide)
  refine ⟨rfl, ⟨hB, by have := hm2.size; simp; omega, _, _, hb2.set 2 _, .inr rfl, ?_, hne', by simp⟩, hm1.trans (hm2.put2 hB hb2 (hfr.imp id fun h k hk => Nat.le_trans (by simp) (h k hk)))⟩
  rw [Lib.byteCells_append, ← byteCells_one c h0 h1, List.length_append]
  exact hown'.kept (row := some p) ⟨rfl, rfl, rfl, by simp, fun k _ hk => Below.heap_setCell _ _ _ _ (fun e => hk (by simp [e]))⟩ (.inr hne')
set_option maxHeartbeats 2000000 in
theorem wstr_any {B : Nat} {w : World} {p : Nat} {f : Bool} {bs : List UInt8} (h : Wr B w p f bs) (s : ByteArray) (hlen : bs.length + s.size ≤ 140737488355328) :
    Calls Tryz.prog 120 #[.pointer (some ⟨p, 1, none⟩), .string s] w fun e w' => e = .returned (.tuple #[.int .i64 s.size, .nilIface]) ∧ Wr B w' p f (bs ++ s.data.toList) ∧ WMod B p w w' := by
  obtain ⟨i0, hi, hz0, hz1, hz2⟩ := info_parts infoByte
  have hB := h.1
  go_enter Tryz.func120, Tryz.ntmps120
  go_wp2_with fail
  refine (cc_any h).mono ?_
  rintro e w1 ⟨rfl, hm1, hB1, v, hb1, hown, hne, hn⟩
  have c1 := hb1.cell
  go_wp2_with (at_builtin; refine wpList_append_str (P := Tryz.prog) rfl _ _ 118 9 rfl B hB1 5 i0 Tryz.underlying118 Tryz.underlying9 hi hz0 hz1 hz2 _ _ _ rfl hown s rfl ?c3 ?c4 ?_)
  case c3 => unfold maxLen; omega
  case c4 => omega
  intro v' w2 hown' hgrow hnil hfr
  have hm2 : WMod B p w1 w2 := WMod.grown hown hB1 hgrow hb1 hne
  have hb2 : Blk w2 p [.bool f, .pointer (some ⟨p, 1, none⟩), v] 130 := by
    unfold Blk; rw [hgrow.block p hb1.lt (fun e => hne e.symm)]; exact hb1
  have c2 := hb2.cell
  have f2 := hb2.free
  have hne' : v'.ownBlock ≠ some p := Lib.ownBlock_neF hown' hb2 (by decide)
  obtain ⟨ao, n', cap, rfl⟩ : ∃ ao n' cap, v' = .slice ao n' cap := by
    rcases hown'.2 with ⟨hv, _⟩ | ⟨g, cap, cur, fz, hv, _⟩
    · exact ⟨_, _, _, hv⟩
    · exact ⟨_, _, _, hv⟩
  have Hnil := Lib.hid hnil
  have Hn := Lib.hid hn
  clear hnil hn
  go_wp2
  go_ret2
  refine ⟨rfl, ⟨hB, by have := hm2.size; simp; omega, _, _, hb2.set 2 _, .inr rfl, ?_, hne', ?_⟩, hm1.trans (hm2.put2 hB hb2 hfr)⟩
  · rw [Lib.byteCells_append, List.length_append, ← Lib.strCells_eq, show s.data.toList.length = s.size from by simp]
    exact hown'.kept (row := some p) ⟨rfl, rfl, rfl, by simp, fun k _ hk => Below.heap_setCell _ _ _ _ (fun e => hk (by simp [e]))⟩ (.inr hne')
  · rw [Hnil.out]
    constructor
    · rintro ⟨rfl, rfl⟩; rfl
    · intro h0
      have h1 := List.append_eq_nil_iff.1 h0
      exact ⟨h1.1, ByteArray.ext (Array.toList_eq_nil_iff.1 h1.2)⟩
set_option maxHeartbeats 1000000 in
theorem wlen_any {B : Nat} {w : World} {p : Nat} {f : Bool} {bs : List UInt8} (h : Wr B w p f bs) :
    Calls Tryz.prog 121 #[.pointer (some ⟨p, 1, none⟩)] w fun e w' => e = .returned (.int .i64 bs.length) ∧ w = w' := by
  obtain ⟨hB, hB2, ad, v, hb, had, hown, hne, hn⟩ := h
  obtain ⟨ao, cap, rfl⟩ : ∃ ao cap, v = .slice ao bs.length cap := by
    rcases hown.2 with ⟨hv, h0⟩ | ⟨g, cap, cur, fz, hv, _⟩
    · exact ⟨none, 0, by rw [hv, h0]⟩
    · exact ⟨_, _, hv⟩
  have Hn := Lib.hid hn
  clear hn had
  have c := hb.cell
  go_enter Tryz.func121, Tryz.ntmps121
  go_wp2
  go_ret
  exact ⟨rfl, rfl⟩
theorem WMod.freeze {B p g n : Nat} {w : World} {cur : Array Value} {fz : Nat × Nat} (hg : w.heap[g]? = some (.cells cur 5 fz)) (hB : B ≤ g) (hr : rowAt w p = some g) (hgp : g ≠ p) : WMod B p w (w.freeze ⟨g, 0, none⟩ n) := by
  unfold World.freeze
  split
  · exact WMod.refl _ _ _
  · refine ⟨rfl, rfl, rfl, by simp, fun k hk => ?_, fun k hk hkp hr => ?_, fun k hk hkp hk2 => ?_, .inl (rowAt_same ?_)⟩
    · simp only [Array.getElem?_modify]; rw [if_neg (by omega)]
    · simp only [Array.getElem?_modify]; rw [if_neg (fun e => by subst e; exact hr _ _ hg)]
    · simp only [Array.getElem?_modify]; rw [if_neg (fun e => by subst e; exact hk2 hr)]
    · simp only [Array.getElem?_modify]; rw [if_neg hgp]
theorem WMod.drew {B p : Nat} {a b : World} (h : WMod B p a b) : WMod B p a b.drew := ⟨h.os, h.tape, h.output, h.size, h.low, h.other, h.prec, h.row⟩
set_option maxHeartbeats 2000000 in
theorem bstring_any {B : Nat} {w : World} {p : Nat} {f : Bool} {bs : List UInt8} (h : Wr B w p f bs) :
    Calls Tryz.prog 122 #[.pointer (some ⟨p, 1, none⟩)] w fun e w' => e = .returned (.string ⟨bs.toArray⟩) ∧ Wr B w' p f bs ∧ WMod B p w w' := by
  obtain ⟨hB, hB2, ad, v, hb, had, hown, hne, hn⟩ := h
  by_cases h0 : bs = []
  · obtain rfl : v = .slice none 0 0 := hn.2 h0
    subst h0
    have hUS := fun W => Lib.run_unsafeString_none (P := Tryz.prog) W 189 3 9 none
    have hSD : (Builtin.unsafeSliceData_ #[118] 189 #[.slice none 0 0]).run Tryz.prog w.drew = .ok (.pointer none) w.drew := rfl
    have hw : Wr B w.drew p f [] := ⟨hB, hB2, ad, _, hb, had, hown, hne, hn⟩
    have c := hb.cell
    clear hn had
    go_enter Tryz.func122, Tryz.ntmps122
    go_wp2
    go_region
    all_goals
      go_wp2
      go_ret
      exact ⟨rfl, hw, (WMod.refl _ _ _).drew⟩
  · have hl0 : bs.length ≠ 0 := by simpa using h0
    obtain ⟨g, cap, cur, fz, rfl, hbg, hg, hfz, hnc, hcm, hcs, htake⟩ : ∃ g cap cur fz, v = .slice (some ⟨g, 0, none⟩) bs.length cap ∧ B ≤ g ∧ w.heap[g]? = some (.cells cur 5 fz) ∧ fz.2 ≤ bs.length * 1 ∧ bs.length ≤ cap ∧ cap ≤ maxLen ∧ cur.size = cap * 1 ∧ cur.toList.take (bs.length * 1) = Lib.byteCells bs := by
      rcases hown.2 with ⟨_, hz⟩ | ⟨g, cap, cur, fz, hv, r⟩
      · exact absurd hz hl0
      · exact ⟨g, cap, cur, fz, hv, r⟩
    have hSD : (Builtin.unsafeSliceData_ #[118] 189 #[.slice (some ⟨g, 0, none⟩) bs.length cap]).run Tryz.prog w.drew = .ok (.pointer (some ⟨g, 0, none⟩)) w.drew :=
      Lib.run_unsafeSliceData_row _ _ _ _ _ _ (by omega)
    have hUS : (Builtin.unsafeString_ #[189, 3] 9 #[.pointer (some ⟨g, 0, none⟩), .int .i64 bs.length]).run Tryz.prog w.drew = .ok (.string ⟨bs.toArray⟩) (w.drew.freeze ⟨g, 0, none⟩ bs.length) := by
      refine Lib.run_unsafeString_row w.drew 189 3 9 5 Tryz.underlying189 (by kernel_rfl) g cur.size (by have hg' : w.drew.heap[g]? = some (.cells cur 5 fz) := hg; simp [World.shape?, hg']) bs h0 (by omega) (by unfold maxLen at hcm; omega) ?_
      intro j x hx
      have := hown.cells (g := g) rfl j (.int .u8 x.toNat) (by simp [Lib.byteCells, hx])
      exact this
    have hgp : g ≠ p := fun e => hne (by simp [Value.ownBlock, e])
    have hm : WMod B p w (w.drew.freeze ⟨g, 0, none⟩ bs.length) := (WMod.refl B p w).drew.trans (WMod.freeze (w := w.drew) hg hbg (rowAt_blk (show Blk w.drew p _ _ from hb)) hgp)
    have hw : Wr B (w.drew.freeze ⟨g, 0, none⟩ bs.length) p f bs := by
      refine ⟨hB, Nat.le_trans hB2 hm.size, ad, _, ?_, had, ⟨hown.1, ?_⟩, hne, hn⟩
      · unfold Blk World.freeze; rw [if_neg hl0]
        simp only [Array.getElem?_modify]; rw [if_neg hgp]; exact hb
      · obtain ⟨lo, hi⟩ := fz
        refine .inr ⟨g, cap, cur, (if lo == hi then (0, 0 + bs.length) else (min lo 0, max hi (0 + bs.length))), rfl, hbg, ?_, ?_, hnc, hcm, hcs, htake⟩
        · unfold World.freeze; rw [if_neg hl0]
          have hg' : w.drew.heap[g]? = some (.cells cur 5 (lo, hi)) := hg
          simp only [Array.getElem?_modify, hg', if_true, Option.map_some]
        · simp only at hfz
          split <;> simp <;> omega
    have c := hb.cell
    clear hn had
    go_enter Tryz.func122, Tryz.ntmps122
    go_wp2
    go_region
    all_goals
      go_wp2
      go_ret
      exact ⟨rfl, hw, hm⟩
end Go.Proofs.YtmcaigmpcbkfpaaGreat
