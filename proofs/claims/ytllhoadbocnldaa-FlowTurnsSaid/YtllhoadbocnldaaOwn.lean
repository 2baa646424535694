/- Rows of one's own, writers and readers as things of the walk; slices that are built and appended to; calls that turn things, in drawn regions too. -/
import Derived.Test.YtllhoadbocnldaaTypes
import Derived.Test.YtllhoadbocnldaaReader
import Derived.Great.BuildSlice
import Derived.Laws.BytesArg
set_option linter.unusedVariables false
set_option linter.unusedSimpArgs false
set_option maxRecDepth 100000
namespace Go.Proofs.Ytllhoadbocnldaa
open Go.RowKit
def elemL : List (Nat × Nat × Nat) := [(38, 60, 7), (55, 44, 1)]
def okElem (P : Program) (x : Nat × Nat × Nat) : Bool := match P.underlying x.1, P.info? x.2.1 with
  | some (.slice e), some i => Nat.beq e x.2.1 && Nat.beq i.size x.2.2 && Nat.ble i.bytes 4096 && Nat.ble 1 x.2.2 && Nat.ble x.2.2 4096 && (match i.zero with | some z => Nat.beq z.cells.size x.2.2 | none => false)
  | _, _ => false
theorem elemOk : elemL.all (okElem Try.prog) = true := by kernel_rfl
theorem elem_spec {T e s : Nat} (h : look elemL T = some (e, s)) : Try.prog.underlying T = some (.slice e) ∧ 1 ≤ s ∧ s ≤ 4096 ∧ ∃ i z, Try.prog.info? e = some i ∧ i.zero = some z ∧ i.size = s ∧ i.bytes ≤ 4096 ∧ z.cells.size = s := by
  have h1 := List.all_eq_true.1 elemOk _ (look_mem h)
  unfold okElem at h1
  split at h1
  · rename_i e' i h2 h3
    simp only [Bool.and_eq_true, Nat.ble_eq] at h1
    obtain ⟨⟨⟨⟨⟨h4, h5⟩, h6⟩, h7⟩, h8⟩, h9⟩ := h1
    replace h4 := Nat.eq_of_beq_eq_true h4
    replace h5 := Nat.eq_of_beq_eq_true h5
    subst h4
    split at h9
    · rename_i z hz
      exact ⟨h2, h7, h8, i, z, h3, hz, h5, h6, Nat.eq_of_beq_eq_true h9⟩
    · cases h9
  · cases h1
section
variable {w0 : World} {S : List Nat} {Q : SP} {rs : List Res} {ops : Array Oper} {l l' : List Value} {ds : List Deferred} {rest : List Oper} {d : Tmp} {ty : TypeId} {pos : String} {aft : Array Edge} {gd : Option (Nat × Bool)} {dt : Option Tmp}
/-! ### Slices that are built -/
theorem parts_eq {ds : List Deferred} : ∀ (ps : List (Nat × Operand)) (vs : List Value) (i n : Nat), ps.map (·.1) = List.range' i n → opnds l (ps.map (·.2)) = some vs →
    ps.map (fun x => (x.1, Act.eval ⟨l.toArray, ds⟩ x.2)) = (vs.zipIdx i).map fun x => (x.2, x.1)
  | [], vs, i, n, hp, hx => by simp only [List.map_nil, opnds, Option.some.injEq] at hx; subst hx; rfl
  | (a, x) :: ps, vs, i, n, hp, hx => by
    simp only [List.map_cons, opnds] at hx
    split at hx
    · rename_i v us h1 h2
      injection hx with hx
      subst hx
      cases n with
      | zero => simp at hp
      | succ n =>
        rw [List.map_cons, List.range'_succ] at hp
        injection hp with hp1 hp2
        simp only [List.map_cons, List.zipIdx_cons, opnd_eval h1, parts_eq ps us (i + 1) n hp2 h2]
        have hp1' : a = i := hp1
        rw [hp1']
    · cases hx
theorem run_bslice {T e s n : Nat} {ps : List (Nat × Operand)} {vs cs : List Value} (hT : look elemL T = some (e, s)) (hp : ps.map (·.1) = List.range' 0 n) (hx : opnds l (ps.map (·.2)) = some vs)
    (hs : vs.all (fun v => Nat.beq v.cells.size s) = true) (hcs : vs.flatMap (fun v => v.cells.toList) = cs) (hn : Nat.ble 1 n = true) (hn2 : Nat.ble n 4096 = true) (w : World) :
    (execOp (Act.eval ⟨l.toArray, ds⟩) ⟨dt, .buildSlice T n ps.toArray, ty, pos, aft, gd⟩).run Try.prog w = .ok (.value (.slice (some ⟨w.heap.size, 0, none⟩) n n)) (w.alloc (.cells cs.toArray e)) := by
  obtain ⟨hu, hs1, hs2, i, z, hi, hz, hsz, hby, hzc⟩ := elem_spec hT
  have hpl := congrArg List.length hp
  simp only [List.length_map, List.length_range'] at hpl
  have hvl : vs.length = n := by
    have := congrArg List.length (parts_eq (l := l) (ds := ds) ps vs 0 n hp hx)
    simp at this; omega
  have h1 := Nat.le_of_ble_eq_true hn
  have h2 := Nat.le_of_ble_eq_true hn2
  subst hcs
  have hall : ∀ v ∈ vs, v.cells.size = s := fun v hv => Nat.eq_of_beq_eq_true (List.all_eq_true.1 hs v hv)
  have hm : n * s ≤ 16777216 := Nat.le_trans (Nat.mul_le_mul h2 hs2) (by decide)
  have hm0 : 0 < n * s := Nat.mul_pos h1 hs1
  have := run_buildSlice (P := Try.prog) w T e n ((vs.zipIdx 0).map fun x => (x.2, x.1)).toArray (vs.flatMap fun v => v.cells.toList).toArray i z hu hi hz (by rw [hsz]; omega) (by rw [hsz]; omega) (by
    rw [hsz]
    exact Great.fill_whole hs1 vs _ hall (by simp [hvl]))
  rw [← parts_eq (ds := ds) ps vs 0 n hp hx] at this
  simp only [execOp, List.map_toArray, Sem.run_bind]
  rw [show (List.map (fun x : Nat × Operand => match x with | (i, x) => (i, Act.eval ⟨l.toArray, ds⟩ x)) ps) = ps.map (fun x => (x.1, Act.eval ⟨l.toArray, ds⟩ x.2)) from rfl, this]
  rfl
theorem seqS_bslice {T e s n : Nat} {ps : List (Nat × Operand)} {vs cs : List Value} (hw : Region.wanted ⟨some d, .buildSlice T n ps.toArray, ty, pos, aft, gd⟩ (yielded ops l.toArray) = true)
    (hT : look elemL T = some (e, s)) (hp : ps.map (·.1) = List.range' 0 n) (hx : opnds l (ps.map (·.2)) = some vs)
    (hs : vs.all (fun v => Nat.beq v.cells.size s) = true) (hcs : vs.flatMap (fun v => v.cells.toList) = cs) (hn : Nat.ble 1 n = true) (hn2 : Nat.ble n 4096 = true)
    (h : ∀ m l', l.set d (.slice (some ⟨m, 0, none⟩) n n) = l' → seqS Try.prog w0 S ops Q rest ⟨l'.toArray, ds⟩ (blk m cs e :: rs)) :
    seqS Try.prog w0 S ops Q (⟨some d, .buildSlice T n ps.toArray, ty, pos, aft, gd⟩ :: rest) ⟨l.toArray, ds⟩ rs :=
  seqS_new (mk := fun m => .slice (some ⟨m, 0, none⟩) n n) hw rfl (fun w => run_bslice hT hp hx hs hcs hn hn2 w) (fun m => h m _ rfl)

/-! ### Rows of one's own -/
/-- The slice whose row the function has made itself. -/
def own (A : Option Addr) (cap : Nat) (e : TypeId) (s n : Nat) (xs : List Value) : Res where
  foot := (Value.slice A n cap).ownBlock.toList
  holds := fun w => w.ownsRowF 0 e s (.slice A n cap) n xs
  loc := fun w w' h ho => by
    refine ⟨ho.1, ?_⟩
    rcases ho.2 with h0 | ⟨g, cap', cur, fz, hv, hb, hg, r⟩
    · exact .inl h0
    · refine .inr ⟨g, cap', cur, fz, hv, hb, ?_, r⟩
      rw [h g (by rw [hv]; simp [Value.ownBlock]), hg]
  ex := fun w h k hk => (h.lt k (by simpa using hk)).2
theorem own_nil (w : World) (e : TypeId) (s : Nat) : (own none 0 e s 0 []).holds w := World.ownsRowF_nil _ _ _ _
theorem seqS_append {T e s : Nat} {x y : Operand} {A : Option Addr} {cap n : Nat} {xs : List Value} {b m c : Nat} {cs : List Value} {te : TypeId} {rs' : Option Addr → Nat → List Res}
    (hw : Region.wanted ⟨some d, .call { callee := .builtin .append, args := #[x, y], argTypes := #[T, T] }, ty, pos, aft, gd⟩ (yielded ops l.toArray) = true) (hT : look elemL T = some (e, s))
    (hx : opnd l x = some (.slice A n cap)) (hy : opnd l y = some (.slice (some ⟨b, 0, none⟩) m c)) (hb : blk b cs te ∈ rs) (hcs : cs.length = m * s) (h1 : cs.all (·.oneCell') = true)
    (hu : ∀ A' cap', Upd (own A cap e s n xs) (own A' cap' e s (n + m) (xs ++ cs)) rs (rs' A' cap')) (hn : n + m ≤ 34359738368)
    (h : ∀ A' cap' l', l.set d (.slice A' (n + m) cap') = l' → seqS Try.prog w0 S ops Q rest ⟨l'.toArray, ds⟩ (rs' A' cap')) :
    seqS Try.prog w0 S ops Q (⟨some d, .call { callee := .builtin .append, args := #[x, y], argTypes := #[T, T] }, ty, pos, aft, gd⟩ :: rest) ⟨l.toArray, ds⟩ rs := by
  obtain ⟨ht, hs1, hs2, i, z, hi, hz, hsz, hby, hzc⟩ := elem_spec hT
  refine seqS_act (Φ := fun v q => ∃ A' cap', v = .slice A' (n + m) cap' ∧ q = rs' A' cap') hw (fun w hs => ?_) (fun v q ⟨A', cap', hv, hq⟩ => by subst hv; subst hq; rw [put_some rfl]; exact h A' cap' _ rfl)
  have hown : w.ownsRowF 0 e s (.slice A n cap) n xs := hs.all _ (hu none 0).mem
  have hbw : Blk w b cs te := hs.all _ hb
  have hmb : (n + m) * i.bytes ≤ 140737488355328 := Nat.le_trans (Nat.mul_le_mul hn hby) (by decide)
  obtain ⟨v', w', hr, h2, h3, h4, h5⟩ := append_row (P := Try.prog) w T ty e i z s i.bytes ht hi hz hsz rfl hzc hs1 0 (Nat.zero_le _) (.slice A n cap) n xs hown ⟨b, 0, none⟩ m c cs hcs
    (fun j u hj => by rw [show (⟨b, 0, none⟩ : Addr).add j = ⟨b, j, none⟩ from by unfold Addr.add; split <;> simp_all, hbw.cell]; simpa using hj) (fun u hu => List.all_eq_true.1 h1 u hu) (by unfold maxLen; omega) hmb
  obtain ⟨A', cap', rfl⟩ : ∃ A' cap', v' = .slice A' (n + m) cap' := by
    rcases h2.2 with ⟨hv, h0⟩ | ⟨g, cap', cur, fz, hv, _⟩
    · exact ⟨none, 0, by rw [hv, h0]⟩
    · exact ⟨_, _, hv⟩
  simp only [execOp, resolve, invoke, builtin, Sem.run_bind, Sem.run_pure, Result.andThen_ok, List.map_toArray, List.map_cons, List.map_nil, opnd_eval hx, opnd_eval hy, hr]
  refine ⟨_, _, rfl, ⟨A', cap', rfl, rfl⟩, hs.updU (hu A' cap') ⟨h3.os, h3.tape, h3.output, h3.size, fun k hk hkn => h3.block k hk (fun e => hkn (by simp [own, ← e]))⟩ h2 (fun k hk => ?_)⟩
  simp only [own, Option.mem_toList] at hk ⊢
  rcases h5 with h5 | h5
  · exact .inl (by rw [← h5]; exact hk)
  · exact .inr (h5 k hk)

/-! ### Calls that turn things -/
/-- What a call that turns one thing leaves. -/
abbrev Turns {ι : Type} (r : Res) (v : ι → Value) (mk : ι → Res) (w : World) (e : Ending) (w' : World) : Prop :=
  ∃ i, e = .returned (v i) ∧ (mk i).holds w' ∧ Mod r.foot w w' ∧ ∀ n ∈ (mk i).foot, n ∈ r.foot ∨ w.heap.size ≤ n
/-- What a call that makes a thing leaves. -/
abbrev Makes {ι : Type} (v : ι → Value) (mk : ι → Res) (w : World) (e : Ending) (w' : World) : Prop :=
  ∃ i, e = .returned (v i) ∧ (mk i).holds w' ∧ Mod [] w w' ∧ ∀ n ∈ (mk i).foot, w.heap.size ≤ n
theorem seqS_callE {ι : Type} {f : FuncId} {xs : List Operand} {ts : Array TypeId} {vs : List Value} {v : ι → Value} {r : Res} {mk : ι → Res} {rs' : ι → List Res} (hw : Region.wanted ⟨some d, .call { callee := .value (.func f), args := xs.toArray, argTypes := ts }, ty, pos, aft, gd⟩ (yielded ops l.toArray) = true)
    (hx : opnds l xs = some vs) (hf : look calL f = some ()) (hu : ∀ i, Upd r (mk i) rs (rs' i))
    (hc : ∀ w, Sep w0 S rs w → r.holds w → Calls Try.prog f vs.toArray w (Turns r v mk w))
    (h : ∀ i l', l.set d (v i) = l' → seqS Try.prog w0 S ops Q rest ⟨l'.toArray, ds⟩ (rs' i)) (hi : Nonempty ι) :
    seqS Try.prog w0 S ops Q (⟨some d, .call { callee := .value (.func f), args := xs.toArray, argTypes := ts }, ty, pos, aft, gd⟩ :: rest) ⟨l.toArray, ds⟩ rs :=
  seqS_call (Φ := fun u q => ∃ i, u = v i ∧ q = rs' i) hw hx (fun w => run_call hx hf w) (fun w hs => (hc w hs (hs.all _ (hi.elim fun i => (hu i).mem))).mono fun e w' ⟨i, he, hr, hm, hn⟩ => ⟨_, _, he, ⟨i, rfl, rfl⟩, hs.updU (hu i) hm hr hn⟩)
    (fun u q l2 hl2 ⟨i, hu, hq⟩ => by subst hu; subst hq; exact h i l2 hl2)
theorem seqS_callN {ι : Type} {f : FuncId} {xs : List Operand} {ts : Array TypeId} {vs : List Value} {v : ι → Value} {mk : ι → Res} (hw : Region.wanted ⟨some d, .call { callee := .value (.func f), args := xs.toArray, argTypes := ts }, ty, pos, aft, gd⟩ (yielded ops l.toArray) = true)
    (hx : opnds l xs = some vs) (hf : look calL f = some ())
    (hc : ∀ w, Sep w0 S rs w → Calls Try.prog f vs.toArray w (Makes v mk w))
    (h : ∀ i l', l.set d (v i) = l' → seqS Try.prog w0 S ops Q rest ⟨l'.toArray, ds⟩ (mk i :: rs)) :
    seqS Try.prog w0 S ops Q (⟨some d, .call { callee := .value (.func f), args := xs.toArray, argTypes := ts }, ty, pos, aft, gd⟩ :: rest) ⟨l.toArray, ds⟩ rs :=
  seqS_call (Φ := fun u q => ∃ i, u = v i ∧ q = mk i :: rs) hw hx (fun w => run_call hx hf w) (fun w hs => (hc w hs).mono fun e w' ⟨i, he, hr, hm, hn⟩ => ⟨_, _, he, ⟨i, rfl, rfl⟩, hs.add hm hr hn⟩)
    (fun u q l2 hl2 ⟨i, hu, hq⟩ => by subst hu; subst hq; exact h i l2 hl2)
theorem seqS_weaken {l0 : List Oper} {a0 : Act} {rs' : List Res} (hs : ∀ w, Sep w0 S rs w → Sep w0 S rs' w) (h : seqS Try.prog w0 S ops Q l0 a0 rs') : seqS Try.prog w0 S ops Q l0 a0 rs := fun w hw => h w (hs w hw)
theorem Sep.two {w : World} {r1 r2 : Res} (h1 : r1.holds w) (h2 : r2.holds w) (hd : ∀ n ∈ r1.foot, n ∉ r2.foot) : Sep w (r1.foot ++ r2.foot) [r1, r2] w :=
  ⟨Mod.refl _ _, fun r hr => by
    rcases List.mem_cons.1 hr with rfl | hr
    · exact h1
    · obtain rfl := List.mem_singleton.1 hr; exact h2, fun r hr n hn _ => by
    rcases List.mem_cons.1 hr with rfl | hr
    · simp [hn]
    · obtain rfl := List.mem_singleton.1 hr; simp [hn], by
    rw [List.pairwise_cons]
    exact ⟨fun x hx n hn => by obtain rfl := List.mem_singleton.1 hx; exact hd n hn, by simp⟩⟩
/-- One of the things is left out. -/
inductive Out (r : Res) : List Res → List Res → Prop
  | head {tl : List Res} : Out r (r :: tl) tl
  | tail {x : Res} {tl tl' : List Res} : Out r tl tl' → Out r (x :: tl) (x :: tl')
theorem Out.split {r : Res} {a b : List Res} (h : Out r a b) : ∃ pre post, a = pre ++ r :: post ∧ b = pre ++ post := by
  induction h with
  | head => exact ⟨[], _, rfl, rfl⟩
  | tail _ ih => obtain ⟨pre, post, rfl, rfl⟩ := ih; exact ⟨_ :: pre, post, rfl, rfl⟩
theorem Sep.stay0 {rsX rsS : List Res} {r : Res} {w w' : World} (h : Sep w0 S rs w) (ho : Out r rs rsX) (hsub : rsS.Sublist rsX) (hs : Sep w0 S rsS w) (hm : Mod r.foot w w') : Sep w0 S rsS w' := by
  obtain ⟨pre, post, rfl, rfl⟩ := ho.split
  have hd := h.dis
  rw [List.pairwise_append] at hd
  obtain ⟨d1, d2, d3⟩ := hd
  rw [List.pairwise_cons] at d2
  refine ⟨hs.mod.trans hm (h.old r (by simp)), fun x hx => ?_, hs.old, hs.dis⟩
  refine x.loc w w' (fun n hn => hm.block n (x.ex w (hs.all x hx) n hn) ?_) (hs.all x hx)
  rcases List.mem_append.1 (hsub.subset hx) with hx | hx
  · exact d3 x hx r (by simp) n hn
  · exact fun hr => d2.1 x hx n hr hn
theorem Sep.stay {rsX : List Res} {rsS : St} {r : Res} {w w' : World} (h : Sep w0 S rs w) (ho : Out r rs rsX) (hsub : rsS.1.Sublist rsX) (hxs : ∀ x ∈ rsS.2, ∃ cs t, blk x.1 cs t ∈ rsX) (hs : Cls w0 S rsS w) (hm : Mod r.foot w w') : Cls w0 S rsS w' := by
  refine ⟨h.stay0 ho hsub hs.1 hm, fun x hx c hc => hm.cell (hs.2 x hx c hc) (fun hf => ?_)⟩
  obtain ⟨cs, t, hmem⟩ := hxs x hx
  obtain ⟨pre, post, rfl, rfl⟩ := ho.split
  have hd := h.dis
  rw [List.pairwise_append] at hd
  obtain ⟨d1, d2, d3⟩ := hd
  rw [List.pairwise_cons] at d2
  rcases List.mem_append.1 hmem with h1 | h1
  · exact d3 _ h1 r (by simp) x.1 (by simp [blk]) hf
  · exact d2.1 _ h1 x.1 hf (by simp [blk])
theorem Kp.updU {B : Nat} {r r' : Res} {rs' : List Res} {w w' : World} (hu : Upd r r' rs rs') (hm : Mod r.foot w w') (hf : ∀ n ∈ r'.foot, n ∈ r.foot ∨ w.heap.size ≤ n) : Kp B (sepRes w0 S rs).foot (sepRes w0 S rs').foot w w' := by
  obtain ⟨pre, post, rfl, rfl⟩ := hu.split
  refine Kp.of_mod hm (fun x hx _ => by simp [sepRes, hx]) (fun n hn => ?_)
  simp only [sepRes, List.flatMap_append, List.flatMap_cons, List.mem_append] at hn ⊢
  rcases hn with hn | hn | hn
  · exact .inl (.inl hn)
  · rcases hf n hn with h1 | h1
    · exact .inl (.inr (.inl h1))
    · exact .inr h1
  · exact .inl (.inr (.inr hn))
theorem Kp.add {B : Nat} {r' : Res} {w w' : World} (hm : Mod [] w w') (hf : ∀ n ∈ r'.foot, w.heap.size ≤ n) : Kp B (sepRes w0 S rs).foot (sepRes w0 S (r' :: rs)).foot w w' := by
  refine Kp.of_mod hm (by simp) (fun n hn => ?_)
  simp only [sepRes, List.flatMap_cons, List.mem_append] at hn ⊢
  rcases hn with hn | hn
  · exact .inr (hf n hn)
  · exact .inl hn
/-- A drawn region in which thing k may be turned. -/
theorem wpS_drawX {id : Nat} {ol : List Oper} {rsX : List Res} (k : Nat) (hX : rs.eraseIdx k = rsX) {ord : List Nat} (hord : List.range' 0 ol.length = ord) (hm : Try.prog.follows .mixedOrders = true) (hB : Region.ordB .any ol ord = true)
    (h : ∀ B, w0.heap.size ≤ B → (∀ r ∈ rs, ∀ n ∈ r.foot, n < B) → ordS Try.prog w0 S Q (rsX, []) B ol.toArray ord l ds [] rs) : wpS Try.prog w0 S (.region id ol.toArray true) Q ⟨l.toArray, ds⟩ rs :=
  wpS_draw ord (rsX, []) (by subst hX; exact List.eraseIdx_sublist _ _) (by simp) hm hB h
/-- A drawn region in which some things may be turned, but of one of them not these cells. -/
theorem wpS_drawC {id : Nat} {ol : List Oper} (rsX : List Res) (n : Nat) (cells : List (Nat × Value)) {cs : List Value} {t : TypeId} (hsub : rsX.Sublist rs) (hmem : blk n cs t ∈ rs) (hcs : ∀ c ∈ cells, cs[c.1]? = some c.2) {ord : List Nat} (hord : List.range' 0 ol.length = ord) (hm : Try.prog.follows .mixedOrders = true) (hB : Region.ordB .any ol ord = true)
    (h : ∀ B, w0.heap.size ≤ B → (∀ r ∈ rs, ∀ n ∈ r.foot, n < B) → ordS Try.prog w0 S Q (rsX, [(n, cells)]) B ol.toArray ord l ds [] rs) : wpS Try.prog w0 S (.region id ol.toArray true) Q ⟨l.toArray, ds⟩ rs :=
  wpS_draw ord (rsX, [(n, cells)]) hsub (fun x hx => by obtain rfl := List.mem_singleton.1 hx; exact ⟨cs, t, hmem, hcs⟩) hm hB h
section ord
variable {rsX : List Res} {rsS : St} {B : Nat} {gl : GL} {i : Nat} {orest : List Nat} {ol : List Oper}
theorem ordS_callE {ι : Type} {f : FuncId} {xs : List Operand} {ts : Array TypeId} {vs : List Value} {v : ι → Value} {r : Res} {mk : ι → Res} {rs' : ι → List Res} (ho : ol[i]? = some ⟨some d, .call { callee := .value (.func f), args := xs.toArray, argTypes := ts }, ty, pos, aft, gd⟩)
    (hw : Region.wanted ⟨some d, .call { callee := .value (.func f), args := xs.toArray, argTypes := ts }, ty, pos, aft, gd⟩ (yielded ol.toArray l.toArray) = true)
    (hx : opnds l xs = some vs) (hf : look calL f = some ()) (hu : ∀ j, Upd r (mk j) rs (rs' j)) (hou : Out r rs rsX) (hsub : rsS.1.Sublist rsX) (hxs : ∀ x ∈ rsS.2, ∃ cs t, blk x.1 cs t ∈ rsX)
    (hc : ∀ w, Sep w0 S rs w → r.holds w → (∀ n l t, (n, l, t) ∈ gl → Blk w n l t) → Calls Try.prog f vs.toArray w (Turns r v mk w))
    (h : ∀ j l', l.set d (v j) = l' → ordS Try.prog w0 S Q rsS B ol.toArray orest l' ds gl (rs' j)) (hi : Nonempty ι) : ordS Try.prog w0 S Q rsS B ol.toArray (i :: orest) l ds gl rs :=
  ordS_call ho hw rfl rfl (fun u q => ∃ j, u = v j ∧ q = rs' j) (fun w => run_call hx hf w)
    (fun w h1 h2 hg => (hc w h2 (h2.all _ (hi.elim fun j => (hu j).mem)) hg).mono fun e w' ⟨j, he, hr, hm, hn⟩ => ⟨_, _, he, ⟨j, rfl, rfl⟩, h2.stay hou hsub hxs h1 hm, h2.updU (hu j) hm hr hn, Kp.updU (hu j) hm hn⟩)
    (fun u q l2 hl2 ⟨j, hu, hq⟩ => by subst hu; subst hq; exact h j l2 hl2)
theorem ordS_callU {f : FuncId} {xs : List Operand} {ts : Array TypeId} {vs : List Value} {v : Value} {r r' : Res} {rs' : List Res} (ho : ol[i]? = some ⟨some d, .call { callee := .value (.func f), args := xs.toArray, argTypes := ts }, ty, pos, aft, gd⟩)
    (hw : Region.wanted ⟨some d, .call { callee := .value (.func f), args := xs.toArray, argTypes := ts }, ty, pos, aft, gd⟩ (yielded ol.toArray l.toArray) = true)
    (hx : opnds l xs = some vs) (hf : look calL f = some ()) (hu : Upd r r' rs rs') (hff : r'.foot = r.foot) (hou : Out r rs rsX) (hsub : rsS.1.Sublist rsX) (hxs : ∀ x ∈ rsS.2, ∃ cs t, blk x.1 cs t ∈ rsX)
    (hc : ∀ w, Sep w0 S rs w → r.holds w → (∀ n l t, (n, l, t) ∈ gl → Blk w n l t) → Calls Try.prog f vs.toArray w (fun e w' => e = .returned v ∧ r'.holds w' ∧ Mod r.foot w w')) (hl : l.set d v = l')
    (h : ordS Try.prog w0 S Q rsS B ol.toArray orest l' ds gl rs') : ordS Try.prog w0 S Q rsS B ol.toArray (i :: orest) l ds gl rs :=
  ordS_callE (ι := Unit) (v := fun _ => v) (mk := fun _ => r') (rs' := fun _ => rs') ho hw hx hf (fun _ => hu) hou hsub hxs (fun w h1 h2 h3 => (hc w h1 h2 h3).mono fun e w' ⟨he, hr, hm⟩ => ⟨(), he, hr, hm, fun n hn => .inl (by rw [← hff]; exact hn)⟩)
    (fun _ l2 hl2 => by rw [hl] at hl2; subst hl2; exact h) ⟨()⟩
theorem ordS_callN {ι : Type} {f : FuncId} {xs : List Operand} {ts : Array TypeId} {vs : List Value} {v : ι → Value} {mk : ι → Res} (ho : ol[i]? = some ⟨some d, .call { callee := .value (.func f), args := xs.toArray, argTypes := ts }, ty, pos, aft, gd⟩)
    (hw : Region.wanted ⟨some d, .call { callee := .value (.func f), args := xs.toArray, argTypes := ts }, ty, pos, aft, gd⟩ (yielded ol.toArray l.toArray) = true)
    (hx : opnds l xs = some vs) (hf : look calL f = some ())
    (hc : ∀ w, Sep w0 S rs w → (∀ n l t, (n, l, t) ∈ gl → Blk w n l t) → Calls Try.prog f vs.toArray w (Makes v mk w))
    (h : ∀ j l', l.set d (v j) = l' → ordS Try.prog w0 S Q rsS B ol.toArray orest l' ds gl (mk j :: rs)) : ordS Try.prog w0 S Q rsS B ol.toArray (i :: orest) l ds gl rs :=
  ordS_call ho hw rfl rfl (fun u q => ∃ j, u = v j ∧ q = mk j :: rs) (fun w => run_call hx hf w)
    (fun w h1 h2 hg => (hc w h2 hg).mono fun e w' ⟨j, he, hr, hm, hn⟩ => ⟨_, _, he, ⟨j, rfl, rfl⟩, h1.garb hm, h2.add hm hr hn, Kp.add hm hn⟩)
    (fun u q l2 hl2 ⟨j, hu, hq⟩ => by subst hu; subst hq; exact h j l2 hl2)
theorem ordS_bslice {T e s n : Nat} {ps : List (Nat × Operand)} {vs cs : List Value} (ho : ol[i]? = some ⟨some d, .buildSlice T n ps.toArray, ty, pos, aft, gd⟩) (hw : Region.wanted ⟨some d, .buildSlice T n ps.toArray, ty, pos, aft, gd⟩ (yielded ol.toArray l.toArray) = true)
    (hT : look elemL T = some (e, s)) (hp : ps.map (·.1) = List.range' 0 n) (hx : opnds l (ps.map (·.2)) = some vs)
    (hs : vs.all (fun v => Nat.beq v.cells.size s) = true) (hcs : vs.flatMap (fun v => v.cells.toList) = cs) (hn : Nat.ble 1 n = true) (hn2 : Nat.ble n 4096 = true)
    (h : ∀ m l', l.set d (.slice (some ⟨m, 0, none⟩) n n) = l' → ordS Try.prog w0 S Q rsS B ol.toArray orest l' ds ((m, cs, e) :: gl) rs) : ordS Try.prog w0 S Q rsS B ol.toArray (i :: orest) l ds gl rs :=
  ordS_new (mk := fun m => .slice (some ⟨m, 0, none⟩) n n) ho hw rfl rfl rfl (fun w => run_bslice hT hp hx hs hcs hn hn2 w) h
/-- An operation that may turn things, yielding a value. -/
theorem ordS_act {o : Oper} (ho : ol[i]? = some o) (hw : Region.wanted o (yielded ol.toArray l.toArray) = true) (ha : isAct o = true) (hd : o.dst = some d) (Φ : Value → List Res → Prop)
    (hc : ∀ w, Cls w0 S rsS w → Sep w0 S rs w → (∀ n l t, (n, l, t) ∈ gl → Blk w n l t) → ∃ v rs' w', (execOp (Act.eval ⟨l.toArray, ds⟩) o).run Try.prog w = .ok (.value v) w' ∧ Φ v rs' ∧ Cls w0 S rsS w' ∧ Sep w0 S rs' w' ∧ Kp B (sepRes w0 S rs).foot (sepRes w0 S rs').foot w w')
    (h : ∀ v rs' l', l.set d v = l' → Φ v rs' → ordS Try.prog w0 S Q rsS B ol.toArray orest l' ds gl rs') : ordS Try.prog w0 S Q rsS B ol.toArray (i :: orest) l ds gl rs := fun hnd hi =>
  ord_act (lookL ho) hw ha (fun v r => ∃ rs', r = sepRes w0 S rs' ∧ Φ v rs') (fun w hC hR hG => by
    obtain ⟨v, rs', w', hr, hv, h1, h2, h3⟩ := hc w hC ⟨hC.1.mod, hR.1, hR.2.1, hR.2.2⟩ (fun n l t hm => hG n l t (by obtain ⟨k, hk⟩ := List.getElem?_of_mem hm; exact ghOf_get hnd hk))
    rw [hr]
    exact ⟨_, ⟨rs', rfl, hv⟩, h1, ⟨h2.all, h2.old, h2.dis⟩, h3⟩)
    (fun v r ⟨rs', hr, hv⟩ => by subst hr; rw [hd, put_some rfl]; exact h v rs' _ rfl hv hnd hi)
/-- An act that turns nothing. -/
theorem ordS_actv {o : Oper} {v : Value} (ho : ol[i]? = some o) (hw : Region.wanted o (yielded ol.toArray l.toArray) = true) (ha : isAct o = true) (hd : o.dst = some d) (hv : OpVal Try.prog w0 S rs l ds o v) (hl : l.set d v = l')
    (h : ordS Try.prog w0 S Q rsS B ol.toArray orest l' ds gl rs) : ordS Try.prog w0 S Q rsS B ol.toArray (i :: orest) l ds gl rs :=
  ordS_act ho hw ha hd (fun u q => u = v ∧ q = rs) (fun w h1 h2 _ => ⟨_, rs, w, hv w h2, ⟨rfl, rfl⟩, h1, h2, Kp.of_mod (Mod.refl [] w) (by simp) (fun n hn => .inl hn)⟩)
    (fun u q l2 hl2 ⟨hu, hq⟩ => by subst hu; subst hq; rw [hl] at hl2; subst hl2; exact h)
/-- A load of a cell that stays. -/
theorem ordS_loadX {T : TypeId} {x : Operand} {n off : Nat} {v : Value} {cells : List (Nat × Value)} (ho : ol[i]? = some ⟨some d, .load T x, ty, pos, aft, gd⟩) (hw : Region.wanted ⟨some d, .load T x, ty, pos, aft, gd⟩ (yielded ol.toArray l.toArray) = true)
    (hx : opnd l x = some (.pointer (some ⟨n, off, none⟩))) (hT : look aggL T = some false) (hT8 : Nat.beq T 5 = false) (hm : (n, cells) ∈ rsS.2) (hc : (off, v) ∈ cells) (hl : l.set d v = l')
    (h : ordS Try.prog w0 S Q rsS B ol.toArray orest l' ds gl rs) : ordS Try.prog w0 S Q rsS B ol.toArray (i :: orest) l ds gl rs := fun hnd hi => by
  obtain ⟨w1, hw1⟩ := hi
  refine ord_val hw1 (lookL ho) hw hT8 rfl rfl (v := v) (fun w hC => ?_) (by rw [put_some hl]; exact h hnd ⟨w1, hw1⟩)
  have := run_load1 (P := Try.prog) (aggF hT) (hC.2 _ hm _ hc)
  simp only [execOp, opnd_eval hx, Sem.run_bind, this]; rfl
/-- A store into one of the things, beside the cells that stay. -/
theorem ordS_storeR {T : TypeId} {x y : Operand} {n off : Nat} {v : Value} {cs cs' : List Value} {t : TypeId} {rs' : List Res} (ho : ol[i]? = some ⟨none, .store T x y, ty, pos, aft, gd⟩) (hw : Region.wanted ⟨none, .store T x y, ty, pos, aft, gd⟩ (yielded ol.toArray l.toArray) = true)
    (hx : opnd l x = some (.pointer (some ⟨n, off, none⟩))) (hy : opnd l y = some v) (hu : Upd (blk n cs t) (blk n cs' t) rs rs') (hv : StoreV T cs off v cs') (hou : Out (blk n cs t) rs rsX) (hsub : rsS.1.Sublist rsX) (hxs : ∀ x ∈ rsS.2, x.1 = n ∧ ∀ c ∈ x.2, cs'[c.1]? = some c.2)
    (h : ordS Try.prog w0 S Q rsS B ol.toArray orest l ds gl rs') : ordS Try.prog w0 S Q rsS B ol.toArray (i :: orest) l ds gl rs := fun hnd hi =>
  ord_store (lookL ho) hw rfl (sepRes w0 S rs') (fun w hC hR => by
    have hs : Sep w0 S rs w := ⟨hC.1.mod, hR.1, hR.2.1, hR.2.2⟩
    obtain ⟨w', hr, hb, hm, _⟩ := hv w n t (hs.all _ hu.mem)
    have hs' := hs.updU hu hm hb (fun n hn => .inl (by unfold blk at *; exact hn))
    refine ⟨w', ?_, ⟨hs.stay0 hou hsub hC.1 hm, fun x hx c hc => ?_⟩, ⟨hs'.all, hs'.old, hs'.dis⟩, Kp.updU hu hm (fun n hn => .inl (by unfold blk at *; exact hn))⟩
    · simp only [execOp, opnd_eval hx, opnd_eval hy, Sem.run_bind, hr]
      rfl
    · obtain ⟨e, h2⟩ := hxs x hx
      rw [e, hb.cell]
      simpa using h2 c hc) (h hnd hi)
end ord
theorem Sep.getBlk {w : World} (h : Sep w0 S rs w) {n : Nat} {c : List Value} {t : TypeId} (hm : blk n c t ∈ rs) : Blk w n c t := h.all _ hm

/-! ### Bytes as a string -/
def numsOf : List Value → Option (List Int)
  | [] => some []
  | .int .u8 y :: r => (numsOf r).map (y :: ·)
  | _ => none
theorem numsOf_spec : ∀ {cs : List Value} {xs : List Int}, numsOf cs = some xs → cs = xs.map (Value.int .u8)
  | [], xs, h => by simp only [numsOf, Option.some.injEq] at h; subst h; rfl
  | v :: r, xs, h => by
    unfold numsOf at h
    split at h
    · rename_i e; cases e
    · rename_i y r' e
      injection e with e1 e2
      subst e1; subst e2
      cases hr : numsOf r with
      | none => rw [hr] at h; cases h
      | some ys =>
        rw [hr] at h; injection h with h; subst h
        rw [List.map_cons, numsOf_spec hr]
    · cases h
end

abbrev strOf (bs : List UInt8) : ByteArray := ⟨bs.toArray⟩
theorem strOf_size (bs : List UInt8) : (strOf bs).size = bs.length := by simp [ByteArray.size]
section
variable {w0 : World} {S : List Nat} {rs : List Res} {l : List Value} {ds : List Deferred} {ty : TypeId} {pos : String} {aft : Array Edge} {gd : Option (Nat × Bool)} {dt : Option Tmp}
theorem opv_cat {T U : TypeId} {x y : Operand} {a b : ByteArray} (hx : opnd l x = some (.string a)) (hy : opnd l y = some (.string b)) (h : a.size + b.size ≤ 9223372036854775807) :
    OpVal Try.prog w0 S rs l ds ⟨dt, .binOp .add T x y U, ty, pos, aft, gd⟩ (.string (a ++ b)) :=
  opv_bin hx hy (fun w _ => by
    simp only [eqGuard, Sem.run_bind, Sem.run_pure, Result.andThen_ok]
    rw [Go.binOp_string_add]
    simp [run_string_add_sum w a b h])
end
/-! ### Writers and readers -/
def wtr (p : Nat) (row : Option Nat) (st : Bool × List UInt8) : Res where
  foot := p :: row.toList
  holds := fun w => Wr 0 w p st.1 st.2 ∧ rowAt w p = row
  loc := fun w w' h ⟨⟨h1, h2, ad, v, hb, had, hown, hne, hn⟩, hr⟩ => by
    have hp : w'.heap[p]? = w.heap[p]? := h p (by simp)
    have hb' : Blk w' p [.bool st.1, ad, v] 9999999 := by unfold Blk at *; rw [hp]; exact hb
    refine ⟨⟨h1, Nat.zero_le _, ad, v, hb', had, ⟨hown.1, ?_⟩, hne, hn⟩, by rw [rowAt_same hp]; exact hr⟩
    rcases hown.2 with h0 | ⟨g, cap, cur, fz, hv, hbg, hg, r⟩
    · exact .inl h0
    · refine .inr ⟨g, cap, cur, fz, hv, hbg, ?_, r⟩
      have e : row = some g := by rw [← hr, rowAt_blk hb, hv]; rfl
      rw [h g (by simp [e]), hg]
  ex := fun w ⟨⟨h1, h2, ad, v, hb, had, hown, hne, hn⟩, hr⟩ n hm => by
    rcases List.mem_cons.1 hm with rfl | hm
    · exact hb.lt
    · refine (hown.lt n ?_).2
      rw [← rowAt_blk hb, hr]; simpa using hm
def rdr (p : Nat) (st : Bool × ByteArray) : Res where
  foot := [p]
  holds := fun w => Rd w p st
  loc := fun w w' h ⟨h1, h2⟩ => ⟨by unfold Blk at *; rw [h p (by simp)]; exact h1, h2⟩
  ex := fun w h n hn => by simp at hn; subst hn; exact h.lt
abbrev ptr0 (p : Nat) : Value := .pointer (some ⟨p, 0, none⟩)
theorem wtr_new {w : World} {p : Nat} (hb : Blk w p [.bool false, .pointer none, .slice none 0 0] 9999999) : (wtr p none (false, [])).holds w := ⟨Wr.new hb (Nat.zero_le _), rowAt_blk hb⟩
section
variable {p : Nat} {row : Option Nat} {st : Bool × List UInt8} {w : World}
theorem wtr_post {st' : Bool × List UInt8} {w' : World} {v : Value} {e : Ending} (h : (wtr p row st).holds w) (he : e = .returned v) (h1 : Wr 0 w' p st'.1 st'.2) (h2 : WMod 0 p w w') : Turns (wtr p row st) (fun _ => v) (fun row' => wtr p row' st') w e w' := by
  refine ⟨rowAt w' p, he, ⟨h1, rfl⟩, ⟨h2.os, h2.tape, h2.output, h2.size, fun k hk hn => h2.prec k hk (fun e => hn (by simp [wtr, e])) (fun e => hn (by rw [h.2] at e; simp [wtr, e]))⟩, fun n hn => ?_⟩
  simp only [wtr, List.mem_cons, Option.mem_toList] at hn ⊢
  rcases hn with rfl | hn
  · exact .inl (.inl rfl)
  · rcases h2.row with h3 | h3
    · rw [h3, h.2] at hn; exact .inl (.inr hn)
    · exact .inr (h3 n hn)
end
end Go.Proofs.Ytllhoadbocnldaa
