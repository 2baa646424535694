/- Regions that draw their order, in the walk over what is known of memory. Plain laws over the model; no function of the program. -/
import Derived.Test.YtllhoadbocnldaaSepOps
set_option linter.unusedVariables false
set_option linter.unusedSimpArgs false
namespace Go.Proofs.Ytllhoadbocnldaa
open Go.RowKit

/-- Things, as one. -/
def sepRes (w0 : World) (S : List Nat) (rs : List Res) : Res where
  foot := rs.flatMap (·.foot)
  holds := fun w => (∀ r ∈ rs, r.holds w) ∧ (∀ r ∈ rs, ∀ n ∈ r.foot, n < w0.heap.size → n ∈ S) ∧ rs.Pairwise (fun (r r' : Res) => ∀ n : Nat, n ∈ r.foot → n ∉ r'.foot)
  loc := fun w w' h hr => ⟨fun r hm => r.loc w w' (fun n hn => h n (List.mem_flatMap.2 ⟨r, hm, hn⟩)) (hr.1 r hm), hr.2⟩
  ex := fun w hr n hn => by obtain ⟨r, hm, hn⟩ := List.mem_flatMap.1 hn; exact r.ex w (hr.1 r hm) n hn
abbrev GL := List (Nat × List Value × TypeId)
def ghOf (gl : GL) : Gh := fun n => (gl.find? (·.1 == n)).map (·.2)
theorem ghOf_cons (n : Nat) (x : List Value × TypeId) (gl : GL) : ghOf ((n, x) :: gl) = (ghOf gl).put n x := by
  funext k
  simp only [ghOf, Gh.put, List.find?_cons]
  by_cases h : k = n
  · subst h; simp
  · have : (n == k) = false := by simpa using fun e => h e.symm
    simp [this, h]
theorem ghOf_none {gl : GL} {n : Nat} : ghOf gl n = none ↔ n ∉ gl.map (·.1) := by
  simp only [ghOf, Option.map_eq_none_iff, List.find?_eq_none, List.mem_map, not_exists, not_and]
  constructor
  · rintro h x hx rfl; simpa using h x hx
  · intro h x hx e; exact h x hx (by simpa using e)
theorem ghOf_get {gl : GL} (hnd : (gl.map (·.1)).Nodup) {k n : Nat} {x : List Value × TypeId} (hk : gl[k]? = some (n, x)) : ghOf gl n = some x := by
  induction gl generalizing k with
  | nil => cases hk
  | cons y gl ih =>
    obtain ⟨m, z⟩ := y
    rw [List.map_cons, List.nodup_cons] at hnd
    rw [ghOf_cons]
    cases k with
    | zero => simp at hk; obtain ⟨rfl, rfl⟩ := hk; exact Gh.put_same _ _ _
    | succ k =>
      simp at hk
      have hm : n ∈ gl.map (·.1) := List.mem_map.2 ⟨_, List.mem_of_getElem? hk, rfl⟩
      rw [Gh.put_ne _ (by rintro rfl; exact hnd.1 hm)]
      exact ih hnd.2 hk
theorem ghOf_set {gl : GL} (hnd : (gl.map (·.1)).Nodup) {k n : Nat} {x : List Value × TypeId} (hk : gl[k]? = some (n, x)) (y : List Value × TypeId) : ghOf (gl.set k (n, y)) = (ghOf gl).put n y := by
  induction gl generalizing k with
  | nil => cases hk
  | cons z gl ih =>
    obtain ⟨m, z⟩ := z
    rw [List.map_cons, List.nodup_cons] at hnd
    cases k with
    | zero =>
      simp at hk; obtain ⟨rfl, rfl⟩ := hk
      rw [List.set_cons_zero, ghOf_cons, ghOf_cons]
      funext q; simp only [Gh.put]; split <;> rfl
    | succ k =>
      simp at hk
      have hm : n ∈ gl.map (·.1) := List.mem_map.2 ⟨_, List.mem_of_getElem? hk, rfl⟩
      rw [List.set_cons_succ, ghOf_cons, ghOf_cons, ih hnd.2 hk, Gh.put_comm]
      rintro rfl; exact hnd.1 hm
theorem keys_set {gl : GL} {k n : Nat} {x : List Value × TypeId} (hk : gl[k]? = some (n, x)) (y : List Value × TypeId) : (gl.set k (n, y)).map (·.1) = gl.map (·.1) := by
  obtain ⟨hlt, he⟩ := List.getElem?_eq_some_iff.1 hk
  apply List.ext_getElem?
  intro j
  simp only [List.getElem?_map, List.getElem?_set]
  by_cases h : k = j
  · subst h; simp [hlt, he]
  · simp [h]
def blks (gl : GL) : List Res := gl.map fun x => blk x.1 x.2.1 x.2.2

section
/-- What stays throughout a region: things that no operation turns; and, of blocks that are turned, cells that are not. -/
abbrev St := List Res × List (Nat × List (Nat × Value))
def Cls (w0 : World) (S : List Nat) (st : St) (w : World) : Prop := Sep w0 S st.1 w ∧ ∀ x ∈ st.2, ∀ c ∈ x.2, w.cell? ⟨x.1, c.1, none⟩ = some c.2
variable {P : Program} {w0 : World} {S : List Nat} {Q : SP} {rs : List Res} {rsS : St} {ops : Array Oper} {B : Nat}
theorem Cls.garb {w w' : World} (h : Cls w0 S rsS w) (hm : Mod [] w w') : Cls w0 S rsS w' := ⟨h.1.garb hm, fun x hx c hc => hm.cell (h.2 x hx c hc) (by simp)⟩
theorem Cls.shut (hB : w0.heap.size ≤ B) (hf : ∀ r ∈ rsS.1, ∀ n ∈ r.foot, n < B) (hx : ∀ x ∈ rsS.2, x.1 < B) : Shut B (Cls w0 S rsS) := fun w w' h hb =>
  ⟨⟨⟨hb.os.trans h.1.mod.os, hb.tape.trans h.1.mod.tape, hb.output.trans h.1.mod.output, Nat.le_trans h.1.mod.size hb.size, fun k hk hn => (hb.block k (by omega)).trans (h.1.mod.block k hk hn)⟩,
    fun r hr => r.loc w w' (fun n hn => hb.block n (hf r hr n hn)) (h.1.all r hr), h.1.old, h.1.dis⟩, fun x hx' c hc => (World.cell?_of_block (hb.block _ (hx x hx'))).trans (h.2 x hx' c hc)⟩
def finKT (w0 : World) (S : List Nat) (Q : SP) : KT := fun a g R => ∃ gl rs, g = ghOf gl ∧ R = sepRes w0 S rs ∧ (gl.map (·.1)).Nodup ∧ Q .normal a (blks gl ++ rs)
/-- The walk through a region in one order: what the region made itself (gl), and the things (rs); rsS: those that stay. -/
def ordS (P : Program) (w0 : World) (S : List Nat) (Q : SP) (rsS : St) (B : Nat) (ops : Array Oper) (ord : List Nat) (l : List Value) (ds : List Deferred) (gl : GL) (rs : List Res) : Prop :=
  (gl.map (·.1)).Nodup → (∃ w, Cls w0 S rsS w) → wpOrd P B (Cls w0 S rsS) ops (finKT w0 S Q) ord ⟨l.toArray, ds⟩ (ghOf gl) (sepRes w0 S rs)
theorem sep_of_RW {gl : GL} {w : World} (hB : w0.heap.size ≤ B) (hnd : (gl.map (·.1)).Nodup) (h : RW B (Cls w0 S rsS) (sepRes w0 S rs) (ghOf gl) w) : Sep w0 S (blks gl ++ rs) w := by
  refine ⟨h.c.1.mod, fun r hr => ?_, fun r hr n hn hlt => ?_, ?_⟩
  · rcases List.mem_append.1 hr with hr | hr
    · obtain ⟨x, hx, rfl⟩ := List.mem_map.1 hr
      obtain ⟨k, hk⟩ := List.getElem?_of_mem hx
      exact h.mem _ _ _ (ghOf_get hnd (k := k) (n := x.1) (x := x.2) hk)
    · exact h.r.1 r hr
  · rcases List.mem_append.1 hr with hr | hr
    · obtain ⟨x, hx, rfl⟩ := List.mem_map.1 hr
      simp [blk] at hn
      subst hn
      obtain ⟨k, hk⟩ := List.getElem?_of_mem hx
      have := h.low x.1 (by omega)
      rw [ghOf_get hnd (k := k) (n := x.1) (x := x.2) hk] at this
      cases this
    · exact h.r.2.1 r hr n hn hlt
  · rw [List.pairwise_append]
    refine ⟨?_, h.r.2.2, fun r hr r' hr' n hn hn' => ?_⟩
    · rw [blks, List.pairwise_map]
      refine (List.pairwise_map.1 hnd).imp ?_
      rintro x y hxy n hn hn'
      simp [blk] at hn hn'
      exact hxy (hn.symm.trans hn')
    · obtain ⟨x, hx, rfl⟩ := List.mem_map.1 hr
      simp [blk] at hn
      subst hn
      obtain ⟨k, hk⟩ := List.getElem?_of_mem hx
      have := h.dis x.1 (List.mem_flatMap.2 ⟨r', hr', hn'⟩)
      rw [ghOf_get hnd (k := k) (n := x.1) (x := x.2) hk] at this
      cases this
/-- **A region that draws its order.** 'ord': the order in which it is walked; 'rsS': those of the things that no operation in it turns. -/
theorem wpS_draw {id : Nat} {ol : List Oper} {l : List Value} {ds : List Deferred} (ord : List Nat) (rsS : St) (hsub : rsS.1.Sublist rs) (hxs : ∀ x ∈ rsS.2, ∃ cs t, blk x.1 cs t ∈ rs ∧ ∀ c ∈ x.2, cs[c.1]? = some c.2) (hm : P.follows .mixedOrders = true) (hB : Region.ordB .any ol ord = true)
    (h : ∀ B, w0.heap.size ≤ B → (∀ r ∈ rs, ∀ n ∈ r.foot, n < B) → ordS P w0 S Q rsS B ol.toArray ord l ds [] rs) : wpS P w0 S (.region id ol.toArray true) Q ⟨l.toArray, ds⟩ rs := by
  intro w hw
  have hlt : ∀ r ∈ rs, ∀ n ∈ r.foot, n < w.heap.size := fun r hr n hn => r.ex w (hw.all r hr) n hn
  have hwd : Sep w0 S rs w.drew := hw.garb ((Mod.refl _ _).drew)
  have hcw : ∀ w, Sep w0 S rs w → Cls w0 S rsS w := fun w hw => ⟨hw.sub hsub, fun x hx c hc => by
    obtain ⟨cs, t, hm, hv⟩ := hxs x hx
    have hb : Blk w x.1 cs t := hw.all _ hm
    rw [hb.cell]
    simpa using hv c hc⟩
  have hrun := h w.heap.size hw.mod.size hlt List.nodup_nil ⟨w, hcw w hw⟩
  have hsh : Shut w.heap.size (Cls w0 S rsS) := Cls.shut hw.mod.size (fun r hr => hlt r (hsub.subset hr)) (fun x hx => by
    obtain ⟨cs, t, hm, _⟩ := hxs x hx
    exact hlt _ hm x.1 (by simp [blk]))
  refine Code.wp_mono ?_ (wp_region_ord (Q := fun e a w' => e = .normal ∧ ∃ g R, RW w.heap.size (Cls w0 S rsS) R g w' ∧ finKT w0 S Q a g R) ord (sepRes w0 S rs) hm hB (Nat.le_refl _) hsh (hcw _ hwd) ⟨hwd.all, hwd.old, hwd.dis⟩ ?_)
  · rintro e a w' ⟨rfl, g, R, hrw, gl, rs', rfl, rfl, hnd, hq⟩
    exact ⟨_, sep_of_RW hw.mod.size hnd hrw, hq⟩
  · have key : ∀ (ord : List Nat) (a : Act) (g : Gh) (R : Res) (I : ∃ w, Cls w0 S rsS w), wpOrd P w.heap.size (Cls w0 S rsS) ol.toArray (finKT w0 S Q) ord a g R →
        wpOrd P w.heap.size (Cls w0 S rsS) ol.toArray (fun a g R => ∀ w_1, RW w.heap.size (Cls w0 S rsS) R g w_1 → Exit.normal = Exit.normal ∧ ∃ g R, RW w.heap.size (Cls w0 S rsS) R g w_1 ∧ finKT w0 S Q a g R) ord a g R := by
      intro ord
      induction ord with
      | nil => intro a g R _ hf w1 hrw; exact ⟨rfl, g, R, hrw, hf⟩
      | cons i rest ih =>
        rintro a g R I ⟨o, ho, hop⟩
        exact ⟨o, ho, opT_mono' (fun a g R hk => ih a g R I hk) hop⟩
    have e : ghOf [] = fun _ => none := rfl
    rw [e] at hrun
    exact key ord _ _ _ ⟨w, hcw w hw⟩ hrun

theorem wpS_drawT {id : Nat} {ol : List Oper} {l : List Value} {ds : List Deferred} {ord : List Nat} (hord : List.range' 0 ol.length = ord) (hm : P.follows .mixedOrders = true) (hB : Region.ordB .any ol ord = true)
    (h : ∀ B, w0.heap.size ≤ B → (∀ r ∈ rs, ∀ n ∈ r.foot, n < B) → ordS P w0 S Q (rs, []) B ol.toArray ord l ds [] rs) : wpS P w0 S (.region id ol.toArray true) Q ⟨l.toArray, ds⟩ rs :=
  wpS_draw ord (rs, []) (List.Sublist.refl _) (by simp) hm hB h
theorem isDraw {id : Nat} {ol : List Oper} {a : Act} (h : wpS P w0 S (.region id ol.toArray true) Q a rs) : wpS P w0 S (.region id ol.toArray true) Q a rs := h
theorem isOrd {ord : List Nat} {ol : List Oper} {l : List Value} {ds : List Deferred} {gl : GL} (h : ordS P w0 S Q rsS B ol.toArray ord l ds gl rs) : ordS P w0 S Q rsS B ol.toArray ord l ds gl rs := h

section steps
variable {l l' : List Value} {ds : List Deferred} {gl gl' : GL} {i : Nat} {rest : List Nat} {o : Oper} {d : Tmp} {ol : List Oper}
theorem lookL (h : ol[i]? = some o) : ol.toArray[i]? = some o := by simpa using h
theorem ordS_nil (h : Q .normal ⟨l.toArray, ds⟩ (blks gl ++ rs)) : ordS P w0 S Q rsS B ol.toArray [] l ds gl rs := fun hnd _ => ⟨gl, rs, rfl, rfl, hnd, h⟩
theorem ordS_no (ho : ol[i]? = some o) (hw : Region.wanted o (yielded ol.toArray l.toArray) = false) (hd : o.dst = some d) (hl : l.set d undef = l') (h : ordS P w0 S Q rsS B ol.toArray rest l' ds gl rs) : ordS P w0 S Q rsS B ol.toArray (i :: rest) l ds gl rs :=
  fun hnd hi => ord_no (lookL ho) hw (by rw [hd, put_some hl]; exact h hnd hi)
theorem ordS_v {v : Value} (ho : ol[i]? = some o) (hw : Region.wanted o (yielded ol.toArray l.toArray) = true) (ha : isAct o = false) (hn : isNew o = false) (hgt : isGet o = false) (hd : o.dst = some d) (hv : OpVal P w0 S rsS.1 l ds o v) (hl : l.set d v = l')
    (h : ordS P w0 S Q rsS B ol.toArray rest l' ds gl rs) : ordS P w0 S Q rsS B ol.toArray (i :: rest) l ds gl rs := fun hnd hi => by
  obtain ⟨w1, hw1⟩ := hi
  exact ord_val hw1 (lookL ho) hw ha hn hgt (fun w hC => hv w hC.1) (by rw [hd, put_some hl]; exact h hnd ⟨w1, hw1⟩)
theorem ordS_guard {g : Nat} {want : Bool} {t : Tmp} {b : Bool} (ho : ol[i]? = some o) (hg : o.guard = some (g, want)) (ht : (ol[g]?).bind (·.dst) = some t) (hb' : opnd l (.tmp t) = some (.bool b))
    (h1 : ∀ l', l.set t (.bool true) = l' → b = true → ordS P w0 S Q rsS B ol.toArray (i :: rest) l' ds gl rs) (h2 : ∀ l', l.set t (.bool false) = l' → b = false → ordS P w0 S Q rsS B ol.toArray (i :: rest) l' ds gl rs) : ordS P w0 S Q rsS B ol.toArray (i :: rest) l ds gl rs := by
  have hb : l[t]? = some (.bool b) := by simpa only [opnd] using hb'
  obtain ⟨hlt, he⟩ := List.getElem?_eq_some_iff.1 hb
  cases b with
  | true => have := h1 _ rfl rfl; rwa [← he, List.set_getElem_self] at this
  | false => have := h2 _ rfl rfl; rwa [← he, List.set_getElem_self] at this
theorem ordS_new {mk : Nat → Value} {cs : List Value} {t : TypeId} (ho : ol[i]? = some o) (hw : Region.wanted o (yielded ol.toArray l.toArray) = true) (ha : isAct o = false) (hn : isNew o = true) (hd : o.dst = some d)
    (hv : ∀ w, (execOp (Act.eval ⟨l.toArray, ds⟩) o).run P w = .ok (.value (mk w.heap.size)) (w.alloc (.cells cs.toArray t)))
    (h : ∀ n l', l.set d (mk n) = l' → ordS P w0 S Q rsS B ol.toArray rest l' ds ((n, cs, t) :: gl) rs) : ordS P w0 S Q rsS B ol.toArray (i :: rest) l ds gl rs := fun hnd hi =>
  ord_new w0 (lookL ho) hw ha hn mk cs t hv (fun n _ hg => by
    rw [hd, put_some rfl, ← ghOf_cons]
    exact h n _ rfl (by rw [List.map_cons, List.nodup_cons]; exact ⟨ghOf_none.1 hg, hnd⟩) hi)
theorem ordS_alloc {T : TypeId} {ty : TypeId} {pos : String} {aft : Array Edge} {gd : Option (Nat × Bool)} {cs : List Value} (ho : ol[i]? = some ⟨some d, .alloc T, ty, pos, aft, gd⟩) (hw : Region.wanted ⟨some d, .alloc T, ty, pos, aft, gd⟩ (yielded ol.toArray l.toArray) = true)
    (hz : ∀ w, (execOp (Act.eval ⟨l.toArray, ds⟩) ⟨some d, .alloc T, ty, pos, aft, gd⟩).run P w = .ok (.value (.pointer (some ⟨w.heap.size, 0, none⟩))) (w.alloc (.cells cs.toArray T)))
    (h : ∀ n l', l.set d (.pointer (some ⟨n, 0, none⟩)) = l' → ordS P w0 S Q rsS B ol.toArray rest l' ds ((n, cs, T) :: gl) rs) : ordS P w0 S Q rsS B ol.toArray (i :: rest) l ds gl rs :=
  ordS_new (mk := fun n => .pointer (some ⟨n, 0, none⟩)) ho hw rfl rfl rfl hz h
theorem ordS_box {T : TypeId} {x : Operand} {vx : Value} {ty : TypeId} {pos : String} {aft : Array Edge} {gd : Option (Nat × Bool)} {cs : List Value} (ho : ol[i]? = some ⟨some d, .box T x, ty, pos, aft, gd⟩) (hw : Region.wanted ⟨some d, .box T x, ty, pos, aft, gd⟩ (yielded ol.toArray l.toArray) = true)
    (hx : opnd l x = some vx) (hc : vx.cells.toList = cs)
    (h : ∀ n l', l.set d (.pointer (some ⟨n, 0, none⟩)) = l' → ordS P w0 S Q rsS B ol.toArray rest l' ds ((n, cs, T) :: gl) rs) : ordS P w0 S Q rsS B ol.toArray (i :: rest) l ds gl rs :=
  ordS_new (mk := fun n => .pointer (some ⟨n, 0, none⟩)) ho hw rfl rfl rfl (fun w => by
    subst hc
    simp only [execOp, opnd_eval hx, Sem.run_bind, Instr.box, newVar, newRow, run_newObj_alloc, Sem.run_pure, Result.andThen_ok, Array.toArray_toList]) h
theorem ordS_call {f : FuncId} {vs : List Value} (ho : ol[i]? = some o) (hw : Region.wanted o (yielded ol.toArray l.toArray) = true) (ha : isAct o = true) (hd : o.dst = some d) (Φ : Value → List Res → Prop)
    (he : ∀ w, (execOp (Act.eval ⟨l.toArray, ds⟩) o).run P w = .ok (.enter f vs.toArray) w)
    (hc : ∀ w, Cls w0 S rsS w → Sep w0 S rs w → (∀ n l t, (n, l, t) ∈ gl → Blk w n l t) → Calls P f vs.toArray w (fun e w' => ∃ v rs', e = .returned v ∧ Φ v rs' ∧ Cls w0 S rsS w' ∧ Sep w0 S rs' w' ∧ Kp B (sepRes w0 S rs).foot (sepRes w0 S rs').foot w w'))
    (h : ∀ v rs' l', l.set d v = l' → Φ v rs' → ordS P w0 S Q rsS B ol.toArray rest l' ds gl rs') : ordS P w0 S Q rsS B ol.toArray (i :: rest) l ds gl rs := fun hnd hi =>
  ord_call (lookL ho) hw ha (fun v r => ∃ rs', r = sepRes w0 S rs' ∧ Φ v rs') he
    (fun w hC hR hG => (hc w hC ⟨hC.1.mod, hR.1, hR.2.1, hR.2.2⟩ (fun n l t hm => hG n l t (by obtain ⟨k, hk⟩ := List.getElem?_of_mem hm; exact ghOf_get hnd hk))).mono fun e w' ⟨v, rs', he, hv, h1, h2, h3⟩ => ⟨v, _, he, ⟨rs', rfl, hv⟩, h1, ⟨h2.all, h2.old, h2.dis⟩, h3⟩)
    (fun v r ⟨rs', hr, hv⟩ => by subst hr; rw [hd, put_some rfl]; exact h v rs' _ rfl hv hnd hi)
/-- A call whose answer is known, and that turns nothing. -/
theorem ordS_call0 {f : FuncId} {xs : List Operand} {ts : Array TypeId} {vs : List Value} {v : Value} (ho : ol[i]? = some o) (hop : o.op = .call { callee := .value (.func f), args := xs.toArray, argTypes := ts }) (hx : opnds l xs = some vs) (hw : Region.wanted o (yielded ol.toArray l.toArray) = true) (ha : isAct o = true) (hd : o.dst = some d)
    (he : ∀ w, (execOp (Act.eval ⟨l.toArray, ds⟩) o).run P w = .ok (.enter f vs.toArray) w)
    (hc : ∀ w, Sep w0 S rs w → (∀ n l t, (n, l, t) ∈ gl → Blk w n l t) → Calls P f vs.toArray w (fun e w' => e = .returned v ∧ Mod [] w w')) (hl : l.set d v = l')
    (h : ordS P w0 S Q rsS B ol.toArray rest l' ds gl rs) : ordS P w0 S Q rsS B ol.toArray (i :: rest) l ds gl rs :=
  ordS_call ho hw ha hd (fun u q => u = v ∧ q = rs) he (fun w h1 h2 hg => (hc w h2 hg).mono fun e w' ⟨he, hm⟩ => ⟨v, _, he, ⟨rfl, rfl⟩, h1.garb hm, h2.garb hm, Kp.of_mod hm (by simp) (fun n hn => .inl hn)⟩)
    (fun u q l2 hl2 ⟨hu, hq⟩ => by subst hu; subst hq; rw [hl] at hl2; subst hl2; exact h)
/-- A store of a struct, or of a cell, into what the region made. -/
theorem ordS_store1 {T : TypeId} {x y : Operand} {ty : TypeId} {pos : String} {aft : Array Edge} {gd : Option (Nat × Bool)} {n off : Nat} {v : Value} (k : Nat) {cs cs' : List Value} {t : TypeId} (ho : ol[i]? = some ⟨none, .store T x y, ty, pos, aft, gd⟩)
    (hw : Region.wanted ⟨none, .store T x y, ty, pos, aft, gd⟩ (yielded ol.toArray l.toArray) = true) (hx : opnd l x = some (.pointer (some ⟨n, off, none⟩))) (hy : opnd l y = some v) (hk : gl[k]? = some (n, cs, t)) (hz : ∀ w, (sizeOf T).run P w = .ok 1 w) (h1 : v.oneCell' = true)
    (hlt : off < cs.length) (hc : cs.set off v = cs') (hg : gl.set k (n, cs', t) = gl') (h : ordS P w0 S Q rsS B ol.toArray rest l ds gl' rs) : ordS P w0 S Q rsS B ol.toArray (i :: rest) l ds gl rs := fun hnd hi => by
  subst hc; subst hg
  refine ord_put (lookL ho) hw rfl rfl n cs t (cs.set off v) (ghOf_get hnd hk) (fun w hb => ⟨w.setCell ⟨n, off, none⟩ v, .inr ?_, ⟨rfl, rfl, rfl, by simp, fun j hj => Below.heap_setCell _ _ _ _ hj⟩, hb.set off v⟩) ?_
  · simp only [execOp, opnd_eval hx, opnd_eval hy, Sem.run_bind, run_store1 hz h1 (show w.cell? ⟨n, off, none⟩ = some cs[off] by rw [hb.cell]; simp [hlt]) (hb.free off)]
    rfl
  · rw [← ghOf_set hnd hk]
    exact h (by rw [keys_set hk]; exact hnd) hi
theorem ordS_storeN {T : TypeId} {x y : Operand} {ty : TypeId} {pos : String} {aft : Array Edge} {gd : Option (Nat × Bool)} {n off : Nat} {vs : List Value} (k : Nat) {cs cs' : List Value} {t : TypeId} (ho : ol[i]? = some ⟨none, .store T x y, ty, pos, aft, gd⟩)
    (hw : Region.wanted ⟨none, .store T x y, ty, pos, aft, gd⟩ (yielded ol.toArray l.toArray) = true) (hx : opnd l x = some (.pointer (some ⟨n, off, none⟩))) (hy : opnd l y = some (.agg vs.toArray)) (hk : gl[k]? = some (n, cs, t)) (hz : ∀ w, (sizeOf T).run P w = .ok vs.length w) (h1 : vs.all (·.oneCell') = true)
    (hlt : off + vs.length ≤ cs.length) (hc : cs.take off ++ vs ++ cs.drop (off + vs.length) = cs') (hg : gl.set k (n, cs', t) = gl') (h : ordS P w0 S Q rsS B ol.toArray rest l ds gl' rs) : ordS P w0 S Q rsS B ol.toArray (i :: rest) l ds gl rs := fun hnd hi => by
  subst hc; subst hg
  refine ord_put (lookL ho) hw rfl rfl n cs t _ (ghOf_get hnd hk) (fun w hb => ⟨w.setRow n (cs.take off ++ vs ++ cs.drop (off + vs.length)).toArray, .inr ?_, ⟨rfl, rfl, rfl, by simp, fun j hj => setRow_other w n j _ hj⟩, setRow_heap w n _ _ _ _ hb⟩) ?_
  · simp only [execOp, opnd_eval hx, opnd_eval hy, Sem.run_bind, run_storeN hz (by simpa using h1) hb hlt]
    rfl
  · rw [← ghOf_set hnd hk]
    exact h (by rw [keys_set hk]; exact hnd) hi
end steps
end

/-! ### Loops -/
/-- The frame l, but for the slots that are marked: these read as u says. -/
def mask (u : Nat → Value) : Nat → List Bool → List Value → List Value
  | i, true :: fs, _ :: xs => u i :: mask u (i + 1) fs xs
  | i, false :: fs, x :: xs => x :: mask u (i + 1) fs xs
  | _, _, xs => xs
theorem mask_t (u : Nat → Value) (i : Nat) (fs : List Bool) (x : Value) (xs : List Value) : mask u i (true :: fs) (x :: xs) = u i :: mask u (i + 1) fs xs := rfl
theorem mask_f (u : Nat → Value) (i : Nat) (fs : List Bool) (x : Value) (xs : List Value) : mask u i (false :: fs) (x :: xs) = x :: mask u (i + 1) fs xs := rfl
theorem mask_n (u : Nat → Value) (i : Nat) (xs : List Value) : mask u i [] xs = xs := by cases xs <;> rfl
theorem mask_self (l : List Value) : ∀ (fs : List Bool) (xs : List Value) (i : Nat), (∀ j, l.getD (i + j) undef = xs.getD j undef ∨ xs.length ≤ j) → mask (fun j => l.getD j undef) i fs xs = xs
  | [], xs, i, _ => mask_n _ _ _
  | f :: fs, [], i, _ => by cases f <;> rfl
  | f :: fs, x :: xs, i, h => by
    have h0 : l.getD i undef = x := by
      rcases h 0 with h0 | h0
      · simpa using h0
      · simp at h0
    have ih := mask_self l fs xs (i + 1) (fun j => by
      rcases h (j + 1) with h1 | h1
      · left; rw [show i + 1 + j = i + (j + 1) from by omega]; simpa using h1
      · right; simpa using h1)
    cases f
    · rw [mask_f, ih]
    · rw [mask_t, ih, h0]
section
variable {P : Program} {w0 : World} {S : List Nat} {Q : SP} {rs : List Res}
theorem wpS_loopU {c : Code} {l : List Value} {ds : List Deferred} (fs : List Bool) (R : (Nat → Value) → List Res → Prop) (μ : (Nat → Value) → Nat) (h0 : R (fun i => l.getD i undef) rs)
    (round : ∀ u rs' l' (K : Act → List Res → Prop), (∀ l2 rs'' rsb, mask (fun i => l2.getD i undef) 0 fs l = l2 → R (fun i => l2.getD i undef) rs'' → rs''.Sublist rsb → μ (fun i => l2.getD i undef) < μ u → K ⟨l2.toArray, ds⟩ rsb) → mask u 0 fs l = l' → R u rs' →
      wpS P w0 S c (thenS K Q) ⟨l'.toArray, ds⟩ rs') :
    wpS P w0 S (.loop c) Q ⟨l.toArray, ds⟩ rs := by
  refine wpS_loop (fun a rs => ∃ l2 rs2, a = ⟨l2.toArray, ds⟩ ∧ mask (fun i => l2.getD i undef) 0 fs l = l2 ∧ R (fun i => l2.getD i undef) rs2 ∧ rs2.Sublist rs) (fun a => μ (fun i => a.tmps.toList.getD i undef))
    ⟨l, rs, rfl, mask_self l fs l 0 (fun j => by left; rw [Nat.zero_add]), h0, List.Sublist.refl _⟩ ?_
  rintro a rs' ⟨l1, rs1, rfl, hm, hR, hsb⟩
  refine wpS_weaken (fun w h => h.sub hsb) ?_
  exact round _ rs1 l1 (fun a' rs' => (∃ l2 rs2, a' = ⟨l2.toArray, ds⟩ ∧ mask (fun i => l2.getD i undef) 0 fs l = l2 ∧ R (fun i => l2.getD i undef) rs2 ∧ rs2.Sublist rs') ∧ μ (fun i => a'.tmps.toList.getD i undef) < μ (fun i => (⟨l1.toArray, ds⟩ : Act).tmps.toList.getD i undef))
    (fun l2 rs'' rsb h2 h3 h4 h5 => ⟨⟨l2, rs'', rfl, h2, h3, h4⟩, by simpa using h5⟩) hm hR
/-- A piece of code, behind which only some slots are known. -/
theorem wpS_cutU {c : Code} {l : List Value} {ds : List Deferred} {K0 : Act → List Res → Prop} {y : Code} (fs : List Bool) (R : (Nat → Value) → List Res → Prop)
    (hk : ∀ a rs, wpS P w0 S y Q a rs → K0 a rs)
    (hc : ∀ K : Act → List Res → Prop, (∀ l2 rs'' rsb, mask (fun i => l2.getD i undef) 0 fs l = l2 → R (fun i => l2.getD i undef) rs'' → rs''.Sublist rsb → K ⟨l2.toArray, ds⟩ rsb) → wpS P w0 S c (thenS K Q) ⟨l.toArray, ds⟩ rs)
    (hn : ∀ u rs' l', mask u 0 fs l = l' → R u rs' → wpS P w0 S y Q ⟨l'.toArray, ds⟩ rs') : wpS P w0 S c (thenS K0 Q) ⟨l.toArray, ds⟩ rs := by
  refine wpS_mono ?_ (hc (fun a rs' => ∃ l2 rs2, a = ⟨l2.toArray, ds⟩ ∧ mask (fun i => l2.getD i undef) 0 fs l = l2 ∧ R (fun i => l2.getD i undef) rs2 ∧ rs2.Sublist rs') (fun l2 rs'' rsb h1 h2 h3 => ⟨l2, rs'', rfl, h1, h2, h3⟩))
  intro e a rs' h
  cases e with
  | normal => obtain ⟨l2, rs2, rfl, h1, h2, h3⟩ := h; exact hk _ _ (wpS_weaken (fun w h => h.sub h3) (hn _ _ _ h1 h2))
  | _ => exact h
theorem isLoop {c : Code} {a : Act} (h : wpS P w0 S (.loop c) Q a rs) : wpS P w0 S (.loop c) Q a rs := h
end
end Go.Proofs.Ytllhoadbocnldaa
