/- A walk over what is known of memory, in place of over one world: a frame, and a list of things that hold of blocks apart from one another. Plain laws over the model; no function of the program. -/
import Derived.Test.YtllhoadbocnldaaRegion
set_option linter.unusedVariables false
set_option linter.unusedSimpArgs false
namespace Go.Proofs.Ytllhoadbocnldaa
open Go.RowKit

/-! ### What holds of some blocks -/
/-- Block n is known whole. -/
def blk (n : Nat) (l : List Value) (t : TypeId) : Res where
  foot := [n]
  holds := fun w => Blk w n l t
  loc := fun w w' h hb => by unfold Blk at *; rw [h n (by simp)]; exact hb
  ex := fun w h k hk => by simp at hk; subst hk; exact Blk.lt h
structure Sep (w0 : World) (S : List Nat) (rs : List Res) (w : World) : Prop where
  mod : Mod S w0 w
  all : ∀ r ∈ rs, r.holds w
  old : ∀ r ∈ rs, ∀ n ∈ r.foot, n < w0.heap.size → n ∈ S
  dis : rs.Pairwise fun r r' => ∀ n ∈ r.foot, n ∉ r'.foot
section
variable {w0 w w' : World} {S : List Nat} {rs : List Res}
theorem Sep.start (w0 : World) (S : List Nat) : Sep w0 S [] w0 := ⟨Mod.refl _ _, by simp, by simp, List.Pairwise.nil⟩
theorem Sep.one {r : Res} (h : r.holds w0) (hs : ∀ n ∈ r.foot, n ∈ S) : Sep w0 S [r] w0 := ⟨Mod.refl _ _, by simpa using h, by simpa using fun n hn _ => hs n hn, by simp⟩
theorem Sep.garb (h : Sep w0 S rs w) (hm : Mod [] w w') : Sep w0 S rs w' :=
  ⟨h.mod.trans hm (by simp), fun r hr => r.loc w w' (fun n hn => hm.block n (r.ex w (h.all r hr) n hn) (by simp)) (h.all r hr), h.old, h.dis⟩
/-- Behind a change of one thing. -/
theorem Sep.upd {pre post : List Res} {r r' : Res} (h : Sep w0 S (pre ++ r :: post) w) (hm : Mod r.foot w w') (hr : r'.holds w') (hf : ∀ n ∈ r'.foot, n ∈ r.foot ∨ w.heap.size ≤ n) : Sep w0 S (pre ++ r' :: post) w' := by
  have hd := h.dis
  rw [List.pairwise_append] at hd
  obtain ⟨d1, d2, d3⟩ := hd
  rw [List.pairwise_cons] at d2
  obtain ⟨d4, d5⟩ := d2
  have hold : ∀ x ∈ r.foot, x < w0.heap.size → x ∈ S := h.old r (by simp)
  have keep : ∀ x ∈ pre ++ post, x.holds w' := fun x hx => by
    have hx' : x ∈ pre ++ r :: post := by simp at hx ⊢; rcases hx with hx | hx <;> simp [hx]
    refine x.loc w w' (fun n hn => hm.block n (x.ex w (h.all x hx') n hn) ?_) (h.all x hx')
    rcases List.mem_append.1 hx with hx | hx
    · exact d3 x hx r (by simp) n hn
    · exact fun hr => d4 x hx n hr hn
  refine ⟨h.mod.trans hm hold, fun x hx => ?_, fun x hx n hn hlt => ?_, ?_⟩
  · simp only [List.mem_append, List.mem_cons] at hx
    rcases hx with hx | rfl | hx
    · exact keep x (by simp [hx])
    · exact hr
    · exact keep x (by simp [hx])
  · simp only [List.mem_append, List.mem_cons] at hx
    rcases hx with hx | rfl | hx
    · exact h.old x (by simp [hx]) n hn hlt
    · rcases hf n hn with h1 | h1
      · exact hold n h1 hlt
      · exact absurd (Nat.lt_of_lt_of_le hlt h.mod.size) (by omega)
    · exact h.old x (by simp [hx]) n hn hlt
  · rw [List.pairwise_append]
    have ne : ∀ x ∈ pre ++ post, ∀ n ∈ r'.foot, n ∉ x.foot := fun x hx n hn hx' => by
      have hx2 : x ∈ pre ++ r :: post := by simp at hx ⊢; rcases hx with hx | hx <;> simp [hx]
      rcases hf n hn with h1 | h1
      · rcases List.mem_append.1 hx with hx | hx
        · exact d3 x hx r (by simp) n hx' h1
        · exact d4 x hx n h1 hx'
      · have := x.ex w (h.all x hx2) n hx'
        omega
    refine ⟨d1, ?_, fun x hx y hy => ?_⟩
    · rw [List.pairwise_cons]
      exact ⟨fun y hy n hn => ne y (by simp [hy]) n hn, d5⟩
    · rcases List.mem_cons.1 hy with rfl | hy
      · exact fun n hn hn' => ne x (by simp [hx]) n hn' hn
      · exact d3 x hx y (by simp [hy])
theorem Sep.add {r : Res} (h : Sep w0 S rs w) (hm : Mod [] w w') (hr : r.holds w') (hf : ∀ n ∈ r.foot, w.heap.size ≤ n) : Sep w0 S (r :: rs) w' := by
  have h' := h.garb hm
  refine ⟨h'.mod, ?_, ?_, ?_⟩
  · intro x hx
    rcases List.mem_cons.1 hx with rfl | hx
    · exact hr
    · exact h'.all x hx
  · intro x hx n hn hlt
    rcases List.mem_cons.1 hx with rfl | hx
    · have := hf n hn; have := h.mod.size; omega
    · exact h'.old x hx n hn hlt
  · rw [List.pairwise_cons]
    exact ⟨fun x hx n hn hx' => by have := hf n hn; have := x.ex w (h.all x hx) n hx'; omega, h'.dis⟩
theorem Sep.alloc (h : Sep w0 S rs w) (l : List Value) (t : TypeId) : Sep w0 S (blk w.heap.size l t :: rs) (w.alloc (.cells l.toArray t)) :=
  h.add ((Mod.refl _ _).alloc _) (Blk.new _ _ _) (by simp [blk])
theorem Sep.drop {r : Res} (h : Sep w0 S (r :: rs) w) : Sep w0 S rs w :=
  ⟨h.mod, fun x hx => h.all x (by simp [hx]), fun x hx => h.old x (by simp [hx]), (List.pairwise_cons.1 h.dis).2⟩
theorem Sep.sub {rs' : List Res} (h : Sep w0 S rs w) (hs : rs'.Sublist rs) : Sep w0 S rs' w :=
  ⟨h.mod, fun x hx => h.all x (hs.subset hx), fun x hx => h.old x (hs.subset hx), h.dis.sublist hs⟩
theorem Sep.at (h : Sep w0 S rs w) {k : Nat} {r : Res} (hk : rs[k]? = some r) : r.holds w := h.all r (List.mem_of_getElem? hk)
theorem Sep.isBlk (h : Sep w0 S rs w) {k n : Nat} {l : List Value} {t : TypeId} (hk : rs[k]? = some (blk n l t)) : Blk w n l t := h.at hk
theorem Sep.updk (h : Sep w0 S rs w) {k : Nat} {r r' : Res} (hk : rs[k]? = some r) (hm : Mod r.foot w w') (hr : r'.holds w') (hf : ∀ n ∈ r'.foot, n ∈ r.foot ∨ w.heap.size ≤ n) : Sep w0 S (rs.set k r') w' := by
  obtain ⟨hlt, he⟩ := List.getElem?_eq_some_iff.1 hk
  have e : rs = rs.take k ++ r :: rs.drop (k + 1) := by rw [← he, List.getElem_cons_drop, List.take_append_drop]
  have e2 : rs.set k r' = rs.take k ++ r' :: rs.drop (k + 1) := by rw [List.set_eq_take_append_cons_drop, if_pos hlt]
  rw [e2]
  rw [e] at h
  exact h.upd hm hr hf
theorem Sep.setBlk (h : Sep w0 S rs w) {k n o : Nat} {l : List Value} {t : TypeId} (hk : rs[k]? = some (blk n l t)) (v : Value) : Sep w0 S (rs.set k (blk n (l.set o v) t)) (w.setCell ⟨n, o, none⟩ v) :=
  h.updk hk ((Mod.refl _ _).setCell (fun _ => by simp [blk]) v) ((h.isBlk hk).set o v) (by simp [blk])
end

/-! ### The walk -/
abbrev SP := Exit → Act → List Res → Prop
section
variable {P : Program} {w0 : World} {S : List Nat} {Q : SP} {a : Act} {rs : List Res} {ops : Array Oper}
def lowS (w0 : World) (S : List Nat) (Q : SP) : Exit → Act → World → Prop := fun e a w => ∃ rs, Sep w0 S rs w ∧ Q e a rs
def wpS (P : Program) (w0 : World) (S : List Nat) (c : Code) (Q : SP) (a : Act) (rs : List Res) : Prop := ∀ w, Sep w0 S rs w → c.wp P (lowS w0 S Q) a w
/-- The end of a function. -/
def endS (P : Program) (w0 : World) (S : List Nat) (fn : Func) (R : Ending → World → Prop) : SP := fun e a rs => ∀ w, Sep w0 S rs w → bodyPost P fn R e a w
theorem enterS {f : FuncId} {fn : Func} {c : Code} {args : Array Value} {R : Ending → World → Prop} (rs : List Res) (hs : Sep w0 S rs w0) (hf : P.funcs[f]? = some fn) (hb : fn.body = some c)
    (h : wpS P w0 S c (endS P w0 S fn R) { tmps := args ++ Array.replicate (fn.ntmps - args.size) undef, defers := [] } rs) : Calls P f args w0 R :=
  calls_of_wp hf hb (Code.wp_mono (fun e a w ⟨rs, hs, hq⟩ => hq w hs) (h w0 hs))
theorem endS_ret {fn : Func} {R : Ending → World → Prop} {v : Value} (hr : ∀ w, Sep w0 S rs w → (results fn a.tmps).run P w = .ok v w) (hd : a.defers = []) (hR : ∀ w, Sep w0 S rs w → R (.returned v) w) : endS P w0 S fn R .ret a rs :=
  fun w hs => bodyPost_ret (hr w hs) hd (hR w hs)
theorem endS_end {fn : Func} {R : Ending → World → Prop} {v : Value} (hr : ∀ w, Sep w0 S rs w → (results fn a.tmps).run P w = .ok v w) (hd : a.defers = []) (hR : ∀ w, Sep w0 S rs w → R (.returned v) w) : endS P w0 S fn R .normal a rs :=
  fun w hs => bodyPost_end (hr w hs) hd (hR w hs)

def thenS (K : Act → List Res → Prop) (Q : SP) : SP
  | .normal, a, rs => K a rs
  | e, a, rs => Q e a rs
def blockS (id : Nat) (Q : SP) : SP
  | .exit id', a, rs => if id' = id then Q .normal a rs else Q (.exit id') a rs
  | e, a, rs => Q e a rs
theorem wpS_seq {x y : Code} (h : ∀ K : Act → List Res → Prop, (∀ a rs, wpS P w0 S y Q a rs → K a rs) → wpS P w0 S x (thenS K Q) a rs) : wpS P w0 S (.seq x y) Q a rs := by
  intro w hw
  refine wp_seq ?_
  refine Code.wp_mono ?_ (h _ (fun _ _ h => h) w hw)
  rintro e a w ⟨rs, hs, hq⟩
  cases e <;> first | exact hq w hs | exact ⟨rs, hs, hq⟩
theorem wpS_block {id : Nat} {c : Code} (h : wpS P w0 S c (blockS id Q) a rs) : wpS P w0 S (.block id c) Q a rs := by
  intro w hw
  refine wp_block ?_
  refine Code.wp_mono ?_ (h w hw)
  rintro e a w ⟨rs, hs, hq⟩
  cases e with
  | exit id' =>
    by_cases hid : id' = id
    · simp only [Exit.inBlock, hid, if_true]; simp only [blockS, hid, if_true] at hq; exact ⟨rs, hs, hq⟩
    · simp only [Exit.inBlock, hid, if_false]; simp only [blockS, hid, if_false] at hq; exact ⟨rs, hs, hq⟩
  | _ => exact ⟨rs, hs, hq⟩
theorem wpS_skip (h : Q .normal a rs) : wpS P w0 S .skip Q a rs := fun w hw => wp_skip ⟨rs, hw, h⟩
theorem wpS_ret (h : Q .ret a rs) : wpS P w0 S .ret Q a rs := fun w hw => wp_ret ⟨rs, hw, h⟩
theorem wpS_exit {id : Nat} (h : Q (.exit id) a rs) : wpS P w0 S (.exit id) Q a rs := fun w hw => wp_exit ⟨rs, hw, h⟩
/-- A slot's or a constant's value. -/
def opnd (l : List Value) : Operand → Option Value
  | .tmp t => l[t]?
  | .const v => some v
  | .func f => some (.func (.func f) #[] #[])
  | .global g => some (.pointer (some ⟨g, 0, none⟩))
theorem opnd_eval {l : List Value} {ds : List Deferred} {x : Operand} {v : Value} (h : opnd l x = some v) : Act.eval ⟨l.toArray, ds⟩ x = v := by
  cases x with
  | tmp t => simp only [opnd] at h; simp [Act.eval, h]
  | const u => simp only [opnd] at h; injection h with h
  | global g => simp only [opnd] at h; injection h with h
  | func f => simp only [opnd] at h; injection h with h
theorem wpS_cond {c : Operand} {x y : Code} {l : List Value} {ds : List Deferred} {t : Bool} (hc : opnd l c = some (.bool t)) (ht : t = true → wpS P w0 S x Q ⟨l.toArray, ds⟩ rs) (hf : t = false → wpS P w0 S y Q ⟨l.toArray, ds⟩ rs) :
    wpS P w0 S (.cond c x y) Q ⟨l.toArray, ds⟩ rs := fun w hw => wp_cond_split (opnd_eval hc) (fun h => ht h w hw) (fun h => hf h w hw)
theorem wpS_loop {c : Code} (I : Act → List Res → Prop) (μ : Act → Nat) (h0 : I a rs) (round : ∀ a rs, I a rs → wpS P w0 S c (thenS (fun a' rs' => I a' rs' ∧ μ a' < μ a) Q) a rs) : wpS P w0 S (.loop c) Q a rs := by
  intro w hw
  refine wp_loop (fun a w => ∃ rs, Sep w0 S rs w ∧ I a rs) (fun a _ => μ a) ⟨rs, hw, h0⟩ ?_
  rintro a w ⟨rs, hs, hI⟩
  refine Code.wp_mono ?_ (round a rs hI w hs)
  rintro e a' w' ⟨rs', hs', hq⟩
  cases e <;> first | exact ⟨⟨rs', hs', hq.1⟩, hq.2⟩ | exact ⟨rs', hs', hq⟩
theorem wpS_mono {c : Code} {Q' : SP} (h : ∀ e a rs, Q e a rs → Q' e a rs) (hh : wpS P w0 S c Q a rs) : wpS P w0 S c Q' a rs := fun w hw =>
  Code.wp_mono (fun e a w ⟨rs, hs, hq⟩ => ⟨rs, hs, h e a rs hq⟩) (hh w hw)
/-- Less, or in another order, serves too. -/
theorem wpS_weaken {c : Code} {rs' : List Res} (hs : ∀ w, Sep w0 S rs w → Sep w0 S rs' w) (h : wpS P w0 S c Q a rs') : wpS P w0 S c Q a rs := fun w hw => h w (hs w hw)

/-! ### A region -/
def seqS (P : Program) (w0 : World) (S : List Nat) (ops : Array Oper) (Q : SP) (l : List Oper) (a : Act) (rs : List Res) : Prop := ∀ w, Sep w0 S rs w → wpList P ops (lowS w0 S Q) l a w
theorem wpS_region {id : Nat} {l : List Oper} (h : seqS P w0 S l.toArray Q l a rs) : wpS P w0 S (.region id l.toArray false) Q a rs := fun w hw => wp_region_lit (h w hw)
theorem seqS_nil (h : Q .normal a rs) : seqS P w0 S ops Q [] a rs := fun w hw => ⟨rs, hw, h⟩
section steps
variable {l l' : List Value} {ds : List Deferred} {o : Oper} {rest : List Oper} {d : Tmp}
theorem put_some {v : Value} (hl : l.set d v = l') : Act.put ⟨l.toArray, ds⟩ (some d) v = ⟨l'.toArray, ds⟩ := by subst hl; simp [Act.put]
theorem seqS_no (hw : Region.wanted o (yielded ops l.toArray) = false) (hd : o.dst = some d) (hl : l.set d undef = l') (h : seqS P w0 S ops Q rest ⟨l'.toArray, ds⟩ rs) : seqS P w0 S ops Q (o :: rest) ⟨l.toArray, ds⟩ rs := fun w hs => by
  unfold wpList
  rw [if_neg (by simp [hw]), hd, put_some hl]
  exact h w hs
theorem seqS_no' (hw : Region.wanted o (yielded ops l.toArray) = false) (hd : o.dst = none) (h : seqS P w0 S ops Q rest ⟨l.toArray, ds⟩ rs) : seqS P w0 S ops Q (o :: rest) ⟨l.toArray, ds⟩ rs := fun w hs => by
  unfold wpList
  rw [if_neg (by simp [hw]), hd]
  exact h w hs
theorem seqS_val {v : Value} (hw : Region.wanted o (yielded ops l.toArray) = true) (hd : o.dst = some d) (hv : ∀ w, Sep w0 S rs w → (execOp (Act.eval ⟨l.toArray, ds⟩) o).run P w = .ok (.value v) w) (hl : l.set d v = l')
    (h : seqS P w0 S ops Q rest ⟨l'.toArray, ds⟩ rs) : seqS P w0 S ops Q (o :: rest) ⟨l.toArray, ds⟩ rs := fun w hs => by
  unfold wpList
  rw [if_pos hw]
  refine .inl ?_
  unfold Oper.wp
  rw [hv w hs]
  show wpList P ops (lowS w0 S Q) rest (Act.put ⟨l.toArray, ds⟩ o.dst v) w
  rw [hd, put_some hl]
  exact h w hs
theorem seqS_new {mk : Nat → Value} {cs : List Value} {t : TypeId} (hw : Region.wanted o (yielded ops l.toArray) = true) (hd : o.dst = some d) (hv : ∀ w, (execOp (Act.eval ⟨l.toArray, ds⟩) o).run P w = .ok (.value (mk w.heap.size)) (w.alloc (.cells cs.toArray t)))
    (h : ∀ n, seqS P w0 S ops Q rest ⟨(l.set d (mk n)).toArray, ds⟩ (blk n cs t :: rs)) : seqS P w0 S ops Q (o :: rest) ⟨l.toArray, ds⟩ rs := fun w hs => by
  unfold wpList
  rw [if_pos hw]
  refine .inl ?_
  unfold Oper.wp
  rw [hv w]
  show wpList P ops (lowS w0 S Q) rest (Act.put ⟨l.toArray, ds⟩ o.dst (mk w.heap.size)) _
  rw [hd, put_some rfl]
  exact h _ _ (hs.alloc cs t)
/-- Whatever it does: a new list of things. -/
theorem seqS_act {Φ : Value → List Res → Prop} (hw : Region.wanted o (yielded ops l.toArray) = true)
    (hv : ∀ w, Sep w0 S rs w → o.upon P ⟨l.toArray, ds⟩ (fun a' w' => ∃ v rs', a' = Act.put ⟨l.toArray, ds⟩ o.dst v ∧ Φ v rs' ∧ Sep w0 S rs' w') (fun _ _ _ => False) ((execOp (Act.eval ⟨l.toArray, ds⟩) o).run P w))
    (h : ∀ v rs', Φ v rs' → seqS P w0 S ops Q rest (Act.put ⟨l.toArray, ds⟩ o.dst v) rs') : seqS P w0 S ops Q (o :: rest) ⟨l.toArray, ds⟩ rs := fun w hs => by
  unfold wpList
  rw [if_pos hw]
  refine .inl ?_
  unfold Oper.wp
  have h1 := hv w hs
  generalize (execOp (Act.eval ⟨l.toArray, ds⟩) o).run P w = r at *
  have low : ∀ {a' : Act} {w' : World}, (∃ v rs', a' = Act.put ⟨l.toArray, ds⟩ o.dst v ∧ Φ v rs' ∧ Sep w0 S rs' w') → wpList P ops (lowS w0 S Q) rest a' w' := by
    rintro a' w' ⟨v, rs', rfl, hv, hs⟩
    exact h v rs' hv w' hs
  cases r with
  | ok n w' =>
    cases n <;> simp only [Oper.upon] at h1 ⊢
    case value u => exact low h1
    case skip => exact low h1
    case defer dd => exact low h1
    case enter f args =>
      refine h1.mono ?_
      rintro e w'' he
      cases e with
      | returned v => exact low he
      | panicked c => exact he.elim
      | outgrown => obtain ⟨_, _, he⟩ := he; exact he.elim
    case row row args => exact h1.mono fun u w'' he => low he
  | halt x w' => cases x <;> simp only [Oper.upon] at h1
end steps
end
end Go.Proofs.Ytllhoadbocnldaa
