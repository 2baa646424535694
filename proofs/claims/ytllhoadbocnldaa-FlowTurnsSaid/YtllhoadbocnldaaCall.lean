/- A call, once its function and its arguments are known: what each sort of contract makes of it. -/
import Derived.Test.YtllhoadbocnldaaFrame
set_option linter.unusedVariables false
set_option linter.unusedSimpArgs false
namespace Go.Proofs.Ytllhoadbocnldaa
open Go.RowKit
section
variable {w0 : World} {S : List Nat} {Q : SP} {ops : Array Oper} {rs : List Res} {l l' : List Value} {ds : List Deferred} {d : Tmp} {o : Oper} {rest : List Oper} {f : FuncId} {vs : List Value}
/-- Function f is called on vs, in a region taken in order. -/
def callS (w0 : World) (S : List Nat) (ops : Array Oper) (Q : SP) (rest : List Oper) (d : Tmp) (l : List Value) (ds : List Deferred) (rs : List Res) (f : FuncId) (vs : List Value) : Prop :=
  ∃ Φ : Value → List Res → Prop, (∀ w, Sep w0 S rs w → Calls Try.prog f vs.toArray w (fun e w' => ∃ v rs', e = .returned v ∧ Φ v rs' ∧ Sep w0 S rs' w')) ∧ ∀ v rs', Φ v rs' → seqS Try.prog w0 S ops Q rest ⟨(l.set d v).toArray, ds⟩ rs'
theorem toCallS (hw : Region.wanted o (yielded ops l.toArray) = true) (hd : o.dst = some d) (he : ∀ w, (execOp (Act.eval ⟨l.toArray, ds⟩) o).run Try.prog w = .ok (.enter f vs.toArray) w) (h : callS w0 S ops Q rest d l ds rs f vs) :
    seqS Try.prog w0 S ops Q (o :: rest) ⟨l.toArray, ds⟩ rs := by
  obtain ⟨Φ, hc, hk⟩ := h
  refine seqS_act (Φ := Φ) hw (fun w hs => ?_) (fun u q hq => by rw [hd, put_some rfl]; exact hk u q hq)
  rw [he w]
  refine (hc w hs).mono ?_
  rintro e w' ⟨v, rs', rfl, h1, h2⟩
  exact ⟨v, rs', rfl, h1, h2⟩
section
variable {ty : TypeId} {pos : String} {aft : Array Edge} {gd : Option (Nat × Bool)} {dt : Option Tmp} {xs : List Operand} {ts : Array TypeId}
theorem toCallF (hw : Region.wanted ⟨some d, .call { callee := .value (.func f), args := xs.toArray, argTypes := ts }, ty, pos, aft, gd⟩ (yielded ops l.toArray) = true) (hx : opnds l xs = some vs) (hf : look calL f = some ()) (h : callS w0 S ops Q rest d l ds rs f vs) :
    seqS Try.prog w0 S ops Q (⟨some d, .call { callee := .value (.func f), args := xs.toArray, argTypes := ts }, ty, pos, aft, gd⟩ :: rest) ⟨l.toArray, ds⟩ rs := toCallS hw rfl (fun w => run_call hx hf w) h
theorem toCallV {t : Tmp} {first caps us : List Value} (hw : Region.wanted ⟨some d, .call { callee := .value (.tmp t), args := xs.toArray, argTypes := ts }, ty, pos, aft, gd⟩ (yielded ops l.toArray) = true) (hv : opnd l (.tmp t) = some (.func (.func f) first.toArray caps.toArray)) (hx : opnds l xs = some us) (hf : look calL f = some ()) (ha : first ++ us ++ caps = vs)
    (h : callS w0 S ops Q rest d l ds rs f vs) : seqS Try.prog w0 S ops Q (⟨some d, .call { callee := .value (.tmp t), args := xs.toArray, argTypes := ts }, ty, pos, aft, gd⟩ :: rest) ⟨l.toArray, ds⟩ rs := toCallS hw rfl (fun w => run_callv hv hx hf ha w) h
theorem isCallF {xs : Array Operand} {dt : Option Tmp} (h : seqS Try.prog w0 S ops Q (⟨dt, .call { callee := .value (.func f), args := xs, argTypes := ts }, ty, pos, aft, gd⟩ :: rest) ⟨l.toArray, ds⟩ rs) : seqS Try.prog w0 S ops Q (⟨dt, .call { callee := .value (.func f), args := xs, argTypes := ts }, ty, pos, aft, gd⟩ :: rest) ⟨l.toArray, ds⟩ rs := h
theorem isCallV {xs : Array Operand} {dt : Option Tmp} {t : Tmp} (h : seqS Try.prog w0 S ops Q (⟨dt, .call { callee := .value (.tmp t), args := xs, argTypes := ts }, ty, pos, aft, gd⟩ :: rest) ⟨l.toArray, ds⟩ rs) : seqS Try.prog w0 S ops Q (⟨dt, .call { callee := .value (.tmp t), args := xs, argTypes := ts }, ty, pos, aft, gd⟩ :: rest) ⟨l.toArray, ds⟩ rs := h
end
theorem callS_0 {v : Value} (hc : ∀ w, Sep w0 S rs w → Calls Try.prog f vs.toArray w (fun e w' => e = .returned v ∧ Mod [] w w')) (hl : l.set d v = l') (h : seqS Try.prog w0 S ops Q rest ⟨l'.toArray, ds⟩ rs) : callS w0 S ops Q rest d l ds rs f vs :=
  ⟨fun u q => u = v ∧ q = rs, fun w hs => (hc w hs).mono fun e w' ⟨he, hm⟩ => ⟨v, rs, he, ⟨rfl, rfl⟩, hs.garb hm⟩, fun u q ⟨hu, hq⟩ => by subst hu; subst hq; rw [hl]; exact h⟩
theorem callS_E {ι : Type} {v : ι → Value} {r : Res} {mk : ι → Res} {rs' : ι → List Res} (hu : ∀ i, Upd r (mk i) rs (rs' i)) (hc : ∀ w, Sep w0 S rs w → r.holds w → Calls Try.prog f vs.toArray w (Turns r v mk w))
    (h : ∀ i l', l.set d (v i) = l' → seqS Try.prog w0 S ops Q rest ⟨l'.toArray, ds⟩ (rs' i)) (hi : Nonempty ι) : callS w0 S ops Q rest d l ds rs f vs :=
  ⟨fun u q => ∃ i, u = v i ∧ q = rs' i, fun w hs => (hc w hs (hs.all _ (hi.elim fun i => (hu i).mem))).mono fun e w' ⟨i, he, hr, hm, hn⟩ => ⟨_, _, he, ⟨i, rfl, rfl⟩, hs.updU (hu i) hm hr hn⟩, fun u q ⟨i, hu, hq⟩ => by subst hu; subst hq; exact h i _ rfl⟩
theorem callS_U {v : Value} {r r' : Res} {rs' : List Res} (hu : Upd r r' rs rs') (hff : r'.foot = r.foot) (hc : ∀ w, Sep w0 S rs w → r.holds w → Calls Try.prog f vs.toArray w (fun e w' => e = .returned v ∧ r'.holds w' ∧ Mod r.foot w w')) (hl : l.set d v = l')
    (h : seqS Try.prog w0 S ops Q rest ⟨l'.toArray, ds⟩ rs') : callS w0 S ops Q rest d l ds rs f vs :=
  ⟨fun u q => u = v ∧ q = rs', fun w hs => (hc w hs (hs.all _ hu.mem)).mono fun e w' ⟨he, hr, hm⟩ => ⟨v, _, he, ⟨rfl, rfl⟩, hs.updU hu hm hr (by rw [hff]; exact fun n hn => .inl hn)⟩, fun u q ⟨hu, hq⟩ => by subst hu; subst hq; rw [hl]; exact h⟩
theorem callS_N {ι : Type} {v : ι → Value} {mk : ι → Res} (hc : ∀ w, Sep w0 S rs w → Calls Try.prog f vs.toArray w (Makes v mk w))
    (h : ∀ i l', l.set d (v i) = l' → seqS Try.prog w0 S ops Q rest ⟨l'.toArray, ds⟩ (mk i :: rs)) : callS w0 S ops Q rest d l ds rs f vs :=
  ⟨fun u q => ∃ i, u = v i ∧ q = mk i :: rs, fun w hs => (hc w hs).mono fun e w' ⟨i, he, hr, hm, hn⟩ => ⟨_, _, he, ⟨i, rfl, rfl⟩, hs.add hm hr hn⟩, fun u q ⟨i, hu, hq⟩ => by subst hu; subst hq; exact h i _ rfl⟩
theorem callS_F {ι : Type} {v : ι → Value} {rs1 rs3 : List Res} {rs2 : ι → List Res} (hc : ∀ w, Sep w (feet rs1) rs1 w → Calls Try.prog f vs.toArray w (Fr rs1 v rs2 w)) (ho : Outs rs1 rs rs3)
    (h : ∀ i l', l.set d (v i) = l' → seqS Try.prog w0 S ops Q rest ⟨l'.toArray, ds⟩ (rs2 i ++ rs3)) : callS w0 S ops Q rest d l ds rs f vs :=
  ⟨fun u q => ∃ i, u = v i ∧ q = rs2 i ++ rs3, fun w hs => by
    have hs1 := hs.perm ho.perm
    refine (hc w hs1.alone).mono ?_
    rintro e w' ⟨i, rfl, h2⟩
    exact ⟨v i, _, rfl, ⟨i, rfl, rfl⟩, hs1.frame h2⟩, fun u q ⟨i, hu, hq⟩ => by subst hu; subst hq; exact h i _ rfl⟩
end
/-! ### In a drawn region -/
section
variable {w0 : World} {S : List Nat} {Q : SP} {rs rsX : List Res} {l l' : List Value} {ds : List Deferred} {d : Tmp} {o : Oper} {f : FuncId} {vs : List Value} {rsS : St} {B : Nat} {gl : GL} {i : Nat} {orest : List Nat} {ol : List Oper}
def callD (w0 : World) (S : List Nat) (Q : SP) (rsS : St) (B : Nat) (ol : List Oper) (orest : List Nat) (d : Tmp) (l : List Value) (ds : List Deferred) (gl : GL) (rs : List Res) (f : FuncId) (vs : List Value) : Prop :=
  ∃ Φ : Value → List Res → Prop, (∀ w, Cls w0 S rsS w → Sep w0 S rs w → (∀ n l t, (n, l, t) ∈ gl → Blk w n l t) → Calls Try.prog f vs.toArray w (fun e w' => ∃ v rs', e = .returned v ∧ Φ v rs' ∧ Cls w0 S rsS w' ∧ Sep w0 S rs' w' ∧ Kp B (sepRes w0 S rs).foot (sepRes w0 S rs').foot w w')) ∧
    ∀ v rs' l', l.set d v = l' → Φ v rs' → ordS Try.prog w0 S Q rsS B ol.toArray orest l' ds gl rs'
section
variable {ty : TypeId} {pos : String} {aft : Array Edge} {gd : Option (Nat × Bool)} {dt : Option Tmp} {xs : List Operand} {ts : Array TypeId}
theorem toCallD (ho : ol[i]? = some ⟨some d, .call { callee := .value (.func f), args := xs.toArray, argTypes := ts }, ty, pos, aft, gd⟩) (hw : Region.wanted ⟨some d, .call { callee := .value (.func f), args := xs.toArray, argTypes := ts }, ty, pos, aft, gd⟩ (yielded ol.toArray l.toArray) = true)
    (hx : opnds l xs = some vs) (hf : look calL f = some ()) (h : callD w0 S Q rsS B ol orest d l ds gl rs f vs) : ordS Try.prog w0 S Q rsS B ol.toArray (i :: orest) l ds gl rs := by
  obtain ⟨Φ, hc, hk⟩ := h
  exact ordS_call ho hw rfl rfl Φ (fun w => run_call hx hf w) hc hk
end
theorem isOWant (ho : ol[i]? = some o) (hw : Region.wanted o (yielded ol.toArray l.toArray) = true) (h : ordS Try.prog w0 S Q rsS B ol.toArray (i :: orest) l ds gl rs) : ordS Try.prog w0 S Q rsS B ol.toArray (i :: orest) l ds gl rs := h
theorem callD_0 {v : Value} (hc : ∀ w, Sep w0 S rs w → (∀ n l t, (n, l, t) ∈ gl → Blk w n l t) → Calls Try.prog f vs.toArray w (fun e w' => e = .returned v ∧ Mod [] w w')) (hl : l.set d v = l') (h : ordS Try.prog w0 S Q rsS B ol.toArray orest l' ds gl rs) : callD w0 S Q rsS B ol orest d l ds gl rs f vs :=
  ⟨fun u q => u = v ∧ q = rs, fun w h1 h2 hg => (hc w h2 hg).mono fun e w' ⟨he, hm⟩ => ⟨v, _, he, ⟨rfl, rfl⟩, h1.garb hm, h2.garb hm, Kp.of_mod hm (by simp) (fun n hn => .inl hn)⟩,
    fun u q l2 hl2 ⟨hu, hq⟩ => by subst hu; subst hq; rw [hl] at hl2; subst hl2; exact h⟩
theorem callD_E {ι : Type} {v : ι → Value} {r : Res} {mk : ι → Res} {rs' : ι → List Res} (hu : ∀ j, Upd r (mk j) rs (rs' j)) (hou : Out r rs rsX) (hsub : rsS.1.Sublist rsX) (hxs : ∀ x ∈ rsS.2, ∃ cs t, blk x.1 cs t ∈ rsX)
    (hc : ∀ w, Sep w0 S rs w → r.holds w → (∀ n l t, (n, l, t) ∈ gl → Blk w n l t) → Calls Try.prog f vs.toArray w (Turns r v mk w))
    (h : ∀ j l', l.set d (v j) = l' → ordS Try.prog w0 S Q rsS B ol.toArray orest l' ds gl (rs' j)) (hi : Nonempty ι) : callD w0 S Q rsS B ol orest d l ds gl rs f vs :=
  ⟨fun u q => ∃ j, u = v j ∧ q = rs' j, fun w h1 h2 hg => (hc w h2 (h2.all _ (hi.elim fun j => (hu j).mem)) hg).mono fun e w' ⟨j, he, hr, hm, hn⟩ => ⟨_, _, he, ⟨j, rfl, rfl⟩, h2.stay hou hsub hxs h1 hm, h2.updU (hu j) hm hr hn, Kp.updU (hu j) hm hn⟩,
    fun u q l2 hl2 ⟨j, hu, hq⟩ => by subst hu; subst hq; exact h j l2 hl2⟩
theorem callD_U {v : Value} {r r' : Res} {rs' : List Res} (hu : Upd r r' rs rs') (hff : r'.foot = r.foot) (hou : Out r rs rsX) (hsub : rsS.1.Sublist rsX) (hxs : ∀ x ∈ rsS.2, ∃ cs t, blk x.1 cs t ∈ rsX)
    (hc : ∀ w, Sep w0 S rs w → r.holds w → (∀ n l t, (n, l, t) ∈ gl → Blk w n l t) → Calls Try.prog f vs.toArray w (fun e w' => e = .returned v ∧ r'.holds w' ∧ Mod r.foot w w')) (hl : l.set d v = l')
    (h : ordS Try.prog w0 S Q rsS B ol.toArray orest l' ds gl rs') : callD w0 S Q rsS B ol orest d l ds gl rs f vs :=
  callD_E (ι := Unit) (v := fun _ => v) (mk := fun _ => r') (rs' := fun _ => rs') (fun _ => hu) hou hsub hxs (fun w h1 h2 h3 => (hc w h1 h2 h3).mono fun e w' ⟨he, hr, hm⟩ => ⟨(), he, hr, hm, fun n hn => .inl (by rw [← hff]; exact hn)⟩)
    (fun _ l2 hl2 => by rw [hl] at hl2; subst hl2; exact h) ⟨()⟩
theorem callD_N {ι : Type} {v : ι → Value} {mk : ι → Res} (hc : ∀ w, Sep w0 S rs w → (∀ n l t, (n, l, t) ∈ gl → Blk w n l t) → Calls Try.prog f vs.toArray w (Makes v mk w))
    (h : ∀ j l', l.set d (v j) = l' → ordS Try.prog w0 S Q rsS B ol.toArray orest l' ds gl (mk j :: rs)) : callD w0 S Q rsS B ol orest d l ds gl rs f vs :=
  ⟨fun u q => ∃ j, u = v j ∧ q = mk j :: rs, fun w h1 h2 hg => (hc w h2 hg).mono fun e w' ⟨j, he, hr, hm, hn⟩ => ⟨_, _, he, ⟨j, rfl, rfl⟩, h1.garb hm, h2.add hm hr hn, Kp.add hm hn⟩,
    fun u q l2 hl2 ⟨j, hu, hq⟩ => by subst hu; subst hq; exact h j l2 hl2⟩
end
end Go.Proofs.Ytllhoadbocnldaa
