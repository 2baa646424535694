/- A reader over a list of bytes, as a thing of the walk. -/
import Derived.Test.YtmcaigmpcbkfpaaGreatOwn
import Derived.LoopN
set_option linter.unusedVariables false
set_option linter.unusedSimpArgs false
namespace Go.Proofs.YtmcaigmpcbkfpaaGreat
open Go.RowKit
theorem strOf_self (s : ByteArray) : strOf s.data.toList = s := by cases s; rfl
theorem strOf_data (l : List UInt8) : (strOf l).data.toList = l := rfl
theorem strOf_extract (l : List UInt8) (i j : Nat) : (strOf l).extract i j = strOf ((l.drop i).take (j - i)) := by
  apply ByteArray.ext
  rw [ByteArray.data_extract]
  simp
theorem rTake_list (l : List UInt8) (n : Nat) (hn : n ≤ l.length) : rTake (false, strOf l) n = (strOf (l.take n), (false, strOf (l.drop n))) := by
  have hs : (strOf l).size = l.length := strOf_size l
  simp only [rTake]
  rw [if_neg (by simp), if_neg (by omega), strOf_extract, strOf_extract, hs]
  simp [List.take_of_length_le]
theorem rTake_nil (n : Nat) (hn : 0 < n) : rTake (false, strOf []) n = (⟨#[]⟩, (true, strOf [])) := by
  have hs : (strOf []).size = 0 := strOf_size []
  simp only [rTake]
  rw [if_neg (by simp), if_pos (by omega)]
section
variable {p : Nat} {w : World} {l : List UInt8} {b : UInt8}
theorem rOk_R {st : Bool × ByteArray} (h : (rdr p st).holds w) : Calls Tryz.prog 134 #[ptr0 p] w fun e w' => e = .returned (.bool !st.1) ∧ Mod [] w w' :=
  (Ok_any h).mono fun e w' ⟨h1, h2⟩ => ⟨h1, h2 ▸ Mod.refl _ _⟩
theorem rLeft_R (h : (rdr p (false, strOf l)).holds w) : Calls Tryz.prog 111 #[ptr0 p] w fun e w' => e = .returned (.int .i64 l.length) ∧ Mod [] w w' :=
  (Left_any h).mono fun e w' ⟨h1, h2⟩ => ⟨by rw [h1, rLeft, if_neg (by simp), strOf_size], h2 ▸ Mod.refl _ _⟩
theorem rByte_cons (h : (rdr p (false, strOf (b :: l))).holds w) : Calls Tryz.prog 68 #[ptr0 p] w fun e w' => e = .returned (.int .i64 b.toNat) ∧ (rdr p (false, strOf l)).holds w' ∧ Mod (rdr p (false, strOf (b :: l))).foot w w' := by
  have e := rTake_list (b :: l) 1 (by simp)
  refine (rByte_any h).mono fun e' w' ⟨h1, h2, h3⟩ => ⟨?_, ?_, h3⟩
  · rw [h1, rNum, show ((1 : Int)) = ((1 : Nat) : Int) from rfl, e]; simp [numOf]
  · rw [show ((1 : Int)) = ((1 : Nat) : Int) from rfl, e] at h2; exact h2
theorem rByte_nil (h : (rdr p (false, strOf [])).holds w) : Calls Tryz.prog 68 #[ptr0 p] w fun e w' => e = .returned (.int .i64 0) ∧ (rdr p (true, strOf [])).holds w' ∧ Mod (rdr p (false, strOf [])).foot w w' := by
  have e := rTake_nil 1 (by simp)
  refine (rByte_any h).mono fun e' w' ⟨h1, h2, h3⟩ => ⟨?_, ?_, h3⟩
  · rw [h1, rNum, show ((1 : Int)) = ((1 : Nat) : Int) from rfl, e]; simp [numOf]
  · rw [show ((1 : Int)) = ((1 : Nat) : Int) from rfl, e] at h2; exact h2
theorem rTake_R (n : Nat) (hn : n ≤ l.length) (h : (rdr p (false, strOf l)).holds w) : Calls Tryz.prog 110 #[ptr0 p, .int .i64 n] w fun e w' => e = .returned (.string (strOf (l.take n))) ∧ (rdr p (false, strOf (l.drop n))).holds w' ∧ Mod (rdr p (false, strOf l)).foot w w' := by
  have e := rTake_list l n hn
  refine (Take_any h n).mono fun e' w' ⟨h1, h2, h3⟩ => ⟨?_, ?_, h3⟩
  · rw [h1, e]
  · rw [e] at h2; exact h2
theorem rRest_R (h : (rdr p (false, strOf l)).holds w) : Calls Tryz.prog 71 #[ptr0 p] w fun e w' => e = .returned (.string (strOf l)) ∧ (rdr p (false, strOf [])).holds w' ∧ Mod (rdr p (false, strOf l)).foot w w' := by
  have e : rRest (false, strOf l) = (strOf l, (false, strOf [])) := by
    rw [rRest, rLeft, if_neg (by simp), strOf_size, rTake_list l l.length (Nat.le_refl _)]; simp
  refine (rRest_any h).mono fun e' w' ⟨h1, h2, h3⟩ => ⟨?_, ?_, h3⟩
  · rw [h1, e]
  · rw [e] at h2; exact h2
theorem Read_R (s : ByteArray) (hs : s.size ≤ 140737488351232) : Calls Tryz.prog 67 #[.string s] w (Makes (fun p => ptr0 p) (fun p => rdr p (false, s)) w) := by
  refine (Read_any s hs w).mono ?_
  rintro e w' ⟨rfl, rfl⟩
  exact ⟨w.heap.size, rfl, Rd.new hs rfl, (Mod.refl [] w).alloc _, fun n hn => by simp [rdr] at hn; omega⟩
end
theorem Sep.made {w0 w : World} {rs : List Res} {r : Res} (h : Sep w0 [] rs w) (hm : r ∈ rs) : r.holds w ∧ Mod [] w0 w ∧ ∀ n ∈ r.foot, w0.heap.size ≤ n :=
  ⟨h.all r hm, h.mod, fun n hn => by
    rcases Nat.lt_or_ge n w0.heap.size with h1 | h1
    · exact absurd (h.old r hm n hn h1) (by simp)
    · exact h1⟩
theorem Sep.nil {w0 w : World} {S : List Nat} {rs : List Res} (e s : Nat) (h : Sep w0 S rs w) : Sep w0 S (own none 0 e s 0 [] :: rs) w :=
  h.add (Mod.refl _ _) (own_nil w e s) (by simp [own, Value.ownBlock])
/-- The length of a slice. -/
def slLen : Value → Nat
  | .slice _ n _ => n
  | _ => 0
end Go.Proofs.YtmcaigmpcbkfpaaGreat
namespace Go.Proofs.YtmcaigmpcbkfpaaGreat
set_option maxRecDepth 8000
attribute [local irreducible] blk wpS seqS ordS OpVal RV endS LoadV StoreV Calls
open Go.RowKit
def b8 (x : Int) : UInt8 := UInt8.ofNat (x % 256).toNat
theorem nbs1 (x : Int) : numBytes 1 x = [b8 x] := by simp [numBytes, nb, b8, List.range_succ]
theorem strOf_add (bs : List UInt8) (x : Int) : strOf bs ++ strOfNums [IntKind.u8.wrap x] = strOf (bs ++ [b8 x]) := by
  rw [IntKind.wrap_u8]; apply ByteArray.ext; simp [strOfNums, b8]
theorem strOf_cat (bs : List UInt8) (s : ByteArray) : strOf bs ++ s = strOf (bs ++ s.data.toList) := by
  apply ByteArray.ext; simp
theorem Sep.turns {w0 w : World} {S : List Nat} {rs : List Res} {r : Res} (h : Sep w0 S rs w) (hm : r ∈ rs) : r.holds w ∧ Mod S w0 w ∧ ∀ n ∈ r.foot, n ∈ S ∨ w0.heap.size ≤ n :=
  ⟨h.all r hm, h.mod, fun n hn => by
    rcases Nat.lt_or_ge n w0.heap.size with h1 | h1
    · exact .inl (h.old r hm n hn h1)
    · exact .inr h1⟩
theorem Sep.writer {w0 w : World} {S : List Nat} {rs : List Res} {p : Nat} (h : Sep w0 S (blk p [.bool false, .pointer none, .slice none 0 0] 130 :: rs) w) : Sep w0 S (wtr p none (false, []) :: rs) w :=
  h.updU .head (Mod.refl _ _) (wtr_new (h.getBlk (.head _))) (fun n hn => .inl (by unfold blk; exact hn))
section
variable {p : Nat} {row : Option Nat} {bs : List UInt8} {w : World} {b : Nat}
theorem put1 (x : Int) (hx : 0 ≤ x ∧ x ≤ 255) : putAll 1 255 (false, bs) [x] = (false, bs ++ [b8 x]) := by
  simp only [putAll, List.foldl_cons, List.foldl_nil, putOne, nbs1]
  rw [if_neg (by simp; omega)]
theorem wByte1 (x : Int) (hx : 0 ≤ x ∧ x ≤ 255) (hb : bs.length ≤ 1000000) (h : (wtr p row (false, bs)).holds w) (hr : Blk w b [.int .i64 x] 3) :
    Calls Tryz.prog 83 #[ptr0 p, .slice (some ⟨b, 0, none⟩) 1 1] w (Turns (wtr p row (false, bs)) (fun _ => ptr0 p) (fun row' => wtr p row' (false, bs ++ [b8 x])) w) := by
  have := wByte_R [x] h hr (by simp; omega) rfl (by simp)
  rwa [put1 x hx] at this
theorem wText1 (s : ByteArray) (hs : s.size ≤ 1000000) (hb : bs.length ≤ 1000000) (h : (wtr p row (false, bs)).holds w) (hr : Blk w b [.string s] 9) :
    Calls Tryz.prog 86 #[ptr0 p, .slice (some ⟨b, 0, none⟩) 1 1] w (Turns (wtr p row (false, bs)) (fun _ => ptr0 p) (fun row' => wtr p row' (false, bs ++ s.data.toList)) w) := by
  have := wText_R [s] h hr (by simp [textLen]; omega) rfl (by simp)
  rwa [show textAll (false, bs) [s] = (false, bs ++ s.data.toList) from by simp [textAll, textOne]] at this
end
theorem Sep.turned {w0 w : World} {S : List Nat} {rs : List Res} {r : Res} (h : Sep w0 S rs w) (hm : r ∈ rs) : r.holds w ∧ Mod S w0 w := ⟨h.all r hm, h.mod⟩
theorem strOf_get (l : List UInt8) (k : Nat) (h : k < l.length) : (strOf l)[k]'(by rw [strOf_size]; exact h) = l[k] := rfl
theorem nbs2 (x : Int) : numBytes 2 x = [b8 (x / 256), b8 x] := by simp [numBytes, nb, b8, List.range_succ]
theorem nbs4 (x : Int) : numBytes 4 x = [b8 (x / 16777216), b8 (x / 65536), b8 (x / 256), b8 x] := by simp [numBytes, nb, b8, List.range_succ]
theorem putAll_ok (size : Nat) (most : Int) : ∀ (l : List Int) (bs : List UInt8), (∀ x ∈ l, 0 ≤ x ∧ x ≤ most) → putAll size most (false, bs) l = (false, bs ++ l.flatMap (numBytes size))
  | [], bs, _ => by simp [putAll]
  | x :: l, bs, h => by
    have hx := h x (by simp)
    have ih := putAll_ok size most l (bs ++ numBytes size x) (fun y hy => h y (by simp [hy]))
    simp only [putAll, List.foldl_cons] at ih ⊢
    rw [show putOne size most (false, bs) x = (false, bs ++ numBytes size x) from by rw [putOne, if_neg (by simp; omega)], ih, List.flatMap_cons, List.append_assoc]
section
variable {p : Nat} {row : Option Nat} {bs : List UInt8} {w : World} {b n : Nat}
theorem wShort_L (l : List Int) (hl : ∀ x ∈ l, 0 ≤ x ∧ x ≤ 65535) (hb : bs.length ≤ 1000000) (hn : n = l.length) (hk : l.length ≤ 1000) (h : (wtr p row (false, bs)).holds w) (hr : Blk w b (l.map (.int .i64)) 3) :
    Calls Tryz.prog 84 #[ptr0 p, .slice (some ⟨b, 0, none⟩) n n] w (Turns (wtr p row (false, bs)) (fun _ => ptr0 p) (fun row' => wtr p row' (false, bs ++ l.flatMap (numBytes 2))) w) := by
  have := wShort_R (n := n) l h hr (by simp; omega) hn hk
  rwa [putAll_ok _ _ _ _ hl] at this
theorem wByte_L (l : List Int) (hl : ∀ x ∈ l, 0 ≤ x ∧ x ≤ 255) (hb : bs.length ≤ 1000000) (hn : n = l.length) (hk : l.length ≤ 1000) (h : (wtr p row (false, bs)).holds w) (hr : Blk w b (l.map (.int .i64)) 3) :
    Calls Tryz.prog 83 #[ptr0 p, .slice (some ⟨b, 0, none⟩) n n] w (Turns (wtr p row (false, bs)) (fun _ => ptr0 p) (fun row' => wtr p row' (false, bs ++ l.flatMap (numBytes 1))) w) := by
  have := wByte_R (n := n) l h hr (by simp; omega) hn hk
  rwa [putAll_ok _ _ _ _ hl] at this
theorem wWord_L (l : List Int) (hl : ∀ x ∈ l, 0 ≤ x ∧ x ≤ 4294967295) (hb : bs.length ≤ 1000000) (hn : n = l.length) (hk : l.length ≤ 1000) (h : (wtr p row (false, bs)).holds w) (hr : Blk w b (l.map (.int .u32)) 32) :
    Calls Tryz.prog 85 #[ptr0 p, .slice (some ⟨b, 0, none⟩) n n] w (Turns (wtr p row (false, bs)) (fun _ => ptr0 p) (fun row' => wtr p row' (false, bs ++ l.flatMap (numBytes 4))) w) := by
  have := wWord_R (n := n) l h hr (by simp; omega) hn hk hl
  rwa [putAll_ok _ _ _ _ hl] at this
theorem wDone_ok (hb : bs.length ≤ 65535) (h : (wtr p row (false, bs)).holds w) :
    Calls Tryz.prog 87 #[ptr0 p] w (Turns (wtr p row (false, bs)) (fun _ => .tuple #[.string (strOf bs), .int .i64 0]) (fun row' => wtr p row' (false, bs)) w) := by
  have := wDone_R h
  rwa [show doneOf (false, bs) = (strOf bs, 0) from by rw [doneOf, if_neg (by simp), if_neg (by simp; omega)]] at this
end
end Go.Proofs.YtmcaigmpcbkfpaaGreat
namespace Go.Proofs.YtmcaigmpcbkfpaaGreat
open Go.RowKit
def feet (rs : List Res) : List Nat := rs.flatMap (·.foot)
theorem mem_feet {rs : List Res} {r : Res} {n : Nat} (hr : r ∈ rs) (hn : n ∈ r.foot) : n ∈ feet rs := List.mem_flatMap.2 ⟨r, hr, hn⟩
inductive Outs : List Res → List Res → List Res → Prop
  | nil {rs : List Res} : Outs [] rs rs
  | cons {r : Res} {l rs rs' rs'' : List Res} : Out r rs rs' → Outs l rs' rs'' → Outs (r :: l) rs rs''
theorem Outs.perm {l rs rest : List Res} (h : Outs l rs rest) : rs.Perm (l ++ rest) := by
  induction h with
  | nil => exact List.Perm.refl _
  | cons ho _ ih =>
    obtain ⟨pre, post, rfl, rfl⟩ := ho.split
    exact (List.perm_middle).trans (ih.cons _)
theorem Sep.perm {w0 w : World} {S : List Nat} {rs rs' : List Res} (h : Sep w0 S rs w) (hp : rs.Perm rs') : Sep w0 S rs' w :=
  ⟨h.mod, fun r hr => h.all r (hp.mem_iff.2 hr), fun r hr => h.old r (hp.mem_iff.2 hr), h.dis.perm hp (fun {x y} hxy n hn hn' => hxy n hn' hn)⟩
/-- Some of the things, by themselves. -/
theorem Sep.alone {w0 w : World} {S : List Nat} {rs1 rest : List Res} (h : Sep w0 S (rs1 ++ rest) w) : Sep w (feet rs1) rs1 w :=
  ⟨Mod.refl _ _, fun r hr => h.all r (by simp [hr]), fun r hr n hn _ => mem_feet hr hn, (List.pairwise_append.1 h.dis).1⟩
theorem Sep.frame {w0 w w' : World} {S : List Nat} {rs1 rs2 rest : List Res} (h : Sep w0 S (rs1 ++ rest) w) (h2 : Sep w (feet rs1) rs2 w') : Sep w0 S (rs2 ++ rest) w' := by
  obtain ⟨d1, d2, d3⟩ := List.pairwise_append.1 h.dis
  have nf : ∀ x ∈ rest, ∀ n ∈ x.foot, n ∉ feet rs1 := fun x hx n hn hf => by
    obtain ⟨r, hr, hr'⟩ := List.mem_flatMap.1 hf
    exact d3 r hr x hx n hr' hn
  have hS : ∀ n ∈ feet rs1, n < w0.heap.size → n ∈ S := fun n hn hlt => by
    obtain ⟨r, hr, hr'⟩ := List.mem_flatMap.1 hn
    exact h.old r (by simp [hr]) n hr' hlt
  refine ⟨h.mod.trans h2.mod hS, fun r hr => ?_, fun r hr n hn hlt => ?_, List.pairwise_append.2 ⟨h2.dis, d2, fun r hr x hx n hn hn' => ?_⟩⟩
  · rcases List.mem_append.1 hr with hr | hr
    · exact h2.all r hr
    · exact r.loc w w' (fun n hn => h2.mod.block n (r.ex w (h.all r (by simp [hr])) n hn) (nf r hr n hn)) (h.all r (by simp [hr]))
  · rcases List.mem_append.1 hr with hr | hr
    · exact hS n (h2.old r hr n hn (Nat.lt_of_lt_of_le hlt h.mod.size)) hlt
    · exact h.old r (by simp [hr]) n hn hlt
  · have hlt : n < w.heap.size := x.ex w (h.all x (by simp [hx])) n hn'
    exact nf x hx n hn' (h2.old r hr n hn hlt)
section
variable {w0 : World} {S : List Nat} {Q : SP} {ops : Array Oper} {rs : List Res} {l l' : List Value} {ds : List Deferred} {d : Tmp} {o : Oper} {rest : List Oper}
/-- What a call leaves that turns the things rs1: an answer, and other things. -/
abbrev Fr {ι : Type} (rs1 : List Res) (v : ι → Value) (rs2 : ι → List Res) (w : World) (e : Ending) (w' : World) : Prop := ∃ i, e = .returned (v i) ∧ Sep w (feet rs1) (rs2 i) w'
theorem seqS_enterF {ι : Type} {f : FuncId} {vs : List Value} {v : ι → Value} {rs1 rs3 : List Res} {rs2 : ι → List Res} (hw : Region.wanted o (yielded ops l.toArray) = true) (hd : o.dst = some d)
    (he : ∀ w, (execOp (Act.eval ⟨l.toArray, ds⟩) o).run Tryz.prog w = .ok (.enter f vs.toArray) w)
    (hc : ∀ w, Sep w (feet rs1) rs1 w → Calls Tryz.prog f vs.toArray w (Fr rs1 v rs2 w)) (ho : Outs rs1 rs rs3)
    (h : ∀ i l', l.set d (v i) = l' → seqS Tryz.prog w0 S ops Q rest ⟨l'.toArray, ds⟩ (rs2 i ++ rs3)) : seqS Tryz.prog w0 S ops Q (o :: rest) ⟨l.toArray, ds⟩ rs :=
  seqS_act (Φ := fun u q => ∃ i, u = v i ∧ q = rs2 i ++ rs3) hw (fun w hs => by
    have hs1 := hs.perm ho.perm
    rw [he w]
    refine (hc w hs1.alone).mono ?_
    rintro e w' ⟨i, rfl, h2⟩
    exact ⟨v i, _, rfl, ⟨i, rfl, rfl⟩, hs1.frame h2⟩) (fun u q ⟨i, hu, hr⟩ => by
    subst hu; subst hr
    rw [hd, put_some rfl]; exact h i _ rfl)
section
variable {ty : TypeId} {pos : String} {aft : Array Edge} {gd : Option (Nat × Bool)} {dt : Option Tmp}
/-- An element of an array, of one cell, of several. -/
theorem opv_idx1 {T e n sz : Nat} {x y : Operand} {cs : List Value} {kk : IntKind} {i : Int} {v : Value} (hT : Tryz.prog.underlying T = some (.array n e)) (ha : look aggL e = some false) (hz : look sizL e = some sz)
    (hx : opnd l x = some (.agg cs.toArray)) (hy : opnd l y = some (.int kk i)) (hi : 0 ≤ i ∧ i < n) (hv : cs[i.toNat * sz]? = some v) : OpVal Tryz.prog w0 S rs l ds ⟨dt, .index T x y, ty, pos, aft, gd⟩ v :=
  opv_index hx hy fun w _ => by
    simp [Instr.index, run_underlying hT, asIntOf, hi, go_sem, sizT hz, part, aggF ha, hv]
theorem opv_idxN {T e n sz : Nat} {x y : Operand} {cs vs : List Value} {kk : IntKind} {i : Int} (hT : Tryz.prog.underlying T = some (.array n e)) (ha : look aggL e = some true) (hz : look sizL e = some sz)
    (hx : opnd l x = some (.agg cs.toArray)) (hy : opnd l y = some (.int kk i)) (hi : 0 ≤ i ∧ i < n) (hv : (cs.drop (i.toNat * sz)).take sz = vs) : OpVal Tryz.prog w0 S rs l ds ⟨dt, .index T x y, ty, pos, aft, gd⟩ (.agg vs.toArray) :=
  opv_index hx hy fun w _ => by
    subst hv
    simp [Instr.index, run_underlying hT, asIntOf, hi, go_sem, sizT hz, part, aggT ha]
end
/-- A loop, round by round. -/
def roundsS (P : Program) (w0 : World) (S : List Nat) (c : Code) (Q : SP) : Nat → Act → List Res → Prop
  | 0, _, _ => False
  | n + 1, a, rs => wpS P w0 S c (thenS (roundsS P w0 S c Q n) Q) a rs
theorem roundsS_next {P : Program} {c : Code} {n : Nat} {a : Act} {rs : List Res} (h : ∀ K : Act → List Res → Prop, (∀ a rs, roundsS P w0 S c Q n a rs → K a rs) → wpS P w0 S c (thenS K Q) a rs) : roundsS P w0 S c Q (n + 1) a rs := h _ (fun _ _ h => h)
theorem wpS_rounds {P : Program} {c : Code} (n : Nat) {a : Act} {rs : List Res} (h : roundsS P w0 S c Q n a rs) : wpS P w0 S (.loop c) Q a rs := by
  intro w hw
  refine wp_loop_rounds n ?_
  induction n generalizing a rs w with
  | zero => exact h.elim
  | succ n ih =>
    rw [rounds_succ]
    refine Code.wp_mono ?_ (h w hw)
    rintro e a' w' ⟨rs', hs', hq⟩
    cases e <;> first | exact ih hq w' hs' | exact ⟨rs', hs', hq⟩
end
end Go.Proofs.YtmcaigmpcbkfpaaGreat
