/- Package segment: the ports; the document's example. -/
import Derived.Test.YtmcaigmpcbkfpaaGreatSeg3
import Derived.Test.YtmcaigmpcbkfpaaGreatOpen
import Derived.Test.YtmcaigmpcbkfpaaGreatMSum
import Derived.Test.YtmcaigmpcbkfpaaGreatNot3
import Derived.Test.YtmcaigmpcbkfpaaGreatHdr3
set_option linter.unusedVariables false
set_option linter.unusedSimpArgs false
namespace Go.Proofs.YtmcaigmpcbkfpaaGreat
set_option maxRecDepth 8000
attribute [local irreducible] blk wpS seqS ordS OpVal RV endS LoadV StoreV Calls
open Go.RowKit
theorem segBytes_front (p src dst : Int) (s : Seg) : ∃ r, segBytes p src dst s = b8 (s.sp / 256) :: b8 s.sp :: b8 (s.dp / 256) :: b8 s.dp :: r := by
  unfold segBytes segB segBody segAt
  split
  · rw [strOf_extract, udpBody]
    simp only [List.flatMap_cons, nbs2, List.cons_append, List.nil_append, List.drop_zero, Nat.sub_zero, List.take_succ_cons, strOf_data]
    exact ⟨_, rfl⟩
  · rw [strOf_extract, tcpBody]
    simp only [List.flatMap_cons, nbs2, List.cons_append, List.nil_append, List.drop_zero, Nat.sub_zero, List.take_succ_cons, strOf_data]
    exact ⟨_, rfl⟩
theorem segBody_size {p : Int} {s : Seg} (h : segRight p s = true) (hw : segWf s) : segAt p + 2 ≤ (segBody p s).size ∧ 8 ≤ (segBody p s).size ∧ (segBody p s).size ≤ 65535 := by
  have := (segRight_fits h hw).2.2.2.2.2.2
  unfold segBody segAt
  split
  · rw [strOf_size, udpBody_len]; omega
  · rw [strOf_size, tcpBody_len]; omega
theorem segBytes_len {p src dst : Int} {s : Seg} (h : segRight p s = true) (hw : segWf s) : (segBytes p src dst s).length = (segBody p s).size := segB_len _ _ _ (segBody_size h hw).1
def exTcp : Seg := ⟨0, 0, 0, 0, 2, 0, ⟨#[]⟩⟩
def exUdp : Seg := ⟨0, 0, 0, 0, 0, 0, ⟨#[97, 98]⟩⟩
theorem open_segF {H : Type} {enc : TypeId × Value → H} {w : World} (n : Nat) (cs : List Value) (y : DataW H × List MemPlace) (hl : cs.length = 7)
    (h : DataW.trod enc Tryz.prog w 0 (fun _ => true) true n 59 cs = some y) : ∃ s : Seg, cs = enSeg s ∧ segWf s ∧ s.d.size ≤ maxLen := by
  obtain ⟨m, hf⟩ := open_fields Tryz.underlying59 (by kernel_rfl) hl h
  match cs, hl with
  | [c0, c1, c2, c3, c4, c5, c6], _ =>
    obtain ⟨v0, y0, e0, h0⟩ := hf 0 _ rfl
    obtain ⟨v1, y1, e1, h1⟩ := hf 1 _ rfl
    obtain ⟨v2, y2, e2, h2⟩ := hf 2 _ rfl
    obtain ⟨v3, y3, e3, h3⟩ := hf 3 _ rfl
    obtain ⟨v4, y4, e4, h4⟩ := hf 4 _ rfl
    obtain ⟨v5, y5, e5, h5⟩ := hf 5 _ rfl
    obtain ⟨v6, y6, e6, h6⟩ := hf 6 _ rfl
    obtain ⟨a0, q0, _, w0⟩ := DataW.trod_int Tryz.underlying3 h0
    obtain ⟨a1, q1, _, w1⟩ := DataW.trod_int Tryz.underlying3 h1
    obtain ⟨a2, q2, _, w2⟩ := DataW.trod_int Tryz.underlying32 h2
    obtain ⟨a3, q3, _, w3⟩ := DataW.trod_int Tryz.underlying32 h3
    obtain ⟨a4, q4, _, w4⟩ := DataW.trod_int Tryz.underlying3 h4
    obtain ⟨a5, q5, _, w5⟩ := DataW.trod_int Tryz.underlying3 h5
    obtain ⟨a6, q6, _, w6⟩ := DataW.trod_string Tryz.underlying9 h6
    simp at q0 q1 q2 q3 q4 q5 q6 e0 e1 e2 e3 e4 e5 e6
    subst q0; subst q1; subst q2; subst q3; subst q4; subst q5; subst q6
    subst e0; subst e1; subst e2; subst e3; subst e4; subst e5; subst e6
    exact ⟨⟨a0, a1, a2, a3, a4, a5, a6⟩, rfl, ⟨wf_u32 w2, wf_u32 w3, wf_i64 w0, wf_i64 w1, wf_i64 w4, wf_i64 w5⟩, w6⟩
theorem open_segv {H : Type} {enc : TypeId × Value → H} {w : World} {n : Nat} {v : Value} {y : DataW H × List MemPlace} {r : Reach} {b0 : Nat} (hv : Value.okWide Tryz.prog w r b0 59 v)
    (h : DataW.trod enc Tryz.prog w 0 (fun _ => true) true n 59 v.cells.toList = some y) : ∃ s : Seg, v = sv s ∧ segWf s ∧ s.d.size ≤ maxLen := by
  obtain ⟨cs, rfl, hc⟩ := Go.WideShapes.okWide_struct Tryz.underlying59 hv
  have hc7 : cs.size = 7 := hc.trans (by kernel_rfl)
  obtain ⟨s, hs, hw, hd⟩ := open_segF n cs.toList y (by simpa using hc7) (by simpa [Value.cells] using h)
  refine ⟨s, ?_, hw, hd⟩
  rw [show cs = (enSeg s).toArray from by rw [← hs]]
end Go.Proofs.YtmcaigmpcbkfpaaGreat
namespace Go.Proofs.YtmcaigmpcbkfpaaGreat
set_option maxRecDepth 8000
attribute [local irreducible] blk wpS seqS ordS OpVal RV endS LoadV StoreV Calls
open Go.RowKit
/-! ### A reader that must fail -/
/-- It has failed, or fewer bytes are left than of 20, n of which were asked for, are missing. -/
def rdrN (p n : Nat) : Res where
  foot := [p]
  holds := fun w => ∃ st, Rd w p st ∧ (st.1 = true ∨ st.2.size + n < 20)
  loc := fun w w' h ⟨st, h1, h2⟩ => ⟨st, (rdr p st).loc w w' (by simpa [rdr] using h) h1, h2⟩
  ex := fun w ⟨st, h1, _⟩ n hn => (rdr p st).ex w h1 n (by simpa [rdr] using hn)
theorem rTakeN {st : Bool × ByteArray} {n : Nat} (m : Nat) (h : st.1 = true ∨ st.2.size + n < 20) : (rTake st m).2.1 = true ∨ (rTake st m).2.2.size + (n + m) < 20 := by
  unfold rTake
  split
  · rename_i h1; exact .inl h1
  · rename_i h1
    split
    · exact .inl rfl
    · rename_i h2
      right
      have h3 := h.resolve_left h1
      simp only [ByteArray.size_extract]
      omega
section
variable {p n : Nat} {w : World}
theorem rByteN (h : (rdrN p n).holds w) : Calls Tryz.prog 68 #[ptr0 p] w (Turns (rdrN p n) (fun v : Int => .int .i64 v) (fun _ => rdrN p (n + 1)) w) := by
  obtain ⟨st, h1, h2⟩ := h
  exact (rByte_any (st := st) h1).mono fun e w' ⟨he, hr, hm⟩ => ⟨_, he, ⟨_, hr, rTakeN 1 h2⟩, hm, fun k hk => .inl hk⟩
theorem rShortN (h : (rdrN p n).holds w) : Calls Tryz.prog 69 #[ptr0 p] w (Turns (rdrN p n) (fun v : Int => .int .i64 v) (fun _ => rdrN p (n + 2)) w) := by
  obtain ⟨st, h1, h2⟩ := h
  exact (rShort_any' (st := st) h1).mono fun e w' ⟨he, hr, hm⟩ => ⟨_, he, ⟨_, hr, rTakeN 2 h2⟩, hm, fun k hk => .inl hk⟩
theorem rWordN (h : (rdrN p n).holds w) : Calls Tryz.prog 70 #[ptr0 p] w (Turns (rdrN p n) (fun v : Int => .int .u32 v) (fun _ => rdrN p (n + 4)) w) := by
  obtain ⟨st, h1, h2⟩ := h
  exact (rWord_any (st := st) h1).mono fun e w' ⟨he, hr, hm⟩ => ⟨_, he, ⟨_, hr, rTakeN 4 h2⟩, hm, fun k hk => .inl hk⟩
theorem rTake5N (h : (rdrN p n).holds w) : Calls Tryz.prog 110 #[ptr0 p, .int .i64 5] w (Turns (rdrN p n) (fun v : ByteArray => .string v) (fun _ => rdrN p (n + 5)) w) := by
  obtain ⟨st, h1, h2⟩ := h
  exact (Take_any (st := st) h1 5).mono fun e w' ⟨he, hr, hm⟩ => ⟨_, he, ⟨_, hr, rTakeN 5 h2⟩, hm, fun k hk => .inl hk⟩
theorem rOkN (h : (rdrN p 20).holds w) : Calls Tryz.prog 134 #[ptr0 p] w fun e w' => e = .returned (.bool false) ∧ Mod [] w w' := by
  obtain ⟨st, h1, h2⟩ := h
  have h3 : st.1 = true := h2.resolve_right (by omega)
  exact (Ok_any (st := st) h1).mono fun e w' ⟨he, hm⟩ => ⟨by rw [he, h3]; rfl, hm ▸ Mod.refl _ _⟩
end
/-! ### The beginning -/
theorem rTake5_list {p : Nat} {w : World} {a b c d e : UInt8} {l : List UInt8} (h : (rdr p (false, strOf (a :: b :: c :: d :: e :: l))).holds w) :
    Calls Tryz.prog 110 #[ptr0 p, .int .i64 5] w fun x w' => x = .returned (.string (strOf [a, b, c, d, e])) ∧ (rdr p (false, strOf l)).holds w' ∧ Mod (rdr p (false, strOf (a :: b :: c :: d :: e :: l))).foot w w' := by
  have := rTake_R 5 (l := a :: b :: c :: d :: e :: l) (by simp) h
  simpa using this
section
variable {P q : Nat} {w : World}
end
end Go.Proofs.YtmcaigmpcbkfpaaGreat
namespace Go.Proofs.YtmcaigmpcbkfpaaGreat
set_option maxRecDepth 8000
attribute [local irreducible] blk wpS seqS ordS OpVal RV endS LoadV StoreV Calls
open Go.RowKit
structure Key where
  src : Int
  dst : Int
  proto : Int
  sport : Int
  dport : Int
abbrev kv (k : Key) : Value := .agg #[.int .u32 k.src, .int .u32 k.dst, .int .i64 k.proto, .int .i64 k.sport, .int .i64 k.dport]
def noKey : Key := ⟨0, 0, 0, 0, 0⟩
/-- The ports of what is begun, or its identifier. -/
def portsIn (p : Int) : List UInt8 → Option (Int × Int)
  | b0 :: b1 :: b2 :: b3 :: b4 :: b5 :: _ :: _ :: _ => if p = 1 then (if b0 = 8 ∨ b0 = 0 then some (sh b4 b5, sh b4 b5) else none) else if p = 6 ∨ p = 17 then some (sh b0 b1, sh b2 b3) else none
  | _ => none
def innerOf : List UInt8 → Option Key
  | a0 :: _ :: _ :: _ :: _ :: _ :: a6 :: a7 :: _ :: a9 :: _ :: _ :: a12 :: a13 :: a14 :: a15 :: a16 :: a17 :: a18 :: a19 :: r =>
    if (a0.toNat : Int) / 16 ≠ 4 ∨ (a0.toNat : Int) % 16 < 5 then none
    else if (r.length : Int) < (a0.toNat : Int) % 16 * 4 - 20 then none
    else if sh a6 a7 % 8192 ≠ 0 then none
    else match portsIn a9.toNat (r.drop ((a0.toNat : Int) % 16 * 4 - 20).toNat) with
      | some (x, y) => some ⟨w4 a12 a13 a14 a15, w4 a16 a17 a18 a19, a9.toNat, x, y⟩
      | none => none
  | _ => none
theorem inner_short {l : List UInt8} (h : l.length < 20) : innerOf l = none := by
  unfold innerOf
  split
  · simp only [List.length_cons] at h; omega
  · rfl
abbrev keyVal (k : Option Key) : Value := match k with
  | some k => .tuple #[kv k, .bool true]
  | none => .tuple #[kv noKey, .bool false]
theorem rTake3_list {p : Nat} {w : World} {a b c : UInt8} {l : List UInt8} (h : (rdr p (false, strOf (a :: b :: c :: l))).holds w) :
    Calls Tryz.prog 110 #[ptr0 p, .int .i64 3] w fun x w' => x = .returned (.string (strOf [a, b, c])) ∧ (rdr p (false, strOf l)).holds w' ∧ Mod (rdr p (false, strOf (a :: b :: c :: l))).foot w w' := by
  have := rTake_R 3 (l := a :: b :: c :: l) (by simp) h
  simpa using this
end Go.Proofs.YtmcaigmpcbkfpaaGreat
