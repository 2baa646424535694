/- A packet that came in. -/
import Derived.Test.YtmcaigmpcbkfpaaGreatHdr1
import Derived.Test.YtmcaigmpcbkfpaaGreatOrg4
set_option linter.unusedVariables false
set_option linter.unusedSimpArgs false
set_option maxRecDepth 100000
namespace Go.Proofs.YtmcaigmpcbkfpaaGreat
open Go.RowKit Go.ChangeShapes Go.WideShapes Go.Deep
structure PkWf (p : Pkt) : Prop where
  tos : -9223372036854775808 ≤ p.tos ∧ p.tos ≤ 9223372036854775807
  id : -9223372036854775808 ≤ p.id ∧ p.id ≤ 9223372036854775807
  off : -9223372036854775808 ≤ p.off ∧ p.off ≤ 9223372036854775807
  ttl : -9223372036854775808 ≤ p.ttl ∧ p.ttl ≤ 9223372036854775807
  proto : -9223372036854775808 ≤ p.proto ∧ p.proto ≤ 9223372036854775807
  src : 0 ≤ p.src ∧ p.src ≤ 4294967295
  dst : 0 ≤ p.dst ∧ p.dst ≤ 4294967295
  data : p.data.size ≤ maxLen
/-- A packet as a value in a world: its options as they lie there. -/
def PkIn (w : World) (u : Value) (p : Pkt) : Prop := ∃ v, u = pv p v ∧ Structs enOpt 2 w v p.opts
theorem open_structs1 {H : Type} {enc : TypeId × Value → H} {w : World} {α : Type} (en : α → List Value) (Ok : α → Prop) {t e : TypeId} {sz fuel : Nat} {v : Value} {x : DataW H × List MemPlace} (ht : Tryz.prog.underlying t = some (.slice e)) (hC : Tryz.prog.cellsOf e = sz)
    (he : ∀ n cs y, cs.length = sz → DataW.trod enc Tryz.prog w 0 (fun _ => true) true n e cs = some y → ∃ x : α, cs = en x ∧ Ok x)
    (h : DataW.trod enc Tryz.prog w 0 (fun _ => true) true fuel t [v] = some x) (hpos : 0 < sz) : ∃ l : List α, Structs en sz w v l ∧ (∀ x ∈ l, Ok x) := by
  have hv : ∃ a len cap, v = .slice a len cap := by
    rcases open_slice ht h with ⟨h0, _⟩ | ⟨a, len, cap, m, n, D, Pl, hcs, _⟩
    · injection h0 with h0; exact ⟨_, _, _, h0⟩
    · injection hcs with h0; exact ⟨_, _, _, h0⟩
  obtain ⟨a, len, cap, rfl⟩ := hv
  exact open_structs en Ok ht hC he ⟨_, _, _, rfl⟩ (by simpa [Value.cells] using h) hpos
theorem open_pktF {H : Type} {enc : TypeId × Value → H} {w : World} (n : Nat) (cs : List Value) (y : DataW H × List MemPlace) (hl : cs.length = 11)
    (h : DataW.trod enc Tryz.prog w 0 (fun _ => true) true n 35 cs = some y) : ∃ (p : Pkt) (v : Value), cs = pkCells p v ∧ Structs enOpt 2 w v p.opts ∧ PkWf p := by
  obtain ⟨m, hf⟩ := open_fields Tryz.underlying35 (by kernel_rfl) hl h
  match cs, hl with
  | [c0, c1, c2, c3, c4, c5, c6, c7, c8, c9, c10], _ =>
    obtain ⟨v0, y0, e0, h0⟩ := hf 0 _ rfl
    obtain ⟨v1, y1, e1, h1⟩ := hf 1 _ rfl
    obtain ⟨v2, y2, e2, h2⟩ := hf 2 _ rfl
    obtain ⟨v3, y3, e3, h3⟩ := hf 3 _ rfl
    obtain ⟨v4, y4, e4, h4⟩ := hf 4 _ rfl
    obtain ⟨v5, y5, e5, h5⟩ := hf 5 _ rfl
    obtain ⟨v6, y6, e6, h6⟩ := hf 6 _ rfl
    obtain ⟨v7, y7, e7, h7⟩ := hf 7 _ rfl
    obtain ⟨v8, y8, e8, h8⟩ := hf 8 _ rfl
    obtain ⟨v9, y9, e9, h9⟩ := hf 9 _ rfl
    obtain ⟨v10, y10, e10, h10⟩ := hf 10 _ rfl
    obtain ⟨a0, ha0, _, w0⟩ := DataW.trod_int Tryz.underlying3 h0
    obtain ⟨a1, ha1, _, w1⟩ := DataW.trod_int Tryz.underlying3 h1
    obtain ⟨a2, ha2, _⟩ := DataW.trod_bool Tryz.underlying4 h2
    obtain ⟨a3, ha3, _⟩ := DataW.trod_bool Tryz.underlying4 h3
    obtain ⟨a4, ha4, _, w4⟩ := DataW.trod_int Tryz.underlying3 h4
    obtain ⟨a5, ha5, _, w5⟩ := DataW.trod_int Tryz.underlying3 h5
    obtain ⟨a6, ha6, _, w6⟩ := DataW.trod_int Tryz.underlying3 h6
    obtain ⟨a7, ha7, _, w7⟩ := DataW.trod_int Tryz.underlying32 h7
    obtain ⟨a8, ha8, _, w8⟩ := DataW.trod_int Tryz.underlying32 h8
    obtain ⟨l, hs, -⟩ := open_structs1 enOpt _ Tryz.underlying33 (by kernel_rfl) open_opt h9 (by decide)
    obtain ⟨a10, ha10, _, w10⟩ := DataW.trod_string Tryz.underlying9 h10
    simp at ha0 ha1 ha2 ha3 ha4 ha5 ha6 ha7 ha8 ha10 e0 e1 e2 e3 e4 e5 e6 e7 e8 e9 e10
    subst ha0 ha1 ha2 ha3 ha4 ha5 ha6 ha7 ha8 ha10 e0 e1 e2 e3 e4 e5 e6 e7 e8 e9 e10
    exact ⟨⟨a0, a1, a2, a3, a4, a5, a6, a7, a8, l, a10⟩, _, rfl, hs, wf_i64 w0, wf_i64 w1, wf_i64 w4, wf_i64 w5, wf_i64 w6, wf_u32 w7, wf_u32 w8, w10⟩
theorem open_pktv {H : Type} {enc : TypeId × Value → H} {w : World} {n : Nat} {u : Value} {y : DataW H × List MemPlace} {r : Reach} {b0 : Nat} (hv : Value.okWide Tryz.prog w r b0 35 u)
    (h : DataW.trod enc Tryz.prog w 0 (fun _ => true) true n 35 u.cells.toList = some y) : ∃ (p : Pkt) (v : Value), u = pv p v ∧ Structs enOpt 2 w v p.opts ∧ PkWf p := by
  obtain ⟨cs, rfl, hc⟩ := Go.WideShapes.okWide_struct Tryz.underlying35 hv
  have hc11 : cs.size = 11 := hc.trans (by kernel_rfl)
  obtain ⟨p, v, hs, hw, hd⟩ := open_pktF n cs.toList y (by simpa using hc11) (by simpa [Value.cells] using h)
  refine ⟨p, v, ?_, hw, hd⟩
  rw [show cs = (pkCells p v).toArray from by rw [← hs]]
end Go.Proofs.YtmcaigmpcbkfpaaGreat
set_option maxRecDepth 100000
namespace Go.Proofs.YtmcaigmpcbkfpaaGreat
open Go.RowKit Go.ChangeShapes Go.WideShapes Go.Deep
/-- A struct's fields, of whatever sizes. -/
theorem open_parts {H : Type} {enc : TypeId × Value → H} {w : World} {t : TypeId} {fs : Array Field} {n : Nat} {cs : List Value} {y : DataW H × List MemPlace} (ht : Tryz.prog.underlying t = some (.struct fs))
    (h : DataW.trod enc Tryz.prog w 0 (fun _ => true) true n t cs = some y) :
    ∃ m, ∀ (j : Nat) (f : Field) (k : Nat), fs[j]? = some f → Tryz.prog.cellsOf f.type = k → ∃ (y : DataW H × List MemPlace), DataW.trod enc Tryz.prog w 0 (fun _ => true) true m f.type ((cs.drop f.offset).take k) = some y := by
  obtain ⟨ys, m, _, _, _, hyl, hf⟩ := DataW.trod_struct ht h
  refine ⟨m, fun j f k hj hk => ?_⟩
  have hjl : j < fs.size := (Array.getElem?_eq_some_iff.1 hj).1
  have h1 := hf j f hj
  rw [hk] at h1
  exact ⟨_, h1.trans (List.getElem?_eq_getElem (by omega))⟩
/-- A packet, and its options as they lie there. -/
abbrev PkV := Pkt × Value
def enPk (x : PkV) : List Value := pkCells x.1 x.2
def PkOk (w : World) (x : PkV) : Prop := Structs enOpt 2 w x.2 x.1.opts ∧ PkWf x.1
theorem open_pk {H : Type} {enc : TypeId × Value → H} {w : World} (n : Nat) (cs : List Value) (y : DataW H × List MemPlace) (hl : cs.length = 11)
    (h : DataW.trod enc Tryz.prog w 0 (fun _ => true) true n 35 cs = some y) : ∃ x : PkV, cs = enPk x ∧ PkOk w x := by
  obtain ⟨p, v, e, h1, h2⟩ := open_pktF n cs y hl h
  exact ⟨(p, v), e, h1, h2⟩
end Go.Proofs.YtmcaigmpcbkfpaaGreat
set_option maxRecDepth 100000
namespace Go.Proofs.YtmcaigmpcbkfpaaGreat
open Go.RowKit Go.ChangeShapes Go.WideShapes Go.Deep
structure OAct where
  kind : Int
  ty : Int
  code : Int
  src : Int
  word : Int
  p : Pkt
abbrev actCells (a : OAct) (v : Value) : List Value := [.int .i64 a.kind, .int .i64 a.ty, .int .i64 a.code, .int .u32 a.src, .int .u32 a.word, .int .i64 a.p.tos, .int .i64 a.p.id, .bool a.p.df, .bool a.p.mf, .int .i64 a.p.off, .int .i64 a.p.ttl, .int .i64 a.p.proto, .int .u32 a.p.src, .int .u32 a.p.dst, v, .string a.p.data]
abbrev actv (a : OAct) (v : Value) : Value := .agg #[.int .i64 a.kind, .int .i64 a.ty, .int .i64 a.code, .int .u32 a.src, .int .u32 a.word, .int .i64 a.p.tos, .int .i64 a.p.id, .bool a.p.df, .bool a.p.mf, .int .i64 a.p.off, .int .i64 a.p.ttl, .int .i64 a.p.proto, .int .u32 a.p.src, .int .u32 a.p.dst, v, .string a.p.data]
def enAct (x : OAct × Value) : List Value := actCells x.1 x.2
structure ActOk (w : World) (x : OAct × Value) : Prop where
  opts : Structs enOpt 2 w x.2 x.1.p.opts
  pk : PkWf x.1.p
  src : 0 ≤ x.1.src ∧ x.1.src ≤ 4294967295
  word : 0 ≤ x.1.word ∧ x.1.word ≤ 4294967295
theorem open_act {H : Type} {enc : TypeId × Value → H} {w : World} (n : Nat) (cs : List Value) (y : DataW H × List MemPlace) (hl : cs.length = 16)
    (h : DataW.trod enc Tryz.prog w 0 (fun _ => true) true n 37 cs = some y) : ∃ x : OAct × Value, cs = enAct x ∧ ActOk w x := by
  obtain ⟨m, hf⟩ := open_parts Tryz.underlying37 h
  match cs, hl with
  | [c0, c1, c2, c3, c4, c5, c6, c7, c8, c9, c10, c11, c12, c13, c14, c15], _ =>
    obtain ⟨y0, h0⟩ := hf 0 _ 1 rfl (by kernel_rfl)
    obtain ⟨y1, h1⟩ := hf 1 _ 1 rfl (by kernel_rfl)
    obtain ⟨y2, h2⟩ := hf 2 _ 1 rfl (by kernel_rfl)
    obtain ⟨y3, h3⟩ := hf 3 _ 1 rfl (by kernel_rfl)
    obtain ⟨y4, h4⟩ := hf 4 _ 1 rfl (by kernel_rfl)
    obtain ⟨y5, h5⟩ := hf 5 _ 11 rfl (by kernel_rfl)
    obtain ⟨a0, ha0, _, w0⟩ := DataW.trod_int Tryz.underlying3 h0
    obtain ⟨a1, ha1, _, w1⟩ := DataW.trod_int Tryz.underlying3 h1
    obtain ⟨a2, ha2, _, w2⟩ := DataW.trod_int Tryz.underlying3 h2
    obtain ⟨a3, ha3, _, w3⟩ := DataW.trod_int Tryz.underlying32 h3
    obtain ⟨a4, ha4, _, w4⟩ := DataW.trod_int Tryz.underlying32 h4
    obtain ⟨p, v, hp, h6, h7⟩ := open_pktF m _ y5 rfl h5
    simp at ha0 ha1 ha2 ha3 ha4 hp
    obtain ⟨e1, e2, e3, e4, e5, e6, e7, e8, e9, e10, e11⟩ := hp
    subst ha0 ha1 ha2 ha3 ha4 e1 e2 e3 e4 e5 e6 e7 e8 e9 e10 e11
    exact ⟨(⟨a0, a1, a2, a3, a4, p⟩, _), rfl, h6, h7, wf_u32 w3, wf_u32 w4⟩
/-- Are there more acts, or greater packets, than is asked of? -/
def greatActs (l : List (OAct × Value)) : Bool := l.any (fun x => great05 x.1.p || decide ((2000 : Int) < (x.1.p.data.size : Int))) || decide (60 < l.length)
theorem greatActs_not {l : List (OAct × Value)} (h : greatActs l = false) : l.length ≤ 60 ∧ ∀ x ∈ l, great05 x.1.p = false ∧ x.1.p.data.size ≤ 2000 := by
  unfold greatActs at h
  simp only [Bool.or_eq_false_iff, decide_eq_false_iff_not, List.any_eq_false] at h
  refine ⟨by omega, fun x hx => ?_⟩
  have := h.1 x hx
  simp only [Bool.or_eq_true, decide_eq_true_eq, not_or] at this
  exact ⟨by simpa using this.1, by omega⟩
theorem act_at {w : World} {A : Option Addr} {n cap : Nat} {l : List (OAct × Value)} (hr : Structs enAct 16 w (.slice A n cap) l) (k : Nat) (hlt : k < l.length) : ∃ b off, A = some ⟨b, off, none⟩ ∧
    Hid (∀ w', Mod [] w w' → (Instr.loadAt 37 (.pointer (some ⟨b, off + k * 16, none⟩))).run Tryz.prog w' = .ok (actv l[k].1 l[k].2) w') ∧
    Hid (∀ w', Mod [] w w' → (Instr.loadAt 35 (.pointer (some ⟨b, off + k * 16 + 5, none⟩))).run Tryz.prog w' = .ok (pv l[k].1.p l[k].2) w') ∧
    Hid (∀ w', Mod [] w w' → (Instr.loadAt 9 (.pointer (some ⟨b, off + k * 16 + 15, none⟩))).run Tryz.prog w' = .ok (.string l[k].1.p.data) w') := by
  obtain ⟨b, off, rfl, hcell⟩ := hr.gets k hlt (by simp [enAct])
  exact ⟨b, off, rfl, Lib.hid fun w' hm => run_loadN (vs := enAct l[k]) (aggT rfl) (sizT rfl) (fun j v hj => hcell w' hm j v hj),
    Lib.hid fun w' hm => run_loadN (vs := pkCells l[k].1.p l[k].2) (aggT rfl) (sizT rfl) (fun j v hj => by have := hcell w' hm (5 + j) v (by rw [← List.getElem?_drop]; exact hj); rwa [← Nat.add_assoc] at this),
    Lib.hid fun w' hm => run_load1 (aggF rfl) (hcell w' hm 15 _ rfl)⟩
end Go.Proofs.YtmcaigmpcbkfpaaGreat
