/- A row of bytes that was made of a string: a byte is read, a byte is stored, a string is made of it again. -/
import Derived.Test.YtmcaigmpcbkfpaaGreatCall
import Derived.Laws.IdiomStrings
set_option linter.unusedVariables false
set_option linter.unusedSimpArgs false
namespace Go.Proofs.YtmcaigmpcbkfpaaGreat
open Go.RowKit
/-- Block b holds the bytes l, and room for more. -/
def byt (b : Nat) (l : List UInt8) : Res where
  foot := [b]
  holds := fun w => ∃ (C : Array Value) (fz : Nat × Nat), w.heap[b]? = some (.cells C 5 fz) ∧ l.length ≤ C.size ∧ C.size ≤ fz.1 ∧ ∀ i (h : i < l.length), C[i]? = some (.int .u8 (l[i].toNat : Int))
  loc := fun w w' h ⟨C, fz, h1, h2⟩ => ⟨C, fz, by rw [h b (by simp)]; exact h1, h2⟩
  ex := fun w ⟨C, fz, h1, _⟩ n hn => by
    simp at hn; subst hn
    exact (Array.getElem?_eq_some_iff.1 h1).1
theorem byt_cell {w : World} {b : Nat} {l : List UInt8} (h : (byt b l).holds w) (k : Nat) (hk : k < l.length) : w.cell? ⟨b, k, none⟩ = some (.int .u8 (l[k].toNat : Int)) := by
  obtain ⟨C, fz, h1, h2, h3, h4⟩ := h
  simp [World.cell?, h1, h4 k hk]
theorem byt_free {w : World} {b : Nat} {l : List UInt8} (h : (byt b l).holds w) (k : Nat) (hk : k < l.length) : w.frozen? ⟨b, k, none⟩ = false := by
  obtain ⟨C, fz, h1, h2, h3, h4⟩ := h
  simp [World.frozen?, h1]
  omega
theorem byt_set {w : World} {b : Nat} {l : List UInt8} (h : (byt b l).holds w) (k : Nat) (n : Int) (hn : 0 ≤ n ∧ n ≤ 255) : (byt b (l.set k (b8 n))).holds (w.setCell ⟨b, k, none⟩ (.int .u8 n)) := by
  obtain ⟨C, fz, h1, h2, h3, h4⟩ := h
  have hlt := (Array.getElem?_eq_some_iff.1 h1).1
  have hb8 : ((b8 n).toNat : Int) = n := by unfold b8; rw [UInt8.toNat_ofNat']; omega
  refine ⟨C.setIfInBounds k (.int .u8 n), fz, ?_, by simpa using h2, by simpa using h3, fun i hi => ?_⟩
  · have h' : w.heap[b] = .cells C 5 fz := by simpa [Array.getElem?_eq_getElem hlt] using h1
    show (w.heap.modify b _)[b]? = _
    rw [Array.getElem?_eq_getElem (by simpa using hlt), Array.getElem_modify_self, h']
    rfl
  · simp only [List.length_set] at hi
    by_cases e : k = i
    · subst e
      rw [List.getElem_set_self, hb8, Array.getElem?_setIfInBounds_self_of_lt (by omega)]
    · rw [List.getElem_set_ne e, Array.getElem?_setIfInBounds_ne e]
      exact h4 i hi
theorem byt_store {w : World} {b : Nat} {l : List UInt8} (h : (byt b l).holds w) (k : Nat) (hk : k < l.length) (n : Int) (hn : 0 ≤ n ∧ n ≤ 255) :
    ∃ w', (Instr.storeAt 5 (.pointer (some ⟨b, k, none⟩)) (.int .u8 n)).run Tryz.prog w = .ok () w' ∧ (byt b (l.set k (b8 n))).holds w' ∧ Mod [b] w w' :=
  ⟨_, run_store1 (sizT rfl) rfl (byt_cell h k hk) (byt_free h k hk), byt_set h k n hn, (Mod.refl _ _).setCell (fun _ => by simp) _⟩
section
variable {w0 : World} {S : List Nat} {Q : SP} {ops : Array Oper} {rs : List Res} {l l' : List Value} {ds : List Deferred} {d : Tmp} {rest : List Oper} {ty : TypeId} {pos : String} {aft : Array Edge} {gd : Option (Nat × Bool)} {dt : Option Tmp}
/-- '[]byte(s)'. -/
theorem seqS_tobytes {x : Operand} {s : ByteArray} (hw : Region.wanted ⟨some d, .convert 9 118 x, ty, pos, aft, gd⟩ (yielded ops l.toArray) = true) (hx : opnd l x = some (.string s))
    (h : ∀ m cap l', l.set d (.slice (some ⟨m, 0, none⟩) s.size cap) = l' → seqS Tryz.prog w0 S ops Q rest ⟨l'.toArray, ds⟩ (byt m s.data.toList :: rs)) :
    seqS Tryz.prog w0 S ops Q (⟨some d, .convert 9 118 x, ty, pos, aft, gd⟩ :: rest) ⟨l.toArray, ds⟩ rs :=
  seqS_act (Φ := fun u q => ∃ m cap, u = .slice (some ⟨m, 0, none⟩) s.size cap ∧ q = byt m s.data.toList :: rs) hw (fun w hs => by
    simp only [execOp, opnd_eval hx, Sem.run_bind, run_bytes_of_string (P := Tryz.prog) w 9 118 5 s Tryz.underlying9 Tryz.underlying118 Tryz.underlying5, Result.andThen_ok, Sem.run_pure]
    refine ⟨_, _, rfl, ⟨w.heap.size, _, rfl, rfl⟩, hs.add ((Mod.refl _ _).drew.alloc _) ⟨bytesRow s (grownCap w s.size 0 5), ((bytesRow s (grownCap w s.size 0 5)).size, (bytesRow s (grownCap w s.size 0 5)).size + 1), ?_, ?_, Nat.le_refl _, fun i hi => ?_⟩ (by simp [byt])⟩
    · show (w.heap.push _)[w.heap.size]? = _
      simp
    · simp [bytesRow]
    · rw [bytesRow_at s _ i (by simpa using hi)]; simp)
    (fun u q ⟨m, cap, hu, hq⟩ => by subst hu; subst hq; rw [put_some rfl]; exact h m cap _ rfl)
/-- 'string(b)'. -/
theorem opv_byt {x : Operand} {b n cap : Nat} {lb : List UInt8} (hx : opnd l x = some (.slice (some ⟨b, 0, none⟩) n cap)) (hm : byt b lb ∈ rs) (hn : n = lb.length) :
    OpVal Tryz.prog w0 S rs l ds ⟨dt, .convert 118 9 x, ty, pos, aft, gd⟩ (.string (strOf lb)) := fun w hs => by
  subst hn
  have h := hs.all _ hm
  simp only [execOp, opnd_eval hx, Sem.run_bind, run_convert_bytes_back (P := Tryz.prog) w 118 9 5 ⟨b, 0, none⟩ cap lb Tryz.underlying118 Tryz.underlying5 Tryz.underlying9 (fun j hj => by
    rw [show (⟨b, 0, none⟩ : Addr).add j = ⟨b, j, none⟩ from by unfold Addr.add; split <;> simp_all]
    exact byt_cell h j hj), Result.andThen_ok]
  rfl
theorem opv_ldb {x : Operand} {b k : Nat} {lb : List UInt8} (hx : opnd l x = some (.pointer (some ⟨b, k, none⟩))) (hm : byt b lb ∈ rs) (hk : k < lb.length) : OpVal Tryz.prog w0 S rs l ds ⟨dt, .load 5 x, ty, pos, aft, gd⟩ (.int .u8 (lb[k].toNat : Int)) := fun w hs => by
  have := run_load1 (P := Tryz.prog) (T := 5) (aggF rfl) (byt_cell (hs.all _ hm) k hk)
  simp only [execOp, opnd_eval hx, Sem.run_bind, this]; rfl
section
variable {rsX : List Res} {rsS : St} {B : Nat} {gl : GL} {i : Nat} {orest : List Nat} {ol : List Oper}
theorem ordS_ldb {x : Operand} {b k : Nat} {lb : List UInt8} (ho : ol[i]? = some ⟨some d, .load 5 x, ty, pos, aft, gd⟩) (hw : Region.wanted ⟨some d, .load 5 x, ty, pos, aft, gd⟩ (yielded ol.toArray l.toArray) = true)
    (hx : opnd l x = some (.pointer (some ⟨b, k, none⟩))) (hm : byt b lb ∈ rs) (hk : k < lb.length) (hl : l.set d (.int .u8 (lb[k].toNat : Int)) = l')
    (h : ordS Tryz.prog w0 S Q rsS B ol.toArray orest l' ds gl rs) : ordS Tryz.prog w0 S Q rsS B ol.toArray (i :: orest) l ds gl rs :=
  ordS_actv ho hw rfl rfl (fun w hs => by
    have := run_load1 (P := Tryz.prog) (T := 5) (aggF rfl) (byt_cell (hs.all _ hm) k hk)
    simp only [execOp, opnd_eval hx, Sem.run_bind, this]; rfl) hl h
theorem ordS_stb {x y : Operand} {b k : Nat} {lb : List UInt8} {n : Int} {rs' : List Res} (ho : ol[i]? = some ⟨none, .store 5 x y, ty, pos, aft, gd⟩) (hw : Region.wanted ⟨none, .store 5 x y, ty, pos, aft, gd⟩ (yielded ol.toArray l.toArray) = true)
    (hx : opnd l x = some (.pointer (some ⟨b, k, none⟩))) (hy : opnd l y = some (.int .u8 n)) (hu : Upd (byt b lb) (byt b (lb.set k (b8 n))) rs rs') (hk : k < lb.length) (hn : 0 ≤ n ∧ n ≤ 255) (hou : Out (byt b lb) rs rsX) (hsub : rsS.1.Sublist rsX) (hxs : ∀ x ∈ rsS.2, ∃ cs t, blk x.1 cs t ∈ rsX)
    (h : ordS Tryz.prog w0 S Q rsS B ol.toArray orest l ds gl rs') : ordS Tryz.prog w0 S Q rsS B ol.toArray (i :: orest) l ds gl rs := fun hnd hi =>
  ord_store (lookL ho) hw rfl (sepRes w0 S rs') (fun w hC hR => by
    have hs : Sep w0 S rs w := ⟨hC.1.mod, hR.1, hR.2.1, hR.2.2⟩
    obtain ⟨w', hr, hb, hm⟩ := byt_store (hs.all _ hu.mem) k hk n hn
    have hs' := hs.updU hu hm hb (fun n hn => .inl hn)
    refine ⟨w', ?_, hs.stay hou hsub hxs hC hm, ⟨hs'.all, hs'.old, hs'.dis⟩, Kp.updU hu hm (fun n hn => .inl hn)⟩
    simp only [execOp, opnd_eval hx, opnd_eval hy, Sem.run_bind, hr]
    rfl) (h hnd hi)
end
end
theorem wpS_drawO {w0 : World} {S : List Nat} {Q : SP} {rs : List Res} {l : List Value} {ds : List Deferred} {id : Nat} {ol : List Oper} (ord : List Nat) (hm : Tryz.prog.follows .mixedOrders = true) (hB : Region.ordB .any ol ord = true)
    (h : ∀ B, w0.heap.size ≤ B → (∀ r ∈ rs, ∀ n ∈ r.foot, n < B) → ordS Tryz.prog w0 S Q (rs, []) B ol.toArray ord l ds [] rs) : wpS Tryz.prog w0 S (.region id ol.toArray true) Q ⟨l.toArray, ds⟩ rs :=
  wpS_draw ord (rs, []) (List.Sublist.refl _) (by simp) hm hB h
theorem isBinAt {w0 : World} {S : List Nat} {Q : SP} {ops : Array Oper} {rs : List Res} {a : Act} {rest : List Oper} {d : Option Tmp} {ty : TypeId} {pos : String} {aft : Array Edge} {gd : Option (Nat × Bool)} (bo : BinOp) (T : TypeId) {x y : Operand} {U : TypeId} (h : seqS Tryz.prog w0 S ops Q (⟨d, .binOp bo T x y U, ty, pos, aft, gd⟩ :: rest) a rs) :
    seqS Tryz.prog w0 S ops Q (⟨d, .binOp bo T x y U, ty, pos, aft, gd⟩ :: rest) a rs := h
/-! ### One bit turned -/
theorem xor_turn (a : UInt8) (j : Nat) (hj : j < 8) : ∃ n : Int, bits .xor .u8 (a.toNat : Int) (2 ^ j) = n ∧ (0 ≤ n ∧ n ≤ 255) ∧ b8 n ≠ a := by
  have hp : (2 : Nat) ^ j < 2 ^ 8 := Nat.pow_lt_pow_right (by decide) hj
  have h8 : (2 : Nat) ^ 8 = 256 := by decide
  have ha := a.toNat_lt
  have hx : a.toNat ^^^ 2 ^ j < 2 ^ 8 := Nat.xor_lt_two_pow (by omega) hp
  have hb : IntKind.u8.bits = 8 := rfl
  have hc : ((2 : Int) ^ j) = ((2 ^ j : Nat) : Int) := by simp
  have e1 : a.toNat % 2 ^ 8 = a.toNat := Nat.mod_eq_of_lt (by omega)
  have e2 : 2 ^ j % 2 ^ 8 = 2 ^ j := Nat.mod_eq_of_lt hp
  refine ⟨((a.toNat ^^^ 2 ^ j : Nat) : Int), ?_, by omega, fun e => ?_⟩
  · rw [hc]
    simp only [bits, hb, BitVec.ofInt_natCast, BitVec.toNat_xor, BitVec.toNat_ofNat, e1, e2]
    exact IntWalk.u8_in _ (by omega)
  · have h1 : ((b8 ((a.toNat ^^^ 2 ^ j : Nat) : Int)).toNat : Int) = ((a.toNat ^^^ 2 ^ j : Nat) : Int) := by unfold b8; rw [UInt8.toNat_ofNat']; omega
    rw [e] at h1
    have h2 : a.toNat ^^^ 2 ^ j = a.toNat := by omega
    have h3 := congrArg (fun n => n.testBit j) h2
    simp [Nat.testBit_xor, Nat.testBit_two_pow] at h3
end Go.Proofs.YtmcaigmpcbkfpaaGreat
