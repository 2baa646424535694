/- Keys of flows, as keys of maps. (The same rows as XAlm1's first part.) -/
import Derived.Test.YtllhoadbocnldaaMap
set_option linter.unusedVariables false
set_option linter.unusedSimpArgs false
set_option maxRecDepth 8000
namespace Go.Proofs.Ytllhoadbocnldaa
open Go.RowKit
structure FKey where
  src : Int
  dst : Int
  proto : Int
  sport : Int
  dport : Int
deriving DecidableEq
abbrev fkv (k : FKey) : Value := .agg #[.int .u32 k.src, .int .u32 k.dst, .int .i64 k.proto, .int .i64 k.sport, .int .i64 k.dport]
theorem chk_int {t : TypeId} {k : IntKind} (hu : Try.prog.underlying t = some (.int k)) (b : Bool) (n : Nat) (x : Int) (w : World) : (Instr.checkKey b (n + 1) t (.int k x)).run Try.prog w = .ok () w := by
  unfold Instr.checkKey
  simp [run_underlying hu]
theorem part_int {t : TypeId} {cs : Array Value} {i : Nat} {v : Value} (ha : look aggL t = some false) (h : cs[i]? = some v) (w : World) : (part t cs i).run Try.prog w = .ok v w := by
  simp [part, aggF ha, h]
theorem fkey_chk (k : FKey) (b : Bool) (w : World) : (Instr.checkKey b 10000 24 (fkv k)).run Try.prog w = .ok () w := by
  show (Instr.checkKey b (9998 + 1 + 1) 24 _).run _ _ = _
  unfold Instr.checkKey
  simp only [Sem.run_bind, run_underlying Try.underlying24, Result.andThen_ok]
  rw [← Array.forIn_toList]
  simp only [List.forIn_cons]
  simp [part_int, chk_int Try.underlying22, chk_int Try.underlying3, show look aggL 22 = some false from rfl, show look aggL 3 = some false from rfl, Sem.run_bind]
theorem fkey_eq (x y : FKey) (w : World) : (Op.equal 24 (fkv x) (fkv y)).run Try.prog w = .ok (decide (x = y)) w := by
  obtain ⟨a, b, c, d, e⟩ := x
  obtain ⟨a', b', c', d', e'⟩ := y
  have h : (FKey.mk a b c d e = FKey.mk a' b' c' d' e') ↔ (a = a' ∧ b = b' ∧ c = c' ∧ d = d' ∧ e = e') := by simp
  rw [show decide (FKey.mk a b c d e = FKey.mk a' b' c' d' e') = decide (a = a' ∧ b = b' ∧ c = c' ∧ d = d' ∧ e = e') from decide_eq_decide.2 h]
  show (Op.equalIn 10000 24 _ _).run _ _ = _
  by_cases h1 : a = a'
  · by_cases h2 : b = b'
    · by_cases h3 : c = c'
      · by_cases h4 : d = d'
        · by_cases h5 : e = e'
          · subst h1 h2 h3 h4 h5
            refine Eq.trans (b := .ok true w) ?_ (by simp)
            go_simp
          · subst h1 h2 h3 h4
            have e5 : (e == e') = false := by simpa using h5
            refine Eq.trans (b := .ok false w) ?_ (by simp [h5])
            go_simp
        · subst h1 h2 h3
          have e5 : (d == d') = false := by simpa using h4
          refine Eq.trans (b := .ok false w) ?_ (by simp [h4])
          go_simp
      · subst h1 h2
        have e5 : (c == c') = false := by simpa using h3
        refine Eq.trans (b := .ok false w) ?_ (by simp [h3])
        go_simp
    · subst h1
      have e5 : (b == b') = false := by simpa using h2
      refine Eq.trans (b := .ok false w) ?_ (by simp [h2])
      go_simp
  · have e5 : (a == a') = false := by simpa using h1
    refine Eq.trans (b := .ok false w) ?_ (by simp [h1])
    go_simp
theorem keyTy : KeyTy 24 fkv where
  und := ⟨_, Try.underlying24, fun k e r i => by
    unfold Instr.findNow
    cases e.key <;> rfl⟩
  chk := fun b k w => fkey_chk k b w
  eq := fkey_eq
  same := fun k => by simp [Instr.sameBits]
section
variable {w0 : World} {S : List Nat} {rs : List Res} {l : List Value} {ds : List Deferred} {ty : TypeId} {pos : String} {aft : Array Edge} {gd : Option (Nat × Bool)} {dt : Option Tmp}
theorem opv_lookup2N {T e : TypeId} {x y : Operand} {b c : Nat} {M : List (Ent FKey)} (k : FKey) {zv : Value} (hno : ∀ e ∈ M, e.k ≠ k) (hT : Try.prog.underlying T = some (.map 24 e)) (hz : ∀ w, (zeroValue e).run Try.prog w = .ok zv w)
    (hx : opnd l x = some (.map (some b))) (hy : opnd l y = some (fkv k)) (hm : mpb fkv b M c ∈ rs) : OpVal Try.prog w0 S rs l ds ⟨dt, .lookup T x y true, ty, pos, aft, gd⟩ (.tuple #[zv, .bool false]) := by
  have := opv_lookup2 (w0 := w0) (S := S) (ds := ds) (ty := ty) (pos := pos) (aft := aft) (gd := gd) (dt := dt) keyTy k hT hz hx hy hm
  rw [mfind_none hno] at this
  exact this
theorem opv_lookupN {T e : TypeId} {x y : Operand} {b c : Nat} {M : List (Ent FKey)} (k : FKey) {zv : Value} (hno : ∀ e ∈ M, e.k ≠ k) (hT : Try.prog.underlying T = some (.map 24 e)) (hz : ∀ w, (zeroValue e).run Try.prog w = .ok zv w)
    (hx : opnd l x = some (.map (some b))) (hy : opnd l y = some (fkv k)) (hm : mpb fkv b M c ∈ rs) : OpVal Try.prog w0 S rs l ds ⟨dt, .lookup T x y false, ty, pos, aft, gd⟩ zv := by
  have := opv_lookup (w0 := w0) (S := S) (ds := ds) (ty := ty) (pos := pos) (aft := aft) (gd := gd) (dt := dt) keyTy k hT hz hx hy hm
  rw [mfind_none hno] at this
  exact this
theorem opv_lookup2S {T e : TypeId} {x y : Operand} {b c : Nat} {M : List (Ent FKey)} (k : FKey) (n : Nat) {v zv : Value} {bn : Nat} (he : M[n]? = some ⟨k, v, bn⟩) (hu : ∀ j (hj : j < M.length), j < n → M[j].k ≠ k) (hT : Try.prog.underlying T = some (.map 24 e)) (hz : ∀ w, (zeroValue e).run Try.prog w = .ok zv w)
    (hx : opnd l x = some (.map (some b))) (hy : opnd l y = some (fkv k)) (hm : mpb fkv b M c ∈ rs) : OpVal Try.prog w0 S rs l ds ⟨dt, .lookup T x y true, ty, pos, aft, gd⟩ (.tuple #[v, .bool true]) := by
  obtain ⟨hn, hE⟩ := at_some he
  have := opv_lookup2 (w0 := w0) (S := S) (ds := ds) (ty := ty) (pos := pos) (aft := aft) (gd := gd) (dt := dt) keyTy k hT hz hx hy hm
  rw [mfind_at hn (by rw [hE]) hu 0, hE] at this
  exact this
variable {Q : SP} {rsX : List Res} {rsS : St} {B : Nat} {gl : GL} {i : Nat} {orest : List Nat} {ol : List Oper}
theorem ordS_updNew {T e : TypeId} {x y z : Operand} {b c : Nat} {M : List (Ent FKey)} (k : FKey) {v : Value} {rs' : List Res} (hno : ∀ e ∈ M, e.k ≠ k)
    (ho : ol[i]? = some ⟨none, .mapUpdate T x y z, ty, pos, aft, gd⟩) (hw : Region.wanted ⟨none, .mapUpdate T x y z, ty, pos, aft, gd⟩ (yielded ol.toArray l.toArray) = true) (hT : Try.prog.underlying T = some (.map 24 e))
    (hx : opnd l x = some (.map (some b))) (hy : opnd l y = some (fkv k)) (hz : opnd l z = some v) (hu : Upd (mpb fkv b M c) (mpb fkv b (M ++ [⟨k, v, c⟩]) (c + 1)) rs rs')
    (hou : Out (mpb fkv b M c) rs rsX) (hsub : rsS.1.Sublist rsX) (hxs : rsS.2 = [])
    (h : ordS Try.prog w0 S Q rsS B ol.toArray orest l ds gl rs') : ordS Try.prog w0 S Q rsS B ol.toArray (i :: orest) l ds gl rs := fun hnd hi =>
  ord_store (lookL ho) hw rfl (sepRes w0 S rs') (fun w hC hR => by
    have hs : Sep w0 S rs w := ⟨hC.1.mod, hR.1, hR.2.1, hR.2.2⟩
    have hb := hs.all _ hu.mem
    obtain ⟨w', hr, h1, h2⟩ := mpb_set (M' := M ++ [⟨k, v, c⟩]) (c' := c + 1) hb Try.prog
    have e1 : (mesL fkv M).toArray.push ⟨fkv k, v, c⟩ = (mesL fkv (M ++ [⟨k, v, c⟩])).toArray := by simp [mesL]
    have hs' := hs.updU hu h2 h1 (fun n hn => .inl hn)
    refine ⟨w', ?_, ⟨hs.stay0 hou hsub hC.1 h2, fun x hx => by rw [hxs] at hx; cases hx⟩, ⟨hs'.all, hs'.old, hs'.dis⟩, Kp.updU hu h2 (fun n hn => .inl hn)⟩
    simp only [execOp, opnd_eval hx, opnd_eval hy, opnd_eval hz, Instr.mapUpdate, Sem.run_bind, run_underlying hT, Result.andThen_ok, mpb_obj hb, keyTy.chk, find_run keyTy _ M w, List.toList_toArray, mfind_none hno, e1, hr, Sem.run_pure]) (h hnd hi)
end
end Go.Proofs.Ytllhoadbocnldaa
