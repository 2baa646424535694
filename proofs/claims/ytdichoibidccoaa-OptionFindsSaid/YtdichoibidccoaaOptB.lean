/- Package option: slices.Clone, slices.DeleteFunc, Without. -/
import Derived.Test.YtdichoibidccoaaOptA
import Derived.Test.YtdichoibidccoaaAuto
set_option linter.unusedVariables false
set_option linter.unusedSimpArgs false
namespace Go.Proofs.Ytdichoibidccoaa
open Go.RowKit
/-! ### Plain laws -/
/-- What stands in the row when those up to j have been looked at. -/
structure DelInv (p : Opt → Bool) (l M : List Opt) (i j : Nat) : Prop where
  len : M.length = l.length
  lt : i < j
  le : j ≤ l.length
  front : M.take i = (l.take j).filter (fun o => !p o)
  back : M.drop j = l.drop j
theorem DelInv.init {p : Opt → Bool} {l : List Opt} {k : Nat} (hk : k < l.length) (hp : p l[k] = true) (hb : ∀ j (hj : j < l.length), j < k → p l[j] = false) : DelInv p l l k (k + 1) where
  len := rfl
  lt := by omega
  le := by omega
  front := by
    rw [List.take_succ_eq_append_getElem hk, List.filter_append]
    have h1 : (l.take k).filter (fun o => !p o) = l.take k := List.filter_eq_self.2 fun o ho => by
      obtain ⟨j, hj, rfl⟩ := List.getElem_of_mem ho
      rw [List.length_take] at hj
      rw [List.getElem_take, hb j (by omega) (by omega)]
      rfl
    rw [h1]
    simp [List.filter, hp]
  back := rfl
theorem DelInv.skip {p : Opt → Bool} {l M : List Opt} {i j : Nat} (h : DelInv p l M i j) (hj : j < l.length) (hp : p l[j] = true) : DelInv p l M i (j + 1) where
  len := h.len
  lt := by have := h.lt; omega
  le := by omega
  front := by
    rw [List.take_succ_eq_append_getElem hj, List.filter_append, ← h.front]
    simp [List.filter, hp]
  back := by rw [← List.drop_drop (i := 1), h.back, List.drop_drop]
theorem DelInv.keep {p : Opt → Bool} {l M : List Opt} {i j : Nat} (h : DelInv p l M i j) (hj : j < l.length) (hp : p l[j] = false) : DelInv p l (M.set i l[j]) (i + 1) (j + 1) where
  len := by rw [List.length_set]; exact h.len
  lt := by have := h.lt; omega
  le := by omega
  front := by
    have h1 := h.lt
    have h2 := h.len
    rw [List.take_succ_eq_append_getElem hj, List.filter_append, ← h.front, List.take_succ_eq_append_getElem (by rw [List.length_set]; omega), List.getElem_set_self, List.take_set_of_le (Nat.le_refl _)]
    simp [List.filter, hp]
  back := by
    have h1 := h.lt
    rw [List.drop_set_of_lt (by omega), ← List.drop_drop (i := 1), h.back, List.drop_drop]
theorem DelInv.at {p : Opt → Bool} {l M : List Opt} {i j : Nat} (h : DelInv p l M i j) (hj : j < l.length) : M[j]'(by rw [h.len]; exact hj) = l[j] := by
  have h1 := congrArg (fun x => x[0]?) h.back
  simp only [List.getElem?_drop, Nat.add_zero] at h1
  rw [List.getElem?_eq_getElem (by rw [h.len]; exact hj), List.getElem?_eq_getElem hj] at h1
  exact Option.some.inj h1
theorem row_own {w : World} {b cap : Nat} {K : List Opt} {rest : List Value} (hb : Blk w b (K.flatMap enOpt ++ rest) 33) (hl : (K.flatMap enOpt ++ rest).length = cap * 2) (hc : cap ≤ maxLen) (hk : K.length ≤ cap) :
    (own (some ⟨b, 0, none⟩) cap 33 2 K.length (K.flatMap enOpt)).holds w :=
  ⟨flat_len K, .inr ⟨b, cap, (K.flatMap enOpt ++ rest).toArray, (0, 0), rfl, Nat.zero_le _, hb, Nat.zero_le _, hk, hc, by simpa using hl, by
    rw [List.toList_toArray, ← flat_len K, List.take_left']
    rfl⟩⟩
/-- A new copy of a list. -/
def orw (b cap : Nat) (l : List Opt) : Res where
  foot := [b]
  holds := fun w => ∃ zs : List Value, Blk w b (l.flatMap enOpt ++ zs) 33 ∧ zs.length = (cap - l.length) * 2 ∧ l.length ≤ cap ∧ cap ≤ maxLen
  loc := fun w w' h ⟨zs, h1, h2⟩ => ⟨zs, by unfold Blk; rw [h b (by simp)]; exact h1, h2⟩
  ex := fun w ⟨zs, h1, _⟩ n hn => by
    simp at hn; subst hn
    exact h1.lt
theorem orw_made {w w' : World} {rs : List Res} {b cap : Nat} {l : List Opt} {zs : List Value} (h : Sep w [] rs w') (hm : blk b (l.flatMap enOpt ++ zs) 33 ∈ rs) (h1 : zs.length = (cap - l.length) * 2) (h2 : l.length ≤ cap) (h3 : cap ≤ maxLen) :
    (orw b cap l).holds w' ∧ Mod [] w w' ∧ ∀ k ∈ (orw b cap l).foot, w.heap.size ≤ k := by
  obtain ⟨q1, q2, q3⟩ := h.made hm
  exact ⟨⟨zs, q1, h1, h2, h3⟩, q2, q3⟩
theorem empty_made {w w' : World} {rs : List Res} {m : Nat} (h : Sep w [] rs w') (hm : blk m [] 33 ∈ rs) :
    (own (some ⟨m, 0, none⟩) 0 33 2 0 []).holds w' ∧ Mod [] w w' ∧ ∀ k ∈ (own (some ⟨m, 0, none⟩) 0 33 2 0 []).foot, w.heap.size ≤ k := by
  obtain ⟨q1, q2, q3⟩ := h.made hm
  exact ⟨row_own (K := []) (rest := []) (cap := 0) q1 rfl (Nat.zero_le _) (Nat.le_refl _), q2, fun k hk => q3 k (by simpa [own, Value.ownBlock, blk] using hk)⟩
theorem sep_row {w : World} {b : Nat} {cs : List Value} {t : TypeId} (h : Blk w b cs t) : Sep w [b] [blk b cs t] w :=
  ⟨Mod.refl _ _, fun r hr => by simp at hr; subst hr; exact h, by simp [blk], by simp⟩
section
variable {w0 : World} {S : List Nat} {rs : List Res} {l : List Value} {ds : List Deferred} {ty : TypeId} {pos : String} {aft : Array Edge} {gd : Option (Nat × Bool)} {dt : Option Tmp}
theorem opv_app0 {T e s : Nat} {x y : Operand} {m : Nat} {a : Addr} {c : Nat} (hT : look elemL T = some (e, s)) (hx : opnd l x = some (.slice (some ⟨m, 0, none⟩) 0 0)) (hy : opnd l y = some (.slice (some a) 0 c)) :
    OpVal Try.prog w0 S rs l ds ⟨dt, .call { callee := .builtin .append, args := #[x, y], argTypes := #[T, T] }, ty, pos, aft, gd⟩ (.slice (some ⟨m, 0, none⟩) 0 0) := fun w _ => by
  obtain ⟨ht, hs1, hs2, i, z, hi, hz, hsz, hby, hzc⟩ := elem_spec hT
  have hr : (Builtin.append_ #[T, T] ty #[.slice (some ⟨m, 0, none⟩) 0 0, .slice (some a) 0 c]).run Try.prog w = .ok (.slice (some ⟨m, 0, none⟩) 0 0) w := by
    simp [Builtin.append_, run_underlying ht, sizeOf, typeInfo, hi, Builtin.lenOf, Builtin.firstCells, loadCells, loadCellsFrom, storeCells]
  simp only [execOp, resolve, invoke, builtin, Sem.run_bind, Sem.run_pure, Result.andThen_ok, List.map_toArray, List.map_cons, List.map_nil, opnd_eval hx, opnd_eval hy, hr]
theorem eqNilS (x y : Operand) (T e : TypeId) (A : Option Addr) (n c : Nat) (hT : Try.prog.underlying T = some (.slice e)) (w : World) :
    ((do eqGuard .eql T x y (.slice A n c) (.slice none 0 0); binOp .eql T (.slice A n c) (.slice none 0 0)) : Sem Value).run Try.prog w = .ok (.bool A.isNone) w := by
  have h := Lib.run_eql_slice_nil (P := Try.prog) w T e A n c 0 0 hT
  simp only [Sem.run_bind, eqGuard]
  simp [h]
end
end Go.Proofs.Ytdichoibidccoaa
