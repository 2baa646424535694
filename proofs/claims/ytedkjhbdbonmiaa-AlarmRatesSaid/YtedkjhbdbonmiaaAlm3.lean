/- Package alarm: what a watch's groups are, line by line (plain); the things that they lie in. -/
import Derived.Test.YtedkjhbdbonmiaaAlm2
set_option linter.unusedVariables false
set_option linter.unusedSimpArgs false
set_option maxRecDepth 8000
namespace Go.Proofs.Ytedkjhbdbonmiaa
open Go.RowKit
/-- A group: its times, as they lie there. -/
structure AEnt where
  k : FKey
  ts : List Int
  A : Option Addr
  cap : Nat
  born : Nat
def entOf (e : AEnt) : Ent FKey := ⟨e.k, .slice e.A e.ts.length e.cap, e.born⟩
abbrev tsRow (A : Option Addr) (cap : Nat) (ts : List Int) : Res := own A cap 3 1 ts.length (ts.map (Value.int .i64))
def rowOf (e : AEnt) : Res := tsRow e.A e.cap e.ts
/-- Groups and the clock: keys and births are apart. -/
structure AInv (M : List AEnt) (c : Nat) : Prop where
  keys : M.Pairwise fun a b => a.k ≠ b.k
  born : M.Pairwise fun a b => a.born ≠ b.born
  lt : ∀ e ∈ M, e.born < c
def timesOf (M : List AEnt) (k : FKey) : List Int := match M.find? (fun e => decide (e.k = k)) with
  | some e => e.ts
  | none => []
theorem times_none {M : List AEnt} {k : FKey} (h : ∀ e ∈ M, e.k ≠ k) : timesOf M k = [] := by
  unfold timesOf
  rw [List.find?_eq_none.2 (fun e he => by simpa using h e he)]
theorem pair_ne {α : Type} {f : α → α → Prop} (hs : ∀ a b, f a b → f b a) {M : List α} (h : M.Pairwise f) {i j : Nat} (hi : i < M.length) (hj : j < M.length) (hij : i ≠ j) : f M[i] M[j] := by
  rcases Nat.lt_or_gt_of_ne hij with h1 | h1
  · exact List.pairwise_iff_getElem.1 h i j hi hj h1
  · exact hs _ _ (List.pairwise_iff_getElem.1 h j i hj hi h1)
theorem times_at {M : List AEnt} {c : Nat} (h : AInv M c) {n : Nat} (hn : n < M.length) : timesOf M M[n].k = M[n].ts := by
  unfold timesOf
  have : M.find? (fun e => decide (e.k = M[n].k)) = some M[n] := by
    rw [List.find?_eq_some_iff_getElem]
    refine ⟨by simp, n, hn, rfl, fun j hj => ?_⟩
    have := pair_ne (f := fun a b : AEnt => a.k ≠ b.k) (fun a b hab => hab.symm) h.keys (i := j) (j := n) (by omega) hn (by omega)
    simpa using this
  rw [this]
/-- Is there a group of a key? -/
theorem key_or (M : List AEnt) (k : FKey) : (∀ e ∈ M, e.k ≠ k) ∨ ∃ n, ∃ hn : n < M.length, M[n].k = k := by
  by_cases h : ∃ e ∈ M, e.k = k
  · obtain ⟨e, he, hk⟩ := h
    obtain ⟨n, hn, rfl⟩ := List.getElem_of_mem he
    exact .inr ⟨n, hn, hk⟩
  · exact .inl fun e he hk => h ⟨e, he, hk⟩
theorem AInv.firstK {M : List AEnt} {c : Nat} (h : AInv M c) {n : Nat} (hn : n < M.length) : ∀ j (hj : j < (M.map entOf).length), j < n → (M.map entOf)[j].k ≠ M[n].k := fun j hj hjn => by
  simp only [List.getElem_map, entOf]
  exact pair_ne (f := fun a b : AEnt => a.k ≠ b.k) (fun a b hab => hab.symm) h.keys (by simpa using hj) hn (by omega)
theorem AInv.firstB {M : List AEnt} {c : Nat} (h : AInv M c) {n : Nat} (hn : n < M.length) : ∀ j (hj : j < (M.map entOf).length), j < n → (M.map entOf)[j].born ≠ ((M.map entOf)[n]'(by simpa using hn)).born := fun j hj hjn => by
  simp only [List.getElem_map, entOf]
  exact pair_ne (f := fun a b : AEnt => a.born ≠ b.born) (fun a b hab => hab.symm) h.born (by simpa using hj) hn (by omega)
theorem pair_set {α : Type} {f : α → α → Prop} {M : List α} {n : Nat} (hn : n < M.length) {x : α} (h : M.Pairwise f) (h1 : ∀ y, f M[n] y → f x y) (h2 : ∀ y, f y M[n] → f y x) : (M.set n x).Pairwise f := by
  rw [List.pairwise_iff_getElem] at h ⊢
  intro i j hi hj hij
  rw [List.length_set] at hi hj
  have := h i j hi hj hij
  rw [List.getElem_set, List.getElem_set]
  split <;> split
  · omega
  · rename_i e _; subst e; exact h1 _ this
  · rename_i _ e; subst e; exact h2 _ this
  · exact this
theorem AInv.set {M : List AEnt} {c : Nat} (h : AInv M c) {n : Nat} (hn : n < M.length) (ts : List Int) (A : Option Addr) (cap : Nat) : AInv (M.set n ⟨M[n].k, ts, A, cap, M[n].born⟩) c where
  keys := pair_set hn h.keys (fun _ hy => hy) (fun _ hy => hy)
  born := pair_set hn h.born (fun _ hy => hy) (fun _ hy => hy)
  lt := fun e he => by
    rcases List.mem_or_eq_of_mem_set he with he | rfl
    · exact h.lt e he
    · exact h.lt M[n] (List.getElem_mem hn)
theorem AInv.push {M : List AEnt} {c : Nat} (h : AInv M c) (k : FKey) (hk : ∀ e ∈ M, e.k ≠ k) (ts : List Int) (A : Option Addr) (cap : Nat) : AInv (M ++ [⟨k, ts, A, cap, c⟩]) (c + 1) where
  keys := List.pairwise_append.2 ⟨h.keys, by simp, fun a ha b hb => by simp at hb; subst hb; exact hk a ha⟩
  born := List.pairwise_append.2 ⟨h.born, by simp, fun a ha b hb => by simp at hb; subst hb; exact Nat.ne_of_lt (h.lt a ha)⟩
  lt := fun e he => by
    rcases List.mem_append.1 he with he | he
    · have := h.lt e he; omega
    · simp at he; subst he; simp
theorem AInv.erase {M : List AEnt} {c : Nat} (h : AInv M c) (n : Nat) : AInv (M.eraseIdx n) c where
  keys := h.keys.sublist (List.eraseIdx_sublist M n)
  born := h.born.sublist (List.eraseIdx_sublist M n)
  lt := fun e he => h.lt e ((List.eraseIdx_sublist M n).subset he)
theorem AInv.nil : AInv [] 0 := ⟨List.Pairwise.nil, List.Pairwise.nil, by simp⟩
theorem times_iff {M : List AEnt} {c : Nat} (h : AInv M c) (k : FKey) (ts : List Int) : timesOf M k = ts ↔ (∃ n, ∃ hn : n < M.length, M[n].k = k ∧ M[n].ts = ts) ∨ ((∀ e ∈ M, e.k ≠ k) ∧ ts = []) := by
  rcases key_or M k with h1 | ⟨n, hn, h1⟩
  · rw [times_none h1]
    constructor
    · rintro rfl; exact .inr ⟨h1, rfl⟩
    · rintro (⟨n, hn, h2, _⟩ | ⟨_, h2⟩)
      · exact absurd h2 (h1 _ (List.getElem_mem hn))
      · exact h2.symm
  · have := times_at h hn
    rw [h1] at this
    rw [this]
    constructor
    · intro h2; exact .inl ⟨n, hn, h1, h2⟩
    · rintro (⟨m, hm, h2, h3⟩ | ⟨h2, _⟩)
      · have e : m = n := by
          by_cases e : m = n
          · exact e
          · exact absurd (h2.trans h1.symm) (pair_ne (f := fun a b : AEnt => a.k ≠ b.k) (fun a b hab => hab.symm) h.keys hm hn e)
        subst e; exact h3
      · exact absurd h1 (h2 _ (List.getElem_mem hn))
theorem times_set {M : List AEnt} {c : Nat} (h : AInv M c) {n : Nat} (hn : n < M.length) (ts : List Int) (A : Option Addr) (cap : Nat) (k : FKey) : timesOf (M.set n ⟨M[n].k, ts, A, cap, M[n].born⟩) k = if k = M[n].k then ts else timesOf M k := by
  by_cases hk : k = M[n].k
  · rw [if_pos hk, times_iff (h.set hn ts A cap)]
    refine .inl ⟨n, by simpa using hn, ?_, ?_⟩ <;> simp [hk]
  · rw [if_neg hk, times_iff (h.set hn ts A cap)]
    rcases key_or M k with h1 | ⟨m, hm, h1⟩
    · refine .inr ⟨fun e he => ?_, times_none h1⟩
      rcases List.mem_or_eq_of_mem_set he with he | rfl
      · exact h1 e he
      · exact fun e => hk e.symm
    · have hmn : n ≠ m := fun e => hk (by subst e; exact h1.symm)
      refine .inl ⟨m, by simpa using hm, ?_, ?_⟩
      · rw [List.getElem_set_ne hmn]; exact h1
      · rw [List.getElem_set_ne hmn, ← h1, times_at h hm]
theorem times_push {M : List AEnt} {c : Nat} (h : AInv M c) {k0 : FKey} (hk0 : ∀ e ∈ M, e.k ≠ k0) (ts : List Int) (A : Option Addr) (cap : Nat) (k : FKey) : timesOf (M ++ [⟨k0, ts, A, cap, c⟩]) k = if k = k0 then ts else timesOf M k := by
  by_cases hk : k = k0
  · rw [if_pos hk, times_iff (h.push k0 hk0 ts A cap)]
    exact .inl ⟨M.length, by simp, by simp [hk], by simp⟩
  · rw [if_neg hk, times_iff (h.push k0 hk0 ts A cap)]
    rcases key_or M k with h1 | ⟨m, hm, h1⟩
    · refine .inr ⟨fun e he => ?_, times_none h1⟩
      rcases List.mem_append.1 he with he | he
      · exact h1 e he
      · simp at he; subst he; exact fun e => hk e.symm
    · refine .inl ⟨m, by simp; omega, ?_, ?_⟩
      · rw [List.getElem_append_left hm]; exact h1
      · rw [List.getElem_append_left hm, ← h1, times_at h hm]
theorem times_erase {M : List AEnt} {c : Nat} (h : AInv M c) {n : Nat} (hn : n < M.length) (k : FKey) : timesOf (M.eraseIdx n) k = if k = M[n].k then [] else timesOf M k := by
  have hE : ∀ e, e ∈ M.eraseIdx n ↔ ∃ m, ∃ hm : m < M.length, m ≠ n ∧ M[m] = e := fun e => by
    rw [List.mem_eraseIdx_iff_getElem]
  by_cases hk : k = M[n].k
  · rw [if_pos hk, times_iff (h.erase n)]
    refine .inr ⟨fun e he => ?_, rfl⟩
    obtain ⟨m, hm, h1, rfl⟩ := (hE e).1 he
    rw [hk]
    exact pair_ne (f := fun a b : AEnt => a.k ≠ b.k) (fun a b hab => hab.symm) h.keys hm hn h1
  · rw [if_neg hk]
    rcases key_or M k with h1 | ⟨m, hm, h1⟩
    · rw [times_none h1, times_iff (h.erase n)]
      exact .inr ⟨fun e he => h1 e ((List.eraseIdx_sublist M n).subset he), rfl⟩
    · have hmn : m ≠ n := fun e => hk (by subst e; exact h1.symm)
      have he : M[m] ∈ M.eraseIdx n := (hE _).2 ⟨m, hm, hmn, rfl⟩
      obtain ⟨j, hj, hj'⟩ := List.getElem_of_mem he
      rw [times_iff (h.erase n)]
      exact .inl ⟨j, hj, by rw [hj']; exact h1, by rw [hj', ← h1, times_at h hm]⟩
/-! ### What a watch does at each line -/
structure ASt where
  T : FKey → List Int
  out : List (Int × Int)
def lateN (ts : List Int) (last b : Int) : Nat := (ts.filter fun t => lateOf t last b).length
def aStep (x : Wtc) (s : ASt) (i : Nat) (y : Line) : ASt :=
  if y.reason = x.reason then
    (if x.many ≤ (lateN (s.T (keyBy x.group y) ++ [y.time]) y.time x.time : Int) then ⟨fun k => if k = keyBy x.group y then [] else s.T k, s.out ++ [((i : Int), (lateN (s.T (keyBy x.group y) ++ [y.time]) y.time x.time : Int))]⟩
     else ⟨fun k => if k = keyBy x.group y then s.T (keyBy x.group y) ++ [y.time] else s.T k, s.out⟩)
  else s
def almSt (x : Wtc) (l : List Line) : Nat → ASt
  | 0 => ⟨fun _ => [], []⟩
  | i + 1 => if h : i < l.length then aStep x (almSt x l i) i l[i] else almSt x l i
theorem almSt_snoc (x : Wtc) (l : List Line) (i : Nat) (h : i < l.length) : almSt x l (i + 1) = aStep x (almSt x l i) i l[i] := by
  rw [almSt, dif_pos h]
theorem lateN_snoc (ts : List Int) (j : Nat) (hj : j < ts.length) (last b : Int) : lateN (ts.take (j + 1)) last b = lateN (ts.take j) last b + (if lateOf ts[j] last b = true then 1 else 0) := by
  unfold lateN
  rw [List.take_succ_eq_append_getElem hj, List.filter_append, List.length_append]
  congr 1
  by_cases h : lateOf ts[j] last b = true
  · rw [if_pos h]; simp [h]
  · rw [if_neg h]; simp [h]
theorem lateN_le (ts : List Int) (last b : Int) : lateN ts last b ≤ ts.length := List.length_filter_le _ _
/-- An alarm: the watch's place, the line, how many. -/
abbrev enAlm (a : Int × Int × Int) : List Value := [.int .i64 a.1, .int .i64 a.2.1, .int .i64 a.2.2]
/-- The line's own cells, where it came in. -/
theorem line_at {w : World} {A : Option Addr} {n cap : Nat} {l : List Line} (hr : Structs lnCells 7 w (.slice A n cap) l) (k : Nat) (hlt : k < l.length) : ∃ b off, A = some ⟨b, off, none⟩ ∧
    Hid (∀ w', Mod [] w w' → (Instr.loadAt 58 (.pointer (some ⟨b, off + k * 7, none⟩))).run Try.prog w' = .ok (lnv l[k]) w') ∧
    Hid (∀ w', Mod [] w w' → (Instr.loadAt 3 (.pointer (some ⟨b, off + k * 7, none⟩))).run Try.prog w' = .ok (.int .i64 l[k].time) w') ∧
    Hid (∀ w', Mod [] w w' → (Instr.loadAt 49 (.pointer (some ⟨b, off + k * 7 + 1, none⟩))).run Try.prog w' = .ok (.int .i64 l[k].reason) w') := by
  obtain ⟨b, off, rfl, hcell⟩ := hr.gets k hlt (by simp [lnCells])
  exact ⟨b, off, rfl, Lib.hid fun w' hm => run_loadN (vs := lnCells l[k]) (aggT rfl) (sizT rfl) (fun j v hj => hcell w' hm j v hj), Lib.hid fun w' hm => run_load1 (aggF rfl) (hcell w' hm 0 _ rfl), Lib.hid fun w' hm => run_load1 (aggF rfl) (hcell w' hm 1 _ rfl)⟩
theorem row_some {w : World} {A : Option Addr} {cap : Nat} {ts : List Int} (h : (tsRow A cap ts).holds w) (hn : 0 < ts.length) : ∃ b, A = some ⟨b, 0, none⟩ := by
  have h' : w.ownsRowF 0 3 1 (.slice A ts.length cap) ts.length (ts.map (Value.int .i64)) := h
  rcases h'.2 with ⟨hv, hn'⟩ | ⟨g, cap', cur, fz, hv, _⟩
  · omega
  · injection hv with hA _ _
    exact ⟨g, hA⟩
theorem row_get {w : World} {b cap : Nat} {ts : List Int} (h : (tsRow (some ⟨b, 0, none⟩) cap ts).holds w) (j : Nat) (hj : j < ts.length) : (Instr.loadAt 3 (.pointer (some ⟨b, j, none⟩))).run Try.prog w = .ok (.int .i64 ts[j]) w := by
  have h' : w.ownsRowF 0 3 1 (.slice (some ⟨b, 0, none⟩) ts.length cap) ts.length (ts.map (Value.int .i64)) := h
  have := h'.cells (g := b) rfl j (.int .i64 ts[j]) (by simp [hj])
  rw [add_none, Nat.zero_add] at this
  exact run_load1 (aggF rfl) this
abbrev TsIn (i : Nat) (M : List AEnt) : Prop := ∀ e ∈ M, e.ts.length ≤ i ∧ ∀ t ∈ e.ts, -9223372036854775808 ≤ t ∧ t ≤ 9223372036854775807
theorem AInv.firstKE {M : List AEnt} {c : Nat} (h : AInv M c) {n : Nat} {e : AEnt} (he : M[n]? = some e) : ∀ j (hj : j < (M.map entOf).length), j < n → (M.map entOf)[j].k ≠ e.k := by
  obtain ⟨hn, rfl⟩ := at_some he
  exact h.firstK hn
theorem AInv.firstBE {M : List AEnt} {c : Nat} (h : AInv M c) {n : Nat} {e : AEnt} (he : M[n]? = some e) : ∀ j (hj : j < (M.map entOf).length), j < n → (M.map entOf)[j].born ≠ e.born := by
  obtain ⟨hn, rfl⟩ := at_some he
  intro j hj hjn
  have := h.firstB hn j hj hjn
  simpa [entOf] using this
theorem new_state {M : List AEnt} {c i : Nat} {k : FKey} {T : FKey → List Int} (hinv : AInv M c) (hno : ∀ e ∈ M, e.k ≠ k) (hT : ∀ k', timesOf M k' = T k') (hM : TsIn i M) :
    ∃ (M1 : List AEnt) (m : Nat), AInv M1 (c + 1) ∧ (∀ k', timesOf M1 k' = T k') ∧ M1[m]? = some ⟨k, [], none, 0, c⟩ ∧ M.map rowOf = (M1.map rowOf).eraseIdx m ∧ M.map entOf ++ [⟨k, .slice none 0 0, c⟩] = M1.map entOf ∧ TsIn i M1 := by
  refine ⟨M ++ [⟨k, [], none, 0, c⟩], M.length, hinv.push k hno [] none 0, fun k' => ?_, by simp, ?_, by simp [entOf], fun e he => ?_⟩
  · rw [times_push hinv hno, ← hT k']
    split
    · rename_i e; subst e; exact (times_none hno).symm
    · rfl
  · rw [List.map_append, List.eraseIdx_append_of_length_le (by simp)]
    simp
  · rcases List.mem_append.1 he with he | he
    · exact hM e he
    · simp at he; subst he; simp
/-- What the step makes of the groups: no alarm, or one. -/
theorem step_keep {M1 : List AEnt} {c m : Nat} {k : FKey} {ts : List Int} {A0 : Option Addr} {c0 bn : Nat} {t : Int} {i : Nat} (h : AInv M1 c) (hM1 : M1[m]? = some ⟨k, ts, A0, c0, bn⟩) (A1 : Option Addr) (c1 : Nat) (hM : TsIn i M1) (ht : -9223372036854775808 ≤ t ∧ t ≤ 9223372036854775807) :
    AInv (M1.set m ⟨k, ts ++ [t], A1, c1, bn⟩) c ∧ (∀ k', timesOf (M1.set m ⟨k, ts ++ [t], A1, c1, bn⟩) k' = if k' = k then ts ++ [t] else timesOf M1 k') ∧ TsIn (i + 1) (M1.set m ⟨k, ts ++ [t], A1, c1, bn⟩) := by
  obtain ⟨hm, he⟩ := at_some hM1
  have hk : M1[m].k = k := by rw [he]
  have hb : M1[m].born = bn := by rw [he]
  have h1 := h.set hm (ts ++ [t]) A1 c1
  have h2 := times_set h hm (ts ++ [t]) A1 c1
  rw [hk, hb] at h1 h2
  refine ⟨h1, h2, fun e he' => ?_⟩
  rcases List.mem_or_eq_of_mem_set he' with he' | rfl
  · exact ⟨Nat.le_succ_of_le (hM e he').1, (hM e he').2⟩
  · have h3 := hM _ (List.getElem_mem hm)
    rw [he] at h3
    refine ⟨by simp only [List.length_append, List.length_cons, List.length_nil]; have := h3.1; simp only at this; omega, fun z hz => ?_⟩
    rcases List.mem_append.1 hz with hz | hz
    · exact h3.2 z hz
    · obtain rfl := List.mem_singleton.1 hz
      exact ht
theorem step_drop {M1 : List AEnt} {c m : Nat} {k : FKey} {ts : List Int} {A0 : Option Addr} {c0 bn : Nat} {i : Nat} (h : AInv M1 c) (hM1 : M1[m]? = some ⟨k, ts, A0, c0, bn⟩) (hM : TsIn i M1) :
    AInv (M1.eraseIdx m) c ∧ (∀ k', timesOf (M1.eraseIdx m) k' = if k' = k then [] else timesOf M1 k') ∧ TsIn (i + 1) (M1.eraseIdx m) := by
  obtain ⟨hm, he⟩ := at_some hM1
  have hk : M1[m].k = k := by rw [he]
  have h2 := times_erase h hm
  rw [hk] at h2
  refine ⟨h.erase m, h2, fun e he' => ?_⟩
  have := hM e ((List.eraseIdx_sublist M1 m).subset he')
  exact ⟨Nat.le_succ_of_le this.1, this.2⟩
theorem firstK_set {L : List (Ent FKey)} {m : Nat} {k : FKey} (h : ∀ j (hj : j < L.length), j < m → L[j].k ≠ k) (e : Ent FKey) : ∀ j (hj : j < (L.set m e).length), j < m → (L.set m e)[j].k ≠ k := fun j hj hjm => by
  rw [List.getElem_set_ne (by omega)]
  exact h j (by simpa using hj) hjm
theorem at_set {L : List (Ent FKey)} {m : Nat} (hm : m < L.length) (e : Ent FKey) : (L.set m e)[m]? = some e := by
  rw [List.getElem?_set_self hm]
theorem times_atE {M : List AEnt} {c n : Nat} {e : AEnt} (h : AInv M c) (he : M[n]? = some e) : timesOf M e.k = e.ts := by
  obtain ⟨hn, rfl⟩ := at_some he
  exact times_at h hn
theorem step_yes {x : Wtc} {l : List Line} {i : Nat} {y : Line} {k : FKey} {ts : List Int} (hst : almSt x l (i + 1) = aStep x (almSt x l i) i y) (hre : y.reason = x.reason) (hk : keyBy x.group y = k) (hT : (almSt x l i).T k = ts) (h : x.many ≤ (lateN (ts ++ [y.time]) y.time x.time : Int)) :
    almSt x l (i + 1) = ⟨fun k' => if k' = k then [] else (almSt x l i).T k', (almSt x l i).out ++ [((i : Int), (lateN (ts ++ [y.time]) y.time x.time : Int))]⟩ := by
  rw [hst]; unfold aStep; rw [if_pos hre, hk, hT, if_pos h]
theorem step_no {x : Wtc} {l : List Line} {i : Nat} {y : Line} {k : FKey} {ts : List Int} (hst : almSt x l (i + 1) = aStep x (almSt x l i) i y) (hre : y.reason = x.reason) (hk : keyBy x.group y = k) (hT : (almSt x l i).T k = ts) (h : ¬ x.many ≤ (lateN (ts ++ [y.time]) y.time x.time : Int)) :
    almSt x l (i + 1) = ⟨fun k' => if k' = k then ts ++ [y.time] else (almSt x l i).T k', (almSt x l i).out⟩ := by
  rw [hst]; unfold aStep; rw [if_pos hre, hk, hT, if_neg h]
end Go.Proofs.Ytedkjhbdbonmiaa
