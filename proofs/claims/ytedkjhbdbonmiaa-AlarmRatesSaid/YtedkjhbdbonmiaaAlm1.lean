/- Package alarm: keys, lines, watches; what a line is put together by; when a time is late. -/
import Derived.Test.YtedkjhbdbonmiaaMap
import Derived.Test.YtedkjhbdbonmiaaOpt1
import Derived.Test.YtedkjhbdbonmiaaOpt8
set_option linter.unusedVariables false
set_option linter.unusedSimpArgs false
set_option maxRecDepth 8000
namespace Go.Proofs.Ytedkjhbdbonmiaa
open Go.RowKit
structure FKey where
  src : Int
  dst : Int
  proto : Int
  sport : Int
  dport : Int
deriving DecidableEq
abbrev fkv (k : FKey) : Value := .agg #[.int .u32 k.src, .int .u32 k.dst, .int .i64 k.proto, .int .i64 k.sport, .int .i64 k.dport]
theorem chk_int {t : TypeId} {k : IntKind} (hu : Try.prog.underlying t = some (.int k)) (b : Bool) (n : Nat) (x : Int) (w : World) : (Instr.checkKey b (n + 1) t (.int k x)).run Try.prog w = .ok () w := by
  unfold Instr.checkKey
  simp [run_underlying hu]
theorem part_int {t : TypeId} {cs : Array Value} {i : Nat} {v : Value} (ha : look aggL t = some false) (h : cs[i]? = some v) (w : World) : (part t cs i).run Try.prog w = .ok v w := by
  simp [part, aggF ha, h]
theorem fkey_chk (k : FKey) (b : Bool) (w : World) : (Instr.checkKey b 10000 56 (fkv k)).run Try.prog w = .ok () w := by
  show (Instr.checkKey b (9998 + 1 + 1) 56 _).run _ _ = _
  unfold Instr.checkKey
  simp only [Sem.run_bind, run_underlying Try.underlying56, Result.andThen_ok]
  rw [← Array.forIn_toList]
  simp only [List.forIn_cons]
  simp [part_int, chk_int Try.underlying54, chk_int Try.underlying3, show look aggL 54 = some false from rfl, show look aggL 3 = some false from rfl, Sem.run_bind]
theorem fkey_eq (x y : FKey) (w : World) : (Op.equal 56 (fkv x) (fkv y)).run Try.prog w = .ok (decide (x = y)) w := by
  obtain ⟨a, b, c, d, e⟩ := x
  obtain ⟨a', b', c', d', e'⟩ := y
  have h : (FKey.mk a b c d e = FKey.mk a' b' c' d' e') ↔ (a = a' ∧ b = b' ∧ c = c' ∧ d = d' ∧ e = e') := by simp
  rw [show decide (FKey.mk a b c d e = FKey.mk a' b' c' d' e') = decide (a = a' ∧ b = b' ∧ c = c' ∧ d = d' ∧ e = e') from decide_eq_decide.2 h]
  show (Op.equalIn 10000 56 _ _).run _ _ = _
  by_cases h1 : a = a'
  · by_cases h2 : b = b'
    · by_cases h3 : c = c'
      · by_cases h4 : d = d'
        · by_cases h5 : e = e'
          · subst h1 h2 h3 h4 h5
            refine Eq.trans (b := .ok true w) ?_ (by simp)
            go_simp
          · subst h1 h2 h3 h4
            have e5 : (e == e') = false := by simpa using h5
            refine Eq.trans (b := .ok false w) ?_ (by simp [h5])
            go_simp
        · subst h1 h2 h3
          have e5 : (d == d') = false := by simpa using h4
          refine Eq.trans (b := .ok false w) ?_ (by simp [h4])
          go_simp
      · subst h1 h2
        have e5 : (c == c') = false := by simpa using h3
        refine Eq.trans (b := .ok false w) ?_ (by simp [h3])
        go_simp
    · subst h1
      have e5 : (b == b') = false := by simpa using h2
      refine Eq.trans (b := .ok false w) ?_ (by simp [h2])
      go_simp
  · have e5 : (a == a') = false := by simpa using h1
    refine Eq.trans (b := .ok false w) ?_ (by simp [h1])
    go_simp
theorem keyTy : KeyTy 56 fkv where
  und := ⟨_, Try.underlying56, fun k e r i => by
    unfold Instr.findNow
    cases e.key <;> rfl⟩
  chk := fun b k w => fkey_chk k b w
  eq := fkey_eq
  same := fun k => by simp [Instr.sameBits]
structure Line where
  time : Int
  reason : Int
  key : FKey
abbrev lnCells (x : Line) : List Value := [.int .i64 x.time, .int .i64 x.reason, .int .u32 x.key.src, .int .u32 x.key.dst, .int .i64 x.key.proto, .int .i64 x.key.sport, .int .i64 x.key.dport]
abbrev lnv (x : Line) : Value := .agg #[.int .i64 x.time, .int .i64 x.reason, .int .u32 x.key.src, .int .u32 x.key.dst, .int .i64 x.key.proto, .int .i64 x.key.sport, .int .i64 x.key.dport]
structure Wtc where
  reason : Int
  group : Int
  many : Int
  time : Int
abbrev wcCells (x : Wtc) : List Value := [.int .i64 x.reason, .int .i64 x.group, .int .i64 x.many, .int .i64 x.time]
abbrev wcv (x : Wtc) : Value := .agg #[.int .i64 x.reason, .int .i64 x.group, .int .i64 x.many, .int .i64 x.time]
def inR (x lo hi : Int) : Bool := decide (lo ≤ x) && decide (x ≤ hi)
theorem inR_t {x lo hi : Int} : inR x lo hi = true ↔ lo ≤ x ∧ x ≤ hi := by simp [inR]
def wRight (x : Wtc) : Bool := inR x.reason 0 15 && inR x.group 0 3 && inR x.many 1 1000 && inR x.time 1 1000
/-- The functions that tell what a line is put together by. -/
def byF (g : Int) : FuncId := if g = 1 then 43 else if g = 2 then 44 else if g = 3 then 45 else 46
def keyBy (g : Int) (x : Line) : FKey := if g = 1 then ⟨x.key.src, 0, 0, 0, 0⟩ else if g = 2 then ⟨0, x.key.dst, 0, 0, 0⟩ else if g = 3 then x.key else ⟨0, 0, 0, 0, 0⟩
/-- Is a time greater than another one less some? -/
def lateOf (t last b : Int) : Bool := decide (last < t) || decide (last - t < b)
theorem byF_call (g : Int) : look calL (byF g) = some () := by
  unfold byF
  split
  · rfl
  split
  · rfl
  split <;> rfl
end Go.Proofs.Ytedkjhbdbonmiaa
