/- Numbers that are read of a list of bytes. -/
import Derived.Test.YtmcaigmpcbkfpaaGreatMFrame
import Derived.Test.YtmcaigmpcbkfpaaGreatBase
set_option linter.unusedVariables false
set_option linter.unusedSimpArgs false
namespace Go.Proofs.YtmcaigmpcbkfpaaGreat
set_option maxRecDepth 8000
attribute [local irreducible] blk wpS seqS ordS OpVal RV endS LoadV StoreV Calls
open Go.RowKit
theorem rShort_list {p : Nat} {w : World} {a b : UInt8} {l : List UInt8} (h : (rdr p (false, strOf (a :: b :: l))).holds w) :
    Calls Tryz.prog 69 #[ptr0 p] w fun e w' => e = .returned (.int .i64 ((a.toNat : Int) * 256 + b.toNat)) ∧ (rdr p (false, strOf l)).holds w' ∧ Mod (rdr p (false, strOf (a :: b :: l))).foot w w' := by
  have e := rTake_list (a :: b :: l) 2 (by simp)
  refine (rShort_any' h).mono fun e' w' ⟨h1, h2, h3⟩ => ⟨?_, ?_, h3⟩
  · rw [h1, rNum, show ((2 : Int)) = ((2 : Nat) : Int) from rfl, e]; simp [numOf]
  · rw [show ((2 : Int)) = ((2 : Nat) : Int) from rfl, e] at h2; exact h2
def sh (a b : UInt8) : Int := (a.toNat : Int) * 256 + b.toNat
theorem wf_i64 {x : Int} (h : (Lit.int .i64 x).wf = true) : -9223372036854775808 ≤ x ∧ x ≤ 9223372036854775807 := by
  have h1 : IntKind.i64.min = -9223372036854775808 := by decide
  have h2 : IntKind.i64.max = 9223372036854775807 := by decide
  simp only [Lit.wf, Bool.and_eq_true, decide_eq_true_eq, h1, h2] at h
  exact h
theorem wf_u32 {x : Int} (h : (Lit.int .u32 x).wf = true) : 0 ≤ x ∧ x ≤ 4294967295 := by
  have h1 : IntKind.u32.min = 0 := by decide
  have h2 : IntKind.u32.max = 4294967295 := by decide
  simp only [Lit.wf, Bool.and_eq_true, decide_eq_true_eq, h1, h2] at h
  exact h
theorem wf_u16 {x : Int} (h : (Lit.int .u16 x).wf = true) : 0 ≤ x ∧ x ≤ 65535 := by
  have h1 : IntKind.u16.min = 0 := by decide
  have h2 : IntKind.u16.max = 65535 := by decide
  simp only [Lit.wf, Bool.and_eq_true, decide_eq_true_eq, h1, h2] at h
  exact h
theorem wf_u8 {x : Int} (h : (Lit.int .u8 x).wf = true) : 0 ≤ x ∧ x ≤ 255 := by
  have h1 : IntKind.u8.min = 0 := by decide
  have h2 : IntKind.u8.max = 255 := by decide
  simp only [Lit.wf, Bool.and_eq_true, decide_eq_true_eq, h1, h2] at h
  exact h
theorem sh_nb (x : Int) (h : 0 ≤ x ∧ x ≤ 65535) : sh (b8 (x / 256)) (b8 x) = x := by
  unfold sh
  have h1 : ((b8 (x / 256)).toNat : Int) = x / 256 := by unfold b8; rw [UInt8.toNat_ofNat']; omega
  have h2 : ((b8 x).toNat : Int) = x % 256 := by unfold b8; rw [UInt8.toNat_ofNat']; omega
  rw [h1, h2]; omega
theorem rWord_list {p : Nat} {w : World} {a b c d : UInt8} {l : List UInt8} (h : (rdr p (false, strOf (a :: b :: c :: d :: l))).holds w) :
    Calls Tryz.prog 70 #[ptr0 p] w fun e w' => e = .returned (.int .u32 ((((a.toNat : Int) * 256 + b.toNat) * 256 + c.toNat) * 256 + d.toNat)) ∧ (rdr p (false, strOf l)).holds w' ∧ Mod (rdr p (false, strOf (a :: b :: c :: d :: l))).foot w w' := by
  have e := rTake_list (a :: b :: c :: d :: l) 4 (by simp)
  refine (rWord_any h).mono fun e' w' ⟨h1, h2, h3⟩ => ⟨?_, ?_, h3⟩
  · rw [h1, rNum, show ((4 : Int)) = ((4 : Nat) : Int) from rfl, e]; simp [numOf]
  · rw [show ((4 : Int)) = ((4 : Nat) : Int) from rfl, e] at h2; exact h2
theorem rTake4_list {p : Nat} {w : World} {a b c d : UInt8} {l : List UInt8} (h : (rdr p (false, strOf (a :: b :: c :: d :: l))).holds w) :
    Calls Tryz.prog 110 #[ptr0 p, .int .i64 4] w fun e w' => e = .returned (.string (strOf [a, b, c, d])) ∧ (rdr p (false, strOf l)).holds w' ∧ Mod (rdr p (false, strOf (a :: b :: c :: d :: l))).foot w w' := by
  have := rTake_R 4 (l := a :: b :: c :: d :: l) (by simp) h
  simpa using this
def w4 (a b c d : UInt8) : Int := (((a.toNat : Int) * 256 + b.toNat) * 256 + c.toNat) * 256 + d.toNat
end Go.Proofs.YtmcaigmpcbkfpaaGreat
namespace Go.Proofs.YtmcaigmpcbkfpaaGreat
open Go.RowKit

theorem and65535 (x : Int) (h0 : 0 ≤ x) (h1 : x < 4611686018427387904) : bits .and .i64 x 65535 = x % 65536 := i64_mask 16 (by decide) x h0 h1

def foldZ (n : Int) : Int := if n = 0 then 0 else (n - 1) % 65535 + 1
theorem foldZ_small (n : Int) (h0 : 0 ≤ n) (h1 : n ≤ 65535) : foldZ n = n := by unfold foldZ; split <;> omega
theorem foldZ_step (n : Int) (h : 65535 < n) : foldZ (n / 65536 + n % 65536) = foldZ n := by unfold foldZ; split <;> split <;> omega
theorem foldZ_rng (n : Int) : 0 ≤ foldZ n ∧ foldZ n ≤ 65535 := by unfold foldZ; split <;> omega

set_option maxHeartbeats 400000 in
theorem fold_any (n : Int) (w : World) (h0 : 0 ≤ n) (h1 : n ≤ 4000000000) :
    Calls Tryz.prog 143 #[.int .i64 n] w fun e w' => e = .returned (.int .i64 (foldZ n)) ∧ w = w' := by
  go_enter Tryz.func143, Tryz.ntmps143
  go_wp2
  go_loop [0] (fun t => ∃ x : Int, 0 ≤ x ∧ x ≤ 4000000000 ∧ t = .int .i64 x ∧ foldZ x = foldZ n) (fun t => (intOf t).toNat)
  case atStart => exact ⟨n, h0, h1, rfl, rfl⟩
  case round =>
    obtain ⟨x, hx0, hx1, rfl, hx⟩ := hrel
    have Hx := Lib.hid hx
    clear hx
    by_cases hc : 65535 < x
    · have ha := and65535 x hx0 (by omega)
      go_wp2
      go_round
      case rel => exact ⟨_, by omega, by omega, rfl, by rw [foldZ_step _ hc]; exact Hx.out⟩
      case measure => simp [intOf]; omega
    · go_wp2
      go_ret
      exact ⟨ret_int (by rw [← Hx.out, foldZ_small _ hx0 (by omega)]), rfl⟩

/-! ### The two closures of add -/
/-- A sum that goes on: the number so far, and whether the next byte is a high one. -/
def addB (st : Int × Bool) (b : UInt8) : Int × Bool := (foldZ (st.1 + (if st.2 then (b.toNat : Int) * 256 else (b.toNat : Int))), !st.2)
theorem addB_rng (st : Int × Bool) (b : UInt8) : 0 ≤ (addB st b).1 ∧ (addB st b).1 ≤ 65535 := foldZ_rng _

set_option maxHeartbeats 1000000 in
theorem addPut_high (b : Int) (hb : 0 ≤ b ∧ b ≤ 255) (n : Int) (hn : 0 ≤ n ∧ n ≤ 65535) (ph pn : Nat) (hne : ph ≠ pn) (w : World)
    (bh : Blk w ph [.bool true] 4) (bn : Blk w pn [.int .i64 n] 3) :
    Calls Tryz.prog 142 #[.int .u8 b, .pointer (some ⟨ph, 0, none⟩), .pointer (some ⟨pn, 0, none⟩)] w fun e w' => e = .returned (.tuple #[]) ∧
      Blk w' ph [.bool false] 4 ∧ Blk w' pn [.int .i64 (foldZ (n + b * 256))] 3 ∧ Mod [ph, pn] w w' := by
  have ch := bh.cell
  have cn := bn.cell
  have fh := bh.free
  have fn := bn.free
  go_enter Tryz.func142, Tryz.ntmps142
  go_wp2
  go_region_with (go_at_call 143; refine (fold_any _ _ (by omega) (by omega)).mono ?_; rintro e w' ⟨rfl, rfl⟩)
  all_goals
    go_end0
    exact ⟨rfl, by (repeat' (first | (with_reducible assumption) | (with_reducible rfl) | (with_reducible apply Blk.drew) | (with_reducible apply Blk.drewN) | (with_reducible refine Blk.new_ _ _ ?_; focus (first | assumption | (simp; omega) | (simp; done) | omega | (simp at *; omega))) | (with_reducible apply Blk.alloc) | (with_reducible apply Blk.other_; focus (first | assumption | (simp; omega) | (simp; done) | omega | (simp at *; omega))) | (with_reducible apply Blk.set_) | (with_reducible apply Blk.mod_ ‹Mod _ _ _›; focus (first | assumption | (simp; omega) | (simp; done) | omega | (simp at *; omega))) | (simp; done))), by (repeat' (first | (with_reducible assumption) | (with_reducible rfl) | (with_reducible apply Blk.drew) | (with_reducible apply Blk.drewN) | (with_reducible refine Blk.new_ _ _ ?_; focus (first | assumption | (simp; omega) | (simp; done) | omega | (simp at *; omega))) | (with_reducible apply Blk.alloc) | (with_reducible apply Blk.other_; focus (first | assumption | (simp; omega) | (simp; done) | omega | (simp at *; omega))) | (with_reducible apply Blk.set_) | (with_reducible apply Blk.mod_ ‹Mod _ _ _›; focus (first | assumption | (simp; omega) | (simp; done) | omega | (simp at *; omega))) | (simp; done))), by (repeat' (first | (with_reducible exact Mod.refl _ _) | (with_reducible assumption) | (with_reducible refine Mod.drew ?_) | (with_reducible refine Mod.drewN ?_ _) | (with_reducible refine Mod.alloc ?_ _) | (with_reducible refine Mod.setCell_ ?_ ?_; focus (first | (intro hlt_; simp; done) | (intro hlt_; exfalso; simp at hlt_; done) | (intro hlt_; exfalso; simp at hlt_; omega) | (intro hlt_; exfalso; omega) | (intro hlt_; simp at hlt_ ⊢; omega))) | (with_reducible refine Mod.trans_ ‹Mod _ _ _› ?_ ?_; focus (first | (intro x_ hx_ hl_; simp at hx_; done) | (intro x_ hx_ hl_; simp at hx_ ⊢; omega) | (intro x_ hx_ hl_; simp at hx_ hl_ ⊢; omega) | (intro x_ hx_ hl_; simp_all; done) | (intro x_ hx_ hl_; simp_all; omega)))))⟩
set_option maxHeartbeats 1000000 in
theorem addPut_low (b : Int) (hb : 0 ≤ b ∧ b ≤ 255) (n : Int) (hn : 0 ≤ n ∧ n ≤ 65535) (ph pn : Nat) (hne : ph ≠ pn) (w : World)
    (bh : Blk w ph [.bool false] 4) (bn : Blk w pn [.int .i64 n] 3) :
    Calls Tryz.prog 142 #[.int .u8 b, .pointer (some ⟨ph, 0, none⟩), .pointer (some ⟨pn, 0, none⟩)] w fun e w' => e = .returned (.tuple #[]) ∧
      Blk w' ph [.bool true] 4 ∧ Blk w' pn [.int .i64 (foldZ (n + b))] 3 ∧ Mod [ph, pn] w w' := by
  have ch := bh.cell
  have cn := bn.cell
  have fh := bh.free
  have fn := bn.free
  go_enter Tryz.func142, Tryz.ntmps142
  go_wp2
  go_region_with (go_at_call 143; refine (fold_any _ _ (by omega) (by omega)).mono ?_; rintro e w' ⟨rfl, rfl⟩)
  all_goals
    go_end0
    exact ⟨rfl, by (repeat' (first | (with_reducible assumption) | (with_reducible rfl) | (with_reducible apply Blk.drew) | (with_reducible apply Blk.drewN) | (with_reducible refine Blk.new_ _ _ ?_; focus (first | assumption | (simp; omega) | (simp; done) | omega | (simp at *; omega))) | (with_reducible apply Blk.alloc) | (with_reducible apply Blk.other_; focus (first | assumption | (simp; omega) | (simp; done) | omega | (simp at *; omega))) | (with_reducible apply Blk.set_) | (with_reducible apply Blk.mod_ ‹Mod _ _ _›; focus (first | assumption | (simp; omega) | (simp; done) | omega | (simp at *; omega))) | (simp; done))), by (repeat' (first | (with_reducible assumption) | (with_reducible rfl) | (with_reducible apply Blk.drew) | (with_reducible apply Blk.drewN) | (with_reducible refine Blk.new_ _ _ ?_; focus (first | assumption | (simp; omega) | (simp; done) | omega | (simp at *; omega))) | (with_reducible apply Blk.alloc) | (with_reducible apply Blk.other_; focus (first | assumption | (simp; omega) | (simp; done) | omega | (simp at *; omega))) | (with_reducible apply Blk.set_) | (with_reducible apply Blk.mod_ ‹Mod _ _ _›; focus (first | assumption | (simp; omega) | (simp; done) | omega | (simp at *; omega))) | (simp; done))), by (repeat' (first | (with_reducible exact Mod.refl _ _) | (with_reducible assumption) | (with_reducible refine Mod.drew ?_) | (with_reducible refine Mod.drewN ?_ _) | (with_reducible refine Mod.alloc ?_ _) | (with_reducible refine Mod.setCell_ ?_ ?_; focus (first | (intro hlt_; simp; done) | (intro hlt_; exfalso; simp at hlt_; done) | (intro hlt_; exfalso; simp at hlt_; omega) | (intro hlt_; exfalso; omega) | (intro hlt_; simp at hlt_ ⊢; omega))) | (with_reducible refine Mod.trans_ ‹Mod _ _ _› ?_ ?_; focus (first | (intro x_ hx_ hl_; simp at hx_; done) | (intro x_ hx_ hl_; simp at hx_ ⊢; omega) | (intro x_ hx_ hl_; simp at hx_ hl_ ⊢; omega) | (intro x_ hx_ hl_; simp_all; done) | (intro x_ hx_ hl_; simp_all; omega)))))⟩
theorem addPut_any (b : UInt8) (st : Int × Bool) (hn : 0 ≤ st.1 ∧ st.1 ≤ 65535) (ph pn : Nat) (hne : ph ≠ pn) (w : World)
    (bh : Blk w ph [.bool st.2] 4) (bn : Blk w pn [.int .i64 st.1] 3) :
    Calls Tryz.prog 142 #[.int .u8 b.toNat, .pointer (some ⟨ph, 0, none⟩), .pointer (some ⟨pn, 0, none⟩)] w fun e w' => e = .returned (.tuple #[]) ∧
      Blk w' ph [.bool (addB st b).2] 4 ∧ Blk w' pn [.int .i64 (addB st b).1] 3 ∧ Mod [ph, pn] w w' := by
  obtain ⟨n, h⟩ := st
  have hb : (0 : Int) ≤ (b.toNat : Int) ∧ (b.toNat : Int) ≤ 255 := by have := b.toNat_lt; omega
  cases h
  · exact addPut_low _ hb n hn ph pn hne w bh bn
  · exact addPut_high _ hb n hn ph pn hne w bh bn
set_option maxHeartbeats 400000 in
theorem addEnd_any (n : Int) (pn : Nat) (w : World) (bn : Blk w pn [.int .i64 n] 3) :
    Calls Tryz.prog 144 #[.pointer (some ⟨pn, 0, none⟩)] w fun e w' => e = .returned (.int .i64 n) ∧ w = w' := by
  have cn := bn.cell
  go_enter Tryz.func144, Tryz.ntmps144
  go_wp2
  go_ret
  exact ⟨rfl, rfl⟩
set_option maxHeartbeats 400000 in
theorem add_any (w : World) :
    Calls Tryz.prog 133 #[] w fun e w' => ∃ ph pn, e = .returned (.tuple #[.func (.func 142) #[] #[.pointer (some ⟨ph, 0, none⟩), .pointer (some ⟨pn, 0, none⟩)], .func (.func 144) #[] #[.pointer (some ⟨pn, 0, none⟩)]]) ∧
      w.heap.size ≤ ph ∧ w.heap.size ≤ pn ∧ ph ≠ pn ∧ Blk w' ph [.bool true] 4 ∧ Blk w' pn [.int .i64 0] 3 ∧ Mod [] w w' := by
  go_enter Tryz.func133, Tryz.ntmps133
  go_wp2
  go_ret2
  exact ⟨w.heap.size + 1, w.heap.size, rfl, by omega, by omega, by omega, by (repeat' (first | (with_reducible assumption) | (with_reducible rfl) | (with_reducible apply Blk.drew) | (with_reducible apply Blk.drewN) | (with_reducible refine Blk.new_ _ _ ?_; focus (first | assumption | (simp; omega) | (simp; done) | omega | (simp at *; omega))) | (with_reducible apply Blk.alloc) | (with_reducible apply Blk.other_; focus (first | assumption | (simp; omega) | (simp; done) | omega | (simp at *; omega))) | (with_reducible apply Blk.set_) | (with_reducible apply Blk.mod_ ‹Mod _ _ _›; focus (first | assumption | (simp; omega) | (simp; done) | omega | (simp at *; omega))) | (simp; done))), by (repeat' (first | (with_reducible assumption) | (with_reducible rfl) | (with_reducible apply Blk.drew) | (with_reducible apply Blk.drewN) | (with_reducible refine Blk.new_ _ _ ?_; focus (first | assumption | (simp; omega) | (simp; done) | omega | (simp at *; omega))) | (with_reducible apply Blk.alloc) | (with_reducible apply Blk.other_; focus (first | assumption | (simp; omega) | (simp; done) | omega | (simp at *; omega))) | (with_reducible apply Blk.set_) | (with_reducible apply Blk.mod_ ‹Mod _ _ _›; focus (first | assumption | (simp; omega) | (simp; done) | omega | (simp at *; omega))) | (simp; done))), by (repeat' (first | (with_reducible exact Mod.refl _ _) | (with_reducible assumption) | (with_reducible refine Mod.drew ?_) | (with_reducible refine Mod.drewN ?_ _) | (with_reducible refine Mod.alloc ?_ _) | (with_reducible refine Mod.setCell_ ?_ ?_; focus (first | (intro hlt_; simp; done) | (intro hlt_; exfalso; simp at hlt_; done) | (intro hlt_; exfalso; simp at hlt_; omega) | (intro hlt_; exfalso; omega) | (intro hlt_; simp at hlt_ ⊢; omega))) | (with_reducible refine Mod.trans_ ‹Mod _ _ _› ?_ ?_; focus (first | (intro x_ hx_ hl_; simp at hx_; done) | (intro x_ hx_ hl_; simp at hx_ ⊢; omega) | (intro x_ hx_ hl_; simp at hx_ hl_ ⊢; omega) | (intro x_ hx_ hl_; simp_all; done) | (intro x_ hx_ hl_; simp_all; omega)))))⟩

/-! ### Of -/
def addS (st : Int × Bool) (s : ByteArray) : Int × Bool := s.data.toList.foldl addB st
def addAll (ss : List ByteArray) : Int × Bool := ss.foldl addS (0, true)
def sumOf (ss : List ByteArray) : Int := 65535 - (addAll ss).1
theorem addL_rng (l : List UInt8) (st : Int × Bool) (h : 0 ≤ st.1 ∧ st.1 ≤ 65535) : 0 ≤ (l.foldl addB st).1 ∧ (l.foldl addB st).1 ≤ 65535 := by
  induction l generalizing st with
  | nil => exact h
  | cons b l ih => exact ih _ (addB_rng st b)
theorem addS_rng (s : ByteArray) (st : Int × Bool) (h : 0 ≤ st.1 ∧ st.1 ≤ 65535) : 0 ≤ (addS st s).1 ∧ (addS st s).1 ≤ 65535 := addL_rng _ st h
theorem addAll_rng (ss : List ByteArray) : 0 ≤ (addAll ss).1 ∧ (addAll ss).1 ≤ 65535 := by
  have : ∀ (ss : List ByteArray) (st : Int × Bool), 0 ≤ st.1 ∧ st.1 ≤ 65535 → 0 ≤ (ss.foldl addS st).1 ∧ (ss.foldl addS st).1 ≤ 65535 := by
    intro ss
    induction ss with
    | nil => exact fun st h => h
    | cons b l ih => exact fun st h => ih _ (addS_rng b st h)
  exact this ss _ (by decide)
theorem take_snoc {α : Type} (l : List α) (k : Nat) (h : k < l.length) : l.take (k + 1) = l.take k ++ [l[k]] := by
  rw [List.take_succ_eq_append_getElem h]
theorem addAll_snoc (ss : List ByteArray) (k : Nat) (h : k < ss.length) : addAll (ss.take (k + 1)) = addS (addAll (ss.take k)) ss[k] := by
  unfold addAll; rw [take_snoc ss k h, List.foldl_append]; rfl
def addTo (st : Int × Bool) (s : ByteArray) (k : Nat) : Int × Bool := (s.data.toList.take k).foldl addB st
theorem addTo_snoc (st : Int × Bool) (s : ByteArray) (k : Nat) (h : k < s.size) : addTo st s (k + 1) = addB (addTo st s k) s[k] := by
  unfold addTo
  rw [take_snoc _ k (by simpa using h), List.foldl_append]; rfl
theorem addTo_all (st : Int × Bool) (s : ByteArray) : addTo st s s.size = addS st s := by
  unfold addTo addS; rw [List.take_of_length_le (by simp)]
theorem addTo_rng (s : ByteArray) (k : Nat) (st : Int × Bool) (h : 0 ≤ st.1 ∧ st.1 ≤ 65535) : 0 ≤ (addTo st s k).1 ∧ (addTo st s k).1 ≤ 65535 := addL_rng _ st h

set_option maxHeartbeats 1000000 in
theorem Of_any (v : Value) (ss : List ByteArray) (w : World) (hr : Row w v ss.length (ss.map Value.string)) (hs : ∀ s ∈ ss, s.size ≤ 9223372036854775807) :
    Calls Tryz.prog 107 #[v] w fun e w' => e = .returned (.int .i64 (sumOf ss)) ∧ Mod [] w w' := by
  have hr0 := hr
  obtain ⟨A, cap, rfl, hn, hc⟩ := hr0
  go_enter Tryz.func107, Tryz.ntmps107
  go_wp2_with (go_at_call 133; refine (add_any _).mono ?_; rintro e w1 ⟨ph, pn, rfl, hph, hpn, hne, bh, bn, hm⟩)
  go_loopw [14] (fun i wr => ∃ k : Nat, k ≤ ss.length ∧ i = .int .i64 k ∧ Blk wr ph [.bool (addAll (ss.take k)).2] 4 ∧ Blk wr pn [.int .i64 (addAll (ss.take k)).1] 3 ∧ Mod [] w wr) (fun i _ => ss.length - (intOf i).toNat)
  case atStart => exact ⟨0, Nat.zero_le _, rfl, bh, bn, hm⟩
  case round =>
    obtain ⟨k, hk, rfl, bh1, bn1, hm1⟩ := hrel
    by_cases hlt : k < ss.length
    · obtain ⟨b, off, rfl, hcell⟩ := (hr.mod0 hm1).get (j := k) (x := .string ss[k]) (by simp [hlt])
      have hsk : (ss[k]).size ≤ 9223372036854775807 := hs _ (List.getElem_mem hlt)
      have hst := addAll_rng (ss.take k)
      go_wp2_with fail
      obtain ⟨wo, rfl⟩ : ∃ wo : World, wo = wr := ⟨_, rfl⟩
      go_loopw [20] (fun i wr => ∃ j : Nat, j ≤ ss[k].size ∧ i = .int .i64 j ∧ Blk wr ph [.bool (addTo (addAll (ss.take k)) ss[k] j).2] 4 ∧ Blk wr pn [.int .i64 (addTo (addAll (ss.take k)) ss[k] j).1] 3 ∧ Mod [] w wr) (fun i _ => ss[k].size - (intOf i).toNat)
      case atStart => exact ⟨0, Nat.zero_le _, rfl, bh1, bn1, hm1⟩
      case round =>
        obtain ⟨j, hj, rfl, bh2, bn2, hm2⟩ := hrel
        by_cases hlj : j < ss[k].size
        · have hst2 := addTo_rng ss[k] j _ hst
          have ea := Lib.hid (addTo_snoc (addAll (ss.take k)) ss[k] j hlj)
          go_wp2_with (go_at_call 142; refine (addPut_any _ _ hst2 ph pn hne _ bh2 bn2).mono ?_; rintro e w2 ⟨rfl, bh3, bn3, hm3⟩)
          go_roundw
          case rel => exact ⟨j + 1, by omega, by go_num, by rw [ea.out]; exact bh3, by rw [ea.out]; exact bn3, hm2.trans hm3 (by intro x hx hl; simp at hx; omega)⟩
          case measure => simp [intOf]; omega
        · obtain rfl : j = ss[k].size := by omega
          go_wp2
          go_roundw
          case rel => exact ⟨k + 1, by omega, by go_num, by rw [addAll_snoc _ _ hlt, ← addTo_all]; exact bh2, by rw [addAll_snoc _ _ hlt, ← addTo_all]; exact bn2, hm2⟩
          case measure => simp [intOf]; omega
    · obtain rfl : k = ss.length := by omega
      have hst := addAll_rng ss
      rw [List.take_of_length_le (Nat.le_refl _)] at bh1 bn1
      go_wp2_with (go_at_call 144; refine (addEnd_any _ pn _ bn1).mono ?_; rintro e w2 ⟨rfl, rfl⟩)
      go_ret
      exact ⟨rfl, hm1⟩
end Go.Proofs.YtmcaigmpcbkfpaaGreat
