/- sum.Pseudo and the document's Pseudo. -/
import Derived.Test.YtmcaigmpcbkfpaaMSumText
import Derived.Test.YtmcaigmpcbkfpaaAuto
import Derived.Test.YtmcaigmpcbkfpaaOpen
import Derived.Test.YtmcaigmpcbkfpaaRdNum
import Derived.Test.YtmcaigmpcbkfpaaNot3
import Derived.Test.YtmcaigmpcbkfpaaHdr3
set_option linter.unusedVariables false
set_option linter.unusedSimpArgs false
set_option maxRecDepth 100000
namespace Go.Proofs.Ytmcaigmpcbkfpaa
open Go.RowKit

def pseudoOf (src dst proto size : Int) : ByteArray := ⟨(numBytes 4 src ++ numBytes 4 dst ++ [0, UInt8.ofNat (proto % 256).toNat] ++ numBytes 2 (size % 65536)).toArray⟩

theorem pseudo_nums (src dst proto size : Int) (hs : 0 ≤ src ∧ src ≤ 4294967295) (hd : 0 ≤ dst ∧ dst ≤ 4294967295) :
    strOfNums [src / 16777216, src / 65536 % 256, src / 256 % 256, src % 256, dst / 16777216, dst / 65536 % 256, dst / 256 % 256, dst % 256, 0, proto % 256, size / 256 % 256, size % 256] = pseudoOf src dst proto size := by
  unfold strOfNums pseudoOf
  rw [numBytes4, numBytes4, numBytes2]
  rw [show src / 16777216 % 256 = src / 16777216 from by omega, show dst / 16777216 % 256 = dst / 16777216 from by omega, show size % 65536 / 256 % 256 = size / 256 % 256 from by omega, show size % 65536 % 256 = size % 256 from by omega]
  simp
end Go.Proofs.Ytmcaigmpcbkfpaa
namespace Go.Proofs.Ytmcaigmpcbkfpaa
set_option maxRecDepth 8000
attribute [local irreducible] blk wpS seqS ordS OpVal RV endS LoadV StoreV Calls
open Go.RowKit
structure Seg where
  sp : Int
  dp : Int
  seq : Int
  ack : Int
  fl : Int
  win : Int
  d : ByteArray
abbrev enSeg (s : Seg) : List Value := [.int .i64 s.sp, .int .i64 s.dp, .int .u32 s.seq, .int .u32 s.ack, .int .i64 s.fl, .int .i64 s.win, .string s.d]
abbrev sv (s : Seg) : Value := .agg #[.int .i64 s.sp, .int .i64 s.dp, .int .u32 s.seq, .int .u32 s.ack, .int .i64 s.fl, .int .i64 s.win, .string s.d]
def segRight (p : Int) (s : Seg) : Bool := decide (0 ≤ s.sp) && decide (s.sp ≤ 65535) && (decide (0 ≤ s.dp) && decide (s.dp ≤ 65535)) &&
  (if p = 6 then decide (0 ≤ s.fl) && decide (s.fl ≤ 63) && (decide (0 ≤ s.win) && decide (s.win ≤ 65535)) && decide ((s.d.size : Int) ≤ 65495)
   else decide (p = 17) && decide (s.seq = 0) && decide (s.ack = 0) && decide (s.fl = 0) && decide (s.win = 0) && decide ((s.d.size : Int) ≤ 65507))
/-- In the words of the program: each number as its type has it. -/
def segWf (s : Seg) : Prop := (0 ≤ s.seq ∧ s.seq ≤ 4294967295) ∧ (0 ≤ s.ack ∧ s.ack ≤ 4294967295) ∧ (-9223372036854775808 ≤ s.sp ∧ s.sp ≤ 9223372036854775807) ∧ (-9223372036854775808 ≤ s.dp ∧ s.dp ≤ 9223372036854775807) ∧ (-9223372036854775808 ≤ s.fl ∧ s.fl ≤ 9223372036854775807) ∧ (-9223372036854775808 ≤ s.win ∧ s.win ≤ 9223372036854775807)
end Go.Proofs.Ytmcaigmpcbkfpaa
namespace Go.Proofs.Ytmcaigmpcbkfpaa
set_option maxRecDepth 8000
attribute [local irreducible] blk wpS seqS ordS OpVal RV endS LoadV StoreV Calls
open Go.RowKit
theorem or20480 (x : Int) (h0 : 0 ≤ x) (h1 : x ≤ 63) : bits .or .i64 20480 x = 20480 + x :=
  bits_join .i64 62 (by decide) (fun n a c => IntWalk.i64_in n ⟨by omega, by
    have : (2 : Int) ^ 62 = 4611686018427387904 := by decide
    omega⟩) 12 20480 x (by omega) (by omega) (by decide) h0 (by
    have : (2 : Int) ^ 12 = 4096 := by decide
    omega) (by
    have : (2 : Int) ^ 62 = 4611686018427387904 := by decide
    omega)
def tcpBody (s : Seg) : List UInt8 := [s.sp, s.dp].flatMap (numBytes 2) ++ [s.seq, s.ack].flatMap (numBytes 4) ++ [20480 + s.fl, s.win, 0, 0].flatMap (numBytes 2) ++ s.d.data.toList
def udpBody (s : Seg) : List UInt8 := [s.sp, s.dp, 8 + (s.d.size : Int), 0].flatMap (numBytes 2) ++ s.d.data.toList
theorem tcpBody_len (s : Seg) : (tcpBody s).length = 20 + s.d.size := by simp [tcpBody, numBytes_length]; omega
theorem udpBody_len (s : Seg) : (udpBody s).length = 8 + s.d.size := by simp [udpBody, numBytes_length]; omega
/-- The numbers that can be written. -/
def segFits (s : Seg) : Prop := (0 ≤ s.sp ∧ s.sp ≤ 65535) ∧ (0 ≤ s.dp ∧ s.dp ≤ 65535) ∧ (0 ≤ s.fl ∧ s.fl ≤ 63) ∧ (0 ≤ s.win ∧ s.win ≤ 65535) ∧ (0 ≤ s.seq ∧ s.seq ≤ 4294967295) ∧ (0 ≤ s.ack ∧ s.ack ≤ 4294967295) ∧ s.d.size ≤ 65507
end Go.Proofs.Ytmcaigmpcbkfpaa
namespace Go.Proofs.Ytmcaigmpcbkfpaa
set_option maxRecDepth 8000
attribute [local irreducible] blk wpS seqS ordS OpVal RV endS LoadV StoreV Calls
open Go.RowKit
/-- A body with its sum. -/
def segB (B : ByteArray) (at_ : Nat) (n : Int) : List UInt8 := (B.extract 0 at_).data.toList ++ numBytes 2 n ++ (B.extract (at_ + 2) B.size).data.toList
def segBody (p : Int) (s : Seg) : ByteArray := if p = 17 then strOf (udpBody s) else strOf (tcpBody s)
def segAt (p : Int) : Nat := if p = 17 then 6 else 16
def segSum (p src dst : Int) (B : ByteArray) : Int := sumOf [pseudoOf src dst p B.size, B]
def segN (p src dst : Int) (B : ByteArray) : Int := if segSum p src dst B = 0 ∧ p = 17 then 65535 else segSum p src dst B
def segBytes (p src dst : Int) (s : Seg) : List UInt8 := segB (segBody p s) (segAt p) (segN p src dst (segBody p s))
def segEnc (p src dst : Int) (s : Seg) : ByteArray × Int := if segRight p s = true then (strOf (segBytes p src dst s), 0) else (⟨#[]⟩, 1)
theorem segB_len (B : ByteArray) (k : Nat) (n : Int) (h : k + 2 ≤ B.size) : (segB B k n).length = B.size := by
  simp only [segB, List.length_append, numBytes_length, Array.length_toList, ByteArray.size_data, ByteArray.size_extract]
  omega
theorem pseudo_size (src dst p n : Int) : (pseudoOf src dst p n).size = 12 := by
  show (strOf _).size = 12
  rw [strOf_size]
  simp only [List.length_append, numBytes_length, List.length_cons, List.length_nil]
theorem two_le {a b : ByteArray} {n : Nat} (h1 : a.size ≤ n) (h2 : b.size ≤ n) : ∀ x ∈ [a, b], x.size ≤ n := fun x hx => by
  rcases List.mem_cons.1 hx with rfl | hx
  · exact h1
  · rcases List.mem_cons.1 hx with rfl | hx
    · exact h2
    · cases hx
theorem sumOf_rng (ss : List ByteArray) : 0 ≤ sumOf ss ∧ sumOf ss ≤ 65535 := by unfold sumOf; have := addAll_rng ss; omega
theorem segRight_p {p : Int} {s : Seg} (h : segRight p s = true) : p = 6 ∨ p = 17 := by
  unfold segRight at h
  by_cases h6 : p = 6
  · exact .inl h6
  · rw [if_neg h6] at h
    simp only [Bool.and_eq_true, decide_eq_true_eq] at h
    exact .inr h.2.1.1.1.1.1
theorem segRight_fits {p : Int} {s : Seg} (h : segRight p s = true) (hw : segWf s) : segFits s := by
  unfold segRight at h
  obtain ⟨h5, h6, -⟩ := hw
  by_cases h6' : p = 6
  · rw [if_pos h6'] at h
    simp only [Bool.and_eq_true, decide_eq_true_eq] at h
    obtain ⟨⟨⟨a1, a2⟩, a3, a4⟩, ⟨⟨a5, a6⟩, a7, a8⟩, a9⟩ := h
    exact ⟨⟨a1, a2⟩, ⟨a3, a4⟩, ⟨a5, a6⟩, ⟨a7, a8⟩, h5, h6, by omega⟩
  · rw [if_neg h6'] at h
    simp only [Bool.and_eq_true, decide_eq_true_eq] at h
    obtain ⟨⟨⟨a1, a2⟩, a3, a4⟩, ⟨⟨⟨⟨⟨a5, a6⟩, a7⟩, a8⟩, a9⟩, a10⟩⟩ := h
    exact ⟨⟨a1, a2⟩, ⟨a3, a4⟩, by omega, by omega, by omega, by omega, by omega⟩
end Go.Proofs.Ytmcaigmpcbkfpaa
namespace Go.Proofs.Ytmcaigmpcbkfpaa
set_option maxRecDepth 8000
attribute [local irreducible] blk wpS seqS ordS OpVal RV endS LoadV StoreV Calls
open Go.RowKit
theorem segBytes_front (p src dst : Int) (s : Seg) : ∃ r, segBytes p src dst s = b8 (s.sp / 256) :: b8 s.sp :: b8 (s.dp / 256) :: b8 s.dp :: r := by
  unfold segBytes segB segBody segAt
  split
  · rw [strOf_extract, udpBody]
    simp only [List.flatMap_cons, nbs2, List.cons_append, List.nil_append, List.drop_zero, Nat.sub_zero, List.take_succ_cons, strOf_data]
    exact ⟨_, rfl⟩
  · rw [strOf_extract, tcpBody]
    simp only [List.flatMap_cons, nbs2, List.cons_append, List.nil_append, List.drop_zero, Nat.sub_zero, List.take_succ_cons, strOf_data]
    exact ⟨_, rfl⟩
theorem segBody_size {p : Int} {s : Seg} (h : segRight p s = true) (hw : segWf s) : segAt p + 2 ≤ (segBody p s).size ∧ 8 ≤ (segBody p s).size ∧ (segBody p s).size ≤ 65535 := by
  have := (segRight_fits h hw).2.2.2.2.2.2
  unfold segBody segAt
  split
  · rw [strOf_size, udpBody_len]; omega
  · rw [strOf_size, tcpBody_len]; omega
theorem segBytes_len {p src dst : Int} {s : Seg} (h : segRight p s = true) (hw : segWf s) : (segBytes p src dst s).length = (segBody p s).size := segB_len _ _ _ (segBody_size h hw).1
def exTcp : Seg := ⟨0, 0, 0, 0, 2, 0, ⟨#[]⟩⟩
def exUdp : Seg := ⟨0, 0, 0, 0, 0, 0, ⟨#[97, 98]⟩⟩
end Go.Proofs.Ytmcaigmpcbkfpaa
namespace Go.Proofs.Ytmcaigmpcbkfpaa
set_option maxRecDepth 8000
attribute [local irreducible] blk wpS seqS ordS OpVal RV endS LoadV StoreV Calls
open Go.RowKit
/-! ### A reader that must fail -/
/-- It has failed, or fewer bytes are left than of 20, n of which were asked for, are missing. -/
def rdrN (p n : Nat) : Res where
  foot := [p]
  holds := fun w => ∃ st, Rd w p st ∧ (st.1 = true ∨ st.2.size + n < 20)
  loc := fun w w' h ⟨st, h1, h2⟩ => ⟨st, (rdr p st).loc w w' (by simpa [rdr] using h) h1, h2⟩
  ex := fun w ⟨st, h1, _⟩ n hn => (rdr p st).ex w h1 n (by simpa [rdr] using hn)
theorem rTakeN {st : Bool × ByteArray} {n : Nat} (m : Nat) (h : st.1 = true ∨ st.2.size + n < 20) : (rTake st m).2.1 = true ∨ (rTake st m).2.2.size + (n + m) < 20 := by
  unfold rTake
  split
  · rename_i h1; exact .inl h1
  · rename_i h1
    split
    · exact .inl rfl
    · rename_i h2
      right
      have h3 := h.resolve_left h1
      simp only [ByteArray.size_extract]
      omega
section
variable {p n : Nat} {w : World}
theorem rByteN (h : (rdrN p n).holds w) : Calls Try.prog 56 #[ptr0 p] w (Turns (rdrN p n) (fun v : Int => .int .i64 v) (fun _ => rdrN p (n + 1)) w) := by
  obtain ⟨st, h1, h2⟩ := h
  exact (rByte_any (st := st) h1).mono fun e w' ⟨he, hr, hm⟩ => ⟨_, he, ⟨_, hr, rTakeN 1 h2⟩, hm, fun k hk => .inl hk⟩
theorem rShortN (h : (rdrN p n).holds w) : Calls Try.prog 57 #[ptr0 p] w (Turns (rdrN p n) (fun v : Int => .int .i64 v) (fun _ => rdrN p (n + 2)) w) := by
  obtain ⟨st, h1, h2⟩ := h
  exact (rShort_any' (st := st) h1).mono fun e w' ⟨he, hr, hm⟩ => ⟨_, he, ⟨_, hr, rTakeN 2 h2⟩, hm, fun k hk => .inl hk⟩
theorem rWordN (h : (rdrN p n).holds w) : Calls Try.prog 58 #[ptr0 p] w (Turns (rdrN p n) (fun v : Int => .int .u32 v) (fun _ => rdrN p (n + 4)) w) := by
  obtain ⟨st, h1, h2⟩ := h
  exact (rWord_any (st := st) h1).mono fun e w' ⟨he, hr, hm⟩ => ⟨_, he, ⟨_, hr, rTakeN 4 h2⟩, hm, fun k hk => .inl hk⟩
theorem rTake5N (h : (rdrN p n).holds w) : Calls Try.prog 77 #[ptr0 p, .int .i64 5] w (Turns (rdrN p n) (fun v : ByteArray => .string v) (fun _ => rdrN p (n + 5)) w) := by
  obtain ⟨st, h1, h2⟩ := h
  exact (Take_any (st := st) h1 5).mono fun e w' ⟨he, hr, hm⟩ => ⟨_, he, ⟨_, hr, rTakeN 5 h2⟩, hm, fun k hk => .inl hk⟩
theorem rOkN (h : (rdrN p 20).holds w) : Calls Try.prog 88 #[ptr0 p] w fun e w' => e = .returned (.bool false) ∧ Mod [] w w' := by
  obtain ⟨st, h1, h2⟩ := h
  have h3 : st.1 = true := h2.resolve_right (by omega)
  exact (Ok_any (st := st) h1).mono fun e w' ⟨he, hm⟩ => ⟨by rw [he, h3]; rfl, hm ▸ Mod.refl _ _⟩
end
/-! ### The beginning -/
theorem rTake5_list {p : Nat} {w : World} {a b c d e : UInt8} {l : List UInt8} (h : (rdr p (false, strOf (a :: b :: c :: d :: e :: l))).holds w) :
    Calls Try.prog 77 #[ptr0 p, .int .i64 5] w fun x w' => x = .returned (.string (strOf [a, b, c, d, e])) ∧ (rdr p (false, strOf l)).holds w' ∧ Mod (rdr p (false, strOf (a :: b :: c :: d :: e :: l))).foot w w' := by
  have := rTake_R 5 (l := a :: b :: c :: d :: e :: l) (by simp) h
  simpa using this
section
variable {P q : Nat} {w : World}
end
end Go.Proofs.Ytmcaigmpcbkfpaa
