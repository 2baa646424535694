/- Package cursor's reader: what its methods compute. -/
import Derived.Test.YtmcaigmpcbkfpaaGreatCursor
set_option linter.unusedVariables false
set_option linter.unusedSimpArgs false
set_option maxRecDepth 100000
namespace Go.Proofs.YtmcaigmpcbkfpaaGreat
open Go.RowKit

/-- A reader at the block p: whether it has failed, and what is left. -/
def Rd (w : World) (p : Nat) (st : Bool × ByteArray) : Prop := Blk w p [.bool st.1, .string st.2] 161 ∧ st.2.size ≤ 140737488351232
theorem Rd.mod {S : List Nat} {w w' : World} {p : Nat} {st : Bool × ByteArray} (h : Rd w p st) (hm : Mod S w w') (hp : p ∉ S) : Rd w' p st := ⟨h.1.mod hm hp, h.2⟩
theorem Rd.drew {w : World} {p : Nat} {st : Bool × ByteArray} (h : Rd w p st) : Rd w.drew p st := h
theorem Rd.drewN {w : World} {p : Nat} {st : Bool × ByteArray} (h : Rd w p st) (n : Nat) : Rd (w.drewN n) p st := h
theorem Rd.alloc {w : World} {p : Nat} {st : Bool × ByteArray} (h : Rd w p st) (o : Obj) : Rd (w.alloc o) p st := ⟨h.1.alloc o, h.2⟩
theorem Rd.lt {w : World} {p : Nat} {st : Bool × ByteArray} (h : Rd w p st) : p < w.heap.size := h.1.lt
/-- So many bytes. -/
def rTake (st : Bool × ByteArray) (n : Int) : ByteArray × (Bool × ByteArray) :=
  if st.1 then (⟨#[]⟩, st) else if n < 0 ∨ (st.2.size : Int) < n then (⟨#[]⟩, (true, st.2)) else (st.2.extract 0 n.toNat, (false, st.2.extract n.toNat st.2.size))
def rLeft (st : Bool × ByteArray) : Nat := if st.1 then 0 else st.2.size
def numOf (l : List UInt8) : Int := l.foldl (fun x b => x * 256 + (b.toNat : Int)) 0
def rNum (st : Bool × ByteArray) (n : Int) : Int := numOf (rTake st n).1.data.toList
def rRest (st : Bool × ByteArray) : ByteArray × (Bool × ByteArray) := rTake st (rLeft st)
theorem numOf_snoc (l : List UInt8) (b : UInt8) : numOf (l ++ [b]) = numOf l * 256 + b.toNat := by simp [numOf]
theorem numOf_rng : ∀ (n : Nat) (l : List UInt8), l.length = n → 0 ≤ numOf l ∧ numOf l < 256 ^ n := by
  intro n
  induction n with
  | zero => intro l h; obtain rfl := List.eq_nil_of_length_eq_zero h; simp [numOf]
  | succ n ih =>
    intro l h
    have hne : l ≠ [] := by intro e; subst e; simp at h
    obtain ⟨m, b, rfl⟩ : ∃ m b, l = m ++ [b] := ⟨l.dropLast, l.getLast hne, (List.dropLast_concat_getLast hne).symm⟩
    have h1 := ih m (by simp at h; exact h)
    have h2 := b.toNat_lt
    rw [numOf_snoc, Int.pow_succ]
    omega

set_option maxHeartbeats 400000 in
theorem Read_any (s : ByteArray) (hs : s.size ≤ 140737488351232) (w : World) :
    Calls Tryz.prog 67 #[.string s] w fun e w' => e = .returned (.pointer (some ⟨w.heap.size, 0, none⟩)) ∧ w' = w.alloc (.cells #[.bool false, .string s] 161) := by
  go_enter Tryz.func67, Tryz.ntmps67
  go_wp2
  go_ret
  exact ⟨rfl, rfl⟩
theorem Rd.new {w : World} {s : ByteArray} (hs : s.size ≤ 140737488351232) {n : Nat} (hn : n = w.heap.size) : Rd (w.alloc (.cells #[.bool false, .string s] 161)) n (false, s) := ⟨by (repeat' (first | (with_reducible assumption) | (with_reducible rfl) | (with_reducible apply Blk.drew) | (with_reducible apply Blk.drewN) | (with_reducible refine Blk.new_ _ _ ?_; focus (first | assumption | (simp; omega) | (simp; done) | omega | (simp at *; omega))) | (with_reducible apply Blk.alloc) | (with_reducible apply Blk.other_; focus (first | assumption | (simp; omega) | (simp; done) | omega | (simp at *; omega))) | (with_reducible apply Blk.set_) | (with_reducible apply Blk.mod_ ‹Mod _ _ _›; focus (first | assumption | (simp; omega) | (simp; done) | omega | (simp at *; omega))) | (simp; done))), hs⟩
set_option maxHeartbeats 400000 in
theorem Ok_any {w : World} {p : Nat} {st : Bool × ByteArray} (h : Rd w p st) :
    Calls Tryz.prog 134 #[.pointer (some ⟨p, 0, none⟩)] w fun e w' => e = .returned (.bool !st.1) ∧ w = w' := by
  have c := h.1.cell 0
  go_enter Tryz.func134, Tryz.ntmps134
  go_wp2_with (go_at_call 119; refine (good_any _ st.1 _ c).mono ?_; rintro e w3 ⟨rfl, rfl⟩)
  go_ret
  exact ⟨rfl, rfl⟩
set_option maxHeartbeats 400000 in
theorem Left_any {w : World} {p : Nat} {st : Bool × ByteArray} (h : Rd w p st) :
    Calls Tryz.prog 111 #[.pointer (some ⟨p, 0, none⟩)] w fun e w' => e = .returned (.int .i64 (rLeft st)) ∧ w = w' := by
  have c := h.1.cell 1
  obtain ⟨f, s⟩ := st
  cases f
  all_goals
    go_enter Tryz.func111, Tryz.ntmps111
    go_wp2_with (go_at_call 134; refine (Ok_any h).mono ?_; rintro e w3 ⟨rfl, rfl⟩)
    go_ret
    exact ⟨by simp [rLeft], rfl⟩
/-- Behind a reading method that answers so: the reader's new state. -/
def RPost (p : Nat) (v : Value) (st : Bool × ByteArray) (w : World) (e : Ending) (w' : World) : Prop := e = .returned v ∧ Rd w' p st ∧ Mod [p] w w'
set_option maxHeartbeats 1000000 in
theorem Take_any {w : World} {p : Nat} {st : Bool × ByteArray} (h : Rd w p st) (n : Int) :
    Calls Tryz.prog 110 #[.pointer (some ⟨p, 0, none⟩), .int .i64 n] w (RPost p (.string (rTake st n).1) (rTake st n).2 w) := by
  have c := h.1.cell
  have fz := h.1.free
  have hz := h.2
  obtain ⟨f, s⟩ := st
  cases f
  · by_cases hn : n < 0
    · have e2 := Lib.hid (show rTake (false, s) n = (⟨#[]⟩, (true, s)) by simp [rTake, hn])
      go_enter Tryz.func110, Tryz.ntmps110
      go_wp2_with (first | (go_at_call 134; refine (Ok_any h).mono ?_; rintro e w3 ⟨rfl, rfl⟩) | (go_at_call 135; refine (fail_any _ false _ (c 0) (fz 0)).mono ?_; rintro e w3 ⟨rfl, rfl⟩))
      go_ret
      exact ⟨by rw [e2.out]; rfl, by rw [e2.out]; exact ⟨h.1.set 0 _, h.2⟩, by (repeat' (first | (with_reducible exact Mod.refl _ _) | (with_reducible assumption) | (with_reducible refine Mod.drew ?_) | (with_reducible refine Mod.drewN ?_ _) | (with_reducible refine Mod.alloc ?_ _) | (with_reducible refine Mod.setCell_ ?_ ?_; focus (first | (intro hlt_; simp; done) | (intro hlt_; exfalso; simp at hlt_; done) | (intro hlt_; exfalso; simp at hlt_; omega) | (intro hlt_; exfalso; omega) | (intro hlt_; simp at hlt_ ⊢; omega))) | (with_reducible refine Mod.trans_ ‹Mod _ _ _› ?_ ?_; focus (first | (intro x_ hx_ hl_; simp at hx_; done) | (intro x_ hx_ hl_; simp at hx_ ⊢; omega) | (intro x_ hx_ hl_; simp at hx_ hl_ ⊢; omega) | (intro x_ hx_ hl_; simp_all; done) | (intro x_ hx_ hl_; simp_all; omega)))))⟩
    by_cases hg : (s.size : Int) < n
    · have e2 := Lib.hid (show rTake (false, s) n = (⟨#[]⟩, (true, s)) by simp [rTake, hg])
      go_enter Tryz.func110, Tryz.ntmps110
      go_wp2_with (first | (go_at_call 134; refine (Ok_any h).mono ?_; rintro e w3 ⟨rfl, rfl⟩) | (go_at_call 135; refine (fail_any _ false _ (c 0) (fz 0)).mono ?_; rintro e w3 ⟨rfl, rfl⟩))
      go_ret
      exact ⟨by rw [e2.out]; rfl, by rw [e2.out]; exact ⟨h.1.set 0 _, h.2⟩, by (repeat' (first | (with_reducible exact Mod.refl _ _) | (with_reducible assumption) | (with_reducible refine Mod.drew ?_) | (with_reducible refine Mod.drewN ?_ _) | (with_reducible refine Mod.alloc ?_ _) | (with_reducible refine Mod.setCell_ ?_ ?_; focus (first | (intro hlt_; simp; done) | (intro hlt_; exfalso; simp at hlt_; done) | (intro hlt_; exfalso; simp at hlt_; omega) | (intro hlt_; exfalso; omega) | (intro hlt_; simp at hlt_ ⊢; omega))) | (with_reducible refine Mod.trans_ ‹Mod _ _ _› ?_ ?_; focus (first | (intro x_ hx_ hl_; simp at hx_; done) | (intro x_ hx_ hl_; simp at hx_ ⊢; omega) | (intro x_ hx_ hl_; simp at hx_ hl_ ⊢; omega) | (intro x_ hx_ hl_; simp_all; done) | (intro x_ hx_ hl_; simp_all; omega)))))⟩
    · obtain ⟨m, rfl⟩ := Int.eq_ofNat_of_zero_le (show 0 ≤ n by omega)
      have e2 := Lib.hid (show rTake (false, s) (m : Int) = (s.extract 0 m, (false, s.extract m s.size)) by simp [rTake]; omega)
      go_enter Tryz.func110, Tryz.ntmps110
      go_wp2_with (first | (go_at_call 134; refine (Ok_any h).mono ?_; rintro e w3 ⟨rfl, rfl⟩))
      go_ret
      exact ⟨by rw [e2.out]; rfl, by rw [e2.out]; exact ⟨h.1.set 1 _, by have := h.2; simp only [ByteArray.size_extract] at *; omega⟩, by (repeat' (first | (with_reducible exact Mod.refl _ _) | (with_reducible assumption) | (with_reducible refine Mod.drew ?_) | (with_reducible refine Mod.drewN ?_ _) | (with_reducible refine Mod.alloc ?_ _) | (with_reducible refine Mod.setCell_ ?_ ?_; focus (first | (intro hlt_; simp; done) | (intro hlt_; exfalso; simp at hlt_; done) | (intro hlt_; exfalso; simp at hlt_; omega) | (intro hlt_; exfalso; omega) | (intro hlt_; simp at hlt_ ⊢; omega))) | (with_reducible refine Mod.trans_ ‹Mod _ _ _› ?_ ?_; focus (first | (intro x_ hx_ hl_; simp at hx_; done) | (intro x_ hx_ hl_; simp at hx_ ⊢; omega) | (intro x_ hx_ hl_; simp at hx_ hl_ ⊢; omega) | (intro x_ hx_ hl_; simp_all; done) | (intro x_ hx_ hl_; simp_all; omega)))))⟩
  · have e2 := Lib.hid (show rTake (true, s) n = (⟨#[]⟩, (true, s)) by simp [rTake])
    go_enter Tryz.func110, Tryz.ntmps110
    go_wp2_with (go_at_call 134; refine (Ok_any h).mono ?_; rintro e w3 ⟨rfl, rfl⟩)
    go_ret
    exact ⟨by rw [e2.out]; rfl, by rw [e2.out]; exact h, by (repeat' (first | (with_reducible exact Mod.refl _ _) | (with_reducible assumption) | (with_reducible refine Mod.drew ?_) | (with_reducible refine Mod.drewN ?_ _) | (with_reducible refine Mod.alloc ?_ _) | (with_reducible refine Mod.setCell_ ?_ ?_; focus (first | (intro hlt_; simp; done) | (intro hlt_; exfalso; simp at hlt_; done) | (intro hlt_; exfalso; simp at hlt_; omega) | (intro hlt_; exfalso; omega) | (intro hlt_; simp at hlt_ ⊢; omega))) | (with_reducible refine Mod.trans_ ‹Mod _ _ _› ?_ ?_; focus (first | (intro x_ hx_ hl_; simp at hx_; done) | (intro x_ hx_ hl_; simp at hx_ ⊢; omega) | (intro x_ hx_ hl_; simp at hx_ hl_ ⊢; omega) | (intro x_ hx_ hl_; simp_all; done) | (intro x_ hx_ hl_; simp_all; omega)))))⟩
theorem rTake_size (st : Bool × ByteArray) (n : Int) (h0 : 0 ≤ n) : (rTake st n).1.size ≤ n := by
  unfold rTake; split
  · exact h0
  · split
    · exact h0
    · simp only [ByteArray.size_extract]; omega
theorem two32 : (2 : Int) ^ 32 = 4294967296 := by decide
theorem u32_join (x b : Int) (h0 : 0 ≤ x) (h1 : x < 16777216) (hb : 0 ≤ b) (hb1 : b ≤ 255) : bits .or .u32 (x * 256) b = x * 256 + b :=
  bits_join .u32 32 (by decide) (fun n a c => IntWalk.u32_in n ⟨a, by rw [two32] at c; omega⟩) 8 (x * 256) b (by omega) (by omega) (by rw [two32]; omega) hb (by omega) (by rw [two32]; omega)
set_option maxRecDepth 100000 in
set_option maxHeartbeats 1000000 in
theorem number_any {w : World} {p : Nat} {st : Bool × ByteArray} (h : Rd w p st) (n : Int) (h0 : 0 ≤ n) (h1 : n ≤ 4) :
    Calls Tryz.prog 109 #[.pointer (some ⟨p, 0, none⟩), .int .i64 n] w (RPost p (.int .u32 (rNum st n)) (rTake st n).2 w) := by
  have hsz := rTake_size st n h0
  go_enter Tryz.func109, Tryz.ntmps109
  go_wp2_with fail
  refine (Take_any h n).mono ?_
  rintro e w1 ⟨rfl, hr1, hm1⟩
  have hN : rNum st n = numOf (rTake st n).1.data.toList := rfl
  obtain ⟨t, ht⟩ : ∃ t, t = (rTake st n).1 := ⟨_, rfl⟩
  rw [← ht] at hN hsz ⊢
  have HN := Lib.hid hN
  clear hN ht
  have ht4 : t.size ≤ 4 := by omega
  go_wp2_with fail
  go_loop [5, 13] (fun x i => ∃ k : Nat, k ≤ t.size ∧ i = .int .i64 k ∧ x = .int .u32 (numOf (t.data.toList.take k))) (fun _ i => t.size - (intOf i).toNat)
  case atStart => exact ⟨0, Nat.zero_le _, rfl, rfl⟩
  case round =>
    obtain ⟨k, hk, rfl, rfl⟩ := hrel
    by_cases hlt : k < t.size
    · have hr := numOf_rng k (t.data.toList.take k) (by simp; omega)
      have hp : (256 : Int) ^ k ≤ 256 ^ 3 := by
        have : k = 0 ∨ k = 1 ∨ k = 2 ∨ k = 3 := by omega
        rcases this with rfl | rfl | rfl | rfl <;> decide
      have hx1 : numOf (t.data.toList.take k) < 16777216 := by
        have : (256 : Int) ^ 3 = 16777216 := by decide
        omega
      have hx0 := hr.1
      clear hr hp
      have hb : (t[k].toNat : Int) ≤ 255 := by have := t[k].toNat_lt; omega
      have hj := u32_join (numOf (t.data.toList.take k)) t[k].toNat hx0 hx1 (by omega) hb
      have hs := Lib.hid (show numOf (t.data.toList.take (k + 1)) = numOf (t.data.toList.take k) * 256 + t[k].toNat by
        rw [List.take_succ_eq_append_getElem (by simpa using hlt), numOf_snoc]; rfl)
      go_wp2
      go_round
      case rel => exact ⟨k + 1, by omega, by go_num, by rw [hs.out]⟩
      case measure => simp [intOf]; omega
    · obtain rfl : k = t.size := by omega
      rw [List.take_of_length_le (by simp)]
      go_wp2
      go_ret
      exact ⟨by rw [HN.out]; rfl, hr1, hm1⟩
theorem rNum_rng (st : Bool × ByteArray) (n : Nat) : 0 ≤ rNum st n ∧ rNum st n < 256 ^ n := by
  have h := rTake_size st n (by omega)
  have h1 := numOf_rng _ (rTake st n).1.data.toList rfl
  refine ⟨h1.1, Int.lt_of_lt_of_le h1.2 ?_⟩
  have : (rTake st n).1.data.toList.length ≤ n := by simp; omega
  have h2 := Nat.pow_le_pow_right (show 0 < 256 by decide) this
  have h3 := Int.ofNat_le.2 h2
  rw [Int.natCast_pow, Int.natCast_pow] at h3
  exact h3
set_option maxHeartbeats 400000 in
theorem rByte_any {w : World} {p : Nat} {st : Bool × ByteArray} (h : Rd w p st) :
    Calls Tryz.prog 68 #[.pointer (some ⟨p, 0, none⟩)] w (RPost p (.int .i64 (rNum st 1)) (rTake st 1).2 w) := by
  have hb := rNum_rng st 1
  have hb0 : 0 ≤ rNum st 1 := hb.1
  have hb1 : rNum st 1 ≤ 255 := by have := hb.2; simp at this; omega
  clear hb
  go_enter Tryz.func68, Tryz.ntmps68
  go_wp2_with (go_at_call 109; refine (number_any h 1 (by decide) (by decide)).mono ?_; rintro e w1 ⟨rfl, hr1, hm1⟩)
  go_ret
  exact ⟨rfl, hr1, hm1⟩
set_option maxHeartbeats 400000 in
theorem rShort_any' {w : World} {p : Nat} {st : Bool × ByteArray} (h : Rd w p st) :
    Calls Tryz.prog 69 #[.pointer (some ⟨p, 0, none⟩)] w (RPost p (.int .i64 (rNum st 2)) (rTake st 2).2 w) := by
  have hb := rNum_rng st 2
  have hb0 : 0 ≤ rNum st 2 := hb.1
  have hb1 : rNum st 2 ≤ 65535 := by have := hb.2; simp at this; omega
  clear hb
  go_enter Tryz.func69, Tryz.ntmps69
  go_wp2_with (go_at_call 109; refine (number_any h 2 (by decide) (by decide)).mono ?_; rintro e w1 ⟨rfl, hr1, hm1⟩)
  go_ret
  exact ⟨rfl, hr1, hm1⟩
set_option maxHeartbeats 400000 in
theorem rWord_any {w : World} {p : Nat} {st : Bool × ByteArray} (h : Rd w p st) :
    Calls Tryz.prog 70 #[.pointer (some ⟨p, 0, none⟩)] w (RPost p (.int .u32 (rNum st 4)) (rTake st 4).2 w) := by
  go_enter Tryz.func70, Tryz.ntmps70
  go_wp2_with (go_at_call 109; refine (number_any h 4 (by decide) (by decide)).mono ?_; rintro e w1 ⟨rfl, hr1, hm1⟩)
  go_ret
  exact ⟨rfl, hr1, hm1⟩
set_option maxHeartbeats 400000 in
theorem rRest_any {w : World} {p : Nat} {st : Bool × ByteArray} (h : Rd w p st) :
    Calls Tryz.prog 71 #[.pointer (some ⟨p, 0, none⟩)] w (RPost p (.string (rRest st).1) (rRest st).2 w) := by
  go_enter Tryz.func71, Tryz.ntmps71
  go_wp2_with (first | (go_at_call 111; refine (Left_any h).mono ?_; rintro e w3 ⟨rfl, rfl⟩) | (go_at_call 110; refine (Take_any h _).mono ?_; rintro e w1 ⟨rfl, hr1, hm1⟩))
  go_ret
  exact ⟨rfl, hr1, hm1⟩
end Go.Proofs.YtmcaigmpcbkfpaaGreat
