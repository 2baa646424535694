/- Package cursor: what the methods of its writer and its reader compute. -/
import Derived.Test.YtmcaigmpcbkfpaaGreatWriter
set_option linter.unusedVariables false
set_option linter.unusedSimpArgs false
set_option maxRecDepth 100000
namespace Go.Proofs.YtmcaigmpcbkfpaaGreat
open Go.RowKit

/-! ### fault -/
set_option maxHeartbeats 400000 in
theorem good_any (a : Addr) (f : Bool) (w : World) (h : w.cell? a = some (.bool f)) :
    Calls Tryz.prog 119 #[.pointer (some a)] w fun e w' => e = .returned (.bool !f) ∧ w = w' := by
  go_enter Tryz.func119, Tryz.ntmps119
  go_wp2
  go_ret
  exact ⟨rfl, rfl⟩
set_option maxHeartbeats 400000 in
theorem fail_any (a : Addr) (f : Bool) (w : World) (h : w.cell? a = some (.bool f)) (hf : w.frozen? a = false) :
    Calls Tryz.prog 135 #[.pointer (some a)] w fun e w' => e = .returned (.tuple #[]) ∧ w' = w.setCell a (.bool true) := by
  go_enter Tryz.func135, Tryz.ntmps135
  go_wp2
  go_end0
  exact ⟨rfl, rfl⟩
theorem wgood_any {B : Nat} {w : World} {p : Nat} {f : Bool} {bs : List UInt8} (h : Wr B w p f bs) :
    Calls Tryz.prog 119 #[.pointer (some ⟨p, 0, none⟩)] w fun e w' => e = .returned (.bool !f) ∧ w = w' := by
  obtain ⟨hB, hB2, ad, v, hb, _⟩ := h
  exact good_any _ f w (by rw [hb.cell]; rfl)
theorem wfail_any {B : Nat} {w : World} {p : Nat} {f : Bool} {bs : List UInt8} (h : Wr B w p f bs) :
    Calls Tryz.prog 135 #[.pointer (some ⟨p, 0, none⟩)] w fun e w' => e = .returned (.tuple #[]) ∧ Wr B w' p true bs ∧ WMod B p w w' := by
  obtain ⟨hB, hB2, ad, v, hb, had, hown, hne, hn⟩ := h
  refine (fail_any _ f w (by rw [hb.cell]; rfl) (hb.free 0)).mono ?_
  rintro e w' ⟨rfl, rfl⟩
  exact ⟨rfl, ⟨hB, by simpa using hB2, ad, v, hb.set 0 _, had, hown.kept (row := some p) ⟨rfl, rfl, rfl, by simp, fun k _ hk => Below.heap_setCell _ _ _ _ (fun e => hk (by simp [e]))⟩ (.inr hne), hne, hn⟩, WMod.setCell hB _ (by decide)⟩

/-! ### put -/
/-- The j-th byte of a number's, so many, the highest first. -/
def nb (size : Nat) (n : Int) (j : Nat) : UInt8 := UInt8.ofNat (n / 2 ^ (8 * (size - 1 - j)) % 256).toNat
def numBytes (size : Nat) (n : Int) : List UInt8 := (List.range size).map (nb size n)
def putOne (size : Nat) (most : Int) (st : Bool × List UInt8) (n : Int) : Bool × List UInt8 :=
  if st.1 || decide (n < 0) || decide (most < n) then (true, st.2) else (false, st.2 ++ numBytes size n)
def putAll (size : Nat) (most : Int) (st : Bool × List UInt8) (l : List Int) : Bool × List UInt8 := l.foldl (putOne size most) st
theorem numBytes_length (size : Nat) (n : Int) : (numBytes size n).length = size := by simp [numBytes]
theorem putOne_len (size : Nat) (most : Int) (st : Bool × List UInt8) (n : Int) : (putOne size most st n).2.length ≤ st.2.length + size := by
  unfold putOne; split <;> simp [numBytes_length]
theorem putAll_len (size : Nat) (most : Int) (l : List Int) : ∀ st : Bool × List UInt8, (putAll size most st l).2.length ≤ st.2.length + size * l.length := by
  induction l with
  | nil => intro st; simp [putAll]
  | cons n l ih => intro st; have h1 := ih (putOne size most st n); have h2 := putOne_len size most st n; simp only [putAll, List.foldl_cons, List.length_cons] at *; rw [Nat.mul_succ]; omega
theorem nb_eq (size : Nat) (n : Int) (j : Nat) (h : j < size) : UInt8.ofNat (IntKind.u8.wrap (n / 2 ^ (8 * ((size : Int) - 1 - (j : Int))).toNat)).toNat = nb size n j := by
  rw [IntKind.wrap_u8, show (8 * ((size : Int) - 1 - (j : Int))).toNat = 8 * (size - 1 - j) from by omega]; rfl
theorem u8_range (x : Int) : 0 ≤ IntKind.u8.wrap x ∧ IntKind.u8.wrap x ≤ 255 := by rw [IntKind.wrap_u8]; omega
theorem numBytes_snoc (size : Nat) (n : Int) (j : Nat) (h : j < size) : (numBytes size n).take (j + 1) = (numBytes size n).take j ++ [nb size n j] := by
  rw [List.take_succ_eq_append_getElem (by rw [numBytes_length]; exact h)]; simp [numBytes]
theorem putAll_snoc (size : Nat) (most : Int) (st : Bool × List UInt8) (l : List Int) (k : Nat) (h : k < l.length) : putAll size most st (l.take (k + 1)) = putOne size most (putAll size most st (l.take k)) l[k] := by
  unfold putAll; rw [List.take_succ_eq_append_getElem h, List.foldl_append]; rfl

/-- Behind put. -/
def PutPost (B p : Nat) (size : Nat) (most : Int) (st : Bool × List UInt8) (l : List Int) (w : World) (e : Ending) (w' : World) : Prop :=
  e = .returned (.pointer (some ⟨p, 0, none⟩)) ∧ Wr B w' p (putAll size most st l).1 (putAll size most st l).2 ∧ WMod B p w w'
theorem Wr.blk {B p : Nat} {w : World} {f : Bool} {bs : List UInt8} (h : Wr B w p f bs) : ∃ l, Blk w p l 130 := by
  obtain ⟨_, _, ad, v, hb, _⟩ := h
  exact ⟨_, hb⟩
set_option maxRecDepth 100000 in
set_option maxHeartbeats 4000000 in
theorem put_any {B p b : Nat} (size : Nat) (hs : 1 ≤ size ∧ size ≤ 4) (most : Int) (hmost : 0 ≤ most ∧ most ≤ 4294967295) (st : Bool × List UInt8) (l : List Int) (w : World)
    (h : Wr B w p st.1 st.2) (hr : Blk w b (l.map (.int .i64)) 3) (hlen : st.2.length + size * l.length ≤ 140737488355328) (hl : l.length ≤ 1000) :
    Calls Tryz.prog 118 #[.pointer (some ⟨p, 0, none⟩), .int .i64 size, .int .i64 most, .slice (some ⟨b, 0, none⟩) l.length l.length] w (PutPost B p size most st l w) := by
  obtain ⟨lp, hbp⟩ := h.blk
  have hbne : b ≠ p := hr.ne hbp (by decide)
  clear hbp lp
  go_enter Tryz.func118, Tryz.ntmps118
  go_wp2_with fail
  go_loopw [16] (fun i wr => ∃ k : Nat, k ≤ l.length ∧ i = .int .i64 k ∧ Wr B wr p (putAll size most st (l.take k)).1 (putAll size most st (l.take k)).2 ∧ WMod B p w wr) (fun i _ => l.length - (intOf i).toNat)
  case atStart => exact ⟨0, Nat.zero_le _, rfl, h, WMod.refl _ _ _⟩
  case round =>
    obtain ⟨k, hk, rfl, hw, hm⟩ := hrel
    by_cases hlt : k < l.length
    · have hcell := (hm.blk hr hbne (by decide)).cell k
      rw [show (l.map (Value.int .i64)).toArray[k]? = some (.int .i64 l[k]) from by simp [hlt]] at hcell
      have hsn := Lib.hid (putAll_snoc size most st l k hlt)
      have hln := putAll_len size most (l.take k) st
      rw [List.length_take, Nat.min_eq_left hk] at hln
      obtain ⟨st1, hst1⟩ : ∃ x, x = putAll size most st (l.take k) := ⟨_, rfl⟩
      rw [← hst1] at hw hsn hln
      clear hst1
      obtain ⟨n, hn⟩ : ∃ x, x = l[k] := ⟨_, rfl⟩
      rw [← hn] at hcell hsn
      clear hn
      obtain ⟨f1, bs1⟩ := st1
      by_cases hneg : n < 0
      · go_wp2_with fail
        refine (wfail_any hw).mono ?_
        rintro e w2 ⟨rfl, hw2, hm2⟩
        have e2 : putOne size most (f1, bs1) n = (true, bs1) := by simp [putOne, hneg]
        have hs2 := Lib.hid (hsn.out.trans e2)
        clear e2 hsn
        go_wp2_with fail
        go_loopw [11] (fun i wr => i = .int .i64 ((size : Int) - 1) ∧ Wr B wr p true bs1 ∧ WMod B p w wr) (fun i _ => 0)
        case atStart => exact ⟨rfl, hw2, hm.trans hm2⟩
        case round =>
          obtain ⟨rfl, hw3, hm3⟩ := hrel
          go_wp2_with (go_at_call 119; refine (wgood_any hw3).mono ?_; rintro e w3 ⟨rfl, rfl⟩)
          go_roundw
          case rel => exact ⟨k + 1, by omega, by go_num, by rw [hs2.out]; exact hw3, hm3⟩
          case measure => simp [intOf]; omega
      by_cases hgr : most < n
      · go_wp2_with fail
        refine (wfail_any hw).mono ?_
        rintro e w2 ⟨rfl, hw2, hm2⟩
        have e2 : putOne size most (f1, bs1) n = (true, bs1) := by simp [putOne, hgr]
        have hs2 := Lib.hid (hsn.out.trans e2)
        clear e2 hsn
        go_wp2_with fail
        go_loopw [11] (fun i wr => i = .int .i64 ((size : Int) - 1) ∧ Wr B wr p true bs1 ∧ WMod B p w wr) (fun i _ => 0)
        case atStart => exact ⟨rfl, hw2, hm.trans hm2⟩
        case round =>
          obtain ⟨rfl, hw3, hm3⟩ := hrel
          go_wp2_with (go_at_call 119; refine (wgood_any hw3).mono ?_; rintro e w3 ⟨rfl, rfl⟩)
          go_roundw
          case rel => exact ⟨k + 1, by omega, by go_num, by rw [hs2.out]; exact hw3, hm3⟩
          case measure => simp [intOf]; omega
      cases f1
      · have e2 : putOne size most (false, bs1) n = (false, bs1 ++ numBytes size n) := by simp [putOne]; omega
        have hs2 := Lib.hid (hsn.out.trans e2)
        clear e2 hsn
        go_wp2_with fail
        obtain ⟨wo, rfl⟩ : ∃ wo : World, wo = wr := ⟨_, rfl⟩
        go_loopw [11] (fun i wr => ∃ j : Nat, j ≤ size ∧ i = .int .i64 ((size : Int) - 1 - (j : Int)) ∧ Wr B wr p false (bs1 ++ (numBytes size n).take j) ∧ WMod B p w wr) (fun i _ => (intOf i + 1).toNat)
        case atStart => exact ⟨0, Nat.zero_le _, by simp, by simpa using hw, hm⟩
        case round =>
          obtain ⟨j, hj, rfl, hw2, hm2⟩ := hrel
          by_cases hlj : j < size
          · go_wp2_with (go_at_call 119; refine (wgood_any hw2).mono ?_; rintro e w3 ⟨rfl, rfl⟩)
            have g0 : (0 : Int) ≤ 8 * ((size : Int) - 1 - (j : Int)) := by omega
            have g1 : IntKind.i64.wrap (8 * ((size : Int) - 1 - (j : Int))) = 8 * ((size : Int) - 1 - (j : Int)) := IntWalk.i64_in _ (by omega)
            have hlb : (bs1 ++ (numBytes size n).take j).length + 1 ≤ 140737488355328 := by
              rw [List.length_append, List.length_take, numBytes_length, Nat.min_eq_left hj]
              have : size * (k + 1) ≤ size * l.length := Nat.mul_le_mul_left _ hlt
              rw [Nat.mul_succ] at this
              omega
            have hsb := Lib.hid (numBytes_snoc size n j hlj)
            have hnb := Lib.hid (nb_eq size n j hlj)
            go_region_held3 (fun _ => True) (trivial) ((go_at_call 136; (with_reducible refine (wbyte_any hw2.drew _ (u8_range _).1 (u8_range _).2 hlb).mono ?_); rintro e w3 ⟨rfl, hw3, hm3⟩))
            go_wp2_with fail
            go_roundw
            case rel => exact ⟨j + 1, by omega, by rw [show ((size : Int) - 1 - (j : Int)) - 1 = (size : Int) - 1 - ((j + 1 : Nat) : Int) from by omega], by rw [hsb.out, ← List.append_assoc, ← hnb.out]; exact hw3, hm2.trans ((WMod.refl _ _ _).drew.trans hm3)⟩
            case measure => simp [intOf]; omega
          · obtain rfl : j = size := by omega
            go_wp2_with fail
            rw [List.take_of_length_le (by rw [numBytes_length]; exact Nat.le_refl _)] at hw2
            go_roundw
            case rel => exact ⟨k + 1, by omega, by go_num, by rw [hs2.out]; exact hw2, hm2⟩
            case measure => simp [intOf]; omega
      · have e2 : putOne size most (true, bs1) n = (true, bs1) := by simp [putOne]
        have hs2 := Lib.hid (hsn.out.trans e2)
        clear e2 hsn
        go_wp2_with fail
        have hw2 := hw
        have hm2 := WMod.refl B p wr
        go_loopw [11] (fun i wr => i = .int .i64 ((size : Int) - 1) ∧ Wr B wr p true bs1 ∧ WMod B p w wr) (fun i _ => 0)
        case atStart => exact ⟨rfl, hw2, hm.trans hm2⟩
        case round =>
          obtain ⟨rfl, hw3, hm3⟩ := hrel
          go_wp2_with (go_at_call 119; refine (wgood_any hw3).mono ?_; rintro e w3 ⟨rfl, rfl⟩)
          go_roundw
          case rel => exact ⟨k + 1, by omega, by go_num, by rw [hs2.out]; exact hw3, hm3⟩
          case measure => simp [intOf]; omega
    · obtain rfl : k = l.length := by omega
      rw [List.take_of_length_le (Nat.le_refl _)] at hw
      go_wp2_with fail
      go_ret
      exact ⟨rfl, hw, hm⟩

/-! ### Byte, Short, Word, Text, Done -/
/-- Behind a writing method: the writer's new state. -/
def WPost (B p : Nat) (st : Bool × List UInt8) (w : World) (e : Ending) (w' : World) : Prop :=
  e = .returned (.pointer (some ⟨p, 0, none⟩)) ∧ Wr B w' p st.1 st.2 ∧ WMod B p w w'
set_option maxHeartbeats 1000000 in
theorem wByte_any {B p b : Nat} (st : Bool × List UInt8) (l : List Int) (w : World)
    (h : Wr B w p st.1 st.2) (hr : Blk w b (l.map (.int .i64)) 3) (hlen : st.2.length + 1 * l.length ≤ 140737488355328) (n : Nat) (hn : n = l.length) (hl : l.length ≤ 1000) :
    Calls Tryz.prog 83 #[.pointer (some ⟨p, 0, none⟩), .slice (some ⟨b, 0, none⟩) n n] w (WPost B p (putAll 1 255 st l) w) := by
  subst hn
  go_enter Tryz.func83, Tryz.ntmps83
  go_wp2_with fail
  refine (put_any 1 (by decide) 255 (by decide) st l w h hr hlen hl).mono ?_
  rintro e w1 ⟨rfl, hw, hm⟩
  go_wp2_with fail
  go_ret
  exact ⟨rfl, hw, hm⟩
set_option maxHeartbeats 1000000 in
theorem wShort_any {B p b : Nat} (st : Bool × List UInt8) (l : List Int) (w : World)
    (h : Wr B w p st.1 st.2) (hr : Blk w b (l.map (.int .i64)) 3) (hlen : st.2.length + 2 * l.length ≤ 140737488355328) (n : Nat) (hn : n = l.length) (hl : l.length ≤ 1000) :
    Calls Tryz.prog 84 #[.pointer (some ⟨p, 0, none⟩), .slice (some ⟨b, 0, none⟩) n n] w (WPost B p (putAll 2 65535 st l) w) := by
  subst hn
  go_enter Tryz.func84, Tryz.ntmps84
  go_wp2_with fail
  refine (put_any 2 (by decide) 65535 (by decide) st l w h hr hlen hl).mono ?_
  rintro e w1 ⟨rfl, hw, hm⟩
  go_wp2_with fail
  go_ret
  exact ⟨rfl, hw, hm⟩
set_option maxHeartbeats 2000000 in
theorem wWord_any {B p b : Nat} (st : Bool × List UInt8) (l : List Int) (w : World)
    (h : Wr B w p st.1 st.2) (hr : Blk w b (l.map (.int .u32)) 32) (hlen : st.2.length + 4 * l.length ≤ 140737488355328) (n : Nat) (hn : n = l.length) (hl : l.length ≤ 1000) (hw32 : ∀ x ∈ l, 0 ≤ x ∧ x ≤ 4294967295) :
    Calls Tryz.prog 85 #[.pointer (some ⟨p, 0, none⟩), .slice (some ⟨b, 0, none⟩) n n] w (WPost B p (putAll 4 4294967295 st l) w) := by
  subst hn
  obtain ⟨lp, hbp⟩ := h.blk
  have hbne : b ≠ p := hr.ne hbp (by decide)
  clear hbp lp
  go_enter Tryz.func85, Tryz.ntmps85
  go_wp2_with fail
  go_loopw [9] (fun i wr => ∃ k : Nat, k ≤ l.length ∧ i = .int .i64 k ∧ Wr B wr p (putAll 4 4294967295 st (l.take k)).1 (putAll 4 4294967295 st (l.take k)).2 ∧ WMod B p w wr) (fun i _ => l.length - (intOf i).toNat)
  case atStart => exact ⟨0, Nat.zero_le _, rfl, h, WMod.refl _ _ _⟩
  case round =>
    obtain ⟨k, hk, rfl, hw, hm⟩ := hrel
    by_cases hlt : k < l.length
    · have hcell := (hm.blk hr hbne (by decide)).cell k
      rw [show (l.map (Value.int .u32)).toArray[k]? = some (.int .u32 l[k]) from by simp [hlt]] at hcell
      have hn := hw32 _ (List.getElem_mem hlt)
      have hsn := Lib.hid (putAll_snoc 4 4294967295 st l k hlt)
      have hln := putAll_len 4 4294967295 (l.take k) st
      rw [List.length_take, Nat.min_eq_left hk] at hln
      obtain ⟨st1, hst1⟩ : ∃ x, x = putAll 4 4294967295 st (l.take k) := ⟨_, rfl⟩
      rw [← hst1] at hw hsn hln
      clear hst1
      obtain ⟨n, hn'⟩ : ∃ x, x = l[k] := ⟨_, rfl⟩
      rw [← hn'] at hcell hsn hn
      clear hn'
      go_wp2_with fail
      have hw2 : Wr B (wr.alloc (.cells #[.int .i64 n] 3)) p st1.1 st1.2 := hw.mod0 ((Mod.refl [] wr).alloc _)
      refine (put_any (b := wr.heap.size) 4 (by decide) 4294967295 (by decide) st1 [n] _ hw2 (show Blk _ _ [Value.int .i64 n] _ from by (repeat' (first | (with_reducible assumption) | (with_reducible rfl) | (with_reducible apply Blk.drew) | (with_reducible apply Blk.drewN) | (with_reducible refine Blk.new_ _ _ ?_; focus (first | assumption | (simp; omega) | (simp; done) | omega | (simp at *; omega))) | (with_reducible apply Blk.alloc) | (with_reducible apply Blk.other_; focus (first | assumption | (simp; omega) | (simp; done) | omega | (simp at *; omega))) | (with_reducible apply Blk.set_) | (with_reducible apply Blk.mod_ ‹Mod _ _ _›; focus (first | assumption | (simp; omega) | (simp; done) | omega | (simp at *; omega))) | (simp; done)))) (by simp; omega) (by simp)).mono ?_
      rintro e w2 ⟨rfl, hw3, hm3⟩
      go_wp2_with fail
      go_roundw
      case rel => exact ⟨k + 1, by omega, by go_num, by rw [hsn.out]; exact hw3, hm.trans ((WMod.of_mod ((Mod.refl [] wr).alloc _) hw.2.1 hw.lt).trans hm3)⟩
      case measure => simp [intOf]; omega
    · obtain rfl : k = l.length := by omega
      rw [List.take_of_length_le (Nat.le_refl _)] at hw
      go_wp2_with fail
      go_ret
      exact ⟨rfl, hw, hm⟩
/-- A text more. -/
def textOne (st : Bool × List UInt8) (s : ByteArray) : Bool × List UInt8 := if st.1 then (true, st.2) else (false, st.2 ++ s.data.toList)
def textAll (st : Bool × List UInt8) (l : List ByteArray) : Bool × List UInt8 := l.foldl textOne st
def textLen (l : List ByteArray) : Nat := l.foldr (fun s n => s.size + n) 0
theorem textOne_len (st : Bool × List UInt8) (s : ByteArray) : (textOne st s).2.length ≤ st.2.length + s.size := by
  unfold textOne; split <;> simp
theorem textAll_len (l : List ByteArray) : ∀ st : Bool × List UInt8, (textAll st l).2.length ≤ st.2.length + textLen l := by
  induction l with
  | nil => intro st; simp [textAll, textLen]
  | cons s l ih => intro st; have h1 := ih (textOne st s); have h2 := textOne_len st s; simp only [textAll, textLen, List.foldl_cons, List.foldr_cons] at *; omega
theorem textLen_take (l : List ByteArray) : ∀ k : Nat, (h : k < l.length) → textLen (l.take k) + l[k].size ≤ textLen l := by
  induction l with
  | nil => intro k h; simp at h
  | cons s l ih =>
    intro k h
    cases k with
    | zero => simp [textLen]
    | succ k => have := ih k (by simpa using h); simp only [textLen, List.take_succ_cons, List.foldr_cons, List.getElem_cons_succ] at *; omega
theorem textAll_snoc (st : Bool × List UInt8) (l : List ByteArray) (k : Nat) (h : k < l.length) : textAll st (l.take (k + 1)) = textOne (textAll st (l.take k)) l[k] := by
  unfold textAll; rw [List.take_succ_eq_append_getElem h, List.foldl_append]; rfl
set_option maxHeartbeats 2000000 in
theorem wText_any {B p b : Nat} (st : Bool × List UInt8) (l : List ByteArray) (w : World)
    (h : Wr B w p st.1 st.2) (hr : Blk w b (l.map Value.string) 9) (hlen : st.2.length + textLen l ≤ 140737488355328) (n : Nat) (hn : n = l.length) (hl : l.length ≤ 1000) :
    Calls Tryz.prog 86 #[.pointer (some ⟨p, 0, none⟩), .slice (some ⟨b, 0, none⟩) n n] w (WPost B p (textAll st l) w) := by
  subst hn
  obtain ⟨lp, hbp⟩ := h.blk
  have hbne : b ≠ p := hr.ne hbp (by decide)
  clear hbp lp
  go_enter Tryz.func86, Tryz.ntmps86
  go_wp2_with fail
  go_loopw [11] (fun i wr => ∃ k : Nat, k ≤ l.length ∧ i = .int .i64 k ∧ Wr B wr p (textAll st (l.take k)).1 (textAll st (l.take k)).2 ∧ WMod B p w wr) (fun i _ => l.length - (intOf i).toNat)
  case atStart => exact ⟨0, Nat.zero_le _, rfl, h, WMod.refl _ _ _⟩
  case round =>
    obtain ⟨k, hk, rfl, hw, hm⟩ := hrel
    by_cases hlt : k < l.length
    · have hcell := (hm.blk hr hbne (by decide)).cell k
      rw [show (l.map Value.string).toArray[k]? = some (.string l[k]) from by simp [hlt]] at hcell
      have hsn := Lib.hid (textAll_snoc st l k hlt)
      have hln := textAll_len (l.take k) st
      have hlk := textLen_take l k hlt
      obtain ⟨st1, hst1⟩ : ∃ x, x = textAll st (l.take k) := ⟨_, rfl⟩
      rw [← hst1] at hw hsn hln
      clear hst1
      obtain ⟨s, hs'⟩ : ∃ x, x = l[k] := ⟨_, rfl⟩
      rw [← hs'] at hcell hsn hlk
      clear hs'
      obtain ⟨f1, bs1⟩ := st1
      cases f1
      · go_wp2_with (first | (go_at_call 119; refine (wgood_any hw).mono ?_; rintro e w3 ⟨rfl, rfl⟩) | (go_at_call 120; refine (wstr_any hw s (by simp at *; omega)).mono ?_; rintro e w3 ⟨rfl, hw3, hm3⟩))
        go_roundw
        case rel => exact ⟨k + 1, by omega, by go_num, by rw [hsn.out]; exact hw3, hm.trans hm3⟩
        case measure => simp [intOf]; omega
      · go_wp2_with (go_at_call 119; refine (wgood_any hw).mono ?_; rintro e w3 ⟨rfl, rfl⟩)
        go_roundw
        case rel => exact ⟨k + 1, by omega, by go_num, by rw [hsn.out]; exact hw, hm⟩
        case measure => simp [intOf]; omega
    · obtain rfl : k = l.length := by omega
      rw [List.take_of_length_le (Nat.le_refl _)] at hw
      go_wp2_with fail
      go_ret
      exact ⟨rfl, hw, hm⟩
/-- What is written, or the mistake. -/
def doneOf (st : Bool × List UInt8) : ByteArray × Int := if st.1 then (⟨#[]⟩, 1) else if 65535 < st.2.length then (⟨#[]⟩, 5) else (⟨st.2.toArray⟩, 0)
def DonePost (B p : Nat) (st : Bool × List UInt8) (w : World) (e : Ending) (w' : World) : Prop :=
  e = .returned (.tuple #[.string (doneOf st).1, .int .i64 (doneOf st).2]) ∧ Wr B w' p st.1 st.2 ∧ WMod B p w w'
set_option maxHeartbeats 2000000 in
theorem wDone_any {B p : Nat} (st : Bool × List UInt8) (w : World) (h : Wr B w p st.1 st.2) :
    Calls Tryz.prog 87 #[.pointer (some ⟨p, 0, none⟩)] w (DonePost B p st w) := by
  obtain ⟨f, bs⟩ := st
  cases f
  · by_cases hl : 65535 < bs.length
    · have hd : doneOf (false, bs) = (⟨#[]⟩, 5) := by simp [doneOf, hl]
      have Hd := Lib.hid hd
      clear hd
      go_enter Tryz.func87, Tryz.ntmps87
      go_wp2_with (first | (go_at_call 119; refine (wgood_any h).mono ?_; rintro e w3 ⟨rfl, rfl⟩) | (go_at_call 121; refine (wlen_any h).mono ?_; rintro e w3 ⟨rfl, rfl⟩))
      go_ret2
      exact ⟨by rw [Hd.out]; rfl, h, WMod.refl _ _ _⟩
    · have hd : doneOf (false, bs) = (⟨bs.toArray⟩, 0) := by simp [doneOf, hl]
      have Hd := Lib.hid hd
      clear hd
      go_enter Tryz.func87, Tryz.ntmps87
      go_wp2_with (first | (go_at_call 119; refine (wgood_any h).mono ?_; rintro e w3 ⟨rfl, rfl⟩) | (go_at_call 121; refine (wlen_any h).mono ?_; rintro e w3 ⟨rfl, rfl⟩) | (go_at_call 122; refine (bstring_any h).mono ?_; rintro e w3 ⟨rfl, hw3, hm3⟩))
      go_ret2
      exact ⟨by rw [Hd.out]; rfl, hw3, hm3⟩
  · have hd : doneOf (true, bs) = (⟨#[]⟩, 1) := by simp [doneOf]
    have Hd := Lib.hid hd
    clear hd
    go_enter Tryz.func87, Tryz.ntmps87
    go_wp2_with (go_at_call 119; refine (wgood_any h).mono ?_; rintro e w3 ⟨rfl, rfl⟩)
    go_ret2
    exact ⟨by rw [Hd.out]; rfl, h, WMod.refl _ _ _⟩
end Go.Proofs.YtmcaigmpcbkfpaaGreat

