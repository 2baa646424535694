/- CursorReads: whatever is read of any bytes: each answer; behind a failure there is nothing more. For every input. -/
import Derived.Test.YtbcebihjehneaaaAwake01
import Derived.Test.YtbcebihjehneaaaCurMath
import Derived.Test.YtbcebihjehneaaaAct
set_option linter.unusedVariables false
set_option linter.unusedSimpArgs false
namespace Go.Proofs.Ytbcebihjehneaaa
open Go.RowKit Go.ChangeShapes Go.WideShapes Go.Deep

theorem data_toList_extract (s : ByteArray) (i j : Nat) : (s.extract i j).data.toList = (s.data.toList.drop i).take (j - i) := by
  rw [ByteArray.data_extract]; simp
set_option maxRecDepth 100000 in
set_option maxHeartbeats 1000000 in
theorem rNumber_any (s : ByteArray) (hs : s.size ≤ 4) (w : World) :
    Calls Try.prog 27 #[.string s] w fun e w' => e = .returned (.int .u32 (numOf s.data.toList)) ∧ w = w' := by
  go_enter Try.func27, Try.ntmps27
  go_wp2_with fail
  go_loop [3, 4] (fun x i => ∃ k : Nat, k ≤ s.size ∧ i = .int .i64 k ∧ x = .int .u32 (numOf (s.data.toList.take k))) (fun _ i => s.size - (intOf i).toNat)
  case atStart => exact ⟨0, Nat.zero_le _, rfl, rfl⟩
  case round =>
    obtain ⟨k, hk, rfl, rfl⟩ := hrel
    by_cases hlt : k < s.size
    · have hr := numOf_rng k (s.data.toList.take k) (by simp; omega)
      have hp : (256 : Int) ^ k ≤ 256 ^ 3 := by
        have : k = 0 ∨ k = 1 ∨ k = 2 ∨ k = 3 := by omega
        rcases this with rfl | rfl | rfl | rfl <;> decide
      have hx1 : numOf (s.data.toList.take k) < 16777216 := by
        have : (256 : Int) ^ 3 = 16777216 := by decide
        omega
      have hx0 := hr.1
      clear hr hp
      have hb : (s[k].toNat : Int) ≤ 255 := by have := s[k].toNat_lt; omega
      have hs' := Lib.hid (show numOf (s.data.toList.take (k + 1)) = numOf (s.data.toList.take k) * 256 + s[k].toNat by
        rw [List.take_succ_eq_append_getElem (by simpa using hlt), numOf_snoc]; rfl)
      go_wp2
      go_round
      case rel => exact ⟨k + 1, by omega, by go_num, by rw [hs'.out]⟩
      case measure => simp [intOf]; omega
    · obtain rfl : k = s.size := by omega
      rw [List.take_of_length_le (by simp)]
      go_wp2
      go_ret
      exact ⟨rfl, rfl⟩

theorem extract_all (s : ByteArray) : s.extract 0 s.size = s := by simp
theorem extract_extract (s : ByteArray) (a b c : Nat) (h : a + c ≤ b) : (s.extract a b).extract 0 c = s.extract a (a + c) := by
  apply ByteArray.ext
  simp only [ByteArray.data_extract, Array.extract_extract]
  rw [Nat.min_eq_left h]; simp
theorem extract_extract' (s : ByteArray) (a c : Nat) (ha : a ≤ s.size) : (s.extract a s.size).extract c (s.extract a s.size).size = s.extract (a + c) s.size := by
  apply ByteArray.ext
  simp only [ByteArray.data_extract, Array.extract_extract, ByteArray.size_extract]
  congr 1; omega
/-- What is read, in range. -/
theorem take_in (s : ByteArray) (a m : Nat) (h : a + m ≤ s.size) : rTake (false, s.extract a s.size) (m : Int) = (s.extract a (a + m), (false, s.extract (a + m) s.size)) := by
  unfold rTake
  rw [if_neg (by simp), if_neg (by simp only [ByteArray.size_extract]; omega)]
  simp only [Int.toNat_natCast]
  rw [extract_extract _ _ _ _ h, extract_extract' _ _ _ (by omega)]
theorem take_out (s : ByteArray) (a : Nat) (n : Int) (h : n < 0 ∨ (s.size : Int) - a < n) (ha : a ≤ s.size) : rTake (false, s.extract a s.size) n = (⟨#[]⟩, (true, s.extract a s.size)) := by
  unfold rTake
  rw [if_neg (by simp), if_pos (by simp only [ByteArray.size_extract]; omega)]
theorem take_failed (s : ByteArray) (n : Int) : rTake (true, s) n = (⟨#[]⟩, (true, s)) := by simp [rTake]

/-- What a step leaves: how far it has come, whether nothing has failed, what was wanted. -/
def Stepped (s : ByteArray) (a : Nat) (ok : Bool) (n : Int) (a' : Nat) (ok' : Bool) (want : ByteArray) : Prop :=
  a' ≤ s.size ∧ a' = a + want.size ∧ rTake (!ok, s.extract a s.size) n = (want, (!ok', s.extract a' s.size))
theorem stepped_in (s : ByteArray) (a m : Nat) (h : a + m ≤ s.size) : Stepped s a true m (a + m) true (s.extract a (a + m)) :=
  ⟨h, by simp only [ByteArray.size_extract]; omega, by rw [show (!true) = false from rfl, take_in s a m h]⟩
theorem stepped_out (s : ByteArray) (a : Nat) (n : Int) (h : n < 0 ∨ (s.size : Int) - a < n) (ha : a ≤ s.size) : Stepped s a true n a false ⟨#[]⟩ :=
  ⟨ha, rfl, by rw [show (!true) = false from rfl, take_out s a n h ha]; rfl⟩
theorem stepped_failed (s : ByteArray) (a : Nat) (n : Int) (ha : a ≤ s.size) : Stepped s a false n a false ⟨#[]⟩ := ⟨ha, rfl, by rw [show (!false) = true from rfl, take_failed]⟩

set_option maxRecDepth 100000 in
set_option maxHeartbeats 8000000 in
theorem reads_any (s : ByteArray) (v : Value) (l : List (Int × Int)) (w : World) (hs : s.size ≤ 140737488351232) (hr : Structs enAct 2 w v l) (hwf : ∀ x ∈ l, (Lit.int .i64 x.1).wf = true ∧ (Lit.int .i64 x.2).wf = true) :
    Calls Try.prog 6 #[.string s, v] w fun e w' => e = .returned (.bool true) ∧ Mod [] w w' := by
  have hll := hr.len
  obtain ⟨A, cap, rfl⟩ := hr.form
  by_cases h1 : 200 < s.size
  · go_enter Try.func6, Try.ntmps6
    go_wp2_with (go_at_call 18; refine (awake01_any _).mono ?_; rintro e w1 ⟨rfl, hm⟩)
    go_ret
    exact ⟨rfl, hm⟩
  by_cases h2 : 60 < l.length
  · go_enter Try.func6, Try.ntmps6
    go_wp2_with (go_at_call 18; refine (awake01_any _).mono ?_; rintro e w1 ⟨rfl, hm⟩)
    go_ret
    exact ⟨rfl, hm⟩
  go_enter Try.func6, Try.ntmps6
  go_wp2_with fail
  refine (awake01_any _).mono ?_
  rintro e w1 ⟨rfl, hm1⟩
  go_wp2_with fail
  refine (Read_any s hs _).mono ?_
  rintro e w2 ⟨rfl, rfl⟩
  go_wp2_with fail
  have hz1 := hm1.size
  have hr0 : Rd (w1.alloc (.cells #[.bool false, .string s] 84)) w1.heap.size (false, s.extract 0 s.size) := by rw [extract_all]; exact Rd.new hs rfl
  obtain ⟨p, hp⟩ : ∃ p, p = w1.heap.size := ⟨_, rfl⟩
  rw [← hp] at hr0 hz1 ⊢
  have hm2 : Mod [] w (w1.alloc (.cells #[.bool false, .string s] 84)) := by (repeat' (first | (with_reducible exact Mod.refl _ _) | (with_reducible assumption) | (with_reducible refine Mod.drew ?_) | (with_reducible refine Mod.drewN ?_ _) | (with_reducible refine Mod.alloc ?_ _) | (with_reducible refine Mod.setCell_ ?_ ?_; focus (first | (intro hlt_; simp; done) | (intro hlt_; exfalso; simp at hlt_; done) | (intro hlt_; exfalso; simp at hlt_; omega) | (intro hlt_; exfalso; omega) | (intro hlt_; simp at hlt_ ⊢; omega))) | (with_reducible refine Mod.trans_ ‹Mod _ _ _› ?_ ?_; focus (first | (intro x_ hx_ hl_; simp at hx_; done) | (intro x_ hx_ hl_; simp at hx_ ⊢; omega) | (intro x_ hx_ hl_; simp at hx_ hl_ ⊢; omega) | (intro x_ hx_ hl_; simp_all; done) | (intro x_ hx_ hl_; simp_all; omega)))))
  clear hp hm1
  go_loopw [6, 7, 8] (fun s6 s7 i wr => ∃ (k a : Nat) (ok : Bool), k ≤ l.length ∧ i = .int .i64 k ∧ a ≤ s.size ∧ s6 = .int .i64 a ∧ s7 = .bool ok ∧ Rd wr p (!ok, s.extract a s.size) ∧ Mod [] w wr) (fun _ _ i _ => l.length - (intOf i).toNat)
  case atStart => exact ⟨0, 0, true, Nat.zero_le _, rfl, Nat.zero_le _, rfl, rfl, hr0, hm2⟩
  case round =>
    obtain ⟨k, a, ok, hk, rfl, hal, rfl, rfl, hr3, hm3⟩ := hrel
    by_cases hlt : k < l.length
    · obtain ⟨b, off, rfl, hcell⟩ := hr.gets k hlt (by simp [enAct])
      have Hc := Lib.hid hcell
      clear hcell
      have hc0 := Hc.out _ hm3 0 _ rfl
      have hc1 := Hc.out _ hm3 1 _ rfl
      obtain ⟨kind, hkd⟩ : ∃ x, x = l[k].1 := ⟨_, rfl⟩
      obtain ⟨N, hN⟩ : ∃ x, x = l[k].2 := ⟨_, rfl⟩
      have wN : (Lit.int .i64 N).wf = true := by rw [hN]; exact (hwf _ (List.getElem_mem hlt)).2
      rw [← hkd, Nat.add_zero] at hc0
      rw [← hN] at hc1
      have Hc : Hid (∀ w', Mod [] w w' → w'.cell? ⟨b, off + k * 2, none⟩ = some (.int .i64 kind) ∧ w'.cell? ⟨b, off + k * 2 + 1, none⟩ = some (.int .i64 N)) := fun w' hm' => ⟨by rw [hkd]; exact Hc.out _ hm' 0 _ rfl, by rw [hN]; exact Hc.out _ hm' 1 _ rfl⟩
      clear hkd hN
      have hNb := bounds_i64 wN
      by_cases k0 : kind = 0
      · subst k0
        cases ok
        · have t1 := Lib.hid (take_failed (s.extract a s.size) 1)
          have t2 := Lib.hid (show rNum (true, s.extract a s.size) 1 = 0 by unfold rNum; rw [take_failed]; rfl)
          replace hr3 : Rd wr p (true, s.extract a s.size) := hr3
          go_wp2_with fail
          refine (rByte_any hr3).mono ?_
          rintro e w4 ⟨rfl, hr4, hm4⟩
          rw [t1.out] at hr4
          rw [t2.out]
          go_wp2_with fail
          refine (rNumber_any _ (by decide) _).mono ?_
          rintro e w5 ⟨rfl, rfl⟩
          rw [show numOf (⟨#[]⟩ : ByteArray).data.toList = 0 from rfl]
          go_wp2_with fail
          refine (Ok_any hr4).mono ?_
          rintro e w5 ⟨rfl, rfl⟩
          go_wp2_with fail
          refine (Left_any hr4).mono ?_
          rintro e w5 ⟨rfl, rfl⟩
          rw [show rLeft (true, s.extract a s.size) = 0 from rfl]
          go_wp2_with fail
          go_roundw
          case rel => exact ⟨k + 1, a, false, by omega, by go_num, by omega, rfl, rfl, hr4, by (repeat' (first | (with_reducible exact Mod.refl _ _) | (with_reducible assumption) | (with_reducible refine Mod.drew ?_) | (with_reducible refine Mod.drewN ?_ _) | (with_reducible refine Mod.alloc ?_ _) | (with_reducible refine Mod.setCell_ ?_ ?_; focus (first | (intro hlt_; simp; done) | (intro hlt_; exfalso; simp at hlt_; done) | (intro hlt_; exfalso; simp at hlt_; omega) | (intro hlt_; exfalso; omega) | (intro hlt_; simp at hlt_ ⊢; omega))) | (with_reducible refine Mod.trans_ ‹Mod _ _ _› ?_ ?_; focus (first | (intro x_ hx_ hl_; simp at hx_; done) | (intro x_ hx_ hl_; simp at hx_ ⊢; omega) | (intro x_ hx_ hl_; simp at hx_ hl_ ⊢; omega) | (intro x_ hx_ hl_; simp_all; done) | (intro x_ hx_ hl_; simp_all; omega)))))⟩
          case measure => simp [intOf]; omega
        · replace hr3 : Rd wr p (false, s.extract a s.size) := hr3
          by_cases hin : a + 1 ≤ s.size
          · have t1 := Lib.hid (take_in s a 1 hin)
            have t2 := Lib.hid (show rNum (false, s.extract a s.size) 1 = numOf (s.extract a (a + 1)).data.toList by unfold rNum; rw [show (1 : Int) = ((1 : Nat) : Int) from rfl, take_in s a 1 hin])
            have hsz : (s.extract a (a + 1)).size ≤ 4 := by rw [ByteArray.size_extract]; omega
            have hnr := numOf_rng _ (s.extract a (a + 1)).data.toList rfl
            have hn0 := hnr.1
            have hn1 : numOf (s.extract a (a + 1)).data.toList ≤ 4294967295 := by
              have h3 : (s.extract a (a + 1)).data.toList.length ≤ 4 := hsz
              have h4 := Int.ofNat_le.2 (Nat.pow_le_pow_right (show 0 < 256 by decide) h3)
              rw [Int.natCast_pow, Int.natCast_pow] at h4
              have h5 : ((256 : Nat) : Int) ^ 4 = 4294967296 := by decide
              have h6 := hnr.2
              have h7 : ((256 : Nat) : Int) = 256 := rfl
              rw [h7] at h4 h5
              omega
            clear hnr
            have hlf : ((rLeft (false, s.extract (a + 1) s.size) : Nat) : Int) = (s.size : Int) - ((a : Int) + 1) := by
              unfold rLeft; rw [if_neg (by simp)]; simp only [ByteArray.size_extract]; omega
            have Hlf := Lib.hid hlf
            clear hlf
            go_wp2_with fail
            generalize s.extract a (a + 1) = want at t1 t2 hsz hn0 hn1 ⊢
            refine (rByte_any hr3).mono ?_
            rintro e w4 ⟨rfl, hr4, hm4⟩
            rw [show (1 : Int) = ((1 : Nat) : Int) from rfl, t1.out] at hr4
            rw [t2.out]
            go_wp2_with fail
            refine (rNumber_any _ hsz _).mono ?_
            rintro e w5 ⟨rfl, rfl⟩
            go_wp2_with fail
            refine (Ok_any hr4).mono ?_
            rintro e w5 ⟨rfl, rfl⟩
            go_wp2_with fail
            refine (Left_any hr4).mono ?_
            rintro e w5 ⟨rfl, rfl⟩
            rw [Hlf.out]
            go_wp2_with fail
            go_roundw
            case rel => exact ⟨k + 1, a + 1, true, by omega, by go_num, hin, by go_num, rfl, hr4, by (repeat' (first | (with_reducible exact Mod.refl _ _) | (with_reducible assumption) | (with_reducible refine Mod.drew ?_) | (with_reducible refine Mod.drewN ?_ _) | (with_reducible refine Mod.alloc ?_ _) | (with_reducible refine Mod.setCell_ ?_ ?_; focus (first | (intro hlt_; simp; done) | (intro hlt_; exfalso; simp at hlt_; done) | (intro hlt_; exfalso; simp at hlt_; omega) | (intro hlt_; exfalso; omega) | (intro hlt_; simp at hlt_ ⊢; omega))) | (with_reducible refine Mod.trans_ ‹Mod _ _ _› ?_ ?_; focus (first | (intro x_ hx_ hl_; simp at hx_; done) | (intro x_ hx_ hl_; simp at hx_ ⊢; omega) | (intro x_ hx_ hl_; simp at hx_ hl_ ⊢; omega) | (intro x_ hx_ hl_; simp_all; done) | (intro x_ hx_ hl_; simp_all; omega)))))⟩
            case measure => simp [intOf]; omega
          · have t0 := take_out s a 1 (by omega) hal
            have t1 := Lib.hid t0
            have t2 := Lib.hid (show rNum (false, s.extract a s.size) 1 = 0 by unfold rNum; rw [t0]; rfl)
            clear t0
            go_wp2_with fail
            refine (rByte_any hr3).mono ?_
            rintro e w4 ⟨rfl, hr4, hm4⟩
            rw [t1.out] at hr4
            rw [t2.out]
            go_wp2_with fail
            refine (rNumber_any _ (by decide) _).mono ?_
            rintro e w5 ⟨rfl, rfl⟩
            rw [show numOf (⟨#[]⟩ : ByteArray).data.toList = 0 from rfl]
            go_wp2_with fail
            refine (Ok_any hr4).mono ?_
            rintro e w5 ⟨rfl, rfl⟩
            go_wp2_with fail
            refine (Left_any hr4).mono ?_
            rintro e w5 ⟨rfl, rfl⟩
            rw [show rLeft (true, s.extract a s.size) = 0 from rfl]
            go_wp2_with fail
            go_roundw
            case rel => exact ⟨k + 1, a, false, by omega, by go_num, by omega, rfl, rfl, hr4, by (repeat' (first | (with_reducible exact Mod.refl _ _) | (with_reducible assumption) | (with_reducible refine Mod.drew ?_) | (with_reducible refine Mod.drewN ?_ _) | (with_reducible refine Mod.alloc ?_ _) | (with_reducible refine Mod.setCell_ ?_ ?_; focus (first | (intro hlt_; simp; done) | (intro hlt_; exfalso; simp at hlt_; done) | (intro hlt_; exfalso; simp at hlt_; omega) | (intro hlt_; exfalso; omega) | (intro hlt_; simp at hlt_ ⊢; omega))) | (with_reducible refine Mod.trans_ ‹Mod _ _ _› ?_ ?_; focus (first | (intro x_ hx_ hl_; simp at hx_; done) | (intro x_ hx_ hl_; simp at hx_ ⊢; omega) | (intro x_ hx_ hl_; simp at hx_ hl_ ⊢; omega) | (intro x_ hx_ hl_; simp_all; done) | (intro x_ hx_ hl_; simp_all; omega)))))⟩
            case measure => simp [intOf]; omega
      by_cases k1 : kind = 1
      · subst k1
        cases ok
        · have t1 := Lib.hid (take_failed (s.extract a s.size) 2)
          have t2 := Lib.hid (show rNum (true, s.extract a s.size) 2 = 0 by unfold rNum; rw [take_failed]; rfl)
          replace hr3 : Rd wr p (true, s.extract a s.size) := hr3
          go_wp2_with fail
          refine (rShort_any' hr3).mono ?_
          rintro e w4 ⟨rfl, hr4, hm4⟩
          rw [t1.out] at hr4
          rw [t2.out]
          go_wp2_with fail
          refine (rNumber_any _ (by decide) _).mono ?_
          rintro e w5 ⟨rfl, rfl⟩
          rw [show numOf (⟨#[]⟩ : ByteArray).data.toList = 0 from rfl]
          go_wp2_with fail
          refine (Ok_any hr4).mono ?_
          rintro e w5 ⟨rfl, rfl⟩
          go_wp2_with fail
          refine (Left_any hr4).mono ?_
          rintro e w5 ⟨rfl, rfl⟩
          rw [show rLeft (true, s.extract a s.size) = 0 from rfl]
          go_wp2_with fail
          go_roundw
          case rel => exact ⟨k + 1, a, false, by omega, by go_num, by omega, rfl, rfl, hr4, by (repeat' (first | (with_reducible exact Mod.refl _ _) | (with_reducible assumption) | (with_reducible refine Mod.drew ?_) | (with_reducible refine Mod.drewN ?_ _) | (with_reducible refine Mod.alloc ?_ _) | (with_reducible refine Mod.setCell_ ?_ ?_; focus (first | (intro hlt_; simp; done) | (intro hlt_; exfalso; simp at hlt_; done) | (intro hlt_; exfalso; simp at hlt_; omega) | (intro hlt_; exfalso; omega) | (intro hlt_; simp at hlt_ ⊢; omega))) | (with_reducible refine Mod.trans_ ‹Mod _ _ _› ?_ ?_; focus (first | (intro x_ hx_ hl_; simp at hx_; done) | (intro x_ hx_ hl_; simp at hx_ ⊢; omega) | (intro x_ hx_ hl_; simp at hx_ hl_ ⊢; omega) | (intro x_ hx_ hl_; simp_all; done) | (intro x_ hx_ hl_; simp_all; omega)))))⟩
          case measure => simp [intOf]; omega
        · replace hr3 : Rd wr p (false, s.extract a s.size) := hr3
          by_cases hin : a + 2 ≤ s.size
          · have t1 := Lib.hid (take_in s a 2 hin)
            have t2 := Lib.hid (show rNum (false, s.extract a s.size) 2 = numOf (s.extract a (a + 2)).data.toList by unfold rNum; rw [show (2 : Int) = ((2 : Nat) : Int) from rfl, take_in s a 2 hin])
            have hsz : (s.extract a (a + 2)).size ≤ 4 := by rw [ByteArray.size_extract]; omega
            have hnr := numOf_rng _ (s.extract a (a + 2)).data.toList rfl
            have hn0 := hnr.1
            have hn1 : numOf (s.extract a (a + 2)).data.toList ≤ 4294967295 := by
              have h3 : (s.extract a (a + 2)).data.toList.length ≤ 4 := hsz
              have h4 := Int.ofNat_le.2 (Nat.pow_le_pow_right (show 0 < 256 by decide) h3)
              rw [Int.natCast_pow, Int.natCast_pow] at h4
              have h5 : ((256 : Nat) : Int) ^ 4 = 4294967296 := by decide
              have h6 := hnr.2
              have h7 : ((256 : Nat) : Int) = 256 := rfl
              rw [h7] at h4 h5
              omega
            clear hnr
            have hlf : ((rLeft (false, s.extract (a + 2) s.size) : Nat) : Int) = (s.size : Int) - ((a : Int) + 2) := by
              unfold rLeft; rw [if_neg (by simp)]; simp only [ByteArray.size_extract]; omega
            have Hlf := Lib.hid hlf
            clear hlf
            go_wp2_with fail
            generalize s.extract a (a + 2) = want at t1 t2 hsz hn0 hn1 ⊢
            refine (rShort_any' hr3).mono ?_
            rintro e w4 ⟨rfl, hr4, hm4⟩
            rw [show (2 : Int) = ((2 : Nat) : Int) from rfl, t1.out] at hr4
            rw [t2.out]
            go_wp2_with fail
            refine (rNumber_any _ hsz _).mono ?_
            rintro e w5 ⟨rfl, rfl⟩
            go_wp2_with fail
            refine (Ok_any hr4).mono ?_
            rintro e w5 ⟨rfl, rfl⟩
            go_wp2_with fail
            refine (Left_any hr4).mono ?_
            rintro e w5 ⟨rfl, rfl⟩
            rw [Hlf.out]
            go_wp2_with fail
            go_roundw
            case rel => exact ⟨k + 1, a + 2, true, by omega, by go_num, hin, by go_num, rfl, hr4, by (repeat' (first | (with_reducible exact Mod.refl _ _) | (with_reducible assumption) | (with_reducible refine Mod.drew ?_) | (with_reducible refine Mod.drewN ?_ _) | (with_reducible refine Mod.alloc ?_ _) | (with_reducible refine Mod.setCell_ ?_ ?_; focus (first | (intro hlt_; simp; done) | (intro hlt_; exfalso; simp at hlt_; done) | (intro hlt_; exfalso; simp at hlt_; omega) | (intro hlt_; exfalso; omega) | (intro hlt_; simp at hlt_ ⊢; omega))) | (with_reducible refine Mod.trans_ ‹Mod _ _ _› ?_ ?_; focus (first | (intro x_ hx_ hl_; simp at hx_; done) | (intro x_ hx_ hl_; simp at hx_ ⊢; omega) | (intro x_ hx_ hl_; simp at hx_ hl_ ⊢; omega) | (intro x_ hx_ hl_; simp_all; done) | (intro x_ hx_ hl_; simp_all; omega)))))⟩
            case measure => simp [intOf]; omega
          · have t0 := take_out s a 2 (by omega) hal
            have t1 := Lib.hid t0
            have t2 := Lib.hid (show rNum (false, s.extract a s.size) 2 = 0 by unfold rNum; rw [t0]; rfl)
            clear t0
            go_wp2_with fail
            refine (rShort_any' hr3).mono ?_
            rintro e w4 ⟨rfl, hr4, hm4⟩
            rw [t1.out] at hr4
            rw [t2.out]
            go_wp2_with fail
            refine (rNumber_any _ (by decide) _).mono ?_
            rintro e w5 ⟨rfl, rfl⟩
            rw [show numOf (⟨#[]⟩ : ByteArray).data.toList = 0 from rfl]
            go_wp2_with fail
            refine (Ok_any hr4).mono ?_
            rintro e w5 ⟨rfl, rfl⟩
            go_wp2_with fail
            refine (Left_any hr4).mono ?_
            rintro e w5 ⟨rfl, rfl⟩
            rw [show rLeft (true, s.extract a s.size) = 0 from rfl]
            go_wp2_with fail
            go_roundw
            case rel => exact ⟨k + 1, a, false, by omega, by go_num, by omega, rfl, rfl, hr4, by (repeat' (first | (with_reducible exact Mod.refl _ _) | (with_reducible assumption) | (with_reducible refine Mod.drew ?_) | (with_reducible refine Mod.drewN ?_ _) | (with_reducible refine Mod.alloc ?_ _) | (with_reducible refine Mod.setCell_ ?_ ?_; focus (first | (intro hlt_; simp; done) | (intro hlt_; exfalso; simp at hlt_; done) | (intro hlt_; exfalso; simp at hlt_; omega) | (intro hlt_; exfalso; omega) | (intro hlt_; simp at hlt_ ⊢; omega))) | (with_reducible refine Mod.trans_ ‹Mod _ _ _› ?_ ?_; focus (first | (intro x_ hx_ hl_; simp at hx_; done) | (intro x_ hx_ hl_; simp at hx_ ⊢; omega) | (intro x_ hx_ hl_; simp at hx_ hl_ ⊢; omega) | (intro x_ hx_ hl_; simp_all; done) | (intro x_ hx_ hl_; simp_all; omega)))))⟩
            case measure => simp [intOf]; omega
      by_cases k2 : kind = 2
      · subst k2
        cases ok
        · have t1 := Lib.hid (take_failed (s.extract a s.size) 4)
          have t2 := Lib.hid (show rNum (true, s.extract a s.size) 4 = 0 by unfold rNum; rw [take_failed]; rfl)
          replace hr3 : Rd wr p (true, s.extract a s.size) := hr3
          go_wp2_with fail
          refine (rWord_any hr3).mono ?_
          rintro e w4 ⟨rfl, hr4, hm4⟩
          rw [t1.out] at hr4
          rw [t2.out]
          go_wp2_with fail
          refine (rNumber_any _ (by decide) _).mono ?_
          rintro e w5 ⟨rfl, rfl⟩
          rw [show numOf (⟨#[]⟩ : ByteArray).data.toList = 0 from rfl]
          go_wp2_with fail
          refine (Ok_any hr4).mono ?_
          rintro e w5 ⟨rfl, rfl⟩
          go_wp2_with fail
          refine (Left_any hr4).mono ?_
          rintro e w5 ⟨rfl, rfl⟩
          rw [show rLeft (true, s.extract a s.size) = 0 from rfl]
          go_wp2_with fail
          go_roundw
          case rel => exact ⟨k + 1, a, false, by omega, by go_num, by omega, rfl, rfl, hr4, by (repeat' (first | (with_reducible exact Mod.refl _ _) | (with_reducible assumption) | (with_reducible refine Mod.drew ?_) | (with_reducible refine Mod.drewN ?_ _) | (with_reducible refine Mod.alloc ?_ _) | (with_reducible refine Mod.setCell_ ?_ ?_; focus (first | (intro hlt_; simp; done) | (intro hlt_; exfalso; simp at hlt_; done) | (intro hlt_; exfalso; simp at hlt_; omega) | (intro hlt_; exfalso; omega) | (intro hlt_; simp at hlt_ ⊢; omega))) | (with_reducible refine Mod.trans_ ‹Mod _ _ _› ?_ ?_; focus (first | (intro x_ hx_ hl_; simp at hx_; done) | (intro x_ hx_ hl_; simp at hx_ ⊢; omega) | (intro x_ hx_ hl_; simp at hx_ hl_ ⊢; omega) | (intro x_ hx_ hl_; simp_all; done) | (intro x_ hx_ hl_; simp_all; omega)))))⟩
          case measure => simp [intOf]; omega
        · replace hr3 : Rd wr p (false, s.extract a s.size) := hr3
          by_cases hin : a + 4 ≤ s.size
          · have t1 := Lib.hid (take_in s a 4 hin)
            have t2 := Lib.hid (show rNum (false, s.extract a s.size) 4 = numOf (s.extract a (a + 4)).data.toList by unfold rNum; rw [show (4 : Int) = ((4 : Nat) : Int) from rfl, take_in s a 4 hin])
            have hsz : (s.extract a (a + 4)).size ≤ 4 := by rw [ByteArray.size_extract]; omega
            have hnr := numOf_rng _ (s.extract a (a + 4)).data.toList rfl
            have hn0 := hnr.1
            have hn1 : numOf (s.extract a (a + 4)).data.toList ≤ 4294967295 := by
              have h3 : (s.extract a (a + 4)).data.toList.length ≤ 4 := hsz
              have h4 := Int.ofNat_le.2 (Nat.pow_le_pow_right (show 0 < 256 by decide) h3)
              rw [Int.natCast_pow, Int.natCast_pow] at h4
              have h5 : ((256 : Nat) : Int) ^ 4 = 4294967296 := by decide
              have h6 := hnr.2
              have h7 : ((256 : Nat) : Int) = 256 := rfl
              rw [h7] at h4 h5
              omega
            clear hnr
            have hlf : ((rLeft (false, s.extract (a + 4) s.size) : Nat) : Int) = (s.size : Int) - ((a : Int) + 4) := by
              unfold rLeft; rw [if_neg (by simp)]; simp only [ByteArray.size_extract]; omega
            have Hlf := Lib.hid hlf
            clear hlf
            go_wp2_with fail
            generalize s.extract a (a + 4) = want at t1 t2 hsz hn0 hn1 ⊢
            refine (rWord_any hr3).mono ?_
            rintro e w4 ⟨rfl, hr4, hm4⟩
            rw [show (4 : Int) = ((4 : Nat) : Int) from rfl, t1.out] at hr4
            rw [t2.out]
            go_wp2_with fail
            refine (rNumber_any _ hsz _).mono ?_
            rintro e w5 ⟨rfl, rfl⟩
            go_wp2_with fail
            refine (Ok_any hr4).mono ?_
            rintro e w5 ⟨rfl, rfl⟩
            go_wp2_with fail
            refine (Left_any hr4).mono ?_
            rintro e w5 ⟨rfl, rfl⟩
            rw [Hlf.out]
            go_wp2_with fail
            go_roundw
            case rel => exact ⟨k + 1, a + 4, true, by omega, by go_num, hin, by go_num, rfl, hr4, by (repeat' (first | (with_reducible exact Mod.refl _ _) | (with_reducible assumption) | (with_reducible refine Mod.drew ?_) | (with_reducible refine Mod.drewN ?_ _) | (with_reducible refine Mod.alloc ?_ _) | (with_reducible refine Mod.setCell_ ?_ ?_; focus (first | (intro hlt_; simp; done) | (intro hlt_; exfalso; simp at hlt_; done) | (intro hlt_; exfalso; simp at hlt_; omega) | (intro hlt_; exfalso; omega) | (intro hlt_; simp at hlt_ ⊢; omega))) | (with_reducible refine Mod.trans_ ‹Mod _ _ _› ?_ ?_; focus (first | (intro x_ hx_ hl_; simp at hx_; done) | (intro x_ hx_ hl_; simp at hx_ ⊢; omega) | (intro x_ hx_ hl_; simp at hx_ hl_ ⊢; omega) | (intro x_ hx_ hl_; simp_all; done) | (intro x_ hx_ hl_; simp_all; omega)))))⟩
            case measure => simp [intOf]; omega
          · have t0 := take_out s a 4 (by omega) hal
            have t1 := Lib.hid t0
            have t2 := Lib.hid (show rNum (false, s.extract a s.size) 4 = 0 by unfold rNum; rw [t0]; rfl)
            clear t0
            go_wp2_with fail
            refine (rWord_any hr3).mono ?_
            rintro e w4 ⟨rfl, hr4, hm4⟩
            rw [t1.out] at hr4
            rw [t2.out]
            go_wp2_with fail
            refine (rNumber_any _ (by decide) _).mono ?_
            rintro e w5 ⟨rfl, rfl⟩
            rw [show numOf (⟨#[]⟩ : ByteArray).data.toList = 0 from rfl]
            go_wp2_with fail
            refine (Ok_any hr4).mono ?_
            rintro e w5 ⟨rfl, rfl⟩
            go_wp2_with fail
            refine (Left_any hr4).mono ?_
            rintro e w5 ⟨rfl, rfl⟩
            rw [show rLeft (true, s.extract a s.size) = 0 from rfl]
            go_wp2_with fail
            go_roundw
            case rel => exact ⟨k + 1, a, false, by omega, by go_num, by omega, rfl, rfl, hr4, by (repeat' (first | (with_reducible exact Mod.refl _ _) | (with_reducible assumption) | (with_reducible refine Mod.drew ?_) | (with_reducible refine Mod.drewN ?_ _) | (with_reducible refine Mod.alloc ?_ _) | (with_reducible refine Mod.setCell_ ?_ ?_; focus (first | (intro hlt_; simp; done) | (intro hlt_; exfalso; simp at hlt_; done) | (intro hlt_; exfalso; simp at hlt_; omega) | (intro hlt_; exfalso; omega) | (intro hlt_; simp at hlt_ ⊢; omega))) | (with_reducible refine Mod.trans_ ‹Mod _ _ _› ?_ ?_; focus (first | (intro x_ hx_ hl_; simp at hx_; done) | (intro x_ hx_ hl_; simp at hx_ ⊢; omega) | (intro x_ hx_ hl_; simp at hx_ hl_ ⊢; omega) | (intro x_ hx_ hl_; simp_all; done) | (intro x_ hx_ hl_; simp_all; omega)))))⟩
            case measure => simp [intOf]; omega
      by_cases k3 : kind = 3
      · subst k3
        cases ok
        · have t1 := Lib.hid (take_failed (s.extract a s.size) N)
          replace hr3 : Rd wr p (true, s.extract a s.size) := hr3
          go_wp2_with fail
          refine (Take_any hr3 _).mono ?_
          rintro e w4 ⟨rfl, hr4, hm4⟩
          rw [t1.out] at hr4 ⊢
          go_wp2_with fail
          refine (Ok_any hr4).mono ?_
          rintro e w5 ⟨rfl, rfl⟩
          go_wp2_with fail
          refine (Left_any hr4).mono ?_
          rintro e w5 ⟨rfl, rfl⟩
          rw [show ((rLeft (true, s.extract a s.size) : Nat) : Int) = 0 from by first | exact Hlf.out | rfl]
          go_wp2_with fail
          go_roundw
          case rel => exact ⟨k + 1, a, false, by omega, by go_num, by omega, rfl, rfl, hr4, by (repeat' (first | (with_reducible exact Mod.refl _ _) | (with_reducible assumption) | (with_reducible refine Mod.drew ?_) | (with_reducible refine Mod.drewN ?_ _) | (with_reducible refine Mod.alloc ?_ _) | (with_reducible refine Mod.setCell_ ?_ ?_; focus (first | (intro hlt_; simp; done) | (intro hlt_; exfalso; simp at hlt_; done) | (intro hlt_; exfalso; simp at hlt_; omega) | (intro hlt_; exfalso; omega) | (intro hlt_; simp at hlt_ ⊢; omega))) | (with_reducible refine Mod.trans_ ‹Mod _ _ _› ?_ ?_; focus (first | (intro x_ hx_ hl_; simp at hx_; done) | (intro x_ hx_ hl_; simp at hx_ ⊢; omega) | (intro x_ hx_ hl_; simp at hx_ hl_ ⊢; omega) | (intro x_ hx_ hl_; simp_all; done) | (intro x_ hx_ hl_; simp_all; omega)))))⟩
          case measure => simp [intOf]; omega
        · replace hr3 : Rd wr p (false, s.extract a s.size) := hr3
          by_cases hin : 0 ≤ N ∧ N ≤ (s.size : Int) - a
          · obtain ⟨m, rfl⟩ := Int.eq_ofNat_of_zero_le hin.1
            have hin' : a + m ≤ s.size := by omega
            have t1 := Lib.hid (take_in s a m hin')
            have hlf : ((rLeft (false, s.extract (a + m) s.size) : Nat) : Int) = (s.size : Int) - ((a : Int) + m) := by
              unfold rLeft; rw [if_neg (by simp)]; simp only [ByteArray.size_extract]; omega
            have Hlf := Lib.hid hlf
            clear hlf
            have Hw : Hid (s.extract a (a + m) = s.extract a (a + m)) := rfl
            go_wp2_with fail
            generalize s.extract a (a + m) = want at t1 ⊢
            refine (Take_any hr3 _).mono ?_
            rintro e w4 ⟨rfl, hr4, hm4⟩
            rw [t1.out] at hr4 ⊢
            go_wp2_with fail
            refine (Ok_any hr4).mono ?_
            rintro e w5 ⟨rfl, rfl⟩
            go_wp2_with fail
            refine (Left_any hr4).mono ?_
            rintro e w5 ⟨rfl, rfl⟩
            rw [show ((rLeft (false, s.extract (a + m) s.size) : Nat) : Int) = ((s.size : Int) - ((a : Int) + m)) from by first | exact Hlf.out | rfl]
            go_wp2_with fail
            go_roundw
            case rel => exact ⟨k + 1, a + m, true, by omega, by go_num, hin', by go_num, rfl, hr4, by (repeat' (first | (with_reducible exact Mod.refl _ _) | (with_reducible assumption) | (with_reducible refine Mod.drew ?_) | (with_reducible refine Mod.drewN ?_ _) | (with_reducible refine Mod.alloc ?_ _) | (with_reducible refine Mod.setCell_ ?_ ?_; focus (first | (intro hlt_; simp; done) | (intro hlt_; exfalso; simp at hlt_; done) | (intro hlt_; exfalso; simp at hlt_; omega) | (intro hlt_; exfalso; omega) | (intro hlt_; simp at hlt_ ⊢; omega))) | (with_reducible refine Mod.trans_ ‹Mod _ _ _› ?_ ?_; focus (first | (intro x_ hx_ hl_; simp at hx_; done) | (intro x_ hx_ hl_; simp at hx_ ⊢; omega) | (intro x_ hx_ hl_; simp at hx_ hl_ ⊢; omega) | (intro x_ hx_ hl_; simp_all; done) | (intro x_ hx_ hl_; simp_all; omega)))))⟩
            case measure => simp [intOf]; omega
          · have t1 := Lib.hid (take_out s a N (by omega) hal)
            by_cases hN0 : 0 ≤ N
            · have hN1 : (s.size : Int) - a < N := by omega
              go_wp2_with fail
              refine (Take_any hr3 _).mono ?_
              rintro e w4 ⟨rfl, hr4, hm4⟩
              rw [t1.out] at hr4 ⊢
              go_wp2_with fail
              refine (Ok_any hr4).mono ?_
              rintro e w5 ⟨rfl, rfl⟩
              go_wp2_with fail
              refine (Left_any hr4).mono ?_
              rintro e w5 ⟨rfl, rfl⟩
              rw [show ((rLeft (true, s.extract a s.size) : Nat) : Int) = 0 from by first | exact Hlf.out | rfl]
              go_wp2_with fail
              go_roundw
              case rel => exact ⟨k + 1, a, false, by omega, by go_num, by omega, rfl, rfl, hr4, by (repeat' (first | (with_reducible exact Mod.refl _ _) | (with_reducible assumption) | (with_reducible refine Mod.drew ?_) | (with_reducible refine Mod.drewN ?_ _) | (with_reducible refine Mod.alloc ?_ _) | (with_reducible refine Mod.setCell_ ?_ ?_; focus (first | (intro hlt_; simp; done) | (intro hlt_; exfalso; simp at hlt_; done) | (intro hlt_; exfalso; simp at hlt_; omega) | (intro hlt_; exfalso; omega) | (intro hlt_; simp at hlt_ ⊢; omega))) | (with_reducible refine Mod.trans_ ‹Mod _ _ _› ?_ ?_; focus (first | (intro x_ hx_ hl_; simp at hx_; done) | (intro x_ hx_ hl_; simp at hx_ ⊢; omega) | (intro x_ hx_ hl_; simp at hx_ hl_ ⊢; omega) | (intro x_ hx_ hl_; simp_all; done) | (intro x_ hx_ hl_; simp_all; omega)))))⟩
              case measure => simp [intOf]; omega
            · clear hin
              go_wp2_with fail
              refine (Take_any hr3 _).mono ?_
              rintro e w4 ⟨rfl, hr4, hm4⟩
              rw [t1.out] at hr4 ⊢
              go_wp2_with fail
              refine (Ok_any hr4).mono ?_
              rintro e w5 ⟨rfl, rfl⟩
              go_wp2_with fail
              refine (Left_any hr4).mono ?_
              rintro e w5 ⟨rfl, rfl⟩
              rw [show ((rLeft (true, s.extract a s.size) : Nat) : Int) = 0 from by first | exact Hlf.out | rfl]
              go_wp2_with fail
              go_roundw
              case rel => exact ⟨k + 1, a, false, by omega, by go_num, by omega, rfl, rfl, hr4, by (repeat' (first | (with_reducible exact Mod.refl _ _) | (with_reducible assumption) | (with_reducible refine Mod.drew ?_) | (with_reducible refine Mod.drewN ?_ _) | (with_reducible refine Mod.alloc ?_ _) | (with_reducible refine Mod.setCell_ ?_ ?_; focus (first | (intro hlt_; simp; done) | (intro hlt_; exfalso; simp at hlt_; done) | (intro hlt_; exfalso; simp at hlt_; omega) | (intro hlt_; exfalso; omega) | (intro hlt_; simp at hlt_ ⊢; omega))) | (with_reducible refine Mod.trans_ ‹Mod _ _ _› ?_ ?_; focus (first | (intro x_ hx_ hl_; simp at hx_; done) | (intro x_ hx_ hl_; simp at hx_ ⊢; omega) | (intro x_ hx_ hl_; simp at hx_ hl_ ⊢; omega) | (intro x_ hx_ hl_; simp_all; done) | (intro x_ hx_ hl_; simp_all; omega)))))⟩
              case measure => simp [intOf]; omega
      by_cases k4 : kind = 4
      · subst k4
        cases ok
        · have t1 := Lib.hid (show rRest (true, s.extract a s.size) = (⟨#[]⟩, (true, s.extract a s.size)) from take_failed _ _)
          replace hr3 : Rd wr p (true, s.extract a s.size) := hr3
          go_wp2_with fail
          refine (rRest_any hr3).mono ?_
          rintro e w4 ⟨rfl, hr4, hm4⟩
          rw [t1.out] at hr4 ⊢
          go_wp2_with fail
          refine (Ok_any hr4).mono ?_
          rintro e w5 ⟨rfl, rfl⟩
          go_wp2_with fail
          refine (Left_any hr4).mono ?_
          rintro e w5 ⟨rfl, rfl⟩
          rw [show ((rLeft (true, s.extract a s.size) : Nat) : Int) = 0 from by first | exact Hlf.out | rfl]
          go_wp2_with fail
          go_roundw
          case rel => exact ⟨k + 1, a, false, by omega, by go_num, by omega, rfl, rfl, hr4, by (repeat' (first | (with_reducible exact Mod.refl _ _) | (with_reducible assumption) | (with_reducible refine Mod.drew ?_) | (with_reducible refine Mod.drewN ?_ _) | (with_reducible refine Mod.alloc ?_ _) | (with_reducible refine Mod.setCell_ ?_ ?_; focus (first | (intro hlt_; simp; done) | (intro hlt_; exfalso; simp at hlt_; done) | (intro hlt_; exfalso; simp at hlt_; omega) | (intro hlt_; exfalso; omega) | (intro hlt_; simp at hlt_ ⊢; omega))) | (with_reducible refine Mod.trans_ ‹Mod _ _ _› ?_ ?_; focus (first | (intro x_ hx_ hl_; simp at hx_; done) | (intro x_ hx_ hl_; simp at hx_ ⊢; omega) | (intro x_ hx_ hl_; simp at hx_ hl_ ⊢; omega) | (intro x_ hx_ hl_; simp_all; done) | (intro x_ hx_ hl_; simp_all; omega)))))⟩
          case measure => simp [intOf]; omega
        · replace hr3 : Rd wr p (false, s.extract a s.size) := hr3
          have t0 : rRest (false, s.extract a s.size) = (s.extract a s.size, (false, s.extract s.size s.size)) := by
            unfold rRest rLeft
            rw [if_neg (by simp)]
            have e := take_in s a (s.size - a) (by omega)
            rw [show a + (s.size - a) = s.size from by omega] at e
            rw [← e]; congr 1; simp only [ByteArray.size_extract]; omega
          have t1 := Lib.hid t0
          clear t0
          have hw : (s.extract a s.size).size = s.size - a := by simp only [ByteArray.size_extract]; omega
          have Hlf := Lib.hid (show ((rLeft (false, s.extract s.size s.size) : Nat) : Int) = 0 by unfold rLeft; rw [if_neg (by simp)]; simp only [ByteArray.size_extract]; omega)
          go_wp2_with fail
          clear hw
          rw [show (a : Int) + ((s.size - a : Nat) : Int) = (s.size : Int) from by omega]
          generalize s.extract a s.size = want at t1 hr3 ⊢
          refine (rRest_any hr3).mono ?_
          rintro e w4 ⟨rfl, hr4, hm4⟩
          rw [t1.out] at hr4 ⊢
          go_wp2_with fail
          refine (Ok_any hr4).mono ?_
          rintro e w5 ⟨rfl, rfl⟩
          go_wp2_with fail
          refine (Left_any hr4).mono ?_
          rintro e w5 ⟨rfl, rfl⟩
          rw [show ((rLeft (false, s.extract s.size s.size) : Nat) : Int) = 0 from by first | exact Hlf.out | rfl]
          go_wp2_with fail
          go_roundw
          case rel => exact ⟨k + 1, s.size, true, by omega, by go_num, Nat.le_refl _, rfl, rfl, hr4, by (repeat' (first | (with_reducible exact Mod.refl _ _) | (with_reducible assumption) | (with_reducible refine Mod.drew ?_) | (with_reducible refine Mod.drewN ?_ _) | (with_reducible refine Mod.alloc ?_ _) | (with_reducible refine Mod.setCell_ ?_ ?_; focus (first | (intro hlt_; simp; done) | (intro hlt_; exfalso; simp at hlt_; done) | (intro hlt_; exfalso; simp at hlt_; omega) | (intro hlt_; exfalso; omega) | (intro hlt_; simp at hlt_ ⊢; omega))) | (with_reducible refine Mod.trans_ ‹Mod _ _ _› ?_ ?_; focus (first | (intro x_ hx_ hl_; simp at hx_; done) | (intro x_ hx_ hl_; simp at hx_ ⊢; omega) | (intro x_ hx_ hl_; simp at hx_ hl_ ⊢; omega) | (intro x_ hx_ hl_; simp_all; done) | (intro x_ hx_ hl_; simp_all; omega)))))⟩
          case measure => simp [intOf]; omega
      go_wp2_with fail
      go_roundw
      case rel => exact ⟨k + 1, a, ok, by omega, by go_num, by omega, rfl, rfl, hr3, hm3⟩
      case measure => simp [intOf]; omega
    · obtain rfl : k = l.length := by omega
      go_wp2_with fail
      go_ret
      exact ⟨rfl, hm3⟩
namespace cursorReads
open Go.ChangeShapes Go.WideShapes Go.ChangeAt Go.RowKit
open Go.ChangeMaps (open_string shut_string)
theorem own : ownKnob Try.prog.godebug = none := by kernel_rfl
theorem laidOut : laidOutB Try.prog = true := by kernel_rfl
set_option maxRecDepth 100000 in
theorem lifted (os : Os) (started : os.Started) (H : Type) (enc : TypeId × Value → H) :
    ReturnsInHanded {} Try.checked os 6 .any (Rows.cursorReadsSpec.pre6 enc Try.prog Try.f6 Rows.cursorReadsRow.domain false) (Rows.cursorReadsSpec.post enc Try.prog Try.f6 false true false false) := by
  refine returnsInHanded_of_change_sized (C := Try.checked) own started (by kernel_rfl) Try.func6
    (ChangeSpec.witness6 (enc := enc) (C := Try.checked) false ⟨#[], #[.string ByteArray.empty, .slice none 0 0], []⟩ 8 (by kernel_rfl) (by kernel_rfl) (by kernel_rfl) (by kernel_rfl)) ?_
  intro W base args ds gs before hval0 hW hcnd hsz0 _
  have hsz : (DataW.weightsEach Try.prog (Try.f6.params.toList ++ Rows.cursorReadsSpec.plain.varTypes Try.prog) (ds ++ gs)).all (· ≤ reachBytes) = true := hsz0
  have hval : ∀ (j : Nat) t v, Try.f6.params[j]? = some t → args[j]? = some v → Value.okWide Try.prog W .any base t v := hval0
  have hW' := hW
  obtain ⟨p, q, hA0, hV, rfl, hfz, hnd⟩ := hW
  have hA : DataW.TrodAll enc Try.prog W 0 (fun _ => true) true Try.f6.params.toList args.toList ds p := hA0
  rw [Try.params6] at hA hval hsz
  obtain ⟨v0, vs0, d0, ds0, p0, q0, hargs, rfl, rfl, h0, r0⟩ := trodAll_cons hA
  obtain ⟨v1, vs1, d1, ds1, p1, q1, rfl, rfl, rfl, h1, r1⟩ := trodAll_cons r0
  obtain ⟨rfl, rfl, rfl⟩ := trodAll_nil r1
  obtain rfl : args = #[v0, v1] := by cases args; simp_all
  obtain ⟨rfl, rfl⟩ := trodVars_none hV
  obtain ⟨a0, rfl, rfl, rfl, y0⟩ := open_string Try.underlying9 (hval 0 9 v0 rfl rfl) h0
  have w0 : a0.size ≤ 140737488351232 := by
    have z := sized_string hsz (j := 0) (t := 9) rfl rfl
    rw [Array.length_toList] at z
    exact z
  have hv1 := (hval 1 51 v1 rfl rfl)
  have k1 := h1
  have lt1 : ∀ x ∈ p1, x.block < W.heap.size := by obtain ⟨m, hm⟩ := k1; exact DataW.trod_lt m _ _ _ hm
  obtain ⟨fuel1, g1⟩ := h1
  obtain ⟨l1, s1, o1⟩ := open_structs enAct _ Try.underlying51 (by kernel_rfl) open_act (okWide_slice Try.underlying51 hv1) g1 (by decide)
  clear hA0 hval0 hsz0
  refine (reads_any a0 v1 l1 W w0 s1 o1).mono fun e W' ⟨he, mod⟩ => ?_
  have bel : Below W.heap.size W W' := mod.below (Nat.le_refl _) (by simp)
  subst he
  exact ⟨_, rfl, _, _, _, [], _, [], hW', trodAll_mk1 (shut_bool Try.underlying4 _), (trodAll_cons_mk (shut_string Try.underlying9 y0) (trodAll_cons_mk (Below.trod laidOut (by kernel_rfl) (of_decide_eq_true (by kernel_rfl)) k1 bel lt1) trodAll_mk0)), rfl, bel.frame _, fun h => by cases h⟩
theorem over : Rows.cursorReadsRow.holds Try.pinned (OpenSpec.ofChange Rows.cursorReadsSpec) :=
  OpenClaim.holds_of_wide 6 Try.f6 rfl rfl rfl rfl rfl rfl rfl ⟨rfl, rfl, rfl, rfl, rfl⟩ rfl rfl rfl rfl rfl (by kernel_rfl) Try.func6 (by kernel_rfl)
    (of_decide_eq_true (by kernel_rfl)) (by unfold Func.isWrapper; first | (rw [if_pos (by decide +kernel)]; kernel_rfl) | (rw [if_neg (by decide +kernel)]; exact ⟨rfl, rfl⟩))
    (fun os started H enc _ => lifted os started H enc)
theorem proved : Rows.CursorReadsSaid := over
#print axioms proved
end cursorReads
/-- The row, under a short name, for the claim. -/
theorem cursorReads_holds : Rows.CursorReadsSaid := cursorReads.proved
end Go.Proofs.Ytbcebihjehneaaa
