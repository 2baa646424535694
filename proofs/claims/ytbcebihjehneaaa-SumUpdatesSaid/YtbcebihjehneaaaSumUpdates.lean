/- SumUpdates: where a short of any text is another one, Update gives the check sum of the text with it; of numbers that are no shorts it gives 0. For every input. -/
import Derived.Test.YtbcebihjehneaaaSumRef
import Derived.Test.YtbcebihjehneaaaAwake02
import Derived.ProofKit
import Derived.OpenShut
import Derived.ShutString
import Derived.ChangeOld
import Derived.SizedLaws
set_option linter.unusedVariables false
set_option linter.unusedSimpArgs false
namespace Go.Proofs.Ytbcebihjehneaaa
open Go.RowKit

theorem toList_extract (s : ByteArray) (i j : Nat) : (s.extract i j).data.toList = (s.data.toList.drop i).take (j - i) := by
  rw [ByteArray.data_extract]; simp
theorem upd_s (s : ByteArray) (m : Nat) (hm : m + 2 ≤ s.size) (hp : m % 2 = 0) :
    wsum true s.data.toList = wsum true (s.data.toList.take m) + ((s[m]'(by omega)).toNat * 256 + (s[m + 1]'(by omega)).toNat : Int) + wsum true (s.data.toList.drop (m + 2)) := by
  have hl : s.data.toList.length = s.size := by simp
  have e : s.data.toList = s.data.toList.take m ++ ([s[m]'(by omega), s[m + 1]'(by omega)] ++ s.data.toList.drop (m + 2)) := by
    conv => lhs; rw [← List.take_append_drop m s.data.toList]
    congr 1
    rw [List.drop_eq_getElem_cons (by omega), List.drop_eq_getElem_cons (by omega)]; rfl
  conv => lhs; rw [e]
  rw [wsum_even _ _ _ (by rw [List.length_take]; omega), wsum_even _ _ _ (by simp)]
  simp [wsum]; omega
theorem upd_t (s : ByteArray) (m : Nat) (hm : m + 2 ≤ s.size) (hp : m % 2 = 0) (now : Int) (h0 : 0 ≤ now) (h1 : now ≤ 65535) :
    wsum true ((s.extract 0 m ++ strOfNums [now / 256, now % 256]) ++ s.extract (m + 2) s.size).data.toList = wsum true (s.data.toList.take m) + now + wsum true (s.data.toList.drop (m + 2)) := by
  have hl : s.data.toList.length = s.size := by simp
  have e : ((s.extract 0 m ++ strOfNums [now / 256, now % 256]) ++ s.extract (m + 2) s.size).data.toList = s.data.toList.take m ++ ([UInt8.ofNat (now / 256).toNat, UInt8.ofNat (now % 256).toNat] ++ s.data.toList.drop (m + 2)) := by
    rw [ByteArray.data_append, ByteArray.data_append, Array.toList_append, Array.toList_append, toList_extract, toList_extract, List.append_assoc]
    simp [strOfNums]
    rw [List.take_of_length_le (by simp)]
  rw [e, wsum_even _ _ _ (by rw [List.length_take]; omega), wsum_even _ _ _ (by simp)]
  have b1 : (UInt8.ofNat (now / 256).toNat).toNat = (now / 256).toNat := by rw [UInt8.toNat_ofNat']; omega
  have b2 : (UInt8.ofNat (now % 256).toNat).toNat = (now % 256).toNat := by rw [UInt8.toNat_ofNat']; omega
  simp only [wsum, b1, b2]; simp; omega
theorem upd_fold (A was now B : Int) (hA : 0 ≤ A) (hB : 0 ≤ B) (hw : 0 ≤ was ∧ was ≤ 65535) (hn : 0 ≤ now ∧ now ≤ 65535) (hz : A + now + B ≠ 0) :
    foldZ (65535 - (65535 - foldZ (A + was + B)) + (65535 - was) + now) = foldZ (A + now + B) := by
  unfold foldZ
  by_cases h : A + was + B = 0
  · by_cases h' : 65535 - (65535 - 0) + (65535 - was) + now = 0
    · omega
    · simp only [if_pos h, if_neg h', if_neg hz]; omega
  · by_cases h' : 65535 - (65535 - ((A + was + B - 1) % 65535 + 1)) + (65535 - was) + now = 0
    · omega
    · simp only [if_neg h, if_neg h', if_neg hz]; omega
/-- Update, at the numbers of a text, is the check sum of the text with the other short. -/
theorem upd_law (s : ByteArray) (m : Nat) (hm : m + 2 ≤ s.size) (hp : m % 2 = 0) (now : Int) (hn : 0 ≤ now ∧ now ≤ 65535)
    (hz : foldZ (wsum true ((s.extract 0 m ++ strOfNums [now / 256, now % 256]) ++ s.extract (m + 2) s.size).data.toList) ≠ 0) :
    foldZ (65535 - (65535 - foldZ (wsum true s.data.toList)) + (65535 - (256 * ((s[m]'(by omega)).toNat : Int) + ((s[m + 1]'(by omega)).toNat : Int))) + now) =
      foldZ (wsum true ((s.extract 0 m ++ strOfNums [now / 256, now % 256]) ++ s.extract (m + 2) s.size).data.toList) := by
  rw [upd_t s m hm hp now hn.1 hn.2] at hz ⊢
  rw [upd_s s m hm hp]
  have b1 := (s[m]'(by omega)).toNat_lt
  have b2 := (s[m + 1]'(by omega)).toNat_lt
  rw [Int.mul_comm 256]
  exact upd_fold _ _ _ _ (wsum_nonneg _ _) (wsum_nonneg _ _) (by omega) hn (fun e => hz (by rw [e]; rfl))

/-- The way behind the first tests. -/
def UpdGood (w : World) (e : Ending) (w' : World) : Prop := e = .returned (.bool true) ∧ Mod [] w w'

set_option maxRecDepth 100000 in
set_option maxHeartbeats 2000000 in
theorem updates_any (s : ByteArray) (p now a b c : Int) (hs : s.size ≤ 140737488351232) (hp : 0 ≤ p ∧ p ≤ 65535) (hn : 0 ≤ now ∧ now ≤ 65535) (w : World) :
    Calls Try.prog 4 #[.string s, .int .u16 p, .int .u16 now, .int .i64 a, .int .i64 b, .int .i64 c] w (UpdGood w) := by
  by_cases h1 : 3000 < s.size
  · go_enter Try.func4, Try.ntmps4
    go_wp2_with (go_at_call 12; refine (awake02_any _).mono ?_; rintro e w1 ⟨rfl, hm⟩)
    go_ret
    exact ⟨rfl, hm⟩
  have hd : 2 ≤ s.size → (1 : Int) ≤ (s.size : Int) / 2 := fun _ => by omega
  have hx0 : 2 ≤ s.size → 0 ≤ p % ((s.size : Int) / 2) := fun _ => Int.emod_nonneg _ (by omega)
  have hx1 : 2 ≤ s.size → p % ((s.size : Int) / 2) < (s.size : Int) / 2 := fun _ => Int.emod_lt_of_pos _ (by omega)
  by_cases hbad : (0 ≤ a ∧ a ≤ 65535) ∧ (0 ≤ b ∧ b ≤ 65535) ∧ (0 ≤ c ∧ c ≤ 65535)
  · obtain ⟨⟨ha, ha'⟩, ⟨hb, hb'⟩, ⟨hc, hc'⟩⟩ := hbad
    by_cases h2 : s.size < 2
    · clear hd hx0 hx1
      go_enter Try.func4, Try.ntmps4
      go_wp2_with (go_at_call 12; refine (awake02_any _).mono ?_; rintro e w1 ⟨rfl, hm⟩)
      go_ret
      exact ⟨rfl, hm⟩
    · replace hd := hd (by omega)
      replace hx0 := hx0 (by omega)
      replace hx1 := hx1 (by omega)
      go_enter Try.func4, Try.ntmps4
      go_wp2_with fail
      obtain ⟨m, hm⟩ : ∃ m : Nat, p % ((s.size : Int) / 2) * 2 = (m : Int) := ⟨(p % ((s.size : Int) / 2) * 2).toNat, by omega⟩
      have hm2 : m + 2 ≤ s.size := by omega
      have hmp : m % 2 = 0 := by omega
      rw [hm]
      have Hm := Lib.hid hm
      clear hm hx0 hx1 hd
      have b1 : (s[m].toNat : Int) ≤ 255 := by have := s[m].toNat_lt; omega
      have b2 : (s[m + 1].toNat : Int) ≤ 255 := by have := s[m + 1].toNat_lt; omega
      have i0 : (m : Int) < (s.size : Int) := by omega
      have i1 : (m : Int) + 1 < (s.size : Int) := by omega
      have i2 : (m : Int) ≤ (s.size : Int) := by omega
      have i3 : (m : Int) + 2 ≤ (s.size : Int) := by omega
      have j1 : IntKind.i64.wrap ((m : Int) + 1) = (m : Int) + 1 := IntWalk.i64_in _ (by omega)
      have j2 : IntKind.i64.wrap ((m : Int) + 2) = (m : Int) + 2 := IntWalk.i64_in _ (by omega)
      have j3 : ((m : Int) + 1).toNat = m + 1 := by omega
      have j4 : ((m : Int) + 2).toNat = m + 2 := by omega
      have j5 : (0 : Int) ≤ (m : Int) + 1 := by omega
      have j6 : (0 : Int) ≤ (m : Int) + 2 := by omega
      have j7 : (0 : Int) ≤ (m : Int) := by omega
      go_quiet (fail)
      go_wp2_with fail
      have j8 : IntKind.i64.wrap now = now := IntWalk.i64_in _ (by omega)
      have z1 : (s.extract 0 m).size ≤ 3000 := by rw [ByteArray.size_extract]; omega
      have z2 : (strOfNums [now / 256, now % 256]).size = 2 := rfl
      have z3 : (s.extract (m + 2) s.size).size ≤ 3000 := by rw [ByteArray.size_extract]; omega
      have z4 : ((s.extract 0 m ++ strOfNums [now / 256, now % 256]) ++ s.extract (m + 2) s.size).size ≤ 9223372036854775806 := by
        rw [ByteArray.size_append, ByteArray.size_append, z2]; omega
      have k1 := fun W : World => run_string_add_sum (P := Try.prog) W (s.extract 0 m) (strOfNums [now / 256, now % 256]) (by rw [z2]; omega)
      have k2 := fun W : World => run_string_add_sum (P := Try.prog) W (s.extract 0 m ++ strOfNums [now / 256, now % 256]) (s.extract (m + 2) s.size) (by rw [ByteArray.size_append, z2]; omega)
      clear z1 z2 z3
      go_region_held3 (fun _ => True) (trivial) ((go_at_call 15; (with_reducible refine (rShort_any now (by omega) (by omega) _).mono ?_); rintro e w1 ⟨rfl, hm1⟩))
      go_wp2_with fail
      have law := Lib.hid (upd_law s m hm2 hmp now hn)
      obtain ⟨t, ht⟩ : ∃ t, t = s.extract 0 m ++ strOfNums [now / 256, now % 256] ++ s.extract (m + 2) s.size := ⟨_, rfl⟩
      rw [← ht] at law z4 ⊢
      clear ht k1 k2
      have Hs := foldZ_rng (wsum true s.data.toList)
      refine (rSum_any _ z4 _).mono ?_
      rintro e w2 ⟨rfl, rfl⟩
      by_cases hz : foldZ (wsum true t.data.toList) = 0
      · have hzb : (foldZ (wsum true t.data.toList) == 0) = true := by simp [hz]
        have Hz := Lib.hid hz
        clear hz
        go_wp2_with (go_at_call 12; refine (awake02_any _).mono ?_; rintro e w3 ⟨rfl, hm3⟩)
        go_ret
        exact ⟨rfl, by (repeat' (first | (with_reducible exact Mod.refl _ _) | (with_reducible assumption) | (with_reducible refine Mod.drew ?_) | (with_reducible refine Mod.drewN ?_ _) | (with_reducible refine Mod.alloc ?_ _) | (with_reducible refine Mod.setCell_ ?_ ?_; focus (first | (intro hlt_; simp; done) | (intro hlt_; exfalso; simp at hlt_; done) | (intro hlt_; exfalso; simp at hlt_; omega) | (intro hlt_; exfalso; omega) | (intro hlt_; simp at hlt_ ⊢; omega))) | (with_reducible refine Mod.trans_ ‹Mod _ _ _› ?_ ?_; focus (first | (intro x_ hx_ hl_; simp at hx_; done) | (intro x_ hx_ hl_; simp at hx_ ⊢; omega) | (intro x_ hx_ hl_; simp at hx_ hl_ ⊢; omega) | (intro x_ hx_ hl_; simp_all; done) | (intro x_ hx_ hl_; simp_all; omega)))))⟩
      · have hzb : (foldZ (wsum true t.data.toList) == 0) = false := by simp [hz]
        have Hz := Lib.hid hz
        clear hz
        go_wp2_with fail
        refine (rOf_any s (by omega) _).mono ?_
        rintro e w2 ⟨rfl, rfl⟩
        go_wp2_with fail
        (with_reducible refine (Update_any _ _ _ (by omega) (by omega) hn _).mono ?_)
        rintro e w2 ⟨rfl, rfl⟩
        rw [law.out Hz.out]
        go_wp2_with fail
        refine (rOf_any t z4 _).mono ?_
        rintro e w2 ⟨rfl, rfl⟩
        go_wp2_with (go_at_call 12; refine (awake02_any _).mono ?_; rintro e w3 ⟨rfl, hm3⟩)
        go_ret
        exact ⟨rfl, by (repeat' (first | (with_reducible exact Mod.refl _ _) | (with_reducible assumption) | (with_reducible refine Mod.drew ?_) | (with_reducible refine Mod.drewN ?_ _) | (with_reducible refine Mod.alloc ?_ _) | (with_reducible refine Mod.setCell_ ?_ ?_; focus (first | (intro hlt_; simp; done) | (intro hlt_; exfalso; simp at hlt_; done) | (intro hlt_; exfalso; simp at hlt_; omega) | (intro hlt_; exfalso; omega) | (intro hlt_; simp at hlt_ ⊢; omega))) | (with_reducible refine Mod.trans_ ‹Mod _ _ _› ?_ ?_; focus (first | (intro x_ hx_ hl_; simp at hx_; done) | (intro x_ hx_ hl_; simp at hx_ ⊢; omega) | (intro x_ hx_ hl_; simp at hx_ hl_ ⊢; omega) | (intro x_ hx_ hl_; simp_all; done) | (intro x_ hx_ hl_; simp_all; omega)))))⟩
  · have hbb : (decide (a < 0) || decide (65535 < a) || decide (b < 0) || decide (65535 < b) || decide (c < 0) || decide (65535 < c)) = true := by simp; omega
    have Hb := Lib.hid hbad
    clear hbad
    by_cases h2 : s.size < 2
    · clear hd hx0 hx1
      go_enter Try.func4, Try.ntmps4
      go_upto_region 3 with fail
      go_cut [13] (fun s13 wx => s13 = .bool true ∧ wx = w)
      case first =>
        go_wp2_with fail
        all_goals
          go_meet
          exact ⟨by first | rfl | (simp; done) | (simp; omega), rfl⟩
      case rest =>
      obtain ⟨rfl, rfl⟩ := hcut
      go_wp2_with fail
      refine (Update_bad a b c Hb.out _).mono ?_
      rintro e w1 ⟨rfl, rfl⟩
      go_wp2_with (go_at_call 12; refine (awake02_any _).mono ?_; rintro e w1 ⟨rfl, hm⟩)
      go_ret
      exact ⟨rfl, hm⟩
    · replace hd := hd (by omega)
      replace hx0 := hx0 (by omega)
      replace hx1 := hx1 (by omega)
      go_enter Try.func4, Try.ntmps4
      go_upto_region 3 with fail
      go_cut [13] (fun s13 wx => s13 = .bool true ∧ wx = w)
      case first =>
        go_wp2_with fail
        all_goals
          go_meet
          exact ⟨by first | rfl | (simp; done) | (simp; omega), rfl⟩
      case rest =>
      obtain ⟨rfl, rfl⟩ := hcut
      go_wp2_with fail
      refine (Update_bad a b c Hb.out _).mono ?_
      rintro e w1 ⟨rfl, rfl⟩
      go_wp2_with fail
      obtain ⟨m, hm⟩ : ∃ m : Nat, p % ((s.size : Int) / 2) * 2 = (m : Int) := ⟨(p % ((s.size : Int) / 2) * 2).toNat, by omega⟩
      have hm2 : m + 2 ≤ s.size := by omega
      have hmp : m % 2 = 0 := by omega
      rw [hm]
      have Hm := Lib.hid hm
      clear hm hx0 hx1 hd
      have b1 : (s[m].toNat : Int) ≤ 255 := by have := s[m].toNat_lt; omega
      have b2 : (s[m + 1].toNat : Int) ≤ 255 := by have := s[m + 1].toNat_lt; omega
      have i0 : (m : Int) < (s.size : Int) := by omega
      have i1 : (m : Int) + 1 < (s.size : Int) := by omega
      have i2 : (m : Int) ≤ (s.size : Int) := by omega
      have i3 : (m : Int) + 2 ≤ (s.size : Int) := by omega
      have j1 : IntKind.i64.wrap ((m : Int) + 1) = (m : Int) + 1 := IntWalk.i64_in _ (by omega)
      have j2 : IntKind.i64.wrap ((m : Int) + 2) = (m : Int) + 2 := IntWalk.i64_in _ (by omega)
      have j3 : ((m : Int) + 1).toNat = m + 1 := by omega
      have j4 : ((m : Int) + 2).toNat = m + 2 := by omega
      have j5 : (0 : Int) ≤ (m : Int) + 1 := by omega
      have j6 : (0 : Int) ≤ (m : Int) + 2 := by omega
      have j7 : (0 : Int) ≤ (m : Int) := by omega
      go_quiet (fail)
      go_wp2_with fail
      have j8 : IntKind.i64.wrap now = now := IntWalk.i64_in _ (by omega)
      have z1 : (s.extract 0 m).size ≤ 3000 := by rw [ByteArray.size_extract]; omega
      have z2 : (strOfNums [now / 256, now % 256]).size = 2 := rfl
      have z3 : (s.extract (m + 2) s.size).size ≤ 3000 := by rw [ByteArray.size_extract]; omega
      have z4 : ((s.extract 0 m ++ strOfNums [now / 256, now % 256]) ++ s.extract (m + 2) s.size).size ≤ 9223372036854775806 := by
        rw [ByteArray.size_append, ByteArray.size_append, z2]; omega
      have k1 := fun W : World => run_string_add_sum (P := Try.prog) W (s.extract 0 m) (strOfNums [now / 256, now % 256]) (by rw [z2]; omega)
      have k2 := fun W : World => run_string_add_sum (P := Try.prog) W (s.extract 0 m ++ strOfNums [now / 256, now % 256]) (s.extract (m + 2) s.size) (by rw [ByteArray.size_append, z2]; omega)
      clear z1 z2 z3
      go_region_held3 (fun _ => True) (trivial) ((go_at_call 15; (with_reducible refine (rShort_any now (by omega) (by omega) _).mono ?_); rintro e w1 ⟨rfl, hm1⟩))
      go_wp2_with fail
      have law := Lib.hid (upd_law s m hm2 hmp now hn)
      obtain ⟨t, ht⟩ : ∃ t, t = s.extract 0 m ++ strOfNums [now / 256, now % 256] ++ s.extract (m + 2) s.size := ⟨_, rfl⟩
      rw [← ht] at law z4 ⊢
      clear ht k1 k2
      have Hs := foldZ_rng (wsum true s.data.toList)
      refine (rSum_any _ z4 _).mono ?_
      rintro e w2 ⟨rfl, rfl⟩
      by_cases hz : foldZ (wsum true t.data.toList) = 0
      · have hzb : (foldZ (wsum true t.data.toList) == 0) = true := by simp [hz]
        have Hz := Lib.hid hz
        clear hz
        go_wp2_with (go_at_call 12; refine (awake02_any _).mono ?_; rintro e w3 ⟨rfl, hm3⟩)
        go_ret
        exact ⟨rfl, by (repeat' (first | (with_reducible exact Mod.refl _ _) | (with_reducible assumption) | (with_reducible refine Mod.drew ?_) | (with_reducible refine Mod.drewN ?_ _) | (with_reducible refine Mod.alloc ?_ _) | (with_reducible refine Mod.setCell_ ?_ ?_; focus (first | (intro hlt_; simp; done) | (intro hlt_; exfalso; simp at hlt_; done) | (intro hlt_; exfalso; simp at hlt_; omega) | (intro hlt_; exfalso; omega) | (intro hlt_; simp at hlt_ ⊢; omega))) | (with_reducible refine Mod.trans_ ‹Mod _ _ _› ?_ ?_; focus (first | (intro x_ hx_ hl_; simp at hx_; done) | (intro x_ hx_ hl_; simp at hx_ ⊢; omega) | (intro x_ hx_ hl_; simp at hx_ hl_ ⊢; omega) | (intro x_ hx_ hl_; simp_all; done) | (intro x_ hx_ hl_; simp_all; omega)))))⟩
      · have hzb : (foldZ (wsum true t.data.toList) == 0) = false := by simp [hz]
        have Hz := Lib.hid hz
        clear hz
        go_wp2_with fail
        refine (rOf_any s (by omega) _).mono ?_
        rintro e w2 ⟨rfl, rfl⟩
        go_wp2_with fail
        (with_reducible refine (Update_any _ _ _ (by omega) (by omega) hn _).mono ?_)
        rintro e w2 ⟨rfl, rfl⟩
        rw [law.out Hz.out]
        go_wp2_with fail
        refine (rOf_any t z4 _).mono ?_
        rintro e w2 ⟨rfl, rfl⟩
        go_wp2_with (go_at_call 12; refine (awake02_any _).mono ?_; rintro e w3 ⟨rfl, hm3⟩)
        go_ret
        exact ⟨rfl, by (repeat' (first | (with_reducible exact Mod.refl _ _) | (with_reducible assumption) | (with_reducible refine Mod.drew ?_) | (with_reducible refine Mod.drewN ?_ _) | (with_reducible refine Mod.alloc ?_ _) | (with_reducible refine Mod.setCell_ ?_ ?_; focus (first | (intro hlt_; simp; done) | (intro hlt_; exfalso; simp at hlt_; done) | (intro hlt_; exfalso; simp at hlt_; omega) | (intro hlt_; exfalso; omega) | (intro hlt_; simp at hlt_ ⊢; omega))) | (with_reducible refine Mod.trans_ ‹Mod _ _ _› ?_ ?_; focus (first | (intro x_ hx_ hl_; simp at hx_; done) | (intro x_ hx_ hl_; simp at hx_ ⊢; omega) | (intro x_ hx_ hl_; simp at hx_ hl_ ⊢; omega) | (intro x_ hx_ hl_; simp_all; done) | (intro x_ hx_ hl_; simp_all; omega)))))⟩

theorem updates_law (s : ByteArray) (p now a b c : Int) (w : World) (hs : s.size ≤ 140737488351232) (hp : (Lit.int .u16 p).wf = true) (hn : (Lit.int .u16 now).wf = true) :
    Calls Try.prog 4 #[.string s, .int .u16 p, .int .u16 now, .int .i64 a, .int .i64 b, .int .i64 c] w fun e w' => e = .returned (.bool true) ∧ Mod [] w w' :=
  updates_any s p now a b c hs (bounds_u16 hp) (bounds_u16 hn) w
namespace sumUpdates
open Go.ChangeShapes Go.WideShapes Go.ChangeAt Go.RowKit
open Go.ChangeMaps (open_string shut_string)
theorem own : ownKnob Try.prog.godebug = none := by kernel_rfl
theorem laidOut : laidOutB Try.prog = true := by kernel_rfl
set_option maxRecDepth 100000 in
theorem lifted (os : Os) (started : os.Started) (H : Type) (enc : TypeId × Value → H) :
    ReturnsInHanded {} Try.checked os 4 .any (Rows.sumUpdatesSpec.pre6 enc Try.prog Try.f4 Rows.sumUpdatesRow.domain false) (Rows.sumUpdatesSpec.post enc Try.prog Try.f4 false true false false) := by
  refine returnsInHanded_of_change_sized (C := Try.checked) own started (by kernel_rfl) Try.func4
    (ChangeSpec.witness6 (enc := enc) (C := Try.checked) false ⟨#[], #[.string ByteArray.empty, .int .u16 0, .int .u16 0, .int .i64 0, .int .i64 0, .int .i64 0], []⟩ 8 (by kernel_rfl) (by kernel_rfl) (by kernel_rfl) (by kernel_rfl)) ?_
  intro W base args ds gs before hval0 hW hcnd hsz0 _
  have hsz : (DataW.weightsEach Try.prog (Try.f4.params.toList ++ Rows.sumUpdatesSpec.plain.varTypes Try.prog) (ds ++ gs)).all (· ≤ reachBytes) = true := hsz0
  have hval : ∀ (j : Nat) t v, Try.f4.params[j]? = some t → args[j]? = some v → Value.okWide Try.prog W .any base t v := hval0
  have hW' := hW
  obtain ⟨p, q, hA0, hV, rfl, hfz, hnd⟩ := hW
  have hA : DataW.TrodAll enc Try.prog W 0 (fun _ => true) true Try.f4.params.toList args.toList ds p := hA0
  rw [Try.params4] at hA hval hsz
  obtain ⟨v0, vs0, d0, ds0, p0, q0, hargs, rfl, rfl, h0, r0⟩ := trodAll_cons hA
  obtain ⟨v1, vs1, d1, ds1, p1, q1, rfl, rfl, rfl, h1, r1⟩ := trodAll_cons r0
  obtain ⟨v2, vs2, d2, ds2, p2, q2, rfl, rfl, rfl, h2, r2⟩ := trodAll_cons r1
  obtain ⟨v3, vs3, d3, ds3, p3, q3, rfl, rfl, rfl, h3, r3⟩ := trodAll_cons r2
  obtain ⟨v4, vs4, d4, ds4, p4, q4, rfl, rfl, rfl, h4, r4⟩ := trodAll_cons r3
  obtain ⟨v5, vs5, d5, ds5, p5, q5, rfl, rfl, rfl, h5, r5⟩ := trodAll_cons r4
  obtain ⟨rfl, rfl, rfl⟩ := trodAll_nil r5
  obtain rfl : args = #[v0, v1, v2, v3, v4, v5] := by cases args; simp_all
  obtain ⟨rfl, rfl⟩ := trodVars_none hV
  obtain ⟨a0, rfl, rfl, rfl, y0⟩ := open_string Try.underlying9 (hval 0 9 v0 rfl rfl) h0
  have w0 : a0.size ≤ 140737488351232 := by
    have z := sized_string hsz (j := 0) (t := 9) rfl rfl
    rw [Array.length_toList] at z
    exact z
  obtain ⟨a1, rfl, rfl, rfl, w1⟩ := open_int Try.underlying25 (hval 1 25 v1 rfl rfl) h1
  obtain ⟨a2, rfl, rfl, rfl, w2⟩ := open_int Try.underlying25 (hval 2 25 v2 rfl rfl) h2
  obtain ⟨a3, rfl, rfl, rfl, w3⟩ := open_int Try.underlying3 (hval 3 3 v3 rfl rfl) h3
  obtain ⟨a4, rfl, rfl, rfl, w4⟩ := open_int Try.underlying3 (hval 4 3 v4 rfl rfl) h4
  obtain ⟨a5, rfl, rfl, rfl, w5⟩ := open_int Try.underlying3 (hval 5 3 v5 rfl rfl) h5
  clear hA0 hval0 hsz0
  refine (updates_law a0 a1 a2 a3 a4 a5 W w0 w1 w2).mono fun e W' ⟨he, mod⟩ => ?_
  have bel : Below W.heap.size W W' := mod.below (Nat.le_refl _) (by simp)
  subst he
  exact ⟨_, rfl, _, _, _, [], _, [], hW', trodAll_mk1 (shut_bool Try.underlying4 _), (trodAll_cons_mk (shut_string Try.underlying9 y0) (trodAll_cons_mk (shut_int Try.underlying25 w1) (trodAll_cons_mk (shut_int Try.underlying25 w2) (trodAll_cons_mk (shut_int Try.underlying3 w3) (trodAll_cons_mk (shut_int Try.underlying3 w4) (trodAll_cons_mk (shut_int Try.underlying3 w5) trodAll_mk0)))))), rfl, bel.frame _, fun h => by cases h⟩
theorem over : Rows.sumUpdatesRow.holds Try.pinned (OpenSpec.ofChange Rows.sumUpdatesSpec) :=
  OpenClaim.holds_of_wide 4 Try.f4 rfl rfl rfl rfl rfl rfl rfl ⟨rfl, rfl, rfl, rfl, rfl⟩ rfl rfl rfl rfl rfl (by kernel_rfl) Try.func4 (by kernel_rfl)
    (of_decide_eq_true (by kernel_rfl)) (by unfold Func.isWrapper; first | (rw [if_pos (by decide +kernel)]; kernel_rfl) | (rw [if_neg (by decide +kernel)]; exact ⟨rfl, rfl⟩))
    (fun os started H enc _ => lifted os started H enc)
theorem proved : Rows.SumUpdatesSaid := over
#print axioms proved
end sumUpdates
/-- The row, under a short name, for the claim. -/
theorem sumUpdates_holds : Rows.SumUpdatesSaid := sumUpdates.proved
end Go.Proofs.Ytbcebihjehneaaa
