/- sum.Put, the document's Put, and that what they make is good. -/
import Derived.Test.YtmcaigmpcbkfpaaGreatMSumText
set_option linter.unusedVariables false
set_option linter.unusedSimpArgs false
namespace Go.Proofs.YtmcaigmpcbkfpaaGreat
open Go.RowKit

/-- The check sum of a text without the short at m. -/
def sumAt (s : ByteArray) (m : Nat) : Int := sumOf [s.extract 0 m, ⟨#[0, 0]⟩, s.extract (m + 2) s.size]
def putSum (s : ByteArray) (m : Nat) : ByteArray := (s.extract 0 m ++ strOfNums [sumAt s m / 256, sumAt s m % 256]) ++ s.extract (m + 2) s.size
theorem sumAt_rng (s : ByteArray) (m : Nat) : 0 ≤ sumAt s m ∧ sumAt s m ≤ 65535 := by
  unfold sumAt sumOf; have := addAll_rng [s.extract 0 m, ⟨#[0, 0]⟩, s.extract (m + 2) s.size]; omega
theorem sumAt_eq (s : ByteArray) (m : Nat) (hm : m + 2 ≤ s.size) (hp : m % 2 = 0) : sumAt s m = 65535 - foldZ (wsum true (s.data.toList.take m) + wsum true (s.data.toList.drop (m + 2))) := by
  have hl : s.data.toList.length = s.size := rfl
  unfold sumAt
  rw [sumOf_eq, flat_three, toList_extract, toList_extract]
  rw [List.drop_zero, Nat.sub_zero, wsum_even _ _ _ (by rw [List.length_take]; omega), wsum_even _ _ _ (by simp)]
  rw [List.take_of_length_le (l := s.data.toList.drop (m + 2)) (by rw [List.length_drop]; omega)]
  congr 2; simp [wsum]
theorem ref_sum (s : ByteArray) (m : Nat) : 65535 - foldZ (wsum true (s.extract 0 m ++ ⟨#[0, 0]⟩ ++ s.extract (m + 2) s.size).data.toList) = sumAt s m := by
  unfold sumAt; rw [sumOf_eq, flat_three, ByteArray.data_append, ByteArray.data_append, Array.toList_append, Array.toList_append, List.append_assoc]
theorem put_good (s : ByteArray) (m : Nat) (hm : m + 2 ≤ s.size) (hp : m % 2 = 0) : sumOf [putSum s m] = 0 := by
  have h := sumAt_rng s m
  have e := sumAt_eq s m hm hp
  have hA := wsum_nonneg (s.data.toList.take m) true
  have hB := wsum_nonneg (s.data.toList.drop (m + 2)) true
  rw [sumOf_eq, show flat [putSum s m] = (putSum s m).data.toList from by simp [flat]]
  unfold putSum
  rw [upd_t s m hm hp (sumAt s m) h.1 h.2, e]
  generalize wsum true (s.data.toList.take m) = A at *
  generalize wsum true (s.data.toList.drop (m + 2)) = B at *
  clear e h
  have h1 := foldZ_rng (A + B)
  by_cases hz : A + B = 0
  · have ha : A = 0 := by omega
    have hb : B = 0 := by omega
    subst ha; subst hb; rfl
  · have hf : foldZ (A + B) = (A + B - 1) % 65535 + 1 := by unfold foldZ; rw [if_neg hz]
    rw [hf]
    unfold foldZ
    rw [if_neg (by omega)]
    omega
theorem put_list (s : ByteArray) (m : Nat) (h0 : 0 ≤ sumAt s m) (h1 : sumAt s m ≤ 65535) : (⟨((s.extract 0 m).data.toList ++ numBytes 2 (sumAt s m) ++ (s.extract (m + 2) s.size).data.toList).toArray⟩ : ByteArray) = putSum s m := by
  unfold putSum
  apply ByteArray.ext
  apply Array.ext'
  rw [ByteArray.data_append, ByteArray.data_append, Array.toList_append, Array.toList_append, numBytes2, show sumAt s m / 256 % 256 = sumAt s m / 256 from by omega]
  rfl

set_option maxRecDepth 100000 in
set_option maxHeartbeats 2000000 in
theorem Put_any (s : ByteArray) (m : Nat) (hs : s.size ≤ 65535) (hm : m + 2 ≤ s.size) (hp : m % 2 = 0) (w : World) :
    Calls Tryz.prog 88 #[.string s, .int .i64 m] w fun e w' => e = .returned (.tuple #[.string (putSum s m), .int .i64 0]) ∧ Mod [] w w' := by
  have hr := sumAt_rng s m
  have hl := put_list s m hr.1 hr.2
  have i0 : (0 : Int) ≤ (m : Int) := by omega
  have i1 : (m : Int) ≤ (s.size : Int) := by omega
  have i3 : (m : Int) + 2 ≤ (s.size : Int) := by omega
  have j2 : IntKind.i64.wrap ((m : Int) + 2) = (m : Int) + 2 := IntWalk.i64_in _ (by omega)
  have j4 : ((m : Int) + 2).toNat = m + 2 := by omega
  have j6 : (0 : Int) ≤ (m : Int) + 2 := by omega
  have HL := Lib.hid hl
  clear hl
  have zh : (s.extract 0 m).size ≤ s.size := by rw [ByteArray.size_extract]; omega
  have zt : (s.extract (m + 2) s.size).size ≤ s.size := by rw [ByteArray.size_extract]; omega
  go_enter Tryz.func88, Tryz.ntmps88
  go_wp2_with fail
  go_quiet (fail)
  go_wp2_with fail
  have hw0 : Wr w.heap.size (((w.alloc (.cells #[.bool false, .pointer none, .slice none 0 0] 130)).drewN nq).alloc (.cells #[.string (s.extract 0 m)] 9)) w.heap.size false [] :=
    ((Wr.new (w := w.alloc (.cells #[.bool false, .pointer none, .slice none 0 0] 130)) (by (repeat' (first | (with_reducible assumption) | (with_reducible rfl) | (with_reducible apply Blk.drew) | (with_reducible apply Blk.drewN) | (with_reducible refine Blk.new_ _ _ ?_; focus (first | assumption | (simp; omega) | (simp; done) | omega | (simp at *; omega))) | (with_reducible apply Blk.alloc) | (with_reducible apply Blk.other_; focus (first | assumption | (simp; omega) | (simp; done) | omega | (simp at *; omega))) | (with_reducible apply Blk.set_) | (with_reducible apply Blk.mod_ ‹Mod _ _ _›; focus (first | assumption | (simp; omega) | (simp; done) | omega | (simp at *; omega))) | (simp; done)))) (Nat.le_refl _)).drewN nq).mod0 ((Mod.refl [] _).alloc _)
  have hn : sumOf [s.extract 0 m, ⟨#[0, 0]⟩, s.extract (m + 2) s.size] = sumAt s m := rfl
  have HN := Lib.hid hn
  clear hn
  have zl : (s.extract 0 m).data.toList.length ≤ 65535 := Nat.le_trans zh hs
  have zl2 : (s.extract (m + 2) s.size).data.toList.length ≤ 65535 := Nat.le_trans zt hs
  have zz : ((s.extract 0 m).data.toList ++ numBytes 2 (sumAt s m) ++ (s.extract (m + 2) s.size).data.toList).length ≤ 65535 := by
    have e1 : (s.extract 0 m).data.toList.length = (s.extract 0 m).size := rfl
    have e2 : (s.extract (m + 2) s.size).data.toList.length = (s.extract (m + 2) s.size).size := rfl
    simp only [List.length_append, numBytes_length, e1, e2, ByteArray.size_extract]; omega
  have HZ := Lib.hid zz
  clear zz
  generalize s.extract 0 m = hd at HL HN HZ zh zl hw0 ⊢
  generalize s.extract (m + 2) s.size = tl at HL HN HZ zt zl2 ⊢
  generalize sumAt s m = n at HL HN HZ hr ⊢
  refine (wText_any (b := w.heap.size + 1) (false, []) [hd] _ hw0 (show Blk _ _ [Value.string hd] _ from by (repeat' (first | (with_reducible assumption) | (with_reducible rfl) | (with_reducible apply Blk.drew) | (with_reducible apply Blk.drewN) | (with_reducible refine Blk.new_ _ _ ?_; focus (first | assumption | (simp; omega) | (simp; done) | omega | (simp at *; omega))) | (with_reducible apply Blk.alloc) | (with_reducible apply Blk.other_; focus (first | assumption | (simp; omega) | (simp; done) | omega | (simp at *; omega))) | (with_reducible apply Blk.set_) | (with_reducible apply Blk.mod_ ‹Mod _ _ _›; focus (first | assumption | (simp; omega) | (simp; done) | omega | (simp at *; omega))) | (simp; done)))) (by simp [textLen]; omega) _ rfl (by simp)).mono ?_
  rintro e w1 ⟨rfl, h1, hm1⟩
  rw [textAll_one, List.nil_append] at h1
  go_wp2_with fail
  refine (Of_any _ [hd, ⟨#[0, 0]⟩, tl] _ (Row.new _ _ _ _ 3 _ (by simp) (by decide)) (by simp; refine ⟨by omega, by decide, by omega⟩)).mono ?_
  rintro e w2 ⟨rfl, hm2⟩
  rw [HN.out]
  have h2 := (h1.mod0 ((Mod.refl [] _).alloc _)).mod0 hm2
  have hm12 : Mod [] w1 w2 := by (repeat' (first | (with_reducible exact Mod.refl _ _) | (with_reducible assumption) | (with_reducible refine Mod.drew ?_) | (with_reducible refine Mod.drewN ?_ _) | (with_reducible refine Mod.alloc ?_ _) | (with_reducible refine Mod.setCell_ ?_ ?_; focus (first | (intro hlt_; simp; done) | (intro hlt_; exfalso; simp at hlt_; done) | (intro hlt_; exfalso; simp at hlt_; omega) | (intro hlt_; exfalso; omega) | (intro hlt_; simp at hlt_ ⊢; omega))) | (with_reducible refine Mod.trans_ ‹Mod _ _ _› ?_ ?_; focus (first | (intro x_ hx_ hl_; simp at hx_; done) | (intro x_ hx_ hl_; simp at hx_ ⊢; omega) | (intro x_ hx_ hl_; simp at hx_ hl_ ⊢; omega) | (intro x_ hx_ hl_; simp_all; done) | (intro x_ hx_ hl_; simp_all; omega)))))
  have hz12 := hm12.size
  go_wp2_with fail
  refine (wShort_any (b := w2.heap.size) (false, hd.data.toList) [n] _ (h2.mod0 ((Mod.refl [] _).alloc _)) (show Blk _ _ [Value.int .i64 n] _ from by (repeat' (first | (with_reducible assumption) | (with_reducible rfl) | (with_reducible apply Blk.drew) | (with_reducible apply Blk.drewN) | (with_reducible refine Blk.new_ _ _ ?_; focus (first | assumption | (simp; omega) | (simp; done) | omega | (simp at *; omega))) | (with_reducible apply Blk.alloc) | (with_reducible apply Blk.other_; focus (first | assumption | (simp; omega) | (simp; done) | omega | (simp at *; omega))) | (with_reducible apply Blk.set_) | (with_reducible apply Blk.mod_ ‹Mod _ _ _›; focus (first | assumption | (simp; omega) | (simp; done) | omega | (simp at *; omega))) | (simp; done)))) (by simp only [List.length_cons, List.length_nil]; omega) _ rfl (by simp)).mono ?_
  rintro e w3 ⟨rfl, h3, hm3⟩
  rw [putAll_one 2 65535 _ n hr.1 hr.2] at h3
  go_wp2_with fail
  refine (wText_any (b := w3.heap.size) (false, hd.data.toList ++ numBytes 2 n) [tl] _ (h3.mod0 ((Mod.refl [] _).alloc _)) (show Blk _ _ [Value.string tl] _ from by (repeat' (first | (with_reducible assumption) | (with_reducible rfl) | (with_reducible apply Blk.drew) | (with_reducible apply Blk.drewN) | (with_reducible refine Blk.new_ _ _ ?_; focus (first | assumption | (simp; omega) | (simp; done) | omega | (simp at *; omega))) | (with_reducible apply Blk.alloc) | (with_reducible apply Blk.other_; focus (first | assumption | (simp; omega) | (simp; done) | omega | (simp at *; omega))) | (with_reducible apply Blk.set_) | (with_reducible apply Blk.mod_ ‹Mod _ _ _›; focus (first | assumption | (simp; omega) | (simp; done) | omega | (simp at *; omega))) | (simp; done)))) (by simp [textLen, numBytes_length]; omega) _ rfl (by simp)).mono ?_
  rintro e w4 ⟨rfl, h4, hm4⟩
  rw [textAll_one] at h4
  go_wp2_with fail
  refine (wDone_any (false, _) _ h4).mono ?_
  rintro e w5 ⟨rfl, h5, hm5⟩
  rw [doneOf_ok _ HZ.out, HL.out]
  go_wp2_with fail
  go_ret2
  exact ⟨rfl, by (repeat' (first | (with_reducible exact Mod.refl _ _) | (with_reducible assumption) | (with_reducible refine Mod.drew ?_) | (with_reducible refine Mod.drewN ?_ _) | (with_reducible refine Mod.alloc ?_ _) | (with_reducible refine Mod.setCell_ ?_ ?_; focus (first | (intro hlt_; simp; done) | (intro hlt_; exfalso; simp at hlt_; done) | (intro hlt_; exfalso; simp at hlt_; omega) | (intro hlt_; exfalso; omega) | (intro hlt_; simp at hlt_ ⊢; omega))) | (with_reducible refine Mod.wtrans_ ‹WMod _ _ _ _› ?_ ?_; focus (first | omega | (simp; omega) | (simp; done))) | (with_reducible refine Mod.trans_ ‹Mod _ _ _› ?_ ?_; focus (first | (intro x_ hx_ hl_; simp at hx_; done) | (intro x_ hx_ hl_; simp at hx_ ⊢; omega) | (intro x_ hx_ hl_; simp at hx_ hl_ ⊢; omega) | (intro x_ hx_ hl_; simp_all; done) | (intro x_ hx_ hl_; simp_all; omega)))))⟩
theorem Put_no (s : ByteArray) (a : Int) (h : a < 0 ∨ a.tmod 2 ≠ 0 ∨ (s.size : Int) - 2 < a) (hs : s.size ≤ 140737488351232) (w : World) :
    Calls Tryz.prog 88 #[.string s, .int .i64 a] w fun e w' => e = .returned (.tuple #[.string ⟨#[]⟩, .int .i64 1]) ∧ w = w' := by
  by_cases h0 : a < 0
  · clear h
    go_enter Tryz.func88, Tryz.ntmps88
    go_wp2_with fail
    go_ret2
    exact ⟨rfl, rfl⟩
  by_cases h1 : a % 2 = 0
  · have h2 : (s.size : Int) - 2 < a := by
      rcases h with h | h | h
      · omega
      · rw [Int.tmod_eq_emod_of_nonneg (by omega)] at h; omega
      · exact h
    clear h
    go_enter Tryz.func88, Tryz.ntmps88
    go_wp2_with fail
    go_ret2
    exact ⟨rfl, rfl⟩
  · have h2 : a % 2 = 1 := by omega
    have h3 : (a % 2 != 0) = true := by rw [h2]; rfl
    have H2 := Lib.hid h2
    clear h h1 h2
    go_enter Tryz.func88, Tryz.ntmps88
    go_wp2_with fail
    go_ret2
    exact ⟨rfl, rfl⟩

set_option maxRecDepth 100000 in
set_option maxHeartbeats 4000000 in
theorem rPut_any (s : ByteArray) (m : Nat) (hs : s.size ≤ 65535) (hm : m + 2 ≤ s.size) (hp : m % 2 = 0) (w : World) :
    Calls Tryz.prog 80 #[.string s, .int .i64 m] w fun e w' => e = .returned (.string (putSum s m)) ∧ Mod [] w w' := by
  have hr := sumAt_rng s m
  have i0 : (0 : Int) ≤ (m : Int) := by omega
  have i1 : (m : Int) ≤ (s.size : Int) := by omega
  have i3 : (m : Int) + 2 ≤ (s.size : Int) := by omega
  have j2 : IntKind.i64.wrap ((m : Int) + 2) = (m : Int) + 2 := IntWalk.i64_in _ (by omega)
  have j4 : ((m : Int) + 2).toNat = m + 2 := by omega
  have j6 : (0 : Int) ≤ (m : Int) + 2 := by omega
  have zh : (s.extract 0 m).size ≤ 65535 := by rw [ByteArray.size_extract]; omega
  have zt : (s.extract (m + 2) s.size).size ≤ 65535 := by rw [ByteArray.size_extract]; omega
  have z2 : (strOfNums [sumAt s m / 256, sumAt s m % 256]).size = 2 := rfl
  have z0 : (⟨#[0, 0]⟩ : ByteArray).size = 2 := rfl
  have k1 := fun W : World => run_string_add_sum (P := Tryz.prog) W (s.extract 0 m) ⟨#[0, 0]⟩ (by rw [z0]; omega)
  have k2 := fun W : World => run_string_add_sum (P := Tryz.prog) W (s.extract 0 m ++ ⟨#[0, 0]⟩) (s.extract (m + 2) s.size) (by rw [ByteArray.size_append, z0]; omega)
  have k3 := fun W : World => run_string_add_sum (P := Tryz.prog) W (s.extract 0 m) (strOfNums [sumAt s m / 256, sumAt s m % 256]) (by rw [z2]; omega)
  have k4 := fun W : World => run_string_add_sum (P := Tryz.prog) W (s.extract 0 m ++ strOfNums [sumAt s m / 256, sumAt s m % 256]) (s.extract (m + 2) s.size) (by rw [ByteArray.size_append, z2]; omega)
  have z5 : (s.extract 0 m ++ ⟨#[0, 0]⟩ ++ s.extract (m + 2) s.size).size ≤ 9223372036854775806 := by rw [ByteArray.size_append, ByteArray.size_append, z0]; omega
  have Z5 := Lib.hid z5
  have HS := Lib.hid (ref_sum s m)
  clear zh zt z2 z0 z5
  go_enter Tryz.func80, Tryz.ntmps80
  go_wp2_with fail
  go_region_held3 (fun _ => True) (trivial) (first
    | (go_at_call 74; (with_reducible refine (refOf_any _ Z5.out _).mono ?_); rintro e w1 ⟨rfl, rfl⟩; rw [HS.out])
    | (go_at_call 78; (with_reducible refine (refShort_any (sumAt s m) (by omega) (by omega) _).mono ?_); rintro e w1 ⟨rfl, hm1⟩))
  go_wp2_with fail
  go_ret
  exact ⟨rfl, by (repeat' (first | (with_reducible exact Mod.refl _ _) | (with_reducible assumption) | (with_reducible refine Mod.drew ?_) | (with_reducible refine Mod.drewN ?_ _) | (with_reducible refine Mod.alloc ?_ _) | (with_reducible refine Mod.setCell_ ?_ ?_; focus (first | (intro hlt_; simp; done) | (intro hlt_; exfalso; simp at hlt_; done) | (intro hlt_; exfalso; simp at hlt_; omega) | (intro hlt_; exfalso; omega) | (intro hlt_; simp at hlt_ ⊢; omega))) | (with_reducible refine Mod.trans_ ‹Mod _ _ _› ?_ ?_; focus (first | (intro x_ hx_ hl_; simp at hx_; done) | (intro x_ hx_ hl_; simp at hx_ ⊢; omega) | (intro x_ hx_ hl_; simp at hx_ hl_ ⊢; omega) | (intro x_ hx_ hl_; simp_all; done) | (intro x_ hx_ hl_; simp_all; omega)))))⟩
end Go.Proofs.YtmcaigmpcbkfpaaGreat
