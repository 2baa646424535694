/- The law of check sums in plain numbers: what Of computes is the sum of shorts modulo 65535. -/
import Derived.Test.YtmcaigmpcbkfpaaGreatMSum
set_option linter.unusedVariables false
set_option linter.unusedSimpArgs false
set_option maxRecDepth 100000
namespace Go.Proofs.YtmcaigmpcbkfpaaGreat

def wsum : Bool → List UInt8 → Int
  | _, [] => 0
  | h, b :: l => (if h then (b.toNat : Int) * 256 else (b.toNat : Int)) + wsum (!h) l
theorem wsum_nonneg (l : List UInt8) : ∀ h, 0 ≤ wsum h l := by
  induction l with
  | nil => intro h; simp [wsum]
  | cons b l ih => intro h; have := ih (!h); simp only [wsum]; split <;> omega
theorem foldZ_add (a b : Int) (ha : 0 ≤ a) (hb : 0 ≤ b) : foldZ (foldZ a + b) = foldZ (a + b) := by unfold foldZ; split <;> split <;> (try split) <;> omega
theorem foldl_addB (l : List UInt8) : ∀ (n : Int) (h : Bool), 0 ≤ n → n ≤ 65535 → (l.foldl addB (n, h)).1 = foldZ (n + wsum h l) := by
  induction l with
  | nil => intro n h h0 h1; simp [wsum, foldZ_small n h0 h1]
  | cons b l ih =>
    intro n h h0 h1
    have hr := foldZ_rng (n + if h then (b.toNat : Int) * 256 else (b.toNat : Int))
    have hw := wsum_nonneg l (!h)
    have hb : 0 ≤ (if h then (b.toNat : Int) * 256 else (b.toNat : Int)) := by split <;> omega
    simp only [List.foldl_cons, addB]
    rw [ih _ _ hr.1 hr.2, foldZ_add _ _ (by omega) hw]
    simp only [wsum]
    congr 1
    omega
def flat (ss : List ByteArray) : List UInt8 := ss.flatMap (·.data.toList)
theorem addAll_flat (ss : List ByteArray) : addAll ss = (flat ss).foldl addB (0, true) := by
  have : ∀ (ss : List ByteArray) (st : Int × Bool), ss.foldl addS st = (flat ss).foldl addB st := by
    intro ss
    induction ss with
    | nil => intro st; rfl
    | cons s ss ih => intro st; simp only [List.foldl_cons, flat, List.flatMap_cons, List.foldl_append] at *; rw [ih]; rfl
  exact this ss _
theorem sumOf_eq (ss : List ByteArray) : sumOf ss = 65535 - foldZ (wsum true (flat ss)) := by
  unfold sumOf; rw [addAll_flat, foldl_addB _ 0 true (by omega) (by omega)]; simp
theorem wsum_append (l : List UInt8) : ∀ (h : Bool) (m : List UInt8), wsum h (l ++ m) = wsum h l + wsum (if l.length % 2 = 0 then h else !h) m := by
  induction l with
  | nil => intro h m; simp [wsum]
  | cons b l ih =>
    intro h m
    simp only [List.cons_append, wsum, ih, List.length_cons]
    have : (if l.length % 2 = 0 then !h else !!h) = (if (l.length + 1) % 2 = 0 then h else !h) := by
      rcases Nat.mod_two_eq_zero_or_one l.length with e | e
      · rw [if_pos e, if_neg (by omega)]
      · rw [if_neg (by omega), if_pos (by omega)]; simp
    rw [this]; omega
theorem wsum_even (l m : List UInt8) (h : Bool) (e : l.length % 2 = 0) : wsum h (l ++ m) = wsum h l + wsum h m := by
  rw [wsum_append, if_pos e]
theorem flat_two (a b : ByteArray) : flat [a, b] = a.data.toList ++ b.data.toList := by simp [flat]
theorem flat_three (a b c : ByteArray) : flat [a, b, c] = a.data.toList ++ (b.data.toList ++ c.data.toList) := by simp [flat]
theorem len_even {a : ByteArray} (e : a.size % 2 = 0) : a.data.toList.length % 2 = 0 := by simpa using e
theorem turn_swap (a b : ByteArray) (ea : a.size % 2 = 0) (eb : b.size % 2 = 0) : sumOf [b, a] = sumOf [a, b] := by
  rw [sumOf_eq, sumOf_eq, flat_two, flat_two, wsum_even _ _ _ (len_even ea), wsum_even _ _ _ (len_even eb)]
  congr 2; omega
theorem turn_zero (a b : ByteArray) (ea : a.size % 2 = 0) (eb : b.size % 2 = 0) : sumOf [a, b, ⟨#[0]⟩] = sumOf [a, b] := by
  rw [sumOf_eq, sumOf_eq, flat_two, flat_three, wsum_even _ _ _ (len_even ea), wsum_even _ _ _ (len_even ea), wsum_even _ _ _ (len_even eb)]
  congr 2; simp [wsum]
theorem turn_front (a b : ByteArray) : sumOf [⟨#[0, 0]⟩, a, b] = sumOf [a, b] := by
  rw [sumOf_eq, sumOf_eq, flat_two, flat_three, wsum_even _ _ _ rfl]
  congr 2; simp [wsum]
end Go.Proofs.YtmcaigmpcbkfpaaGreat
set_option maxRecDepth 100000
namespace Go.Proofs.YtmcaigmpcbkfpaaGreat
open Go.RowKit

set_option maxHeartbeats 400000 in
theorem refShort_any (n : Int) (h0 : 0 ≤ n) (h1 : n ≤ 65535) (w : World) :
    Calls Tryz.prog 78 #[.int .i64 n] w fun e w' => e = .returned (.string (strOfNums [n / 256, n % 256])) ∧ Mod [] w w' := by
  have kc := run_convert_bytes_arg (P := Tryz.prog) (w.alloc (.cells #[.int .u8 (n / 256), .int .u8 (n % 256)] 5)) 118 5 Tryz.underlying118 Tryz.underlying5 w.heap.size 0 2 2 [n / 256, n % 256] rfl
    (by intro i hi; rw [World.cell?_alloc_new]; match i, hi with
        | 0, _ => rfl
        | 1, _ => rfl) 9 Tryz.underlying9
  go_enter Tryz.func78, Tryz.ntmps78
  go_wp2
  go_ret
  exact ⟨rfl, by (repeat' (first | (with_reducible exact Mod.refl _ _) | (with_reducible assumption) | (with_reducible refine Mod.drew ?_) | (with_reducible refine Mod.drewN ?_ _) | (with_reducible refine Mod.alloc ?_ _) | (with_reducible refine Mod.setCell_ ?_ ?_; focus (first | (intro hlt_; simp; done) | (intro hlt_; exfalso; simp at hlt_; done) | (intro hlt_; exfalso; simp at hlt_; omega) | (intro hlt_; exfalso; omega) | (intro hlt_; simp at hlt_ ⊢; omega))) | (with_reducible refine Mod.trans_ ‹Mod _ _ _› ?_ ?_; focus (first | (intro x_ hx_ hl_; simp at hx_; done) | (intro x_ hx_ hl_; simp at hx_ ⊢; omega) | (intro x_ hx_ hl_; simp at hx_ hl_ ⊢; omega) | (intro x_ hx_ hl_; simp_all; done) | (intro x_ hx_ hl_; simp_all; omega)))))⟩

theorem wsum_snoc (l : List UInt8) (b : UInt8) : wsum true (l ++ [b]) = wsum true l + (if l.length % 2 = 0 then (b.toNat : Int) * 256 else (b.toNat : Int)) := by
  rw [wsum_append]; split <;> simp [wsum]
theorem wsum_take (s : ByteArray) (k : Nat) (h : k < s.size) : wsum true (s.data.toList.take (k + 1)) = wsum true (s.data.toList.take k) + (if k % 2 = 0 then (s[k].toNat : Int) * 256 else (s[k].toNat : Int)) := by
  rw [take_snoc _ k (by simpa using h), wsum_snoc, List.length_take, Nat.min_eq_left (by simp; omega)]
  rfl
theorem fold_mod (x : Int) (h : 0 ≤ x) : foldZ x = if x % 65535 = 0 ∧ 0 < x then 65535 else x % 65535 := by unfold foldZ; split <;> split <;> omega

set_option maxHeartbeats 1000000 in
theorem refSum_any (s : ByteArray) (hs : s.size ≤ 9223372036854775806) (w : World) :
    Calls Tryz.prog 113 #[.string s] w fun e w' => e = .returned (.int .i64 (foldZ (wsum true s.data.toList))) ∧ w = w' := by
  go_enter Tryz.func113, Tryz.ntmps113
  go_wp2
  go_loop [3, 4, 5] (fun n sm i => ∃ k : Nat, ∃ t : Bool, k ≤ s.size ∧ i = .int .i64 k ∧ n = .int .i64 (wsum true (s.data.toList.take k) % 65535) ∧ sm = .bool t ∧ Hid (t = decide (0 < wsum true (s.data.toList.take k)))) (fun _ _ i => s.size - (intOf i).toNat)
  case atStart => exact ⟨0, false, Nat.zero_le _, rfl, rfl, rfl, rfl⟩
  case round =>
    obtain ⟨k, t, hk, rfl, rfl, rfl, ht⟩ := hrel
    have hw := wsum_nonneg (s.data.toList.take k) true
    by_cases hlt : k < s.size
    · have hb : (s[k].toNat : Int) ≤ 255 := by have := s[k].toNat_lt; omega
      have ea := Lib.hid (wsum_take s k hlt)
      rcases Nat.mod_two_eq_zero_or_one k with hp | hp <;> cases t
      all_goals
        go_wp2
        go_round
        case rel =>
          have e1 := ea.out
          have h1 := ht.out
          rw [hp] at e1
          simp at e1 h1
          refine ⟨k + 1, _, by omega, by go_num, ?_, rfl, ?_⟩
          · rw [e1]; congr 1; omega
          · rw [e1]; show _ = decide _; simp; omega
        case measure => simp [intOf]; omega
    · obtain rfl : k = s.size := by omega
      rw [List.take_of_length_le (by simp)] at ht hw ⊢
      have e0 := Lib.hid (fold_mod _ hw)
      by_cases hz : wsum true s.data.toList % 65535 = 0
      · cases t
        all_goals
          have hzb : (wsum true s.data.toList % 65535 == 0) = true := by simp [hz]
          go_wp2
          go_ret
          refine ⟨ret_int ?_, rfl⟩
          have h1 := ht.out
          rw [e0.out]
          simp at h1
          simp [hz, h1]
      · have hzb : (wsum true s.data.toList % 65535 == 0) = false := by simp [hz]
        go_wp2
        go_ret
        refine ⟨ret_int ?_, rfl⟩
        rw [e0.out]
        simp [hz]
set_option maxHeartbeats 400000 in
theorem refOf_any (s : ByteArray) (hs : s.size ≤ 9223372036854775806) (w : World) :
    Calls Tryz.prog 74 #[.string s] w fun e w' => e = .returned (.int .i64 (65535 - foldZ (wsum true s.data.toList))) ∧ w = w' := by
  have hr := foldZ_rng (wsum true s.data.toList)
  go_enter Tryz.func74, Tryz.ntmps74
  go_wp2_with (go_at_call 113; refine (refSum_any _ hs _).mono ?_; rintro e w1 ⟨rfl, rfl⟩)
  go_ret
  exact ⟨rfl, rfl⟩
end Go.Proofs.YtmcaigmpcbkfpaaGreat
