/- The law of check sums in plain numbers: what Of computes is the sum of shorts modulo 65535. -/
import Derived.Test.YtodhhnljeojpaaaSum
set_option linter.unusedVariables false
set_option linter.unusedSimpArgs false
set_option maxRecDepth 100000
namespace Go.Proofs.Ytodhhnljeojpaaa

def wsum : Bool → List UInt8 → Int
  | _, [] => 0
  | h, b :: l => (if h then (b.toNat : Int) * 256 else (b.toNat : Int)) + wsum (!h) l
theorem wsum_nonneg (l : List UInt8) : ∀ h, 0 ≤ wsum h l := by
  induction l with
  | nil => intro h; simp [wsum]
  | cons b l ih => intro h; have := ih (!h); simp only [wsum]; split <;> omega
theorem foldZ_add (a b : Int) (ha : 0 ≤ a) (hb : 0 ≤ b) : foldZ (foldZ a + b) = foldZ (a + b) := by unfold foldZ; split <;> split <;> (try split) <;> omega
theorem foldl_addB (l : List UInt8) : ∀ (n : Int) (h : Bool), 0 ≤ n → n ≤ 65535 → (l.foldl addB (n, h)).1 = foldZ (n + wsum h l) := by
  induction l with
  | nil => intro n h h0 h1; simp [wsum, foldZ_small n h0 h1]
  | cons b l ih =>
    intro n h h0 h1
    have hr := foldZ_rng (n + if h then (b.toNat : Int) * 256 else (b.toNat : Int))
    have hw := wsum_nonneg l (!h)
    have hb : 0 ≤ (if h then (b.toNat : Int) * 256 else (b.toNat : Int)) := by split <;> omega
    simp only [List.foldl_cons, addB]
    rw [ih _ _ hr.1 hr.2, foldZ_add _ _ (by omega) hw]
    simp only [wsum]
    congr 1
    omega
def flat (ss : List ByteArray) : List UInt8 := ss.flatMap (·.data.toList)
theorem addAll_flat (ss : List ByteArray) : addAll ss = (flat ss).foldl addB (0, true) := by
  have : ∀ (ss : List ByteArray) (st : Int × Bool), ss.foldl addS st = (flat ss).foldl addB st := by
    intro ss
    induction ss with
    | nil => intro st; rfl
    | cons s ss ih => intro st; simp only [List.foldl_cons, flat, List.flatMap_cons, List.foldl_append] at *; rw [ih]; rfl
  exact this ss _
theorem sumOf_eq (ss : List ByteArray) : sumOf ss = 65535 - foldZ (wsum true (flat ss)) := by
  unfold sumOf; rw [addAll_flat, foldl_addB _ 0 true (by omega) (by omega)]; simp
theorem wsum_append (l : List UInt8) : ∀ (h : Bool) (m : List UInt8), wsum h (l ++ m) = wsum h l + wsum (if l.length % 2 = 0 then h else !h) m := by
  induction l with
  | nil => intro h m; simp [wsum]
  | cons b l ih =>
    intro h m
    simp only [List.cons_append, wsum, ih, List.length_cons]
    have : (if l.length % 2 = 0 then !h else !!h) = (if (l.length + 1) % 2 = 0 then h else !h) := by
      rcases Nat.mod_two_eq_zero_or_one l.length with e | e
      · rw [if_pos e, if_neg (by omega)]
      · rw [if_neg (by omega), if_pos (by omega)]; simp
    rw [this]; omega
theorem wsum_even (l m : List UInt8) (h : Bool) (e : l.length % 2 = 0) : wsum h (l ++ m) = wsum h l + wsum h m := by
  rw [wsum_append, if_pos e]
theorem flat_two (a b : ByteArray) : flat [a, b] = a.data.toList ++ b.data.toList := by simp [flat]
theorem flat_three (a b c : ByteArray) : flat [a, b, c] = a.data.toList ++ (b.data.toList ++ c.data.toList) := by simp [flat]
theorem len_even {a : ByteArray} (e : a.size % 2 = 0) : a.data.toList.length % 2 = 0 := by simpa using e
theorem turn_swap (a b : ByteArray) (ea : a.size % 2 = 0) (eb : b.size % 2 = 0) : sumOf [b, a] = sumOf [a, b] := by
  rw [sumOf_eq, sumOf_eq, flat_two, flat_two, wsum_even _ _ _ (len_even ea), wsum_even _ _ _ (len_even eb)]
  congr 2; omega
theorem turn_zero (a b : ByteArray) (ea : a.size % 2 = 0) (eb : b.size % 2 = 0) : sumOf [a, b, ⟨#[0]⟩] = sumOf [a, b] := by
  rw [sumOf_eq, sumOf_eq, flat_two, flat_three, wsum_even _ _ _ (len_even ea), wsum_even _ _ _ (len_even ea), wsum_even _ _ _ (len_even eb)]
  congr 2; simp [wsum]
theorem turn_front (a b : ByteArray) : sumOf [⟨#[0, 0]⟩, a, b] = sumOf [a, b] := by
  rw [sumOf_eq, sumOf_eq, flat_two, flat_three, wsum_even _ _ _ rfl]
  congr 2; simp [wsum]
end Go.Proofs.Ytodhhnljeojpaaa
