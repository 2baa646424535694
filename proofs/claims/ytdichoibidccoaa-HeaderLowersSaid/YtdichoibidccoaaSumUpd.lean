/- Package sum: Update. -/
import Derived.Test.YtdichoibidccoaaSumRef
set_option linter.unusedVariables false
set_option linter.unusedSimpArgs false
set_option maxRecDepth 100000
namespace Go.Proofs.Ytdichoibidccoaa
open Go.RowKit
set_option maxHeartbeats 400000 in
theorem short_yes (n : Int) (h0 : 0 ≤ n) (h1 : n ≤ 65535) (w : World) : Calls Try.prog 91 #[.int .i64 n] w fun e w' => e = .returned (.bool true) ∧ w = w' := by
  go_enter Try.func91, Try.ntmps91
  go_wp2
  go_ret
  exact ⟨by simp [h1], rfl⟩
set_option maxHeartbeats 400000 in
theorem short_no (n : Int) (h : n < 0 ∨ 65535 < n) (w : World) : Calls Try.prog 91 #[.int .i64 n] w fun e w' => e = .returned (.bool false) ∧ w = w' := by
  by_cases h0 : 0 ≤ n
  · have h1 : 65535 < n := by omega
    clear h
    go_enter Try.func91, Try.ntmps91
    go_wp2
    go_ret
    exact ⟨by simp <;> omega, rfl⟩
  · clear h
    go_enter Try.func91, Try.ntmps91
    go_wp2
    go_ret
    exact ⟨by simp <;> omega, rfl⟩
set_option maxHeartbeats 1000000 in
theorem Update_any (a b c : Int) (ha : 0 ≤ a ∧ a ≤ 65535) (hb : 0 ≤ b ∧ b ≤ 65535) (hc : 0 ≤ c ∧ c ≤ 65535) (w : World) :
    Calls Try.prog 76 #[.int .i64 a, .int .i64 b, .int .i64 c] w fun e w' => e = .returned (.int .i64 (65535 - foldZ (65535 - a + (65535 - b) + c))) ∧ w = w' := by
  have hr := foldZ_rng (65535 - a + (65535 - b) + c)
  go_enter Try.func76, Try.ntmps76
  go_wp2_with (first | (go_at_call 91; refine (short_yes _ (by omega) (by omega) _).mono ?_; rintro e w1 ⟨rfl, rfl⟩) | (go_at_call 92; refine (fold_any _ _ (by omega) (by omega)).mono ?_; rintro e w1 ⟨rfl, rfl⟩))
  go_ret
  exact ⟨rfl, rfl⟩
set_option maxHeartbeats 1000000 in
theorem Update_bad (a b c : Int) (h : ¬ ((0 ≤ a ∧ a ≤ 65535) ∧ (0 ≤ b ∧ b ≤ 65535) ∧ (0 ≤ c ∧ c ≤ 65535))) (w : World) :
    Calls Try.prog 76 #[.int .i64 a, .int .i64 b, .int .i64 c] w fun e w' => e = .returned (.int .i64 0) ∧ w = w' := by
  by_cases ha : 0 ≤ a ∧ a ≤ 65535
  · by_cases hb : 0 ≤ b ∧ b ≤ 65535
    · have hc : c < 0 ∨ 65535 < c := by omega
      clear h
      go_enter Try.func76, Try.ntmps76
      go_wp2_with fail
      refine (short_yes a (by omega) (by omega) _).mono ?_
      rintro e w1 ⟨rfl, rfl⟩
      go_wp2_with fail
      refine (short_yes b (by omega) (by omega) _).mono ?_
      rintro e w1 ⟨rfl, rfl⟩
      go_wp2_with fail
      refine (short_no c hc _).mono ?_
      rintro e w1 ⟨rfl, rfl⟩
      go_wp2_with fail
      go_ret
      exact ⟨rfl, rfl⟩
    · have hb : b < 0 ∨ 65535 < b := by omega
      clear h
      go_enter Try.func76, Try.ntmps76
      go_wp2_with fail
      refine (short_yes a (by omega) (by omega) _).mono ?_
      rintro e w1 ⟨rfl, rfl⟩
      go_wp2_with fail
      refine (short_no b hb _).mono ?_
      rintro e w1 ⟨rfl, rfl⟩
      go_wp2_with fail
      go_ret
      exact ⟨rfl, rfl⟩
  · have ha : a < 0 ∨ 65535 < a := by omega
    clear h
    go_enter Try.func76, Try.ntmps76
    go_wp2_with fail
    refine (short_no a ha _).mono ?_
    rintro e w1 ⟨rfl, rfl⟩
    go_wp2_with fail
    go_ret
    exact ⟨rfl, rfl⟩
end Go.Proofs.Ytdichoibidccoaa
