/- The example of the document that each law on check sums runs. -/
import Derived.Test.YtbcebihjehneaaaSum
set_option linter.unusedVariables false
set_option linter.unusedSimpArgs false
namespace Go.Proofs.Ytbcebihjehneaaa
open Go.RowKit

set_option maxHeartbeats 400000 in
theorem awake02_any (w : World) : Calls Try.prog 12 #[] w fun e w' => e = .returned (.bool true) ∧ Mod [] w w' := by
  go_enter Try.func12, Try.ntmps12
  go_wp2_with fail
  refine (Of_any _ [⟨#[0, 1, 242, 3, 244, 245, 246, 247]⟩] _ (Row.new _ _ _ _ 1 _ (by simp) (by decide)) (by decide)).mono ?_
  rintro e w1 ⟨rfl, hm⟩
  rw [show sumOf [⟨#[0, 1, 242, 3, 244, 245, 246, 247]⟩] = 8717 from by decide +kernel]
  go_wp2_with fail
  go_ret
  exact ⟨rfl, by (repeat' (first | (with_reducible exact Mod.refl _ _) | (with_reducible assumption) | (with_reducible refine Mod.drew ?_) | (with_reducible refine Mod.drewN ?_ _) | (with_reducible refine Mod.alloc ?_ _) | (with_reducible refine Mod.setCell_ ?_ ?_; focus (first | (intro hlt_; simp; done) | (intro hlt_; exfalso; simp at hlt_; done) | (intro hlt_; exfalso; simp at hlt_; omega) | (intro hlt_; exfalso; omega) | (intro hlt_; simp at hlt_ ⊢; omega))) | (with_reducible refine Mod.trans_ ‹Mod _ _ _› ?_ ?_; focus (first | (intro x_ hx_ hl_; simp at hx_; done) | (intro x_ hx_ hl_; simp at hx_ ⊢; omega) | (intro x_ hx_ hl_; simp at hx_ hl_ ⊢; omega) | (intro x_ hx_ hl_; simp_all; done) | (intro x_ hx_ hl_; simp_all; omega)))))⟩

end Go.Proofs.Ytbcebihjehneaaa
