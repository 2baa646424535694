/- The example of the document that each law on cursors runs. -/
import Derived.Test.YtbcebihjehneaaaReader
set_option linter.unusedVariables false
set_option linter.unusedSimpArgs false
namespace Go.Proofs.Ytbcebihjehneaaa
open Go.RowKit

set_option maxHeartbeats 1000000 in
theorem awake01_any (w : World) : Calls Try.prog 18 #[] w fun e w' => e = .returned (.bool true) ∧ Mod [] w w' := by
  go_enter Try.func18, Try.ntmps18
  go_wp2_with fail
  have h0 : Wr w.heap.size ((w.alloc (.cells #[.bool false, .pointer none, .slice none 0 0] 39)).alloc (.cells #[.int .i64 1] 3)) w.heap.size false [] :=
    (Wr.new (w := w.alloc (.cells #[.bool false, .pointer none, .slice none 0 0] 39)) (by (repeat' (first | (with_reducible assumption) | (with_reducible rfl) | (with_reducible apply Blk.drew) | (with_reducible apply Blk.drewN) | (with_reducible refine Blk.new_ _ _ ?_; focus (first | assumption | (simp; omega) | (simp; done) | omega | (simp at *; omega))) | (with_reducible apply Blk.alloc) | (with_reducible apply Blk.other_; focus (first | assumption | (simp; omega) | (simp; done) | omega | (simp at *; omega))) | (with_reducible apply Blk.set_) | (with_reducible apply Blk.mod_ ‹Mod _ _ _›; focus (first | assumption | (simp; omega) | (simp; done) | omega | (simp at *; omega))) | (simp; done)))) (Nat.le_refl _)).mod0 ((Mod.refl [] _).alloc _)
  refine (wByte_any (b := w.heap.size + 1) (false, []) [1] _ h0 (show Blk _ _ [Value.int .i64 1] _ from by (repeat' (first | (with_reducible assumption) | (with_reducible rfl) | (with_reducible apply Blk.drew) | (with_reducible apply Blk.drewN) | (with_reducible refine Blk.new_ _ _ ?_; focus (first | assumption | (simp; omega) | (simp; done) | omega | (simp at *; omega))) | (with_reducible apply Blk.alloc) | (with_reducible apply Blk.other_; focus (first | assumption | (simp; omega) | (simp; done) | omega | (simp at *; omega))) | (with_reducible apply Blk.set_) | (with_reducible apply Blk.mod_ ‹Mod _ _ _›; focus (first | assumption | (simp; omega) | (simp; done) | omega | (simp at *; omega))) | (simp; done)))) (by decide) _ rfl (by decide)).mono ?_
  rintro e w1 ⟨rfl, h1, hm1⟩
  rw [show putAll 1 255 (false, []) [1] = (false, [1]) from by decide +kernel] at h1
  go_wp2_with fail
  refine (wShort_any (b := w1.heap.size) (false, [1]) [258] _ (h1.mod0 ((Mod.refl [] _).alloc _)) (show Blk _ _ [Value.int .i64 258] _ from by (repeat' (first | (with_reducible assumption) | (with_reducible rfl) | (with_reducible apply Blk.drew) | (with_reducible apply Blk.drewN) | (with_reducible refine Blk.new_ _ _ ?_; focus (first | assumption | (simp; omega) | (simp; done) | omega | (simp at *; omega))) | (with_reducible apply Blk.alloc) | (with_reducible apply Blk.other_; focus (first | assumption | (simp; omega) | (simp; done) | omega | (simp at *; omega))) | (with_reducible apply Blk.set_) | (with_reducible apply Blk.mod_ ‹Mod _ _ _›; focus (first | assumption | (simp; omega) | (simp; done) | omega | (simp at *; omega))) | (simp; done)))) (by decide) _ rfl (by decide)).mono ?_
  rintro e w2 ⟨rfl, h2, hm2⟩
  rw [show putAll 2 65535 (false, [1]) [258] = (false, [1, 1, 2]) from by decide +kernel] at h2
  go_wp2_with fail
  refine (wDone_any (false, [1, 1, 2]) _ h2).mono ?_
  rintro e w3 ⟨rfl, h3, hm3⟩
  rw [show doneOf (false, [1, 1, 2]) = (⟨#[1, 1, 2]⟩, 0) from rfl]
  go_wp2_with fail
  go_ret
  refine ⟨rfl, ?_⟩
  exact Mod.wtrans hm3 (Mod.wtrans hm2 (Mod.alloc (Mod.wtrans hm1 (Mod.alloc (Mod.alloc (Mod.refl _ _) _) _)) _))
end Go.Proofs.Ytbcebihjehneaaa
