/- SumOf: the check sum of any texts, one behind the other; whether they are good; what stands ahead of a segment. For every input. -/
import Derived.Test.YtbcebihjehneaaaSumPseudo
import Derived.Test.YtbcebihjehneaaaAwake02
import Derived.ProofKit
import Derived.OpenShut
import Derived.ShutString
import Derived.ChangeOld
import Derived.SizedLaws
set_option linter.unusedVariables false
set_option linter.unusedSimpArgs false
namespace Go.Proofs.Ytbcebihjehneaaa
open Go.RowKit

theorem of_joined (a b : ByteArray) : 65535 - foldZ (wsum true (a ++ b).data.toList) = sumOf [a, b] := by
  rw [sumOf_eq, flat_two, ByteArray.data_append, Array.toList_append]
theorem sumOf_nil : sumOf [] = 65535 := rfl
set_option maxRecDepth 100000 in
set_option maxHeartbeats 4000000 in
theorem of_any_law (a b : ByteArray) (src dst proto size : Int) (w : World) (ha : a.size ≤ 140737488351232) (hb : b.size ≤ 140737488351232) (hs : 0 ≤ src ∧ src ≤ 4294967295) (hd : 0 ≤ dst ∧ dst ≤ 4294967295) :
    Calls Try.prog 8 #[.string a, .string b, .int .u32 src, .int .u32 dst, .int .i64 proto, .int .i64 size] w fun e w' => e = .returned (.bool true) ∧ Mod [] w w' := by
  by_cases h1 : 3000 < a.size
  · go_enter Try.func8, Try.ntmps8
    go_wp2_with (go_at_call 12; refine (awake02_any _).mono ?_; rintro e w1 ⟨rfl, hm⟩)
    go_ret
    exact ⟨rfl, hm⟩
  by_cases h2 : 3000 < b.size
  · go_enter Try.func8, Try.ntmps8
    go_wp2_with (go_at_call 12; refine (awake02_any _).mono ?_; rintro e w1 ⟨rfl, hm⟩)
    go_ret
    exact ⟨rfl, hm⟩
  have hj := Lib.hid (of_joined a b)
  go_enter Try.func8, Try.ntmps8
  go_wp2_with fail
  refine (refOf_any (a ++ b) (by rw [ByteArray.size_append]; omega) _).mono ?_
  rintro e w1 ⟨rfl, rfl⟩
  rw [hj.out]
  go_wp2_with fail
  refine (Of_any _ [a, b] _ (Row.new _ _ _ _ 2 _ (by simp) (by decide)) (by simp; omega)).mono ?_
  rintro e w1 ⟨rfl, hm1⟩
  go_wp2_with fail
  refine (Good_any _ [a, b] _ (Row.new _ _ _ _ 2 _ (by simp) (by decide)) (by simp; omega)).mono ?_
  rintro e w2 ⟨rfl, hm2⟩
  obtain ⟨g, hg⟩ : ∃ g, g = (sumOf [a, b] == 0) := ⟨_, rfl⟩
  go_wp2_with fail
  refine (Of_any _ [] _ (Row.nil _) (by simp)).mono ?_
  rintro e w3 ⟨rfl, hm3⟩
  rw [sumOf_nil]
  go_wp2_with fail
  refine (Pseudo_any src dst proto size hs hd _).mono ?_
  rintro e w4 ⟨rfl, hm4⟩
  go_wp2_with fail
  refine (rPseudo_any src dst proto size hs hd _).mono ?_
  rintro e w5 ⟨rfl, hm5⟩
  go_wp2_with (go_at_call 12; refine (awake02_any _).mono ?_; rintro e w7 ⟨rfl, hm7⟩)
  go_ret
  exact ⟨rfl, by (repeat' (first | (with_reducible exact Mod.refl _ _) | (with_reducible assumption) | (with_reducible refine Mod.drew ?_) | (with_reducible refine Mod.drewN ?_ _) | (with_reducible refine Mod.alloc ?_ _) | (with_reducible refine Mod.setCell_ ?_ ?_; focus (first | (intro hlt_; simp; done) | (intro hlt_; exfalso; simp at hlt_; done) | (intro hlt_; exfalso; simp at hlt_; omega) | (intro hlt_; exfalso; omega) | (intro hlt_; simp at hlt_ ⊢; omega))) | (with_reducible refine Mod.trans_ ‹Mod _ _ _› ?_ ?_; focus (first | (intro x_ hx_ hl_; simp at hx_; done) | (intro x_ hx_ hl_; simp at hx_ ⊢; omega) | (intro x_ hx_ hl_; simp at hx_ hl_ ⊢; omega) | (intro x_ hx_ hl_; simp_all; done) | (intro x_ hx_ hl_; simp_all; omega)))))⟩
namespace sumOf
open Go.ChangeShapes Go.WideShapes Go.ChangeAt Go.RowKit
open Go.ChangeMaps (open_string shut_string)
theorem own : ownKnob Try.prog.godebug = none := by kernel_rfl
theorem laidOut : laidOutB Try.prog = true := by kernel_rfl
set_option maxRecDepth 100000 in
theorem lifted (os : Os) (started : os.Started) (H : Type) (enc : TypeId × Value → H) :
    ReturnsInHanded {} Try.checked os 8 .any (Rows.sumOfSpec.pre6 enc Try.prog Try.f8 Rows.sumOfRow.domain false) (Rows.sumOfSpec.post enc Try.prog Try.f8 false true false false) := by
  refine returnsInHanded_of_change_sized (C := Try.checked) own started (by kernel_rfl) Try.func8
    (ChangeSpec.witness6 (enc := enc) (C := Try.checked) false ⟨#[], #[.string ByteArray.empty, .string ByteArray.empty, .int .u32 0, .int .u32 0, .int .i64 0, .int .i64 0], []⟩ 8 (by kernel_rfl) (by kernel_rfl) (by kernel_rfl) (by kernel_rfl)) ?_
  intro W base args ds gs before hval0 hW hcnd hsz0 _
  have hsz : (DataW.weightsEach Try.prog (Try.f8.params.toList ++ Rows.sumOfSpec.plain.varTypes Try.prog) (ds ++ gs)).all (· ≤ reachBytes) = true := hsz0
  have hval : ∀ (j : Nat) t v, Try.f8.params[j]? = some t → args[j]? = some v → Value.okWide Try.prog W .any base t v := hval0
  have hW' := hW
  obtain ⟨p, q, hA0, hV, rfl, hfz, hnd⟩ := hW
  have hA : DataW.TrodAll enc Try.prog W 0 (fun _ => true) true Try.f8.params.toList args.toList ds p := hA0
  rw [Try.params8] at hA hval hsz
  obtain ⟨v0, vs0, d0, ds0, p0, q0, hargs, rfl, rfl, h0, r0⟩ := trodAll_cons hA
  obtain ⟨v1, vs1, d1, ds1, p1, q1, rfl, rfl, rfl, h1, r1⟩ := trodAll_cons r0
  obtain ⟨v2, vs2, d2, ds2, p2, q2, rfl, rfl, rfl, h2, r2⟩ := trodAll_cons r1
  obtain ⟨v3, vs3, d3, ds3, p3, q3, rfl, rfl, rfl, h3, r3⟩ := trodAll_cons r2
  obtain ⟨v4, vs4, d4, ds4, p4, q4, rfl, rfl, rfl, h4, r4⟩ := trodAll_cons r3
  obtain ⟨v5, vs5, d5, ds5, p5, q5, rfl, rfl, rfl, h5, r5⟩ := trodAll_cons r4
  obtain ⟨rfl, rfl, rfl⟩ := trodAll_nil r5
  obtain rfl : args = #[v0, v1, v2, v3, v4, v5] := by cases args; simp_all
  obtain ⟨rfl, rfl⟩ := trodVars_none hV
  obtain ⟨a0, rfl, rfl, rfl, y0⟩ := open_string Try.underlying9 (hval 0 9 v0 rfl rfl) h0
  have w0 : a0.size ≤ 140737488351232 := by
    have z := sized_string hsz (j := 0) (t := 9) rfl rfl
    rw [Array.length_toList] at z
    exact z
  obtain ⟨a1, rfl, rfl, rfl, y1⟩ := open_string Try.underlying9 (hval 1 9 v1 rfl rfl) h1
  have w1 : a1.size ≤ 140737488351232 := by
    have z := sized_string hsz (j := 1) (t := 9) rfl rfl
    rw [Array.length_toList] at z
    exact z
  obtain ⟨a2, rfl, rfl, rfl, w2⟩ := open_int Try.underlying44 (hval 2 44 v2 rfl rfl) h2
  obtain ⟨a3, rfl, rfl, rfl, w3⟩ := open_int Try.underlying44 (hval 3 44 v3 rfl rfl) h3
  obtain ⟨a4, rfl, rfl, rfl, w4⟩ := open_int Try.underlying3 (hval 4 3 v4 rfl rfl) h4
  obtain ⟨a5, rfl, rfl, rfl, w5⟩ := open_int Try.underlying3 (hval 5 3 v5 rfl rfl) h5
  clear hA0 hval0 hsz0
  refine (of_any_law a0 a1 a2 a3 a4 a5 W w0 w1 (bounds_u32 w2) (bounds_u32 w3)).mono fun e W' ⟨he, mod⟩ => ?_
  have bel : Below W.heap.size W W' := mod.below (Nat.le_refl _) (by simp)
  subst he
  exact ⟨_, rfl, _, _, _, [], _, [], hW', trodAll_mk1 (shut_bool Try.underlying4 _), (trodAll_cons_mk (shut_string Try.underlying9 y0) (trodAll_cons_mk (shut_string Try.underlying9 y1) (trodAll_cons_mk (shut_int Try.underlying44 w2) (trodAll_cons_mk (shut_int Try.underlying44 w3) (trodAll_cons_mk (shut_int Try.underlying3 w4) (trodAll_cons_mk (shut_int Try.underlying3 w5) trodAll_mk0)))))), rfl, bel.frame _, fun h => by cases h⟩
theorem over : Rows.sumOfRow.holds Try.pinned (OpenSpec.ofChange Rows.sumOfSpec) :=
  OpenClaim.holds_of_wide 8 Try.f8 rfl rfl rfl rfl rfl rfl rfl ⟨rfl, rfl, rfl, rfl, rfl⟩ rfl rfl rfl rfl rfl (by kernel_rfl) Try.func8 (by kernel_rfl)
    (of_decide_eq_true (by kernel_rfl)) (by unfold Func.isWrapper; first | (rw [if_pos (by decide +kernel)]; kernel_rfl) | (rw [if_neg (by decide +kernel)]; exact ⟨rfl, rfl⟩))
    (fun os started H enc _ => lifted os started H enc)
theorem proved : Rows.SumOfSaid := over
#print axioms proved
end sumOf
/-- The row, under a short name, for the claim. -/
theorem sumOf_holds : Rows.SumOfSaid := sumOf.proved
end Go.Proofs.Ytbcebihjehneaaa
