/- SumTurns: of texts of even lengths the check sum is the same in any order, and a 0 more behind an even one is nothing. For every input. -/
import Derived.Test.YtbcebihjehneaaaSumLaw
import Derived.ProofKit
import Derived.OpenShut
import Derived.ShutString
import Derived.ChangeOld
import Derived.SizedLaws
set_option linter.unusedVariables false
set_option linter.unusedSimpArgs false
namespace Go.Proofs.Ytbcebihjehneaaa
open Go.RowKit

set_option maxHeartbeats 400000 in
theorem awake02_any (w : World) : Calls Try.prog 12 #[] w fun e w' => e = .returned (.bool true) ∧ Mod [] w w' := by
  go_enter Try.func12, Try.ntmps12
  go_wp2_with fail
  refine (Of_any _ [⟨#[0, 1, 242, 3, 244, 245, 246, 247]⟩] _ (Row.new _ _ _ _ 1 _ (by simp) (by decide)) (by decide)).mono ?_
  rintro e w1 ⟨rfl, hm⟩
  rw [show sumOf [⟨#[0, 1, 242, 3, 244, 245, 246, 247]⟩] = 8717 from by decide +kernel]
  go_wp2_with fail
  go_ret
  exact ⟨rfl, by (repeat' (first | (with_reducible exact Mod.refl _ _) | (with_reducible assumption) | (with_reducible refine Mod.drew ?_) | (with_reducible refine Mod.drewN ?_ _) | (with_reducible refine Mod.alloc ?_ _) | (with_reducible refine Mod.setCell_ ?_ ?_; focus (first | (intro hlt_; simp; done) | (intro hlt_; exfalso; simp at hlt_; done) | (intro hlt_; exfalso; simp at hlt_; omega) | (intro hlt_; exfalso; omega) | (intro hlt_; simp at hlt_ ⊢; omega))) | (with_reducible refine Mod.trans_ ‹Mod _ _ _› ?_ ?_; focus (first | (intro x_ hx_ hl_; simp at hx_; done) | (intro x_ hx_ hl_; simp at hx_ ⊢; omega) | (intro x_ hx_ hl_; simp at hx_ hl_ ⊢; omega) | (intro x_ hx_ hl_; simp_all; done) | (intro x_ hx_ hl_; simp_all; omega)))))⟩

set_option maxHeartbeats 1000000 in
theorem turns_any (a b : ByteArray) (w : World) (ha : a.size ≤ 140737488351232) (hb : b.size ≤ 140737488351232) :
    Calls Try.prog 3 #[.string a, .string b] w fun e w' => e = .returned (.bool true) ∧ Mod [] w w' := by
  by_cases h1 : 3000 < a.size
  · go_enter Try.func3, Try.ntmps3
    go_wp2_with (go_at_call 12; refine (awake02_any _).mono ?_; rintro e w1 ⟨rfl, hm⟩)
    go_ret
    exact ⟨rfl, hm⟩
  by_cases h2 : 3000 < b.size
  · go_enter Try.func3, Try.ntmps3
    go_wp2_with (go_at_call 12; refine (awake02_any _).mono ?_; rintro e w1 ⟨rfl, hm⟩)
    go_ret
    exact ⟨rfl, hm⟩
  have pa : a.size % 2 = 0 ∨ a.size % 2 = 1 := by omega
  have pb : b.size % 2 = 0 ∨ b.size % 2 = 1 := by omega
  rcases pa with pa | pa <;> rcases pb with pb | pb
  · go_enter Try.func3, Try.ntmps3
    go_wp2_with fail
    have fa : a.size % 2 = 0 := pa
    have ga : a.size ≤ 9223372036854775807 := by omega
    generalize a = a1 at fa ga ⊢
    have fb : b.size % 2 = 0 := pb
    have gb : b.size ≤ 9223372036854775807 := by omega
    generalize b = b1 at fb gb ⊢
    have t1 := Lib.hid (turn_swap a1 b1 fa fb)
    have t2 := Lib.hid (turn_zero a1 b1 fa fb)
    have t3 := Lib.hid (turn_front a1 b1)
    refine (Of_any _ [a1, b1] _ (Row.new _ _ _ _ 2 _ (by simp) (by decide)) (by simp; omega)).mono ?_
    rintro e w1 ⟨rfl, hm1⟩
    go_wp2_with fail
    refine (Of_any _ [b1, a1] _ (Row.new _ _ _ _ 2 _ (by simp) (by decide)) (by simp; omega)).mono ?_
    rintro e w2 ⟨rfl, hm2⟩
    rw [t1.out]
    go_wp2_with fail
    refine (Of_any _ [a1, b1, ⟨#[0]⟩] _ (Row.new _ _ _ _ 3 _ (by simp) (by decide)) (by simp; refine ⟨by omega, by omega, by decide⟩)).mono ?_
    rintro e w3 ⟨rfl, hm3⟩
    rw [t2.out]
    go_wp2_with fail
    refine (Of_any _ [a1, b1] _ (Row.new _ _ _ _ 2 _ (by simp) (by decide)) (by simp; omega)).mono ?_
    rintro e w4 ⟨rfl, hm4⟩
    go_wp2_with fail
    refine (Of_any _ [⟨#[0, 0]⟩, a1, b1] _ (Row.new _ _ _ _ 3 _ (by simp) (by decide)) (by simp; refine ⟨by decide, by omega, by omega⟩)).mono ?_
    rintro e w5 ⟨rfl, hm5⟩
    rw [t3.out]
    go_wp2_with fail
    refine (Of_any _ [a1, b1] _ (Row.new _ _ _ _ 2 _ (by simp) (by decide)) (by simp; omega)).mono ?_
    rintro e w6 ⟨rfl, hm6⟩
    go_wp2_with (go_at_call 12; refine (awake02_any _).mono ?_; rintro e w7 ⟨rfl, hm7⟩)
    go_ret
    exact ⟨rfl, by (repeat' (first | (with_reducible exact Mod.refl _ _) | (with_reducible assumption) | (with_reducible refine Mod.drew ?_) | (with_reducible refine Mod.drewN ?_ _) | (with_reducible refine Mod.alloc ?_ _) | (with_reducible refine Mod.setCell_ ?_ ?_; focus (first | (intro hlt_; simp; done) | (intro hlt_; exfalso; simp at hlt_; done) | (intro hlt_; exfalso; simp at hlt_; omega) | (intro hlt_; exfalso; omega) | (intro hlt_; simp at hlt_ ⊢; omega))) | (with_reducible refine Mod.trans_ ‹Mod _ _ _› ?_ ?_; focus (first | (intro x_ hx_ hl_; simp at hx_; done) | (intro x_ hx_ hl_; simp at hx_ ⊢; omega) | (intro x_ hx_ hl_; simp at hx_ hl_ ⊢; omega) | (intro x_ hx_ hl_; simp_all; done) | (intro x_ hx_ hl_; simp_all; omega)))))⟩
  · go_enter Try.func3, Try.ntmps3
    go_wp2_with fail
    have fa : a.size % 2 = 0 := pa
    have ga : a.size ≤ 9223372036854775807 := by omega
    generalize a = a1 at fa ga ⊢
    have fb : (b.extract 1 b.size).size % 2 = 0 := by rw [ByteArray.size_extract]; omega
    have gb : (b.extract 1 b.size).size ≤ 9223372036854775807 := by rw [ByteArray.size_extract]; omega
    generalize b.extract 1 b.size = b1 at fb gb ⊢
    have t1 := Lib.hid (turn_swap a1 b1 fa fb)
    have t2 := Lib.hid (turn_zero a1 b1 fa fb)
    have t3 := Lib.hid (turn_front a1 b1)
    refine (Of_any _ [a1, b1] _ (Row.new _ _ _ _ 2 _ (by simp) (by decide)) (by simp; omega)).mono ?_
    rintro e w1 ⟨rfl, hm1⟩
    go_wp2_with fail
    refine (Of_any _ [b1, a1] _ (Row.new _ _ _ _ 2 _ (by simp) (by decide)) (by simp; omega)).mono ?_
    rintro e w2 ⟨rfl, hm2⟩
    rw [t1.out]
    go_wp2_with fail
    refine (Of_any _ [a1, b1, ⟨#[0]⟩] _ (Row.new _ _ _ _ 3 _ (by simp) (by decide)) (by simp; refine ⟨by omega, by omega, by decide⟩)).mono ?_
    rintro e w3 ⟨rfl, hm3⟩
    rw [t2.out]
    go_wp2_with fail
    refine (Of_any _ [a1, b1] _ (Row.new _ _ _ _ 2 _ (by simp) (by decide)) (by simp; omega)).mono ?_
    rintro e w4 ⟨rfl, hm4⟩
    go_wp2_with fail
    refine (Of_any _ [⟨#[0, 0]⟩, a1, b1] _ (Row.new _ _ _ _ 3 _ (by simp) (by decide)) (by simp; refine ⟨by decide, by omega, by omega⟩)).mono ?_
    rintro e w5 ⟨rfl, hm5⟩
    rw [t3.out]
    go_wp2_with fail
    refine (Of_any _ [a1, b1] _ (Row.new _ _ _ _ 2 _ (by simp) (by decide)) (by simp; omega)).mono ?_
    rintro e w6 ⟨rfl, hm6⟩
    go_wp2_with (go_at_call 12; refine (awake02_any _).mono ?_; rintro e w7 ⟨rfl, hm7⟩)
    go_ret
    exact ⟨rfl, by (repeat' (first | (with_reducible exact Mod.refl _ _) | (with_reducible assumption) | (with_reducible refine Mod.drew ?_) | (with_reducible refine Mod.drewN ?_ _) | (with_reducible refine Mod.alloc ?_ _) | (with_reducible refine Mod.setCell_ ?_ ?_; focus (first | (intro hlt_; simp; done) | (intro hlt_; exfalso; simp at hlt_; done) | (intro hlt_; exfalso; simp at hlt_; omega) | (intro hlt_; exfalso; omega) | (intro hlt_; simp at hlt_ ⊢; omega))) | (with_reducible refine Mod.trans_ ‹Mod _ _ _› ?_ ?_; focus (first | (intro x_ hx_ hl_; simp at hx_; done) | (intro x_ hx_ hl_; simp at hx_ ⊢; omega) | (intro x_ hx_ hl_; simp at hx_ hl_ ⊢; omega) | (intro x_ hx_ hl_; simp_all; done) | (intro x_ hx_ hl_; simp_all; omega)))))⟩
  · go_enter Try.func3, Try.ntmps3
    go_wp2_with fail
    have fa : (a ++ (⟨#[0]⟩ : ByteArray)).size % 2 = 0 := by rw [ByteArray.size_append]; show (a.size + 1) % 2 = 0; omega
    have ga : (a ++ (⟨#[0]⟩ : ByteArray)).size ≤ 9223372036854775807 := by rw [ByteArray.size_append]; show a.size + 1 ≤ _; omega
    generalize a ++ (⟨#[0]⟩ : ByteArray) = a1 at fa ga ⊢
    have fb : b.size % 2 = 0 := pb
    have gb : b.size ≤ 9223372036854775807 := by omega
    generalize b = b1 at fb gb ⊢
    have t1 := Lib.hid (turn_swap a1 b1 fa fb)
    have t2 := Lib.hid (turn_zero a1 b1 fa fb)
    have t3 := Lib.hid (turn_front a1 b1)
    refine (Of_any _ [a1, b1] _ (Row.new _ _ _ _ 2 _ (by simp) (by decide)) (by simp; omega)).mono ?_
    rintro e w1 ⟨rfl, hm1⟩
    go_wp2_with fail
    refine (Of_any _ [b1, a1] _ (Row.new _ _ _ _ 2 _ (by simp) (by decide)) (by simp; omega)).mono ?_
    rintro e w2 ⟨rfl, hm2⟩
    rw [t1.out]
    go_wp2_with fail
    refine (Of_any _ [a1, b1, ⟨#[0]⟩] _ (Row.new _ _ _ _ 3 _ (by simp) (by decide)) (by simp; refine ⟨by omega, by omega, by decide⟩)).mono ?_
    rintro e w3 ⟨rfl, hm3⟩
    rw [t2.out]
    go_wp2_with fail
    refine (Of_any _ [a1, b1] _ (Row.new _ _ _ _ 2 _ (by simp) (by decide)) (by simp; omega)).mono ?_
    rintro e w4 ⟨rfl, hm4⟩
    go_wp2_with fail
    refine (Of_any _ [⟨#[0, 0]⟩, a1, b1] _ (Row.new _ _ _ _ 3 _ (by simp) (by decide)) (by simp; refine ⟨by decide, by omega, by omega⟩)).mono ?_
    rintro e w5 ⟨rfl, hm5⟩
    rw [t3.out]
    go_wp2_with fail
    refine (Of_any _ [a1, b1] _ (Row.new _ _ _ _ 2 _ (by simp) (by decide)) (by simp; omega)).mono ?_
    rintro e w6 ⟨rfl, hm6⟩
    go_wp2_with (go_at_call 12; refine (awake02_any _).mono ?_; rintro e w7 ⟨rfl, hm7⟩)
    go_ret
    exact ⟨rfl, by (repeat' (first | (with_reducible exact Mod.refl _ _) | (with_reducible assumption) | (with_reducible refine Mod.drew ?_) | (with_reducible refine Mod.drewN ?_ _) | (with_reducible refine Mod.alloc ?_ _) | (with_reducible refine Mod.setCell_ ?_ ?_; focus (first | (intro hlt_; simp; done) | (intro hlt_; exfalso; simp at hlt_; done) | (intro hlt_; exfalso; simp at hlt_; omega) | (intro hlt_; exfalso; omega) | (intro hlt_; simp at hlt_ ⊢; omega))) | (with_reducible refine Mod.trans_ ‹Mod _ _ _› ?_ ?_; focus (first | (intro x_ hx_ hl_; simp at hx_; done) | (intro x_ hx_ hl_; simp at hx_ ⊢; omega) | (intro x_ hx_ hl_; simp at hx_ hl_ ⊢; omega) | (intro x_ hx_ hl_; simp_all; done) | (intro x_ hx_ hl_; simp_all; omega)))))⟩
  · go_enter Try.func3, Try.ntmps3
    go_wp2_with fail
    have fa : (a ++ (⟨#[0]⟩ : ByteArray)).size % 2 = 0 := by rw [ByteArray.size_append]; show (a.size + 1) % 2 = 0; omega
    have ga : (a ++ (⟨#[0]⟩ : ByteArray)).size ≤ 9223372036854775807 := by rw [ByteArray.size_append]; show a.size + 1 ≤ _; omega
    generalize a ++ (⟨#[0]⟩ : ByteArray) = a1 at fa ga ⊢
    have fb : (b.extract 1 b.size).size % 2 = 0 := by rw [ByteArray.size_extract]; omega
    have gb : (b.extract 1 b.size).size ≤ 9223372036854775807 := by rw [ByteArray.size_extract]; omega
    generalize b.extract 1 b.size = b1 at fb gb ⊢
    have t1 := Lib.hid (turn_swap a1 b1 fa fb)
    have t2 := Lib.hid (turn_zero a1 b1 fa fb)
    have t3 := Lib.hid (turn_front a1 b1)
    refine (Of_any _ [a1, b1] _ (Row.new _ _ _ _ 2 _ (by simp) (by decide)) (by simp; omega)).mono ?_
    rintro e w1 ⟨rfl, hm1⟩
    go_wp2_with fail
    refine (Of_any _ [b1, a1] _ (Row.new _ _ _ _ 2 _ (by simp) (by decide)) (by simp; omega)).mono ?_
    rintro e w2 ⟨rfl, hm2⟩
    rw [t1.out]
    go_wp2_with fail
    refine (Of_any _ [a1, b1, ⟨#[0]⟩] _ (Row.new _ _ _ _ 3 _ (by simp) (by decide)) (by simp; refine ⟨by omega, by omega, by decide⟩)).mono ?_
    rintro e w3 ⟨rfl, hm3⟩
    rw [t2.out]
    go_wp2_with fail
    refine (Of_any _ [a1, b1] _ (Row.new _ _ _ _ 2 _ (by simp) (by decide)) (by simp; omega)).mono ?_
    rintro e w4 ⟨rfl, hm4⟩
    go_wp2_with fail
    refine (Of_any _ [⟨#[0, 0]⟩, a1, b1] _ (Row.new _ _ _ _ 3 _ (by simp) (by decide)) (by simp; refine ⟨by decide, by omega, by omega⟩)).mono ?_
    rintro e w5 ⟨rfl, hm5⟩
    rw [t3.out]
    go_wp2_with fail
    refine (Of_any _ [a1, b1] _ (Row.new _ _ _ _ 2 _ (by simp) (by decide)) (by simp; omega)).mono ?_
    rintro e w6 ⟨rfl, hm6⟩
    go_wp2_with (go_at_call 12; refine (awake02_any _).mono ?_; rintro e w7 ⟨rfl, hm7⟩)
    go_ret
    exact ⟨rfl, by (repeat' (first | (with_reducible exact Mod.refl _ _) | (with_reducible assumption) | (with_reducible refine Mod.drew ?_) | (with_reducible refine Mod.drewN ?_ _) | (with_reducible refine Mod.alloc ?_ _) | (with_reducible refine Mod.setCell_ ?_ ?_; focus (first | (intro hlt_; simp; done) | (intro hlt_; exfalso; simp at hlt_; done) | (intro hlt_; exfalso; simp at hlt_; omega) | (intro hlt_; exfalso; omega) | (intro hlt_; simp at hlt_ ⊢; omega))) | (with_reducible refine Mod.trans_ ‹Mod _ _ _› ?_ ?_; focus (first | (intro x_ hx_ hl_; simp at hx_; done) | (intro x_ hx_ hl_; simp at hx_ ⊢; omega) | (intro x_ hx_ hl_; simp at hx_ hl_ ⊢; omega) | (intro x_ hx_ hl_; simp_all; done) | (intro x_ hx_ hl_; simp_all; omega)))))⟩
namespace sumTurns
open Go.ChangeShapes Go.WideShapes Go.ChangeAt Go.RowKit
open Go.ChangeMaps (open_string shut_string)
theorem own : ownKnob Try.prog.godebug = none := by kernel_rfl
theorem laidOut : laidOutB Try.prog = true := by kernel_rfl
set_option maxRecDepth 100000 in
theorem lifted (os : Os) (started : os.Started) (H : Type) (enc : TypeId × Value → H) :
    ReturnsInHanded {} Try.checked os 3 .any (Rows.sumTurnsSpec.pre6 enc Try.prog Try.f3 Rows.sumTurnsRow.domain false) (Rows.sumTurnsSpec.post enc Try.prog Try.f3 false true false false) := by
  refine returnsInHanded_of_change_sized (C := Try.checked) own started (by kernel_rfl) Try.func3
    (ChangeSpec.witness6 (enc := enc) (C := Try.checked) false ⟨#[], #[.string ByteArray.empty, .string ByteArray.empty], []⟩ 8 (by kernel_rfl) (by kernel_rfl) (by kernel_rfl) (by kernel_rfl)) ?_
  intro W base args ds gs before hval0 hW hcnd hsz0 _
  have hsz : (DataW.weightsEach Try.prog (Try.f3.params.toList ++ Rows.sumTurnsSpec.plain.varTypes Try.prog) (ds ++ gs)).all (· ≤ reachBytes) = true := hsz0
  have hval : ∀ (j : Nat) t v, Try.f3.params[j]? = some t → args[j]? = some v → Value.okWide Try.prog W .any base t v := hval0
  have hW' := hW
  obtain ⟨p, q, hA0, hV, rfl, hfz, hnd⟩ := hW
  have hA : DataW.TrodAll enc Try.prog W 0 (fun _ => true) true Try.f3.params.toList args.toList ds p := hA0
  rw [Try.params3] at hA hval hsz
  obtain ⟨v0, vs0, d0, ds0, p0, q0, hargs, rfl, rfl, h0, r0⟩ := trodAll_cons hA
  obtain ⟨v1, vs1, d1, ds1, p1, q1, rfl, rfl, rfl, h1, r1⟩ := trodAll_cons r0
  obtain ⟨rfl, rfl, rfl⟩ := trodAll_nil r1
  obtain rfl : args = #[v0, v1] := by cases args; simp_all
  obtain ⟨rfl, rfl⟩ := trodVars_none hV
  obtain ⟨a0, rfl, rfl, rfl, y0⟩ := open_string Try.underlying9 (hval 0 9 v0 rfl rfl) h0
  have w0 : a0.size ≤ 140737488351232 := by
    have z := sized_string hsz (j := 0) (t := 9) rfl rfl
    rw [Array.length_toList] at z
    exact z
  obtain ⟨a1, rfl, rfl, rfl, y1⟩ := open_string Try.underlying9 (hval 1 9 v1 rfl rfl) h1
  have w1 : a1.size ≤ 140737488351232 := by
    have z := sized_string hsz (j := 1) (t := 9) rfl rfl
    rw [Array.length_toList] at z
    exact z
  clear hA0 hval0 hsz0
  refine (turns_any a0 a1 W w0 w1).mono fun e W' ⟨he, mod⟩ => ?_
  have bel : Below W.heap.size W W' := mod.below (Nat.le_refl _) (by simp)
  subst he
  exact ⟨_, rfl, _, _, _, [], _, [], hW', trodAll_mk1 (shut_bool Try.underlying4 _), (trodAll_cons_mk (shut_string Try.underlying9 y0) (trodAll_cons_mk (shut_string Try.underlying9 y1) trodAll_mk0)), rfl, bel.frame _, fun h => by cases h⟩
theorem over : Rows.sumTurnsRow.holds Try.pinned (OpenSpec.ofChange Rows.sumTurnsSpec) :=
  OpenClaim.holds_of_wide 3 Try.f3 rfl rfl rfl rfl rfl rfl rfl ⟨rfl, rfl, rfl, rfl, rfl⟩ rfl rfl rfl rfl rfl (by kernel_rfl) Try.func3 (by kernel_rfl)
    (of_decide_eq_true (by kernel_rfl)) (by unfold Func.isWrapper; first | (rw [if_pos (by decide +kernel)]; kernel_rfl) | (rw [if_neg (by decide +kernel)]; exact ⟨rfl, rfl⟩))
    (fun os started H enc _ => lifted os started H enc)
theorem proved : Rows.SumTurnsSaid := over
#print axioms proved
end sumTurns
/-- The row, under a short name, for the claim. -/
theorem sumTurns_holds : Rows.SumTurnsSaid := sumTurns.proved
end Go.Proofs.Ytbcebihjehneaaa
