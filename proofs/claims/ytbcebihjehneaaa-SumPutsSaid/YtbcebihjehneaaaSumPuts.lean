/- SumPuts: any text with its check sum put anywhere; it is good; elsewhere it can't be put. For every input. -/
import Derived.Test.YtbcebihjehneaaaSumPut
import Derived.Test.YtbcebihjehneaaaAwake02
import Derived.ProofKit
import Derived.OpenShut
import Derived.ShutString
import Derived.ChangeOld
import Derived.SizedLaws
set_option linter.unusedVariables false
set_option linter.unusedSimpArgs false
namespace Go.Proofs.Ytbcebihjehneaaa
open Go.RowKit

theorem putAt_size (s : ByteArray) (m : Nat) (hm : m + 2 ≤ s.size) : (putAt s m).size = s.size := by
  unfold putAt
  rw [ByteArray.size_append, ByteArray.size_append, show (strOfNums [sumAt s m / 256, sumAt s m % 256]).size = 2 from rfl, ByteArray.size_extract, ByteArray.size_extract]
  omega
set_option maxRecDepth 100000 in
set_option maxHeartbeats 4000000 in
theorem puts_any (s : ByteArray) (a : Int) (w : World) (hs : s.size ≤ 140737488351232) (ha : (Lit.int .i64 a).wf = true) :
    Calls Try.prog 10 #[.string s, .int .i64 a] w fun e w' => e = .returned (.bool true) ∧ Mod [] w w' := by
  have hab := bounds_i64 ha
  by_cases h1 : 3000 < s.size
  · go_enter Try.func10, Try.ntmps10
    go_wp2_with (go_at_call 12; refine (awake02_any _).mono ?_; rintro e w1 ⟨rfl, hm⟩)
    go_ret
    exact ⟨rfl, hm⟩
  by_cases hno : a < 0 ∨ a.tmod 2 ≠ 0 ∨ (s.size : Int) - 2 < a
  · have Hno := Lib.hid hno
    by_cases h0 : a < 0
    · clear hno
      go_enter Try.func10, Try.ntmps10
      go_wp2_with fail
      refine (Put_no s a Hno.out hs _).mono ?_
      rintro e w1 ⟨rfl, rfl⟩
      go_wp2_with (go_at_call 12; refine (awake02_any _).mono ?_; rintro e w7 ⟨rfl, hm7⟩)
      go_ret
      exact ⟨rfl, hm7⟩
    by_cases h2 : (s.size : Int) - 2 < a
    · clear hno
      by_cases h3 : a % 2 = 0
      · skip
        go_enter Try.func10, Try.ntmps10
        go_wp2_with fail
        refine (Put_no s a Hno.out hs _).mono ?_
        rintro e w1 ⟨rfl, rfl⟩
        go_wp2_with (go_at_call 12; refine (awake02_any _).mono ?_; rintro e w7 ⟨rfl, hm7⟩)
        go_ret
        exact ⟨rfl, hm7⟩
      · have h4 : a % 2 = 1 := by omega
        have h5 : (a % 2 != 0) = true := by rw [h4]; rfl
        clear h3 h4
        go_enter Try.func10, Try.ntmps10
        go_wp2_with fail
        refine (Put_no s a Hno.out hs _).mono ?_
        rintro e w1 ⟨rfl, rfl⟩
        go_wp2_with (go_at_call 12; refine (awake02_any _).mono ?_; rintro e w7 ⟨rfl, hm7⟩)
        go_ret
        exact ⟨rfl, hm7⟩
    · have h4 : a % 2 = 1 := by
        rcases hno with h | h | h
        · omega
        · rw [Int.tmod_eq_emod_of_nonneg (by omega)] at h; omega
        · omega
      have h5 : (a % 2 != 0) = true := by rw [h4]; rfl
      clear h4 hno
      go_enter Try.func10, Try.ntmps10
      go_wp2_with fail
      refine (Put_no s a Hno.out hs _).mono ?_
      rintro e w1 ⟨rfl, rfl⟩
      go_wp2_with (go_at_call 12; refine (awake02_any _).mono ?_; rintro e w7 ⟨rfl, hm7⟩)
      go_ret
      exact ⟨rfl, hm7⟩
  · obtain ⟨m, rfl⟩ := Int.eq_ofNat_of_zero_le (show 0 ≤ a by omega)
    have hm : m + 2 ≤ s.size := by omega
    have hp : m % 2 = 0 := by
      have h : ¬ ((m : Int).tmod 2 ≠ 0) := fun h => hno (.inr (.inl h))
      rw [Int.tmod_eq_emod_of_nonneg (by omega)] at h; omega
    have hpb : ((m : Int) % 2 != 0) = false := by
      have : (m : Int) % 2 = 0 := by omega
      rw [this]; rfl
    clear hno
    have hg := Lib.hid (put_good s m hm hp)
    have hz := Lib.hid (putAt_size s m hm)
    go_enter Try.func10, Try.ntmps10
    go_wp2_with fail
    refine (Put_any s m (by omega) hm hp _).mono ?_
    rintro e w1 ⟨rfl, hm1⟩
    go_wp2_with fail
    refine (rPut_any s m (by omega) hm hp _).mono ?_
    rintro e w2 ⟨rfl, hm2⟩
    go_wp2_with fail
    refine (Good_any _ [putAt s m] _ (Row.new _ _ _ _ 1 _ (by simp) (by decide)) (by intro x hx; simp at hx; subst hx; rw [hz.out]; omega)).mono ?_
    rintro e w3 ⟨rfl, hm3⟩
    rw [hg.out, show ((0 : Int) == 0) = true from rfl]
    go_wp2_with (go_at_call 12; refine (awake02_any _).mono ?_; rintro e w7 ⟨rfl, hm7⟩)
    go_ret
    exact ⟨rfl, by (repeat' (first | (with_reducible exact Mod.refl _ _) | (with_reducible assumption) | (with_reducible refine Mod.drew ?_) | (with_reducible refine Mod.drewN ?_ _) | (with_reducible refine Mod.alloc ?_ _) | (with_reducible refine Mod.setCell_ ?_ ?_; focus (first | (intro hlt_; simp; done) | (intro hlt_; exfalso; simp at hlt_; done) | (intro hlt_; exfalso; simp at hlt_; omega) | (intro hlt_; exfalso; omega) | (intro hlt_; simp at hlt_ ⊢; omega))) | (with_reducible refine Mod.trans_ ‹Mod _ _ _› ?_ ?_; focus (first | (intro x_ hx_ hl_; simp at hx_; done) | (intro x_ hx_ hl_; simp at hx_ ⊢; omega) | (intro x_ hx_ hl_; simp at hx_ hl_ ⊢; omega) | (intro x_ hx_ hl_; simp_all; done) | (intro x_ hx_ hl_; simp_all; omega)))))⟩
namespace sumPuts
open Go.ChangeShapes Go.WideShapes Go.ChangeAt Go.RowKit
open Go.ChangeMaps (open_string shut_string)
theorem own : ownKnob Try.prog.godebug = none := by kernel_rfl
theorem laidOut : laidOutB Try.prog = true := by kernel_rfl
set_option maxRecDepth 100000 in
theorem lifted (os : Os) (started : os.Started) (H : Type) (enc : TypeId × Value → H) :
    ReturnsInHanded {} Try.checked os 10 .any (Rows.sumPutsSpec.pre6 enc Try.prog Try.f10 Rows.sumPutsRow.domain false) (Rows.sumPutsSpec.post enc Try.prog Try.f10 false true false false) := by
  refine returnsInHanded_of_change_sized (C := Try.checked) own started (by kernel_rfl) Try.func10
    (ChangeSpec.witness6 (enc := enc) (C := Try.checked) false ⟨#[], #[.string ByteArray.empty, .int .i64 0], []⟩ 8 (by kernel_rfl) (by kernel_rfl) (by kernel_rfl) (by kernel_rfl)) ?_
  intro W base args ds gs before hval0 hW hcnd hsz0 _
  have hsz : (DataW.weightsEach Try.prog (Try.f10.params.toList ++ Rows.sumPutsSpec.plain.varTypes Try.prog) (ds ++ gs)).all (· ≤ reachBytes) = true := hsz0
  have hval : ∀ (j : Nat) t v, Try.f10.params[j]? = some t → args[j]? = some v → Value.okWide Try.prog W .any base t v := hval0
  have hW' := hW
  obtain ⟨p, q, hA0, hV, rfl, hfz, hnd⟩ := hW
  have hA : DataW.TrodAll enc Try.prog W 0 (fun _ => true) true Try.f10.params.toList args.toList ds p := hA0
  rw [Try.params10] at hA hval hsz
  obtain ⟨v0, vs0, d0, ds0, p0, q0, hargs, rfl, rfl, h0, r0⟩ := trodAll_cons hA
  obtain ⟨v1, vs1, d1, ds1, p1, q1, rfl, rfl, rfl, h1, r1⟩ := trodAll_cons r0
  obtain ⟨rfl, rfl, rfl⟩ := trodAll_nil r1
  obtain rfl : args = #[v0, v1] := by cases args; simp_all
  obtain ⟨rfl, rfl⟩ := trodVars_none hV
  obtain ⟨a0, rfl, rfl, rfl, y0⟩ := open_string Try.underlying9 (hval 0 9 v0 rfl rfl) h0
  have w0 : a0.size ≤ 140737488351232 := by
    have z := sized_string hsz (j := 0) (t := 9) rfl rfl
    rw [Array.length_toList] at z
    exact z
  obtain ⟨a1, rfl, rfl, rfl, w1⟩ := open_int Try.underlying3 (hval 1 3 v1 rfl rfl) h1
  clear hA0 hval0 hsz0
  refine (puts_any a0 a1 W w0 w1).mono fun e W' ⟨he, mod⟩ => ?_
  have bel : Below W.heap.size W W' := mod.below (Nat.le_refl _) (by simp)
  subst he
  exact ⟨_, rfl, _, _, _, [], _, [], hW', trodAll_mk1 (shut_bool Try.underlying4 _), (trodAll_cons_mk (shut_string Try.underlying9 y0) (trodAll_cons_mk (shut_int Try.underlying3 w1) trodAll_mk0)), rfl, bel.frame _, fun h => by cases h⟩
theorem over : Rows.sumPutsRow.holds Try.pinned (OpenSpec.ofChange Rows.sumPutsSpec) :=
  OpenClaim.holds_of_wide 10 Try.f10 rfl rfl rfl rfl rfl rfl rfl ⟨rfl, rfl, rfl, rfl, rfl⟩ rfl rfl rfl rfl rfl (by kernel_rfl) Try.func10 (by kernel_rfl)
    (of_decide_eq_true (by kernel_rfl)) (by unfold Func.isWrapper; first | (rw [if_pos (by decide +kernel)]; kernel_rfl) | (rw [if_neg (by decide +kernel)]; exact ⟨rfl, rfl⟩))
    (fun os started H enc _ => lifted os started H enc)
theorem proved : Rows.SumPutsSaid := over
#print axioms proved
end sumPuts
/-- The row, under a short name, for the claim. -/
theorem sumPuts_holds : Rows.SumPutsSaid := sumPuts.proved
end Go.Proofs.Ytbcebihjehneaaa
