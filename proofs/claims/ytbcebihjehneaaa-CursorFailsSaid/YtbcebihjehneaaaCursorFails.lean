/- CursorFails: behind a Take of more than there is nothing is read any more. For every input. -/
import Derived.Test.YtbcebihjehneaaaAwake01
import Derived.Test.YtbcebihjehneaaaOpen
set_option linter.unusedVariables false
set_option linter.unusedSimpArgs false
namespace Go.Proofs.Ytbcebihjehneaaa
open Go.RowKit Go.ChangeShapes Go.WideShapes Go.Deep

theorem rTake_fail (s : ByteArray) (n : Int) : rTake (true, s) n = (⟨#[]⟩, (true, s)) := by simp [rTake]
theorem rNum_fail (s : ByteArray) (n : Int) : rNum (true, s) n = 0 := by simp [rNum, rTake_fail, numOf]
theorem rRest_fail (s : ByteArray) : rRest (true, s) = (⟨#[]⟩, (true, s)) := by simp [rRest, rTake_fail]

/-- An act's cells. -/
def enAct (a : Int × Int) : List Value := [.int .i64 a.1, .int .i64 a.2]
theorem open_act {H : Type} {enc : TypeId × Value → H} {w : World} (n : Nat) (cs : List Value) (y : DataW H × List MemPlace) (hl : cs.length = 2)
    (h : DataW.trod enc Try.prog w 0 (fun _ => true) true n 55 cs = some y) : ∃ x : Int × Int, cs = enAct x ∧ ((Lit.int .i64 x.1).wf = true ∧ (Lit.int .i64 x.2).wf = true) := by
  obtain ⟨m, hf⟩ := open_fields Try.underlying55 (by kernel_rfl) hl h
  match cs, hl with
  | [c0, c1], _ =>
    obtain ⟨v0, y0, e0, h0⟩ := hf 0 _ rfl
    obtain ⟨v1, y1, e1, h1⟩ := hf 1 _ rfl
    obtain ⟨a, ha, _, wa⟩ := DataW.trod_int Try.underlying3 h0
    obtain ⟨b, hb, _, wb⟩ := DataW.trod_int Try.underlying3 h1
    simp at ha hb e0 e1
    subst ha; subst hb; subst e0; subst e1
    exact ⟨(a, b), rfl, wa, wb⟩

set_option maxRecDepth 100000 in
set_option maxHeartbeats 2000000 in
theorem fails_any (s : ByteArray) (more : Int) (v : Value) (l : List (Int × Int)) (w : World) (hs : s.size ≤ 140737488351232) (hm : 0 ≤ more ∧ more ≤ 255) (hr : Structs enAct 2 w v l) :
    Calls Try.prog 7 #[.string s, .int .u8 more, v] w fun e w' => e = .returned (.bool true) ∧ Mod [] w w' := by
  have hll := hr.len
  obtain ⟨A, cap, rfl⟩ := hr.form
  by_cases h1 : 200 < s.size
  · go_enter Try.func7, Try.ntmps7
    go_wp2_with (go_at_call 18; refine (awake01_any _).mono ?_; rintro e w1 ⟨rfl, hm⟩)
    go_ret
    exact ⟨rfl, hm⟩
  by_cases h2 : 60 < l.length
  · go_enter Try.func7, Try.ntmps7
    go_wp2_with (go_at_call 18; refine (awake01_any _).mono ?_; rintro e w1 ⟨rfl, hm⟩)
    go_ret
    exact ⟨rfl, hm⟩
  go_enter Try.func7, Try.ntmps7
  go_wp2_with fail
  refine (Read_any s hs _).mono ?_
  rintro e w1 ⟨rfl, rfl⟩
  go_wp2_with fail
  have hr0 : Rd (w.alloc (.cells #[.bool false, .string s] 84)) w.heap.size (false, s) := Rd.new hs rfl
  refine (Take_any hr0 _).mono ?_
  rintro e w2 ⟨rfl, hr2, hm2⟩
  rw [show rTake (false, s) ((s.size : Int) + 1 + more) = (⟨#[]⟩, (true, s)) from by simp [rTake]; omega] at hr2 ⊢
  go_wp2_with (first | (go_at_call 32; refine (Ok_any hr2).mono ?_; rintro e w3 ⟨rfl, rfl⟩) | (go_at_call 33; refine (Left_any hr2).mono ?_; rintro e w3 ⟨rfl, rfl⟩; rw [show rLeft (true, s) = 0 from rfl]))
  go_loopw [8] (fun i wr => ∃ k : Nat, k ≤ l.length ∧ i = .int .i64 k ∧ Rd wr w.heap.size (true, s) ∧ Mod [] w wr) (fun i _ => l.length - (intOf i).toNat)
  case atStart => exact ⟨0, Nat.zero_le _, rfl, hr2, by (repeat' (first | (with_reducible exact Mod.refl _ _) | (with_reducible assumption) | (with_reducible refine Mod.drew ?_) | (with_reducible refine Mod.drewN ?_ _) | (with_reducible refine Mod.alloc ?_ _) | (with_reducible refine Mod.setCell_ ?_ ?_; focus (first | (intro hlt_; simp; done) | (intro hlt_; exfalso; simp at hlt_; done) | (intro hlt_; exfalso; simp at hlt_; omega) | (intro hlt_; exfalso; omega) | (intro hlt_; simp at hlt_ ⊢; omega))) | (with_reducible refine Mod.trans_ ‹Mod _ _ _› ?_ ?_; focus (first | (intro x_ hx_ hl_; simp at hx_; done) | (intro x_ hx_ hl_; simp at hx_ ⊢; omega) | (intro x_ hx_ hl_; simp at hx_ hl_ ⊢; omega) | (intro x_ hx_ hl_; simp_all; done) | (intro x_ hx_ hl_; simp_all; omega)))))⟩
  case round =>
    obtain ⟨k, hk, rfl, hr3, hm3⟩ := hrel
    by_cases hlt : k < l.length
    · obtain ⟨b, off, rfl, hcell⟩ := hr.gets k hlt (by simp [enAct])
      have Hc := Lib.hid hcell
      clear hcell
      have z1 : Hid (∀ n, rTake (true, s) n = (⟨#[]⟩, (true, s))) := rTake_fail s
      have z2 : Hid (∀ n, rNum (true, s) n = 0) := rNum_fail s
      have z3 := Lib.hid (rRest_fail s)
      go_wp2_with fail
      refine (rByte_any hr3).mono ?_
      rintro e w3 ⟨rfl, hr4, hm4⟩
      rw [z1.out] at hr4
      rw [z2.out]
      go_wp2_with fail
      refine (rShort_any' hr4).mono ?_
      rintro e w4 ⟨rfl, hr5, hm5⟩
      rw [z1.out] at hr5
      rw [z2.out]
      go_wp2_with fail
      refine (rWord_any hr5).mono ?_
      rintro e w5 ⟨rfl, hr6, hm6⟩
      rw [z1.out] at hr6
      rw [z2.out]
      have hm6' : Mod [] w w5 := by (repeat' (first | (with_reducible exact Mod.refl _ _) | (with_reducible assumption) | (with_reducible refine Mod.drew ?_) | (with_reducible refine Mod.drewN ?_ _) | (with_reducible refine Mod.alloc ?_ _) | (with_reducible refine Mod.setCell_ ?_ ?_; focus (first | (intro hlt_; simp; done) | (intro hlt_; exfalso; simp at hlt_; done) | (intro hlt_; exfalso; simp at hlt_; omega) | (intro hlt_; exfalso; omega) | (intro hlt_; simp at hlt_ ⊢; omega))) | (with_reducible refine Mod.trans_ ‹Mod _ _ _› ?_ ?_; focus (first | (intro x_ hx_ hl_; simp at hx_; done) | (intro x_ hx_ hl_; simp at hx_ ⊢; omega) | (intro x_ hx_ hl_; simp at hx_ hl_ ⊢; omega) | (intro x_ hx_ hl_; simp_all; done) | (intro x_ hx_ hl_; simp_all; omega)))))
      have hc1 := Hc.out _ hm6' 1 _ rfl
      go_wp2_with fail
      refine (Take_any hr6 _).mono ?_
      rintro e w6 ⟨rfl, hr7, hm7⟩
      rw [z1.out] at hr7 ⊢
      clear hc1
      go_wp2_with fail
      refine (rRest_any hr7).mono ?_
      rintro e w7 ⟨rfl, hr8, hm8⟩
      rw [z3.out] at hr8 ⊢
      go_wp2_with (go_at_call 32; refine (Ok_any hr8).mono ?_; rintro e w8 ⟨rfl, rfl⟩)
      go_roundw
      case rel => exact ⟨k + 1, by omega, by go_num, hr8, by (repeat' (first | (with_reducible exact Mod.refl _ _) | (with_reducible assumption) | (with_reducible refine Mod.drew ?_) | (with_reducible refine Mod.drewN ?_ _) | (with_reducible refine Mod.alloc ?_ _) | (with_reducible refine Mod.setCell_ ?_ ?_; focus (first | (intro hlt_; simp; done) | (intro hlt_; exfalso; simp at hlt_; done) | (intro hlt_; exfalso; simp at hlt_; omega) | (intro hlt_; exfalso; omega) | (intro hlt_; simp at hlt_ ⊢; omega))) | (with_reducible refine Mod.trans_ ‹Mod _ _ _› ?_ ?_; focus (first | (intro x_ hx_ hl_; simp at hx_; done) | (intro x_ hx_ hl_; simp at hx_ ⊢; omega) | (intro x_ hx_ hl_; simp at hx_ hl_ ⊢; omega) | (intro x_ hx_ hl_; simp_all; done) | (intro x_ hx_ hl_; simp_all; omega)))))⟩
      case measure => simp [intOf]; omega
    · obtain rfl : k = l.length := by omega
      go_wp2_with (go_at_call 18; refine (awake01_any _).mono ?_; rintro e w4 ⟨rfl, hm4⟩)
      go_ret
      exact ⟨rfl, by (repeat' (first | (with_reducible exact Mod.refl _ _) | (with_reducible assumption) | (with_reducible refine Mod.drew ?_) | (with_reducible refine Mod.drewN ?_ _) | (with_reducible refine Mod.alloc ?_ _) | (with_reducible refine Mod.setCell_ ?_ ?_; focus (first | (intro hlt_; simp; done) | (intro hlt_; exfalso; simp at hlt_; done) | (intro hlt_; exfalso; simp at hlt_; omega) | (intro hlt_; exfalso; omega) | (intro hlt_; simp at hlt_ ⊢; omega))) | (with_reducible refine Mod.trans_ ‹Mod _ _ _› ?_ ?_; focus (first | (intro x_ hx_ hl_; simp at hx_; done) | (intro x_ hx_ hl_; simp at hx_ ⊢; omega) | (intro x_ hx_ hl_; simp at hx_ hl_ ⊢; omega) | (intro x_ hx_ hl_; simp_all; done) | (intro x_ hx_ hl_; simp_all; omega)))))⟩
namespace cursorFails
open Go.ChangeShapes Go.WideShapes Go.ChangeAt Go.RowKit
open Go.ChangeMaps (open_string shut_string)
theorem own : ownKnob Try.prog.godebug = none := by kernel_rfl
theorem laidOut : laidOutB Try.prog = true := by kernel_rfl
set_option maxRecDepth 100000 in
theorem lifted (os : Os) (started : os.Started) (H : Type) (enc : TypeId × Value → H) :
    ReturnsInHanded {} Try.checked os 7 .any (Rows.cursorFailsSpec.pre6 enc Try.prog Try.f7 Rows.cursorFailsRow.domain false) (Rows.cursorFailsSpec.post enc Try.prog Try.f7 false true false false) := by
  refine returnsInHanded_of_change_sized (C := Try.checked) own started (by kernel_rfl) Try.func7
    (ChangeSpec.witness6 (enc := enc) (C := Try.checked) false ⟨#[], #[.string ByteArray.empty, .int .u8 0, .slice none 0 0], []⟩ 8 (by kernel_rfl) (by kernel_rfl) (by kernel_rfl) (by kernel_rfl)) ?_
  intro W base args ds gs before hval0 hW hcnd hsz0 _
  have hsz : (DataW.weightsEach Try.prog (Try.f7.params.toList ++ Rows.cursorFailsSpec.plain.varTypes Try.prog) (ds ++ gs)).all (· ≤ reachBytes) = true := hsz0
  have hval : ∀ (j : Nat) t v, Try.f7.params[j]? = some t → args[j]? = some v → Value.okWide Try.prog W .any base t v := hval0
  have hW' := hW
  obtain ⟨p, q, hA0, hV, rfl, hfz, hnd⟩ := hW
  have hA : DataW.TrodAll enc Try.prog W 0 (fun _ => true) true Try.f7.params.toList args.toList ds p := hA0
  rw [Try.params7] at hA hval hsz
  obtain ⟨v0, vs0, d0, ds0, p0, q0, hargs, rfl, rfl, h0, r0⟩ := trodAll_cons hA
  obtain ⟨v1, vs1, d1, ds1, p1, q1, rfl, rfl, rfl, h1, r1⟩ := trodAll_cons r0
  obtain ⟨v2, vs2, d2, ds2, p2, q2, rfl, rfl, rfl, h2, r2⟩ := trodAll_cons r1
  obtain ⟨rfl, rfl, rfl⟩ := trodAll_nil r2
  obtain rfl : args = #[v0, v1, v2] := by cases args; simp_all
  obtain ⟨rfl, rfl⟩ := trodVars_none hV
  obtain ⟨a0, rfl, rfl, rfl, y0⟩ := open_string Try.underlying9 (hval 0 9 v0 rfl rfl) h0
  have w0 : a0.size ≤ 140737488351232 := by
    have z := sized_string hsz (j := 0) (t := 9) rfl rfl
    rw [Array.length_toList] at z
    exact z
  obtain ⟨a1, rfl, rfl, rfl, w1⟩ := open_int Try.underlying5 (hval 1 5 v1 rfl rfl) h1
  have hv2 := (hval 2 51 v2 rfl rfl)
  have k2 := h2
  have lt2 : ∀ x ∈ p2, x.block < W.heap.size := by obtain ⟨m, hm⟩ := k2; exact DataW.trod_lt m _ _ _ hm
  obtain ⟨fuel2, g2⟩ := h2
  obtain ⟨l2, s2, o2⟩ := open_structs enAct _ Try.underlying51 (by kernel_rfl) open_act (okWide_slice Try.underlying51 hv2) g2 (by decide)
  clear hA0 hval0 hsz0
  refine (fails_any a0 a1 v2 l2 W w0 (bounds_u8 w1) s2).mono fun e W' ⟨he, mod⟩ => ?_
  have bel : Below W.heap.size W W' := mod.below (Nat.le_refl _) (by simp)
  subst he
  exact ⟨_, rfl, _, _, _, [], _, [], hW', trodAll_mk1 (shut_bool Try.underlying4 _), (trodAll_cons_mk (shut_string Try.underlying9 y0) (trodAll_cons_mk (shut_int Try.underlying5 w1) (trodAll_cons_mk (Below.trod laidOut (by kernel_rfl) (of_decide_eq_true (by kernel_rfl)) k2 bel lt2) trodAll_mk0))), rfl, bel.frame _, fun h => by cases h⟩
theorem over : Rows.cursorFailsRow.holds Try.pinned (OpenSpec.ofChange Rows.cursorFailsSpec) :=
  OpenClaim.holds_of_wide 7 Try.f7 rfl rfl rfl rfl rfl rfl rfl ⟨rfl, rfl, rfl, rfl, rfl⟩ rfl rfl rfl rfl rfl (by kernel_rfl) Try.func7 (by kernel_rfl)
    (of_decide_eq_true (by kernel_rfl)) (by unfold Func.isWrapper; first | (rw [if_pos (by decide +kernel)]; kernel_rfl) | (rw [if_neg (by decide +kernel)]; exact ⟨rfl, rfl⟩))
    (fun os started H enc _ => lifted os started H enc)
theorem proved : Rows.CursorFailsSaid := over
#print axioms proved
end cursorFails
/-- The row, under a short name, for the claim. -/
theorem cursorFails_holds : Rows.CursorFailsSaid := cursorFails.proved
end Go.Proofs.Ytbcebihjehneaaa
