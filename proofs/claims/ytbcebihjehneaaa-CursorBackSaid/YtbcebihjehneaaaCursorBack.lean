/- CursorBack: a byte, a short, a word and a text that are written are read as they were. For every input. -/
import Derived.Test.YtbcebihjehneaaaAwake01
import Derived.Test.YtbcebihjehneaaaCurMath
import Derived.Test.YtbcebihjehneaaaOpen
set_option linter.unusedVariables false
set_option linter.unusedSimpArgs false
namespace Go.Proofs.Ytbcebihjehneaaa
open Go.RowKit Go.ChangeShapes Go.WideShapes Go.Deep

theorem back_math (a b c : Int) (s : ByteArray) (ha : 0 ≤ a ∧ a ≤ 255) (hb : 0 ≤ b ∧ b ≤ 65535) (hc : 0 ≤ c ∧ c ≤ 4294967295) (hs : s.size ≤ 1000) :
    ∃ l1 l2 l3 l4 : List UInt8, [] ++ numBytes 1 a ++ numBytes 2 b ++ numBytes 4 c ++ s.data.toList = l1 ∧ l1.length ≤ 65535 ∧
      rNum (false, ⟨l1.toArray⟩) 1 = a ∧ rNum (false, ⟨l2.toArray⟩) 2 = b ∧ rNum (false, ⟨l3.toArray⟩) 4 = c ∧
      (rTake (false, ⟨l1.toArray⟩) 1).2 = (false, ⟨l2.toArray⟩) ∧ (rTake (false, ⟨l2.toArray⟩) 2).2 = (false, ⟨l3.toArray⟩) ∧ (rTake (false, ⟨l3.toArray⟩) 4).2 = (false, ⟨l4.toArray⟩) ∧
      rRest (false, ⟨l4.toArray⟩) = (s, (false, ⟨#[]⟩)) := by
  have hsl : s.data.toList.length = s.size := by simp
  have n1 := numOf_1 a ha.1 ha.2
  have n2 := numOf_2 b hb.1 hb.2
  have n4 := numOf_4 c hc.1 hc.2
  have t1 := rTake_split' (numBytes 1 a) (numBytes 2 b ++ (numBytes 4 c ++ (s.data.toList ++ []))) 1 (by rw [numBytes_length]; rfl)
  have t2 := rTake_split' (numBytes 2 b) (numBytes 4 c ++ (s.data.toList ++ [])) 2 (by rw [numBytes_length]; rfl)
  have t4 := rTake_split' (numBytes 4 c) (s.data.toList ++ []) 4 (by rw [numBytes_length]; rfl)
  refine ⟨numBytes 1 a ++ (numBytes 2 b ++ (numBytes 4 c ++ (s.data.toList ++ []))), numBytes 2 b ++ (numBytes 4 c ++ (s.data.toList ++ [])), numBytes 4 c ++ (s.data.toList ++ []), s.data.toList ++ [], by simp, ?_, ?_, ?_, ?_, ?_, ?_, ?_, ?_⟩
  · simp only [List.length_append, numBytes_length, List.length_nil]; omega
  · unfold rNum; rw [t1]; exact n1
  · unfold rNum; rw [t2]; exact n2
  · unfold rNum; rw [t4]; exact n4
  · rw [t1]
  · rw [t2]
  · rw [t4]
  · unfold rRest rLeft
    rw [if_neg (by simp), rTake_split' s.data.toList [] _ (by rw [size_mk, List.append_nil])]

set_option maxRecDepth 100000 in
set_option maxHeartbeats 4000000 in
theorem back_any (a b c : Int) (s : ByteArray) (w : World) (ha : 0 ≤ a ∧ a ≤ 255) (hb : 0 ≤ b ∧ b ≤ 65535) (hc : 0 ≤ c ∧ c ≤ 4294967295) (hs : s.size ≤ 140737488351232) :
    Calls Try.prog 11 #[.int .u8 a, .int .u16 b, .int .u32 c, .string s] w fun e w' => e = .returned (.bool true) ∧ Mod [] w w' := by
  by_cases h1 : 1000 < s.size
  · go_enter Try.func11, Try.ntmps11
    go_wp2_with (go_at_call 18; refine (awake01_any _).mono ?_; rintro e w1 ⟨rfl, hm⟩)
    go_ret
    exact ⟨rfl, hm⟩
  go_enter Try.func11, Try.ntmps11
  go_wp2_with fail
  have h0 : Wr w.heap.size ((w.alloc (.cells #[.bool false, .pointer none, .slice none 0 0] 39)).alloc (.cells #[.int .i64 a] 3)) w.heap.size false [] :=
    (Wr.new (w := w.alloc (.cells #[.bool false, .pointer none, .slice none 0 0] 39)) (by (repeat' (first | (with_reducible assumption) | (with_reducible rfl) | (with_reducible apply Blk.drew) | (with_reducible apply Blk.drewN) | (with_reducible refine Blk.new_ _ _ ?_; focus (first | assumption | (simp; omega) | (simp; done) | omega | (simp at *; omega))) | (with_reducible apply Blk.alloc) | (with_reducible apply Blk.other_; focus (first | assumption | (simp; omega) | (simp; done) | omega | (simp at *; omega))) | (with_reducible apply Blk.set_) | (with_reducible apply Blk.mod_ ‹Mod _ _ _›; focus (first | assumption | (simp; omega) | (simp; done) | omega | (simp at *; omega))) | (simp; done)))) (Nat.le_refl _)).mod0 ((Mod.refl [] _).alloc _)
  refine (wByte_any (b := w.heap.size + 1) (false, []) [a] _ h0 (show Blk _ _ [Value.int .i64 a] _ from by (repeat' (first | (with_reducible assumption) | (with_reducible rfl) | (with_reducible apply Blk.drew) | (with_reducible apply Blk.drewN) | (with_reducible refine Blk.new_ _ _ ?_; focus (first | assumption | (simp; omega) | (simp; done) | omega | (simp at *; omega))) | (with_reducible apply Blk.alloc) | (with_reducible apply Blk.other_; focus (first | assumption | (simp; omega) | (simp; done) | omega | (simp at *; omega))) | (with_reducible apply Blk.set_) | (with_reducible apply Blk.mod_ ‹Mod _ _ _›; focus (first | assumption | (simp; omega) | (simp; done) | omega | (simp at *; omega))) | (simp; done)))) (by simp) _ rfl (by simp)).mono ?_
  rintro e w1 ⟨rfl, h1, hm1⟩
  rw [putAll_one 1 255 _ a ha.1 ha.2] at h1
  go_wp2_with fail
  refine (wShort_any (b := w1.heap.size) (false, [] ++ numBytes 1 a) [b] _ (h1.mod0 ((Mod.refl [] _).alloc _)) (show Blk _ _ [Value.int .i64 b] _ from by (repeat' (first | (with_reducible assumption) | (with_reducible rfl) | (with_reducible apply Blk.drew) | (with_reducible apply Blk.drewN) | (with_reducible refine Blk.new_ _ _ ?_; focus (first | assumption | (simp; omega) | (simp; done) | omega | (simp at *; omega))) | (with_reducible apply Blk.alloc) | (with_reducible apply Blk.other_; focus (first | assumption | (simp; omega) | (simp; done) | omega | (simp at *; omega))) | (with_reducible apply Blk.set_) | (with_reducible apply Blk.mod_ ‹Mod _ _ _›; focus (first | assumption | (simp; omega) | (simp; done) | omega | (simp at *; omega))) | (simp; done)))) (by simp [numBytes_length]) _ rfl (by simp)).mono ?_
  rintro e w2 ⟨rfl, h2, hm2⟩
  rw [putAll_one 2 65535 _ b hb.1 hb.2] at h2
  go_wp2_with fail
  refine (wWord_any (b := w2.heap.size) (false, [] ++ numBytes 1 a ++ numBytes 2 b) [c] _ (h2.mod0 ((Mod.refl [] _).alloc _)) (show Blk _ _ [Value.int .u32 c] _ from by (repeat' (first | (with_reducible assumption) | (with_reducible rfl) | (with_reducible apply Blk.drew) | (with_reducible apply Blk.drewN) | (with_reducible refine Blk.new_ _ _ ?_; focus (first | assumption | (simp; omega) | (simp; done) | omega | (simp at *; omega))) | (with_reducible apply Blk.alloc) | (with_reducible apply Blk.other_; focus (first | assumption | (simp; omega) | (simp; done) | omega | (simp at *; omega))) | (with_reducible apply Blk.set_) | (with_reducible apply Blk.mod_ ‹Mod _ _ _›; focus (first | assumption | (simp; omega) | (simp; done) | omega | (simp at *; omega))) | (simp; done)))) (by simp [numBytes_length]) _ rfl (by simp) (by simpa using hc)).mono ?_
  rintro e w3 ⟨rfl, h3, hm3⟩
  rw [putAll_one 4 4294967295 _ c hc.1 hc.2] at h3
  go_wp2_with fail
  refine (wText_any (b := w3.heap.size) (false, [] ++ numBytes 1 a ++ numBytes 2 b ++ numBytes 4 c) [s] _ (h3.mod0 ((Mod.refl [] _).alloc _)) (show Blk _ _ [Value.string s] _ from by (repeat' (first | (with_reducible assumption) | (with_reducible rfl) | (with_reducible apply Blk.drew) | (with_reducible apply Blk.drewN) | (with_reducible refine Blk.new_ _ _ ?_; focus (first | assumption | (simp; omega) | (simp; done) | omega | (simp at *; omega))) | (with_reducible apply Blk.alloc) | (with_reducible apply Blk.other_; focus (first | assumption | (simp; omega) | (simp; done) | omega | (simp at *; omega))) | (with_reducible apply Blk.set_) | (with_reducible apply Blk.mod_ ‹Mod _ _ _›; focus (first | assumption | (simp; omega) | (simp; done) | omega | (simp at *; omega))) | (simp; done)))) (by simp [numBytes_length, textLen]; omega) _ rfl (by simp)).mono ?_
  rintro e w4 ⟨rfl, h4, hm4⟩
  rw [textAll_one] at h4
  go_wp2_with fail
  refine (wDone_any (false, _) _ h4).mono ?_
  rintro e w5 ⟨rfl, h5, hm5⟩
  have hM5 : Mod [] w w5 := Mod.wtrans hm5 (Mod.wtrans hm4 (Mod.alloc (Mod.wtrans hm3 (Mod.alloc (Mod.wtrans hm2 (Mod.alloc (Mod.wtrans hm1 (Mod.alloc (Mod.alloc (Mod.refl _ _) _) _)) _)) _)) _))
  obtain ⟨l1, l2, l3, l4, e1, hz, X1, X2, X4, t1, t2, t4, ts⟩ := back_math a b c s ha hb hc (by omega)
  have hz0 : ([] ++ numBytes 1 a ++ numBytes 2 b ++ numBytes 4 c ++ s.data.toList).length ≤ 65535 := by rw [e1]; exact hz
  rw [doneOf_ok _ hz0, e1]
  have x1 := Lib.hid X1
  have x2 := Lib.hid X2
  have x4 := Lib.hid X4
  have T1 := Lib.hid t1
  have T2 := Lib.hid t2
  have T4 := Lib.hid t4
  have TS := Lib.hid ts
  clear h0 h1 h2 h3 h4 h5 hm1 hm2 hm3 hm4 hm5 X1 X2 X4 t1 t2 t4 ts e1 hz0
  go_wp2_with fail
  have hz' : (⟨l1.toArray⟩ : ByteArray).size ≤ 140737488351232 := by rw [size_mk]; omega
  refine (Read_any _ hz' _).mono ?_
  rintro e w6 ⟨rfl, rfl⟩
  have hr0 : Rd (w5.alloc (.cells #[.bool false, .string ⟨l1.toArray⟩] 84)) w5.heap.size (false, ⟨l1.toArray⟩) := Rd.new hz' rfl
  go_wp2_with fail
  refine (rByte_any hr0).mono ?_
  rintro e w7 ⟨rfl, hr1, hm7⟩
  rw [T1.out] at hr1
  rw [x1.out]
  go_wp2_with fail
  refine (rShort_any' hr1).mono ?_
  rintro e w8 ⟨rfl, hr2, hm8⟩
  rw [T2.out] at hr2
  rw [x2.out]
  go_wp2_with fail
  refine (rWord_any hr2).mono ?_
  rintro e w9 ⟨rfl, hr3, hm9⟩
  rw [T4.out] at hr3
  rw [x4.out]
  go_wp2_with fail
  refine (rRest_any hr3).mono ?_
  rintro e w10 ⟨rfl, hr4, hm10⟩
  rw [TS.out] at hr4 ⊢
  go_wp2_with fail
  refine (Ok_any hr4).mono ?_
  rintro e w11 ⟨rfl, rfl⟩
  go_wp2_with fail
  refine (Left_any hr4).mono ?_
  rintro e w11 ⟨rfl, rfl⟩
  rw [show rLeft (false, (⟨#[]⟩ : ByteArray)) = 0 from rfl]
  go_wp2_with (go_at_call 18; refine (awake01_any _).mono ?_; rintro e w12 ⟨rfl, hm12⟩)
  go_ret
  have z5 := hM5.size
  exact ⟨rfl, by (repeat' (first | (with_reducible exact Mod.refl _ _) | (with_reducible assumption) | (with_reducible refine Mod.drew ?_) | (with_reducible refine Mod.drewN ?_ _) | (with_reducible refine Mod.alloc ?_ _) | (with_reducible refine Mod.setCell_ ?_ ?_; focus (first | (intro hlt_; simp; done) | (intro hlt_; exfalso; simp at hlt_; done) | (intro hlt_; exfalso; simp at hlt_; omega) | (intro hlt_; exfalso; omega) | (intro hlt_; simp at hlt_ ⊢; omega))) | (with_reducible refine Mod.trans_ ‹Mod _ _ _› ?_ ?_; focus (first | (intro x_ hx_ hl_; simp at hx_; done) | (intro x_ hx_ hl_; simp at hx_ ⊢; omega) | (intro x_ hx_ hl_; simp at hx_ hl_ ⊢; omega) | (intro x_ hx_ hl_; simp_all; done) | (intro x_ hx_ hl_; simp_all; omega)))))⟩
namespace cursorBack
open Go.ChangeShapes Go.WideShapes Go.ChangeAt Go.RowKit
open Go.ChangeMaps (open_string shut_string)
theorem own : ownKnob Try.prog.godebug = none := by kernel_rfl
theorem laidOut : laidOutB Try.prog = true := by kernel_rfl
set_option maxRecDepth 100000 in
theorem lifted (os : Os) (started : os.Started) (H : Type) (enc : TypeId × Value → H) :
    ReturnsInHanded {} Try.checked os 11 .any (Rows.cursorBackSpec.pre6 enc Try.prog Try.f11 Rows.cursorBackRow.domain false) (Rows.cursorBackSpec.post enc Try.prog Try.f11 false true false false) := by
  refine returnsInHanded_of_change_sized (C := Try.checked) own started (by kernel_rfl) Try.func11
    (ChangeSpec.witness6 (enc := enc) (C := Try.checked) false ⟨#[], #[.int .u8 0, .int .u16 0, .int .u32 0, .string ByteArray.empty], []⟩ 8 (by kernel_rfl) (by kernel_rfl) (by kernel_rfl) (by kernel_rfl)) ?_
  intro W base args ds gs before hval0 hW hcnd hsz0 _
  have hsz : (DataW.weightsEach Try.prog (Try.f11.params.toList ++ Rows.cursorBackSpec.plain.varTypes Try.prog) (ds ++ gs)).all (· ≤ reachBytes) = true := hsz0
  have hval : ∀ (j : Nat) t v, Try.f11.params[j]? = some t → args[j]? = some v → Value.okWide Try.prog W .any base t v := hval0
  have hW' := hW
  obtain ⟨p, q, hA0, hV, rfl, hfz, hnd⟩ := hW
  have hA : DataW.TrodAll enc Try.prog W 0 (fun _ => true) true Try.f11.params.toList args.toList ds p := hA0
  rw [Try.params11] at hA hval hsz
  obtain ⟨v0, vs0, d0, ds0, p0, q0, hargs, rfl, rfl, h0, r0⟩ := trodAll_cons hA
  obtain ⟨v1, vs1, d1, ds1, p1, q1, rfl, rfl, rfl, h1, r1⟩ := trodAll_cons r0
  obtain ⟨v2, vs2, d2, ds2, p2, q2, rfl, rfl, rfl, h2, r2⟩ := trodAll_cons r1
  obtain ⟨v3, vs3, d3, ds3, p3, q3, rfl, rfl, rfl, h3, r3⟩ := trodAll_cons r2
  obtain ⟨rfl, rfl, rfl⟩ := trodAll_nil r3
  obtain rfl : args = #[v0, v1, v2, v3] := by cases args; simp_all
  obtain ⟨rfl, rfl⟩ := trodVars_none hV
  obtain ⟨a0, rfl, rfl, rfl, w0⟩ := open_int Try.underlying5 (hval 0 5 v0 rfl rfl) h0
  obtain ⟨a1, rfl, rfl, rfl, w1⟩ := open_int Try.underlying25 (hval 1 25 v1 rfl rfl) h1
  obtain ⟨a2, rfl, rfl, rfl, w2⟩ := open_int Try.underlying44 (hval 2 44 v2 rfl rfl) h2
  obtain ⟨a3, rfl, rfl, rfl, y3⟩ := open_string Try.underlying9 (hval 3 9 v3 rfl rfl) h3
  have w3 : a3.size ≤ 140737488351232 := by
    have z := sized_string hsz (j := 3) (t := 9) rfl rfl
    rw [Array.length_toList] at z
    exact z
  clear hA0 hval0 hsz0
  refine (back_any a0 a1 a2 a3 W (bounds_u8 w0) (bounds_u16 w1) (bounds_u32 w2) w3).mono fun e W' ⟨he, mod⟩ => ?_
  have bel : Below W.heap.size W W' := mod.below (Nat.le_refl _) (by simp)
  subst he
  exact ⟨_, rfl, _, _, _, [], _, [], hW', trodAll_mk1 (shut_bool Try.underlying4 _), (trodAll_cons_mk (shut_int Try.underlying5 w0) (trodAll_cons_mk (shut_int Try.underlying25 w1) (trodAll_cons_mk (shut_int Try.underlying44 w2) (trodAll_cons_mk (shut_string Try.underlying9 y3) trodAll_mk0)))), rfl, bel.frame _, fun h => by cases h⟩
theorem over : Rows.cursorBackRow.holds Try.pinned (OpenSpec.ofChange Rows.cursorBackSpec) :=
  OpenClaim.holds_of_wide 11 Try.f11 rfl rfl rfl rfl rfl rfl rfl ⟨rfl, rfl, rfl, rfl, rfl⟩ rfl rfl rfl rfl rfl (by kernel_rfl) Try.func11 (by kernel_rfl)
    (of_decide_eq_true (by kernel_rfl)) (by unfold Func.isWrapper; first | (rw [if_pos (by decide +kernel)]; kernel_rfl) | (rw [if_neg (by decide +kernel)]; exact ⟨rfl, rfl⟩))
    (fun os started H enc _ => lifted os started H enc)
theorem proved : Rows.CursorBackSaid := over
#print axioms proved
end cursorBack
/-- The row, under a short name, for the claim. -/
theorem cursorBack_holds : Rows.CursorBackSaid := cursorBack.proved
end Go.Proofs.Ytbcebihjehneaaa
