/- CursorEnds: of no reader and no writer nothing comes; too many bytes aren't written. For every input. -/
import Derived.Test.YtbcebihjehneaaaAwake01
import Derived.Test.YtbcebihjehneaaaRefBytes
import Derived.Test.YtbcebihjehneaaaOpen
set_option linter.unusedVariables false
set_option linter.unusedSimpArgs false
namespace Go.Proofs.Ytbcebihjehneaaa
open Go.RowKit Go.ChangeShapes Go.WideShapes Go.Deep

/-! ### No writer, no reader -/
set_option maxHeartbeats 1000000 in
theorem wByte_nil (A : Option Addr) (n c : Nat) (w : World) : Calls Try.prog 19 #[.pointer none, .slice A n c] w fun e w' => e = .returned (.pointer none) ∧ w = w' := by
  go_enter Try.func19, Try.ntmps19
  go_wp2
  go_ret
  exact ⟨rfl, rfl⟩
set_option maxHeartbeats 1000000 in
theorem wShort_nil (A : Option Addr) (n c : Nat) (w : World) : Calls Try.prog 21 #[.pointer none, .slice A n c] w fun e w' => e = .returned (.pointer none) ∧ w = w' := by
  go_enter Try.func21, Try.ntmps21
  go_wp2
  go_ret
  exact ⟨rfl, rfl⟩
set_option maxHeartbeats 1000000 in
theorem wText_nil (A : Option Addr) (n c : Nat) (w : World) : Calls Try.prog 23 #[.pointer none, .slice A n c] w fun e w' => e = .returned (.pointer none) ∧ w = w' := by
  go_enter Try.func23, Try.ntmps23
  go_wp2
  go_ret
  exact ⟨rfl, rfl⟩
set_option maxHeartbeats 1000000 in
theorem wDone_nil (w : World) : Calls Try.prog 24 #[.pointer none] w fun e w' => e = .returned (.tuple #[.string ⟨#[]⟩, .int .i64 1]) ∧ w = w' := by
  go_enter Try.func24, Try.ntmps24
  go_wp2
  go_ret2
  exact ⟨rfl, rfl⟩
set_option maxHeartbeats 1000000 in
theorem Ok_nil (w : World) : Calls Try.prog 32 #[.pointer none] w fun e w' => e = .returned (.bool false) ∧ w = w' := by
  go_enter Try.func32, Try.ntmps32
  go_wp2
  go_ret
  exact ⟨rfl, rfl⟩
set_option maxHeartbeats 1000000 in
theorem Left_nil (w : World) : Calls Try.prog 33 #[.pointer none] w fun e w' => e = .returned (.int .i64 0) ∧ w = w' := by
  go_enter Try.func33, Try.ntmps33
  go_wp2_with (go_at_call 32; refine (Ok_nil _).mono ?_; rintro e w3 ⟨rfl, rfl⟩)
  go_ret
  exact ⟨rfl, rfl⟩
set_option maxHeartbeats 1000000 in
theorem Take_nil (n : Int) (w : World) : Calls Try.prog 30 #[.pointer none, .int .i64 n] w fun e w' => e = .returned (.string ⟨#[]⟩) ∧ w = w' := by
  go_enter Try.func30, Try.ntmps30
  go_wp2_with (go_at_call 32; refine (Ok_nil _).mono ?_; rintro e w3 ⟨rfl, rfl⟩)
  go_ret
  exact ⟨rfl, rfl⟩
set_option maxHeartbeats 1000000 in
theorem number_nil (n : Int) (w : World) : Calls Try.prog 47 #[.pointer none, .int .i64 n] w fun e w' => e = .returned (.int .u32 0) ∧ w = w' := by
  go_enter Try.func47, Try.ntmps47
  go_wp2_with (go_at_call 30; refine (Take_nil _ _).mono ?_; rintro e w3 ⟨rfl, rfl⟩)
  go_loop [5, 13] (fun x i => x = .int .u32 0 ∧ i = .int .i64 0) (fun _ i => 0)
  case atStart => exact ⟨rfl, rfl⟩
  case round =>
    obtain ⟨rfl, rfl⟩ := hrel
    go_wp2
    go_ret
    exact ⟨rfl, rfl⟩
set_option maxHeartbeats 1000000 in
theorem rByte_nil (w : World) : Calls Try.prog 26 #[.pointer none] w fun e w' => e = .returned (.int .i64 0) ∧ w = w' := by
  go_enter Try.func26, Try.ntmps26
  go_wp2_with (go_at_call 47; refine (number_nil _ _).mono ?_; rintro e w3 ⟨rfl, rfl⟩)
  go_ret
  exact ⟨rfl, rfl⟩
set_option maxHeartbeats 1000000 in
theorem rShort_nil (w : World) : Calls Try.prog 28 #[.pointer none] w fun e w' => e = .returned (.int .i64 0) ∧ w = w' := by
  go_enter Try.func28, Try.ntmps28
  go_wp2_with (go_at_call 47; refine (number_nil _ _).mono ?_; rintro e w3 ⟨rfl, rfl⟩)
  go_ret
  exact ⟨rfl, rfl⟩
set_option maxHeartbeats 1000000 in
theorem rWord_nil (w : World) : Calls Try.prog 29 #[.pointer none] w fun e w' => e = .returned (.int .u32 0) ∧ w = w' := by
  go_enter Try.func29, Try.ntmps29
  go_wp2_with (go_at_call 47; refine (number_nil _ _).mono ?_; rintro e w3 ⟨rfl, rfl⟩)
  go_ret
  exact ⟨rfl, rfl⟩
set_option maxHeartbeats 1000000 in
theorem rRest_nil (w : World) : Calls Try.prog 31 #[.pointer none] w fun e w' => e = .returned (.string ⟨#[]⟩) ∧ w = w' := by
  go_enter Try.func31, Try.ntmps31
  go_wp2_with (first | (go_at_call 33; refine (Left_nil _).mono ?_; rintro e w3 ⟨rfl, rfl⟩) | (go_at_call 30; refine (Take_nil _ _).mono ?_; rintro e w3 ⟨rfl, rfl⟩))
  go_ret
  exact ⟨rfl, rfl⟩

/-- A text of so many bytes that are 0. -/
def zeroText (n : Nat) : ByteArray := ⟨(List.replicate n 0).toArray⟩
theorem zeroText_size (n : Nat) : (zeroText n).size = n := by show (List.replicate n 0).toArray.size = n; simp
theorem zeroBytes_cells (n : Nat) : zeroBytes n = Lib.byteCells (List.replicate n 0) := by simp [zeroBytes, Lib.byteCells]

set_option maxRecDepth 100000 in
set_option maxHeartbeats 8000000 in
theorem ends_any (n c : Int) (w : World) (hc : 0 ≤ c ∧ c ≤ 255) :
    Calls Try.prog 9 #[.int .i64 n, .int .u8 c] w fun e w' => e = .returned (.bool true) ∧ Mod [] w w' := by
  go_enter Try.func9, Try.ntmps9
  go_wp2_with fail
  refine (awake01_any _).mono ?_
  rintro e w1 ⟨rfl, hm1⟩
  go_wp2_with fail
  refine (wByte_nil _ _ _ _).mono ?_
  rintro e w2 ⟨rfl, rfl⟩
  go_wp2_with fail
  refine (wShort_nil _ _ _ _).mono ?_
  rintro e w2 ⟨rfl, rfl⟩
  go_wp2_with fail
  refine (wText_nil _ _ _ _).mono ?_
  rintro e w2 ⟨rfl, rfl⟩
  go_wp2_with fail
  refine (wDone_nil _).mono ?_
  rintro e w2 ⟨rfl, rfl⟩
  have mk : ∀ W : World, (Instr.makeSlice 35 (.int .i64 65535) (.int .i64 65535)).run Try.prog W = .ok (.slice (some ⟨W.heap.size, 0, none⟩) 65535 65535) (W.alloc (.cells (zeroBytes 65535).toArray 5)) := make_bytes 65535 (by decide)
  have hz1 := hm1.size
  obtain ⟨w2, hw2⟩ : ∃ w2, w2 = ((w1.alloc (.cells #[.int .i64 n] 3)).alloc (.cells #[.int .i64 n] 3)).alloc (.cells #[.string ⟨#[120]⟩] 9) := ⟨_, rfl⟩
  have hm2 : Mod [] w w2 := by rw [hw2]; (repeat' (first | (with_reducible exact Mod.refl _ _) | (with_reducible assumption) | (with_reducible refine Mod.drew ?_) | (with_reducible refine Mod.drewN ?_ _) | (with_reducible refine Mod.alloc ?_ _) | (with_reducible refine Mod.setCell_ ?_ ?_; focus (first | (intro hlt_; simp; done) | (intro hlt_; exfalso; simp at hlt_; done) | (intro hlt_; exfalso; simp at hlt_; omega) | (intro hlt_; exfalso; omega) | (intro hlt_; simp at hlt_ ⊢; omega))) | (with_reducible refine Mod.trans_ ‹Mod _ _ _› ?_ ?_; focus (first | (intro x_ hx_ hl_; simp at hx_; done) | (intro x_ hx_ hl_; simp at hx_ ⊢; omega) | (intro x_ hx_ hl_; simp at hx_ hl_ ⊢; omega) | (intro x_ hx_ hl_; simp_all; done) | (intro x_ hx_ hl_; simp_all; omega)))))
  rw [← hw2]
  clear hw2 hm1
  have hz2 := hm2.size
  have kc : (convert 35 9 (.slice (some ⟨w2.heap.size + 1, 0, none⟩) 65535 65535)).run Try.prog ((w2.alloc (.cells #[.bool false, .pointer none, .slice none 0 0] 39)).alloc (.cells (zeroBytes 65535).toArray 5)) = .ok (.string (zeroText 65535)) ((w2.alloc (.cells #[.bool false, .pointer none, .slice none 0 0] 39)).alloc (.cells (zeroBytes 65535).toArray 5)) :=
    bytes_string _ _ (List.replicate 65535 0) 65535 (by rw [List.length_replicate]) (by rw [← zeroBytes_cells]; (repeat' (first | (with_reducible assumption) | (with_reducible rfl) | (with_reducible apply Blk.drew) | (with_reducible apply Blk.drewN) | (with_reducible refine Blk.new_ _ _ ?_; focus (first | assumption | (simp; omega) | (simp; done) | omega | (simp at *; omega))) | (with_reducible apply Blk.alloc) | (with_reducible apply Blk.other_; focus (first | assumption | (simp; omega) | (simp; done) | omega | (simp at *; omega))) | (with_reducible apply Blk.set_) | (with_reducible apply Blk.mod_ ‹Mod _ _ _›; focus (first | assumption | (simp; omega) | (simp; done) | omega | (simp at *; omega))) | (simp; done))))
  go_wp2_with fail
  clear mk kc
  obtain ⟨Z, hZ⟩ : ∃ Z, Z = zeroText 65535 := ⟨_, rfl⟩
  have hZl : Z.size = 65535 := by rw [hZ]; exact zeroText_size _
  rw [← hZ]
  clear hZ
  have HZ := Lib.hid hZl
  clear hZl
  have hw0 : Wr w2.heap.size (((w2.alloc (.cells #[.bool false, .pointer none, .slice none 0 0] 39)).alloc (.cells (zeroBytes 65535).toArray 5)).alloc (.cells #[.string Z] 9)) w2.heap.size false [] :=
    (Wr.new (w := w2.alloc (.cells #[.bool false, .pointer none, .slice none 0 0] 39)) (by (repeat' (first | (with_reducible assumption) | (with_reducible rfl) | (with_reducible apply Blk.drew) | (with_reducible apply Blk.drewN) | (with_reducible refine Blk.new_ _ _ ?_; focus (first | assumption | (simp; omega) | (simp; done) | omega | (simp at *; omega))) | (with_reducible apply Blk.alloc) | (with_reducible apply Blk.other_; focus (first | assumption | (simp; omega) | (simp; done) | omega | (simp at *; omega))) | (with_reducible apply Blk.set_) | (with_reducible apply Blk.mod_ ‹Mod _ _ _›; focus (first | assumption | (simp; omega) | (simp; done) | omega | (simp at *; omega))) | (simp; done)))) (Nat.le_refl _)).mod0 (((Mod.refl [] _).alloc _).alloc _)
  refine (wText_any (b := w2.heap.size + 1 + 1) (false, []) [Z] _ hw0 (show Blk _ _ [Value.string Z] _ from by (repeat' (first | (with_reducible assumption) | (with_reducible rfl) | (with_reducible apply Blk.drew) | (with_reducible apply Blk.drewN) | (with_reducible refine Blk.new_ _ _ ?_; focus (first | assumption | (simp; omega) | (simp; done) | omega | (simp at *; omega))) | (with_reducible apply Blk.alloc) | (with_reducible apply Blk.other_; focus (first | assumption | (simp; omega) | (simp; done) | omega | (simp at *; omega))) | (with_reducible apply Blk.set_) | (with_reducible apply Blk.mod_ ‹Mod _ _ _›; focus (first | assumption | (simp; omega) | (simp; done) | omega | (simp at *; omega))) | (simp; done)))) (by simp [textLen]; rw [HZ.out]; decide) _ rfl (by simp)).mono ?_
  rintro e w3 ⟨rfl, hw3, hm3⟩
  rw [textAll_one, List.nil_append] at hw3
  have hl : Z.data.toList.length = 65535 := HZ.out
  go_wp2_with fail
  refine (wDone_any (false, _) _ hw3).mono ?_
  rintro e w4 ⟨rfl, hw4, hm4⟩
  rw [doneOf_ok _ (by rw [hl]; exact Nat.le_refl _), show (⟨Z.data.toList.toArray⟩ : ByteArray) = Z from rfl]
  go_wp2_with fail
  have hm4' : Mod [] w w4 := by (repeat' (first | (with_reducible exact Mod.refl _ _) | (with_reducible assumption) | (with_reducible refine Mod.drew ?_) | (with_reducible refine Mod.drewN ?_ _) | (with_reducible refine Mod.alloc ?_ _) | (with_reducible refine Mod.setCell_ ?_ ?_; focus (first | (intro hlt_; simp; done) | (intro hlt_; exfalso; simp at hlt_; done) | (intro hlt_; exfalso; simp at hlt_; omega) | (intro hlt_; exfalso; omega) | (intro hlt_; simp at hlt_ ⊢; omega))) | (with_reducible refine Mod.wtrans_ ‹WMod _ _ _ _› ?_ ?_; focus (first | omega | (simp; omega) | (simp; done))) | (with_reducible refine Mod.trans_ ‹Mod _ _ _› ?_ ?_; focus (first | (intro x_ hx_ hl_; simp at hx_; done) | (intro x_ hx_ hl_; simp at hx_ ⊢; omega) | (intro x_ hx_ hl_; simp at hx_ hl_ ⊢; omega) | (intro x_ hx_ hl_; simp_all; done) | (intro x_ hx_ hl_; simp_all; omega)))))
  refine (wByte_any (b := w4.heap.size) (false, Z.data.toList) [c] _ (hw4.mod0 ((Mod.refl [] _).alloc _)) (show Blk _ _ [Value.int .i64 c] _ from by (repeat' (first | (with_reducible assumption) | (with_reducible rfl) | (with_reducible apply Blk.drew) | (with_reducible apply Blk.drewN) | (with_reducible refine Blk.new_ _ _ ?_; focus (first | assumption | (simp; omega) | (simp; done) | omega | (simp at *; omega))) | (with_reducible apply Blk.alloc) | (with_reducible apply Blk.other_; focus (first | assumption | (simp; omega) | (simp; done) | omega | (simp at *; omega))) | (with_reducible apply Blk.set_) | (with_reducible apply Blk.mod_ ‹Mod _ _ _›; focus (first | assumption | (simp; omega) | (simp; done) | omega | (simp at *; omega))) | (simp; done)))) (by simp only [hl, List.length_cons, List.length_nil]; decide) _ rfl (by simp)).mono ?_
  rintro e w5 ⟨rfl, hw5, hm5⟩
  rw [putAll_one 1 255 _ c hc.1 hc.2] at hw5
  go_wp2_with fail
  refine (wDone_any (false, _) _ hw5).mono ?_
  rintro e w6 ⟨rfl, hw6, hm6⟩
  rw [show doneOf (false, Z.data.toList ++ numBytes 1 c) = (⟨#[]⟩, 5) from by unfold doneOf; rw [if_neg (by simp), if_pos (by simp only [List.length_append, numBytes_length, hl]; decide)]]
  clear hl
  have hzs := HZ.out
  have hzb : ((Z.size : Int) == 65535) = true := by rw [hzs]; rfl
  have Hzs := Lib.hid hzs
  clear hzs
  go_wp2_with (first
    | (go_at_call 26; refine (rByte_nil _).mono ?_; rintro e w8 ⟨rfl, rfl⟩)
    | (go_at_call 28; refine (rShort_nil _).mono ?_; rintro e w8 ⟨rfl, rfl⟩)
    | (go_at_call 29; refine (rWord_nil _).mono ?_; rintro e w8 ⟨rfl, rfl⟩)
    | (go_at_call 30; refine (Take_nil _ _).mono ?_; rintro e w8 ⟨rfl, rfl⟩)
    | (go_at_call 31; refine (rRest_nil _).mono ?_; rintro e w8 ⟨rfl, rfl⟩)
    | (go_at_call 33; refine (Left_nil _).mono ?_; rintro e w8 ⟨rfl, rfl⟩)
    | (go_at_call 32; refine (Ok_nil _).mono ?_; rintro e w8 ⟨rfl, rfl⟩))
  go_ret
  have hz4 := hm4'.size
  have hm5' : Mod [] w w5 := Mod.wtrans_ hm5 hz2 (hm4'.alloc _)
  exact ⟨rfl, Mod.wtrans_ hm6 hz2 hm5'⟩
namespace cursorEnds
open Go.ChangeShapes Go.WideShapes Go.ChangeAt Go.RowKit
open Go.ChangeMaps (open_string shut_string)
theorem own : ownKnob Try.prog.godebug = none := by kernel_rfl
theorem laidOut : laidOutB Try.prog = true := by kernel_rfl
set_option maxRecDepth 100000 in
theorem lifted (os : Os) (started : os.Started) (H : Type) (enc : TypeId × Value → H) :
    ReturnsInHanded {} Try.checked os 9 .any (Rows.cursorEndsSpec.pre6 enc Try.prog Try.f9 Rows.cursorEndsRow.domain false) (Rows.cursorEndsSpec.post enc Try.prog Try.f9 false true false false) := by
  refine returnsInHanded_of_change_sized (C := Try.checked) own started (by kernel_rfl) Try.func9
    (ChangeSpec.witness6 (enc := enc) (C := Try.checked) false ⟨#[], #[.int .i64 0, .int .u8 0], []⟩ 8 (by kernel_rfl) (by kernel_rfl) (by kernel_rfl) (by kernel_rfl)) ?_
  intro W base args ds gs before hval0 hW hcnd hsz0 _
  have hsz : (DataW.weightsEach Try.prog (Try.f9.params.toList ++ Rows.cursorEndsSpec.plain.varTypes Try.prog) (ds ++ gs)).all (· ≤ reachBytes) = true := hsz0
  have hval : ∀ (j : Nat) t v, Try.f9.params[j]? = some t → args[j]? = some v → Value.okWide Try.prog W .any base t v := hval0
  have hW' := hW
  obtain ⟨p, q, hA0, hV, rfl, hfz, hnd⟩ := hW
  have hA : DataW.TrodAll enc Try.prog W 0 (fun _ => true) true Try.f9.params.toList args.toList ds p := hA0
  rw [Try.params9] at hA hval hsz
  obtain ⟨v0, vs0, d0, ds0, p0, q0, hargs, rfl, rfl, h0, r0⟩ := trodAll_cons hA
  obtain ⟨v1, vs1, d1, ds1, p1, q1, rfl, rfl, rfl, h1, r1⟩ := trodAll_cons r0
  obtain ⟨rfl, rfl, rfl⟩ := trodAll_nil r1
  obtain rfl : args = #[v0, v1] := by cases args; simp_all
  obtain ⟨rfl, rfl⟩ := trodVars_none hV
  obtain ⟨a0, rfl, rfl, rfl, w0⟩ := open_int Try.underlying3 (hval 0 3 v0 rfl rfl) h0
  obtain ⟨a1, rfl, rfl, rfl, w1⟩ := open_int Try.underlying5 (hval 1 5 v1 rfl rfl) h1
  clear hA0 hval0 hsz0
  refine (ends_any a0 a1 W (bounds_u8 w1)).mono fun e W' ⟨he, mod⟩ => ?_
  have bel : Below W.heap.size W W' := mod.below (Nat.le_refl _) (by simp)
  subst he
  exact ⟨_, rfl, _, _, _, [], _, [], hW', trodAll_mk1 (shut_bool Try.underlying4 _), (trodAll_cons_mk (shut_int Try.underlying3 w0) (trodAll_cons_mk (shut_int Try.underlying5 w1) trodAll_mk0)), rfl, bel.frame _, fun h => by cases h⟩
theorem over : Rows.cursorEndsRow.holds Try.pinned (OpenSpec.ofChange Rows.cursorEndsSpec) :=
  OpenClaim.holds_of_wide 9 Try.f9 rfl rfl rfl rfl rfl rfl rfl ⟨rfl, rfl, rfl, rfl, rfl⟩ rfl rfl rfl rfl rfl (by kernel_rfl) Try.func9 (by kernel_rfl)
    (of_decide_eq_true (by kernel_rfl)) (by unfold Func.isWrapper; first | (rw [if_pos (by decide +kernel)]; kernel_rfl) | (rw [if_neg (by decide +kernel)]; exact ⟨rfl, rfl⟩))
    (fun os started H enc _ => lifted os started H enc)
theorem proved : Rows.CursorEndsSaid := over
#print axioms proved
end cursorEnds
/-- The row, under a short name, for the claim. -/
theorem cursorEnds_holds : Rows.CursorEndsSaid := cursorEnds.proved
end Go.Proofs.Ytbcebihjehneaaa
