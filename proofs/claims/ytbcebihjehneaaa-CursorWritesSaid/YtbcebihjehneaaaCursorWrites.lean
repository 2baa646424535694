/- CursorWrites: whatever is written: the bytes, or the mistake. For every input. -/
import Derived.Test.YtbcebihjehneaaaAwake01
import Derived.Test.YtbcebihjehneaaaRefBytes
import Derived.Test.YtbcebihjehneaaaOpen
set_option linter.unusedVariables false
set_option linter.unusedSimpArgs false
namespace Go.Proofs.Ytbcebihjehneaaa
open Go.RowKit Go.ChangeShapes Go.WideShapes Go.Deep

/-- A put's cells. -/
def enPut (a : Int × Int × ByteArray) : List Value := [.int .i64 a.1, .int .i64 a.2.1, .string a.2.2]
theorem open_put {H : Type} {enc : TypeId × Value → H} {w : World} (n : Nat) (cs : List Value) (y : DataW H × List MemPlace) (hl : cs.length = 3)
    (h : DataW.trod enc Try.prog w 0 (fun _ => true) true n 41 cs = some y) : ∃ x : Int × Int × ByteArray, cs = enPut x ∧ ((Lit.int .i64 x.1).wf = true ∧ (Lit.int .i64 x.2.1).wf = true ∧ x.2.2.size ≤ maxLen) := by
  obtain ⟨m, hf⟩ := open_fields Try.underlying41 (by kernel_rfl) hl h
  match cs, hl with
  | [c0, c1, c2], _ =>
    obtain ⟨v0, y0, e0, h0⟩ := hf 0 _ rfl
    obtain ⟨v1, y1, e1, h1⟩ := hf 1 _ rfl
    obtain ⟨v2, y2, e2, h2⟩ := hf 2 _ rfl
    obtain ⟨a, ha, _, wa⟩ := DataW.trod_int Try.underlying3 h0
    obtain ⟨b, hb, _, wb⟩ := DataW.trod_int Try.underlying3 h1
    obtain ⟨c, hc, _, wc⟩ := DataW.trod_string Try.underlying9 h2
    simp at ha hb hc e0 e1 e2
    subst ha; subst hb; subst hc; subst e0; subst e1; subst e2
    exact ⟨(a, b, c), rfl, wa, wb, wc⟩
/-- What was written is what is wanted, if nothing was wrong. -/
def WSame (bad : Bool) (bs : List UInt8) (want : ByteArray) : Prop := bad = false → bs = want.data.toList
theorem ite_len (b : Bool) (x y : List UInt8) (n : Nat) (h : y.length ≤ n) : (if b then x else x ++ y).length ≤ x.length + n := by cases b <;> simp <;> omega
theorem u32_rng (n : Int) : 0 ≤ IntKind.u32.wrap n ∧ IntKind.u32.wrap n ≤ 4294967295 := by rw [IntKind.wrap_u32]; omega

set_option maxRecDepth 100000 in
set_option maxHeartbeats 8000000 in
theorem writes_any (v : Value) (l : List (Int × Int × ByteArray)) (w : World) (hr : Structs enPut 3 w v l) (hwf : ∀ x ∈ l, (Lit.int .i64 x.1).wf = true ∧ (Lit.int .i64 x.2.1).wf = true ∧ x.2.2.size ≤ maxLen) :
    Calls Try.prog 5 #[v] w fun e w' => e = .returned (.bool true) ∧ Mod [] w w' := by
  have hll := hr.len
  obtain ⟨A, cap, rfl⟩ := hr.form
  by_cases h2 : 60 < l.length
  · go_enter Try.func5, Try.ntmps5
    go_wp2_with (go_at_call 18; refine (awake01_any _).mono ?_; rintro e w1 ⟨rfl, hm⟩)
    go_ret
    exact ⟨rfl, hm⟩
  go_enter Try.func5, Try.ntmps5
  go_wp2_with fail
  refine (awake01_any _).mono ?_
  rintro e w1 ⟨rfl, hm1⟩
  go_wp2_with fail
  have hz1 := hm1.size
  have hw0 : Wr w1.heap.size (w1.alloc (.cells #[.bool false, .pointer none, .slice none 0 0] 39)) w1.heap.size false [] := Wr.new (by (repeat' (first | (with_reducible assumption) | (with_reducible rfl) | (with_reducible apply Blk.drew) | (with_reducible apply Blk.drewN) | (with_reducible refine Blk.new_ _ _ ?_; focus (first | assumption | (simp; omega) | (simp; done) | omega | (simp at *; omega))) | (with_reducible apply Blk.alloc) | (with_reducible apply Blk.other_; focus (first | assumption | (simp; omega) | (simp; done) | omega | (simp at *; omega))) | (with_reducible apply Blk.set_) | (with_reducible apply Blk.mod_ ‹Mod _ _ _›; focus (first | assumption | (simp; omega) | (simp; done) | omega | (simp at *; omega))) | (simp; done)))) (Nat.le_refl _)
  have hm2 : Mod [] w (w1.alloc (.cells #[.bool false, .pointer none, .slice none 0 0] 39)) := by (repeat' (first | (with_reducible exact Mod.refl _ _) | (with_reducible assumption) | (with_reducible refine Mod.drew ?_) | (with_reducible refine Mod.drewN ?_ _) | (with_reducible refine Mod.alloc ?_ _) | (with_reducible refine Mod.setCell_ ?_ ?_; focus (first | (intro hlt_; simp; done) | (intro hlt_; exfalso; simp at hlt_; done) | (intro hlt_; exfalso; simp at hlt_; omega) | (intro hlt_; exfalso; omega) | (intro hlt_; simp at hlt_ ⊢; omega))) | (with_reducible refine Mod.trans_ ‹Mod _ _ _› ?_ ?_; focus (first | (intro x_ hx_ hl_; simp at hx_; done) | (intro x_ hx_ hl_; simp at hx_ ⊢; omega) | (intro x_ hx_ hl_; simp at hx_ hl_ ⊢; omega) | (intro x_ hx_ hl_; simp_all; done) | (intro x_ hx_ hl_; simp_all; omega)))))
  obtain ⟨p, hp⟩ : ∃ p, p = w1.heap.size := ⟨_, rfl⟩
  rw [← hp] at hw0 hz1 ⊢
  clear hp hm1
  go_loopw [4, 5, 6] (fun s4 s5 i wr => ∃ (k : Nat) (want : ByteArray) (bad : Bool) (bs : List UInt8), k ≤ l.length ∧ i = .int .i64 k ∧ s4 = .string want ∧ s5 = .bool bad ∧ Wr p wr p bad bs ∧ Mod [] w wr ∧ want.size ≤ 100 * k ∧ bs.length ≤ 100 * k ∧ WSame bad bs want) (fun _ _ i _ => l.length - (intOf i).toNat)
  case atStart => exact ⟨0, ⟨#[]⟩, false, [], Nat.zero_le _, rfl, rfl, rfl, hw0, hm2, by decide, by decide, fun _ => rfl⟩
  case round =>
    obtain ⟨k, want, bad, bs, hk, rfl, rfl, rfl, hw, hm3, hwz, hbz, hbw⟩ := hrel
    by_cases hlt : k < l.length
    · obtain ⟨b, off, rfl, hcell⟩ := hr.gets k hlt (by simp [enPut])
      have Hc := Lib.hid hcell
      clear hcell
      obtain ⟨kind, hkd⟩ : ∃ x, x = l[k].1 := ⟨_, rfl⟩
      obtain ⟨N, hN⟩ : ∃ x, x = l[k].2.1 := ⟨_, rfl⟩
      obtain ⟨T, hT⟩ : ∃ x, x = l[k].2.2 := ⟨_, rfl⟩
      have wN : (Lit.int .i64 N).wf = true := by rw [hN]; exact (hwf _ (List.getElem_mem hlt)).2.1
      have wT : T.size ≤ maxLen := by rw [hT]; exact (hwf _ (List.getElem_mem hlt)).2.2
      unfold maxLen at wT
      have Hc : Hid (∀ w', Mod [] w w' → w'.cell? ⟨b, off + k * 3, none⟩ = some (.int .i64 kind) ∧ w'.cell? ⟨b, off + k * 3 + 1, none⟩ = some (.int .i64 N) ∧ w'.cell? ⟨b, off + k * 3 + 2, none⟩ = some (.string T)) :=
        fun w' hm' => ⟨by rw [hkd]; exact Hc.out _ hm' 0 _ rfl, by rw [hN]; exact Hc.out _ hm' 1 _ rfl, by rw [hT]; exact Hc.out _ hm' 2 _ rfl⟩
      obtain ⟨hc0, hc1, hc2⟩ := Hc.out _ hm3
      clear hkd hN hT
      have hNb := bounds_i64 wN
      by_cases hTl : 100 < T.size
      · go_wp2_with fail
        go_ret
        exact ⟨rfl, hm3⟩
      by_cases k0 : kind = 0
      · subst k0
        cases bad
        · by_cases hN0 : N < 0
          · have est : putAll 1 255 (false, bs) [N] = (true, bs) := by simp [putAll, putOne, hN0]
            go_wp2_with fail
            refine (wByte_any (b := wr.heap.size) (false, bs) [N] _ (hw.mod0 ((Mod.refl [] _).alloc _)) (show Blk _ _ [Value.int .i64 N] _ from by (repeat' (first | (with_reducible assumption) | (with_reducible rfl) | (with_reducible apply Blk.drew) | (with_reducible apply Blk.drewN) | (with_reducible refine Blk.new_ _ _ ?_; focus (first | assumption | (simp; omega) | (simp; done) | omega | (simp at *; omega))) | (with_reducible apply Blk.alloc) | (with_reducible apply Blk.other_; focus (first | assumption | (simp; omega) | (simp; done) | omega | (simp at *; omega))) | (with_reducible apply Blk.set_) | (with_reducible apply Blk.mod_ ‹Mod _ _ _›; focus (first | assumption | (simp; omega) | (simp; done) | omega | (simp at *; omega))) | (simp; done)))) (by simp; omega) _ rfl (by simp)).mono ?_
            rintro e w3 ⟨rfl, hw3, hm4⟩
            rw [est] at hw3
            have hm5 : Mod [] w w3 := by (repeat' (first | (with_reducible exact Mod.refl _ _) | (with_reducible assumption) | (with_reducible refine Mod.drew ?_) | (with_reducible refine Mod.drewN ?_ _) | (with_reducible refine Mod.alloc ?_ _) | (with_reducible refine Mod.setCell_ ?_ ?_; focus (first | (intro hlt_; simp; done) | (intro hlt_; exfalso; simp at hlt_; done) | (intro hlt_; exfalso; simp at hlt_; omega) | (intro hlt_; exfalso; omega) | (intro hlt_; simp at hlt_ ⊢; omega))) | (with_reducible refine Mod.wtrans_ ‹WMod _ _ _ _› ?_ ?_; focus (first | omega | (simp; omega) | (simp; done))) | (with_reducible refine Mod.trans_ ‹Mod _ _ _› ?_ ?_; focus (first | (intro x_ hx_ hl_; simp at hx_; done) | (intro x_ hx_ hl_; simp at hx_ ⊢; omega) | (intro x_ hx_ hl_; simp at hx_ hl_ ⊢; omega) | (intro x_ hx_ hl_; simp_all; done) | (intro x_ hx_ hl_; simp_all; omega)))))
            clear est hc0 hc1 hc2
            go_wp2_with fail
            refine (rBytes_any _ 1 (by decide) ?_ ?_ _).mono ?_
            · first | omega | exact (u32_rng _).1
            · first | omega | exact (u32_rng _).2
            rintro e w4 ⟨rfl, hm6⟩
            generalize htt : (⟨(numBytes 1 _).toArray⟩ : ByteArray) = t
            have htz : t.size ≤ 4 := by rw [← htt, size_mk, numBytes_length]; decide
            have Ht := Lib.hid htt.symm
            clear htt
            go_wp2_with fail
            go_roundw
            case rel => exact ⟨k + 1, want ++ t, true, bs, by omega, by go_num, rfl, by first | rfl | (simp; done) | (simp; omega), hw3.mod0 hm6, by (repeat' (first | (with_reducible exact Mod.refl _ _) | (with_reducible assumption) | (with_reducible refine Mod.drew ?_) | (with_reducible refine Mod.drewN ?_ _) | (with_reducible refine Mod.alloc ?_ _) | (with_reducible refine Mod.setCell_ ?_ ?_; focus (first | (intro hlt_; simp; done) | (intro hlt_; exfalso; simp at hlt_; done) | (intro hlt_; exfalso; simp at hlt_; omega) | (intro hlt_; exfalso; omega) | (intro hlt_; simp at hlt_ ⊢; omega))) | (with_reducible refine Mod.wtrans_ ‹WMod _ _ _ _› ?_ ?_; focus (first | omega | (simp; omega) | (simp; done))) | (with_reducible refine Mod.trans_ ‹Mod _ _ _› ?_ ?_; focus (first | (intro x_ hx_ hl_; simp at hx_; done) | (intro x_ hx_ hl_; simp at hx_ ⊢; omega) | (intro x_ hx_ hl_; simp at hx_ hl_ ⊢; omega) | (intro x_ hx_ hl_; simp_all; done) | (intro x_ hx_ hl_; simp_all; omega))))), by rw [ByteArray.size_append]; omega, by first | omega | (simp only [List.length_append, numBytes_length]; omega), (fun h => by cases h)⟩
            case measure => simp [intOf]; omega
          by_cases hN1 : 255 < N
          · have est : putAll 1 255 (false, bs) [N] = (true, bs) := by simp [putAll, putOne, hN1]
            go_wp2_with fail
            refine (wByte_any (b := wr.heap.size) (false, bs) [N] _ (hw.mod0 ((Mod.refl [] _).alloc _)) (show Blk _ _ [Value.int .i64 N] _ from by (repeat' (first | (with_reducible assumption) | (with_reducible rfl) | (with_reducible apply Blk.drew) | (with_reducible apply Blk.drewN) | (with_reducible refine Blk.new_ _ _ ?_; focus (first | assumption | (simp; omega) | (simp; done) | omega | (simp at *; omega))) | (with_reducible apply Blk.alloc) | (with_reducible apply Blk.other_; focus (first | assumption | (simp; omega) | (simp; done) | omega | (simp at *; omega))) | (with_reducible apply Blk.set_) | (with_reducible apply Blk.mod_ ‹Mod _ _ _›; focus (first | assumption | (simp; omega) | (simp; done) | omega | (simp at *; omega))) | (simp; done)))) (by simp; omega) _ rfl (by simp)).mono ?_
            rintro e w3 ⟨rfl, hw3, hm4⟩
            rw [est] at hw3
            have hm5 : Mod [] w w3 := by (repeat' (first | (with_reducible exact Mod.refl _ _) | (with_reducible assumption) | (with_reducible refine Mod.drew ?_) | (with_reducible refine Mod.drewN ?_ _) | (with_reducible refine Mod.alloc ?_ _) | (with_reducible refine Mod.setCell_ ?_ ?_; focus (first | (intro hlt_; simp; done) | (intro hlt_; exfalso; simp at hlt_; done) | (intro hlt_; exfalso; simp at hlt_; omega) | (intro hlt_; exfalso; omega) | (intro hlt_; simp at hlt_ ⊢; omega))) | (with_reducible refine Mod.wtrans_ ‹WMod _ _ _ _› ?_ ?_; focus (first | omega | (simp; omega) | (simp; done))) | (with_reducible refine Mod.trans_ ‹Mod _ _ _› ?_ ?_; focus (first | (intro x_ hx_ hl_; simp at hx_; done) | (intro x_ hx_ hl_; simp at hx_ ⊢; omega) | (intro x_ hx_ hl_; simp at hx_ hl_ ⊢; omega) | (intro x_ hx_ hl_; simp_all; done) | (intro x_ hx_ hl_; simp_all; omega)))))
            clear est hc0 hc1 hc2
            go_wp2_with fail
            refine (rBytes_any _ 1 (by decide) ?_ ?_ _).mono ?_
            · first | omega | exact (u32_rng _).1
            · first | omega | exact (u32_rng _).2
            rintro e w4 ⟨rfl, hm6⟩
            generalize htt : (⟨(numBytes 1 _).toArray⟩ : ByteArray) = t
            have htz : t.size ≤ 4 := by rw [← htt, size_mk, numBytes_length]; decide
            have Ht := Lib.hid htt.symm
            clear htt
            go_wp2_with fail
            go_roundw
            case rel => exact ⟨k + 1, want ++ t, true, bs, by omega, by go_num, rfl, by first | rfl | (simp; done) | (simp; omega), hw3.mod0 hm6, by (repeat' (first | (with_reducible exact Mod.refl _ _) | (with_reducible assumption) | (with_reducible refine Mod.drew ?_) | (with_reducible refine Mod.drewN ?_ _) | (with_reducible refine Mod.alloc ?_ _) | (with_reducible refine Mod.setCell_ ?_ ?_; focus (first | (intro hlt_; simp; done) | (intro hlt_; exfalso; simp at hlt_; done) | (intro hlt_; exfalso; simp at hlt_; omega) | (intro hlt_; exfalso; omega) | (intro hlt_; simp at hlt_ ⊢; omega))) | (with_reducible refine Mod.wtrans_ ‹WMod _ _ _ _› ?_ ?_; focus (first | omega | (simp; omega) | (simp; done))) | (with_reducible refine Mod.trans_ ‹Mod _ _ _› ?_ ?_; focus (first | (intro x_ hx_ hl_; simp at hx_; done) | (intro x_ hx_ hl_; simp at hx_ ⊢; omega) | (intro x_ hx_ hl_; simp at hx_ hl_ ⊢; omega) | (intro x_ hx_ hl_; simp_all; done) | (intro x_ hx_ hl_; simp_all; omega))))), by rw [ByteArray.size_append]; omega, by first | omega | (simp only [List.length_append, numBytes_length]; omega), (fun h => by cases h)⟩
            case measure => simp [intOf]; omega
          · have est : putAll 1 255 (false, bs) [N] = (false, bs ++ numBytes 1 N) := putAll_one _ _ _ _ (by omega) (by omega)
            go_wp2_with fail
            refine (wByte_any (b := wr.heap.size) (false, bs) [N] _ (hw.mod0 ((Mod.refl [] _).alloc _)) (show Blk _ _ [Value.int .i64 N] _ from by (repeat' (first | (with_reducible assumption) | (with_reducible rfl) | (with_reducible apply Blk.drew) | (with_reducible apply Blk.drewN) | (with_reducible refine Blk.new_ _ _ ?_; focus (first | assumption | (simp; omega) | (simp; done) | omega | (simp at *; omega))) | (with_reducible apply Blk.alloc) | (with_reducible apply Blk.other_; focus (first | assumption | (simp; omega) | (simp; done) | omega | (simp at *; omega))) | (with_reducible apply Blk.set_) | (with_reducible apply Blk.mod_ ‹Mod _ _ _›; focus (first | assumption | (simp; omega) | (simp; done) | omega | (simp at *; omega))) | (simp; done)))) (by simp; omega) _ rfl (by simp)).mono ?_
            rintro e w3 ⟨rfl, hw3, hm4⟩
            rw [est] at hw3
            have hm5 : Mod [] w w3 := by (repeat' (first | (with_reducible exact Mod.refl _ _) | (with_reducible assumption) | (with_reducible refine Mod.drew ?_) | (with_reducible refine Mod.drewN ?_ _) | (with_reducible refine Mod.alloc ?_ _) | (with_reducible refine Mod.setCell_ ?_ ?_; focus (first | (intro hlt_; simp; done) | (intro hlt_; exfalso; simp at hlt_; done) | (intro hlt_; exfalso; simp at hlt_; omega) | (intro hlt_; exfalso; omega) | (intro hlt_; simp at hlt_ ⊢; omega))) | (with_reducible refine Mod.wtrans_ ‹WMod _ _ _ _› ?_ ?_; focus (first | omega | (simp; omega) | (simp; done))) | (with_reducible refine Mod.trans_ ‹Mod _ _ _› ?_ ?_; focus (first | (intro x_ hx_ hl_; simp at hx_; done) | (intro x_ hx_ hl_; simp at hx_ ⊢; omega) | (intro x_ hx_ hl_; simp at hx_ hl_ ⊢; omega) | (intro x_ hx_ hl_; simp_all; done) | (intro x_ hx_ hl_; simp_all; omega)))))
            clear est hc0 hc1 hc2
            go_wp2_with fail
            refine (rBytes_any _ 1 (by decide) ?_ ?_ _).mono ?_
            · first | omega | exact (u32_rng _).1
            · first | omega | exact (u32_rng _).2
            rintro e w4 ⟨rfl, hm6⟩
            generalize htt : (⟨(numBytes 1 _).toArray⟩ : ByteArray) = t
            have htz : t.size ≤ 4 := by rw [← htt, size_mk, numBytes_length]; decide
            have Ht := Lib.hid htt.symm
            clear htt
            go_wp2_with fail
            go_roundw
            case rel => exact ⟨k + 1, want ++ t, false, (bs ++ numBytes 1 N), by omega, by go_num, rfl, by first | rfl | (simp; done) | (simp; omega), hw3.mod0 hm6, by (repeat' (first | (with_reducible exact Mod.refl _ _) | (with_reducible assumption) | (with_reducible refine Mod.drew ?_) | (with_reducible refine Mod.drewN ?_ _) | (with_reducible refine Mod.alloc ?_ _) | (with_reducible refine Mod.setCell_ ?_ ?_; focus (first | (intro hlt_; simp; done) | (intro hlt_; exfalso; simp at hlt_; done) | (intro hlt_; exfalso; simp at hlt_; omega) | (intro hlt_; exfalso; omega) | (intro hlt_; simp at hlt_ ⊢; omega))) | (with_reducible refine Mod.wtrans_ ‹WMod _ _ _ _› ?_ ?_; focus (first | omega | (simp; omega) | (simp; done))) | (with_reducible refine Mod.trans_ ‹Mod _ _ _› ?_ ?_; focus (first | (intro x_ hx_ hl_; simp at hx_; done) | (intro x_ hx_ hl_; simp at hx_ ⊢; omega) | (intro x_ hx_ hl_; simp at hx_ hl_ ⊢; omega) | (intro x_ hx_ hl_; simp_all; done) | (intro x_ hx_ hl_; simp_all; omega))))), by rw [ByteArray.size_append]; omega, by first | omega | (simp only [List.length_append, numBytes_length]; omega), (fun _ => by rw [Ht.out, hbw rfl, ByteArray.data_append, Array.toList_append])⟩
            case measure => simp [intOf]; omega
        · have est : putAll 1 255 (true, bs) [N] = (true, bs) := by simp [putAll, putOne]
          go_wp2_with fail
          refine (wByte_any (b := wr.heap.size) (true, bs) [N] _ (hw.mod0 ((Mod.refl [] _).alloc _)) (show Blk _ _ [Value.int .i64 N] _ from by (repeat' (first | (with_reducible assumption) | (with_reducible rfl) | (with_reducible apply Blk.drew) | (with_reducible apply Blk.drewN) | (with_reducible refine Blk.new_ _ _ ?_; focus (first | assumption | (simp; omega) | (simp; done) | omega | (simp at *; omega))) | (with_reducible apply Blk.alloc) | (with_reducible apply Blk.other_; focus (first | assumption | (simp; omega) | (simp; done) | omega | (simp at *; omega))) | (with_reducible apply Blk.set_) | (with_reducible apply Blk.mod_ ‹Mod _ _ _›; focus (first | assumption | (simp; omega) | (simp; done) | omega | (simp at *; omega))) | (simp; done)))) (by simp; omega) _ rfl (by simp)).mono ?_
          rintro e w3 ⟨rfl, hw3, hm4⟩
          rw [est] at hw3
          have hm5 : Mod [] w w3 := by (repeat' (first | (with_reducible exact Mod.refl _ _) | (with_reducible assumption) | (with_reducible refine Mod.drew ?_) | (with_reducible refine Mod.drewN ?_ _) | (with_reducible refine Mod.alloc ?_ _) | (with_reducible refine Mod.setCell_ ?_ ?_; focus (first | (intro hlt_; simp; done) | (intro hlt_; exfalso; simp at hlt_; done) | (intro hlt_; exfalso; simp at hlt_; omega) | (intro hlt_; exfalso; omega) | (intro hlt_; simp at hlt_ ⊢; omega))) | (with_reducible refine Mod.wtrans_ ‹WMod _ _ _ _› ?_ ?_; focus (first | omega | (simp; omega) | (simp; done))) | (with_reducible refine Mod.trans_ ‹Mod _ _ _› ?_ ?_; focus (first | (intro x_ hx_ hl_; simp at hx_; done) | (intro x_ hx_ hl_; simp at hx_ ⊢; omega) | (intro x_ hx_ hl_; simp at hx_ hl_ ⊢; omega) | (intro x_ hx_ hl_; simp_all; done) | (intro x_ hx_ hl_; simp_all; omega)))))
          clear est hc0 hc1 hc2
          go_wp2_with fail
          refine (rBytes_any _ 1 (by decide) ?_ ?_ _).mono ?_
          · first | omega | exact (u32_rng _).1
          · first | omega | exact (u32_rng _).2
          rintro e w4 ⟨rfl, hm6⟩
          generalize htt : (⟨(numBytes 1 _).toArray⟩ : ByteArray) = t
          have htz : t.size ≤ 4 := by rw [← htt, size_mk, numBytes_length]; decide
          have Ht := Lib.hid htt.symm
          clear htt
          go_wp2_with fail
          go_roundw
          case rel => exact ⟨k + 1, want ++ t, true, bs, by omega, by go_num, rfl, by first | rfl | (simp; done) | (simp; omega), hw3.mod0 hm6, by (repeat' (first | (with_reducible exact Mod.refl _ _) | (with_reducible assumption) | (with_reducible refine Mod.drew ?_) | (with_reducible refine Mod.drewN ?_ _) | (with_reducible refine Mod.alloc ?_ _) | (with_reducible refine Mod.setCell_ ?_ ?_; focus (first | (intro hlt_; simp; done) | (intro hlt_; exfalso; simp at hlt_; done) | (intro hlt_; exfalso; simp at hlt_; omega) | (intro hlt_; exfalso; omega) | (intro hlt_; simp at hlt_ ⊢; omega))) | (with_reducible refine Mod.wtrans_ ‹WMod _ _ _ _› ?_ ?_; focus (first | omega | (simp; omega) | (simp; done))) | (with_reducible refine Mod.trans_ ‹Mod _ _ _› ?_ ?_; focus (first | (intro x_ hx_ hl_; simp at hx_; done) | (intro x_ hx_ hl_; simp at hx_ ⊢; omega) | (intro x_ hx_ hl_; simp at hx_ hl_ ⊢; omega) | (intro x_ hx_ hl_; simp_all; done) | (intro x_ hx_ hl_; simp_all; omega))))), by rw [ByteArray.size_append]; omega, by first | omega | (simp only [List.length_append, numBytes_length]; omega), (fun h => by cases h)⟩
          case measure => simp [intOf]; omega
      by_cases k1 : kind = 1
      · subst k1
        cases bad
        · by_cases hN0 : N < 0
          · have est : putAll 2 65535 (false, bs) [N] = (true, bs) := by simp [putAll, putOne, hN0]
            go_wp2_with fail
            refine (wShort_any (b := wr.heap.size) (false, bs) [N] _ (hw.mod0 ((Mod.refl [] _).alloc _)) (show Blk _ _ [Value.int .i64 N] _ from by (repeat' (first | (with_reducible assumption) | (with_reducible rfl) | (with_reducible apply Blk.drew) | (with_reducible apply Blk.drewN) | (with_reducible refine Blk.new_ _ _ ?_; focus (first | assumption | (simp; omega) | (simp; done) | omega | (simp at *; omega))) | (with_reducible apply Blk.alloc) | (with_reducible apply Blk.other_; focus (first | assumption | (simp; omega) | (simp; done) | omega | (simp at *; omega))) | (with_reducible apply Blk.set_) | (with_reducible apply Blk.mod_ ‹Mod _ _ _›; focus (first | assumption | (simp; omega) | (simp; done) | omega | (simp at *; omega))) | (simp; done)))) (by simp; omega) _ rfl (by simp)).mono ?_
            rintro e w3 ⟨rfl, hw3, hm4⟩
            rw [est] at hw3
            have hm5 : Mod [] w w3 := by (repeat' (first | (with_reducible exact Mod.refl _ _) | (with_reducible assumption) | (with_reducible refine Mod.drew ?_) | (with_reducible refine Mod.drewN ?_ _) | (with_reducible refine Mod.alloc ?_ _) | (with_reducible refine Mod.setCell_ ?_ ?_; focus (first | (intro hlt_; simp; done) | (intro hlt_; exfalso; simp at hlt_; done) | (intro hlt_; exfalso; simp at hlt_; omega) | (intro hlt_; exfalso; omega) | (intro hlt_; simp at hlt_ ⊢; omega))) | (with_reducible refine Mod.wtrans_ ‹WMod _ _ _ _› ?_ ?_; focus (first | omega | (simp; omega) | (simp; done))) | (with_reducible refine Mod.trans_ ‹Mod _ _ _› ?_ ?_; focus (first | (intro x_ hx_ hl_; simp at hx_; done) | (intro x_ hx_ hl_; simp at hx_ ⊢; omega) | (intro x_ hx_ hl_; simp at hx_ hl_ ⊢; omega) | (intro x_ hx_ hl_; simp_all; done) | (intro x_ hx_ hl_; simp_all; omega)))))
            clear est hc0 hc1 hc2
            go_wp2_with fail
            refine (rBytes_any _ 2 (by decide) ?_ ?_ _).mono ?_
            · first | omega | exact (u32_rng _).1
            · first | omega | exact (u32_rng _).2
            rintro e w4 ⟨rfl, hm6⟩
            generalize htt : (⟨(numBytes 2 _).toArray⟩ : ByteArray) = t
            have htz : t.size ≤ 4 := by rw [← htt, size_mk, numBytes_length]; decide
            have Ht := Lib.hid htt.symm
            clear htt
            go_wp2_with fail
            go_roundw
            case rel => exact ⟨k + 1, want ++ t, true, bs, by omega, by go_num, rfl, by first | rfl | (simp; done) | (simp; omega), hw3.mod0 hm6, by (repeat' (first | (with_reducible exact Mod.refl _ _) | (with_reducible assumption) | (with_reducible refine Mod.drew ?_) | (with_reducible refine Mod.drewN ?_ _) | (with_reducible refine Mod.alloc ?_ _) | (with_reducible refine Mod.setCell_ ?_ ?_; focus (first | (intro hlt_; simp; done) | (intro hlt_; exfalso; simp at hlt_; done) | (intro hlt_; exfalso; simp at hlt_; omega) | (intro hlt_; exfalso; omega) | (intro hlt_; simp at hlt_ ⊢; omega))) | (with_reducible refine Mod.wtrans_ ‹WMod _ _ _ _› ?_ ?_; focus (first | omega | (simp; omega) | (simp; done))) | (with_reducible refine Mod.trans_ ‹Mod _ _ _› ?_ ?_; focus (first | (intro x_ hx_ hl_; simp at hx_; done) | (intro x_ hx_ hl_; simp at hx_ ⊢; omega) | (intro x_ hx_ hl_; simp at hx_ hl_ ⊢; omega) | (intro x_ hx_ hl_; simp_all; done) | (intro x_ hx_ hl_; simp_all; omega))))), by rw [ByteArray.size_append]; omega, by first | omega | (simp only [List.length_append, numBytes_length]; omega), (fun h => by cases h)⟩
            case measure => simp [intOf]; omega
          by_cases hN1 : 65535 < N
          · have est : putAll 2 65535 (false, bs) [N] = (true, bs) := by simp [putAll, putOne, hN1]
            go_wp2_with fail
            refine (wShort_any (b := wr.heap.size) (false, bs) [N] _ (hw.mod0 ((Mod.refl [] _).alloc _)) (show Blk _ _ [Value.int .i64 N] _ from by (repeat' (first | (with_reducible assumption) | (with_reducible rfl) | (with_reducible apply Blk.drew) | (with_reducible apply Blk.drewN) | (with_reducible refine Blk.new_ _ _ ?_; focus (first | assumption | (simp; omega) | (simp; done) | omega | (simp at *; omega))) | (with_reducible apply Blk.alloc) | (with_reducible apply Blk.other_; focus (first | assumption | (simp; omega) | (simp; done) | omega | (simp at *; omega))) | (with_reducible apply Blk.set_) | (with_reducible apply Blk.mod_ ‹Mod _ _ _›; focus (first | assumption | (simp; omega) | (simp; done) | omega | (simp at *; omega))) | (simp; done)))) (by simp; omega) _ rfl (by simp)).mono ?_
            rintro e w3 ⟨rfl, hw3, hm4⟩
            rw [est] at hw3
            have hm5 : Mod [] w w3 := by (repeat' (first | (with_reducible exact Mod.refl _ _) | (with_reducible assumption) | (with_reducible refine Mod.drew ?_) | (with_reducible refine Mod.drewN ?_ _) | (with_reducible refine Mod.alloc ?_ _) | (with_reducible refine Mod.setCell_ ?_ ?_; focus (first | (intro hlt_; simp; done) | (intro hlt_; exfalso; simp at hlt_; done) | (intro hlt_; exfalso; simp at hlt_; omega) | (intro hlt_; exfalso; omega) | (intro hlt_; simp at hlt_ ⊢; omega))) | (with_reducible refine Mod.wtrans_ ‹WMod _ _ _ _› ?_ ?_; focus (first | omega | (simp; omega) | (simp; done))) | (with_reducible refine Mod.trans_ ‹Mod _ _ _› ?_ ?_; focus (first | (intro x_ hx_ hl_; simp at hx_; done) | (intro x_ hx_ hl_; simp at hx_ ⊢; omega) | (intro x_ hx_ hl_; simp at hx_ hl_ ⊢; omega) | (intro x_ hx_ hl_; simp_all; done) | (intro x_ hx_ hl_; simp_all; omega)))))
            clear est hc0 hc1 hc2
            go_wp2_with fail
            refine (rBytes_any _ 2 (by decide) ?_ ?_ _).mono ?_
            · first | omega | exact (u32_rng _).1
            · first | omega | exact (u32_rng _).2
            rintro e w4 ⟨rfl, hm6⟩
            generalize htt : (⟨(numBytes 2 _).toArray⟩ : ByteArray) = t
            have htz : t.size ≤ 4 := by rw [← htt, size_mk, numBytes_length]; decide
            have Ht := Lib.hid htt.symm
            clear htt
            go_wp2_with fail
            go_roundw
            case rel => exact ⟨k + 1, want ++ t, true, bs, by omega, by go_num, rfl, by first | rfl | (simp; done) | (simp; omega), hw3.mod0 hm6, by (repeat' (first | (with_reducible exact Mod.refl _ _) | (with_reducible assumption) | (with_reducible refine Mod.drew ?_) | (with_reducible refine Mod.drewN ?_ _) | (with_reducible refine Mod.alloc ?_ _) | (with_reducible refine Mod.setCell_ ?_ ?_; focus (first | (intro hlt_; simp; done) | (intro hlt_; exfalso; simp at hlt_; done) | (intro hlt_; exfalso; simp at hlt_; omega) | (intro hlt_; exfalso; omega) | (intro hlt_; simp at hlt_ ⊢; omega))) | (with_reducible refine Mod.wtrans_ ‹WMod _ _ _ _› ?_ ?_; focus (first | omega | (simp; omega) | (simp; done))) | (with_reducible refine Mod.trans_ ‹Mod _ _ _› ?_ ?_; focus (first | (intro x_ hx_ hl_; simp at hx_; done) | (intro x_ hx_ hl_; simp at hx_ ⊢; omega) | (intro x_ hx_ hl_; simp at hx_ hl_ ⊢; omega) | (intro x_ hx_ hl_; simp_all; done) | (intro x_ hx_ hl_; simp_all; omega))))), by rw [ByteArray.size_append]; omega, by first | omega | (simp only [List.length_append, numBytes_length]; omega), (fun h => by cases h)⟩
            case measure => simp [intOf]; omega
          · have est : putAll 2 65535 (false, bs) [N] = (false, bs ++ numBytes 2 N) := putAll_one _ _ _ _ (by omega) (by omega)
            go_wp2_with fail
            refine (wShort_any (b := wr.heap.size) (false, bs) [N] _ (hw.mod0 ((Mod.refl [] _).alloc _)) (show Blk _ _ [Value.int .i64 N] _ from by (repeat' (first | (with_reducible assumption) | (with_reducible rfl) | (with_reducible apply Blk.drew) | (with_reducible apply Blk.drewN) | (with_reducible refine Blk.new_ _ _ ?_; focus (first | assumption | (simp; omega) | (simp; done) | omega | (simp at *; omega))) | (with_reducible apply Blk.alloc) | (with_reducible apply Blk.other_; focus (first | assumption | (simp; omega) | (simp; done) | omega | (simp at *; omega))) | (with_reducible apply Blk.set_) | (with_reducible apply Blk.mod_ ‹Mod _ _ _›; focus (first | assumption | (simp; omega) | (simp; done) | omega | (simp at *; omega))) | (simp; done)))) (by simp; omega) _ rfl (by simp)).mono ?_
            rintro e w3 ⟨rfl, hw3, hm4⟩
            rw [est] at hw3
            have hm5 : Mod [] w w3 := by (repeat' (first | (with_reducible exact Mod.refl _ _) | (with_reducible assumption) | (with_reducible refine Mod.drew ?_) | (with_reducible refine Mod.drewN ?_ _) | (with_reducible refine Mod.alloc ?_ _) | (with_reducible refine Mod.setCell_ ?_ ?_; focus (first | (intro hlt_; simp; done) | (intro hlt_; exfalso; simp at hlt_; done) | (intro hlt_; exfalso; simp at hlt_; omega) | (intro hlt_; exfalso; omega) | (intro hlt_; simp at hlt_ ⊢; omega))) | (with_reducible refine Mod.wtrans_ ‹WMod _ _ _ _› ?_ ?_; focus (first | omega | (simp; omega) | (simp; done))) | (with_reducible refine Mod.trans_ ‹Mod _ _ _› ?_ ?_; focus (first | (intro x_ hx_ hl_; simp at hx_; done) | (intro x_ hx_ hl_; simp at hx_ ⊢; omega) | (intro x_ hx_ hl_; simp at hx_ hl_ ⊢; omega) | (intro x_ hx_ hl_; simp_all; done) | (intro x_ hx_ hl_; simp_all; omega)))))
            clear est hc0 hc1 hc2
            go_wp2_with fail
            refine (rBytes_any _ 2 (by decide) ?_ ?_ _).mono ?_
            · first | omega | exact (u32_rng _).1
            · first | omega | exact (u32_rng _).2
            rintro e w4 ⟨rfl, hm6⟩
            generalize htt : (⟨(numBytes 2 _).toArray⟩ : ByteArray) = t
            have htz : t.size ≤ 4 := by rw [← htt, size_mk, numBytes_length]; decide
            have Ht := Lib.hid htt.symm
            clear htt
            go_wp2_with fail
            go_roundw
            case rel => exact ⟨k + 1, want ++ t, false, (bs ++ numBytes 2 N), by omega, by go_num, rfl, by first | rfl | (simp; done) | (simp; omega), hw3.mod0 hm6, by (repeat' (first | (with_reducible exact Mod.refl _ _) | (with_reducible assumption) | (with_reducible refine Mod.drew ?_) | (with_reducible refine Mod.drewN ?_ _) | (with_reducible refine Mod.alloc ?_ _) | (with_reducible refine Mod.setCell_ ?_ ?_; focus (first | (intro hlt_; simp; done) | (intro hlt_; exfalso; simp at hlt_; done) | (intro hlt_; exfalso; simp at hlt_; omega) | (intro hlt_; exfalso; omega) | (intro hlt_; simp at hlt_ ⊢; omega))) | (with_reducible refine Mod.wtrans_ ‹WMod _ _ _ _› ?_ ?_; focus (first | omega | (simp; omega) | (simp; done))) | (with_reducible refine Mod.trans_ ‹Mod _ _ _› ?_ ?_; focus (first | (intro x_ hx_ hl_; simp at hx_; done) | (intro x_ hx_ hl_; simp at hx_ ⊢; omega) | (intro x_ hx_ hl_; simp at hx_ hl_ ⊢; omega) | (intro x_ hx_ hl_; simp_all; done) | (intro x_ hx_ hl_; simp_all; omega))))), by rw [ByteArray.size_append]; omega, by first | omega | (simp only [List.length_append, numBytes_length]; omega), (fun _ => by rw [Ht.out, hbw rfl, ByteArray.data_append, Array.toList_append])⟩
            case measure => simp [intOf]; omega
        · have est : putAll 2 65535 (true, bs) [N] = (true, bs) := by simp [putAll, putOne]
          go_wp2_with fail
          refine (wShort_any (b := wr.heap.size) (true, bs) [N] _ (hw.mod0 ((Mod.refl [] _).alloc _)) (show Blk _ _ [Value.int .i64 N] _ from by (repeat' (first | (with_reducible assumption) | (with_reducible rfl) | (with_reducible apply Blk.drew) | (with_reducible apply Blk.drewN) | (with_reducible refine Blk.new_ _ _ ?_; focus (first | assumption | (simp; omega) | (simp; done) | omega | (simp at *; omega))) | (with_reducible apply Blk.alloc) | (with_reducible apply Blk.other_; focus (first | assumption | (simp; omega) | (simp; done) | omega | (simp at *; omega))) | (with_reducible apply Blk.set_) | (with_reducible apply Blk.mod_ ‹Mod _ _ _›; focus (first | assumption | (simp; omega) | (simp; done) | omega | (simp at *; omega))) | (simp; done)))) (by simp; omega) _ rfl (by simp)).mono ?_
          rintro e w3 ⟨rfl, hw3, hm4⟩
          rw [est] at hw3
          have hm5 : Mod [] w w3 := by (repeat' (first | (with_reducible exact Mod.refl _ _) | (with_reducible assumption) | (with_reducible refine Mod.drew ?_) | (with_reducible refine Mod.drewN ?_ _) | (with_reducible refine Mod.alloc ?_ _) | (with_reducible refine Mod.setCell_ ?_ ?_; focus (first | (intro hlt_; simp; done) | (intro hlt_; exfalso; simp at hlt_; done) | (intro hlt_; exfalso; simp at hlt_; omega) | (intro hlt_; exfalso; omega) | (intro hlt_; simp at hlt_ ⊢; omega))) | (with_reducible refine Mod.wtrans_ ‹WMod _ _ _ _› ?_ ?_; focus (first | omega | (simp; omega) | (simp; done))) | (with_reducible refine Mod.trans_ ‹Mod _ _ _› ?_ ?_; focus (first | (intro x_ hx_ hl_; simp at hx_; done) | (intro x_ hx_ hl_; simp at hx_ ⊢; omega) | (intro x_ hx_ hl_; simp at hx_ hl_ ⊢; omega) | (intro x_ hx_ hl_; simp_all; done) | (intro x_ hx_ hl_; simp_all; omega)))))
          clear est hc0 hc1 hc2
          go_wp2_with fail
          refine (rBytes_any _ 2 (by decide) ?_ ?_ _).mono ?_
          · first | omega | exact (u32_rng _).1
          · first | omega | exact (u32_rng _).2
          rintro e w4 ⟨rfl, hm6⟩
          generalize htt : (⟨(numBytes 2 _).toArray⟩ : ByteArray) = t
          have htz : t.size ≤ 4 := by rw [← htt, size_mk, numBytes_length]; decide
          have Ht := Lib.hid htt.symm
          clear htt
          go_wp2_with fail
          go_roundw
          case rel => exact ⟨k + 1, want ++ t, true, bs, by omega, by go_num, rfl, by first | rfl | (simp; done) | (simp; omega), hw3.mod0 hm6, by (repeat' (first | (with_reducible exact Mod.refl _ _) | (with_reducible assumption) | (with_reducible refine Mod.drew ?_) | (with_reducible refine Mod.drewN ?_ _) | (with_reducible refine Mod.alloc ?_ _) | (with_reducible refine Mod.setCell_ ?_ ?_; focus (first | (intro hlt_; simp; done) | (intro hlt_; exfalso; simp at hlt_; done) | (intro hlt_; exfalso; simp at hlt_; omega) | (intro hlt_; exfalso; omega) | (intro hlt_; simp at hlt_ ⊢; omega))) | (with_reducible refine Mod.wtrans_ ‹WMod _ _ _ _› ?_ ?_; focus (first | omega | (simp; omega) | (simp; done))) | (with_reducible refine Mod.trans_ ‹Mod _ _ _› ?_ ?_; focus (first | (intro x_ hx_ hl_; simp at hx_; done) | (intro x_ hx_ hl_; simp at hx_ ⊢; omega) | (intro x_ hx_ hl_; simp at hx_ hl_ ⊢; omega) | (intro x_ hx_ hl_; simp_all; done) | (intro x_ hx_ hl_; simp_all; omega))))), by rw [ByteArray.size_append]; omega, by first | omega | (simp only [List.length_append, numBytes_length]; omega), (fun h => by cases h)⟩
          case measure => simp [intOf]; omega
      by_cases k2 : kind = 2
      · subst k2
        have hrg : 0 ≤ N % 4294967296 ∧ N % 4294967296 ≤ 4294967295 := by omega
        have est : putAll 4 4294967295 (bad, bs) [(N % 4294967296 : Int)] = (bad, if bad then bs else bs ++ numBytes 4 (N % 4294967296)) := by
          cases bad
          · exact putAll_one _ _ _ _ (by omega) (by omega)
          · simp [putAll, putOne]
        go_wp2_with fail
        refine (wWord_any (b := wr.heap.size) (bad, bs) [(N % 4294967296 : Int)] _ (hw.mod0 ((Mod.refl [] _).alloc _)) (show Blk _ _ [Value.int .u32 (N % 4294967296)] _ from by (repeat' (first | (with_reducible assumption) | (with_reducible rfl) | (with_reducible apply Blk.drew) | (with_reducible apply Blk.drewN) | (with_reducible refine Blk.new_ _ _ ?_; focus (first | assumption | (simp; omega) | (simp; done) | omega | (simp at *; omega))) | (with_reducible apply Blk.alloc) | (with_reducible apply Blk.other_; focus (first | assumption | (simp; omega) | (simp; done) | omega | (simp at *; omega))) | (with_reducible apply Blk.set_) | (with_reducible apply Blk.mod_ ‹Mod _ _ _›; focus (first | assumption | (simp; omega) | (simp; done) | omega | (simp at *; omega))) | (simp; done)))) (by simp; omega) _ rfl (by simp) (by simp only [List.mem_singleton]; rintro x rfl; exact hrg)).mono ?_
        rintro e w3 ⟨rfl, hw3, hm4⟩
        rw [est] at hw3
        have hm5 : Mod [] w w3 := by (repeat' (first | (with_reducible exact Mod.refl _ _) | (with_reducible assumption) | (with_reducible refine Mod.drew ?_) | (with_reducible refine Mod.drewN ?_ _) | (with_reducible refine Mod.alloc ?_ _) | (with_reducible refine Mod.setCell_ ?_ ?_; focus (first | (intro hlt_; simp; done) | (intro hlt_; exfalso; simp at hlt_; done) | (intro hlt_; exfalso; simp at hlt_; omega) | (intro hlt_; exfalso; omega) | (intro hlt_; simp at hlt_ ⊢; omega))) | (with_reducible refine Mod.wtrans_ ‹WMod _ _ _ _› ?_ ?_; focus (first | omega | (simp; omega) | (simp; done))) | (with_reducible refine Mod.trans_ ‹Mod _ _ _› ?_ ?_; focus (first | (intro x_ hx_ hl_; simp at hx_; done) | (intro x_ hx_ hl_; simp at hx_ ⊢; omega) | (intro x_ hx_ hl_; simp at hx_ hl_ ⊢; omega) | (intro x_ hx_ hl_; simp_all; done) | (intro x_ hx_ hl_; simp_all; omega)))))
        clear est hc0 hc1 hc2
        go_wp2_with fail
        refine (rBytes_any _ 4 (by decide) hrg.1 hrg.2 _).mono ?_
        rintro e w4 ⟨rfl, hm6⟩
        generalize htt : (⟨(numBytes 4 (N % 4294967296)).toArray⟩ : ByteArray) = t
        have htz : t.size ≤ 4 := by rw [← htt, size_mk, numBytes_length]; decide
        have Ht := Lib.hid htt.symm
        clear htt
        go_wp2_with fail
        go_roundw
        case rel => exact ⟨k + 1, want ++ t, bad, _, by omega, by go_num, rfl, rfl, hw3.mod0 hm6, by (repeat' (first | (with_reducible exact Mod.refl _ _) | (with_reducible assumption) | (with_reducible refine Mod.drew ?_) | (with_reducible refine Mod.drewN ?_ _) | (with_reducible refine Mod.alloc ?_ _) | (with_reducible refine Mod.setCell_ ?_ ?_; focus (first | (intro hlt_; simp; done) | (intro hlt_; exfalso; simp at hlt_; done) | (intro hlt_; exfalso; simp at hlt_; omega) | (intro hlt_; exfalso; omega) | (intro hlt_; simp at hlt_ ⊢; omega))) | (with_reducible refine Mod.wtrans_ ‹WMod _ _ _ _› ?_ ?_; focus (first | omega | (simp; omega) | (simp; done))) | (with_reducible refine Mod.trans_ ‹Mod _ _ _› ?_ ?_; focus (first | (intro x_ hx_ hl_; simp at hx_; done) | (intro x_ hx_ hl_; simp at hx_ ⊢; omega) | (intro x_ hx_ hl_; simp at hx_ hl_ ⊢; omega) | (intro x_ hx_ hl_; simp_all; done) | (intro x_ hx_ hl_; simp_all; omega))))), by rw [ByteArray.size_append]; omega, by have := ite_len bad bs (numBytes 4 (N % 4294967296)) 4 (by rw [numBytes_length]; exact Nat.le_refl _); omega, fun h => by subst h; rw [Ht.out, ByteArray.data_append, Array.toList_append, ← hbw rfl]; rfl⟩
        case measure => simp [intOf]; omega
      by_cases k3 : kind = 3
      · subst k3
        have est : textAll (bad, bs) [T] = (bad, if bad then bs else bs ++ T.data.toList) := by cases bad <;> simp [textAll, textOne]
        go_wp2_with fail
        refine (wText_any (b := wr.heap.size) (bad, bs) [T] _ (hw.mod0 ((Mod.refl [] _).alloc _)) (show Blk _ _ [Value.string T] _ from by (repeat' (first | (with_reducible assumption) | (with_reducible rfl) | (with_reducible apply Blk.drew) | (with_reducible apply Blk.drewN) | (with_reducible refine Blk.new_ _ _ ?_; focus (first | assumption | (simp; omega) | (simp; done) | omega | (simp at *; omega))) | (with_reducible apply Blk.alloc) | (with_reducible apply Blk.other_; focus (first | assumption | (simp; omega) | (simp; done) | omega | (simp at *; omega))) | (with_reducible apply Blk.set_) | (with_reducible apply Blk.mod_ ‹Mod _ _ _›; focus (first | assumption | (simp; omega) | (simp; done) | omega | (simp at *; omega))) | (simp; done)))) (by simp [textLen]; omega) _ rfl (by simp)).mono ?_
        rintro e w3 ⟨rfl, hw3, hm4⟩
        rw [est] at hw3
        have hm5 : Mod [] w w3 := by (repeat' (first | (with_reducible exact Mod.refl _ _) | (with_reducible assumption) | (with_reducible refine Mod.drew ?_) | (with_reducible refine Mod.drewN ?_ _) | (with_reducible refine Mod.alloc ?_ _) | (with_reducible refine Mod.setCell_ ?_ ?_; focus (first | (intro hlt_; simp; done) | (intro hlt_; exfalso; simp at hlt_; done) | (intro hlt_; exfalso; simp at hlt_; omega) | (intro hlt_; exfalso; omega) | (intro hlt_; simp at hlt_ ⊢; omega))) | (with_reducible refine Mod.wtrans_ ‹WMod _ _ _ _› ?_ ?_; focus (first | omega | (simp; omega) | (simp; done))) | (with_reducible refine Mod.trans_ ‹Mod _ _ _› ?_ ?_; focus (first | (intro x_ hx_ hl_; simp at hx_; done) | (intro x_ hx_ hl_; simp at hx_ ⊢; omega) | (intro x_ hx_ hl_; simp at hx_ hl_ ⊢; omega) | (intro x_ hx_ hl_; simp_all; done) | (intro x_ hx_ hl_; simp_all; omega)))))
        clear est hc0 hc1 hc2
        obtain ⟨hc0, hc1, hc2⟩ := Hc.out _ hm5
        go_wp2_with fail
        go_roundw
        case rel => exact ⟨k + 1, want ++ T, bad, _, by omega, by go_num, rfl, rfl, hw3, hm5, by rw [ByteArray.size_append]; omega, by have := ite_len bad bs T.data.toList 100 (show T.size ≤ 100 by omega); omega, fun h => by subst h; rw [ByteArray.data_append, Array.toList_append, ← hbw rfl]; rfl⟩
        case measure => simp [intOf]; omega
      go_wp2_with fail
      go_roundw
      case rel => exact ⟨k + 1, want, bad, bs, by omega, by go_num, congrArg Value.string (show want ++ ByteArray.empty = want by simp), rfl, hw, hm3, by omega, by omega, hbw⟩
      case measure => simp [intOf]; omega
    · obtain rfl : k = l.length := by omega
      cases bad
      · have hd : doneOf (false, bs) = (want, 0) := by rw [doneOf_ok _ (by omega), hbw rfl]
        go_wp2_with fail
        refine (wDone_any (false, bs) _ hw).mono ?_
        rintro e w3 ⟨rfl, hw3, hm4⟩
        rw [hd]
        go_wp2_with fail
        go_ret
        exact ⟨rfl, by (repeat' (first | (with_reducible exact Mod.refl _ _) | (with_reducible assumption) | (with_reducible refine Mod.drew ?_) | (with_reducible refine Mod.drewN ?_ _) | (with_reducible refine Mod.alloc ?_ _) | (with_reducible refine Mod.setCell_ ?_ ?_; focus (first | (intro hlt_; simp; done) | (intro hlt_; exfalso; simp at hlt_; done) | (intro hlt_; exfalso; simp at hlt_; omega) | (intro hlt_; exfalso; omega) | (intro hlt_; simp at hlt_ ⊢; omega))) | (with_reducible refine Mod.wtrans_ ‹WMod _ _ _ _› ?_ ?_; focus (first | omega | (simp; omega) | (simp; done))) | (with_reducible refine Mod.trans_ ‹Mod _ _ _› ?_ ?_; focus (first | (intro x_ hx_ hl_; simp at hx_; done) | (intro x_ hx_ hl_; simp at hx_ ⊢; omega) | (intro x_ hx_ hl_; simp at hx_ hl_ ⊢; omega) | (intro x_ hx_ hl_; simp_all; done) | (intro x_ hx_ hl_; simp_all; omega)))))⟩
      · have hd : doneOf (true, bs) = (⟨#[]⟩, 1) := by simp [doneOf]
        go_wp2_with fail
        refine (wDone_any (true, bs) _ hw).mono ?_
        rintro e w3 ⟨rfl, hw3, hm4⟩
        rw [hd]
        go_wp2_with fail
        go_ret
        exact ⟨rfl, by (repeat' (first | (with_reducible exact Mod.refl _ _) | (with_reducible assumption) | (with_reducible refine Mod.drew ?_) | (with_reducible refine Mod.drewN ?_ _) | (with_reducible refine Mod.alloc ?_ _) | (with_reducible refine Mod.setCell_ ?_ ?_; focus (first | (intro hlt_; simp; done) | (intro hlt_; exfalso; simp at hlt_; done) | (intro hlt_; exfalso; simp at hlt_; omega) | (intro hlt_; exfalso; omega) | (intro hlt_; simp at hlt_ ⊢; omega))) | (with_reducible refine Mod.wtrans_ ‹WMod _ _ _ _› ?_ ?_; focus (first | omega | (simp; omega) | (simp; done))) | (with_reducible refine Mod.trans_ ‹Mod _ _ _› ?_ ?_; focus (first | (intro x_ hx_ hl_; simp at hx_; done) | (intro x_ hx_ hl_; simp at hx_ ⊢; omega) | (intro x_ hx_ hl_; simp at hx_ hl_ ⊢; omega) | (intro x_ hx_ hl_; simp_all; done) | (intro x_ hx_ hl_; simp_all; omega)))))⟩
namespace cursorWrites
open Go.ChangeShapes Go.WideShapes Go.ChangeAt Go.RowKit
open Go.ChangeMaps (open_string shut_string)
theorem own : ownKnob Try.prog.godebug = none := by kernel_rfl
theorem laidOut : laidOutB Try.prog = true := by kernel_rfl
set_option maxRecDepth 100000 in
theorem lifted (os : Os) (started : os.Started) (H : Type) (enc : TypeId × Value → H) :
    ReturnsInHanded {} Try.checked os 5 .any (Rows.cursorWritesSpec.pre6 enc Try.prog Try.f5 Rows.cursorWritesRow.domain false) (Rows.cursorWritesSpec.post enc Try.prog Try.f5 false true false false) := by
  refine returnsInHanded_of_change_sized (C := Try.checked) own started (by kernel_rfl) Try.func5
    (ChangeSpec.witness6 (enc := enc) (C := Try.checked) false ⟨#[], #[.slice none 0 0], []⟩ 8 (by kernel_rfl) (by kernel_rfl) (by kernel_rfl) (by kernel_rfl)) ?_
  intro W base args ds gs before hval0 hW hcnd hsz0 _
  have hsz : (DataW.weightsEach Try.prog (Try.f5.params.toList ++ Rows.cursorWritesSpec.plain.varTypes Try.prog) (ds ++ gs)).all (· ≤ reachBytes) = true := hsz0
  have hval : ∀ (j : Nat) t v, Try.f5.params[j]? = some t → args[j]? = some v → Value.okWide Try.prog W .any base t v := hval0
  have hW' := hW
  obtain ⟨p, q, hA0, hV, rfl, hfz, hnd⟩ := hW
  have hA : DataW.TrodAll enc Try.prog W 0 (fun _ => true) true Try.f5.params.toList args.toList ds p := hA0
  rw [Try.params5] at hA hval hsz
  obtain ⟨v0, vs0, d0, ds0, p0, q0, hargs, rfl, rfl, h0, r0⟩ := trodAll_cons hA
  obtain ⟨rfl, rfl, rfl⟩ := trodAll_nil r0
  obtain rfl : args = #[v0] := by cases args; simp_all
  obtain ⟨rfl, rfl⟩ := trodVars_none hV
  have hv0 := (hval 0 30 v0 rfl rfl)
  have k0 := h0
  have lt0 : ∀ x ∈ p0, x.block < W.heap.size := by obtain ⟨m, hm⟩ := k0; exact DataW.trod_lt m _ _ _ hm
  obtain ⟨fuel0, g0⟩ := h0
  obtain ⟨l0, s0, o0⟩ := open_structs enPut _ Try.underlying30 (by kernel_rfl) open_put (okWide_slice Try.underlying30 hv0) g0 (by decide)
  clear hA0 hval0 hsz0
  refine (writes_any v0 l0 W s0 o0).mono fun e W' ⟨he, mod⟩ => ?_
  have bel : Below W.heap.size W W' := mod.below (Nat.le_refl _) (by simp)
  subst he
  exact ⟨_, rfl, _, _, _, [], _, [], hW', trodAll_mk1 (shut_bool Try.underlying4 _), (trodAll_cons_mk (Below.trod laidOut (by kernel_rfl) (of_decide_eq_true (by kernel_rfl)) k0 bel lt0) trodAll_mk0), rfl, bel.frame _, fun h => by cases h⟩
theorem over : Rows.cursorWritesRow.holds Try.pinned (OpenSpec.ofChange Rows.cursorWritesSpec) :=
  OpenClaim.holds_of_wide 5 Try.f5 rfl rfl rfl rfl rfl rfl rfl ⟨rfl, rfl, rfl, rfl, rfl⟩ rfl rfl rfl rfl rfl (by kernel_rfl) Try.func5 (by kernel_rfl)
    (of_decide_eq_true (by kernel_rfl)) (by unfold Func.isWrapper; first | (rw [if_pos (by decide +kernel)]; kernel_rfl) | (rw [if_neg (by decide +kernel)]; exact ⟨rfl, rfl⟩))
    (fun os started H enc _ => lifted os started H enc)
theorem proved : Rows.CursorWritesSaid := over
#print axioms proved
end cursorWrites
/-- The row, under a short name, for the claim. -/
theorem cursorWrites_holds : Rows.CursorWritesSaid := cursorWrites.proved
end Go.Proofs.Ytbcebihjehneaaa
