/- The document's example of packets; HeaderParses' parts. -/
import Derived.Test.YtdichoibidccoaaHdr8
set_option linter.unusedVariables false
set_option linter.unusedSimpArgs false
namespace Go.Proofs.Ytdichoibidccoaa
set_option maxRecDepth 8000
attribute [local irreducible] blk wpS seqS ordS OpVal RV endS LoadV StoreV Calls
open Go.RowKit
def exPkt : Pkt := ⟨0, 0, false, false, 0, 64, 17, 167772161, 167772162, [], ⟨#[97, 98]⟩⟩
set_option maxHeartbeats 2000000 in
theorem awake05_any (w : World) : Calls Try.prog 26 #[] w fun e w' => e = .returned (.bool true) ∧ Mod [] w w' := by
  have hr : pkRight exPkt = true := by decide +kernel
  have hE : Hid (∀ w', Calls Try.prog 31 #[pv exPkt nilS] w' fun e w'' => e = .returned (.tuple #[.string (strOf (hdrBytes exPkt)), .int .i64 0]) ∧ Mod [] w' w'') := Lib.hid fun w' => by
    have := hdrEncode_any exPkt nilS w' (Structs.nil _ _ _) (by decide) (by decide) (by decide) (by decide)
    rwa [show hdrEnc exPkt = (strOf (hdrBytes exPkt), 0) from if_pos hr] at this
  have hl : (hdrBytes exPkt).length = 22 := by
    have := hdrBytes_len (p := exPkt) (by decide)
    rw [show allSize exPkt.opts = 0 from by decide, show exPkt.data.size = 2 from rfl] at this
    omega
  have hlen : ((strOf (hdrBytes exPkt)).size : Int) = 22 := by rw [strOf_size, hl]; rfl
  have hP : Hid (∀ w', Calls Try.prog 27 #[.string (strOf (hdrBytes exPkt))] w' (Makes (fun i : Option Addr × Nat => .tuple #[pv exPkt (.slice i.1 0 i.2), .int .i64 0]) (fun i => own i.1 i.2 33 2 0 []) w')) := Lib.hid fun w' => by
    have := hdrParse_any (hdrBytes exPkt) (by omega) w'
    rwa [hdrParse_enc hr (by decide) (by decide)] at this
  clear hl
  have hx : exPkt.data.toList = [97, 98] := by decide +kernel
  generalize strOf (hdrBytes exPkt) = B at hE hP hlen
  (refine enterS ([]) (Sep.start _ []) Try.func26 rfl ?_; simp only [Try.ntmps26, List.size_toArray, List.length_cons, List.length_nil, Nat.reduceAdd, Nat.reduceSub, Array.replicate_succ, Array.replicate_zero, List.push_toArray, List.append_toArray, List.nil_append, List.cons_append])
  (repeat' (first | ((with_reducible refine isOps ?_); first | (refine seqS_nil ?_; (try simp only [thenS, blockS])) | ((first | ((with_reducible refine isCallF ?_); refine aCF ?_) | ((with_reducible refine isCallV ?_); refine aCV ?_)); first | refine cS0 (fun w_ hs_ => hE.out _) ?_ | (refine callS_N (fun w_ hs_ => hP.out _) (fun i_ l_ hl_ => ?_); dsimp only [sS, sZ] at hl_; subst hl_)) | ((with_reducible refine isStore ?_); first | refine aSt ?_) | ((with_reducible refine isAlloc ?_); first | (refine aAl (fun n_ l_ hl_ => ?_); dsimp only [sS, sZ] at hl_; subst hl_)) | refine aV ?_ | refine aNo ?_ | refine aNo' ?_ | ((fail_if_success (refine aIsT ?_)); (fail_if_success (refine aIsF ?_)); refine seqS_guard rfl rfl rfl (fun l_ hl_ h_ => ?_) (fun l_ hl_ h_ => ?_) <;> (dsimp only [sS, sZ] at hl_; subst hl_; (try (simp only [beq_iff_eq, bne_iff_ne, beq_eq_false_iff_ne, bne_eq_false_iff_eq, ne_eq, decide_eq_true_eq, decide_eq_false_iff_not, Bool.and_eq_true, Bool.or_eq_true, Bool.and_eq_false_iff, Bool.or_eq_false_iff, Bool.not_eq_true', Bool.not_eq_false', Bool.false_eq_true, Bool.true_eq_false, reduceCtorEq] at h_)); (try (first | (with_reducible contradiction) | (exfalso; omega)))))) | ((with_reducible refine isWp ?_); first | (refine wpS_seq (fun K_ hK_ => ?_)) | (refine wpS_region ?_) | (refine wpS_cond rfl (fun h_ => ?_) (fun h_ => ?_) <;> (try (simp only [beq_iff_eq, bne_iff_ne, beq_eq_false_iff_ne, bne_eq_false_iff_eq, ne_eq, decide_eq_true_eq, decide_eq_false_iff_not, Bool.and_eq_true, Bool.or_eq_true, Bool.and_eq_false_iff, Bool.or_eq_false_iff, Bool.false_eq_true, Bool.true_eq_false, reduceCtorEq] at h_)) <;> (try (first | (with_reducible contradiction) | (exfalso; omega)))) | (refine wpS_block ?_) | (refine wpS_ret ?_; (try simp only [thenS, blockS])) | (refine wpS_exit ?_; simp only [thenS, blockS, ↓reduceIte, Nat.reduceEqDiff]) | (refine wpS_skip ?_; (try simp only [thenS, blockS]))) | (refine useK (by with_reducible assumption) ?_)))
  (first | refine r1_ Try.results26 (fun w_ hs_ => ?_) | refine r2_ Try.results26 (fun w_ hs_ => ?_) | refine r3_ Try.results26 (fun w_ hs_ => ?_) | refine retS0 Try.results26 (fun w_ hs_ => ?_) | refine retN0 Try.results26 (fun w_ hs_ => ?_))
  exact ⟨rfl, hs_.mod⟩
end Go.Proofs.Ytdichoibidccoaa
