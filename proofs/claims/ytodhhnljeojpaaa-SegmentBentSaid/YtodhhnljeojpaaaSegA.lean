/- A segment's bytes: what stands ahead of the sum and behind it; its sum is good; read again it is the same. -/
import Derived.Test.YtodhhnljeojpaaaSeg7
set_option linter.unusedVariables false
set_option linter.unusedSimpArgs false
namespace Go.Proofs.Ytodhhnljeojpaaa
open Go.RowKit
def segFront (p : Int) (s : Seg) : List UInt8 := if p = 17 then numBytes 2 s.sp ++ numBytes 2 s.dp ++ numBytes 2 (8 + (s.d.size : Int))
  else numBytes 2 s.sp ++ numBytes 2 s.dp ++ (numBytes 4 s.seq ++ numBytes 4 s.ack ++ numBytes 2 (20480 + s.fl) ++ numBytes 2 s.win)
def segTail (p : Int) (s : Seg) : List UInt8 := if p = 17 then s.d.data.toList else [0, 0] ++ s.d.data.toList
theorem nb_zero : numBytes 2 0 = [0, 0] := by decide
theorem segBody_eq (p : Int) (s : Seg) : segBody p s = strOf (segFront p s ++ [0, 0] ++ segTail p s) := by
  unfold segBody segFront segTail
  split
  · simp only [udpBody, List.flatMap_cons, List.flatMap_nil, nb_zero, List.append_nil, List.append_assoc]
  · simp only [tcpBody, List.flatMap_cons, List.flatMap_nil, nb_zero, List.append_nil, List.append_assoc]
theorem segFront_len (p : Int) (s : Seg) : (segFront p s).length = segAt p := by
  unfold segFront segAt
  split <;> simp only [List.length_append, numBytes_length]
theorem segB_split (f t : List UInt8) (n : Int) : segB (strOf (f ++ [0, 0] ++ t)) f.length n = f ++ numBytes 2 n ++ t := by
  unfold segB
  rw [strOf_extract, strOf_extract, strOf_size, strOf_data, strOf_data]
  congr 1
  · congr 1
    simp
  · have h1 : (f ++ [0, 0] ++ t).drop (f.length + 2) = t := by
      rw [show f.length + 2 = (f ++ [0, 0]).length from by simp, List.drop_left]
    rw [h1, List.take_of_length_le (by simp; omega)]
theorem segBytes_eq (p src dst : Int) (s : Seg) : segBytes p src dst s = segFront p s ++ numBytes 2 (segN p src dst (segBody p s)) ++ segTail p s := by
  unfold segBytes
  rw [← segFront_len p s]
  conv => lhs; arg 1; rw [segBody_eq]
  exact segB_split _ _ _
/-! ### The sum is good -/
theorem wsum_nb (n : Int) (h : 0 ≤ n ∧ n ≤ 65535) : wsum true (numBytes 2 n) = n := by
  rw [nbs2]
  have h1 : ((b8 (n / 256)).toNat : Int) = n / 256 := by unfold b8; rw [UInt8.toNat_ofNat']; omega
  have h2 : ((b8 n).toNat : Int) = n % 256 := by unfold b8; rw [UInt8.toNat_ofNat']; omega
  simp only [wsum, h1, h2]
  simp
  omega
theorem wsum_mid (P f m t : List UInt8) (hP : P.length % 2 = 0) (hf : f.length % 2 = 0) (hm : m.length % 2 = 0) : wsum true (P ++ (f ++ m ++ t)) = wsum true P + wsum true f + wsum true m + wsum true t := by
  rw [wsum_even _ _ _ hP, wsum_even _ _ _ (by rw [List.length_append]; omega), wsum_even _ _ _ hf]
  omega
theorem sumOf_two (a b : ByteArray) : sumOf [a, b] = 65535 - foldZ (wsum true (a.data.toList ++ b.data.toList)) := by rw [sumOf_eq, flat_two]
theorem segSum_good (PS : ByteArray) (hPS : PS.size % 2 = 0) (f t : List UInt8) (hf : f.length % 2 = 0) (n : Int) (hn : n = sumOf [PS, strOf (f ++ [0, 0] ++ t)] ∨ (n = 65535 ∧ sumOf [PS, strOf (f ++ [0, 0] ++ t)] = 0)) :
    sumOf [PS, strOf (f ++ numBytes 2 n ++ t)] = 0 := by
  have hr := sumOf_rng [PS, strOf (f ++ [0, 0] ++ t)]
  have hn' : 0 ≤ n ∧ n ≤ 65535 := by omega
  rw [sumOf_two, strOf_data] at *
  have hPl : PS.data.toList.length % 2 = 0 := by rw [Array.length_toList, ByteArray.size_data]; exact hPS
  rw [wsum_mid _ _ _ _ hPl hf (by rw [numBytes_length]), wsum_nb n hn']
  rw [wsum_mid _ _ _ _ hPl hf rfl, show wsum true [0, 0] = 0 from by decide] at hn hr
  have h1 := wsum_nonneg PS.data.toList true
  have h2 := wsum_nonneg f true
  have h3 := wsum_nonneg t true
  generalize wsum true PS.data.toList = A at *
  generalize wsum true f = B at *
  generalize wsum true t = C at *
  unfold foldZ at *
  split at hn <;> split <;> omega
theorem segGood_enc (p src dst : Int) (s : Seg) (h : p = 6 ∨ p = 17) : segGood p src dst (segBytes p src dst s) = true := by
  have hB := segBody_eq p s
  have hl : (segBytes p src dst s).length = (segBody p s).size := by
    rw [segBytes_eq, hB, strOf_size]; simp only [List.length_append, numBytes_length, List.length_cons, List.length_nil]
  unfold segGood
  rw [beq_iff_eq, hl, segBytes_eq]
  refine segSum_good (pseudoOf src dst p (segBody p s).size) (by rw [pseudo_size]) _ _ (by rw [segFront_len]; unfold segAt; split <;> rfl) _ ?_
  rw [← hB]
  unfold segN
  split
  · rename_i h; exact .inr ⟨rfl, h.1⟩
  · exact .inl rfl
theorem segN_rng (p src dst : Int) (B : ByteArray) : 0 ≤ segN p src dst B ∧ segN p src dst B ≤ 65535 := by
  unfold segN
  have := sumOf_rng [pseudoOf src dst p B.size, B]
  split
  · omega
  · exact this
/-! ### Read again -/
theorem w4_nb (x : Int) (h : 0 ≤ x ∧ x ≤ 4294967295) : w4 (b8 (x / 16777216)) (b8 (x / 65536)) (b8 (x / 256)) (b8 x) = x := by
  have h1 : ((b8 (x / 16777216)).toNat : Int) = x / 16777216 % 256 := by unfold b8; rw [UInt8.toNat_ofNat']; omega
  have h2 : ((b8 (x / 65536)).toNat : Int) = x / 65536 % 256 := by unfold b8; rw [UInt8.toNat_ofNat']; omega
  have h3 : ((b8 (x / 256)).toNat : Int) = x / 256 % 256 := by unfold b8; rw [UInt8.toNat_ofNat']; omega
  have h4 : ((b8 x).toNat : Int) = x % 256 := by unfold b8; rw [UInt8.toNat_ofNat']; omega
  unfold w4
  rw [h1, h2, h3, h4]
  omega
theorem segParse_enc (p src dst : Int) (s : Seg) (hr : segRight p s = true) (hw : segWf s) : segParse p src dst (segBytes p src dst s) = .inl s := by
  have hp := segRight_p hr
  have hf := segRight_fits hr hw
  have hg := segGood_enc p src dst s hp
  have hn := segN_rng p src dst (segBody p s)
  obtain ⟨h1, h2, h3, h4, h5, h6, h7⟩ := hf
  unfold segParse
  rw [hg]
  rcases hp with rfl | rfl
  · rw [if_pos rfl, segBytes_eq, segFront, if_neg (by decide), segTail, if_neg (by decide)]
    simp only [nbs2, nbs4, List.cons_append, List.nil_append]
    unfold tcpParse
    have e12 : ((b8 ((20480 + s.fl) / 256)).toNat : Int) = 80 := by unfold b8; rw [UInt8.toNat_ofNat']; omega
    have e13 : ((b8 (20480 + s.fl)).toNat : Int) = s.fl := by unfold b8; rw [UInt8.toNat_ofNat']; omega
    simp only [e12, e13]
    rw [if_neg (by decide), if_neg (by omega), if_neg (by decide), sh_nb _ h1, sh_nb _ h2, w4_nb _ h5, w4_nb _ h6, sh_nb _ h4, Int.emod_eq_of_lt h3.1 (by omega)]
    rfl
  · have hz : s.seq = 0 ∧ s.ack = 0 ∧ s.fl = 0 ∧ s.win = 0 := by
      unfold segRight at hr
      rw [if_neg (by decide)] at hr
      simp only [Bool.and_eq_true, decide_eq_true_eq] at hr
      obtain ⟨_, ⟨⟨⟨⟨⟨a5, a6⟩, a7⟩, a8⟩, a9⟩, a10⟩⟩ := hr
      exact ⟨a6, a7, a8, a9⟩
    rw [if_neg (by decide), if_pos rfl, segBytes_eq, segFront, if_pos rfl, segTail, if_pos rfl]
    simp only [nbs2, List.cons_append, List.nil_append]
    unfold udpParse
    have hd : s.d.data.toList.length = s.d.size := by simp
    have e45 := sh_nb (8 + (s.d.size : Int)) (by omega)
    simp only [e45, hd]
    rw [if_neg (by omega), if_neg (by omega), if_neg (by omega), if_neg (fun e => by cases e.2), sh_nb _ h1, sh_nb _ h2, strOf_self]
    obtain ⟨z1, z2, z3, z4⟩ := hz
    cases s
    simp_all
end Go.Proofs.Ytodhhnljeojpaaa
