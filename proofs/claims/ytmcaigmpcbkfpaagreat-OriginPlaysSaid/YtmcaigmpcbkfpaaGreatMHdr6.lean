/- Right options' bytes, read again. Plain laws. -/
import Derived.Test.YtmcaigmpcbkfpaaGreatOpt6
import Derived.Test.YtmcaigmpcbkfpaaGreatHdr3
import Derived.Test.YtmcaigmpcbkfpaaGreatSumPut
set_option linter.unusedVariables false
set_option linter.unusedSimpArgs false
namespace Go.Proofs.YtmcaigmpcbkfpaaGreat
open Go.RowKit
theorem b8_toNat (x : Int) (h : 0 ≤ x ∧ x ≤ 255) : (b8 x).toNat = x.toNat := by
  unfold b8
  rw [UInt8.toNat_ofNat']
  omega
theorem b8_ne (x : Int) (h : 0 ≤ x ∧ x ≤ 255) (n : UInt8) (hn : x ≠ (n.toNat : Int)) : b8 x ≠ n := fun e => by
  have := b8_toNat x h
  rw [e] at this
  omega
/-- Right options' bytes, read again. -/
theorem pOpts_enc (j : Nat) (l : List Opt) : ∀ (f : Nat), l.all optRight = true → (l.flatMap optBytes ++ List.replicate j (0 : UInt8)).length ≤ f → pOpts f (l.flatMap optBytes ++ List.replicate j 0) = .inl l := by
  induction l with
  | nil =>
    intro f _ hf
    cases j with
    | zero => exact pOpts_nil f
    | succ j =>
      simp at hf
      obtain ⟨f, rfl⟩ : ∃ f', f = f' + 1 := ⟨f - 1, by omega⟩
      rw [List.flatMap_nil, List.nil_append, List.replicate_succ, pOpts_cons, if_pos rfl, if_pos (by simp)]
  | cons o l ih =>
    intro f hall hf
    rw [List.all_cons, Bool.and_eq_true] at hall
    obtain ⟨ho, hl⟩ := hall
    have hr := optRight_rng ho
    rw [List.flatMap_cons, List.append_assoc] at hf ⊢
    by_cases h1 : o.1 = 1
    · have hs : o.2.size = 0 := by
        have := ho
        rw [optRight, if_pos (by simpa using h1), isEmpty_size] at this
        simpa using this
      have he : o = (1, ⟨#[]⟩) := by
        obtain ⟨a, b⟩ := o
        have h1' : a = 1 := h1
        have h2 : b = ⟨#[]⟩ := ByteArray.ext (Array.eq_empty_of_size_eq_zero hs)
        rw [h1', h2]
      rw [optBytes, if_pos (by simpa using h1), h1] at hf ⊢
      rw [List.cons_append, List.nil_append] at hf ⊢
      rw [List.length_cons] at hf
      obtain ⟨f, rfl⟩ : ∃ f', f = f' + 1 := ⟨f - 1, by omega⟩
      rw [pOpts_cons, if_neg (by decide), if_pos (by decide), ih f hl (by omega), he]
      rfl
    · have hsz : optSize o = 2 + (o.2.size : Int) := by rw [optSize, if_neg (by simpa using h1)]
      have h0 : 2 ≤ o.1 := by
        have := ho
        rw [optRight, if_neg (by simpa using h1)] at this
        simp at this
        omega
      rw [optBytes, if_neg (by simpa using h1)] at hf ⊢
      rw [List.cons_append, List.cons_append] at hf ⊢
      rw [List.length_cons, List.length_cons, List.length_append] at hf
      obtain ⟨f, rfl⟩ : ∃ f', f = f' + 1 := ⟨f - 1, by omega⟩
      have hm : (b8 (optSize o)).toNat = o.2.size + 2 := by rw [b8_toNat _ (by omega)]; omega
      have hk : ((b8 o.1).toNat : Int) = o.1 := by rw [b8_toNat _ (by omega)]; omega
      have hd : o.2.data.toList.length = o.2.size := by simp
      rw [pOpts_cons, if_neg (b8_ne _ (by omega) 0 (by simp; omega)), if_neg (b8_ne _ (by omega) 1 (by simp; omega))]
      simp only [hm, hk]
      rw [if_neg (by rw [List.length_append]; omega), if_neg (by omega), show o.2.size + 2 - 2 = o.2.data.toList.length from by omega, List.take_left, List.drop_left, ih f hl (by omega), strOf_self]
      rfl
theorem optParse_enc (l : List Opt) (h : l.all optRight = true) (h40 : ¬ 40 < allSize l) : optParse (encBytes l) = .inl l := by
  have hl := encBytes_len l h
  have ha : allSize l = (rawSize l + 3) / 4 * 4 := rfl
  unfold optParse
  rw [if_neg (by omega), if_pos (by omega)]
  exact pOpts_enc _ l _ h (Nat.le_refl _)
end Go.Proofs.YtmcaigmpcbkfpaaGreat
namespace Go.Proofs.YtmcaigmpcbkfpaaGreat
open Go.RowKit
def inB (x m : Int) : Bool := decide (0 ≤ x) && decide (x ≤ m)
theorem inB_t {x m : Int} : inB x m = true ↔ 0 ≤ x ∧ x ≤ m := by simp [inB]
/-- Is a packet right? -/
def pkRight (p : Pkt) : Bool := (inB p.tos 255 && inB p.ttl 255 && inB p.proto 255 && inB p.id 65535 && inB p.off 65528) &&
  (p.opts.all optRight && decide (allSize p.opts ≤ 40) && decide (p.off % 8 = 0) && decide (20 + allSize p.opts + (p.data.size : Int) ≤ 65535) && decide (p.off + (p.data.size : Int) ≤ 65535))
structure PkFits (p : Pkt) : Prop where
  tos : 0 ≤ p.tos ∧ p.tos ≤ 255
  ttl : 0 ≤ p.ttl ∧ p.ttl ≤ 255
  proto : 0 ≤ p.proto ∧ p.proto ≤ 255
  id : 0 ≤ p.id ∧ p.id ≤ 65535
  off : 0 ≤ p.off ∧ p.off ≤ 65528
  opts : p.opts.all optRight = true
  size : allSize p.opts ≤ 40
  unit : p.off % 8 = 0
  all : 20 + allSize p.opts + (p.data.size : Int) ≤ 65535
  last : p.off + (p.data.size : Int) ≤ 65535
theorem pkRight_iff {p : Pkt} : pkRight p = true ↔ PkFits p := by
  unfold pkRight
  simp only [Bool.and_eq_true, inB_t, decide_eq_true_eq]
  exact ⟨fun ⟨⟨⟨⟨⟨h1, h2⟩, h3⟩, h4⟩, h5⟩, ⟨⟨⟨h6, h7⟩, h8⟩, h9⟩, h10⟩ => ⟨h1, h2, h3, h4, h5, h6, h7, h8, h9, h10⟩, fun ⟨h1, h2, h3, h4, h5, h6, h7, h8, h9, h10⟩ => ⟨⟨⟨⟨⟨h1, h2⟩, h3⟩, h4⟩, h5⟩, ⟨⟨⟨h6, h7⟩, h8⟩, h9⟩, h10⟩⟩
theorem encOf_ok (l : List Opt) : (encOf l).2 = 0 ↔ (l.all optRight = true ∧ allSize l ≤ 40) := by
  unfold encOf
  by_cases h : l.all optRight = true
  · rw [if_pos h]
    by_cases h4 : 40 < allSize l
    · rw [if_pos h4]; simp; omega
    · rw [if_neg h4]; simp [h]; omega
  · rw [if_neg h]; simp [h]
theorem allSize_rng (l : List Opt) (h : l.all optRight = true) : 0 ≤ allSize l ∧ allSize l % 4 = 0 := by
  have := encBytes_len l h
  refine ⟨by omega, ?_⟩
  unfold allSize; omega
/-- The short of the offset. -/
def flagsOf (p : Pkt) : Int := p.off / 8 + (if p.df then 16384 else 0) + (if p.mf then 8192 else 0)
theorem flagsOf_rng {p : Pkt} (h : 0 ≤ p.off ∧ p.off ≤ 65528) : 0 ≤ flagsOf p ∧ flagsOf p ≤ 32767 := by
  unfold flagsOf
  split <;> split <;> omega
theorem flagsOf_off {p : Pkt} (h : 0 ≤ p.off ∧ p.off ≤ 65528) (h8 : p.off % 8 = 0) : flagsOf p % 8192 * 8 = p.off := by
  unfold flagsOf
  split <;> split <;> omega
theorem flagsOf_bits {p : Pkt} (h : 0 ≤ p.off ∧ p.off ≤ 65528) : hFlag (flagsOf p) 16384 = p.df ∧ hFlag (flagsOf p) 8192 = p.mf := by
  unfold flagsOf hFlag
  generalize hq : p.off / 8 = q
  have hq' : 0 ≤ q ∧ q ≤ 8191 := by omega
  cases hd : p.df <;> cases hm : p.mf
  · have e1 : (q + 0 + 0) / 16384 % 2 = 0 := by omega
    have e2 : (q + 0 + 0) / 8192 % 2 = 0 := by omega
    simp only [Bool.false_eq_true, if_false, e1, e2]; decide
  · have e1 : (q + 0 + 8192) / 16384 % 2 = 0 := by omega
    have e2 : (q + 0 + 8192) / 8192 % 2 = 1 := by omega
    simp only [Bool.false_eq_true, if_false, if_true, e1, e2]; decide
  · have e1 : (q + 16384 + 0) / 16384 % 2 = 1 := by omega
    have e2 : (q + 16384 + 0) / 8192 % 2 = 0 := by omega
    simp only [Bool.false_eq_true, if_false, if_true, e1, e2]; decide
  · have e1 : (q + 16384 + 8192) / 16384 % 2 = 1 := by omega
    have e2 : (q + 16384 + 8192) / 8192 % 2 = 1 := by omega
    simp only [if_true, e1, e2]; decide
/-! ### The bytes -/
def hdrFront (p : Pkt) : List UInt8 := [69 + allSize p.opts / 4, p.tos].flatMap (numBytes 1) ++ [20 + allSize p.opts + (p.data.size : Int), p.id, flagsOf p].flatMap (numBytes 2) ++ [p.ttl, p.proto].flatMap (numBytes 1)
def hdrTail (p : Pkt) : List UInt8 := [p.src, p.dst].flatMap (numBytes 4) ++ encBytes p.opts
def hdrZero (p : Pkt) : List UInt8 := hdrFront p ++ [0].flatMap (numBytes 2) ++ hdrTail p
def hdrHead (p : Pkt) : ByteArray := putSum (strOf (hdrZero p)) 10
def hdrBytes (p : Pkt) : List UInt8 := (hdrHead p).data.toList ++ p.data.data.toList
theorem hdrFront_len (p : Pkt) : (hdrFront p).length = 10 := by simp [hdrFront, numBytes_length]
theorem hdrTail_len {p : Pkt} (h : p.opts.all optRight = true) : ((hdrTail p).length : Int) = 8 + allSize p.opts := by
  have := encBytes_len p.opts h
  simp only [hdrTail, List.length_append, List.flatMap_cons, List.flatMap_nil, List.append_nil, numBytes_length]; omega
theorem hdrZero_len {p : Pkt} (h : p.opts.all optRight = true) : ((hdrZero p).length : Int) = 20 + allSize p.opts := by
  have h1 := hdrTail_len h
  have h2 := hdrFront_len p
  simp only [hdrZero, List.length_append, List.flatMap_cons, List.flatMap_nil, List.append_nil, numBytes_length]; omega
theorem putSum_list (f t : List UInt8) : putSum (strOf (f ++ [0, 0] ++ t)) f.length = strOf (f ++ numBytes 2 (sumAt (strOf (f ++ [0, 0] ++ t)) f.length) ++ t) := by
  have hr := sumAt_rng (strOf (f ++ [0, 0] ++ t)) f.length
  rw [← put_list _ _ hr.1 hr.2]
  generalize sumAt (strOf (f ++ [0, 0] ++ t)) f.length = n
  apply ByteArray.ext
  apply Array.ext'
  rw [strOf_extract, strOf_extract, strOf_size, strOf_data, strOf_data]
  show _ = f ++ numBytes 2 n ++ t
  congr 1
  · congr 1
    simp
  · have h1 : (f ++ [0, 0] ++ t).drop (f.length + 2) = t := by
      rw [show f.length + 2 = (f ++ [0, 0]).length from by simp, List.drop_left]
    rw [h1, List.take_of_length_le (by simp; omega)]
def hdrN (p : Pkt) : Int := sumAt (strOf (hdrZero p)) 10
theorem hdrN_rng (p : Pkt) : 0 ≤ hdrN p ∧ hdrN p ≤ 65535 := sumAt_rng _ _
theorem hdrHead_eq (p : Pkt) : hdrHead p = strOf (hdrFront p ++ numBytes 2 (hdrN p) ++ hdrTail p) := by
  have := putSum_list (hdrFront p) (hdrTail p)
  rw [hdrFront_len] at this
  exact this
theorem hdrHead_size {p : Pkt} (h : p.opts.all optRight = true) : ((hdrHead p).size : Int) = 20 + allSize p.opts := by
  have h1 := hdrTail_len h
  have h2 := hdrFront_len p
  rw [hdrHead_eq, strOf_size]
  simp only [List.length_append, numBytes_length]; omega
theorem hdrHead_good {p : Pkt} (h : p.opts.all optRight = true) : sumOf [hdrHead p] = 0 := by
  have := hdrZero_len h
  have := allSize_rng p.opts h
  exact put_good _ 10 (by rw [strOf_size]; omega) (by decide)
theorem hdrBytes_len {p : Pkt} (h : p.opts.all optRight = true) : ((hdrBytes p).length : Int) = 20 + allSize p.opts + p.data.size := by
  have h1 := hdrHead_size h
  have h2 : (hdrHead p).data.toList.length = (hdrHead p).size := by rw [Array.length_toList, ByteArray.size_data]
  have h3 : p.data.data.toList.length = p.data.size := by rw [Array.length_toList, ByteArray.size_data]
  rw [hdrBytes, List.length_append]; omega
theorem b8_i (x : Int) : ((b8 x).toNat : Int) = x % 256 := by unfold b8; rw [UInt8.toNat_ofNat']; omega
theorem w4_nb' (x : Int) (h : 0 ≤ x ∧ x ≤ 4294967295) : w4 (b8 (x / 16777216)) (b8 (x / 65536)) (b8 (x / 256)) (b8 x) = x := by
  unfold w4
  rw [b8_i, b8_i, b8_i, b8_i]; omega
def hdrRest (p : Pkt) : List UInt8 := encBytes p.opts ++ p.data.data.toList
theorem hdrBytes_20 (p : Pkt) : hdrBytes p = b8 (69 + allSize p.opts / 4) :: b8 p.tos :: b8 ((20 + allSize p.opts + (p.data.size : Int)) / 256) :: b8 (20 + allSize p.opts + (p.data.size : Int)) :: b8 (p.id / 256) :: b8 p.id :: b8 (flagsOf p / 256) :: b8 (flagsOf p) ::
    b8 p.ttl :: b8 p.proto :: b8 (hdrN p / 256) :: b8 (hdrN p) :: b8 (p.src / 16777216) :: b8 (p.src / 65536) :: b8 (p.src / 256) :: b8 p.src :: b8 (p.dst / 16777216) :: b8 (p.dst / 65536) :: b8 (p.dst / 256) :: b8 p.dst :: hdrRest p := by
  rw [hdrBytes, hdrHead_eq, strOf_data]
  unfold hdrFront hdrTail hdrRest
  simp only [List.flatMap_cons, List.flatMap_nil, nbs1, nbs2, nbs4, List.append_nil, List.cons_append, List.nil_append, List.append_assoc]
theorem strOf_head (p : Pkt) : strOf (hdrBytes p) = hdrHead p ++ p.data := by
  rw [hdrBytes, ← strOf_cat, strOf_self]
theorem extract_cat (H d : ByteArray) : (strOf (H.data.toList ++ d.data.toList)).extract 0 H.size = H := by
  have hl : H.size = H.data.toList.length := by rw [Array.length_toList, ByteArray.size_data]
  rw [strOf_extract, List.drop_zero, Nat.sub_zero, hl, List.take_left, strOf_self]
theorem extract_head (p : Pkt) (n : Nat) (h : n = (hdrHead p).size) : (strOf (hdrBytes p)).extract 0 n = hdrHead p := by
  rw [h]
  exact extract_cat (hdrHead p) p.data
theorem hdrParse_eq (a0 a1 a2 a3 a4 a5 a6 a7 a8 a9 a10 a11 a12 a13 a14 a15 a16 a17 a18 a19 : UInt8) (r : List UInt8) (l : List UInt8) (hl : l = a0 :: a1 :: a2 :: a3 :: a4 :: a5 :: a6 :: a7 :: a8 :: a9 :: a10 :: a11 :: a12 :: a13 :: a14 :: a15 :: a16 :: a17 :: a18 :: a19 :: r) :
    hdrParse l = if shapeE a0 a6 a7 ≠ 0 then .inr 3
    else if lenE (r.length + 20 : Nat) ((a0.toNat : Int) % 16) (sh a2 a3) (sumOf [(strOf l).extract 0 ((a0.toNat : Int) % 16 * 4).toNat]) ≠ 0 then
      .inr (lenE (r.length + 20 : Nat) ((a0.toNat : Int) % 16) (sh a2 a3) (sumOf [(strOf l).extract 0 ((a0.toNat : Int) % 16 * 4).toNat]))
    else match optParse (r.take ((a0.toNat : Int) % 16 * 4 - 20).toNat) with
      | .inr x => .inr x
      | .inl L => if 65535 < sh a6 a7 % 8192 * 8 + (r.drop ((a0.toNat : Int) % 16 * 4 - 20).toNat).length then .inr 3 else .inl (fullPkt (frontPkt a1 a4 a5 a6 a7) a8 a9 a12 a13 a14 a15 a16 a17 a18 a19 L (r.drop ((a0.toNat : Int) % 16 * 4 - 20).toNat)) := by subst hl; rfl
/-- What is encoded is read as it was. -/
theorem hdrParse_enc {p : Pkt} (hr : pkRight p = true) (hs : 0 ≤ p.src ∧ p.src ≤ 4294967295) (hd : 0 ≤ p.dst ∧ p.dst ≤ 4294967295) : hdrParse (hdrBytes p) = .inl p := by
  obtain ⟨f1, f2, f3, f4, f5, f6, f7, f8, f9, f10⟩ := pkRight_iff.1 hr
  have hz := allSize_rng p.opts f6
  have hel := encBytes_len p.opts f6
  have hfr := flagsOf_rng f5
  have hlen := hdrBytes_len f6
  have hgood := hdrHead_good f6
  have hhs := hdrHead_size f6
  have hpd : p.data.data.toList.length = p.data.size := by rw [Array.length_toList, ByteArray.size_data]
  have hx := extract_head p
  have hrl : ((hdrRest p).length : Int) = allSize p.opts + p.data.size := by rw [hdrRest, List.length_append]; omega
  rw [hdrBytes_20] at hlen hx ⊢
  have e0 : ((b8 (69 + allSize p.opts / 4)).toNat : Int) = 69 + allSize p.opts / 4 := by rw [b8_i]; omega
  have e0' : ((b8 (69 + allSize p.opts / 4)).toNat : Int) % 16 * 4 = 20 + allSize p.opts := by rw [e0]; omega
  have e23 := sh_nb (20 + allSize p.opts + (p.data.size : Int)) (by omega)
  have e45 := sh_nb p.id f4
  have e67 := sh_nb (flagsOf p) (by omega)
  have e1 : ((b8 p.tos).toNat : Int) = p.tos := by rw [b8_i]; omega
  have e8 : ((b8 p.ttl).toNat : Int) = p.ttl := by rw [b8_i]; omega
  have e9 : ((b8 p.proto).toNat : Int) = p.proto := by rw [b8_i]; omega
  have hsh : shapeE (b8 (69 + allSize p.opts / 4)) (b8 (flagsOf p / 256)) (b8 (flagsOf p)) = 0 := by
    unfold shapeE
    rw [if_neg]
    rw [e0, e67]; omega
  rw [hdrParse_eq _ _ _ _ _ _ _ _ _ _ _ _ _ _ _ _ _ _ _ _ _ _ rfl, hx _ (by rw [e0']; omega), hgood, hsh, if_neg (by decide), e0', e23]
  have hlE : lenE ((hdrRest p).length + 20 : Nat) (((b8 (69 + allSize p.opts / 4)).toNat : Int) % 16) (20 + allSize p.opts + (p.data.size : Int)) 0 = 0 := by
    unfold lenE
    rw [if_neg (by omega), if_neg (by omega), if_neg (by omega), if_neg (by omega), if_neg (by decide)]
  rw [hlE, if_neg (by decide)]
  have ht : (20 + allSize p.opts - 20).toNat = (encBytes p.opts).length := by omega
  rw [ht, hdrRest, List.take_left, List.drop_left, optParse_enc p.opts f6 (by omega)]
  dsimp only
  rw [if_neg (by rw [e67, flagsOf_off f5 f8]; omega)]
  refine congrArg Sum.inl ?_
  dsimp only [fullPkt, frontPkt]
  rw [e67, flagsOf_off f5 f8, strOf_self, w4_nb' _ hs, w4_nb' _ hd, e1, e8, e9, e45, (flagsOf_bits f5).1, (flagsOf_bits f5).2]
end Go.Proofs.YtmcaigmpcbkfpaaGreat
