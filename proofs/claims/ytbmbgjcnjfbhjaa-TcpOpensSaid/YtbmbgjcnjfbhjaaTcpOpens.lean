/- TcpOpens: a flow is opened by just one sort of segment, by its opener; it is open by three at least, of both sides. For every input. -/
import Derived.Test.YtbmbgjcnjfbhjaaTcpAwake
set_option linter.unusedVariables false
set_option linter.unusedSimpArgs false
namespace Go.Proofs.Ytbmbgjcnjfbhjaa
open Go.RowKit Go.ChangeShapes Go.WideShapes Go.Deep

/-- How many were taken of each side. -/
def OInv (s : TS) (m y : Nat) : Prop := (s.1 = 1 → 1 ≤ m) ∧ (s.1 = 2 → 1 ≤ m ∧ 1 ≤ y) ∧ (s.1 = 3 → 2 ≤ m ∧ 1 ≤ y)
def oFact (st : Int) (e0 e1 o F S R A : Bool) : Bool :=
  let r : TS × Bool :=
    if st == 0 then (if o && (S && !F && !R && !A) then ((1, e0, e1), true) else ((st, e0, e1), false))
    else if st == 4 then ((st, e0, e1), false)
    else if R then (if S then ((st, e0, e1), false) else ((4, e0, e1), true))
    else if S then tSyn (st, e0, e1) o (S && !F && !R && !A) (S && !F && !R && A)
    else if st == 1 then ((st, e0, e1), false)
    else if st == 2 then (if o && A then tOpen (3, e0, e1) o F A else ((st, e0, e1), false))
    else tOpen (st, e0, e1) o F A
  (r.1.1 != 1 || st == 1 || (st == 0 && r.2 && o)) && (r.1.1 != 2 || st == 2 || (st == 1 && r.2 && !o)) && (r.1.1 != 3 || st == 3 || (st == 2 && r.2 && o)) && (st != 0 || !r.2 || (o && (S && !F && !R && !A)))
theorem oFact_all : ∀ e0 e1 o F S R A : Bool, (oFact 0 e0 e1 o F S R A && oFact 1 e0 e1 o F S R A && oFact 2 e0 e1 o F S R A && oFact 3 e0 e1 o F S R A && oFact 4 e0 e1 o F S R A) = true := by decide +kernel
theorem oFacts {s : TS} (o : Bool) (f : Int) (h : Rng s) : ((tStep s o f).1.1 = 1 → s.1 = 1 ∨ (s.1 = 0 ∧ (tStep s o f).2 = true ∧ o = true)) ∧ ((tStep s o f).1.1 = 2 → s.1 = 2 ∨ (s.1 = 1 ∧ (tStep s o f).2 = true ∧ o = false)) ∧
    ((tStep s o f).1.1 = 3 → s.1 = 3 ∨ (s.1 = 2 ∧ (tStep s o f).2 = true ∧ o = true)) ∧ (s.1 = 0 → (tStep s o f).2 = true → o = true ∧ bits .and .i64 f 23 = 2) := by
  obtain ⟨st, e0, e1⟩ := s
  obtain ⟨h0, h4⟩ := h
  obtain ⟨_, _, _, _, q, _⟩ := flags_of f
  have a := oFact_all e0 e1 o (fF f) (fS f) (fR f) (fA f)
  simp only [Bool.and_eq_true] at a
  have hc : oFact st e0 e1 o (fF f) (fS f) (fR f) (fA f) = true := by
    have : st = 0 ∨ st = 1 ∨ st = 2 ∨ st = 3 ∨ st = 4 := by simp only at h0 h4; omega
    rcases this with rfl | rfl | rfl | rfl | rfl
    · exact a.1.1.1.1
    · exact a.1.1.1.2
    · exact a.1.1.2
    · exact a.1.2
    · exact a.2
  have hq : (fS f && !fF f && !fR f && !fA f) = true → bits .and .i64 f 23 = 2 := fun h => by rw [← q] at h; simpa using h
  have hr : oFact st e0 e1 o (fF f) (fS f) (fR f) (fA f) = (((tStep (st, e0, e1) o f).1.1 != 1 || st == 1 || (st == 0 && (tStep (st, e0, e1) o f).2 && o)) && ((tStep (st, e0, e1) o f).1.1 != 2 || st == 2 || (st == 1 && (tStep (st, e0, e1) o f).2 && !o)) &&
    ((tStep (st, e0, e1) o f).1.1 != 3 || st == 3 || (st == 2 && (tStep (st, e0, e1) o f).2 && o)) && (st != 0 || !(tStep (st, e0, e1) o f).2 || (o && (fS f && !fF f && !fR f && !fA f)))) := rfl
  rw [hr] at hc
  generalize tStep (st, e0, e1) o f = r at hc ⊢
  generalize (fS f && !fF f && !fR f && !fA f) = x at hc hq
  simp only [Bool.and_eq_true, Bool.or_eq_true, bne_iff_ne, beq_iff_eq, Bool.not_eq_true'] at hc
  obtain ⟨⟨⟨c1, c2⟩, c3⟩, c4⟩ := hc
  refine ⟨fun e => ?_, fun e => ?_, fun e => ?_, fun e k => ?_⟩
  · rcases c1 with (c1 | c1) | c1
    · exact absurd e c1
    · exact Or.inl c1
    · exact Or.inr ⟨c1.1.1, c1.1.2, c1.2⟩
  · rcases c2 with (c1 | c1) | c1
    · exact absurd e c1
    · exact Or.inl c1
    · exact Or.inr ⟨c1.1.1, c1.1.2, c1.2⟩
  · rcases c3 with (c1 | c1) | c1
    · exact absurd e c1
    · exact Or.inl c1
    · exact Or.inr ⟨c1.1.1, c1.1.2, c1.2⟩
  · rcases c4 with (c1 | c1) | c1
    · exact absurd e c1
    · rw [k] at c1; cases c1
    · exact ⟨c1.1, hq c1.2⟩
theorem OInv_step {s : TS} {m y : Nat} (o : Bool) (f : Int) (h : Rng s) (hi : OInv s m y) : OInv (tStep s o f).1 (m + if (tStep s o f).2 && o then 1 else 0) (y + if (tStep s o f).2 && !o then 1 else 0) := by
  obtain ⟨a1, a2, a3, _⟩ := oFacts o f h
  obtain ⟨b1, b2, b3⟩ := hi
  generalize tStep s o f = r at a1 a2 a3 ⊢
  refine ⟨fun e => ?_, fun e => ?_, fun e => ?_⟩
  · rcases a1 e with c | ⟨c, d, rfl⟩
    · have := b1 c; omega
    · rw [d]; simp
  · rcases a2 e with c | ⟨c, d, rfl⟩
    · have := b2 c; omega
    · have := b1 c; rw [d]; simp; omega
  · rcases a3 e with c | ⟨c, d, rfl⟩
    · have := b3 c; omega
    · have := b2 c; rw [d]; simp; omega

set_option maxRecDepth 100000 in
set_option maxHeartbeats 8000000 in
theorem opens_any (v2 : Value) (l2 : List (Bool × Int)) (w : World) (hr2 : Structs enMove 2 w v2 l2) :
    Calls Try.prog 5 #[v2] w fun e w' => e = .returned (.bool true) ∧ Mod [] w w' := by
  have hll2 := hr2.len
  have HA := Lib.hid awake22_any
  obtain ⟨A2, cap2, rfl⟩ := hr2.form
  by_cases h2 : 200 < l2.length
  · go_enter Try.func5, Try.ntmps5
    go_wp2_with (go_at_call 16; refine (HA.out _).mono ?_; rintro e w1 ⟨rfl, hm⟩)
    go_ret
    exact ⟨rfl, hm⟩
  go_enter Try.func5, Try.ntmps5
  go_wp2_with fail
  refine (HA.out _).mono ?_
  rintro e w2 ⟨rfl, hm2⟩
  go_wp2_with fail
  have hm3 : Mod [] w (w2.alloc (.cells #[.int .i64 0, .bool false, .bool false] 49)) := by (repeat' (first | (with_reducible exact Mod.refl _ _) | (with_reducible assumption) | (with_reducible refine Mod.drew ?_) | (with_reducible refine Mod.drewN ?_ _) | (with_reducible refine Mod.alloc ?_ _) | (with_reducible refine Mod.setCell_ ?_ ?_; focus (first | (intro hlt_; simp; done) | (intro hlt_; exfalso; simp at hlt_; done) | (intro hlt_; exfalso; simp at hlt_; omega) | (intro hlt_; exfalso; omega) | (intro hlt_; simp at hlt_ ⊢; omega))) | (with_reducible refine Mod.trans_ ‹Mod _ _ _› ?_ ?_; focus (first | (intro x_ hx_ hl_; simp at hx_; done) | (intro x_ hx_ hl_; simp at hx_ ⊢; omega) | (intro x_ hx_ hl_; simp at hx_ hl_ ⊢; omega) | (intro x_ hx_ hl_; simp_all; done) | (intro x_ hx_ hl_; simp_all; omega)))))
  obtain ⟨p, hp⟩ : ∃ p, p = w2.heap.size := ⟨_, rfl⟩
  have B0 : Blk (w2.alloc (.cells #[.int .i64 0, .bool false, .bool false] 49)) p [.int .i64 0, .bool false, .bool false] 49 := by (repeat' (first | (with_reducible assumption) | (with_reducible rfl) | (with_reducible apply Blk.drew) | (with_reducible apply Blk.drewN) | (with_reducible refine Blk.new_ _ _ ?_; focus (first | assumption | (simp; omega) | (simp; done) | omega | (simp at *; omega))) | (with_reducible apply Blk.alloc) | (with_reducible apply Blk.other_; focus (first | assumption | (simp; omega) | (simp; done) | omega | (simp at *; omega))) | (with_reducible apply Blk.set_) | (with_reducible apply Blk.mod_ ‹Mod _ _ _›; focus (first | assumption | (simp; omega) | (simp; done) | omega | (simp at *; omega))) | (simp; done)))
  have hpw : w.heap.size ≤ p := by rw [hp]; exact hm2.size
  rw [← hp]
  clear hp hm2
  go_loopw [4, 5, 6] (fun sm sy i wr => ∃ (k mn yr : Nat) (s : TS), k ≤ l2.length ∧ i = .int .i64 k ∧ mn ≤ k ∧ yr ≤ k ∧ sm = .int .i64 mn ∧ sy = .int .i64 yr ∧ Rng s ∧ OInv s mn yr ∧ Blk wr p [.int .i64 s.1, .bool s.2.1, .bool s.2.2] 49 ∧ Mod [] w wr) (fun _ _ i _ => l2.length - (intOf i).toNat)
  case atStart => exact ⟨0, 0, 0, (0, false, false), Nat.zero_le _, rfl, Nat.le_refl _, Nat.le_refl _, rfl, rfl, rng_mk _ _ _ (by decide) (by decide), ⟨by decide, by decide, by decide⟩, B0, hm3⟩
  case round =>
    obtain ⟨k, mn, yr, s, hk, rfl, hmn, hyr, rfl, rfl, hs, hI, hB, hm⟩ := hrel
    clear B0 hm3
    have hz := hm.size
    have hp1 := hB.lt
    by_cases hlt : k < l2.length
    · obtain ⟨b, off, rfl, hcell⟩ := hr2.gets k hlt (by simp [enMove])
      have Hc := Lib.hid hcell
      clear hcell
      have hc0 := Hc.out _ hm 0 _ rfl
      have hc1 := Hc.out _ hm 1 _ rfl
      rw [Nat.add_zero] at hc0
      obtain ⟨o, ho⟩ : ∃ x, x = l2[k].1 := ⟨_, rfl⟩
      obtain ⟨f, hf⟩ : ∃ x, x = l2[k].2 := ⟨_, rfl⟩
      have HE : Hid (∀ W, Mod [] w W → W.cell? ⟨b, off + k * 2, none⟩ = some (.bool o) ∧ W.cell? ⟨b, off + k * 2 + 1, none⟩ = some (.int .i64 f)) :=
        fun W h => ⟨by rw [ho]; exact Hc.out _ h 0 _ rfl, by rw [hf]; exact Hc.out _ h 1 _ rfl⟩
      rw [← ho] at hc0
      rw [← hf] at hc1
      clear ho hf Hc
      obtain ⟨st, e0, e1⟩ := s
      have hI2 := OInv_step o f hs hI
      have hX := (oFacts o f hs).2.2.2
      have hs2 := tStep_rng o f hs
      have HS := Lib.hid (Step_any st e0 e1 o f hs)
      generalize tStep (st, e0, e1) o f = r2 at hI2 hX hs2 HS
      obtain ⟨⟨st2, f0, f1⟩, ok⟩ := r2
      simp only at hI2 hX hB
      have d0 : ∀ W, Mod [] wr W → W.cell? ⟨p, 0, none⟩ = some (.int .i64 st) := fun W h => by rw [(hB.mod h (by simp)).cell]; rfl
      have d1 : ∀ W, Mod [] wr W → W.cell? ⟨p, 1, none⟩ = some (.bool e0) := fun W h => by rw [(hB.mod h (by simp)).cell]; rfl
      have d2 : ∀ W, Mod [] wr W → W.cell? ⟨p, 2, none⟩ = some (.bool e1) := fun W h => by rw [(hB.mod h (by simp)).cell]; rfl
      have d3 : ∀ W, Mod [] wr W → W.cell? ⟨b, off + k * 2, none⟩ = some (.bool o) := fun W h => h.cell hc0 (by simp)
      have d4 : ∀ W, Mod [] wr W → W.cell? ⟨b, off + k * 2 + 1, none⟩ = some (.int .i64 f) := fun W h => h.cell hc1 (by simp)
      clear hc0 hc1 hI
      go_wp2_with fail
      go_region_held3 (fun W => Mod [] wr W) ((repeat' (first | (with_reducible exact Mod.refl _ _) | (with_reducible assumption) | (with_reducible refine Mod.drew ?_) | (with_reducible refine Mod.drewN ?_ _) | (with_reducible refine Mod.alloc ?_ _) | (with_reducible refine Mod.setCell_ ?_ ?_; focus (first | (intro hlt_; simp; done) | (intro hlt_; exfalso; simp at hlt_; done) | (intro hlt_; exfalso; simp at hlt_; omega) | (intro hlt_; exfalso; omega) | (intro hlt_; simp at hlt_ ⊢; omega))) | (with_reducible refine Mod.trans_ ‹Mod _ _ _› ?_ ?_; focus (first | (intro x_ hx_ hl_; simp at hx_; done) | (intro x_ hx_ hl_; simp at hx_ ⊢; omega) | (intro x_ hx_ hl_; simp at hx_ hl_ ⊢; omega) | (intro x_ hx_ hl_; simp_all; done) | (intro x_ hx_ hl_; simp_all; omega)))))) ((go_at_call 17; (with_reducible refine (HS.out _).mono ?_); rintro e w3 ⟨rfl, hm3⟩; (try (apply Blk.use (b := wr.heap.size) hm3; (focus ((repeat' (first | (with_reducible assumption) | (with_reducible rfl) | (with_reducible apply Blk.drew) | (with_reducible apply Blk.drewN) | (with_reducible refine Blk.new_ _ _ ?_; focus (first | assumption | (simp; omega) | (simp; done) | omega | (simp at *; omega))) | (with_reducible apply Blk.alloc) | (with_reducible apply Blk.other_; focus (first | assumption | (simp; omega) | (simp; done) | omega | (simp at *; omega))) | (with_reducible apply Blk.set_) | (with_reducible apply Blk.mod_ ‹Mod _ _ _›; focus (first | assumption | (simp; omega) | (simp; done) | omega | (simp at *; omega))) | (simp; done))); done)); intro B9 c9 f9))))
      ·
        refine named (w0 := w) p (w3.heap.size) [.int .i64 st, .bool e0, .bool e1] [.int .i64 st2, .bool f0, .bool f1] 49 49 ?_ ?_ ?_ ?_
        · (repeat' (first | (with_reducible assumption) | (with_reducible rfl) | (with_reducible apply Blk.drew) | (with_reducible apply Blk.drewN) | (with_reducible refine Blk.new_ _ _ ?_; focus (first | assumption | (simp; omega) | (simp; done) | omega | (simp at *; omega))) | (with_reducible apply Blk.alloc) | (with_reducible apply Blk.other_; focus (first | assumption | (simp; omega) | (simp; done) | omega | (simp at *; omega))) | (with_reducible apply Blk.set_) | (with_reducible apply Blk.mod_ ‹Mod _ _ _›; focus (first | assumption | (simp; omega) | (simp; done) | omega | (simp at *; omega))) | (simp; done)))
        · (repeat' (first | (with_reducible assumption) | (with_reducible rfl) | (with_reducible apply Blk.drew) | (with_reducible apply Blk.drewN) | (with_reducible refine Blk.new_ _ _ ?_; focus (first | assumption | (simp; omega) | (simp; done) | omega | (simp at *; omega))) | (with_reducible apply Blk.alloc) | (with_reducible apply Blk.other_; focus (first | assumption | (simp; omega) | (simp; done) | omega | (simp at *; omega))) | (with_reducible apply Blk.set_) | (with_reducible apply Blk.mod_ ‹Mod _ _ _›; focus (first | assumption | (simp; omega) | (simp; done) | omega | (simp at *; omega))) | (simp; done)))
        · (repeat' (first | (with_reducible exact Mod.refl _ _) | (with_reducible assumption) | (with_reducible refine Mod.drew ?_) | (with_reducible refine Mod.drewN ?_ _) | (with_reducible refine Mod.alloc ?_ _) | (with_reducible refine Mod.setCell_ ?_ ?_; focus (first | (intro hlt_; simp; done) | (intro hlt_; exfalso; simp at hlt_; done) | (intro hlt_; exfalso; simp at hlt_; omega) | (intro hlt_; exfalso; omega) | (intro hlt_; simp at hlt_ ⊢; omega))) | (with_reducible refine Mod.trans_ ‹Mod _ _ _› ?_ ?_; focus (first | (intro x_ hx_ hl_; simp at hx_; done) | (intro x_ hx_ hl_; simp at hx_ ⊢; omega) | (intro x_ hx_ hl_; simp at hx_ hl_ ⊢; omega) | (intro x_ hx_ hl_; simp_all; done) | (intro x_ hx_ hl_; simp_all; omega)))))
        intro W BP BQ hmW
        clear d0 d1 d2 d3 d4 HS
        generalize w3.heap.size = q at *
        have HP := Lib.hid (Stage_any st e0 e1)
        have HQ := Lib.hid (Stage_any st2 f0 f1)
        have hp2 : w.heap.size ≤ p := hpw
        clear hB hp1 hm3 hm
        rcases ok with _ | _
        ·
          replace hI2 : OInv (st2, f0, f1) (mn) (yr) := by simpa using hI2
          obtain ⟨x0, x1⟩ := HE.out W hmW
          have cP := BP.cell
          have cQ := BQ.cell
          have fP := BP.free
          have lP := BP.lt
          have lQ := BQ.lt
          go_wp2_with fail
          refine (HP.out _).mono ?_
          rintro e w4 ⟨rfl, hm4⟩
          have BP4 := BP.mod hm4 (by simp)
          have BQ4 := BQ.mod hm4 (by simp)
          have hm5 : Mod [] w w4 := hmW.trans hm4 (by simp)
          clear x0 x1 cP cQ fP lP lQ BP BQ hmW hm4
          obtain ⟨x0, x1⟩ := HE.out w4 hm5
          have cP := BP4.cell
          have cQ := BQ4.cell
          have fP := BP4.free
          have lP := BP4.lt
          have lQ := BQ4.lt
          have n5 : st2 = 3 → (2 : Int) ≤ ((mn : Nat) : Int) ∧ (1 : Int) ≤ ((yr : Nat) : Int) := fun e => by have := hI2.2.2 e; omega
          go_wp2_with fail
          all_goals
            refine (HQ.out _).mono ?_
            rintro e w5 ⟨rfl, hm6⟩
            have BP6 : Blk w5 p [.int .i64 st2, .bool f0, .bool f1] 49 := Blk.mod_ hm6 (by simp) (by (repeat' (first | (with_reducible assumption) | (with_reducible rfl) | (with_reducible apply Blk.drew) | (with_reducible apply Blk.drewN) | (with_reducible refine Blk.new_ _ _ ?_; focus (first | assumption | (simp; omega) | (simp; done) | omega | (simp at *; omega))) | (with_reducible apply Blk.alloc) | (with_reducible apply Blk.other_; focus (first | assumption | (simp; omega) | (simp; done) | omega | (simp at *; omega))) | (with_reducible apply Blk.set_) | (with_reducible apply Blk.mod_ ‹Mod _ _ _›; focus (first | assumption | (simp; omega) | (simp; done) | omega | (simp at *; omega))) | (simp; done))))
            have hm7 : Mod [] w w5 := by (repeat' (first | (with_reducible exact Mod.refl _ _) | (with_reducible assumption) | (with_reducible refine Mod.drew ?_) | (with_reducible refine Mod.drewN ?_ _) | (with_reducible refine Mod.alloc ?_ _) | (with_reducible refine Mod.setCell_ ?_ ?_; focus (first | (intro hlt_; simp; done) | (intro hlt_; exfalso; simp at hlt_; done) | (intro hlt_; exfalso; simp at hlt_; omega) | (intro hlt_; exfalso; omega) | (intro hlt_; simp at hlt_ ⊢; omega))) | (with_reducible refine Mod.trans_ ‹Mod _ _ _› ?_ ?_; focus (first | (intro x_ hx_ hl_; simp at hx_; done) | (intro x_ hx_ hl_; simp at hx_ ⊢; omega) | (intro x_ hx_ hl_; simp at hx_ hl_ ⊢; omega) | (intro x_ hx_ hl_; simp_all; done) | (intro x_ hx_ hl_; simp_all; omega)))))
            by_cases h3 : st2 = 3
            · obtain ⟨n6, n7⟩ := n5 h3
              clear n5
              subst h3
              (try simp only [Int.natCast_add, Int.cast_ofNat_Int] at n6 n7)
              have n9 : ¬ (((mn : Nat) : Int) < 2) := by omega
              have n10 : ¬ (((yr : Nat) : Int) < 1) := by omega
              (try simp only [Int.natCast_add, Int.cast_ofNat_Int] at n9 n10)
              go_wp2_with fail
              go_roundw
              case rel => exact ⟨k + 1, mn, yr, (3, f0, f1), by omega, by go_num, by omega, by omega, by go_num, by go_num, hs2, hI2, BP6, hm7⟩
              case measure => simp [intOf]; omega
            · have n8 : (st2 == 3) = false := by simpa using h3
              clear n5
              go_wp2_with fail
              go_roundw
              case rel => exact ⟨k + 1, mn, yr, (st2, f0, f1), by omega, by go_num, by omega, by omega, by go_num, by go_num, hs2, hI2, BP6, hm7⟩
              case measure => simp [intOf]; omega
        · by_cases h0 : st = 0
          · obtain ⟨rfl, hx⟩ := hX h0 rfl
            subst h0
            replace hI2 : OInv (st2, f0, f1) ((mn + 1)) (yr) := by simpa using hI2
            obtain ⟨x0, x1⟩ := HE.out W hmW
            have cP := BP.cell
            have cQ := BQ.cell
            have fP := BP.free
            have lP := BP.lt
            have lQ := BQ.lt
            go_wp2_with fail
            refine (HP.out _).mono ?_
            rintro e w4 ⟨rfl, hm4⟩
            have BP4 := BP.mod hm4 (by simp)
            have BQ4 := BQ.mod hm4 (by simp)
            have hm5 : Mod [] w w4 := hmW.trans hm4 (by simp)
            clear x0 x1 cP cQ fP lP lQ BP BQ hmW hm4
            obtain ⟨x0, x1⟩ := HE.out w4 hm5
            have cP := BP4.cell
            have cQ := BQ4.cell
            have fP := BP4.free
            have lP := BP4.lt
            have lQ := BQ4.lt
            have n5 : st2 = 3 → (2 : Int) ≤ (((mn + 1) : Nat) : Int) ∧ (1 : Int) ≤ ((yr : Nat) : Int) := fun e => by have := hI2.2.2 e; omega
            go_wp2_with fail
            all_goals
              refine (HQ.out _).mono ?_
              rintro e w5 ⟨rfl, hm6⟩
              have BP6 : Blk w5 p [.int .i64 st2, .bool f0, .bool f1] 49 := Blk.mod_ hm6 (by simp) (by (repeat' (first | (with_reducible assumption) | (with_reducible rfl) | (with_reducible apply Blk.drew) | (with_reducible apply Blk.drewN) | (with_reducible refine Blk.new_ _ _ ?_; focus (first | assumption | (simp; omega) | (simp; done) | omega | (simp at *; omega))) | (with_reducible apply Blk.alloc) | (with_reducible apply Blk.other_; focus (first | assumption | (simp; omega) | (simp; done) | omega | (simp at *; omega))) | (with_reducible apply Blk.set_) | (with_reducible apply Blk.mod_ ‹Mod _ _ _›; focus (first | assumption | (simp; omega) | (simp; done) | omega | (simp at *; omega))) | (simp; done))))
              have hm7 : Mod [] w w5 := by (repeat' (first | (with_reducible exact Mod.refl _ _) | (with_reducible assumption) | (with_reducible refine Mod.drew ?_) | (with_reducible refine Mod.drewN ?_ _) | (with_reducible refine Mod.alloc ?_ _) | (with_reducible refine Mod.setCell_ ?_ ?_; focus (first | (intro hlt_; simp; done) | (intro hlt_; exfalso; simp at hlt_; done) | (intro hlt_; exfalso; simp at hlt_; omega) | (intro hlt_; exfalso; omega) | (intro hlt_; simp at hlt_ ⊢; omega))) | (with_reducible refine Mod.trans_ ‹Mod _ _ _› ?_ ?_; focus (first | (intro x_ hx_ hl_; simp at hx_; done) | (intro x_ hx_ hl_; simp at hx_ ⊢; omega) | (intro x_ hx_ hl_; simp at hx_ hl_ ⊢; omega) | (intro x_ hx_ hl_; simp_all; done) | (intro x_ hx_ hl_; simp_all; omega)))))
              by_cases h3 : st2 = 3
              · obtain ⟨n6, n7⟩ := n5 h3
                clear n5
                subst h3
                (try simp only [Int.natCast_add, Int.cast_ofNat_Int] at n6 n7)
                have n9 : ¬ ((((mn + 1) : Nat) : Int) < 2) := by omega
                have n10 : ¬ (((yr : Nat) : Int) < 1) := by omega
                (try simp only [Int.natCast_add, Int.cast_ofNat_Int] at n9 n10)
                go_wp2_with fail
                go_roundw
                case rel => exact ⟨k + 1, (mn + 1), yr, (3, f0, f1), by omega, by go_num, by omega, by omega, by go_num, by go_num, hs2, hI2, BP6, hm7⟩
                case measure => simp [intOf]; omega
              · have n8 : (st2 == 3) = false := by simpa using h3
                clear n5
                go_wp2_with fail
                go_roundw
                case rel => exact ⟨k + 1, (mn + 1), yr, (st2, f0, f1), by omega, by go_num, by omega, by omega, by go_num, by go_num, hs2, hI2, BP6, hm7⟩
                case measure => simp [intOf]; omega
          · have n3 : (st == 0) = false := by simpa using h0
            rcases o with _ | _
            ·
              replace hI2 : OInv (st2, f0, f1) (mn) ((yr + 1)) := by simpa using hI2
              obtain ⟨x0, x1⟩ := HE.out W hmW
              have cP := BP.cell
              have cQ := BQ.cell
              have fP := BP.free
              have lP := BP.lt
              have lQ := BQ.lt
              go_wp2_with fail
              refine (HP.out _).mono ?_
              rintro e w4 ⟨rfl, hm4⟩
              have BP4 := BP.mod hm4 (by simp)
              have BQ4 := BQ.mod hm4 (by simp)
              have hm5 : Mod [] w w4 := hmW.trans hm4 (by simp)
              clear x0 x1 cP cQ fP lP lQ BP BQ hmW hm4
              obtain ⟨x0, x1⟩ := HE.out w4 hm5
              have cP := BP4.cell
              have cQ := BQ4.cell
              have fP := BP4.free
              have lP := BP4.lt
              have lQ := BQ4.lt
              have n5 : st2 = 3 → (2 : Int) ≤ ((mn : Nat) : Int) ∧ (1 : Int) ≤ (((yr + 1) : Nat) : Int) := fun e => by have := hI2.2.2 e; omega
              go_wp2_with fail
              all_goals
                refine (HQ.out _).mono ?_
                rintro e w5 ⟨rfl, hm6⟩
                have BP6 : Blk w5 p [.int .i64 st2, .bool f0, .bool f1] 49 := Blk.mod_ hm6 (by simp) (by (repeat' (first | (with_reducible assumption) | (with_reducible rfl) | (with_reducible apply Blk.drew) | (with_reducible apply Blk.drewN) | (with_reducible refine Blk.new_ _ _ ?_; focus (first | assumption | (simp; omega) | (simp; done) | omega | (simp at *; omega))) | (with_reducible apply Blk.alloc) | (with_reducible apply Blk.other_; focus (first | assumption | (simp; omega) | (simp; done) | omega | (simp at *; omega))) | (with_reducible apply Blk.set_) | (with_reducible apply Blk.mod_ ‹Mod _ _ _›; focus (first | assumption | (simp; omega) | (simp; done) | omega | (simp at *; omega))) | (simp; done))))
                have hm7 : Mod [] w w5 := by (repeat' (first | (with_reducible exact Mod.refl _ _) | (with_reducible assumption) | (with_reducible refine Mod.drew ?_) | (with_reducible refine Mod.drewN ?_ _) | (with_reducible refine Mod.alloc ?_ _) | (with_reducible refine Mod.setCell_ ?_ ?_; focus (first | (intro hlt_; simp; done) | (intro hlt_; exfalso; simp at hlt_; done) | (intro hlt_; exfalso; simp at hlt_; omega) | (intro hlt_; exfalso; omega) | (intro hlt_; simp at hlt_ ⊢; omega))) | (with_reducible refine Mod.trans_ ‹Mod _ _ _› ?_ ?_; focus (first | (intro x_ hx_ hl_; simp at hx_; done) | (intro x_ hx_ hl_; simp at hx_ ⊢; omega) | (intro x_ hx_ hl_; simp at hx_ hl_ ⊢; omega) | (intro x_ hx_ hl_; simp_all; done) | (intro x_ hx_ hl_; simp_all; omega)))))
                by_cases h3 : st2 = 3
                · obtain ⟨n6, n7⟩ := n5 h3
                  clear n5
                  subst h3
                  (try simp only [Int.natCast_add, Int.cast_ofNat_Int] at n6 n7)
                  have n9 : ¬ (((mn : Nat) : Int) < 2) := by omega
                  have n10 : ¬ ((((yr + 1) : Nat) : Int) < 1) := by omega
                  (try simp only [Int.natCast_add, Int.cast_ofNat_Int] at n9 n10)
                  go_wp2_with fail
                  go_roundw
                  case rel => exact ⟨k + 1, mn, (yr + 1), (3, f0, f1), by omega, by go_num, by omega, by omega, by go_num, by go_num, hs2, hI2, BP6, hm7⟩
                  case measure => simp [intOf]; omega
                · have n8 : (st2 == 3) = false := by simpa using h3
                  clear n5
                  go_wp2_with fail
                  go_roundw
                  case rel => exact ⟨k + 1, mn, (yr + 1), (st2, f0, f1), by omega, by go_num, by omega, by omega, by go_num, by go_num, hs2, hI2, BP6, hm7⟩
                  case measure => simp [intOf]; omega
            ·
              replace hI2 : OInv (st2, f0, f1) ((mn + 1)) (yr) := by simpa using hI2
              obtain ⟨x0, x1⟩ := HE.out W hmW
              have cP := BP.cell
              have cQ := BQ.cell
              have fP := BP.free
              have lP := BP.lt
              have lQ := BQ.lt
              go_wp2_with fail
              refine (HP.out _).mono ?_
              rintro e w4 ⟨rfl, hm4⟩
              have BP4 := BP.mod hm4 (by simp)
              have BQ4 := BQ.mod hm4 (by simp)
              have hm5 : Mod [] w w4 := hmW.trans hm4 (by simp)
              clear x0 x1 cP cQ fP lP lQ BP BQ hmW hm4
              obtain ⟨x0, x1⟩ := HE.out w4 hm5
              have cP := BP4.cell
              have cQ := BQ4.cell
              have fP := BP4.free
              have lP := BP4.lt
              have lQ := BQ4.lt
              have n5 : st2 = 3 → (2 : Int) ≤ (((mn + 1) : Nat) : Int) ∧ (1 : Int) ≤ ((yr : Nat) : Int) := fun e => by have := hI2.2.2 e; omega
              go_wp2_with fail
              all_goals
                refine (HQ.out _).mono ?_
                rintro e w5 ⟨rfl, hm6⟩
                have BP6 : Blk w5 p [.int .i64 st2, .bool f0, .bool f1] 49 := Blk.mod_ hm6 (by simp) (by (repeat' (first | (with_reducible assumption) | (with_reducible rfl) | (with_reducible apply Blk.drew) | (with_reducible apply Blk.drewN) | (with_reducible refine Blk.new_ _ _ ?_; focus (first | assumption | (simp; omega) | (simp; done) | omega | (simp at *; omega))) | (with_reducible apply Blk.alloc) | (with_reducible apply Blk.other_; focus (first | assumption | (simp; omega) | (simp; done) | omega | (simp at *; omega))) | (with_reducible apply Blk.set_) | (with_reducible apply Blk.mod_ ‹Mod _ _ _›; focus (first | assumption | (simp; omega) | (simp; done) | omega | (simp at *; omega))) | (simp; done))))
                have hm7 : Mod [] w w5 := by (repeat' (first | (with_reducible exact Mod.refl _ _) | (with_reducible assumption) | (with_reducible refine Mod.drew ?_) | (with_reducible refine Mod.drewN ?_ _) | (with_reducible refine Mod.alloc ?_ _) | (with_reducible refine Mod.setCell_ ?_ ?_; focus (first | (intro hlt_; simp; done) | (intro hlt_; exfalso; simp at hlt_; done) | (intro hlt_; exfalso; simp at hlt_; omega) | (intro hlt_; exfalso; omega) | (intro hlt_; simp at hlt_ ⊢; omega))) | (with_reducible refine Mod.trans_ ‹Mod _ _ _› ?_ ?_; focus (first | (intro x_ hx_ hl_; simp at hx_; done) | (intro x_ hx_ hl_; simp at hx_ ⊢; omega) | (intro x_ hx_ hl_; simp at hx_ hl_ ⊢; omega) | (intro x_ hx_ hl_; simp_all; done) | (intro x_ hx_ hl_; simp_all; omega)))))
                by_cases h3 : st2 = 3
                · obtain ⟨n6, n7⟩ := n5 h3
                  clear n5
                  subst h3
                  (try simp only [Int.natCast_add, Int.cast_ofNat_Int] at n6 n7)
                  have n9 : ¬ ((((mn + 1) : Nat) : Int) < 2) := by omega
                  have n10 : ¬ (((yr : Nat) : Int) < 1) := by omega
                  (try simp only [Int.natCast_add, Int.cast_ofNat_Int] at n9 n10)
                  go_wp2_with fail
                  go_roundw
                  case rel => exact ⟨k + 1, (mn + 1), yr, (3, f0, f1), by omega, by go_num, by omega, by omega, by go_num, by go_num, hs2, hI2, BP6, hm7⟩
                  case measure => simp [intOf]; omega
                · have n8 : (st2 == 3) = false := by simpa using h3
                  clear n5
                  go_wp2_with fail
                  go_roundw
                  case rel => exact ⟨k + 1, (mn + 1), yr, (st2, f0, f1), by omega, by go_num, by omega, by omega, by go_num, by go_num, hs2, hI2, BP6, hm7⟩
                  case measure => simp [intOf]; omega
      ·
        refine named (w0 := w) p (wr.heap.size) [.int .i64 st, .bool e0, .bool e1] [.int .i64 st2, .bool f0, .bool f1] 49 49 ?_ ?_ ?_ ?_
        · (repeat' (first | (with_reducible assumption) | (with_reducible rfl) | (with_reducible apply Blk.drew) | (with_reducible apply Blk.drewN) | (with_reducible refine Blk.new_ _ _ ?_; focus (first | assumption | (simp; omega) | (simp; done) | omega | (simp at *; omega))) | (with_reducible apply Blk.alloc) | (with_reducible apply Blk.other_; focus (first | assumption | (simp; omega) | (simp; done) | omega | (simp at *; omega))) | (with_reducible apply Blk.set_) | (with_reducible apply Blk.mod_ ‹Mod _ _ _›; focus (first | assumption | (simp; omega) | (simp; done) | omega | (simp at *; omega))) | (simp; done)))
        · (repeat' (first | (with_reducible assumption) | (with_reducible rfl) | (with_reducible apply Blk.drew) | (with_reducible apply Blk.drewN) | (with_reducible refine Blk.new_ _ _ ?_; focus (first | assumption | (simp; omega) | (simp; done) | omega | (simp at *; omega))) | (with_reducible apply Blk.alloc) | (with_reducible apply Blk.other_; focus (first | assumption | (simp; omega) | (simp; done) | omega | (simp at *; omega))) | (with_reducible apply Blk.set_) | (with_reducible apply Blk.mod_ ‹Mod _ _ _›; focus (first | assumption | (simp; omega) | (simp; done) | omega | (simp at *; omega))) | (simp; done)))
        · (repeat' (first | (with_reducible exact Mod.refl _ _) | (with_reducible assumption) | (with_reducible refine Mod.drew ?_) | (with_reducible refine Mod.drewN ?_ _) | (with_reducible refine Mod.alloc ?_ _) | (with_reducible refine Mod.setCell_ ?_ ?_; focus (first | (intro hlt_; simp; done) | (intro hlt_; exfalso; simp at hlt_; done) | (intro hlt_; exfalso; simp at hlt_; omega) | (intro hlt_; exfalso; omega) | (intro hlt_; simp at hlt_ ⊢; omega))) | (with_reducible refine Mod.trans_ ‹Mod _ _ _› ?_ ?_; focus (first | (intro x_ hx_ hl_; simp at hx_; done) | (intro x_ hx_ hl_; simp at hx_ ⊢; omega) | (intro x_ hx_ hl_; simp at hx_ hl_ ⊢; omega) | (intro x_ hx_ hl_; simp_all; done) | (intro x_ hx_ hl_; simp_all; omega)))))
        intro W BP BQ hmW
        clear d0 d1 d2 d3 d4 HS
        generalize wr.heap.size = q at *
        have HP := Lib.hid (Stage_any st e0 e1)
        have HQ := Lib.hid (Stage_any st2 f0 f1)
        have hp2 : w.heap.size ≤ p := hpw
        clear hB hp1 hm3 hm
        rcases ok with _ | _
        ·
          replace hI2 : OInv (st2, f0, f1) (mn) (yr) := by simpa using hI2
          obtain ⟨x0, x1⟩ := HE.out W hmW
          have cP := BP.cell
          have cQ := BQ.cell
          have fP := BP.free
          have lP := BP.lt
          have lQ := BQ.lt
          go_wp2_with fail
          refine (HP.out _).mono ?_
          rintro e w4 ⟨rfl, hm4⟩
          have BP4 := BP.mod hm4 (by simp)
          have BQ4 := BQ.mod hm4 (by simp)
          have hm5 : Mod [] w w4 := hmW.trans hm4 (by simp)
          clear x0 x1 cP cQ fP lP lQ BP BQ hmW hm4
          obtain ⟨x0, x1⟩ := HE.out w4 hm5
          have cP := BP4.cell
          have cQ := BQ4.cell
          have fP := BP4.free
          have lP := BP4.lt
          have lQ := BQ4.lt
          have n5 : st2 = 3 → (2 : Int) ≤ ((mn : Nat) : Int) ∧ (1 : Int) ≤ ((yr : Nat) : Int) := fun e => by have := hI2.2.2 e; omega
          go_wp2_with fail
          all_goals
            refine (HQ.out _).mono ?_
            rintro e w5 ⟨rfl, hm6⟩
            have BP6 : Blk w5 p [.int .i64 st2, .bool f0, .bool f1] 49 := Blk.mod_ hm6 (by simp) (by (repeat' (first | (with_reducible assumption) | (with_reducible rfl) | (with_reducible apply Blk.drew) | (with_reducible apply Blk.drewN) | (with_reducible refine Blk.new_ _ _ ?_; focus (first | assumption | (simp; omega) | (simp; done) | omega | (simp at *; omega))) | (with_reducible apply Blk.alloc) | (with_reducible apply Blk.other_; focus (first | assumption | (simp; omega) | (simp; done) | omega | (simp at *; omega))) | (with_reducible apply Blk.set_) | (with_reducible apply Blk.mod_ ‹Mod _ _ _›; focus (first | assumption | (simp; omega) | (simp; done) | omega | (simp at *; omega))) | (simp; done))))
            have hm7 : Mod [] w w5 := by (repeat' (first | (with_reducible exact Mod.refl _ _) | (with_reducible assumption) | (with_reducible refine Mod.drew ?_) | (with_reducible refine Mod.drewN ?_ _) | (with_reducible refine Mod.alloc ?_ _) | (with_reducible refine Mod.setCell_ ?_ ?_; focus (first | (intro hlt_; simp; done) | (intro hlt_; exfalso; simp at hlt_; done) | (intro hlt_; exfalso; simp at hlt_; omega) | (intro hlt_; exfalso; omega) | (intro hlt_; simp at hlt_ ⊢; omega))) | (with_reducible refine Mod.trans_ ‹Mod _ _ _› ?_ ?_; focus (first | (intro x_ hx_ hl_; simp at hx_; done) | (intro x_ hx_ hl_; simp at hx_ ⊢; omega) | (intro x_ hx_ hl_; simp at hx_ hl_ ⊢; omega) | (intro x_ hx_ hl_; simp_all; done) | (intro x_ hx_ hl_; simp_all; omega)))))
            by_cases h3 : st2 = 3
            · obtain ⟨n6, n7⟩ := n5 h3
              clear n5
              subst h3
              (try simp only [Int.natCast_add, Int.cast_ofNat_Int] at n6 n7)
              have n9 : ¬ (((mn : Nat) : Int) < 2) := by omega
              have n10 : ¬ (((yr : Nat) : Int) < 1) := by omega
              (try simp only [Int.natCast_add, Int.cast_ofNat_Int] at n9 n10)
              go_wp2_with fail
              go_roundw
              case rel => exact ⟨k + 1, mn, yr, (3, f0, f1), by omega, by go_num, by omega, by omega, by go_num, by go_num, hs2, hI2, BP6, hm7⟩
              case measure => simp [intOf]; omega
            · have n8 : (st2 == 3) = false := by simpa using h3
              clear n5
              go_wp2_with fail
              go_roundw
              case rel => exact ⟨k + 1, mn, yr, (st2, f0, f1), by omega, by go_num, by omega, by omega, by go_num, by go_num, hs2, hI2, BP6, hm7⟩
              case measure => simp [intOf]; omega
        · by_cases h0 : st = 0
          · obtain ⟨rfl, hx⟩ := hX h0 rfl
            subst h0
            replace hI2 : OInv (st2, f0, f1) ((mn + 1)) (yr) := by simpa using hI2
            obtain ⟨x0, x1⟩ := HE.out W hmW
            have cP := BP.cell
            have cQ := BQ.cell
            have fP := BP.free
            have lP := BP.lt
            have lQ := BQ.lt
            go_wp2_with fail
            refine (HP.out _).mono ?_
            rintro e w4 ⟨rfl, hm4⟩
            have BP4 := BP.mod hm4 (by simp)
            have BQ4 := BQ.mod hm4 (by simp)
            have hm5 : Mod [] w w4 := hmW.trans hm4 (by simp)
            clear x0 x1 cP cQ fP lP lQ BP BQ hmW hm4
            obtain ⟨x0, x1⟩ := HE.out w4 hm5
            have cP := BP4.cell
            have cQ := BQ4.cell
            have fP := BP4.free
            have lP := BP4.lt
            have lQ := BQ4.lt
            have n5 : st2 = 3 → (2 : Int) ≤ (((mn + 1) : Nat) : Int) ∧ (1 : Int) ≤ ((yr : Nat) : Int) := fun e => by have := hI2.2.2 e; omega
            go_wp2_with fail
            all_goals
              refine (HQ.out _).mono ?_
              rintro e w5 ⟨rfl, hm6⟩
              have BP6 : Blk w5 p [.int .i64 st2, .bool f0, .bool f1] 49 := Blk.mod_ hm6 (by simp) (by (repeat' (first | (with_reducible assumption) | (with_reducible rfl) | (with_reducible apply Blk.drew) | (with_reducible apply Blk.drewN) | (with_reducible refine Blk.new_ _ _ ?_; focus (first | assumption | (simp; omega) | (simp; done) | omega | (simp at *; omega))) | (with_reducible apply Blk.alloc) | (with_reducible apply Blk.other_; focus (first | assumption | (simp; omega) | (simp; done) | omega | (simp at *; omega))) | (with_reducible apply Blk.set_) | (with_reducible apply Blk.mod_ ‹Mod _ _ _›; focus (first | assumption | (simp; omega) | (simp; done) | omega | (simp at *; omega))) | (simp; done))))
              have hm7 : Mod [] w w5 := by (repeat' (first | (with_reducible exact Mod.refl _ _) | (with_reducible assumption) | (with_reducible refine Mod.drew ?_) | (with_reducible refine Mod.drewN ?_ _) | (with_reducible refine Mod.alloc ?_ _) | (with_reducible refine Mod.setCell_ ?_ ?_; focus (first | (intro hlt_; simp; done) | (intro hlt_; exfalso; simp at hlt_; done) | (intro hlt_; exfalso; simp at hlt_; omega) | (intro hlt_; exfalso; omega) | (intro hlt_; simp at hlt_ ⊢; omega))) | (with_reducible refine Mod.trans_ ‹Mod _ _ _› ?_ ?_; focus (first | (intro x_ hx_ hl_; simp at hx_; done) | (intro x_ hx_ hl_; simp at hx_ ⊢; omega) | (intro x_ hx_ hl_; simp at hx_ hl_ ⊢; omega) | (intro x_ hx_ hl_; simp_all; done) | (intro x_ hx_ hl_; simp_all; omega)))))
              by_cases h3 : st2 = 3
              · obtain ⟨n6, n7⟩ := n5 h3
                clear n5
                subst h3
                (try simp only [Int.natCast_add, Int.cast_ofNat_Int] at n6 n7)
                have n9 : ¬ ((((mn + 1) : Nat) : Int) < 2) := by omega
                have n10 : ¬ (((yr : Nat) : Int) < 1) := by omega
                (try simp only [Int.natCast_add, Int.cast_ofNat_Int] at n9 n10)
                go_wp2_with fail
                go_roundw
                case rel => exact ⟨k + 1, (mn + 1), yr, (3, f0, f1), by omega, by go_num, by omega, by omega, by go_num, by go_num, hs2, hI2, BP6, hm7⟩
                case measure => simp [intOf]; omega
              · have n8 : (st2 == 3) = false := by simpa using h3
                clear n5
                go_wp2_with fail
                go_roundw
                case rel => exact ⟨k + 1, (mn + 1), yr, (st2, f0, f1), by omega, by go_num, by omega, by omega, by go_num, by go_num, hs2, hI2, BP6, hm7⟩
                case measure => simp [intOf]; omega
          · have n3 : (st == 0) = false := by simpa using h0
            rcases o with _ | _
            ·
              replace hI2 : OInv (st2, f0, f1) (mn) ((yr + 1)) := by simpa using hI2
              obtain ⟨x0, x1⟩ := HE.out W hmW
              have cP := BP.cell
              have cQ := BQ.cell
              have fP := BP.free
              have lP := BP.lt
              have lQ := BQ.lt
              go_wp2_with fail
              refine (HP.out _).mono ?_
              rintro e w4 ⟨rfl, hm4⟩
              have BP4 := BP.mod hm4 (by simp)
              have BQ4 := BQ.mod hm4 (by simp)
              have hm5 : Mod [] w w4 := hmW.trans hm4 (by simp)
              clear x0 x1 cP cQ fP lP lQ BP BQ hmW hm4
              obtain ⟨x0, x1⟩ := HE.out w4 hm5
              have cP := BP4.cell
              have cQ := BQ4.cell
              have fP := BP4.free
              have lP := BP4.lt
              have lQ := BQ4.lt
              have n5 : st2 = 3 → (2 : Int) ≤ ((mn : Nat) : Int) ∧ (1 : Int) ≤ (((yr + 1) : Nat) : Int) := fun e => by have := hI2.2.2 e; omega
              go_wp2_with fail
              all_goals
                refine (HQ.out _).mono ?_
                rintro e w5 ⟨rfl, hm6⟩
                have BP6 : Blk w5 p [.int .i64 st2, .bool f0, .bool f1] 49 := Blk.mod_ hm6 (by simp) (by (repeat' (first | (with_reducible assumption) | (with_reducible rfl) | (with_reducible apply Blk.drew) | (with_reducible apply Blk.drewN) | (with_reducible refine Blk.new_ _ _ ?_; focus (first | assumption | (simp; omega) | (simp; done) | omega | (simp at *; omega))) | (with_reducible apply Blk.alloc) | (with_reducible apply Blk.other_; focus (first | assumption | (simp; omega) | (simp; done) | omega | (simp at *; omega))) | (with_reducible apply Blk.set_) | (with_reducible apply Blk.mod_ ‹Mod _ _ _›; focus (first | assumption | (simp; omega) | (simp; done) | omega | (simp at *; omega))) | (simp; done))))
                have hm7 : Mod [] w w5 := by (repeat' (first | (with_reducible exact Mod.refl _ _) | (with_reducible assumption) | (with_reducible refine Mod.drew ?_) | (with_reducible refine Mod.drewN ?_ _) | (with_reducible refine Mod.alloc ?_ _) | (with_reducible refine Mod.setCell_ ?_ ?_; focus (first | (intro hlt_; simp; done) | (intro hlt_; exfalso; simp at hlt_; done) | (intro hlt_; exfalso; simp at hlt_; omega) | (intro hlt_; exfalso; omega) | (intro hlt_; simp at hlt_ ⊢; omega))) | (with_reducible refine Mod.trans_ ‹Mod _ _ _› ?_ ?_; focus (first | (intro x_ hx_ hl_; simp at hx_; done) | (intro x_ hx_ hl_; simp at hx_ ⊢; omega) | (intro x_ hx_ hl_; simp at hx_ hl_ ⊢; omega) | (intro x_ hx_ hl_; simp_all; done) | (intro x_ hx_ hl_; simp_all; omega)))))
                by_cases h3 : st2 = 3
                · obtain ⟨n6, n7⟩ := n5 h3
                  clear n5
                  subst h3
                  (try simp only [Int.natCast_add, Int.cast_ofNat_Int] at n6 n7)
                  have n9 : ¬ (((mn : Nat) : Int) < 2) := by omega
                  have n10 : ¬ ((((yr + 1) : Nat) : Int) < 1) := by omega
                  (try simp only [Int.natCast_add, Int.cast_ofNat_Int] at n9 n10)
                  go_wp2_with fail
                  go_roundw
                  case rel => exact ⟨k + 1, mn, (yr + 1), (3, f0, f1), by omega, by go_num, by omega, by omega, by go_num, by go_num, hs2, hI2, BP6, hm7⟩
                  case measure => simp [intOf]; omega
                · have n8 : (st2 == 3) = false := by simpa using h3
                  clear n5
                  go_wp2_with fail
                  go_roundw
                  case rel => exact ⟨k + 1, mn, (yr + 1), (st2, f0, f1), by omega, by go_num, by omega, by omega, by go_num, by go_num, hs2, hI2, BP6, hm7⟩
                  case measure => simp [intOf]; omega
            ·
              replace hI2 : OInv (st2, f0, f1) ((mn + 1)) (yr) := by simpa using hI2
              obtain ⟨x0, x1⟩ := HE.out W hmW
              have cP := BP.cell
              have cQ := BQ.cell
              have fP := BP.free
              have lP := BP.lt
              have lQ := BQ.lt
              go_wp2_with fail
              refine (HP.out _).mono ?_
              rintro e w4 ⟨rfl, hm4⟩
              have BP4 := BP.mod hm4 (by simp)
              have BQ4 := BQ.mod hm4 (by simp)
              have hm5 : Mod [] w w4 := hmW.trans hm4 (by simp)
              clear x0 x1 cP cQ fP lP lQ BP BQ hmW hm4
              obtain ⟨x0, x1⟩ := HE.out w4 hm5
              have cP := BP4.cell
              have cQ := BQ4.cell
              have fP := BP4.free
              have lP := BP4.lt
              have lQ := BQ4.lt
              have n5 : st2 = 3 → (2 : Int) ≤ (((mn + 1) : Nat) : Int) ∧ (1 : Int) ≤ ((yr : Nat) : Int) := fun e => by have := hI2.2.2 e; omega
              go_wp2_with fail
              all_goals
                refine (HQ.out _).mono ?_
                rintro e w5 ⟨rfl, hm6⟩
                have BP6 : Blk w5 p [.int .i64 st2, .bool f0, .bool f1] 49 := Blk.mod_ hm6 (by simp) (by (repeat' (first | (with_reducible assumption) | (with_reducible rfl) | (with_reducible apply Blk.drew) | (with_reducible apply Blk.drewN) | (with_reducible refine Blk.new_ _ _ ?_; focus (first | assumption | (simp; omega) | (simp; done) | omega | (simp at *; omega))) | (with_reducible apply Blk.alloc) | (with_reducible apply Blk.other_; focus (first | assumption | (simp; omega) | (simp; done) | omega | (simp at *; omega))) | (with_reducible apply Blk.set_) | (with_reducible apply Blk.mod_ ‹Mod _ _ _›; focus (first | assumption | (simp; omega) | (simp; done) | omega | (simp at *; omega))) | (simp; done))))
                have hm7 : Mod [] w w5 := by (repeat' (first | (with_reducible exact Mod.refl _ _) | (with_reducible assumption) | (with_reducible refine Mod.drew ?_) | (with_reducible refine Mod.drewN ?_ _) | (with_reducible refine Mod.alloc ?_ _) | (with_reducible refine Mod.setCell_ ?_ ?_; focus (first | (intro hlt_; simp; done) | (intro hlt_; exfalso; simp at hlt_; done) | (intro hlt_; exfalso; simp at hlt_; omega) | (intro hlt_; exfalso; omega) | (intro hlt_; simp at hlt_ ⊢; omega))) | (with_reducible refine Mod.trans_ ‹Mod _ _ _› ?_ ?_; focus (first | (intro x_ hx_ hl_; simp at hx_; done) | (intro x_ hx_ hl_; simp at hx_ ⊢; omega) | (intro x_ hx_ hl_; simp at hx_ hl_ ⊢; omega) | (intro x_ hx_ hl_; simp_all; done) | (intro x_ hx_ hl_; simp_all; omega)))))
                by_cases h3 : st2 = 3
                · obtain ⟨n6, n7⟩ := n5 h3
                  clear n5
                  subst h3
                  (try simp only [Int.natCast_add, Int.cast_ofNat_Int] at n6 n7)
                  have n9 : ¬ ((((mn + 1) : Nat) : Int) < 2) := by omega
                  have n10 : ¬ (((yr : Nat) : Int) < 1) := by omega
                  (try simp only [Int.natCast_add, Int.cast_ofNat_Int] at n9 n10)
                  go_wp2_with fail
                  go_roundw
                  case rel => exact ⟨k + 1, (mn + 1), yr, (3, f0, f1), by omega, by go_num, by omega, by omega, by go_num, by go_num, hs2, hI2, BP6, hm7⟩
                  case measure => simp [intOf]; omega
                · have n8 : (st2 == 3) = false := by simpa using h3
                  clear n5
                  go_wp2_with fail
                  go_roundw
                  case rel => exact ⟨k + 1, (mn + 1), yr, (st2, f0, f1), by omega, by go_num, by omega, by omega, by go_num, by go_num, hs2, hI2, BP6, hm7⟩
                  case measure => simp [intOf]; omega
    · obtain rfl : k = l2.length := by omega
      go_wp2_with fail
      go_ret
      exact ⟨rfl, hm⟩
namespace tcpOpens
open Go.ChangeShapes Go.WideShapes Go.ChangeAt Go.RowKit
open Go.ChangeMaps (open_string shut_string)
theorem own : ownKnob Try.prog.godebug = none := by kernel_rfl
theorem laidOut : laidOutB Try.prog = true := by kernel_rfl
set_option maxRecDepth 100000 in
theorem lifted (os : Os) (started : os.Started) (H : Type) (enc : TypeId × Value → H) :
    ReturnsInHanded {} Try.checked os 5 .any (Rows.tcpOpensSpec.pre6 enc Try.prog Try.f5 Rows.tcpOpensRow.domain false) (Rows.tcpOpensSpec.post enc Try.prog Try.f5 false true false false) := by
  refine returnsInHanded_of_change_sized (C := Try.checked) own started (by kernel_rfl) Try.func5
    (ChangeSpec.witness6 (enc := enc) (C := Try.checked) false ⟨#[], #[.slice none 0 0], []⟩ 8 (by kernel_rfl) (by kernel_rfl) (by kernel_rfl) (by kernel_rfl)) ?_
  intro W base args ds gs before hval0 hW hcnd hsz0 _
  have hsz : (DataW.weightsEach Try.prog (Try.f5.params.toList ++ Rows.tcpOpensSpec.plain.varTypes Try.prog) (ds ++ gs)).all (· ≤ reachBytes) = true := hsz0
  have hval : ∀ (j : Nat) t v, Try.f5.params[j]? = some t → args[j]? = some v → Value.okWide Try.prog W .any base t v := hval0
  have hW' := hW
  obtain ⟨p, q, hA0, hV, rfl, hfz, hnd⟩ := hW
  have hA : DataW.TrodAll enc Try.prog W 0 (fun _ => true) true Try.f5.params.toList args.toList ds p := hA0
  rw [Try.params5] at hA hval hsz
  obtain ⟨v0, vs0, d0, ds0, p0, q0, hargs, rfl, rfl, h0, r0⟩ := trodAll_cons hA
  obtain ⟨rfl, rfl, rfl⟩ := trodAll_nil r0
  obtain rfl : args = #[v0] := by cases args; simp_all
  obtain ⟨rfl, rfl⟩ := trodVars_none hV
  have hv0 := (hval 0 46 v0 rfl rfl)
  have k0 := h0
  have lt0 : ∀ x ∈ p0, x.block < W.heap.size := by obtain ⟨m, hm⟩ := k0; exact DataW.trod_lt m _ _ _ hm
  obtain ⟨fuel0, g0⟩ := h0
  obtain ⟨l0, s0, o0⟩ := open_structs enMove _ Try.underlying46 (by kernel_rfl) open_move (okWide_slice Try.underlying46 hv0) g0 (by decide)
  clear hA0 hval0 hsz0
  refine (opens_any v0 l0 W s0).mono fun e W' ⟨he, mod⟩ => ?_
  have bel : Below W.heap.size W W' := mod.below (Nat.le_refl _) (by simp)
  subst he
  exact ⟨_, rfl, _, _, _, [], _, [], hW', trodAll_mk1 (shut_bool Try.underlying4 _), (trodAll_cons_mk (Below.trod laidOut (by kernel_rfl) (of_decide_eq_true (by kernel_rfl)) k0 bel lt0) trodAll_mk0), rfl, bel.frame _, fun h => by cases h⟩
theorem over : Rows.tcpOpensRow.holds Try.pinned (OpenSpec.ofChange Rows.tcpOpensSpec) :=
  OpenClaim.holds_of_wide 5 Try.f5 rfl rfl rfl rfl rfl rfl rfl ⟨rfl, rfl, rfl, rfl, rfl⟩ rfl rfl rfl rfl rfl (by kernel_rfl) Try.func5 (by kernel_rfl)
    (of_decide_eq_true (by kernel_rfl)) (by unfold Func.isWrapper; first | (rw [if_pos (by decide +kernel)]; kernel_rfl) | (rw [if_neg (by decide +kernel)]; exact ⟨rfl, rfl⟩))
    (fun os started H enc _ => lifted os started H enc)
theorem proved : Rows.TcpOpensSaid := over
#print axioms proved
end tcpOpens
/-- The row, under a short name, for the claim. -/
theorem tcpOpens_holds : Rows.TcpOpensSaid := tcpOpens.proved
end Go.Proofs.Ytbmbgjcnjfbhjaa
