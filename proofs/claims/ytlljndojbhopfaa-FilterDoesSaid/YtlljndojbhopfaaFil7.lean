/- filter: awake. -/
import Derived.Test.YtlljndojbhopfaaFil6
namespace Go.Proofs.Ytlljndojbhopfaa
open Go Go.RowKit
set_option linter.unusedVariables false
set_option linter.unusedSimpArgs false
attribute [local go_sem] bmax2 bmin2 bmax bmin cell_ext frozen_ext

def aw3 : List Smp := [⟨6, 4, 0⟩, ⟨7, 4, 0⟩, ⟨5, 9, 0⟩, ⟨0, 0, 0⟩, ⟨0, 0, 0⟩, ⟨0, 0, 0⟩, ⟨0, 0, 0⟩, ⟨0, 0, 0⟩]
def aw2 : List Smp := [⟨7, 4, 0⟩, ⟨5, 9, 0⟩, ⟨0, 0, 0⟩, ⟨0, 0, 0⟩, ⟨0, 0, 0⟩, ⟨0, 0, 0⟩, ⟨0, 0, 0⟩, ⟨0, 0, 0⟩]
def aw1 : List Smp := [⟨5, 9, 0⟩, ⟨0, 0, 0⟩, ⟨0, 0, 0⟩, ⟨0, 0, 0⟩, ⟨0, 0, 0⟩, ⟨0, 0, 0⟩, ⟨0, 0, 0⟩, ⟨0, 0, 0⟩]
def aw4 : List Smp := [⟨6, 4, 3⟩, ⟨7, 4, 3⟩, ⟨5, 9, 3⟩, ⟨0, 0, 0⟩, ⟨0, 0, 0⟩, ⟨0, 0, 0⟩, ⟨0, 0, 0⟩, ⟨0, 0, 0⟩]
def aw5 : List Smp := [⟨0, 4, 3⟩, ⟨1, 4, 3⟩, ⟨-1, 9, 3⟩, ⟨0, 0, 0⟩, ⟨0, 0, 0⟩, ⟨0, 0, 0⟩, ⟨0, 0, 0⟩, ⟨0, 0, 0⟩]
theorem okS_dec (s : Smp) (h : (decide (-1152921504606846976 ≤ s.off) && decide (s.off ≤ 1152921504606846976) && decide (0 ≤ s.del) && decide (s.del ≤ 1152921504606846976) && decide (0 ≤ s.bnd) && decide (s.bnd ≤ 1152921504606846976)) = true) : okS s := by
  simp only [Bool.and_eq_true, decide_eq_true_eq] at h
  exact ⟨h.1.1.1.1.1, h.1.1.1.1.2, h.1.1.1.2, h.1.1.2, h.1.2, h.2⟩
theorem okL_dec (l : List Smp) (h : (l.all fun s => decide (-1152921504606846976 ≤ s.off) && decide (s.off ≤ 1152921504606846976) && decide (0 ≤ s.del) && decide (s.del ≤ 1152921504606846976) && decide (0 ≤ s.bnd) && decide (s.bnd ≤ 1152921504606846976)) = true) : ∀ s ∈ l, okS s := fun s hs => okS_dec s (List.all_eq_true.1 h s hs)

theorem aw_best0 (b : Nat) (w : World) (h : FAt w b 10 zeroSt 0 0) :
    Calls Try.prog 24 #[.pointer (some ⟨b, 0, none⟩)] w fun e w' => e = .returned (.tuple #[.agg #[.int .i64 0, .int .i64 0, .int .i64 0], .bool false]) ∧ Below w.heap.size w w' := Best_any b 0 10 0 zeroSt w h
theorem aw_best3 (b : Nat) (w : World) (h : FAt w b 10 aw3 3 1) :
    Calls Try.prog 24 #[.pointer (some ⟨b, 0, none⟩)] w fun e w' => e = .returned (.tuple #[.agg #[.int .i64 6, .int .i64 4, .int .i64 0], .bool true]) ∧ Below w.heap.size w w' := Best_any b 3 10 1 aw3 w h
theorem aw_jit3 (b : Nat) (w : World) (h : FAt w b 10 aw3 3 1) :
    Calls Try.prog 26 #[.pointer (some ⟨b, 0, none⟩)] w fun e w' => e = .returned (.int .i64 1) ∧ Below w.heap.size w w' := Jitter_any b 3 10 1 aw3 w h (okL_dec _ (by decide))
theorem aw_add1 (b : Nat) (w : World) (h : FAt w b 10 zeroSt 0 0) :
    Calls Try.prog 18 #[.pointer (some ⟨b, 0, none⟩), .agg #[.int .i64 5, .int .i64 9, .int .i64 0]] w fun e w' => e = .returned (.tuple #[.bool true, .int .i64 0]) ∧ FAt w' b 10 aw1 1 0 ∧ w.grownBy w' (some b) :=
  Add_take b 0 10 0 zeroSt ⟨5, 9, 0⟩ w h (okL_dec _ (by decide)) (okS_dec _ (by decide)) (by omega) (by omega) (by decide)
theorem aw_add2 (b : Nat) (w : World) (h : FAt w b 10 aw1 1 0) :
    Calls Try.prog 18 #[.pointer (some ⟨b, 0, none⟩), .agg #[.int .i64 7, .int .i64 4, .int .i64 0]] w fun e w' => e = .returned (.tuple #[.bool true, .int .i64 0]) ∧ FAt w' b 10 aw2 2 0 ∧ w.grownBy w' (some b) :=
  Add_take b 1 10 0 aw1 ⟨7, 4, 0⟩ w h (okL_dec _ (by decide)) (okS_dec _ (by decide)) (by omega) (by omega) (by decide)
theorem aw_add3 (b : Nat) (w : World) (h : FAt w b 10 aw2 2 0) :
    Calls Try.prog 18 #[.pointer (some ⟨b, 0, none⟩), .agg #[.int .i64 6, .int .i64 4, .int .i64 0]] w fun e w' => e = .returned (.tuple #[.bool true, .int .i64 0]) ∧ FAt w' b 10 aw3 3 0 ∧ w.grownBy w' (some b) :=
  Add_take b 2 10 0 aw2 ⟨6, 4, 0⟩ w h (okL_dec _ (by decide)) (okS_dec _ (by decide)) (by omega) (by omega) (by decide)
theorem aw_add4 (b : Nat) (w : World) (h : FAt w b 10 aw3 3 0) :
    Calls Try.prog 18 #[.pointer (some ⟨b, 0, none⟩), .agg #[.int .i64 38, .int .i64 4, .int .i64 0]] w fun e w' => e = .returned (.tuple #[.bool false, .int .i64 0]) ∧ FAt w' b 10 aw3 3 1 ∧ w.grownBy w' (some b) :=
  Add_spike b 3 10 0 aw3 ⟨38, 4, 0⟩ w h (okL_dec _ (by decide)) (okS_dec _ (by decide)) (by omega) (by omega) (by decide) (by omega) (by omega)
theorem aw_add5 (b : Nat) (w : World) :
    Calls Try.prog 18 #[.pointer (some ⟨b, 0, none⟩), .agg #[.int .i64 0, .int .i64 (-1), .int .i64 0]] w fun e w' => e = .returned (.tuple #[.bool false, .int .i64 3]) ∧ Below w.heap.size w w' :=
  Add_bad b ⟨0, -1, 0⟩ w (fun h => absurd h.2.2.1 (by decide))
theorem aw_grow (b : Nat) (w : World) (h : FAt w b 10 aw3 3 1) :
    Calls Try.prog 20 #[.pointer (some ⟨b, 0, none⟩), .int .i64 3] w fun e w' => e = .returned (.int .i64 0) ∧ FAt w' b 10 aw4 3 1 ∧ w.grownBy w' (some b) := by
  refine (Grow_any b 3 10 1 3 aw3 w h (okL_dec _ (by decide)) (by omega) (by omega)).mono ?_
  rintro e w' (⟨_, hx, _⟩ | ⟨he, _, hf, hg⟩)
  · exact absurd hx (by decide)
  · exact ⟨he, hf, hg⟩
theorem aw_shift (b : Nat) (w : World) (h : FAt w b 10 aw4 3 1) :
    Calls Try.prog 22 #[.pointer (some ⟨b, 0, none⟩), .int .i64 (-6)] w fun e w' => e = .returned (.int .i64 0) ∧ FAt w' b 10 aw5 3 1 ∧ w.grownBy w' (some b) := by
  refine (Shift_any b 3 10 1 (-6) aw4 w h (okL_dec _ (by decide)) (by omega) (by omega)).mono ?_
  rintro e w' (⟨_, hx, _⟩ | ⟨he, _, hf, hg⟩)
  · exact absurd hx (by decide)
  · exact ⟨he, hf, hg⟩

theorem Box3.grown {w w' : World} {B b : Nat} {s : Smp} (h : Box3 w B s) (hg : w.grownBy w' (some b)) (hne : B ≠ b) : Box3 w' B s := by
  have hl := h.lt
  obtain ⟨⟨k0, k1, k2⟩, q0, q1, q2⟩ := h
  have hfz : ∀ o, w'.frozen? ⟨B, o, none⟩ = w.frozen? ⟨B, o, none⟩ := fun o => World.frozen?_of_block (hg.block _ hl (by simpa using hne))
  exact ⟨⟨gbcell hg k0 hne, gbcell hg k1 hne, gbcell hg k2 hne⟩, by rw [hfz, q0], by rw [hfz, q1], by rw [hfz, q2]⟩

set_option maxHeartbeats 2000000 in
set_option maxRecDepth 100000 in
theorem awake15 (w : World) : Calls Try.prog 15 #[] w fun e w' => e = .returned (.bool true) ∧ Below w.heap.size w w' := by
  go_enter Try.func15, Try.ntmps15
  go_wp2_with fail
  refine (New_good 10 w (by omega) (by omega)).mono ?_
  rintro e w1 ⟨rfl, hf, hb⟩
  have F1 := hid hf
  have B1 := hid hb
  clear hf hb
  go_wp2_with fail
  refine (New_bad 0 w1 (by omega)).mono ?_
  rintro e w2 ⟨rfl, rfl⟩
  go_wp2_with fail
  refine (aw_best0 _ w1 F1.out).mono ?_
  rintro e w2 ⟨rfl, hb⟩
  have F2 := hid (F1.out.below (ba hb (.cells #[.int .i64 0, .int .i64 0, .int .i64 0] 32)))
  have B2 := hid (bt B1.out (ba hb (.cells #[.int .i64 0, .int .i64 0, .int .i64 0] 32)))
  clear hb
  go_wp2_with fail
  generalize (w2.alloc _) = W at F2 B2 ⊢
  refine (aw_add1 _ _ F2.out).mono ?_
  rintro e w3 ⟨rfl, hf, hg⟩
  have F3 := hid hf
  have hb3 := bgb B2.out hg (Nat.le_refl _) B2.out.size
  have B3 := hid hb3
  clear hf hg hb3
  go_wp2_with fail
  refine (aw_add2 _ _ F3.out).mono ?_
  rintro e w4 ⟨rfl, hf, hg⟩
  have F4 := hid hf
  have hb4 := bgb B3.out hg (Nat.le_refl _) B3.out.size
  have B4 := hid hb4
  clear hf hg hb4
  go_wp2_with fail
  refine (aw_add3 _ _ F4.out).mono ?_
  rintro e w5 ⟨rfl, hf, hg⟩
  have F5 := hid hf
  have hb5 := bgb B4.out hg (Nat.le_refl _) B4.out.size
  have B5 := hid hb5
  clear hf hg hb5
  go_wp2_with fail
  refine (aw_add4 _ _ F5.out).mono ?_
  rintro e w6 ⟨rfl, hf, hg⟩
  have F6 := hid hf
  have hb6 := bgb B5.out hg (Nat.le_refl _) B5.out.size
  have B6 := hid hb6
  clear hf hg hb6
  go_wp2_with fail
  refine (aw_add5 _ _).mono ?_
  rintro e w7 ⟨rfl, hb⟩
  have F7 := hid (F6.out.below hb)
  have B7 := hid (bt B6.out hb)
  clear hb
  go_wp2_with fail
  refine (aw_best3 _ _ F7.out).mono ?_
  rintro e w8 ⟨rfl, hb⟩
  have F8 := hid (F7.out.below (ba hb (.cells #[.int .i64 6, .int .i64 4, .int .i64 0] 32)))
  have B8 := hid (bt B7.out (ba hb (.cells #[.int .i64 6, .int .i64 4, .int .i64 0] 32)))
  have X8 := hid (Box3.new w8 ⟨6, 4, 0⟩ 32)
  have hne : w8.heap.size ≠ w.heap.size := by have := F7.out.lt; have := hb.size; omega
  clear hb
  go_wp2_with fail
  generalize (w8.alloc _) = W8 at F8 B8 X8 ⊢
  refine (aw_jit3 _ _ F8.out).mono ?_
  rintro e w9 ⟨rfl, hb⟩
  have F9 := hid (F8.out.below hb)
  have B9 := hid (bt B8.out hb)
  have X9 := hid (X8.out.below hb)
  clear hb
  go_wp2_with fail
  refine (aw_grow _ _ F9.out).mono ?_
  rintro e wa ⟨rfl, hf, hg⟩
  have Fa := hid hf
  have hba := bgb B9.out hg (Nat.le_refl _) B9.out.size
  have Ba := hid hba
  have Xa := hid (X9.out.grown hg hne)
  clear hf hg hba
  go_wp2_with fail
  refine (aw_shift _ _ Fa.out).mono ?_
  rintro e wb ⟨rfl, hf, hg⟩
  have Fb := hid hf
  have hbb := bgb Ba.out hg (Nat.le_refl _) Ba.out.size
  have Bb := hid hbb
  have Xb := hid (Xa.out.grown hg hne)
  clear hf hg hbb
  go_wp2_with fail
  refine (Grow_neg _ _ _ (by omega)).mono ?_
  rintro e wc ⟨rfl, hb⟩
  have Fc := hid (Fb.out.below hb)
  have Bc := hid (bt Bb.out hb)
  have Xc := hid (Xb.out.below hb)
  clear hb
  go_wp2_with fail
  refine (Samples_any _ _ _ _ _ _ Fc.out).mono ?_
  rintro e wd ⟨v, rfl, ⟨gg, cc, rfl, g1, g2, g3, g4, g5⟩, hb⟩
  have Bd := hid (bt Bc.out hb)
  obtain ⟨⟨x0, x1, x2⟩, _⟩ := Xc.out.below hb
  have h3 : (aw5.take 3).length = 3 := rfl
  rw [h3] at *
  obtain ⟨y0, y1, y2⟩ := g5 0 ⟨0, 4, 3⟩ rfl
  have hbx : w8.heap.size < wd.heap.size := World.block_lt_of_cell? wd _ x0
  clear hb g5
  go_wp2
  go_ret
  exact ⟨rfl, Bd.out⟩
end Go.Proofs.Ytlljndojbhopfaa
