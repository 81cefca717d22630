/- filter: a filter told by its samples. -/
import Derived.Test.YtlljndojbhopfaaFil7
import Derived.Test.YtlljndojbhopfaaArg15
namespace Go.Proofs.Ytlljndojbhopfaa
open Go Go.RowKit
set_option linter.unusedVariables false
set_option linter.unusedSimpArgs false
attribute [local go_sem] bmax2 bmin2 bmax bmin cell_ext frozen_ext

/-- block b is a filter with the samples L, the newest first -/
def Fil (w : World) (b : Nat) (g : Int) (L : List Smp) (r : Int) : Prop :=
  ∃ st n, FAt w b g st n r ∧ st.take n = L ∧ (∀ s ∈ L, okS s) ∧ 0 ≤ r ∧ 1 ≤ g ∧ g ≤ 1125899906842624
theorem Fil.lt {w : World} {b : Nat} {g r : Int} {L : List Smp} (h : Fil w b g L r) : b < w.heap.size := by
  obtain ⟨st, n, h1, _⟩ := h
  exact h1.lt
theorem Fil.below {w w' : World} {b : Nat} {g r : Int} {L : List Smp} (h : Fil w b g L r) (hb : Below w.heap.size w w') : Fil w' b g L r := by
  obtain ⟨st, n, h1, h2⟩ := h
  exact ⟨st, n, h1.below hb, h2⟩
theorem Fil.len {w : World} {b : Nat} {g r : Int} {L : List Smp} (h : Fil w b g L r) : L.length ≤ 8 := by
  obtain ⟨st, n, h1, rfl, _⟩ := h
  have := h1.1
  simp; omega
theorem Fil.ok {w : World} {b : Nat} {g r : Int} {L : List Smp} (h : Fil w b g L r) : ∀ s ∈ L, okS s := by
  obtain ⟨st, n, h1, rfl, h2, _⟩ := h
  exact h2
theorem Fil_new {w : World} {b : Nat} {g : Int} (h : FAt w b g zeroSt 0 0) (hg1 : 1 ≤ g) (hg2 : g ≤ 1125899906842624) : Fil w b g [] 0 := ⟨_, _, h, rfl, by simp, Int.le_refl _, hg1, hg2⟩

theorem Best_F {w : World} {b : Nat} {g r : Int} {L : List Smp} (h : Fil w b g L r) :
    Calls Try.prog 24 #[.pointer (some ⟨b, 0, none⟩)] w fun e w' => e = .returned (.tuple #[(best L).val, .bool (decide (0 < L.length))]) ∧ Below w.heap.size w w' := by
  obtain ⟨st, n, h1, rfl, _⟩ := h
  have := Best_any b n g r st w h1
  rwa [show (decide (0 < (st.take n).length)) = decide (0 < n) from by rw [List.length_take, h1.1, Nat.min_eq_left h1.2.1]]
theorem Jit_F {w : World} {b : Nat} {g r : Int} {L : List Smp} (h : Fil w b g L r) :
    Calls Try.prog 26 #[.pointer (some ⟨b, 0, none⟩)] w fun e w' => e = .returned (.int .i64 (jit L)) ∧ Below w.heap.size w w' := by
  obtain ⟨st, n, h1, rfl, h2, _⟩ := h
  exact Jitter_any b n g r st w h1 h2
theorem Samples_F {w : World} {b : Nat} {g r : Int} {L : List Smp} (h : Fil w b g L r) :
    Calls Try.prog 29 #[.pointer (some ⟨b, 0, none⟩)] w fun e w' => ∃ v, e = .returned v ∧ Told w.heap.size w' v L ∧ Below w.heap.size w w' := by
  obtain ⟨st, n, h1, rfl, _⟩ := h
  exact Samples_any b n g r st w h1

instance (s : Smp) : Decidable (okS s) := by unfold okS; infer_instance
/-- what Add answers, and what it leaves -/
def addA (g : Int) (L : List Smp) (r : Int) (s : Smp) : Bool × Int :=
  if okS s then (if spikeB g L s = true ∧ r < 2 then (false, 0) else (true, 0)) else (false, 3)
def addL (g : Int) (L : List Smp) (r : Int) (s : Smp) : List Smp :=
  if okS s then (if spikeB g L s = true ∧ r < 2 then L else (s :: L).take 8) else L
def addR (g : Int) (L : List Smp) (r : Int) (s : Smp) : Int :=
  if okS s then (if spikeB g L s = true ∧ r < 2 then r + 1 else 0) else r

theorem Add_F {w : World} {b : Nat} {g r : Int} {L : List Smp} (h : Fil w b g L r) (s : Smp) :
    Calls Try.prog 18 #[.pointer (some ⟨b, 0, none⟩), s.val] w fun e w' => e = .returned (.tuple #[.bool (addA g L r s).1, .int .i64 (addA g L r s).2]) ∧ Fil w' b g (addL g L r s) (addR g L r s) ∧ w.grownBy w' (some b) := by
  have h0 := h
  obtain ⟨st, n, h1, rfl, h2, hr, hg1, hg2⟩ := h
  unfold addA addL addR
  by_cases hs : okS s
  · rw [if_pos hs, if_pos hs, if_pos hs]
    by_cases hsp : spikeB g (st.take n) s = true ∧ r < 2
    · rw [if_pos hsp, if_pos hsp, if_pos hsp]
      refine (Add_spike b n g r st s w h1 h2 hs hg1 hg2 hsp.1 hsp.2 hr).mono ?_
      rintro e w' ⟨he, hf, hg⟩
      exact ⟨he, ⟨st, n, hf, rfl, h2, by omega, hg1, hg2⟩, hg⟩
    · rw [if_neg hsp, if_neg hsp, if_neg hsp]
      refine (Add_take b n g r st s w h1 h2 hs hg1 hg2 hsp).mono ?_
      rintro e w' ⟨he, hf, hg⟩
      have e1 : (s :: st.take 7).take (min (n + 1) 8) = (s :: st.take n).take 8 := by
        have := h1.2.1
        by_cases h8 : n ≤ 7
        · rw [show min (n + 1) 8 = n + 1 by omega, List.take_succ_cons, List.take_succ_cons, List.take_take, List.take_take, Nat.min_eq_left h8, Nat.min_eq_right h8]
        · obtain rfl : n = 8 := by omega
          simp [List.take_take]
      refine ⟨he, ⟨_, _, hf, e1, ?_, Int.le_refl _, hg1, hg2⟩, hg⟩
      intro x hx
      rcases List.mem_cons.1 (List.mem_of_mem_take hx) with rfl | hx
      · exact hs
      · exact h2 x hx
  · rw [if_neg hs, if_neg hs, if_neg hs]
    refine (Add_bad b s w hs).mono ?_
    rintro e w' ⟨he, hb⟩
    exact ⟨he, h0.below hb, gb hb _⟩

theorem Grow_F {w : World} {b : Nat} {g r q : Int} {L : List Smp} (h : Fil w b g L r) (hq0 : 0 ≤ q) (hq1 : q ≤ 9223372036854775807) :
    Calls Try.prog 20 #[.pointer (some ⟨b, 0, none⟩), .int .i64 q] w fun e w' =>
      (e = .returned (.int .i64 6) ∧ (∃ s ∈ L, 1152921504606846976 < s.bnd + q) ∧ Fil w' b g L r ∧ w.grownBy w' (some b)) ∨
      (e = .returned (.int .i64 0) ∧ (∀ s ∈ L, s.bnd + q ≤ 1152921504606846976) ∧ Fil w' b g (L.map (Smp.grow q)) r ∧ w.grownBy w' (some b)) := by
  have h0 := h
  obtain ⟨st, n, h1, rfl, h2, hr⟩ := h
  refine (Grow_any b n g r q st w h1 h2 hq0 hq1).mono ?_
  rintro e w' (⟨he, hx, hb⟩ | ⟨he, hx, hf, hg⟩)
  · exact Or.inl ⟨he, hx, h0.below hb, gb hb _⟩
  · refine Or.inr ⟨he, hx, ⟨_, n, hf, upto_take _ _ _ (by have := h1.1; have := h1.2.1; omega), ?_, hr⟩, hg⟩
    intro s hs
    obtain ⟨t, ht, rfl⟩ := List.mem_map.1 hs
    obtain ⟨a1, a2, a3, a4, a5, a6⟩ := h2 t ht
    exact ⟨a1, a2, a3, a4, by show 0 ≤ t.bnd + q; omega, hx t ht⟩
theorem Shift_F {w : World} {b : Nat} {g r q : Int} {L : List Smp} (h : Fil w b g L r) (hq0 : -9223372036854775808 ≤ q) (hq1 : q ≤ 9223372036854775807) :
    Calls Try.prog 22 #[.pointer (some ⟨b, 0, none⟩), .int .i64 q] w fun e w' =>
      (e = .returned (.int .i64 6) ∧ (∃ s ∈ L, ¬ (-1152921504606846976 ≤ s.off + q ∧ s.off + q ≤ 1152921504606846976)) ∧ Fil w' b g L r ∧ w.grownBy w' (some b)) ∨
      (e = .returned (.int .i64 0) ∧ (∀ s ∈ L, -1152921504606846976 ≤ s.off + q ∧ s.off + q ≤ 1152921504606846976) ∧ Fil w' b g (L.map (Smp.shift q)) r ∧ w.grownBy w' (some b)) := by
  have h0 := h
  obtain ⟨st, n, h1, rfl, h2, hr⟩ := h
  refine (Shift_any b n g r q st w h1 h2 hq0 hq1).mono ?_
  rintro e w' (⟨he, hx, hb⟩ | ⟨he, hx, hf, hg⟩)
  · exact Or.inl ⟨he, hx, h0.below hb, gb hb _⟩
  · refine Or.inr ⟨he, hx, ⟨_, n, hf, upto_take _ _ _ (by have := h1.1; have := h1.2.1; omega), ?_, hr⟩, hg⟩
    intro s hs
    obtain ⟨t, ht, rfl⟩ := List.mem_map.1 hs
    obtain ⟨a1, a2, a3, a4, a5, a6⟩ := h2 t ht
    exact ⟨(hx t ht).1, (hx t ht).2, a3, a4, a5, a6⟩
end Go.Proofs.Ytlljndojbhopfaa
