/- layer 15: the program's filter beside the reference's: each act. -/
import Derived.Test.YtlljndojbhopfaaRFil5
namespace Go.Proofs.Ytlljndojbhopfaa
open Go Go.RowKit
set_option linter.unusedVariables false
set_option linter.unusedSimpArgs false
attribute [local go_sem] bmax2 bmin2 bmax bmin cell_ext frozen_ext

theorem RAt.grown {w w' : World} {rb fb c : Nat} {g r : Int} {ad : Option Addr} {L : List Smp} (h : RAt w rb g ad c L r) (hg : w.grownBy w' (some fb)) (hlt : fb < rb) : RAt w' rb g ad c L r := by
  refine ⟨by rw [hg.block rb h.lt (by simp; omega)]; exact h.1, ?_, h.2.2⟩
  rcases h.2.1 with h1 | ⟨gg, h1, h2, h3, h4, h5, h6⟩
  · exact Or.inl h1
  · refine Or.inr ⟨gg, h1, h2, h3, Nat.lt_of_lt_of_le h4 hg.size, h5, fun k s hk => ?_⟩
    obtain ⟨a0, a1, a2⟩ := h6 k s hk
    exact ⟨gbcell hg a0 (by omega), gbcell hg a1 (by omega), gbcell hg a2 (by omega)⟩
theorem Fil.grown {w w' : World} {rb fb : Nat} {g r : Int} {L : List Smp} (h : Fil w fb g L r) (hg : w.grownBy w' (some rb)) (hne : fb ≠ rb) : Fil w' fb g L r := by
  obtain ⟨st, n, h1, h2⟩ := h
  exact ⟨st, n, ⟨h1.1, h1.2.1, by rw [hg.block fb h1.lt (by simpa using hne)]; exact h1.2.2⟩, h2⟩

def growA (q : Int) (L : List Smp) : Int := if q < 0 then 1 else if (L.all fun s => decide (s.bnd + q ≤ 1152921504606846976)) = true then 0 else 6
def growL (q : Int) (L : List Smp) : List Smp := if q < 0 then L else if (L.all fun s => decide (s.bnd + q ≤ 1152921504606846976)) = true then L.map (Smp.grow q) else L
def shiftA (q : Int) (L : List Smp) : Int := if (L.all fun s => decide (-1152921504606846976 ≤ s.off + q ∧ s.off + q ≤ 1152921504606846976)) = true then 0 else 6
def shiftL (q : Int) (L : List Smp) : List Smp := if (L.all fun s => decide (-1152921504606846976 ≤ s.off + q ∧ s.off + q ≤ 1152921504606846976)) = true then L.map (Smp.shift q) else L

theorem all_yes {P : Smp → Prop} [DecidablePred P] {L : List Smp} (h : ∀ s ∈ L, P s) : (L.all fun s => decide (P s)) = true := List.all_eq_true.2 fun s hs => decide_eq_true (h s hs)
theorem all_no {P : Smp → Prop} [DecidablePred P] {L : List Smp} (h : ∃ s ∈ L, ¬ P s) : (L.all fun s => decide (P s)) = false := by
  obtain ⟨s, hs, hp⟩ := h
  cases h2 : (L.all fun s => decide (P s)) with
  | false => rfl
  | true => exact absurd (of_decide_eq_true (List.all_eq_true.1 h2 s hs)) hp

theorem Grow_D {w : World} {b : Nat} {g r q : Int} {L : List Smp} (h : Fil w b g L r) (hq1 : q ≤ 9223372036854775807) :
    Calls Try.prog 20 #[.pointer (some ⟨b, 0, none⟩), .int .i64 q] w fun e w' => e = .returned (.int .i64 (growA q L)) ∧ Fil w' b g (growL q L) r ∧ w.grownBy w' (some b) := by
  unfold growA growL
  by_cases hq : q < 0
  · rw [if_pos hq, if_pos hq]
    refine (Grow_neg b q w hq).mono ?_
    rintro e w' ⟨he, hb⟩
    exact ⟨he, h.below hb, gb hb _⟩
  · rw [if_neg hq, if_neg hq]
    refine (Grow_F h (by omega) hq1).mono ?_
    rintro e w' (⟨he, ⟨s, hs, hx⟩, hf, hg⟩ | ⟨he, hx, hf, hg⟩)
    · rw [if_neg (by rw [all_no ⟨s, hs, by omega⟩]; simp), if_neg (by rw [all_no ⟨s, hs, by omega⟩]; simp)]
      exact ⟨he, hf, hg⟩
    · rw [if_pos (all_yes hx), if_pos (all_yes hx)]
      exact ⟨he, hf, hg⟩
theorem Shift_D {w : World} {b : Nat} {g r q : Int} {L : List Smp} (h : Fil w b g L r) (hq0 : -9223372036854775808 ≤ q) (hq1 : q ≤ 9223372036854775807) :
    Calls Try.prog 22 #[.pointer (some ⟨b, 0, none⟩), .int .i64 q] w fun e w' => e = .returned (.int .i64 (shiftA q L)) ∧ Fil w' b g (shiftL q L) r ∧ w.grownBy w' (some b) := by
  unfold shiftA shiftL
  refine (Shift_F h hq0 hq1).mono ?_
  rintro e w' (⟨he, ⟨s, hs, hx⟩, hf, hg⟩ | ⟨he, hx, hf, hg⟩)
  · rw [if_neg (by rw [all_no ⟨s, hs, hx⟩]; simp), if_neg (by rw [all_no ⟨s, hs, hx⟩]; simp)]
    exact ⟨he, hf, hg⟩
  · rw [if_pos (all_yes hx), if_pos (all_yes hx)]
    exact ⟨he, hf, hg⟩
theorem RGrow_D {w : World} {rb c : Nat} {g r q : Int} {ad : Option Addr} {L : List Smp} (h : RAt w rb g ad c L r) (hok : ∀ s ∈ L, okS s) (hL8 : L.length ≤ 8) (hq1 : q ≤ 9223372036854775807) :
    Calls Try.prog 21 #[.pointer (some ⟨rb, 0, none⟩), .int .i64 q] w fun e w' => e = .returned (.int .i64 (growA q L)) ∧ (∃ ad' c', RAt w' rb g ad' c' (growL q L) r) ∧ w.grownBy w' (some rb) := by
  unfold growA growL
  by_cases hq : q < 0
  · rw [if_pos hq, if_pos hq]
    refine (RGrow_neg rb q w hq).mono ?_
    rintro e w' ⟨he, hb⟩
    exact ⟨he, ⟨_, _, h.below hb⟩, gb hb _⟩
  · rw [if_neg hq, if_neg hq]
    refine (RGrow w rb c g r q ad L h hok hL8 (by omega) hq1).mono ?_
    rintro e w' (⟨he, ⟨s, hs, hx⟩, hb⟩ | ⟨he, hx, hf, hg⟩)
    · rw [if_neg (by rw [all_no ⟨s, hs, by omega⟩]; simp), if_neg (by rw [all_no ⟨s, hs, by omega⟩]; simp)]
      exact ⟨he, ⟨_, _, h.below hb⟩, gb hb _⟩
    · rw [if_pos (all_yes hx), if_pos (all_yes hx)]
      exact ⟨he, hf, hg⟩
theorem RShift_D {w : World} {rb c : Nat} {g r q : Int} {ad : Option Addr} {L : List Smp} (h : RAt w rb g ad c L r) (hok : ∀ s ∈ L, okS s) (hL8 : L.length ≤ 8) (hq0 : -9223372036854775808 ≤ q) (hq1 : q ≤ 9223372036854775807) :
    Calls Try.prog 23 #[.pointer (some ⟨rb, 0, none⟩), .int .i64 q] w fun e w' => e = .returned (.int .i64 (shiftA q L)) ∧ (∃ ad' c', RAt w' rb g ad' c' (shiftL q L) r) ∧ w.grownBy w' (some rb) := by
  unfold shiftA shiftL
  refine (RShift w rb c g r q ad L h hok hL8 hq0 hq1).mono ?_
  rintro e w' (⟨he, ⟨s, hs, hx⟩, hb⟩ | ⟨he, hx, hf, hg⟩)
  · rw [if_neg (by rw [all_no ⟨s, hs, hx⟩]; simp), if_neg (by rw [all_no ⟨s, hs, hx⟩]; simp)]
    exact ⟨he, ⟨_, _, h.below hb⟩, gb hb _⟩
  · rw [if_pos (all_yes hx), if_pos (all_yes hx)]
    exact ⟨he, hf, hg⟩
theorem RAdd_D {w : World} {rb c : Nat} {g r : Int} {ad : Option Addr} {L : List Smp} (h : RAt w rb g ad c L r) (hok : ∀ s ∈ L, okS s) (hL8 : L.length ≤ 8) (hr : 0 ≤ r) (hg1 : 1 ≤ g) (hg2 : g ≤ 1125899906842624) (s : Smp) :
    Calls Try.prog 19 #[.pointer (some ⟨rb, 0, none⟩), s.val] w fun e w' => e = .returned (.tuple #[.bool (addA g L r s).1, .int .i64 (addA g L r s).2]) ∧ (∃ ad' c', RAt w' rb g ad' c' (addL g L r s) (addR g L r s)) ∧ w.grownBy w' (some rb) := by
  unfold addA addL addR
  by_cases hs : okS s
  · rw [if_pos hs, if_pos hs, if_pos hs]
    by_cases hsp : spikeB g L s = true ∧ r < 2
    · rw [if_pos hsp, if_pos hsp, if_pos hsp]
      refine (RAdd_spike w rb c g r ad L s h hok hs hg1 hg2 hsp.1 hsp.2 hr).mono ?_
      rintro e w' ⟨he, hf, hg⟩
      exact ⟨he, ⟨_, _, hf⟩, hg⟩
    · rw [if_neg hsp, if_neg hsp, if_neg hsp]
      by_cases hl : L.length < 2
      · exact RAdd_few w rb c g r ad L s h hok hs hg1 hg2 hL8 hl
      · by_cases hr2 : 2 ≤ r
        · exact RAdd_late w rb c g r ad L s h hok hs hg1 hg2 hL8 (by omega) hr2
        · refine RAdd_near w rb c g r ad L s h hok hs hg1 hg2 hL8 (by omega) (by omega) ?_
          intro hf
          refine hsp ⟨?_, by omega⟩
          simp [spikeB, hf]; omega
  · rw [if_neg hs, if_neg hs, if_neg hs]
    refine (RAdd_bad rb s w hs).mono ?_
    rintro e w' ⟨he, hb⟩
    exact ⟨he, ⟨_, _, h.below hb⟩, gb hb _⟩

set_option maxHeartbeats 1000000 in
set_option maxRecDepth 100000 in
theorem same_any (w : World) (L : List Smp) (ga ca rb cb : Nat) (ad : Option Addr) (hl : L.length ≤ 8) (ha : Holds w ga 0 L) (hga : ga < w.heap.size) (hb : SL w rb ad cb L) :
    Calls Try.prog 28 #[.slice (some ⟨ga, 0, none⟩) L.length ca, .slice ad L.length cb] w fun e w' => e = .returned (.bool true) ∧ Below w.heap.size w w' := by
  have HA := hid ha
  have HB := hid hb
  clear ha hb
  have hmm : ((L.length : Int) != (L.length : Int)) = false := by simp
  go_enter Try.func28, Try.ntmps28
  go_wp2
  go_loopw [5, 13] (fun p i wr => ∃ (k : Nat), k ≤ L.length ∧ i = .int .i64 k ∧ Hid (Below w.heap.size w wr)) (fun _ i _ => L.length - (intOf i).toNat)
  case atStart => exact ⟨0, Nat.zero_le _, rfl, hid (Below.refl _ _)⟩
  case round =>
    obtain ⟨k, hk, rfl, hbl⟩ := hrel
    by_cases hlt : k < L.length
    · obtain ⟨y, hy⟩ : ∃ y, L[k]? = some y := ⟨_, List.getElem?_eq_getElem hlt⟩
      rcases HB.out with ⟨rfl, _⟩ | ⟨gg, rfl, s2, s3, s4, s5, s6⟩
      · simp at hlt
      obtain ⟨c0, c1, c2⟩ := (s6.below hbl.out) k y hy
      obtain ⟨a0, a1, a2⟩ := (HA.out.below hbl.out) k y hy
      rw [Nat.zero_add] at c0 c1 c2 a0 a1 a2
      have h1 := World.block_lt_of_cell? wr _ c0
      have h2 := World.block_lt_of_cell? wr _ a0
      have i1 : (k : Int) < (L.length : Int) := by omega
      have i2 : (0 : Int) ≤ (k : Int) := by omega
      clear s6 hy
      go_wp2
      go_quiet (fail)
      go_wp2
      go_roundw
      case measure => simp [intOf]; omega
      case rel => exact ⟨k + 1, by omega, by go_num, hid (bd hbl.out nq)⟩
    · obtain rfl : k = L.length := by omega
      go_wp2
      go_ret
      exact ⟨rfl, hbl.out⟩
end Go.Proofs.Ytlljndojbhopfaa
