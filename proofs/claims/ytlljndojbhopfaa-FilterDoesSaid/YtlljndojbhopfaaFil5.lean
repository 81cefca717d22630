/- filter: New, Samples, Grow, Shift. -/
import Derived.Test.YtlljndojbhopfaaFil4
namespace Go.Proofs.Ytlljndojbhopfaa
open Go Go.RowKit
set_option linter.unusedVariables false
set_option linter.unusedSimpArgs false
attribute [local go_sem] bmax2 bmin2 bmax bmin cell_ext frozen_ext

theorem New_bad (g : Int) (w : World) (hg : g < 1 ∨ 1125899906842624 < g) :
    Calls Try.prog 16 #[.int .i64 g] w fun e w' => e = .returned (.tuple #[.pointer none, .int .i64 1]) ∧ w = w' := by
  by_cases h1 : g < 1
  · go_enter Try.func16, Try.ntmps16
    go_wp2
    go_ret2
    exact ⟨rfl, rfl⟩
  · have h2 : 1125899906842624 < g := by omega
    go_enter Try.func16, Try.ntmps16
    go_wp2
    go_ret2
    exact ⟨rfl, rfl⟩
def zeroSt : List Smp := [⟨0, 0, 0⟩, ⟨0, 0, 0⟩, ⟨0, 0, 0⟩, ⟨0, 0, 0⟩, ⟨0, 0, 0⟩, ⟨0, 0, 0⟩, ⟨0, 0, 0⟩, ⟨0, 0, 0⟩]
theorem New_good (g : Int) (w : World) (hg1 : 1 ≤ g) (hg2 : g ≤ 1125899906842624) :
    Calls Try.prog 16 #[.int .i64 g] w fun e w' => e = .returned (.tuple #[.pointer (some ⟨w.heap.size, 0, none⟩), .int .i64 0]) ∧ FAt w' w.heap.size g zeroSt 0 0 ∧ Below w.heap.size w w' := by
  have h1 : ¬ g < 1 := by omega
  have h2 : ¬ 1125899906842624 < g := by omega
  go_enter Try.func16, Try.ntmps16
  go_wp2
  go_ret2
  exact ⟨rfl, ⟨rfl, by omega, heap_alloc_new w _⟩, ba (Below.refl _ _) _⟩

def smpCells (l : List Smp) : List Value := l.flatMap fun s => [.int .i64 s.off, .int .i64 s.del, .int .i64 s.bnd]
theorem length_smpCells (l : List Smp) : (smpCells l).length = l.length * 3 := by
  induction l with
  | nil => rfl
  | cons x t ih => simp only [smpCells, List.flatMap_cons, List.length_append, List.length_cons, List.length_nil] at ih ⊢; omega
theorem smpCells_get (l : List Smp) (k : Nat) (s : Smp) (h : l[k]? = some s) : (smpCells l)[k * 3]? = some (.int .i64 s.off) ∧ (smpCells l)[k * 3 + 1]? = some (.int .i64 s.del) ∧ (smpCells l)[k * 3 + 2]? = some (.int .i64 s.bnd) := by
  induction l generalizing k with
  | nil => simp at h
  | cons x t ih =>
    cases k with
    | zero => simp at h; subst h; exact ⟨rfl, rfl, rfl⟩
    | succ k =>
      have := ih k (by simpa using h)
      have e : ∀ j, (smpCells (x :: t))[(k + 1) * 3 + j]? = (smpCells t)[k * 3 + j]? := fun j => by
        show ([Value.int .i64 x.off, .int .i64 x.del, .int .i64 x.bnd] ++ smpCells t)[(k + 1) * 3 + j]? = _
        rw [List.getElem?_append_right (by simp; omega)]
        congr 1
        simp; omega
      exact ⟨(e 0).trans this.1, (e 1).trans this.2.1, (e 2).trans this.2.2⟩
theorem info_smp : (Try.prog.info? 32).map (fun i => (i.zero, i.size, i.bytes)) = some (some (.agg #[.int .i64 0, .int .i64 0, .int .i64 0]), 3, 24) := by kernel_rfl
theorem smpCells_one (l : List Smp) : ∀ u ∈ smpCells l, u.oneCell' = true := by
  intro u hu
  simp only [smpCells, List.mem_flatMap] at hu
  obtain ⟨s, _, hs⟩ := hu
  simp at hs
  rcases hs with h | h | h <;> rw [h] <;> rfl

/-- v is a slice, behind B, of the samples l -/
def Told (B : Nat) (w : World) (v : Value) (l : List Smp) : Prop :=
  ∃ g c, v = .slice (some ⟨g, 0, none⟩) l.length c ∧ l.length ≤ c ∧ c ≤ maxLen ∧ B ≤ g ∧ g < w.heap.size ∧ Holds w g 0 l
theorem told_of_row {w : World} {B n : Nat} {v : Value} {l : List Smp} (hl : l.length = n) (h : w.ownsRow B 32 3 v n (smpCells l)) (hv : v ≠ .slice none 0 0) : Told B w v l := by
  rcases h.2 with ⟨h', _⟩ | ⟨g, cap, cur, h', hB, hg, hc1, hc2, hc3, ht⟩
  · exact absurd h' hv
  · refine ⟨g, cap, by rw [h', hl], by omega, hc2, hB, (Array.getElem?_eq_some_iff.1 hg).1, ?_⟩
    intro k s hk
    have hkl := (List.getElem?_eq_some_iff.1 hk).1
    obtain ⟨e0, e1, e2⟩ := smpCells_get l k s hk
    have cell : ∀ j, j < n * 3 → w.cell? ⟨g, j, none⟩ = (smpCells l)[j]? := fun j hj => by
      rw [cell_of_row w g j cur 32 (0, 0) hg, ← ht, List.getElem?_take, if_pos hj]; simp
    rw [Nat.zero_add]
    rw [cell _ (by omega), cell _ (by omega), cell _ (by omega)]
    exact ⟨e0, e1, e2⟩

set_option maxRecDepth 100000 in
theorem Clone_any (b o n c : Nat) (l : List Smp) (w : World) (hb : b < w.heap.size) (hl : l.length = n) (hn : n ≤ 1000000) (hh : Holds w b o l) :
    Calls Try.prog 49 #[.slice (some ⟨b, o, none⟩) n c] w fun e w' => ∃ v, e = .returned v ∧ Told w.heap.size w' v l ∧ Below w.heap.size w w' := by
  obtain ⟨i0, hi, hz0, hz1, hz2⟩ := info_parts info_smp
  have Hz2 := hid hz2
  have Hz1 := hid hz1
  clear hz2 hz1
  have HH := hid hh
  clear hh
  have hnil := Lib.run_eql_slice_nil (P := Try.prog) w 48 32 (some ⟨b, o, none⟩) n c 0 0 Try.underlying48
  go_enter Try.func49, Try.ntmps49
  go_wp2_with (at_builtin; refine wpList_append_own _ rfl _ _ 48 rfl w.heap.size 32 i0 (.agg #[.int .i64 0, .int .i64 0, .int .i64 0]) 3 24 Try.underlying48 hi hz0 Hz1.out Hz2.out rfl (by decide) _ _ _ rfl (World.ownsRow_lit w #[] 0 (Nat.le_refl _) (by unfold maxLen; omega) rfl) ⟨b, o, none⟩ n c (smpCells l) rfl (by rw [length_smpCells, hl]) ?c1 (smpCells_one l) ?c2 ?c3 ?c4 ?c5)
  case c1 =>
    intro j u hj
    have hjl := (List.getElem?_eq_some_iff.1 hj).1
    rw [length_smpCells] at hjl
    obtain ⟨s, hs⟩ : ∃ s, l[j / 3]? = some s := ⟨_, List.getElem?_eq_getElem (by omega)⟩
    obtain ⟨a0, a1, a2⟩ := HH.out (j / 3) s hs
    obtain ⟨e0, e1, e2⟩ := smpCells_get l (j / 3) s hs
    have ea : (⟨b, o, none⟩ : Addr).add j = ⟨b, o + j, none⟩ := by simp [Addr.add]
    rw [ea, World.cell?_alloc_old _ _ _ (by show b ≠ w.heap.size; omega)]
    rcases (by omega : j = j / 3 * 3 ∨ j = j / 3 * 3 + 1 ∨ j = j / 3 * 3 + 2) with h | h | h
    · rw [h] at hj ⊢; rw [e0] at hj; injection hj with hj; subst hj; exact a0
    · rw [h] at hj ⊢; rw [e1] at hj; injection hj with hj; subst hj; exact a1
    · rw [h] at hj ⊢; rw [e2] at hj; injection hj with hj; subst hj; exact a2
  case c2 => unfold maxLen; omega
  case c3 => omega
  case c4 => simp
  case c5 =>
    intro v' w' how hgr hnil'
    have HOW := hid how
    have HGR := hid hgr
    have HN := hid hnil'
    clear how hgr hnil'
    go_wp2
    go_ret
    refine ⟨_, rfl, told_of_row hl (by simpa using HOW.out) HN.out, ?_⟩
    exact (ba (Below.refl _ _) _).grown HGR.out (by simp) (fun k hk => by simp [Value.ownBlock] at hk; omega)

theorem Told.mono {B B' : Nat} {w : World} {v : Value} {l : List Smp} (h : Told B w v l) (hB : B' ≤ B) : Told B' w v l := by
  obtain ⟨g, c, e, h1, h2, h3, h4, h5⟩ := h
  exact ⟨g, c, e, h1, h2, by omega, h4, h5⟩

set_option maxHeartbeats 1000000 in
set_option maxRecDepth 100000 in
theorem Samples_any (b n : Nat) (g r : Int) (st : List Smp) (w : World) (h : FAt w b g st n r) :
    Calls Try.prog 29 #[.pointer (some ⟨b, 0, none⟩)] w fun e w' => ∃ v, e = .returned v ∧ Told w.heap.size w' v (st.take n) ∧ Below w.heap.size w w' := by
  have hb := h.lt
  have hn8 := h.2.1
  have hc := h.num
  have H := hid h
  have HL : Hid ((st.take n).length = n) := hid (by rw [List.length_take, h.1]; omega)
  clear h
  have hn0 : (0 : Int) ≤ (n : Int) := by omega
  have hn8' : (n : Int) ≤ 8 := by omega
  have CL := hid (fun (w : World) (h : FAt w b g st n r) => Clone_any b 1 n 8 (st.take n) w h.lt HL.out (by omega) (h.holds.take n))
  go_enter Try.func29, Try.ntmps29
  go_wp2
  refine wp_region_plan_lit (C := fun w' => ∃ x, w' = w.ext x) [] [0, 1, 2, 3, 4, 5, 6, 7] [8, 9] (by kernel_rfl) (by kernel_rfl) (by intro c a d v w h; cases d <;> exact h) ⟨w.drew, (ext_of (Below.refl _ _).drew).symm⟩ ?_
  simp only [List.map_cons, List.map_nil, List.getD_cons_succ, List.getD_cons_zero]
  refine wpQuiet_nil ?_
  repeat (go_big_quiet_step (fail))
  refine wpQuiet_nil ?_
  rintro _ ⟨y, rfl⟩
  have H1 := hid (H.out.below (ext_below w y))
  have HB1 := hid (ext_below w y)
  generalize (w.ext y) = W at H1 HB1 ⊢
  go_wp2_with fail
  refine (CL.out W H1.out).mono ?_
  rintro e w2 ⟨v, rfl, hv, hb2⟩
  have HV := hid hv
  have HB2 := hid (bt HB1.out hb2)
  clear hv hb2
  go_wp2
  go_ret
  exact ⟨v, rfl, HV.out.mono HB1.out.size, HB2.out⟩
end Go.Proofs.Ytlljndojbhopfaa
