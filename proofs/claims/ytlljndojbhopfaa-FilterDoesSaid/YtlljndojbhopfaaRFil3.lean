/- the reference of layer 15: Add. -/
import Derived.Test.YtlljndojbhopfaaRFil2
import Derived.Laws.AppendOwnNone
namespace Go.Proofs.Ytlljndojbhopfaa
open Go Go.RowKit
set_option linter.unusedVariables false
set_option linter.unusedSimpArgs false
attribute [local go_sem] bmax2 bmin2 bmax bmin cell_ext frozen_ext

set_option maxHeartbeats 1000000 in
set_option maxRecDepth 100000 in
theorem RAdd_bad (rb : Nat) (s : Smp) (w : World) (hs : ¬ okS s) :
    Calls Try.prog 19 #[.pointer (some ⟨rb, 0, none⟩), s.val] w fun e w' => e = .returned (.tuple #[.bool false, .int .i64 3]) ∧ Below w.heap.size w w' := by
  have hc : (s.off < -1152921504606846976) ∨ (¬ s.off < -1152921504606846976 ∧ 1152921504606846976 < s.off) ∨ (¬ s.off < -1152921504606846976 ∧ ¬ 1152921504606846976 < s.off ∧ s.del < 0) ∨
    (¬ s.off < -1152921504606846976 ∧ ¬ 1152921504606846976 < s.off ∧ ¬ s.del < 0 ∧ 1152921504606846976 < s.del) ∨ (¬ s.off < -1152921504606846976 ∧ ¬ 1152921504606846976 < s.off ∧ ¬ s.del < 0 ∧ ¬ 1152921504606846976 < s.del ∧ s.bnd < 0) ∨
    (¬ s.off < -1152921504606846976 ∧ ¬ 1152921504606846976 < s.off ∧ ¬ s.del < 0 ∧ ¬ 1152921504606846976 < s.del ∧ ¬ s.bnd < 0 ∧ 1152921504606846976 < s.bnd) := by unfold okS at hs; omega
  clear hs
  unfold Smp.val
  rcases hc with h1 | ⟨h1, h2⟩ | ⟨h1, h2, h3⟩ | ⟨h1, h2, h3, h4⟩ | ⟨h1, h2, h3, h4, h5⟩ | ⟨h1, h2, h3, h4, h5, h6⟩
  all_goals
    go_enter Try.func19, Try.ntmps19
    go_wp2
    go_ret2
    exact ⟨rfl, ba (Below.refl _ _) _⟩

theorem RAt.setR {w : World} {rb c : Nat} {g r : Int} {ad : Option Addr} {L : List Smp} (h : RAt w rb g ad c L r) (q : Int) : RAt (w.setCell ⟨rb, 2, none⟩ (.int .i64 q)) rb g ad c L q := by
  refine ⟨?_, ?_, h.2.2⟩
  · rw [heap_setCell_same w rb 2 _ _ _ h.1]; rfl
  · rcases h.2.1 with h1 | ⟨gg, h1, h2, h3, h4, h5, h6⟩
    · exact Or.inl h1
    · refine Or.inr ⟨gg, h1, h2, h3, by simpa using h4, h5, fun k s hk => ?_⟩
      obtain ⟨a0, a1, a2⟩ := h6 k s hk
      have hg := gbset w rb 2 (.int .i64 q)
      exact ⟨gbcell hg a0 (Nat.ne_of_gt h5), gbcell hg a1 (Nat.ne_of_gt h5), gbcell hg a2 (Nat.ne_of_gt h5)⟩
theorem RAt.setL {w : World} {rb c c' : Nat} {g r : Int} {ad : Option Addr} {L L' : List Smp} {gg : Nat} (h : RAt w rb g ad c L r) (h2 : L'.length ≤ c') (h3 : c' ≤ maxLen) (h4 : gg < w.heap.size) (h5 : rb < gg) (h6 : Holds w gg 0 L') (h7 : L'.length ≤ 9) :
    RAt (w.setCell ⟨rb, 1, none⟩ (.slice (some ⟨gg, 0, none⟩) L'.length c')) rb g (some ⟨gg, 0, none⟩) c' L' r := by
  refine ⟨?_, ?_, h7⟩
  · rw [heap_setCell_same w rb 1 _ _ _ h.1]; rfl
  · refine Or.inr ⟨gg, rfl, h2, h3, by simpa using h4, h5, fun k s hk => ?_⟩
    obtain ⟨a0, a1, a2⟩ := h6 k s hk
    have hg := gbset w rb 1 (.slice (some ⟨gg, 0, none⟩) L'.length c')
    exact ⟨gbcell hg a0 (Nat.ne_of_gt h5), gbcell hg a1 (Nat.ne_of_gt h5), gbcell hg a2 (Nat.ne_of_gt h5)⟩

set_option maxHeartbeats 2000000 in
set_option maxRecDepth 100000 in
theorem RAdd_spike (w : World) (rb c : Nat) (g r : Int) (ad : Option Addr) (L : List Smp) (s : Smp) (h : RAt w rb g ad c L r) (hok : ∀ s ∈ L, okS s) (hs : okS s) (hg1 : 1 ≤ g) (hg2 : g ≤ 1125899906842624)
    (hsp : spikeB g L s = true) (hr : r < 2) (hr0 : 0 ≤ r) :
    Calls Try.prog 19 #[.pointer (some ⟨rb, 0, none⟩), s.val] w fun e w' => e = .returned (.tuple #[.bool false, .int .i64 0]) ∧ RAt w' rb g ad c L (r + 1) ∧ w.grownBy w' (some rb) := by
  have hb := h.lt
  have hL9 := h.2.2
  obtain ⟨hl2, hfar⟩ : 2 ≤ L.length ∧ 3 * g + jit L < dist s.off (best L).off := by simpa [spikeB] using hsp
  have hjb := jit_bd hok
  have hjs := hs
  have hne : L ≠ [] := fun e => by rw [e] at hl2; simp at hl2
  have hBo := best_ok hok
  have RJ := hid (fun (w : World) (h : RAt w rb g ad c L r) => RJitter w rb c g r ad L h hok)
  have FA := hid (fun w => Rfar_any s.off (best L).off w hs.1 hs.2.1 hBo.1 hBo.2.1)
  obtain ⟨D, hD⟩ : ∃ D, dist s.off (best L).off = D := ⟨_, rfl⟩
  obtain ⟨J, hJ⟩ : ∃ J, jit L = J := ⟨_, rfl⟩
  rw [hD] at hfar FA
  rw [hJ] at hfar RJ hjb
  clear hD hJ
  have RB := hid (fun (w : World) (h : RAt w rb g ad c L r) => (RBest w rb c g r _ L h).mono (fun e w' h => (⟨h.1, h.2.2⟩ : e = .returned (.int .i64 (bi L)) ∧ Below w.heap.size w w')))
  obtain ⟨i, hie, hi⟩ := (bi_at L).ne hne
  rw [hie] at RB
  rcases h.2.1 with ⟨h0, _⟩ | ⟨gg, rfl, s2, s3, s4, s5, s6⟩
  · exact absurd h0 hne
  have S6 := hid s6
  have HI := hid hi
  have hil := (List.getElem?_eq_some_iff.1 hi).1
  have j1 : (i : Int) < (L.length : Int) := by omega
  have j2 : (0 : Int) ≤ (i : Int) := by omega
  have j3 : ¬ ((L.length : Int) < 2) := by omega
  have j4 : (2 : Int) ≤ (L.length : Int) := by omega
  have H := hid h
  obtain ⟨o1, o2, o3, o4, o5, o6⟩ := hs
  clear h hok hsp hne hBo hie hi s6 hjs
  unfold Smp.val
  go_enter Try.func19, Try.ntmps19
  go_wp2
  have HX := hid (Box3.new w s 38)
  have HR := hid (H.out.below (ba (Below.refl _ _) (.cells #[.int .i64 s.off, .int .i64 s.del, .int .i64 s.bnd] 38)))
  have B1 := hid (ba (Below.refl w.heap.size w) (.cells #[.int .i64 s.off, .int .i64 s.del, .int .i64 s.bnd] 38))
  have S1 := hid (S6.out.below (ba (Below.refl _ _) (.cells #[.int .i64 s.off, .int .i64 s.del, .int .i64 s.bnd] 38)))
  have hwx := HX.out.lt
  generalize (w.alloc _) = W at HX HR B1 S1 hwx ⊢
  have hbW := HR.out.lt
  obtain ⟨d0, d1, d2⟩ := HR.out.cell
  obtain ⟨x0, x1, x2⟩ := HX.out.1
  obtain ⟨e0, _, _⟩ := S1.out i _ HI.out
  rw [Nat.zero_add] at e0
  have hgW := World.block_lt_of_cell? W _ e0
  refine wp_region_plan_lit (C := fun w' => ∃ x, w' = W.ext x) [] [0, 1, 2, 3, 4, 5, 6, 7, 8, 9, 10, 11, 12, 13, 14, 15, 16, 17, 18, 19, 20, 21, 22, 23, 24, 25, 26, 27, 28, 29, 30, 31, 32, 33, 34] [35] (by kernel_rfl) (by kernel_rfl) (by intro c a d v w h; cases d <;> exact h) ⟨W.drew, (ext_of (Below.refl _ _).drew).symm⟩ ?_
  simp only [List.map_cons, List.map_nil, List.getD_cons_succ, List.getD_cons_zero]
  refine wpQuiet_nil ?_
  repeat (go_big_quiet_step (first | (go_at_call 45; exact Calls.ext_same (FA.out _)) | (go_at_call 25; exact Calls.ext_of (RB.out _ (HR.out.below (ext_below _ _)))) | (go_at_call 27; exact Calls.ext_of (RJ.out _ (HR.out.below (ext_below _ _))))))
  refine wpQuiet_nil ?_
  rintro _ ⟨y', rfl⟩
  have B3 := hid (bt B1.out (ext_below W y'))
  have HR3 := hid (HR.out.below (ext_below W y'))
  generalize (W.ext y') = X at B3 HR3 ⊢
  have hbX := HR3.out.lt
  clear d0 d1 d2
  obtain ⟨d0, d1, d2⟩ := HR3.out.cell
  have fz := HR3.out.frozen 2
  go_wp2
  go_ret2
  exact ⟨rfl, HR3.out.setR _, gbt (gb B3.out _) (gbset _ _ _ _)⟩
end Go.Proofs.Ytlljndojbhopfaa
