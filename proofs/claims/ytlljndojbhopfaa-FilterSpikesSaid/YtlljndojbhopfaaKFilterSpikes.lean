/- FilterSpikes: the walk. -/
import Derived.Test.YtlljndojbhopfaaFil7
import Derived.Test.YtlljndojbhopfaaPl
namespace Go.Proofs.Ytlljndojbhopfaa
open Go Go.RowKit
set_option linter.unusedVariables false
set_option linter.unusedSimpArgs false
attribute [local go_sem] bmax2 bmin2 bmax bmin cell_ext frozen_ext

def z7 : List Smp := [⟨0, 0, 0⟩, ⟨0, 0, 0⟩, ⟨0, 0, 0⟩, ⟨0, 0, 0⟩, ⟨0, 0, 0⟩, ⟨0, 0, 0⟩, ⟨0, 0, 0⟩]
theorem sp1 (g o : Int) : spikeB g [] ⟨o, 0, 0⟩ = false := by simp [spikeB]
theorem sp2 (g o : Int) : spikeB g [⟨o, 0, 0⟩] ⟨o, 0, 0⟩ = false := by simp [spikeB]
theorem sp3 (g o : Int) (hg : 1 ≤ g) : spikeB g [⟨o, 0, 0⟩, ⟨o, 0, 0⟩] ⟨o + 3 * g, 0, 0⟩ = false := by
  simp [spikeB, best, minS, jit, dist]
  split <;> omega
theorem sp4 (g o : Int) (hg : 1 ≤ g) : jit [⟨o + 3 * g, 0, 0⟩, ⟨o, 0, 0⟩, ⟨o, 0, 0⟩] = 3 * g := by
  simp [best, minS, jit, dist]
  repeat' split
  all_goals omega
theorem sp5 (g o d : Int) (hg : 1 ≤ g) (hd : 0 ≤ d) : spikeB g [⟨o + 3 * g, 0, 0⟩, ⟨o, 0, 0⟩, ⟨o, 0, 0⟩] ⟨o - 3 * g - 3 * g - 1 - d, 1, 0⟩ = true := by
  unfold spikeB
  rw [sp4 g o hg]
  simp [best, minS, dist]
  split <;> omega

set_option maxHeartbeats 2000000 in
set_option maxRecDepth 100000 in
theorem FilterSpikes_walk (a0 a1 a2 : Int) (b0 : (Lit.int .u32 a0).wf = true) (b1 : (Lit.int .i64 a1).wf = true) (b2 : (Lit.int .u32 a2).wf = true) (w : World) :
    Calls Try.prog 5 #[.int .u32 a0, .int .i64 a1, .int .u32 a2] w fun e w' => e = .returned (.bool true) ∧ Below w.heap.size w w' := by
  obtain ⟨G, hG, hG0⟩ : ∃ G : Int, a0 % 1048576 = G ∧ 0 ≤ G ∧ G < 1048576 := ⟨_, rfl, by omega, by omega⟩
  have hoff := wf_i64 b1
  have hfar := wf_u32 b2
  have ha0 := wf_u32 b0
  have o1 : -1125899906842624 < a1.tmod 1125899906842624 := by
    have := Int.tmod_lt_of_pos (-a1) (show (0 : Int) < 1125899906842624 by omega)
    rw [Int.neg_tmod] at this; omega
  have o2 : a1.tmod 1125899906842624 < 1125899906842624 := Int.tmod_lt_of_pos _ (by omega)
  go_enter Try.func5, Try.ntmps5
  go_wp2_with fail
  refine (awake15 w).mono ?_
  rintro e w1 ⟨rfl, hb⟩
  have B1 := hid hb
  clear hb
  go_wp2_with fail
  have hg1 : 1 ≤ G + 1 := by omega
  have hg2 : G + 1 ≤ 1048576 := by omega
  generalize G + 1 = g at hg1 hg2 ⊢
  clear hG hG0 hoff ha0 b0 b1 b2
  generalize a1.tmod 1125899906842624 = o at o1 o2 ⊢
  refine (New_good g w1 (by omega) (by omega)).mono ?_
  rintro e w2 ⟨rfl, hf, hb⟩
  have hf : FAt w2 w1.heap.size g (⟨0, 0, 0⟩ :: z7) 0 0 := hf
  have F2 := hid hf
  have B2 := hid (bt B1.out hb)
  have hw1 : w.heap.size ≤ w1.heap.size := B1.out.size
  clear hf hb
  go_wp2_with fail
  generalize w1.heap.size = b at F2 hw1 ⊢
  refine (Add_take b 0 g 0 _ ⟨o, 0, 0⟩ w2 F2.out (by simp) (by unfold okS; dsimp only; omega) hg1 (by omega) (by simp [sp1])).mono ?_
  rintro e w3 ⟨rfl, hf, hg⟩
  have F3 : Hid (FAt w3 b g (⟨o, 0, 0⟩ :: z7) 1 0) := hid hf
  have B3 := hid (bgb B2.out hg hw1 B2.out.size)
  clear hf hg
  go_wp2_with fail
  refine (Add_take b 1 g 0 _ ⟨o, 0, 0⟩ w3 F3.out (by simp; unfold okS; dsimp only; omega) (by unfold okS; dsimp only; omega) hg1 (by omega) (by simp [sp2])).mono ?_
  rintro e w4 ⟨rfl, hf, hg⟩
  have F4 : Hid (FAt w4 b g (⟨o, 0, 0⟩ :: ⟨o, 0, 0⟩ :: z7.take 6) 2 0) := hid hf
  have B4 := hid (bgb B3.out hg hw1 B3.out.size)
  clear hf hg
  go_wp2_with fail
  refine (Add_take b 2 g 0 _ ⟨o + 3 * g, 0, 0⟩ w4 F4.out (by simp; unfold okS; dsimp only; omega) (by unfold okS; dsimp only; omega) hg1 (by omega) (by simp [sp3 g o hg1])).mono ?_
  rintro e w5 ⟨rfl, hf, hg⟩
  have F5 : Hid (FAt w5 b g (⟨o + 3 * g, 0, 0⟩ :: ⟨o, 0, 0⟩ :: ⟨o, 0, 0⟩ :: z7.take 5) 3 0) := hid hf
  have B5 := hid (bgb B4.out hg hw1 B4.out.size)
  clear hf hg
  have HOK3 : Hid (∀ s ∈ (⟨o + 3 * g, 0, 0⟩ :: ⟨o, 0, 0⟩ :: ⟨o, 0, 0⟩ :: z7.take 5 : List Smp).take 3, okS s) := hid (by simp; unfold okS; dsimp only; omega)
  have HOKS : Hid (okS ⟨o - 3 * g - 3 * g - 1 - a2, 1, 0⟩) := hid (by unfold okS; dsimp only; omega)
  go_wp2_with fail
  have JT := Jitter_any b 3 g 0 _ w5 F5.out HOK3.out
  rw [show ((⟨o + 3 * g, 0, 0⟩ :: ⟨o, 0, 0⟩ :: ⟨o, 0, 0⟩ :: z7.take 5 : List Smp).take 3) = [⟨o + 3 * g, 0, 0⟩, ⟨o, 0, 0⟩, ⟨o, 0, 0⟩] from rfl, sp4 g o hg1] at JT
  refine JT.mono ?_
  rintro e w6 ⟨rfl, hb⟩
  have F6 := hid (F5.out.below (ba hb (.cells #[.int .i64 (o - 3 * g - 3 * g - 1 - a2), .int .i64 1, .int .i64 0] 32)))
  have B6 := hid (bt B5.out (ba hb (.cells #[.int .i64 (o - 3 * g - 3 * g - 1 - a2), .int .i64 1, .int .i64 0] 32)))
  have X6 := hid (Box3.new w6 ⟨o - 3 * g - 3 * g - 1 - a2, 1, 0⟩ 32)
  have hne : w6.heap.size ≠ b := by have := F5.out.lt; have := hb.size; omega
  clear hb JT
  go_wp2_with fail
  refine (Add_spike b 3 g 0 _ ⟨o - 3 * g - 3 * g - 1 - a2, 1, 0⟩ _ F6.out HOK3.out HOKS.out hg1 (by omega) (sp5 g o a2 hg1 hfar.1) (by omega) (by omega)).mono ?_
  rintro e w7 ⟨rfl, hf, hg⟩
  have F7 := hid hf
  have B7 := hid (bgb B6.out hg hw1 B6.out.size)
  have X7 := hid (X6.out.grown hg hne)
  have hlt7 := X7.out.lt
  obtain ⟨⟨c0, c1, c2⟩, _⟩ := X7.out
  clear hf hg
  go_wp2_with fail
  refine (Add_spike b 3 g _ _ ⟨o - 3 * g - 3 * g - 1 - a2, 1, 0⟩ _ F7.out HOK3.out HOKS.out hg1 (by omega) (sp5 g o a2 hg1 hfar.1) (by omega) (by omega)).mono ?_
  rintro e w8 ⟨rfl, hf, hg⟩
  have F8 := hid hf
  have B8 := hid (bgb B7.out hg hw1 B7.out.size)
  have X8 := hid (X7.out.grown hg hne)
  have hlt8 := X8.out.lt
  clear hf hg c0 c1 c2 hlt7
  obtain ⟨⟨c0, c1, c2⟩, _⟩ := X8.out
  go_wp2_with fail
  refine (Add_take b 3 g _ _ ⟨o - 3 * g - 3 * g - 1 - a2, 1, 0⟩ _ F8.out HOK3.out HOKS.out hg1 (by omega) (by omega)).mono ?_
  rintro e w9 ⟨rfl, hf, hg⟩
  have F9 := hid hf
  have B9 := hid (bgb B8.out hg hw1 B8.out.size)
  clear hf hg c0 c1 c2 hlt8
  go_wp2_with fail
  refine (Samples_any b _ _ _ _ _ F9.out).mono ?_
  rintro e wd ⟨v, rfl, ⟨gg, cc, rfl, g1, g2, g3, g4, g5⟩, hb⟩
  have Bd := hid (bt B9.out hb)
  have hlen : ((((⟨o - 3 * g - 3 * g - 1 - a2, 1, 0⟩ :: ((⟨o + 3 * g, 0, 0⟩ :: ⟨o, 0, 0⟩ :: ⟨o, 0, 0⟩ :: z7.take 5 : List Smp)).take 7 : List Smp)).take (min (3 + 1) 8)).length : Int) = 4 := rfl
  clear g5 hb
  go_wp2
  go_ret
  exact ⟨rfl, Bd.out⟩
end Go.Proofs.Ytlljndojbhopfaa
