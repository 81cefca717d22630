/- the reference's sha: Walk, Hex. -/
import Derived.Test.YtfmfdhcmbnabpaaRSha3
namespace Go.Proofs.Ytfmfdhcmbnabpaa
open Go Go.RowKit
set_option linter.unusedVariables false
set_option linter.unusedSimpArgs false
attribute [local go_sem] bmax2 bmin2 bmax bmin cell_ext frozen_ext

theorem R_Sum_st (t : ByteArray) (h : t.size ≤ 549755813888) (w : World) : Calls Try.prog 27 #[.string t] w fun e w' => e = .returned (.agg (cellsU8 (digest (bs t))).toArray) ∧ Below w.heap.size w w' := R_Sum (bs t) (by rw [size_bs]; omega) w

set_option maxHeartbeats 1000000 in
set_option maxRecDepth 100000 in
theorem R_Walk (K : List UInt8) (hK : K.length = 32) (n : Int) (N : Nat) (hN : min (max n 0) 4096 = (N : Int)) (w : World) :
    Calls Try.prog 38 #[.agg (cellsU8 K).toArray, .int .i64 n] w fun e w' => e = .returned (.agg (cellsU8 (walkD K N)).toArray) ∧ Below w.heap.size w w' := by
  have hk0 := key_cells K hK
  have HK := kp hK
  clear hK
  obtain ⟨ZL, hZL⟩ : ∃ ZL : List UInt8, List.replicate 32 0 = ZL := ⟨_, rfl⟩
  go_enter Try.func38, Try.ntmps38
  go_wp2
  have hN2 : N ≤ 4096 := by omega
  have h0 := kp ((Blk.new w 23 (cellsU8 (walkD K 0)).toArray).alloc (.cells (cellsU8 (List.replicate 32 0)).toArray 23))
  have h1 := kp (Blk.new (w.alloc (.cells (cellsU8 (walkD K 0)).toArray 23)) 23 (cellsU8 (List.replicate 32 0)).toArray)
  have hb := kp (ba (ba (Below.refl w.heap.size w) (.cells (cellsU8 (walkD K 0)).toArray 23)) (.cells (cellsU8 (List.replicate 32 0)).toArray 23))
  rw [size_all] at h1
  rw [hZL] at h1
  have HZL := kp hZL
  clear hZL
  go_loopw [5] (fun i wr => ∃ j : Nat, j ≤ N ∧ i = .int .i64 j ∧ Kp (Blk wr w.heap.size 23 (cellsU8 (walkD K j)).toArray) ∧ Kp (Blk wr (w.heap.size + 1) 23 (cellsU8 ZL).toArray) ∧ Kp (Below w.heap.size w wr)) (fun i _ => N - (intOf i).toNat)
  case atStart => exact ⟨0, Nat.zero_le _, rfl, h0, (by rw [← HZL.out] at h1 ⊢; exact h1), hb⟩
  case round =>
    clear h0 h1 hb
    obtain ⟨j, hj, rfl, h0, h1, hb⟩ := hrel
    have hwl := walkD_length K HK.out j
    by_cases hlt : j < N
    · have hlt' : (j : Int) < n := by omega
      have hlt2 : (j : Int) < 4096 := by omega
      have hcv := blk_str (P := Try.prog) 44 (e := 5) (dst := 9) (n := 32) (cap := 32) Try.underlying44 Try.underlying5 Try.underlying9 h0.out hwl
      have SU : Kp (∀ w', Calls Try.prog 27 #[.string (str (walkD K j))] w' fun e w'' => e = .returned (.agg (cellsU8 (digest (walkD K j))).toArray) ∧ Below w'.heap.size w' w'') := kp (fun w' => R_Sum (walkD K j) (by rw [hwl]; omega) w')
      have hdl := digest_length (walkD K j)
      have HS : Kp (walkD K (j + 1) = digest (walkD K j)) := kp rfl
      have HCV := kp hwl
      clear hwl
      obtain ⟨D, hD⟩ : ∃ D, digest (walkD K j) = D := ⟨_, rfl⟩
      rw [hD] at SU hdl HS
      clear hD
      have hcl := key_cells D hdl
      clear hdl
      have HNN := kp hN
      clear hN
      go_wp2_with fail
      refine (SU.out _).mono ?_
      rintro e w1 ⟨rfl, hb1⟩
      have SC := sc_all (P := Try.prog) (w := w1) w.heap.size 23 (cellsU8 D) _ (h0.out.bel hb1) (by rw [hcl, length_cellsU8, HCV.out]) (cellsU8_one _)
      have HX := kp ((h0.out.bel hb1).row (cellsU8 D).toArray)
      have HX1 := kp ((h1.out.bel hb1).rowfar (b := w.heap.size) (by omega) (cellsU8 D).toArray)
      have HBX := kp (bsr (bt' hb.out hb1 hb.out.size) (Nat.le_refl _) (by have := hb1.size; have := hb.out.size; omega) (cellsU8 D).toArray)
      clear h0 h1 hb hb1
      generalize hY : w1.setRow w.heap.size (cellsU8 D).toArray = Z at SC HX HX1 HBX
      clear hY hcv
      go_wp2
      go_roundw
      case measure => simp [intOf]; omega
      case rel => exact ⟨j + 1, by omega, by go_num, by rw [HS.out]; exact HX, HX1, HBX⟩
    · obtain rfl : j = N := by omega
      have hcl := key_cells _ hwl
      obtain ⟨D, hD⟩ : ∃ D, walkD K j = D := ⟨_, rfl⟩
      rw [hD] at h0 hcl
      have HD := kp hD
      have LD := ld_all (P := Try.prog) (w := wr) w.heap.size 32 23 _ (cellsU8 D) _ Try.underlying23 rfl info_key hcl h0.out
      have SC := sc_all (P := Try.prog) (w := wr) (w.heap.size + 1) 23 (cellsU8 D) _ h1.out (by rw [hcl, length_cellsU8, ← HZL.out, List.length_replicate]) (cellsU8_one _)
      have HX := kp (h1.out.row (cellsU8 D).toArray)
      have HBX := kp (bsr hb.out (show w.heap.size ≤ w.heap.size + 1 by omega) hb.out.size (cellsU8 D).toArray)
      have HL := kp hcl
      clear hD hwl h0 h1 hb
      generalize hY : wr.setRow (w.heap.size + 1) (cellsU8 D).toArray = Z at SC HX HBX
      clear hY
      by_cases hn : (j : Int) < n
      · have hlt2 : ¬ (j : Int) < 4096 := by omega
        have HNN := kp hN
        clear hN
        go_wp2_with (refine wpL_load rfl 23 _ rfl rfl LD ?_)
        refine bodyPost_ret (v := .agg (cellsU8 D).toArray) ?_ rfl ⟨by rw [HD.out], HBX.out⟩
        exact res_all Try.results38 (w.heap.size + 1) 32 _ (cellsU8 D) _ Try.underlying23 rfl info_key HL.out HX.out _ rfl
      · have HNN := kp hN
        clear hN
        go_wp2_with (refine wpL_load rfl 23 _ rfl rfl LD ?_)
        refine bodyPost_ret (v := .agg (cellsU8 D).toArray) ?_ rfl ⟨by rw [HD.out], HBX.out⟩
        exact res_all Try.results38 (w.heap.size + 1) 32 _ (cellsU8 D) _ Try.underlying23 rfl info_key HL.out HX.out _ rfl

theorem digits_slice : ∀ (q : Nat) (h : q < 16) (W : World), (Instr.slice 9 (.string ⟨#[48, 49, 50, 51, 52, 53, 54, 55, 56, 57, 97, 98, 99, 100, 101, 102]⟩) (some (.int .u8 (q : Int))) (some (.int .u8 ((q : Int) + 1))) none).run Try.prog W = .ok (.string (str [dig16 q])) W
  | 0, _, W => by kernel_rfl
  | 1, _, W => by kernel_rfl
  | 2, _, W => by kernel_rfl
  | 3, _, W => by kernel_rfl
  | 4, _, W => by kernel_rfl
  | 5, _, W => by kernel_rfl
  | 6, _, W => by kernel_rfl
  | 7, _, W => by kernel_rfl
  | 8, _, W => by kernel_rfl
  | 9, _, W => by kernel_rfl
  | 10, _, W => by kernel_rfl
  | 11, _, W => by kernel_rfl
  | 12, _, W => by kernel_rfl
  | 13, _, W => by kernel_rfl
  | 14, _, W => by kernel_rfl
  | 15, _, W => by kernel_rfl
  | q + 16, h, W => by omega

end Go.Proofs.Ytfmfdhcmbnabpaa
