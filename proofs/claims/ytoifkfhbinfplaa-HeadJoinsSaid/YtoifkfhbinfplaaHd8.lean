/- head: Take. -/
import Derived.Test.YtoifkfhbinfplaaHd7
namespace Go.Proofs.Ytoifkfhbinfplaa
open Go Go.RowKit
set_option linter.unusedVariables false
set_option linter.unusedSimpArgs false
attribute [local go_sem] bmax2 bmin2 bmax bmin cell_ext frozen_ext

def zeroH : Hd := ⟨0, 0, 0, 0, 0, 0, 0, 0, 0, 0, 0, 0, 0⟩
theorem and7 : ∀ b : Fin 256, bits BinOp.and IntKind.u8 ((b.val / 8 : Nat) : Int) 7 = ((b.val / 8 % 8 : Nat) : Int) ∧ bits BinOp.and IntKind.u8 ((b.val : Nat) : Int) 7 = ((b.val % 8 : Nat) : Int) := by decide +kernel
theorem build_zero (W : World) : (Instr.build 26 #[]).run Try.prog W = .ok (.agg zeroH.cells.toArray) W := by kernel_rfl
theorem zero_one : ∀ v ∈ zeroH.cells, v.oneCell' = true := by decide
set_option maxHeartbeats 1000000 in
set_option maxRecDepth 100000 in
theorem Take_size (s : ByteArray) (hs : s.size ≠ 48) (hs2 : s.size ≤ 1099511627776) (w : World) : Calls Try.prog 14 #[.string s] w fun e w' => e = .returned (.tuple #[.agg zeroH.cells.toArray, .int .i64 5]) ∧ Below w.heap.size w w' := by
  have HB := kp (ba (Below.refl w.heap.size w) (.cells zeroH.cells.toArray 26))
  have HN := kp (Blk.new w 26 zeroH.cells.toArray)
  have HZL : Kp (zeroH.cells.length = 13) := kp rfl
  have HZO := kp zero_one
  have HBZ := kp build_zero
  have g : ((s.size : Int) == 48) = false := by simp; omega
  have g2 : ¬ (s.size : Int) = 48 := by omega
  obtain ⟨Z, hZ⟩ : ∃ Z, zeroH.cells = Z := ⟨_, rfl⟩
  have HZZ := kp hZ
  rw [hZ] at HZL HZO HBZ ⊢
  go_enter Try.func14, Try.ntmps14
  go_upto_region 1 with (fail)
  generalize hW : w.alloc _ = W
  have HB : Kp (Below w.heap.size w W) := kp (by rw [← hW]; exact HB.out)
  have HN : Kp (Blk W w.heap.size 26 Z.toArray) := kp (by rw [← hW, ← hZ]; exact HN.out)
  clear hW hZ
  have hzl := HZL.out
  have SC := sc_all (P := Try.prog) (w := W) w.heap.size 26 Z _ HN.out rfl HZO.out
  have HR := kp (HN.out.row Z.toArray)
  have HBE := kp (bsr HB.out (b := w.heap.size) (Nat.le_refl _) HB.out.size Z.toArray)
  go_wp2_with (refine wpL_val 12 rfl rfl (.agg Z.toArray) (exec_build (parts := #[]) rfl (by simp) (HBZ.out _)) ?_)
  refine bodyPost_ret (v := .tuple #[.agg Z.toArray, .int .i64 5]) ?_ rfl ⟨rfl, HBE.out⟩
  exact res2 Try.results14 w.heap.size 13 _ Z _ Try.underlying26 rfl info_head hzl HR.out _ rfl _ rfl
end Go.Proofs.Ytoifkfhbinfplaa
