/- the reference's mac: Of, Short, Right. -/
import Derived.Test.YtfmfdhcmbnabpaaRMac1
namespace Go.Proofs.Ytfmfdhcmbnabpaa
open Go Go.RowKit
set_option linter.unusedVariables false
set_option linter.unusedSimpArgs false
attribute [local go_sem] bmax2 bmin2 bmax bmin cell_ext frozen_ext

set_option maxHeartbeats 1000000 in
set_option maxRecDepth 100000 in
theorem R_Of (K : List UInt8) (t : ByteArray) (hK : K.length = 32) (ht : t.size ≤ 1099511627) (w : World) :
    Calls Try.prog 20 #[.agg (cellsU8 K).toArray, .string t] w fun e w' => e = .returned (.agg (cellsU8 (macD K (bs t))).toArray) ∧ Below w.heap.size w w' := by
  have c1 := kp (fun w' => R_Tag (str K) t (by rw [str_size]; omega) ht w')
  rw [bs_str] at c1
  have hcl := key_cells _ (macD_length K (bs t))
  generalize macD K (bs t) = E at c1 hcl ⊢
  obtain ⟨ZL, hZL⟩ : ∃ ZL : List UInt8, List.replicate 32 0 = ZL := ⟨_, rfl⟩
  have h0 := (Blk.new w 23 (cellsU8 K).toArray).alloc (.cells (cellsU8 (List.replicate 32 0)).toArray 23)
  have h1 := kp (Blk.new (w.alloc (.cells (cellsU8 K).toArray 23)) 23 (cellsU8 (List.replicate 32 0)).toArray)
  have hb0 := kp (ba (ba (Below.refl w.heap.size w) (.cells (cellsU8 K).toArray 23)) (.cells (cellsU8 (List.replicate 32 0)).toArray 23))
  rw [size_all] at h1
  have hcv := fun o => blk_str (P := Try.prog) 44 (e := 5) (dst := 9) (n := 32) (cap := 32) Try.underlying44 Try.underlying5 Try.underlying9 ((Blk.new w 23 (cellsU8 K).toArray).alloc o) hK
  clear ht hK h0
  go_enter Try.func20, Try.ntmps20
  go_wp2_with fail
  refine (c1.out _).mono ?_
  rintro e w2 ⟨rfl, hb2⟩
  have h2 := h1.out.bel hb2
  rw [hZL] at h2
  have SC := sc_all (P := Try.prog) (w := w2) (w.heap.size + 1) 23 (cellsU8 E) _ h2 (by rw [hcl, length_cellsU8, ← hZL, List.length_replicate]) (cellsU8_one _)
  have HX := kp (h2.row (cellsU8 E).toArray)
  have HBX := kp (bsr (bt' hb0.out hb2 hb0.out.size) (Nat.le_succ w.heap.size) (bt' hb0.out hb2 hb0.out.size).size (cellsU8 E).toArray)
  have HL := kp hcl
  clear h1 h2 hb2 hb0 hcv hZL
  generalize hY : w2.setRow (w.heap.size + 1) (cellsU8 E).toArray = Z at SC HX HBX
  clear hY
  go_wp2
  refine bodyPost_ret (v := .agg (cellsU8 E).toArray) ?_ rfl ⟨rfl, HBX.out⟩
  exact res_all Try.results20 (w.heap.size + 1) 32 _ (cellsU8 E) _ Try.underlying23 rfl info_key HL.out HX.out _ rfl

theorem one_str (c : UInt8) : strOfNums [(c.toNat : Int)] = str [c] := strNums [c]

end Go.Proofs.Ytfmfdhcmbnabpaa
