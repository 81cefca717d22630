/- head: where its numbers and its stamps lie. -/
import Derived.Test.YtoifkfhbinfplaaHd1
import Derived.Test.YtoifkfhbinfplaaEq
namespace Go.Proofs.Ytoifkfhbinfplaa
open Go Go.RowKit
set_option linter.unusedVariables false
set_option linter.unusedSimpArgs false
attribute [local go_sem] bmax2 bmin2 bmax bmin cell_ext frozen_ext

def ptr (b o : Nat) : Value := .pointer (some ⟨b, o, none⟩)
theorem info_words : (Try.prog.info? 62).map (·.size) = some 3 := by kernel_rfl
theorem info_stamps : (Try.prog.info? 69).map (·.size) = some 4 := by kernel_rfl
set_option maxRecDepth 100000 in
theorem build_words (b : Nat) (W : World) : (Instr.build 62 #[(0, .pointer (some ⟨b, 6, none⟩)), (1, .pointer (some ⟨b, 7, none⟩)), (2, .pointer (some ⟨b, 8, none⟩))]).run Try.prog W = .ok (.agg #[ptr b 6, ptr b 7, ptr b 8]) W := by
  exact run_build W 62 _ _ (by kernel_rfl)
set_option maxRecDepth 100000 in
theorem build_stamps (b : Nat) (W : World) : (Instr.build 69 #[(0, .pointer (some ⟨b, 9, none⟩)), (1, .pointer (some ⟨b, 10, none⟩)), (2, .pointer (some ⟨b, 11, none⟩)), (3, .pointer (some ⟨b, 12, none⟩))]).run Try.prog W = .ok (.agg #[ptr b 9, ptr b 10, ptr b 11, ptr b 12]) W := by
  exact run_build W 69 _ _ (by kernel_rfl)
set_option maxHeartbeats 1000000 in
set_option maxRecDepth 100000 in
theorem M_words {b : Nat} {w : World} {cs : Array Value} (hk : Blk w b 26 cs) (h13 : cs.size = 13) :
    Calls Try.prog 26 #[.pointer (some ⟨b, 0, none⟩)] w fun e w' => e = .returned (.agg ([ptr b 6, ptr b 7, ptr b 8] : List Value).toArray) ∧ Below w.heap.size w w' := by
  have HB := kp (ba (Below.refl w.heap.size w) (.cells ([.pointer none, .pointer none, .pointer none] : List Value).toArray 62))
  have HN := kp (Blk.new w 62 ([.pointer none, .pointer none, .pointer none] : List Value).toArray)
  have hbl := hk.lt
  clear hk h13
  obtain ⟨L, hL⟩ : ∃ L : List Value, [ptr b 6, ptr b 7, ptr b 8] = L := ⟨_, rfl⟩
  have HL := kp hL
  rw [hL]
  go_enter Try.func26, Try.ntmps26
  go_upto_region 1 with (fail)
  generalize hW : w.alloc _ = W
  have HB : Kp (Below w.heap.size w W) := kp (by rw [← hW]; exact HB.out)
  have HN : Kp (Blk W w.heap.size 62 ([.pointer none, .pointer none, .pointer none] : List Value).toArray) := kp (by rw [← hW]; exact HN.out)
  have hbl2 : b < W.heap.size := Nat.lt_of_lt_of_le hbl HB.out.size
  clear hW
  refine wp_region_ext [0, 1, 2, 3, 4, 5, 6, 7, 8, 9] [10] (by kernel_rfl) (by kernel_rfl) ?_
  simp only [List.map_cons, List.map_nil, List.getD_cons_succ, List.getD_cons_zero]
  repeat (first
    | (go_big_quiet_want; refine quiet_val 12 rfl (.agg L.toArray) (fun w _ => exec_build (parts := #[(0, .pointer (some ⟨b, 6, none⟩)), (1, .pointer (some ⟨b, 7, none⟩)), (2, .pointer (some ⟨b, 8, none⟩))]) rfl (by simp [Act.eval, Act.put]) (by rw [← HL.out]; exact build_words b w)) ?_; go_simp; go_big_quiet_on)
    | go_big_quiet_step (fail))
  refine wpQuiet_nil ?_
  rintro z
  have HB := kp (bt' HB.out (ext_below W z) HB.out.size)
  have HN := kp (HN.out.bel (ext_below W z))
  generalize W.ext z = V at HB HN ⊢
  have hll : L.length = 3 := by rw [← hL]; rfl
  have SC := sc_all (P := Try.prog) (w := V) w.heap.size 62 L _ HN.out hll (by rw [← hL]; intro v hv; simp at hv; rcases hv with rfl | rfl | rfl <;> rfl)
  have HR := kp (HN.out.row L.toArray)
  have HBE := kp (bsr HB.out (b := w.heap.size) (Nat.le_refl _) HB.out.size L.toArray)
  clear hL
  go_wp2
  refine bodyPost_ret (v := .agg L.toArray) ?_ rfl ⟨rfl, HBE.out⟩
  exact res_all Try.results26 w.heap.size 3 _ L _ Try.underlying62 rfl info_words hll HR.out _ rfl
set_option maxHeartbeats 1000000 in
set_option maxRecDepth 100000 in
theorem M_stamps {b : Nat} {w : World} {cs : Array Value} (hk : Blk w b 26 cs) (h13 : cs.size = 13) :
    Calls Try.prog 29 #[.pointer (some ⟨b, 0, none⟩)] w fun e w' => e = .returned (.agg ([ptr b 9, ptr b 10, ptr b 11, ptr b 12] : List Value).toArray) ∧ Below w.heap.size w w' := by
  have HB := kp (ba (Below.refl w.heap.size w) (.cells ([.pointer none, .pointer none, .pointer none, .pointer none] : List Value).toArray 69))
  have HN := kp (Blk.new w 69 ([.pointer none, .pointer none, .pointer none, .pointer none] : List Value).toArray)
  have hbl := hk.lt
  clear hk h13
  obtain ⟨L, hL⟩ : ∃ L : List Value, [ptr b 9, ptr b 10, ptr b 11, ptr b 12] = L := ⟨_, rfl⟩
  have HL := kp hL
  rw [hL]
  go_enter Try.func29, Try.ntmps29
  go_upto_region 1 with (fail)
  generalize hW : w.alloc _ = W
  have HB : Kp (Below w.heap.size w W) := kp (by rw [← hW]; exact HB.out)
  have HN : Kp (Blk W w.heap.size 69 ([.pointer none, .pointer none, .pointer none, .pointer none] : List Value).toArray) := kp (by rw [← hW]; exact HN.out)
  have hbl2 : b < W.heap.size := Nat.lt_of_lt_of_le hbl HB.out.size
  clear hW
  refine wp_region_ext [0, 1, 2, 3, 4, 5, 6, 7, 8, 9, 10, 11, 12] [13] (by kernel_rfl) (by kernel_rfl) ?_
  simp only [List.map_cons, List.map_nil, List.getD_cons_succ, List.getD_cons_zero]
  repeat (first
    | (go_big_quiet_want; refine quiet_val 15 rfl (.agg L.toArray) (fun w _ => exec_build (parts := #[(0, .pointer (some ⟨b, 9, none⟩)), (1, .pointer (some ⟨b, 10, none⟩)), (2, .pointer (some ⟨b, 11, none⟩)), (3, .pointer (some ⟨b, 12, none⟩))]) rfl (by simp [Act.eval, Act.put]) (by rw [← HL.out]; exact build_stamps b w)) ?_; go_simp; go_big_quiet_on)
    | go_big_quiet_step (fail))
  refine wpQuiet_nil ?_
  rintro z
  have HB := kp (bt' HB.out (ext_below W z) HB.out.size)
  have HN := kp (HN.out.bel (ext_below W z))
  generalize W.ext z = V at HB HN ⊢
  have hll : L.length = 4 := by rw [← hL]; rfl
  have SC := sc_all (P := Try.prog) (w := V) w.heap.size 69 L _ HN.out hll (by rw [← hL]; intro v hv; simp at hv; rcases hv with rfl | rfl | rfl | rfl <;> rfl)
  have HR := kp (HN.out.row L.toArray)
  have HBE := kp (bsr HB.out (b := w.heap.size) (Nat.le_refl _) HB.out.size L.toArray)
  clear hL
  go_wp2
  refine bodyPost_ret (v := .agg L.toArray) ?_ rfl ⟨rfl, HBE.out⟩
  exact res_all Try.results29 w.heap.size 4 _ L _ Try.underlying69 rfl info_stamps hll HR.out _ rfl
end Go.Proofs.Ytoifkfhbinfplaa
