/- head: the reference's Read. -/
import Derived.Test.YtoifkfhbinfplaaHd17
import Derived.Test.YtoifkfhbinfplaaHd16
namespace Go.Proofs.Ytoifkfhbinfplaa
open Go Go.RowKit
set_option linter.unusedVariables false
set_option linter.unusedSimpArgs false
attribute [local go_sem] bmax2 bmin2 bmax bmin cell_ext frozen_ext

theorem one_bad (r : ByteArray) (h : oneBad r) : oneIs r = false := by unfold oneIs; rw [if_pos h]
def fdOf (r : ByteArray) : Fd := ⟨oneK r, oneD r⟩
theorem fd_right (r : ByteArray) (h4 : 4 ≤ r.size) (hn4 : 4 ≤ oneN r) (hn : oneN r ≤ r.size) (h : (fdOf r).right = true) : ¬ oneBad r := by
  have h1 := (right_iff _).1 h
  have h2 : (fdOf r).d.size = oneN r - 4 := by unfold fdOf oneD; simp only; rw [ByteArray.size_extract]; omega
  unfold oneBad
  omega
theorem one_wrong (r : ByteArray) (h4 : 4 ≤ r.size) (hn4 : 4 ≤ oneN r) (hn : oneN r ≤ r.size) (h : (fdOf r).right = false) : oneIs r = false := by
  by_cases hb : oneBad r
  · exact one_bad r hb
  · unfold oneIs oneF
    rw [if_neg hb, if_neg hb]
    have : (⟨(oneK r : Int), oneD r⟩ : Fd).right = false := h
    rw [this, Bool.and_false]
theorem one_yes (r : ByteArray) (h4 : 4 ≤ r.size) (hn4 : 4 ≤ oneN r) (hn : oneN r ≤ r.size) (h : (fdOf r).right = true) :
    oneF r = fdOf r ∧ oneIs r = Lib.hasPrefix (bs r) (fdOf r).bytes ∧ (Lib.hasPrefix (bs r) (fdOf r).bytes = true → oneRest r = r.extract (fdOf r).bytes.length r.size) := by
  have hb := fd_right r h4 hn4 hn h
  have hf : oneF r = fdOf r := by unfold oneF; rw [if_neg hb]; rfl
  have hp := fd_prefix r h4 hn4 hn
  have hfb := fd_bytes r h4 hn4 hn
  refine ⟨hf, ?_, fun hyes => ?_⟩
  · unfold oneIs
    rw [if_neg hb, hf, h, Bool.and_true]
    exact hp.symm
  · unfold oneRest
    rw [if_neg hb]
    apply bs_inj
    unfold Lib.trimPrefix
    have h1 : Lib.hasPrefix (bs (oneR r)) (oneFull r) = true := by rw [← hp]; exact hyes
    rw [if_pos h1]
    have h2 : (fdOf r).bytes.length = 4 + (oneFull r).length := by
      have : (fdOf r).bytes = bs (r.extract 0 4) ++ oneFull r := hfb
      rw [this, List.length_append, size_bs, ByteArray.size_extract]
      omega
    have hx : ∀ x : List UInt8, bs (⟨x.toArray⟩ : ByteArray) = x := fun x => rfl
    rw [hx, h2, bs_extract]
    unfold oneR
    rw [bs_extract, List.drop_take, List.drop_drop]
    rw [List.take_of_length_le (by rw [List.length_drop, size_bs]; omega), List.take_of_length_le (by rw [List.length_drop, size_bs]; omega)]
theorem extract_to (s : ByteArray) (a m : Nat) (h : a ≤ s.size) : (s.extract a s.size).extract m (s.extract a s.size).size = s.extract (a + m) s.size := by
  apply bs_inj
  simp only [bs_extract, ByteArray.size_extract, Nat.min_self]
  rw [List.drop_take, List.drop_drop, List.take_of_length_le (by rw [List.length_take, List.length_drop, size_bs]; omega), List.take_of_length_le (by rw [List.length_drop, size_bs]; omega), List.take_of_length_le (by rw [List.length_drop, size_bs]; omega)]
theorem extract_mid (s : ByteArray) (a x y : Nat) (h : y ≤ s.size - a) : (s.extract a s.size).extract x y = s.extract (a + x) (a + y) := by
  apply bs_inj
  simp only [bs_extract]
  rw [List.drop_take, List.drop_drop, List.take_take]
  congr 1
  omega
set_option maxHeartbeats 1000000 in
set_option maxRecDepth 100000 in
theorem R_Read_short (s : ByteArray) (hs : s.size < 48) (w : World) : Calls Try.prog 20 #[.string s] w fun e w' => ReadP w zeroH [] 5 e w' := by
  have g : decide ((s.size : Int) < 48) = true := by simp; omega
  have HB := kp (ba (Below.refl w.heap.size w) (.cells zeroH.cells.toArray 26))
  have HN := kp (Blk.new w 26 zeroH.cells.toArray)
  have HZL : Kp (zeroH.cells.length = 13) := kp rfl
  have HZO := kp zero_one
  have HBZ := kp build_zero
  obtain ⟨Z, hZ⟩ : ∃ Z, zeroH.cells = Z := ⟨_, rfl⟩
  have HZZ := kp hZ
  rw [hZ] at HZL HZO HBZ
  go_enter Try.func20, Try.ntmps20
  go_upto_region 1 with (fail)
  generalize hW : w.alloc _ = W
  have HB : Kp (Below w.heap.size w W) := kp (by rw [← hW]; exact HB.out)
  have HN : Kp (Blk W w.heap.size 26 Z.toArray) := kp (by rw [← hW, ← hZ]; exact HN.out)
  clear hW hZ
  have hzl := HZL.out
  have SC := sc_all (P := Try.prog) (w := W) w.heap.size 26 Z _ HN.out rfl HZO.out
  have HR := kp (HN.out.row Z.toArray)
  have HBE := kp (bsr HB.out (b := w.heap.size) (Nat.le_refl _) HB.out.size Z.toArray)
  go_wp2_with (refine wpL_val 15 rfl rfl (.agg Z.toArray) (exec_build (parts := #[]) rfl (by simp) (HBZ.out _)) ?_)
  refine bodyPost_ret (v := .tuple #[.agg Z.toArray, .slice none 0 0, .int .i64 5]) ?_ rfl (ReadP.mk none 0 (by rw [HZZ.out]; rfl) FS.nil HBE.out)
  exact res3 Try.results20 w.heap.size 13 _ Z _ Try.underlying26 rfl info_head hzl HR.out _ rfl _ _ rfl rfl
set_option maxHeartbeats 1000000 in
set_option maxRecDepth 100000 in
theorem R_Read_bad (s : ByteArray) (hs : 48 ≤ s.size) (hm : (hdOf (s.extract 0 48)).may = false) (w : World) : Calls Try.prog 20 #[.string s] w fun e w' => ReadP w zeroH [] 2 e w' := by
  have g : decide ((s.size : Int) < 48) = false := by simp; omega
  have cT : Kp (∀ w', Calls Try.prog 15 #[.string (s.extract 0 48)] w' fun e w'' => e = .returned (.tuple #[.agg zeroH.cells.toArray, .int .i64 2]) ∧ Below w'.heap.size w' w'') := kp (fun w' => by
    have h := R_Take_48 (s.extract 0 48) (by simp; omega) w'
    rw [hm] at h
    exact h)
  have HB := kp (ba (Below.refl w.heap.size w) (.cells zeroH.cells.toArray 26))
  have HN := kp (Blk.new w 26 zeroH.cells.toArray)
  have HZL : Kp (zeroH.cells.length = 13) := kp rfl
  have HZO := kp zero_one
  have HBZ := kp build_zero
  obtain ⟨Z, hZ⟩ : ∃ Z, zeroH.cells = Z := ⟨_, rfl⟩
  have HZZ := kp hZ
  rw [hZ] at HZL HZO HBZ cT
  go_enter Try.func20, Try.ntmps20
  go_upto_region 1 with (fail)
  generalize hW : w.alloc _ = W
  have HB : Kp (Below w.heap.size w W) := kp (by rw [← hW]; exact HB.out)
  have HN : Kp (Blk W w.heap.size 26 Z.toArray) := kp (by rw [← hW, ← hZ]; exact HN.out)
  clear hW hZ
  go_wp2_with fail
  refine (cT.out _).mono ?_
  rintro e w1 ⟨rfl, hb1⟩
  have HNX := kp (HN.out.bel hb1)
  have HN := HNX
  have HB := kp (bt' HB.out hb1 HB.out.size)
  clear hb1
  have hzl := HZL.out
  have HN5 := kp (Blk.new w1 26 Z.toArray)
  have HN := kp (HN.out.alloc (.cells Z.toArray 26))
  have HB := kp (HB.out.alloc HB.out.size (.cells Z.toArray 26))
  have SC5 := sc_all (P := Try.prog) (w := w1.alloc (.cells Z.toArray 26)) w1.heap.size 26 Z _ HN5.out rfl HZO.out
  have hlt : w.heap.size < w1.heap.size := by have := HNX.out.lt; exact this
  have HB := kp (bsr HB.out (b := w1.heap.size) (Nat.le_of_lt hlt) HB.out.size Z.toArray)
  have HN := kp (HN.out.rowfar (b := w1.heap.size) (Nat.ne_of_lt hlt) Z.toArray)
  go_upto_region 5 with (refine wpL_make 5 rfl rfl (.pointer (some ⟨w1.heap.size, 0, none⟩)) (w' := w1.alloc (.cells Z.toArray 26)) (by rw [← HZZ.out]; kernel_rfl) ?_)
  clear SC5
  generalize (w1.alloc (.cells Z.toArray 26)).setRow w1.heap.size Z.toArray = Y at HB HN ⊢
  have SC := sc_all (P := Try.prog) (w := Y) w.heap.size 26 Z _ HN.out rfl HZO.out
  have HR := kp (HN.out.row Z.toArray)
  have HBE := kp (bsr HB.out (b := w.heap.size) (Nat.le_refl _) HB.out.size Z.toArray)
  go_wp2_with (refine wpL_val 24 rfl rfl (.agg Z.toArray) (exec_build (parts := #[]) rfl (by simp) (HBZ.out _)) ?_)
  refine bodyPost_ret (v := .tuple #[.agg Z.toArray, .slice none 0 0, .int .i64 2]) ?_ rfl (ReadP.mk none 0 (by rw [HZZ.out]; rfl) FS.nil HBE.out)
  exact res3 Try.results20 w.heap.size 13 _ Z _ Try.underlying26 rfl info_head hzl HR.out _ rfl _ _ rfl rfl
end Go.Proofs.Ytoifkfhbinfplaa
