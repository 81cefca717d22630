/- mac: Tag, Of, Short, Right. -/
import Derived.Test.YtfmfdhcmbnabpaaMac2
import Derived.Test.YtfmfdhcmbnabpaaOct3
namespace Go.Proofs.Ytfmfdhcmbnabpaa
open Go Go.RowKit
set_option linter.unusedVariables false
set_option linter.unusedSimpArgs false
attribute [local go_sem] bmax2 bmin2 bmax bmin cell_ext frozen_ext

/-- a key's beginning as a slice -/
theorem slice_hi (b N : Nat) (hN : N ≤ 32) (W : World) : (Instr.sliceAt 23 (.pointer (some ⟨b, 0, none⟩)) none (some (.int .i64 (N : Int))) none).run Try.prog W = .ok (.slice (some ⟨b, 0, none⟩) N 32) W := by
  have h1 : (0 : Int) ≤ (N : Int) := by omega
  have h2 : (N : Int) ≤ ((32 : Nat) : Int) := by omega
  have h4 : (Try.prog.info? 5).map (·.size) = some 1 := by kernel_rfl
  have hl : Try.prog.arrayLen 23 = 32 := by kernel_rfl
  have he : Try.prog.elem 23 = 5 := by kernel_rfl
  have hu : Try.prog.underlying 23 = some (.array (Try.prog.arrayLen 23) (Try.prog.elem 23)) := by kernel_rfl
  rw [run_sliceAt_array_h W 23 ⟨b, 0, none⟩ hu .i64 _ h1 (by rw [hl]; exact h2), hl, he]
  cases hq : Try.prog.info? 5 with
  | none => simp [hq] at h4
  | some i =>
    have hs : i.size = 1 := by simpa [hq] using h4
    simp [sizeOf, typeInfo, hq, hs, slicedAt, addr_add]
/-- .. made a text -/
theorem blk_strN {P : Program} {w : World} {g n cap : Nat} {T : TypeId} {l : List UInt8} (src : TypeId) {e dst : TypeId} (hs : P.underlying src = some (.slice e)) (he : P.underlying e = some (.int .u8)) (hd : P.underlying dst = some .string)
    (h : Blk w g T (cellsU8 l).toArray) (hl : n ≤ l.length) : (Go.convert src dst (.slice (some ⟨g, 0, none⟩) n cap)).run P w = .ok (.string (str (l.take n))) w := by
  have := run_convert_bytes_arg w src e hs he g 0 n cap ((l.take n).map fun c => (c.toNat : Int)) (by simp; omega) (fun i hi => by
    rw [Nat.zero_add]
    rw [h.atL (cellsU8_get l i (by omega))]
    have h2 : i < (l.take n).length := by simp; omega
    simp [List.getD_eq_getElem?_getD, List.getElem?_eq_getElem h2, List.getElem?_eq_getElem (show i < l.length by omega), hi, List.getElem?_take]) dst hd
  rw [strNums] at this
  exact this

set_option maxHeartbeats 1000000 in
set_option maxRecDepth 100000 in
theorem Tag_any (key t : ByteArray) (hk : key.size ≤ 1099511627) (ht : t.size ≤ 1099511627) (w : World) :
    Calls Try.prog 49 #[.string key, .string t] w fun e w' => e = .returned (.agg (cellsU8 (macD (bs key) (bs t))).toArray) ∧ Below w.heap.size w w' := by
  have c1 := kp (fun w' => With_any key hk w')
  have c2 := kp (fun b5 b6 w' h => Made_any (bs key) t b5 b6 w' h ht)
  have hcl := key_cells _ (macD_length (bs key) (bs t))
  generalize macD (bs key) (bs t) = E at c2 hcl ⊢
  obtain ⟨ZL, hZL⟩ : ∃ ZL : List UInt8, List.replicate 32 0 = ZL := ⟨_, rfl⟩
  have h0 := kp (Blk.new w 23 (cellsU8 (List.replicate 32 0)).toArray)
  have hb0 := kp (ba (Below.refl w.heap.size w) (.cells (cellsU8 (List.replicate 32 0)).toArray 23))
  clear hk ht
  go_enter Try.func49, Try.ntmps49
  go_wp2_with fail
  refine (c1.out _).mono ?_
  rintro e w1 ⟨b5, b6, rfl, hm, hb1⟩
  unfold makerV
  have h1 := kp (h0.out.bel hb1)
  have hbb := kp (bt' hb0.out hb1 hb0.out.size)
  have HM := kp hm
  clear hb1 hm h0 hb0
  rw [hZL] at h1
  have HZL := kp hZL
  clear hZL
  go_wp2_with fail
  refine (c2.out _ _ _ HM.out).mono ?_
  rintro e w2 ⟨rfl, hb2⟩
  have h2 := h1.out.bel hb2
  have SC := sc_all (P := Try.prog) (w := w2) w.heap.size 23 (cellsU8 E) _ h2 (by rw [hcl, length_cellsU8, ← HZL.out, List.length_replicate]) (cellsU8_one _)
  have HX := kp (h2.row (cellsU8 E).toArray)
  have HBX := kp (bsr (bt' hbb.out hb2 hbb.out.size) (Nat.le_refl w.heap.size) (bt' hbb.out hb2 hbb.out.size).size (cellsU8 E).toArray)
  have HL := kp hcl
  clear h1 h2 hb2 hbb HM
  generalize hY : w2.setRow w.heap.size (cellsU8 E).toArray = Z at SC HX HBX
  clear hY
  go_wp2
  refine bodyPost_ret (v := .agg (cellsU8 E).toArray) ?_ rfl ⟨rfl, HBX.out⟩
  exact res_all Try.results49 w.heap.size 32 _ (cellsU8 E) _ Try.underlying23 rfl info_key HL.out HX.out _ rfl

set_option maxHeartbeats 1000000 in
set_option maxRecDepth 100000 in
theorem Of_any (K : List UInt8) (t : ByteArray) (hK : K.length = 32) (ht : t.size ≤ 1099511627) (w : World) :
    Calls Try.prog 40 #[.agg (cellsU8 K).toArray, .string t] w fun e w' => e = .returned (.agg (cellsU8 (macD K (bs t))).toArray) ∧ Below w.heap.size w w' := by
  have c1 := kp (fun w' => Tag_any (str K) t (by rw [str_size]; omega) ht w')
  rw [bs_str] at c1
  have hcl := key_cells _ (macD_length K (bs t))
  generalize macD K (bs t) = E at c1 hcl ⊢
  obtain ⟨ZL, hZL⟩ : ∃ ZL : List UInt8, List.replicate 32 0 = ZL := ⟨_, rfl⟩
  have h0 := (Blk.new w 23 (cellsU8 K).toArray).alloc (.cells (cellsU8 (List.replicate 32 0)).toArray 23)
  have h1 := kp (Blk.new (w.alloc (.cells (cellsU8 K).toArray 23)) 23 (cellsU8 (List.replicate 32 0)).toArray)
  have hb0 := kp (ba (ba (Below.refl w.heap.size w) (.cells (cellsU8 K).toArray 23)) (.cells (cellsU8 (List.replicate 32 0)).toArray 23))
  rw [size_all] at h1
  have hcv := fun o => blk_str (P := Try.prog) 44 (e := 5) (dst := 9) (n := 32) (cap := 32) Try.underlying44 Try.underlying5 Try.underlying9 ((Blk.new w 23 (cellsU8 K).toArray).alloc o) hK
  clear ht hK h0
  go_enter Try.func40, Try.ntmps40
  go_wp2_with fail
  refine (c1.out _).mono ?_
  rintro e w2 ⟨rfl, hb2⟩
  have h2 := h1.out.bel hb2
  rw [hZL] at h2
  have SC := sc_all (P := Try.prog) (w := w2) (w.heap.size + 1) 23 (cellsU8 E) _ h2 (by rw [hcl, length_cellsU8, ← hZL, List.length_replicate]) (cellsU8_one _)
  have HX := kp (h2.row (cellsU8 E).toArray)
  have HBX := kp (bsr (bt' hb0.out hb2 hb0.out.size) (Nat.le_succ w.heap.size) (bt' hb0.out hb2 hb0.out.size).size (cellsU8 E).toArray)
  have HL := kp hcl
  clear h1 h2 hb2 hb0 hcv hZL
  generalize hY : w2.setRow (w.heap.size + 1) (cellsU8 E).toArray = Z at SC HX HBX
  clear hY
  go_wp2
  refine bodyPost_ret (v := .agg (cellsU8 E).toArray) ?_ rfl ⟨rfl, HBX.out⟩
  exact res_all Try.results40 (w.heap.size + 1) 32 _ (cellsU8 E) _ Try.underlying23 rfl info_key HL.out HX.out _ rfl

/-- is a tag right? -/
def rightB (k t g : List UInt8) : Bool := decide (8 ≤ g.length) && decide (g.length ≤ 32) && ((macD k t).take g.length == g)
theorem rightB_no {k t g : List UInt8} (h : g.length < 8 ∨ 32 < g.length) : rightB k t g = false := by
  unfold rightB
  rcases h with h | h
  · simp [show ¬ 8 ≤ g.length by omega]
  · simp [show ¬ g.length ≤ 32 by omega]
theorem rightB_in {k t g : List UInt8} (h : 8 ≤ g.length) (h2 : g.length ≤ 32) : rightB k t g = ((macD k t).take g.length == g) := by
  unfold rightB; simp [h, h2]

end Go.Proofs.Ytfmfdhcmbnabpaa
