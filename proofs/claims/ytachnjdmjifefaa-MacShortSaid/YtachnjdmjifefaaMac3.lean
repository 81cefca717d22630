/- mac: Tag, Of, Short, Right. -/
import Derived.Test.YtachnjdmjifefaaMac2
import Derived.Test.YtachnjdmjifefaaOct3
namespace Go.Proofs.Ytachnjdmjifefaa
open Go Go.RowKit
set_option linter.unusedVariables false
set_option linter.unusedSimpArgs false
attribute [local go_sem] bmax2 bmin2 bmax bmin cell_ext frozen_ext

/-- a key's beginning as a slice -/
theorem slice_hi (b N : Nat) (hN : N ≤ 32) (W : World) : (Instr.sliceAt 24 (.pointer (some ⟨b, 0, none⟩)) none (some (.int .i64 (N : Int))) none).run Try.prog W = .ok (.slice (some ⟨b, 0, none⟩) N 32) W := by
  have h1 : (0 : Int) ≤ (N : Int) := by omega
  have h2 : (N : Int) ≤ ((32 : Nat) : Int) := by omega
  have h4 : (Try.prog.info? 5).map (·.size) = some 1 := by kernel_rfl
  have hl : Try.prog.arrayLen 24 = 32 := by kernel_rfl
  have he : Try.prog.elem 24 = 5 := by kernel_rfl
  have hu : Try.prog.underlying 24 = some (.array (Try.prog.arrayLen 24) (Try.prog.elem 24)) := by kernel_rfl
  rw [run_sliceAt_array_h W 24 ⟨b, 0, none⟩ hu .i64 _ h1 (by rw [hl]; exact h2), hl, he]
  cases hq : Try.prog.info? 5 with
  | none => simp [hq] at h4
  | some i =>
    have hs : i.size = 1 := by simpa [hq] using h4
    simp [sizeOf, typeInfo, hq, hs, slicedAt, addr_add]
/-- .. made a text -/
theorem blk_strN {P : Program} {w : World} {g n cap : Nat} {T : TypeId} {l : List UInt8} (src : TypeId) {e dst : TypeId} (hs : P.underlying src = some (.slice e)) (he : P.underlying e = some (.int .u8)) (hd : P.underlying dst = some .string)
    (h : Blk w g T (cellsU8 l).toArray) (hl : n ≤ l.length) : (Go.convert src dst (.slice (some ⟨g, 0, none⟩) n cap)).run P w = .ok (.string (str (l.take n))) w := by
  have := run_convert_bytes_arg w src e hs he g 0 n cap ((l.take n).map fun c => (c.toNat : Int)) (by simp; omega) (fun i hi => by
    rw [Nat.zero_add]
    rw [h.atL (cellsU8_get l i (by omega))]
    have h2 : i < (l.take n).length := by simp; omega
    simp [List.getD_eq_getElem?_getD, List.getElem?_eq_getElem h2, List.getElem?_eq_getElem (show i < l.length by omega), hi, List.getElem?_take]) dst hd
  rw [strNums] at this
  exact this

set_option maxHeartbeats 1000000 in
set_option maxRecDepth 100000 in
theorem Tag_any (key t : ByteArray) (hk : key.size ≤ 1099511627) (ht : t.size ≤ 1099511627) (w : World) :
    Calls Try.prog 29 #[.string key, .string t] w fun e w' => e = .returned (.agg (cellsU8 (macD (bs key) (bs t))).toArray) ∧ Below w.heap.size w w' := by
  have c1 := kp (fun w' => With_any key hk w')
  have c2 := kp (fun b5 b6 w' h => Made_any (bs key) t b5 b6 w' h ht)
  have hcl := key_cells _ (macD_length (bs key) (bs t))
  generalize macD (bs key) (bs t) = E at c2 hcl ⊢
  obtain ⟨ZL, hZL⟩ : ∃ ZL : List UInt8, List.replicate 32 0 = ZL := ⟨_, rfl⟩
  have h0 := kp (Blk.new w 24 (cellsU8 (List.replicate 32 0)).toArray)
  have hb0 := kp (ba (Below.refl w.heap.size w) (.cells (cellsU8 (List.replicate 32 0)).toArray 24))
  clear hk ht
  go_enter Try.func29, Try.ntmps29
  go_wp2_with fail
  refine (c1.out _).mono ?_
  rintro e w1 ⟨b5, b6, rfl, hm, hb1⟩
  unfold makerV
  have h1 := kp (h0.out.bel hb1)
  have hbb := kp (bt' hb0.out hb1 hb0.out.size)
  have HM := kp hm
  clear hb1 hm h0 hb0
  rw [hZL] at h1
  have HZL := kp hZL
  clear hZL
  go_wp2_with fail
  refine (c2.out _ _ _ HM.out).mono ?_
  rintro e w2 ⟨rfl, hb2⟩
  have h2 := h1.out.bel hb2
  have SC := sc_all (P := Try.prog) (w := w2) w.heap.size 24 (cellsU8 E) _ h2 (by rw [hcl, length_cellsU8, ← HZL.out, List.length_replicate]) (cellsU8_one _)
  have HX := kp (h2.row (cellsU8 E).toArray)
  have HBX := kp (bsr (bt' hbb.out hb2 hbb.out.size) (Nat.le_refl w.heap.size) (bt' hbb.out hb2 hbb.out.size).size (cellsU8 E).toArray)
  have HL := kp hcl
  clear h1 h2 hb2 hbb HM
  generalize hY : w2.setRow w.heap.size (cellsU8 E).toArray = Z at SC HX HBX
  clear hY
  go_wp2
  refine bodyPost_ret (v := .agg (cellsU8 E).toArray) ?_ rfl ⟨rfl, HBX.out⟩
  exact res_all Try.results29 w.heap.size 32 _ (cellsU8 E) _ Try.underlying24 rfl info_key HL.out HX.out _ rfl

set_option maxHeartbeats 1000000 in
set_option maxRecDepth 100000 in
theorem Of_any (K : List UInt8) (t : ByteArray) (hK : K.length = 32) (ht : t.size ≤ 1099511627) (w : World) :
    Calls Try.prog 31 #[.agg (cellsU8 K).toArray, .string t] w fun e w' => e = .returned (.agg (cellsU8 (macD K (bs t))).toArray) ∧ Below w.heap.size w w' := by
  have c1 := kp (fun w' => Tag_any (str K) t (by rw [str_size]; omega) ht w')
  rw [bs_str] at c1
  have hcl := key_cells _ (macD_length K (bs t))
  generalize macD K (bs t) = E at c1 hcl ⊢
  obtain ⟨ZL, hZL⟩ : ∃ ZL : List UInt8, List.replicate 32 0 = ZL := ⟨_, rfl⟩
  have h0 := (Blk.new w 24 (cellsU8 K).toArray).alloc (.cells (cellsU8 (List.replicate 32 0)).toArray 24)
  have h1 := kp (Blk.new (w.alloc (.cells (cellsU8 K).toArray 24)) 24 (cellsU8 (List.replicate 32 0)).toArray)
  have hb0 := kp (ba (ba (Below.refl w.heap.size w) (.cells (cellsU8 K).toArray 24)) (.cells (cellsU8 (List.replicate 32 0)).toArray 24))
  rw [size_all] at h1
  have hcv := fun o => blk_str (P := Try.prog) 42 (e := 5) (dst := 9) (n := 32) (cap := 32) Try.underlying42 Try.underlying5 Try.underlying9 ((Blk.new w 24 (cellsU8 K).toArray).alloc o) hK
  clear ht hK h0
  go_enter Try.func31, Try.ntmps31
  go_wp2_with fail
  refine (c1.out _).mono ?_
  rintro e w2 ⟨rfl, hb2⟩
  have h2 := h1.out.bel hb2
  rw [hZL] at h2
  have SC := sc_all (P := Try.prog) (w := w2) (w.heap.size + 1) 24 (cellsU8 E) _ h2 (by rw [hcl, length_cellsU8, ← hZL, List.length_replicate]) (cellsU8_one _)
  have HX := kp (h2.row (cellsU8 E).toArray)
  have HBX := kp (bsr (bt' hb0.out hb2 hb0.out.size) (Nat.le_succ w.heap.size) (bt' hb0.out hb2 hb0.out.size).size (cellsU8 E).toArray)
  have HL := kp hcl
  clear h1 h2 hb2 hb0 hcv hZL
  generalize hY : w2.setRow (w.heap.size + 1) (cellsU8 E).toArray = Z at SC HX HBX
  clear hY
  go_wp2
  refine bodyPost_ret (v := .agg (cellsU8 E).toArray) ?_ rfl ⟨rfl, HBX.out⟩
  exact res_all Try.results31 (w.heap.size + 1) 32 _ (cellsU8 E) _ Try.underlying24 rfl info_key HL.out HX.out _ rfl

set_option maxHeartbeats 1000000 in
set_option maxRecDepth 100000 in
theorem Short_any (key t : ByteArray) (n : Int) (N : Nat) (hN : min (max n 0) 32 = (N : Int)) (hk : key.size ≤ 1099511627) (ht : t.size ≤ 1099511627) (w : World) :
    Calls Try.prog 33 #[.string key, .string t, .int .i64 n] w fun e w' => e = .returned (.string (str ((macD (bs key) (bs t)).take N))) ∧ Below w.heap.size w w' := by
  have c1 := kp (fun w' => Tag_any key t hk ht w')
  have hel := macD_length (bs key) (bs t)
  have hcl := key_cells _ hel
  generalize macD (bs key) (bs t) = E at c1 hcl hel ⊢
  have hN2 : N ≤ 32 := by omega
  clear ht hk
  go_enter Try.func33, Try.ntmps33
  go_wp2_with fail
  refine (c1.out _).mono ?_
  rintro e w1 ⟨rfl, hb1⟩
  have SC := fun (cur : Array Value) (h : cur.size = 32) => sc_new (P := Try.prog) w1 24 (cellsU8 E) (cellsU8_one _) cur (by rw [hcl]; exact h)
  have hcv := blk_strN (P := Try.prog) 42 (e := 5) (dst := 9) (n := N) (cap := 32) Try.underlying42 Try.underlying5 Try.underlying9 (Blk.new w1 24 (cellsU8 E).toArray) (by rw [hel]; exact hN2)
  have hsl := slice_hi w1.heap.size N hN2
  have HB := kp (ba hb1 (.cells (cellsU8 E).toArray 24))
  clear hb1 hel
  go_wp2
  go_ret
  exact ⟨rfl, HB.out⟩

/-- is a tag right? -/
def rightB (k t g : List UInt8) : Bool := decide (8 ≤ g.length) && decide (g.length ≤ 32) && ((macD k t).take g.length == g)
theorem rightB_no {k t g : List UInt8} (h : g.length < 8 ∨ 32 < g.length) : rightB k t g = false := by
  unfold rightB
  rcases h with h | h
  · simp [show ¬ 8 ≤ g.length by omega]
  · simp [show ¬ g.length ≤ 32 by omega]
theorem rightB_in {k t g : List UInt8} (h : 8 ≤ g.length) (h2 : g.length ≤ 32) : rightB k t g = ((macD k t).take g.length == g) := by
  unfold rightB; simp [h, h2]

set_option maxHeartbeats 1000000 in
set_option maxRecDepth 100000 in
theorem Right_any (key t g : ByteArray) (hk : key.size ≤ 1099511627) (ht : t.size ≤ 1099511627) (hg : g.size ≤ 1099511627) (w : World) :
    Calls Try.prog 35 #[.string key, .string t, .string g] w fun e w' => e = .returned (.bool (rightB (bs key) (bs t) (bs g))) ∧ Below w.heap.size w w' := by
  have hgl : (bs g).length = g.size := size_bs g
  by_cases h1 : g.size < 8
  · rw [rightB_no (Or.inl (by omega))]
    have h1' : ¬ (8 : Int) ≤ (g.size : Int) := by omega
    clear hgl
    go_enter Try.func35, Try.ntmps35
    go_wp2
    go_ret
    exact ⟨rfl, Below.refl _ _⟩
  by_cases h2 : 32 < g.size
  · rw [rightB_no (Or.inr (by omega))]
    have h1' : (8 : Int) ≤ (g.size : Int) := by omega
    have h2' : ¬ (g.size : Int) ≤ 32 := by omega
    clear hgl
    go_enter Try.func35, Try.ntmps35
    go_wp2
    go_ret
    exact ⟨rfl, Below.refl _ _⟩
  rw [rightB_in (by omega) (by omega), hgl]
  have c1 := kp (fun w' => Short_any key t (g.size : Int) g.size (by omega) hk ht w')
  have hsz : (str ((macD (bs key) (bs t)).take g.size)).size ≤ 64 := by rw [str_size, List.length_take]; omega

  have heq : ((str ((macD (bs key) (bs t)).take g.size)).toList == g.toList) = ((macD (bs key) (bs t)).take g.size == bs g) := by rw [toList_bs, toList_bs, bs_str]
  generalize str ((macD (bs key) (bs t)).take g.size) = X at c1 hsz heq
  rw [← heq]
  have h1' : (8 : Int) ≤ (g.size : Int) := by omega
  have h2' : (g.size : Int) ≤ 32 := by omega
  clear hgl heq hk ht
  go_enter Try.func35, Try.ntmps35
  go_wp2_with fail
  refine (c1.out _).mono ?_
  rintro e w1 ⟨rfl, hb1⟩
  have HB := kp hb1
  clear hb1
  go_wp2_with fail
  refine (octet_Same_any X g _ (by omega) (by omega)).mono ?_
  rintro e w2 ⟨rfl, m, rfl⟩
  go_wp2
  go_ret
  exact ⟨rfl, bd HB.out m⟩
end Go.Proofs.Ytachnjdmjifefaa
