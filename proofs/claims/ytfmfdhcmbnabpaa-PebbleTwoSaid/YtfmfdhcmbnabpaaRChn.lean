/- the reference's chain. -/
import Derived.Test.YtfmfdhcmbnabpaaChn3
namespace Go.Proofs.Ytfmfdhcmbnabpaa
open Go Go.RowKit
set_option linter.unusedVariables false
set_option linter.unusedSimpArgs false
attribute [local go_sem] bmax2 bmin2 bmax bmin cell_ext frozen_ext

theorem R_Sum_l (K : List UInt8) (hK : K.length = 32) (w : World) : Calls Try.prog 27 #[.string (str K)] w fun e w' => e = .returned (.agg (cellsU8 (digest K)).toArray) ∧ Below w.heap.size w w' := R_Sum K (by omega) w

set_option maxHeartbeats 1000000 in
set_option maxRecDepth 100000 in
theorem R_Key_bad (K : List UInt8) (hK : K.length = 32) (n i : Int) (h : n < 1 ∨ 1024 < n ∨ i < 0 ∨ n < i) (w : World) :
    Calls Try.prog 17 #[.agg (cellsU8 K).toArray, .int .i64 n, .int .i64 i] w fun e w' => e = .returned (.tuple #[.agg (cellsU8 zeroK).toArray, .int .i64 1]) ∧ Below w.heap.size w w' := by
  have hcase : n < 1 ∨ (¬ n < 1 ∧ 1024 < n) ∨ (¬ n < 1 ∧ ¬ 1024 < n ∧ i < 0) ∨ (¬ n < 1 ∧ ¬ 1024 < n ∧ ¬ i < 0 ∧ n < i) := by omega
  clear h
  have hz : (cellsU8 zeroK).length = 32 := zeroK_c
  obtain ⟨Z, hZ⟩ : ∃ Z, cellsU8 zeroK = Z := ⟨_, rfl⟩
  rw [hZ] at hz ⊢
  have h1 : Kp (∀ v ∈ Z, v.oneCell' = true) := kp (by rw [← hZ]; exact cellsU8_one _)
  have HB := kp (ba (ba (Below.refl w.heap.size w) (.cells (cellsU8 K).toArray 23)) (.cells Z.toArray 23))
  have HN := kp (Blk.new (w.alloc (.cells (cellsU8 K).toArray 23)) 23 Z.toArray)
  rw [size_all] at HN
  have SC := fun (o : Obj) (cur : Array Value) (h : cur.size = 32) => sc_newS (P := Try.prog) w 23 Z h1.out o cur (by rw [hz]; exact h)
  have HZ := kp hz
  have HZZ := kp hZ
  clear hZ
  rcases hcase with h | ⟨h, h2⟩ | ⟨h, h2, h3⟩ | ⟨h, h2, h3, h4⟩
  all_goals
    go_enter Try.func17, Try.ntmps17
    go_wp2_with (refine wpL_val 25 rfl rfl (.agg Z.toArray) (by rw [← HZZ.out]; kernel_rfl) ?_)
    refine bodyPost_ret (v := .tuple #[.agg Z.toArray, .int .i64 1]) ?_ rfl ⟨rfl, HB.out⟩
    exact res2 Try.results17 (w.heap.size + 1) 32 _ Z _ Try.underlying23 rfl info_key HZ.out HN.out _ rfl _ rfl

set_option maxHeartbeats 1000000 in
set_option maxRecDepth 100000 in
theorem R_Key_good (K : List UInt8) (hK : K.length = 32) (n i : Int) (D : Nat) (h1 : 1 ≤ n) (h2 : n ≤ 1024) (h3 : 0 ≤ i) (h4 : i ≤ n) (hD : n - i = (D : Int)) (w : World) :
    Calls Try.prog 17 #[.agg (cellsU8 K).toArray, .int .i64 n, .int .i64 i] w fun e w' => e = .returned (.tuple #[.agg (cellsU8 (chK K D)).toArray, .int .i64 0]) ∧ Below w.heap.size w w' := by
  have c1 : Kp (∀ w', Calls Try.prog 20 #[.agg (cellsU8 K).toArray, .string ⟨#[99, 104, 97, 105, 110]⟩] w' fun e w'' => e = .returned (.agg (cellsU8 (macD K chS)).toArray) ∧ Below w'.heap.size w' w'') := kp (fun w' => R_Of K ⟨#[99, 104, 97, 105, 110]⟩ hK (by decide) w')
  have hfl := macD_length K chS
  have HCK : Kp (chK K D = walkD (macD K chS) D) := kp rfl
  generalize macD K chS = F at c1 hfl HCK
  have hcf := key_cells _ hfl
  have HFL := kp hfl
  have HN := kp (Blk.new (w.alloc (.cells (cellsU8 K).toArray 23)) 23 (cellsU8 (List.replicate 32 0)).toArray)
  have HB := kp (ba (ba (Below.refl w.heap.size w) (.cells (cellsU8 K).toArray 23)) (.cells (cellsU8 (List.replicate 32 0)).toArray 23))
  rw [size_all] at HN
  have LD := fun o => ldK K hK ((Blk.new w 23 (cellsU8 K).toArray).alloc o)
  clear hK hfl
  go_enter Try.func17, Try.ntmps17
  go_wp2_with (refine wpL_load rfl 23 _ rfl rfl (LD _) ?_)
  clear LD
  obtain ⟨Z, hZ⟩ : ∃ Z : List UInt8, List.replicate 32 0 = Z := ⟨_, rfl⟩
  have hzl : Z.length = 32 := by rw [← hZ]; rfl
  have HZL := kp hzl
  refine (c1.out _).mono ?_
  rintro e w1 ⟨rfl, hb1⟩
  have SC := fun (cur : Array Value) (h : cur.size = 32) => sc_new (P := Try.prog) w1 23 (cellsU8 F) (cellsU8_one _) cur (by rw [hcf]; exact h)
  have HN1 := kp ((HN.out.bel hb1).alloc (.cells (cellsU8 F).toArray 23))
  have HF : Kp (Blk (w1.alloc (.cells (cellsU8 F).toArray 23)) w1.heap.size 23 (cellsU8 (walkD F 0)).toArray) := kp (Blk.new w1 23 (cellsU8 F).toArray)
  have HB1 := kp (ba (bt' HB.out hb1 HB.out.size) (.cells (cellsU8 F).toArray 23))
  rw [hZ] at HN1
  have hlt1 : w.heap.size + 1 < w1.heap.size := (HN.out.bel hb1).lt
  clear hb1 HN HB hZ hzl
  go_upto_region 4 with (fail)
  clear SC hcf
  generalize w1.alloc (.cells (cellsU8 F).toArray 23) = W at HN1 HF HB1 ⊢
  generalize w1.heap.size = b8 at HF hlt1 ⊢
  have hDD := kp hD
  clear hD
  have hLT := kp hlt1
  clear hlt1
  go_wp2
  go_loopw [9] (fun x wr => ∃ j : Nat, j ≤ D ∧ x = .int .i64 (n - (j : Int)) ∧ Kp (Blk wr (w.heap.size + 1) 23 (cellsU8 Z).toArray) ∧ Kp (Blk wr b8 23 (cellsU8 (walkD F j)).toArray) ∧ Kp (Below w.heap.size w wr)) (fun x _ => (intOf x - i).toNat)
  case atStart => exact ⟨0, Nat.zero_le _, by simp, HN1, HF, HB1⟩
  case round =>
    clear HN1 HF HB1
    obtain ⟨j, hj, rfl, HN, HF, HB⟩ := hrel
    have hwl := walkD_length F HFL.out j
    have hdd := hDD.out
    by_cases hlt : j < D
    · have i1 : i < n - (j : Int) := by omega
      have i2 : n - (j : Int) ≤ 1024 := by omega
      have i3 : 0 ≤ n - (j : Int) := by omega
      have hcv := blk_str (P := Try.prog) 44 (e := 5) (dst := 9) (n := 32) (cap := 32) Try.underlying44 Try.underlying5 Try.underlying9 HF.out hwl
      have SU := kp (fun w' => R_Sum_l (walkD F j) hwl w')
      have hdl := digest_length (walkD F j)
      have HS : Kp (walkD F (j + 1) = digest (walkD F j)) := kp rfl
      have HWL := kp hwl
      generalize digest (walkD F j) = E at SU hdl HS
      have hcl := key_cells E hdl
      clear hdl hwl
      clear hdd
      go_wp2_with fail
      refine (SU.out _).mono ?_
      rintro e w2 ⟨rfl, hb2⟩
      have SC := sc_all (P := Try.prog) (w := w2) b8 23 (cellsU8 E) _ (HF.out.bel hb2) (by rw [hcl, length_cellsU8, HWL.out]) (cellsU8_one _)
      have HX := kp ((HF.out.bel hb2).row (cellsU8 E).toArray)
      have HX1 := kp ((HN.out.bel hb2).rowfar (b := b8) (by have := hLT.out; omega) (cellsU8 E).toArray)
      have hbx := bt' HB.out hb2 HB.out.size
      have HBX := kp (bsr hbx (show w.heap.size ≤ b8 by have := hLT.out; omega) hbx.size (cellsU8 E).toArray)
      clear hb2 hbx HN HF HB
      generalize hY : w2.setRow b8 (cellsU8 E).toArray = Y at SC HX HX1 HBX
      clear hY hcv
      go_wp2
      go_roundw
      case measure => simp [intOf]; omega
      case rel => exact ⟨j + 1, by omega, by congr 1; omega, HX1, by rw [HS.out]; exact HX, HBX⟩
    · obtain rfl : j = D := by omega
      have i1 : ¬ i < n - (j : Int) := by omega
      have hcl := key_cells _ hwl
      rw [← HCK.out] at HF hcl hwl
      obtain ⟨E, hE⟩ : ∃ E, chK K j = E := ⟨_, rfl⟩
      rw [hE] at HF hcl hwl
      have HEE := kp hE
      clear hE
      have LD := ldK E hwl HF.out
      have SC := sc_all (P := Try.prog) (w := wr) (w.heap.size + 1) 23 (cellsU8 E) _ HN.out (by rw [hcl, length_cellsU8, HZL.out]) (cellsU8_one _)
      have HX := kp (HN.out.row (cellsU8 E).toArray)
      have HBX := kp (bsr HB.out (Nat.le_succ w.heap.size) HB.out.size (cellsU8 E).toArray)
      have HL := kp hcl
      clear hdd HN HF HB hwl
      generalize hY : wr.setRow (w.heap.size + 1) (cellsU8 E).toArray = Y at SC HX HBX
      clear hY
      go_wp2_with (refine wpL_load rfl 23 _ rfl rfl LD ?_)
      refine bodyPost_ret (v := .tuple #[.agg (cellsU8 E).toArray, .int .i64 0]) ?_ rfl ⟨by rw [HEE.out], HBX.out⟩
      exact res2 Try.results17 (w.heap.size + 1) 32 _ _ _ Try.underlying23 rfl info_key HL.out HX.out _ rfl _ rfl
set_option maxHeartbeats 1000000 in
set_option maxRecDepth 100000 in
theorem R_Tell_bad (K : List UInt8) (a i : Int) (hK : K.length = 32) (h : i < 0 ∨ a < i) (w : World) :
    Calls Try.prog 25 #[.agg (cellsU8 K).toArray, .int .i64 a, .int .i64 i] w fun e w' => e = .returned (.tuple #[.agg (cellsU8 zeroK).toArray, .int .i64 1]) ∧ Below w.heap.size w w' := by
  have hcase : i < 0 ∨ (¬ i < 0 ∧ a < i) := by omega
  clear h
  have hz : (cellsU8 zeroK).length = 32 := zeroK_c
  obtain ⟨Z, hZ⟩ : ∃ Z, cellsU8 zeroK = Z := ⟨_, rfl⟩
  rw [hZ] at hz ⊢
  have h1 : Kp (∀ v ∈ Z, v.oneCell' = true) := kp (by rw [← hZ]; exact cellsU8_one _)
  have HB := kp (ba (ba (Below.refl w.heap.size w) (.cells (cellsU8 K).toArray 23)) (.cells Z.toArray 23))
  have HN := kp (Blk.new (w.alloc (.cells (cellsU8 K).toArray 23)) 23 Z.toArray)
  rw [size_all] at HN
  have SC := fun (o : Obj) (cur : Array Value) (h : cur.size = 32) => sc_newS (P := Try.prog) w 23 Z h1.out o cur (by rw [hz]; exact h)
  have HZ := kp hz
  have HZZ := kp hZ
  clear hZ hK
  rcases hcase with h | ⟨h, h2⟩
  all_goals
    go_enter Try.func25, Try.ntmps25
    go_wp2_with (refine wpL_val 15 rfl rfl (.agg Z.toArray) (by rw [← HZZ.out]; kernel_rfl) ?_)
    refine bodyPost_ret (v := .tuple #[.agg Z.toArray, .int .i64 1]) ?_ rfl ⟨rfl, HB.out⟩
    exact res2 Try.results25 (w.heap.size + 1) 32 _ Z _ Try.underlying23 rfl info_key HZ.out HN.out _ rfl _ rfl

set_option maxHeartbeats 1000000 in
set_option maxRecDepth 100000 in
theorem R_Tell_good (K : List UInt8) (a i : Int) (hK : K.length = 32) (h1 : 0 ≤ i) (h2 : i ≤ a) (ha : a ≤ 9223372036854775807) (D : Nat) (hD : min (a - i) 4096 = (D : Int)) (w : World) :
    Calls Try.prog 25 #[.agg (cellsU8 K).toArray, .int .i64 a, .int .i64 i] w fun e w' => e = .returned (.tuple #[.agg (cellsU8 (walkD K D)).toArray, .int .i64 0]) ∧ Below w.heap.size w w' := by
  have c2 := kp (fun w' => R_Walk K hK (a - i) D (by omega) w')
  have hcl := key_cells _ (walkD_length K hK D)
  generalize walkD K D = E at c2 hcl ⊢
  obtain ⟨Z, hZ⟩ : ∃ Z : List UInt8, List.replicate 32 0 = Z := ⟨_, rfl⟩
  have hzl : Z.length = 32 := by rw [← hZ]; rfl
  have HN := kp (Blk.new (w.alloc (.cells (cellsU8 K).toArray 23)) 23 (cellsU8 (List.replicate 32 0)).toArray)
  have HB := kp (ba (ba (Below.refl w.heap.size w) (.cells (cellsU8 K).toArray 23)) (.cells (cellsU8 (List.replicate 32 0)).toArray 23))
  rw [size_all] at HN
  have LD := fun o => ldK K hK ((Blk.new w 23 (cellsU8 K).toArray).alloc o)
  have hb1 : 0 ≤ a - i := by omega
  have hb2 : a - i ≤ 9223372036854775807 := by omega
  clear hK hD
  go_enter Try.func25, Try.ntmps25
  go_wp2_with (refine wpL_load rfl 23 _ rfl rfl (LD _) ?_)
  clear LD
  refine (c2.out _).mono ?_
  rintro e w2 ⟨rfl, hb2⟩
  have h5 := HN.out.bel hb2
  rw [hZ] at h5
  have hb := bt' HB.out hb2 HB.out.size
  have SC := sc_all (P := Try.prog) (w := w2) (w.heap.size + 1) 23 (cellsU8 E) _ h5 (by rw [hcl, length_cellsU8, hzl]) (cellsU8_one _)
  have HX := kp (h5.row (cellsU8 E).toArray)
  have HBX := kp (bsr hb (Nat.le_succ w.heap.size) hb.size (cellsU8 E).toArray)
  have HL := kp hcl
  clear HN HB hb2 h5 hb hzl hZ
  generalize hY : w2.setRow (w.heap.size + 1) (cellsU8 E).toArray = Y at SC HX HBX
  clear hY
  go_wp2
  refine bodyPost_ret (v := .tuple #[.agg (cellsU8 E).toArray, .int .i64 0]) ?_ rfl ⟨rfl, HBX.out⟩
  exact res2 Try.results25 (w.heap.size + 1) 32 _ _ _ Try.underlying23 rfl info_key HL.out HX.out _ rfl _ rfl

set_option maxHeartbeats 1000000 in
set_option maxRecDepth 100000 in
theorem R_Check_arg (K k : List UInt8) (a i most : Int) (h : a < 0 ∨ i < 0 ∨ i ≤ a) (w : World) :
    Calls Try.prog 26 #[.agg (cellsU8 K).toArray, .int .i64 a, .agg (cellsU8 k).toArray, .int .i64 i, .int .i64 most] w fun e w' => e = .returned (.int .i64 1) ∧ Below w.heap.size w w' := by
  have hcase : a < 0 ∨ (¬ a < 0 ∧ i < 0) ∨ (¬ a < 0 ∧ ¬ i < 0 ∧ i ≤ a) := by omega
  clear h
  have HB := kp (ba (ba (Below.refl w.heap.size w) (.cells (cellsU8 K).toArray 23)) (.cells (cellsU8 k).toArray 23))
  rcases hcase with h | ⟨h, h2⟩ | ⟨h, h2, h3⟩
  all_goals
    go_enter Try.func26, Try.ntmps26
    go_wp2
    go_ret
    exact ⟨rfl, HB.out⟩
set_option maxHeartbeats 1000000 in
set_option maxRecDepth 100000 in
theorem R_Check_far (K k : List UInt8) (a i most : Int) (h0 : 0 ≤ a) (h1 : a < i) (hi : i ≤ 9223372036854775807) (h : min most 1024 < i - a) (w : World) :
    Calls Try.prog 26 #[.agg (cellsU8 K).toArray, .int .i64 a, .agg (cellsU8 k).toArray, .int .i64 i, .int .i64 most] w fun e w' => e = .returned (.int .i64 16) ∧ Below w.heap.size w w' := by
  have hcase : most < i - a ∨ (¬ most < i - a ∧ 1024 < i - a) := by omega
  have hb1 : 0 ≤ i - a := by omega
  have hb2 : i - a ≤ 9223372036854775807 := by omega
  have g1 : ¬ a < 0 := by omega
  have g2 : ¬ i < 0 := by omega
  have g3 : ¬ i ≤ a := by omega
  clear h
  have HB := kp (ba (ba (Below.refl w.heap.size w) (.cells (cellsU8 K).toArray 23)) (.cells (cellsU8 k).toArray 23))
  rcases hcase with h | ⟨h, h2⟩
  all_goals
    go_enter Try.func26, Try.ntmps26
    go_wp2
    go_ret
    exact ⟨rfl, HB.out⟩
set_option maxHeartbeats 1000000 in
set_option maxRecDepth 100000 in
theorem R_Check_near (K k : List UInt8) (a i most : Int) (D : Nat) (hK : K.length = 32) (hk : k.length = 32) (h0 : 0 ≤ a) (h1 : a < i) (hi : i ≤ 9223372036854775807) (hD : i - a = (D : Int)) (h : i - a ≤ min most 1024) (w : World) :
    Calls Try.prog 26 #[.agg (cellsU8 K).toArray, .int .i64 a, .agg (cellsU8 k).toArray, .int .i64 i, .int .i64 most] w fun e w' => e = .returned (.int .i64 (learnE K (walkD k D))) ∧ Below w.heap.size w w' := by
  have hb1 : 0 ≤ i - a := by omega
  have hb2 : i - a ≤ 1024 := by omega
  have g1 : ¬ a < 0 := by omega
  have g2 : ¬ i < 0 := by omega
  have g3 : ¬ i ≤ a := by omega
  have g4 : ¬ most < i - a := by omega
  have g5 : ¬ 1024 < i - a := by omega
  have H5 := kp ((Blk.new w 23 (cellsU8 K).toArray).alloc (.cells (cellsU8 k).toArray 23))
  have H7 : Kp (Blk ((w.alloc (.cells (cellsU8 K).toArray 23)).alloc (.cells (cellsU8 k).toArray 23)) (w.heap.size + 1) 23 (cellsU8 (walkD k 0)).toArray) := kp (by
    have := Blk.new (w.alloc (.cells (cellsU8 K).toArray 23)) 23 (cellsU8 k).toArray
    rw [size_all] at this; exact this)
  have HB := kp (ba (ba (Below.refl w.heap.size w) (.cells (cellsU8 K).toArray 23)) (.cells (cellsU8 k).toArray 23))
  have HKK := kp hk
  have HK := kp hK
  have hDD := kp hD
  clear hk hK hD
  go_enter Try.func26, Try.ntmps26
  go_wp2
  go_loopw [3] (fun x wr => ∃ j : Nat, j ≤ D ∧ x = .int .i64 (i - (j : Int)) ∧ Kp (Blk wr w.heap.size 23 (cellsU8 K).toArray) ∧ Kp (Blk wr (w.heap.size + 1) 23 (cellsU8 (walkD k j)).toArray) ∧ Kp (Below w.heap.size w wr)) (fun x _ => (intOf x - a).toNat)
  case atStart => exact ⟨0, Nat.zero_le _, by simp, H5, H7, HB⟩
  case round =>
    clear H5 H7 HB
    obtain ⟨j, hj, rfl, H5, H7, HB⟩ := hrel
    have hwl := walkD_length k HKK.out j
    have hdd := hDD.out
    by_cases hlt : j < D
    · have i1 : a < i - (j : Int) := by omega
      have i2 : i - (j : Int) ≤ 9223372036854775807 := by omega
      have i3 : 0 ≤ i - (j : Int) := by omega
      have hcv := blk_str (P := Try.prog) 44 (e := 5) (dst := 9) (n := 32) (cap := 32) Try.underlying44 Try.underlying5 Try.underlying9 H7.out hwl
      have SU := kp (fun w' => R_Sum_l (walkD k j) hwl w')
      have hdl := digest_length (walkD k j)
      have HS : Kp (walkD k (j + 1) = digest (walkD k j)) := kp rfl
      have HWL := kp hwl
      generalize digest (walkD k j) = E at SU hdl HS
      have hcl := key_cells E hdl
      clear hdl hwl hdd
      go_wp2_with fail
      refine (SU.out _).mono ?_
      rintro e w2 ⟨rfl, hb2⟩
      have SC := sc_all (P := Try.prog) (w := w2) (w.heap.size + 1) 23 (cellsU8 E) _ (H7.out.bel hb2) (by rw [hcl, length_cellsU8, HWL.out]) (cellsU8_one _)
      have HX := kp ((H7.out.bel hb2).row (cellsU8 E).toArray)
      have HX1 := kp ((H5.out.bel hb2).rowfar (b := w.heap.size + 1) (by omega) (cellsU8 E).toArray)
      have hbx := bt' HB.out hb2 HB.out.size
      have HBX := kp (bsr hbx (Nat.le_succ w.heap.size) hbx.size (cellsU8 E).toArray)
      clear hb2 hbx H5 H7 HB
      generalize hY : w2.setRow (w.heap.size + 1) (cellsU8 E).toArray = Y at SC HX HX1 HBX
      clear hY hcv
      go_wp2
      go_roundw
      case measure => simp [intOf]; omega
      case rel => exact ⟨j + 1, by omega, by congr 1; omega, HX1, by rw [HS.out]; exact HX, HBX⟩
    · obtain rfl : j = D := by omega
      have i1 : ¬ a < i - (j : Int) := by omega
      obtain ⟨E, hE⟩ : ∃ E, walkD k j = E := ⟨_, rfl⟩
      rw [hE] at H7 hwl
      have HEE := kp hE
      have HWL := kp hwl
      have L1 := ldK E hwl H7.out
      have L2 := ldK K HK.out H5.out
      clear hE hwl hdd
      by_cases hEK : E = K
      · have hv := kp (show learnE K E = 0 from if_pos hEK)
        have HNM := kp (show (!decide (E = K)) = false by rw [decide_eq_true hEK]; rfl)
        clear hEK
        go_wp2_with (first | (refine wpL_load rfl 23 _ rfl rfl L1 ?_) | (refine wpL_load rfl 23 _ rfl rfl L2 ?_) | (refine wpL_val 43 rfl rfl (.bool false) ((exec_nek rfl rfl rfl HWL.out HK.out wr).trans (by rw [HNM.out])) ?_))
        go_ret
        exact ⟨by rw [HEE.out, hv.out]; rfl, HB.out⟩
      · have hv := kp (show learnE K E = 13 from if_neg hEK)
        have HNM := kp (show (!decide (E = K)) = true by rw [decide_eq_false hEK]; rfl)
        clear hEK
        go_wp2_with (first | (refine wpL_load rfl 23 _ rfl rfl L1 ?_) | (refine wpL_load rfl 23 _ rfl rfl L2 ?_) | (refine wpL_val 43 rfl rfl (.bool true) ((exec_nek rfl rfl rfl HWL.out HK.out wr).trans (by rw [HNM.out])) ?_))
        go_ret
        exact ⟨by rw [HEE.out, hv.out]; rfl, HB.out⟩
end Go.Proofs.Ytfmfdhcmbnabpaa
