/- chain: Key, Known, Tagger, Next. -/
import Derived.Test.YtfmfdhcmbnabpaaChn0
namespace Go.Proofs.Ytfmfdhcmbnabpaa
open Go Go.RowKit
set_option linter.unusedVariables false
set_option linter.unusedSimpArgs false
attribute [local go_sem] bmax2 bmin2 bmax bmin cell_ext frozen_ext

def zeroK : List UInt8 := List.replicate 32 0
theorem zeroK_length : zeroK.length = 32 := rfl
theorem zeroK_c : (cellsU8 zeroK).length = 32 := rfl

set_option maxHeartbeats 1000000 in
set_option maxRecDepth 100000 in
theorem Key_bad (K : List UInt8) (hK : K.length = 32) (n i : Int) (h : n < 1 ∨ 1024 < n ∨ i < 0 ∨ n < i) (w : World) :
    Calls Try.prog 16 #[.agg (cellsU8 K).toArray, .int .i64 n, .int .i64 i] w fun e w' => e = .returned (.tuple #[.agg (cellsU8 zeroK).toArray, .int .i64 1]) ∧ Below w.heap.size w w' := by
  have hcase : n < 1 ∨ (¬ n < 1 ∧ 1024 < n) ∨ (¬ n < 1 ∧ ¬ 1024 < n ∧ i < 0) ∨ (¬ n < 1 ∧ ¬ 1024 < n ∧ ¬ i < 0 ∧ n < i) := by omega
  clear h
  have hz : (cellsU8 zeroK).length = 32 := zeroK_c
  obtain ⟨Z, hZ⟩ : ∃ Z, cellsU8 zeroK = Z := ⟨_, rfl⟩
  rw [hZ] at hz ⊢
  have h1 : Kp (∀ v ∈ Z, v.oneCell' = true) := kp (by rw [← hZ]; exact cellsU8_one _)
  have HB := kp (ba (ba (Below.refl w.heap.size w) (.cells (cellsU8 K).toArray 23)) (.cells Z.toArray 23))
  have HN := kp (Blk.new (w.alloc (.cells (cellsU8 K).toArray 23)) 23 Z.toArray)
  rw [size_all] at HN
  have SC := fun (o : Obj) (cur : Array Value) (h : cur.size = 32) => sc_newS (P := Try.prog) w 23 Z h1.out o cur (by rw [hz]; exact h)
  have HZ := kp hz
  have HZZ := kp hZ
  clear hZ
  rcases hcase with h | ⟨h, h2⟩ | ⟨h, h2, h3⟩ | ⟨h, h2, h3, h4⟩
  all_goals
    go_enter Try.func16, Try.ntmps16
    go_wp2_with (refine wpL_val 23 rfl rfl (.agg Z.toArray) (by rw [← HZZ.out]; kernel_rfl) ?_)
    refine bodyPost_ret (v := .tuple #[.agg Z.toArray, .int .i64 1]) ?_ rfl ⟨rfl, HB.out⟩
    exact res2 Try.results16 (w.heap.size + 1) 32 _ Z _ Try.underlying23 rfl info_key HZ.out HN.out _ rfl _ rfl

set_option maxHeartbeats 1000000 in
set_option maxRecDepth 100000 in
theorem Key_good (K : List UInt8) (hK : K.length = 32) (n i : Int) (D : Nat) (h1 : 1 ≤ n) (h2 : n ≤ 1024) (h3 : 0 ≤ i) (h4 : i ≤ n) (hD : n - i = (D : Int)) (w : World) :
    Calls Try.prog 16 #[.agg (cellsU8 K).toArray, .int .i64 n, .int .i64 i] w fun e w' => e = .returned (.tuple #[.agg (cellsU8 (chK K D)).toArray, .int .i64 0]) ∧ Below w.heap.size w w' := by
  have c1 : Kp (∀ w', Calls Try.prog 40 #[.agg (cellsU8 K).toArray, .string ⟨#[99, 104, 97, 105, 110]⟩] w' fun e w'' => e = .returned (.agg (cellsU8 (macD K chS)).toArray) ∧ Below w'.heap.size w' w'') := kp (fun w' => Of_any K ⟨#[99, 104, 97, 105, 110]⟩ hK (by decide) w')
  have c2 : Kp (∀ w', Calls Try.prog 39 #[.agg (cellsU8 (macD K chS)).toArray, .int .i64 (D : Int)] w' fun e w'' => e = .returned (.agg (cellsU8 (chK K D)).toArray) ∧ Below w'.heap.size w' w'') := kp (fun w' => Walk_st _ (macD_length K chS) _ D (by omega) w')
  have hcl := key_cells _ (chK_length K D)
  generalize chK K D = E at c2 hcl ⊢
  generalize macD K chS = F at c1 c2
  obtain ⟨Z, hZ⟩ : ∃ Z : List UInt8, List.replicate 32 0 = Z := ⟨_, rfl⟩
  have hzl : Z.length = 32 := by rw [← hZ]; rfl
  have HN := kp (Blk.new (w.alloc (.cells (cellsU8 K).toArray 23)) 23 (cellsU8 (List.replicate 32 0)).toArray)
  have HB := kp (ba (ba (Below.refl w.heap.size w) (.cells (cellsU8 K).toArray 23)) (.cells (cellsU8 (List.replicate 32 0)).toArray 23))
  rw [size_all] at HN
  have LD := fun o => ldK K hK ((Blk.new w 23 (cellsU8 K).toArray).alloc o)
  clear hK
  go_enter Try.func16, Try.ntmps16
  go_wp2_with (refine wpL_load rfl 23 _ rfl rfl (LD _) ?_)
  clear LD
  refine (c1.out _).mono ?_
  rintro e w1 ⟨rfl, hb1⟩
  have HN1 := kp (HN.out.bel hb1)
  have HB1 := kp (bt' HB.out hb1 HB.out.size)
  clear hb1 HN HB
  go_wp2_with fail
  refine (c2.out _).mono ?_
  rintro e w2 ⟨rfl, hb2⟩
  have h5 := HN1.out.bel hb2
  rw [hZ] at h5
  have hb := bt' HB1.out hb2 HB1.out.size
  have SC := sc_all (P := Try.prog) (w := w2) (w.heap.size + 1) 23 (cellsU8 E) _ h5 (by rw [hcl, length_cellsU8, hzl]) (cellsU8_one _)
  have HX := kp (h5.row (cellsU8 E).toArray)
  have HBX := kp (bsr hb (Nat.le_succ w.heap.size) hb.size (cellsU8 E).toArray)
  have HL := kp hcl
  clear HN1 HB1 hb2 h5 hb hzl hZ
  generalize hY : w2.setRow (w.heap.size + 1) (cellsU8 E).toArray = Y at SC HX HBX
  clear hY
  go_wp2
  refine bodyPost_ret (v := .tuple #[.agg (cellsU8 E).toArray, .int .i64 0]) ?_ rfl ⟨rfl, HBX.out⟩
  exact res2 Try.results16 (w.heap.size + 1) 32 _ _ _ Try.underlying23 rfl info_key HL.out HX.out _ rfl _ rfl

set_option maxHeartbeats 1000000 in
set_option maxRecDepth 100000 in
/-- Known is Key at 0 -/
theorem Known_of (K E : List UInt8) (hK : K.length = 32) (hE : E.length = 32) (n x : Int) (hc : ∀ w', Calls Try.prog 16 #[.agg (cellsU8 K).toArray, .int .i64 n, .int .i64 0] w' fun e w'' => e = .returned (.tuple #[.agg (cellsU8 E).toArray, .int .i64 x]) ∧ Below w'.heap.size w' w'') (w : World) :
    Calls Try.prog 18 #[.agg (cellsU8 K).toArray, .int .i64 n] w fun e w' => e = .returned (.tuple #[.agg (cellsU8 E).toArray, .int .i64 x]) ∧ Below w.heap.size w w' := by
  have c1 := kp hc
  have hcl := key_cells _ hE
  obtain ⟨Z, hZ⟩ : ∃ Z : List UInt8, List.replicate 32 0 = Z := ⟨_, rfl⟩
  have hzl : Z.length = 32 := by rw [← hZ]; rfl
  have HN := kp (Blk.new (w.alloc (.cells (cellsU8 K).toArray 23)) 23 (cellsU8 (List.replicate 32 0)).toArray)
  have HB := kp (ba (ba (Below.refl w.heap.size w) (.cells (cellsU8 K).toArray 23)) (.cells (cellsU8 (List.replicate 32 0)).toArray 23))
  rw [size_all] at HN
  have LD := fun o => ldK K hK ((Blk.new w 23 (cellsU8 K).toArray).alloc o)
  clear hK hc hE
  go_enter Try.func18, Try.ntmps18
  go_wp2_with (refine wpL_load rfl 23 _ rfl rfl (LD _) ?_)
  clear LD
  refine (c1.out _).mono ?_
  rintro e w2 ⟨rfl, hb2⟩
  have h5 := HN.out.bel hb2
  rw [hZ] at h5
  have hb := bt' HB.out hb2 HB.out.size
  have SC := sc_all (P := Try.prog) (w := w2) (w.heap.size + 1) 23 (cellsU8 E) _ h5 (by rw [hcl, length_cellsU8, hzl]) (cellsU8_one _)
  have HX := kp (h5.row (cellsU8 E).toArray)
  have HBX := kp (bsr hb (Nat.le_succ w.heap.size) hb.size (cellsU8 E).toArray)
  have HL := kp hcl
  clear HN HB hb2 h5 hb hzl hZ
  generalize hY : w2.setRow (w.heap.size + 1) (cellsU8 E).toArray = Y at SC HX HBX
  clear hY
  go_wp2
  refine bodyPost_ret (v := .tuple #[.agg (cellsU8 E).toArray, .int .i64 x]) ?_ rfl ⟨rfl, HBX.out⟩
  exact res2 Try.results18 (w.heap.size + 1) 32 _ _ _ Try.underlying23 rfl info_key HL.out HX.out _ rfl _ rfl
theorem Known_good (K : List UInt8) (hK : K.length = 32) (n : Int) (D : Nat) (h1 : 1 ≤ n) (h2 : n ≤ 1024) (hD : n = (D : Int)) (w : World) :
    Calls Try.prog 18 #[.agg (cellsU8 K).toArray, .int .i64 n] w fun e w' => e = .returned (.tuple #[.agg (cellsU8 (chK K D)).toArray, .int .i64 0]) ∧ Below w.heap.size w w' :=
  Known_of K _ hK (chK_length K D) n 0 (fun w' => Key_good K hK n 0 D h1 h2 (by omega) (by omega) (by omega) w') w
theorem Known_bad (K : List UInt8) (hK : K.length = 32) (n : Int) (h : n < 1 ∨ 1024 < n) (w : World) :
    Calls Try.prog 18 #[.agg (cellsU8 K).toArray, .int .i64 n] w fun e w' => e = .returned (.tuple #[.agg (cellsU8 zeroK).toArray, .int .i64 1]) ∧ Below w.heap.size w w' :=
  Known_of K _ hK zeroK_length n 1 (fun w' => Key_bad K hK n 0 (by omega) w') w

set_option maxHeartbeats 1000000 in
set_option maxRecDepth 100000 in
theorem Tagger_any (K : List UInt8) (hK : K.length = 32) (w : World) :
    Calls Try.prog 19 #[.agg (cellsU8 K).toArray] w fun e w' => e = .returned (.agg (cellsU8 (macD K tagS)).toArray) ∧ Below w.heap.size w w' := by
  have c1 : Kp (∀ w', Calls Try.prog 40 #[.agg (cellsU8 K).toArray, .string ⟨#[116, 97, 103]⟩] w' fun e w'' => e = .returned (.agg (cellsU8 (macD K tagS)).toArray) ∧ Below w'.heap.size w' w'') := kp (fun w' => Of_any K ⟨#[116, 97, 103]⟩ hK (by decide) w')
  have hcl := key_cells _ (macD_length K tagS)
  generalize macD K tagS = E at c1 hcl ⊢
  obtain ⟨Z, hZ⟩ : ∃ Z : List UInt8, List.replicate 32 0 = Z := ⟨_, rfl⟩
  have hzl : Z.length = 32 := by rw [← hZ]; rfl
  have HN := kp (Blk.new (w.alloc (.cells (cellsU8 K).toArray 23)) 23 (cellsU8 (List.replicate 32 0)).toArray)
  have HB := kp (ba (ba (Below.refl w.heap.size w) (.cells (cellsU8 K).toArray 23)) (.cells (cellsU8 (List.replicate 32 0)).toArray 23))
  rw [size_all] at HN
  have LD := fun o => ldK K hK ((Blk.new w 23 (cellsU8 K).toArray).alloc o)
  clear hK
  go_enter Try.func19, Try.ntmps19
  go_wp2_with (refine wpL_load rfl 23 _ rfl rfl (LD _) ?_)
  clear LD
  refine (c1.out _).mono ?_
  rintro e w2 ⟨rfl, hb2⟩
  have h5 := HN.out.bel hb2
  rw [hZ] at h5
  have hb := bt' HB.out hb2 HB.out.size
  have SC := sc_all (P := Try.prog) (w := w2) (w.heap.size + 1) 23 (cellsU8 E) _ h5 (by rw [hcl, length_cellsU8, hzl]) (cellsU8_one _)
  have HX := kp (h5.row (cellsU8 E).toArray)
  have HBX := kp (bsr hb (Nat.le_succ w.heap.size) hb.size (cellsU8 E).toArray)
  have HL := kp hcl
  clear HN HB hb2 h5 hb hzl hZ
  generalize hY : w2.setRow (w.heap.size + 1) (cellsU8 E).toArray = Y at SC HX HBX
  clear hY
  go_wp2
  refine bodyPost_ret (v := .agg (cellsU8 E).toArray) ?_ rfl ⟨rfl, HBX.out⟩
  exact res_all Try.results19 (w.heap.size + 1) 32 _ _ _ Try.underlying23 rfl info_key HL.out HX.out _ rfl

set_option maxHeartbeats 1000000 in
set_option maxRecDepth 100000 in
theorem Next_any (K : List UInt8) (hK : K.length = 32) (w : World) :
    Calls Try.prog 21 #[.agg (cellsU8 K).toArray] w fun e w' => e = .returned (.agg (cellsU8 (macD K seedS)).toArray) ∧ Below w.heap.size w w' := by
  have c1 : Kp (∀ w', Calls Try.prog 40 #[.agg (cellsU8 K).toArray, .string ⟨#[115, 101, 101, 100]⟩] w' fun e w'' => e = .returned (.agg (cellsU8 (macD K seedS)).toArray) ∧ Below w'.heap.size w' w'') := kp (fun w' => Of_any K ⟨#[115, 101, 101, 100]⟩ hK (by decide) w')
  have hcl := key_cells _ (macD_length K seedS)
  generalize macD K seedS = E at c1 hcl ⊢
  obtain ⟨Z, hZ⟩ : ∃ Z : List UInt8, List.replicate 32 0 = Z := ⟨_, rfl⟩
  have hzl : Z.length = 32 := by rw [← hZ]; rfl
  have HN := kp (Blk.new (w.alloc (.cells (cellsU8 K).toArray 23)) 23 (cellsU8 (List.replicate 32 0)).toArray)
  have HB := kp (ba (ba (Below.refl w.heap.size w) (.cells (cellsU8 K).toArray 23)) (.cells (cellsU8 (List.replicate 32 0)).toArray 23))
  rw [size_all] at HN
  have LD := fun o => ldK K hK ((Blk.new w 23 (cellsU8 K).toArray).alloc o)
  clear hK
  go_enter Try.func21, Try.ntmps21
  go_wp2_with (refine wpL_load rfl 23 _ rfl rfl (LD _) ?_)
  clear LD
  refine (c1.out _).mono ?_
  rintro e w2 ⟨rfl, hb2⟩
  have h5 := HN.out.bel hb2
  rw [hZ] at h5
  have hb := bt' HB.out hb2 HB.out.size
  have SC := sc_all (P := Try.prog) (w := w2) (w.heap.size + 1) 23 (cellsU8 E) _ h5 (by rw [hcl, length_cellsU8, hzl]) (cellsU8_one _)
  have HX := kp (h5.row (cellsU8 E).toArray)
  have HBX := kp (bsr hb (Nat.le_succ w.heap.size) hb.size (cellsU8 E).toArray)
  have HL := kp hcl
  clear HN HB hb2 h5 hb hzl hZ
  generalize hY : w2.setRow (w.heap.size + 1) (cellsU8 E).toArray = Y at SC HX HBX
  clear hY
  go_wp2
  refine bodyPost_ret (v := .agg (cellsU8 E).toArray) ?_ rfl ⟨rfl, HBX.out⟩
  exact res_all Try.results21 (w.heap.size + 1) 32 _ _ _ Try.underlying23 rfl info_key HL.out HX.out _ rfl
end Go.Proofs.Ytfmfdhcmbnabpaa
