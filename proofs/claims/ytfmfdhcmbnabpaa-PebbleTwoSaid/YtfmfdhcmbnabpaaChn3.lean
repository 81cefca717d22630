/- chain: Tell, Check. -/
import Derived.Test.YtfmfdhcmbnabpaaChn2
namespace Go.Proofs.Ytfmfdhcmbnabpaa
open Go Go.RowKit
set_option linter.unusedVariables false
set_option linter.unusedSimpArgs false
attribute [local go_sem] bmax2 bmin2 bmax bmin cell_ext frozen_ext

set_option maxHeartbeats 1000000 in
set_option maxRecDepth 100000 in
theorem Tell_bad (K : List UInt8) (a i : Int) (hK : K.length = 32) (h : i < 0 ∨ a < i) (w : World) :
    Calls Try.prog 24 #[.agg (mindL K a).toArray, .int .i64 i] w fun e w' => e = .returned (.tuple #[.agg (cellsU8 zeroK).toArray, .int .i64 1]) ∧ Below w.heap.size w w' := by
  have hcase : i < 0 ∨ (¬ i < 0 ∧ a < i) := by omega
  clear h
  have hz : (cellsU8 zeroK).length = 32 := zeroK_c
  obtain ⟨Z, hZ⟩ : ∃ Z, cellsU8 zeroK = Z := ⟨_, rfl⟩
  rw [hZ] at hz ⊢
  have h1 : Kp (∀ v ∈ Z, v.oneCell' = true) := kp (by rw [← hZ]; exact cellsU8_one _)
  have HB := kp (ba (ba (Below.refl w.heap.size w) (.cells (mindL K a).toArray 34)) (.cells Z.toArray 23))
  have HN := kp (Blk.new (w.alloc (.cells (mindL K a).toArray 34)) 23 Z.toArray)
  rw [size_all] at HN
  have SC := fun (o : Obj) (cur : Array Value) (h : cur.size = 32) => sc_newS (P := Try.prog) w 23 Z h1.out o cur (by rw [hz]; exact h)
  have CE : ∀ o, ((w.alloc (.cells (mindL K a).toArray 34)).alloc o).cell? ⟨w.heap.size, 32, none⟩ = some (.int .i64 a) := fun o => ((Blk.new w 34 (mindL K a).toArray).alloc o).atL (mindL_at K a hK)
  have HZ := kp hz
  have HZZ := kp hZ
  clear hZ hK
  rcases hcase with h | ⟨h, h2⟩
  all_goals
    go_enter Try.func24, Try.ntmps24
    go_wp2_with (refine wpL_val 14 rfl rfl (.agg Z.toArray) (by rw [← HZZ.out]; kernel_rfl) ?_)
    refine bodyPost_ret (v := .tuple #[.agg Z.toArray, .int .i64 1]) ?_ rfl ⟨rfl, HB.out⟩
    exact res2 Try.results24 (w.heap.size + 1) 32 _ Z _ Try.underlying23 rfl info_key HZ.out HN.out _ rfl _ rfl

set_option maxHeartbeats 1000000 in
set_option maxRecDepth 100000 in
theorem Tell_good (K : List UInt8) (a i : Int) (hK : K.length = 32) (h1 : 0 ≤ i) (h2 : i ≤ a) (ha : a ≤ 9223372036854775807) (D : Nat) (hD : min (a - i) 4096 = (D : Int)) (w : World) :
    Calls Try.prog 24 #[.agg (mindL K a).toArray, .int .i64 i] w fun e w' => e = .returned (.tuple #[.agg (cellsU8 (walkD K D)).toArray, .int .i64 0]) ∧ Below w.heap.size w w' := by
  have c2 := kp (fun w' => Walk_st K hK (a - i) D (by omega) w')
  have hcl := key_cells _ (walkD_length K hK D)
  generalize walkD K D = E at c2 hcl ⊢
  obtain ⟨Z, hZ⟩ : ∃ Z : List UInt8, List.replicate 32 0 = Z := ⟨_, rfl⟩
  have hzl : Z.length = 32 := by rw [← hZ]; rfl
  have HN := kp (Blk.new (w.alloc (.cells (mindL K a).toArray 34)) 23 (cellsU8 (List.replicate 32 0)).toArray)
  have HB := kp (ba (ba (Below.refl w.heap.size w) (.cells (mindL K a).toArray 34)) (.cells (cellsU8 (List.replicate 32 0)).toArray 23))
  rw [size_all] at HN
  have LD := fun o => ldMK K a hK ((Blk.new w 34 (mindL K a).toArray).alloc o)
  have CE : ∀ o, ((w.alloc (.cells (mindL K a).toArray 34)).alloc o).cell? ⟨w.heap.size, 32, none⟩ = some (.int .i64 a) := fun o => ((Blk.new w 34 (mindL K a).toArray).alloc o).atL (mindL_at K a hK)
  have hb1 : 0 ≤ a - i := by omega
  have hb2 : a - i ≤ 9223372036854775807 := by omega
  clear hK hD
  go_enter Try.func24, Try.ntmps24
  go_wp2_with (refine wpL_load rfl 23 _ rfl rfl (LD _) ?_)
  clear LD CE
  refine (c2.out _).mono ?_
  rintro e w2 ⟨rfl, hb2⟩
  have h5 := HN.out.bel hb2
  rw [hZ] at h5
  have hb := bt' HB.out hb2 HB.out.size
  have SC := sc_all (P := Try.prog) (w := w2) (w.heap.size + 1) 23 (cellsU8 E) _ h5 (by rw [hcl, length_cellsU8, hzl]) (cellsU8_one _)
  have HX := kp (h5.row (cellsU8 E).toArray)
  have HBX := kp (bsr hb (Nat.le_succ w.heap.size) hb.size (cellsU8 E).toArray)
  have HL := kp hcl
  clear HN HB hb2 h5 hb hzl hZ
  generalize hY : w2.setRow (w.heap.size + 1) (cellsU8 E).toArray = Y at SC HX HBX
  clear hY
  go_wp2
  refine bodyPost_ret (v := .tuple #[.agg (cellsU8 E).toArray, .int .i64 0]) ?_ rfl ⟨rfl, HBX.out⟩
  exact res2 Try.results24 (w.heap.size + 1) 32 _ _ _ Try.underlying23 rfl info_key HL.out HX.out _ rfl _ rfl

set_option maxHeartbeats 1000000 in
set_option maxRecDepth 100000 in
/-- Check is Learn's error -/
theorem Check_of (K k : List UInt8) (a i most x : Int) (M : List Value) (hK : K.length = 32) (hk : k.length = 32) (hM : M.length = 33) (h1M : ∀ v ∈ M, v.oneCell' = true)
    (hc : ∀ w', Calls Try.prog 23 #[.agg (mindL K a).toArray, .agg (cellsU8 k).toArray, .int .i64 i, .int .i64 most] w' fun e w'' => e = .returned (.tuple #[.agg M.toArray, .int .i64 x]) ∧ Below w'.heap.size w' w'') (w : World) :
    Calls Try.prog 22 #[.agg (cellsU8 K).toArray, .int .i64 a, .agg (cellsU8 k).toArray, .int .i64 i, .int .i64 most] w fun e w' => e = .returned (.int .i64 x) ∧ Below w.heap.size w w' := by
  have c1 := kp hc
  have HB := kp (ba (ba (Below.refl w.heap.size w) (.cells (cellsU8 K).toArray 23)) (.cells (cellsU8 k).toArray 23))
  have L1 := ldK K hK ((Blk.new w 23 (cellsU8 K).toArray).alloc (.cells (cellsU8 k).toArray 23))
  have L2 := ldK k hk (Blk.new (w.alloc (.cells (cellsU8 K).toArray 23)) 23 (cellsU8 k).toArray)
  rw [size_all] at L2
  have HK := kp hK
  clear hc hK hk
  go_enter Try.func22, Try.ntmps22
  go_wp2_with (first | (refine wpL_load rfl 23 _ rfl rfl L1 ?_) | (refine wpL_load rfl 23 _ rfl rfl L2 ?_) | (refine wpL_val 16 rfl rfl (.agg (mindL K a).toArray) (exec_build rfl (by simp [Act.eval]) (build_mind K a HK.out _)) ?_))
  clear L1 L2
  refine (c1.out _).mono ?_
  rintro e w2 ⟨rfl, hb2⟩
  have SC := fun (cur : Array Value) (h : cur.size = 33) => sc_new (P := Try.prog) w2 34 M h1M cur (by rw [hM]; exact h)
  have HB2 := kp (ba (bt' HB.out hb2 HB.out.size) (.cells M.toArray 34))
  clear hb2 HB
  go_wp2
  go_ret
  exact ⟨rfl, HB2.out⟩
theorem Check_arg (K k : List UInt8) (a i most : Int) (hK : K.length = 32) (hk : k.length = 32) (h : a < 0 ∨ i ≤ a) (w : World) :
    Calls Try.prog 22 #[.agg (cellsU8 K).toArray, .int .i64 a, .agg (cellsU8 k).toArray, .int .i64 i, .int .i64 most] w fun e w' => e = .returned (.int .i64 1) ∧ Below w.heap.size w w' :=
  Check_of K k a i most 1 zeroM hK hk zeroM_length (mindL_one _ _) (fun w' => Learn_arg K k a i most hK hk h w') w
theorem Check_far (K k : List UInt8) (a i most : Int) (hK : K.length = 32) (hk : k.length = 32) (h0 : 0 ≤ a) (h1 : a < i) (hi : i ≤ 9223372036854775807) (h : min most 1024 < i - a) (w : World) :
    Calls Try.prog 22 #[.agg (cellsU8 K).toArray, .int .i64 a, .agg (cellsU8 k).toArray, .int .i64 i, .int .i64 most] w fun e w' => e = .returned (.int .i64 16) ∧ Below w.heap.size w w' :=
  Check_of K k a i most 16 zeroM hK hk zeroM_length (mindL_one _ _) (fun w' => Learn_far K k a i most hK hk h0 h1 hi h w') w
def learnE (K P : List UInt8) : Int := if P = K then 0 else 13
def learnM (K k P : List UInt8) (i : Int) : List Value := if P = K then mindL k i else zeroM
theorem learnV_eq (K k P : List UInt8) (i : Int) : learnV K k P i = .tuple #[.agg (learnM K k P i).toArray, .int .i64 (learnE K P)] := by
  unfold learnV learnM learnE; split <;> rfl
theorem learnM_length (K k P : List UInt8) (i : Int) (hk : k.length = 32) : (learnM K k P i).length = 33 := by
  unfold learnM; split
  · exact mindL_length k i hk
  · rfl
theorem learnM_one (K k P : List UInt8) (i : Int) : ∀ v ∈ learnM K k P i, v.oneCell' = true := by
  unfold learnM; split <;> exact mindL_one _ _
theorem Check_near (K k : List UInt8) (a i most : Int) (D : Nat) (hK : K.length = 32) (hk : k.length = 32) (h0 : 0 ≤ a) (h1 : a < i) (hi : i ≤ 9223372036854775807) (hD : i - a = (D : Int)) (h : i - a ≤ min most 1024) (w : World) :
    Calls Try.prog 22 #[.agg (cellsU8 K).toArray, .int .i64 a, .agg (cellsU8 k).toArray, .int .i64 i, .int .i64 most] w fun e w' => e = .returned (.int .i64 (learnE K (walkD k D))) ∧ Below w.heap.size w w' :=
  Check_of K k a i most _ (learnM K k (walkD k D) i) hK hk (learnM_length _ _ _ _ hk) (learnM_one _ _ _ _) (fun w' => by rw [← learnV_eq]; exact Learn_near K k a i most D hK hk h0 h1 hi hD h w') w
end Go.Proofs.Ytfmfdhcmbnabpaa
