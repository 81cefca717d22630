/- chain: Learn, Tell, Check. -/
import Derived.Test.YtfmfdhcmbnabpaaChn1
namespace Go.Proofs.Ytfmfdhcmbnabpaa
open Go Go.RowKit
set_option linter.unusedVariables false
set_option linter.unusedSimpArgs false
attribute [local go_sem] bmax2 bmin2 bmax bmin cell_ext frozen_ext

def zeroM : List Value := mindL zeroK 0
theorem zeroM_length : zeroM.length = 33 := rfl
theorem ldM (K : List UInt8) (a : Int) (hK : K.length = 32) {w : World} {b : Nat} (h : Blk w b 34 (mindL K a).toArray) : (Instr.loadAt 34 (.pointer (some ⟨b, 0, none⟩))).run Try.prog w = .ok (.agg (mindL K a).toArray) w :=
  ld_all b 33 34 _ (mindL K a) _ Try.underlying34 rfl info_mind (mindL_length K a hK) h
theorem ldMK (K : List UInt8) (a : Int) (hK : K.length = 32) {w : World} {b : Nat} (h : Blk w b 34 (mindL K a).toArray) : (Instr.loadAt 23 (.pointer (some ⟨b, 0, none⟩))).run Try.prog w = .ok (.agg (cellsU8 K).toArray) w :=
  ld_row b 0 32 23 (cellsU8 K) _ Try.underlying23 rfl info_key (key_cells K hK) (fun j v hv => by rw [Nat.zero_add]; exact h.atL (mindL_key K a hK j v hv))
theorem sc_newSS {P : Program} (w : World) (t : TypeId) (cs : List Value) (h1 : ∀ v ∈ cs, v.oneCell' = true) (o o2 : Obj) (cur : Array Value) (hc : cur.size = cs.length) : (storeCells ⟨w.heap.size + 1 + 1, 0, none⟩ cs).run P (((w.alloc o).alloc o2).alloc (.cells cur t)) = .ok () (((w.alloc o).alloc o2).alloc (.cells cs.toArray t)) := by
  have := sc_new (P := P) ((w.alloc o).alloc o2) t cs h1 cur hc
  rw [size_all, size_all] at this
  exact this

set_option maxHeartbeats 1000000 in
set_option maxRecDepth 100000 in
theorem Learn_arg (K k : List UInt8) (a i most : Int) (hK : K.length = 32) (hk : k.length = 32) (h : a < 0 ∨ i ≤ a) (w : World) :
    Calls Try.prog 23 #[.agg (mindL K a).toArray, .agg (cellsU8 k).toArray, .int .i64 i, .int .i64 most] w fun e w' => e = .returned (.tuple #[.agg zeroM.toArray, .int .i64 1]) ∧ Below w.heap.size w w' := by
  have hcase : a < 0 ∨ (¬ a < 0 ∧ i ≤ a) := by omega
  clear h
  have hz : zeroM.length = 33 := zeroM_length
  obtain ⟨Z, hZ⟩ : ∃ Z, zeroM = Z := ⟨_, rfl⟩
  rw [hZ] at hz ⊢
  have h1 : Kp (∀ v ∈ Z, v.oneCell' = true) := kp (by rw [← hZ]; exact mindL_one _ _)
  have HB := kp (ba (ba (ba (Below.refl w.heap.size w) (.cells (mindL K a).toArray 34)) (.cells (cellsU8 k).toArray 23)) (.cells Z.toArray 34))
  have HN := kp (Blk.new ((w.alloc (.cells (mindL K a).toArray 34)).alloc (.cells (cellsU8 k).toArray 23)) 34 Z.toArray)
  rw [size_all, size_all] at HN
  have SC := fun (o o2 : Obj) (cur : Array Value) (h : cur.size = 33) => sc_newSS (P := Try.prog) w 34 Z h1.out o o2 cur (by rw [hz]; exact h)
  have CE : ∀ o o2, (((w.alloc (.cells (mindL K a).toArray 34)).alloc o).alloc o2).cell? ⟨w.heap.size, 32, none⟩ = some (.int .i64 a) := fun o o2 => (((Blk.new w 34 (mindL K a).toArray).alloc o).alloc o2).atL (mindL_at K a hK)
  have HZ := kp hz
  have HZZ := kp hZ
  clear hZ hK hk
  rcases hcase with h | ⟨h, h2⟩
  all_goals
    go_enter Try.func23, Try.ntmps23
    go_wp2_with (refine wpL_val 21 rfl rfl (.agg Z.toArray) (by rw [← HZZ.out]; kernel_rfl) ?_)
    refine bodyPost_ret (v := .tuple #[.agg Z.toArray, .int .i64 1]) ?_ rfl ⟨rfl, HB.out⟩
    exact res2 Try.results23 (w.heap.size + 1 + 1) 33 _ Z _ Try.underlying34 rfl info_mind HZ.out HN.out _ rfl _ rfl

set_option maxHeartbeats 1000000 in
set_option maxRecDepth 100000 in
theorem Learn_far (K k : List UInt8) (a i most : Int) (hK : K.length = 32) (hk : k.length = 32) (h0 : 0 ≤ a) (h1 : a < i) (hi : i ≤ 9223372036854775807) (h : min most 1024 < i - a) (w : World) :
    Calls Try.prog 23 #[.agg (mindL K a).toArray, .agg (cellsU8 k).toArray, .int .i64 i, .int .i64 most] w fun e w' => e = .returned (.tuple #[.agg zeroM.toArray, .int .i64 16]) ∧ Below w.heap.size w w' := by
  have hz : zeroM.length = 33 := zeroM_length
  obtain ⟨Z, hZ⟩ : ∃ Z, zeroM = Z := ⟨_, rfl⟩
  rw [hZ] at hz ⊢
  have h1c : Kp (∀ v ∈ Z, v.oneCell' = true) := kp (by rw [← hZ]; exact mindL_one _ _)
  have HB := kp (ba (ba (ba (Below.refl w.heap.size w) (.cells (mindL K a).toArray 34)) (.cells (cellsU8 k).toArray 23)) (.cells Z.toArray 34))
  have HN := kp (Blk.new ((w.alloc (.cells (mindL K a).toArray 34)).alloc (.cells (cellsU8 k).toArray 23)) 34 Z.toArray)
  rw [size_all, size_all] at HN
  have SC := fun (o o2 : Obj) (cur : Array Value) (h : cur.size = 33) => sc_newSS (P := Try.prog) w 34 Z h1c.out o o2 cur (by rw [hz]; exact h)
  have CE : ∀ o o2, (((w.alloc (.cells (mindL K a).toArray 34)).alloc o).alloc o2).cell? ⟨w.heap.size, 32, none⟩ = some (.int .i64 a) := fun o o2 => (((Blk.new w 34 (mindL K a).toArray).alloc o).alloc o2).atL (mindL_at K a hK)
  have HZ := kp hz
  have HZZ := kp hZ
  clear hZ hK hk
  have hb1 : 0 ≤ i - a := by omega
  have hb2 : i - a ≤ 9223372036854775807 := by omega
  go_enter Try.func23, Try.ntmps23
  go_wp2_with (refine wpL_val 30 rfl rfl (.agg Z.toArray) (by rw [← HZZ.out]; kernel_rfl) ?_)
  refine bodyPost_ret (v := .tuple #[.agg Z.toArray, .int .i64 16]) ?_ rfl ⟨rfl, HB.out⟩
  exact res2 Try.results23 (w.heap.size + 1 + 1) 33 _ Z _ Try.underlying34 rfl info_mind HZ.out HN.out _ rfl _ rfl
/-- what Learn answers where it isn't too far -/
def learnV (K k P : List UInt8) (i : Int) : Value := if P = K then .tuple #[.agg (mindL k i).toArray, .int .i64 0] else .tuple #[.agg zeroM.toArray, .int .i64 13]
set_option maxHeartbeats 4000000 in
set_option maxRecDepth 100000 in
theorem Learn_near (K k : List UInt8) (a i most : Int) (D : Nat) (hK : K.length = 32) (hk : k.length = 32) (h0 : 0 ≤ a) (h1 : a < i) (hi : i ≤ 9223372036854775807) (hD : i - a = (D : Int)) (h : i - a ≤ min most 1024) (w : World) :
    Calls Try.prog 23 #[.agg (mindL K a).toArray, .agg (cellsU8 k).toArray, .int .i64 i, .int .i64 most] w fun e w' => e = .returned (learnV K k (walkD k D) i) ∧ Below w.heap.size w w' := by
  have c1 := kp (fun w' => Walk_st k hk (D : Int) D (by omega) w')
  have hpl := walkD_length k hk D
  generalize walkD k D = P at c1 hpl ⊢
  have HK := kp hK
  have HKK := kp hk
  have HPL := kp hpl
  have hz : zeroM.length = 33 := zeroM_length
  obtain ⟨Z, hZ⟩ : ∃ Z, zeroM = Z := ⟨_, rfl⟩
  have H4 := kp (((Blk.new w 34 (mindL K a).toArray).alloc (.cells (cellsU8 k).toArray 23)).alloc (.cells zeroM.toArray 34))
  have H5 := kp ((Blk.new (w.alloc (.cells (mindL K a).toArray 34)) 23 (cellsU8 k).toArray).alloc (.cells zeroM.toArray 34))
  have H8 := kp (Blk.new ((w.alloc (.cells (mindL K a).toArray 34)).alloc (.cells (cellsU8 k).toArray 23)) 34 zeroM.toArray)
  have HB := kp (ba (ba (ba (Below.refl w.heap.size w) (.cells (mindL K a).toArray 34)) (.cells (cellsU8 k).toArray 23)) (.cells zeroM.toArray 34))
  rw [size_all, size_all] at H8
  rw [size_all] at H5
  have CE : ∀ o o2, (((w.alloc (.cells (mindL K a).toArray 34)).alloc o).alloc o2).cell? ⟨w.heap.size, 32, none⟩ = some (.int .i64 a) := fun o o2 => (((Blk.new w 34 (mindL K a).toArray).alloc o).alloc o2).atL (mindL_at K a hK)
  have hHD := kp hD
  have hd1 : i - a ≤ 1024 := by omega
  have hd2 : 0 ≤ i - a := by omega
  have hdm : ¬ min most 1024 < i - a := by omega
  have HZ := kp hZ
  clear hZ hK hk hpl hz hD
  go_enter Try.func23, Try.ntmps23
  go_upto_region 5 with (fail)
  change Code.wp _ _ _ _ (((w.alloc (.cells (mindL K a).toArray 34)).alloc (.cells (cellsU8 k).toArray 23)).alloc (.cells zeroM.toArray 34))
  rw [HZ.out] at H4 H5 H8 HB ⊢
  clear CE hdm
  generalize ((w.alloc (.cells (mindL K a).toArray 34)).alloc (.cells (cellsU8 k).toArray 23)).alloc (.cells Z.toArray 34) = W at H4 H5 H8 HB ⊢
  refine wp_region_mkE [0, 1, 2, 3, 4, 5, 6, 7, 8] [9] [10] 47 (fun _ => VA W.heap.size 34 zeroM.toArray) (· ≠ ·) (by kernel_rfl) (by kernel_rfl) rfl (fun i v W W' h hb => h.mono hb) ?_
  apply Exists.intro
  refine ⟨fun X hX => ?_, ?_, ?_⟩
  · have h4 := H4.out.bel hX
    have h5 := H5.out.bel hX
    have c32 := h4.atL (mindL_at K a HK.out)
    have hlx := h4.lt
    have LK := kp (fun x => ldK k HKK.out (h5.bel (ext_below X x)))
    have hw : IntKind.i64.wrap (i - a) = (D : Int) := by rw [IntWalk.i64_in _ (by omega)]; exact hHD.out
    simp only [List.map_cons, List.map_nil, List.getD_cons_succ, List.getD_cons_zero]
    repeat (first
      | (go_big_quiet_want; refine quiet_load _ rfl 23 _ rfl rfl (fun w hw => by obtain ⟨x, rfl⟩ := hw; exact LK.out x) ?_; go_simp; go_big_quiet_on)
      | (go_big_quiet_want; refine quiet_val 39 rfl (.agg (mindL P a).toArray) (fun w _ => exec_build rfl (by simp [Act.eval]) (build_mind P a HPL.out w)) ?_; go_simp; go_big_quiet_on)
      | go_big_quiet_step ((go_at_call 39; with_reducible exact Calls.ext_of (c1.out _))))
    exact wpQuiet_nil rfl
  · exact ⟨mk_alloc rfl (fun W => by kernel_rfl) (fun j u W h => h.ne), trivial⟩
  · intro ev _
    simp only [List.map_cons, List.map_nil, List.getD_cons_succ, List.getD_cons_zero, TailX]
    rintro X hX ⟨_, b10, rfl, hb10, hk10⟩
    have hml := mindL_length P a HPL.out
    have SC := sc_all (P := Try.prog) (w := X) b10 34 (mindL P a) _ hk10 (by rw [hml]; rfl) (mindL_one _ _)
    have H10 := kp (hk10.row (mindL P a).toArray)
    have hne4 : w.heap.size ≠ b10 := by have := H4.out.lt; omega
    have hne5 : w.heap.size + 1 ≠ b10 := by have := H5.out.lt; omega
    have hne8 : w.heap.size + 1 + 1 ≠ b10 := by have := H8.out.lt; omega
    have J4 := kp ((H4.out.bel hX).rowfar hne4 (mindL P a).toArray)
    have J5 := kp ((H5.out.bel hX).rowfar hne5 (mindL P a).toArray)
    have J8 := kp ((H8.out.bel hX).rowfar hne8 (mindL P a).toArray)
    have hbx := bt' HB.out hX HB.out.size
    have JB := kp (bsr hbx (show w.heap.size ≤ b10 by have := HB.out.size; omega) hbx.size (mindL P a).toArray)
    clear hX hk10 hbx hb10 H4 H5 H8 HB hne4 hne5 hne8
    generalize X.setRow b10 (mindL P a).toArray = Y at SC H10 J4 J5 J8 JB
    go_upto_region 6 with (fail)
    clear SC hml
    have L1 := ldM P a HPL.out H10.out
    have L2 := ldM K a HK.out J4.out
    have hzl : Z.length = 33 := by rw [← HZ.out]; rfl
    have h1z : ∀ v ∈ Z, v.oneCell' = true := by rw [← HZ.out]; exact mindL_one _ _
    by_cases hPK : P = K
    · have hv : learnV K k P i = .tuple #[.agg (mindL k i).toArray, .int .i64 0] := if_pos hPK
      have HV := kp hv
      have L3 := ldK k HKK.out J5.out
      have hkl := mindL_length k i HKK.out
      have SC := sc_all (P := Try.prog) (w := Y) (w.heap.size + 1 + 1) 34 (mindL k i) _ J8.out (by rw [hkl, hzl]) (mindL_one _ _)
      have HX := kp (J8.out.row (mindL k i).toArray)
      have HBX := kp (bsr JB.out (show w.heap.size ≤ w.heap.size + 1 + 1 by omega) JB.out.size (mindL k i).toArray)
      have HL := kp hkl
      have hnm : ∀ W : World, (!decide (P = K ∧ a = a)) = false := fun _ => by rw [decide_eq_true ⟨hPK, rfl⟩]; rfl
      have HNM := kp hnm
      clear hv hPK hnm hzl h1z
      generalize hY2 : Y.setRow (w.heap.size + 1 + 1) (mindL k i).toArray = Y2 at SC HX HBX
      clear hY2
      go_wp2_with (first | (refine wpL_load rfl 34 _ rfl rfl L1 ?_) | (refine wpL_load rfl 34 _ rfl rfl L2 ?_) | (refine wpL_val 42 rfl rfl (.bool false) ((exec_nem rfl rfl rfl HPL.out HK.out Y).trans (by rw [HNM.out Y])) ?_) | (refine wpL_load rfl 23 _ rfl rfl L3 ?_) | (refine wpL_val 46 rfl rfl (.agg (mindL k i).toArray) (exec_build rfl (by simp [Act.eval]) (build_mind k i HKK.out Y)) ?_))
      refine bodyPost_ret (v := .tuple #[.agg (mindL k i).toArray, .int .i64 0]) ?_ rfl ⟨by rw [HV.out], HBX.out⟩
      exact res2 Try.results23 (w.heap.size + 1 + 1) 33 _ _ _ Try.underlying34 rfl info_mind HL.out HX.out _ rfl _ rfl
    · have hv : learnV K k P i = .tuple #[.agg zeroM.toArray, .int .i64 13] := if_neg hPK
      rw [HZ.out] at hv
      have HV := kp hv
      have SC := sc_all (P := Try.prog) (w := Y) (w.heap.size + 1 + 1) 34 Z _ J8.out rfl h1z
      have HX := kp (J8.out.row Z.toArray)
      have HBX := kp (bsr JB.out (show w.heap.size ≤ w.heap.size + 1 + 1 by omega) JB.out.size Z.toArray)
      have HL := kp hzl
      have hnm : ∀ W : World, (!decide (P = K ∧ a = a)) = true := fun _ => by rw [decide_eq_false (fun h => hPK h.1)]; rfl
      have HNM := kp hnm
      clear hv hPK hnm h1z
      generalize hY2 : Y.setRow (w.heap.size + 1 + 1) Z.toArray = Y2 at SC HX HBX
      clear hY2
      go_wp2_with (first | (refine wpL_load rfl 34 _ rfl rfl L1 ?_) | (refine wpL_load rfl 34 _ rfl rfl L2 ?_) | (refine wpL_val 42 rfl rfl (.bool true) ((exec_nem rfl rfl rfl HPL.out HK.out Y).trans (by rw [HNM.out Y])) ?_) | (refine wpL_val 43 rfl rfl (.agg Z.toArray) (by rw [← HZ.out]; kernel_rfl) ?_))
      refine bodyPost_ret (v := .tuple #[.agg Z.toArray, .int .i64 13]) ?_ rfl ⟨by rw [HV.out], HBX.out⟩
      exact res2 Try.results23 (w.heap.size + 1 + 1) 33 _ _ _ Try.underlying34 rfl info_mind HL.out HX.out _ rfl _ rfl
end Go.Proofs.Ytfmfdhcmbnabpaa
