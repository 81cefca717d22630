/- VolleyAgrees: the walk. -/
import Derived.Test.YtkknnnkbegigeaaVc7
namespace Go.Proofs.Ytkknnnkbegigeaa
open Go Go.RowKit
set_option linter.unusedVariables false
set_option linter.unusedSimpArgs false
attribute [local go_sem] bmax2 bmin2 bmax bmin cell_ext frozen_ext

theorem tmod_range (a m : Int) (h : 0 < m) : -m < a.tmod m ∧ a.tmod m < m := by
  have h1 := Int.tmod_lt_of_pos (-a) h
  rw [Int.neg_tmod] at h1
  have h2 := Int.tmod_lt_of_pos a h
  omega
theorem tmod_nonneg {a m : Int} (h0 : 0 ≤ a) (h : 0 < m) : 0 ≤ a.tmod m ∧ a.tmod m < m := ⟨Int.tmod_nonneg m h0, Int.tmod_lt_of_pos a h⟩
theorem exec_rem60 {o : Oper} {a : Act} {x y : Operand} {t' : TypeId} (ho : o.op = .binOp .rem 2 x y t') {n : Int} (hx : a.eval x = .int .i64 n) (hy : a.eval y = .int .i64 1152921504606846976) (w : World) :
    (execOp a.eval o).run Try.prog w = .ok (.value (.int .i64 (n.tmod 1152921504606846976))) w := by
  have r := tmod_range n 1152921504606846976 (by omega)
  have r1 := r.1
  have r2 := r.2
  clear r
  unfold execOp
  simp only [ho, hx, hy]
  go_simp
theorem exec_max0 {o : Oper} {a : Act} {t : Tmp} {ts : Array TypeId} (ho : o.op = .call { callee := .builtin .max, args := #[.tmp t, .const (.int .i64 0)], argTypes := ts }) {n : Int} (hx : a.tmps[t]?.getD undef = .int .i64 n) (w : World) :
    (execOp a.eval o).run Try.prog w = .ok (.value (.int .i64 (max n 0))) w := by
  unfold execOp
  simp only [ho]
  go_simp
theorem st_oneI {w : World} {b o : Nat} {v u : Value} (hc : w.cell? ⟨b, o, none⟩ = some u) (hf : w.frozen? ⟨b, o, none⟩ = false) (n : Int) : (Instr.storeAt 2 (.pointer (some ⟨b, o, none⟩)) (.int .i64 n)).run Try.prog w = .ok () (w.setCell ⟨b, o, none⟩ (.int .i64 n)) := by
  go_simp
set_option maxHeartbeats 4000000 in
set_option maxRecDepth 100000 in
theorem VolleyAgrees_walk (w : World) (so sd sb so' sd' sb' m : Int) (b0 : (Lit.int .i64 so).wf = true ∧ (Lit.int .i64 sd).wf = true ∧ (Lit.int .i64 sb).wf = true) (b1 : (Lit.int .i64 so').wf = true ∧ (Lit.int .i64 sd').wf = true ∧ (Lit.int .i64 sb').wf = true) (b2 : (Lit.int .u32 m).wf = true) :
    Calls Try.prog 9 #[.agg (smC so sd sb).toArray, .agg (smC so' sd' sb').toArray, .int .u32 m] w fun e w' => e = .returned (.bool true) ∧ Below w.heap.size w w' := by
  have hm := wf_u32 b2
  have cW := kp (fun w' => volley_awake w')
  have r1 := tmod_range so 1152921504606846976 (by omega)
  have r2 := tmod_range so' 1152921504606846976 (by omega)
  have r3 := tmod_nonneg (show 0 ≤ max sb 0 by omega) (show (0 : Int) < 1152921504606846976 by omega)
  have r4 := tmod_nonneg (show 0 ≤ max sb' 0 by omega) (show (0 : Int) < 1152921504606846976 by omega)
  clear b0 b1 b2
  have H3 := kp ((Blk.new w 23 (smC so sd sb).toArray).alloc (.cells (smC so' sd' sb').toArray 23))
  have H4 := kp (Blk.new (w.alloc (.cells (smC so sd sb).toArray 23)) 23 (smC so' sd' sb').toArray)
  have HB := kp (ba (ba (Below.refl w.heap.size w) (.cells (smC so sd sb).toArray 23)) (.cells (smC so' sd' sb').toArray 23))
  rw [size_all] at H4
  have l4 : w.heap.size ≤ w.heap.size + 1 := by omega
  have ne : w.heap.size ≠ w.heap.size + 1 := by omega
  go_enter Try.func9, Try.ntmps9
  go_upto_region 1 with (fail)
  change Code.wp _ _ _ _ ((w.alloc (.cells (smC so sd sb).toArray 23)).alloc (.cells (smC so' sd' sb').toArray 23))
  generalize (w.alloc (.cells (smC so sd sb).toArray 23)).alloc (.cells (smC so' sd' sb').toArray 23) = W at H3 H4 HB ⊢
  generalize w.heap.size + 1 = c at *
  go_upto_region 4 with (go_at_call 11; refine (cW.out _).mono ?_; rintro e w1 ⟨rfl, hb1⟩)
  have H3 := H3.out.bel hb1
  have H4 := H4.out.bel hb1
  have HB := bt' HB.out hb1 HB.out.size
  clear hb1 cW
  obtain ⟨b, hb⟩ : ∃ b, w.heap.size = b := ⟨_, rfl⟩
  have l3 : w.heap.size ≤ b := by omega
  rw [hb] at H3 ne ⊢
  clear hb
  have H3D : Blk { w1 with drawn := w1.drawn + 1 } b 23 (smC so sd sb).toArray := H3
  have H4D : Blk { w1 with drawn := w1.drawn + 1 } c 23 (smC so' sd' sb').toArray := H4
  have HBD := drawn_bel HB (w1.drawn + 1)
  refine wp_region_lastL (S := fun W' => Blk W' c 23 (smC so' sd' sb').toArray) 11 (by kernel_rfl) ?_
  change wpAnyL _ _ _ _ _ 11 12 _ _ _
  generalize ({ w1 with drawn := w1.drawn + 1 } : World) = W4 at H3D H4D HBD ⊢
  clear H3 H4 HB
  refine takeAllL (by kernel_rfl) (fun _ _ d _ _ h => by cases d <;> exact h) [(0, 13), (2, 15), (4, 17), (5, 18), (6, 19), (7, 20)] [.pointer (some ⟨b, 0, none⟩), .int .i64 1152921504606846976, .pointer (some ⟨c, 0, none⟩), .int .i64 so', .int .i64 1152921504606846976, .int .i64 (so'.tmod 1152921504606846976)] _ _ _ 6 (by kernel_rfl) ⟨Or.inl ⟨by kernel_rfl, fun w hS => by kernel_rfl⟩, Or.inl ⟨by kernel_rfl, fun w hS => by kernel_rfl⟩, Or.inl ⟨by kernel_rfl, fun w hS => by kernel_rfl⟩, Or.inl ⟨by kernel_rfl, fun w hS => exec_load (ty := 2) (x := .tmp 17) (by kernel_rfl) (pv := .pointer (some ⟨c, 0, none⟩)) (by kernel_rfl) (ld_oneV Try.underlying2 rfl (hS.atL (show (smC so' sd' sb')[0]? = some (.int .i64 so') from rfl)))⟩, Or.inl ⟨by kernel_rfl, fun w hS => by kernel_rfl⟩, Or.inl ⟨by kernel_rfl, fun w hS => exec_rem60 (t' := 2) (x := .tmp 18) (y := .tmp 19) (by kernel_rfl) (n := so') (by kernel_rfl) (by kernel_rfl) w⟩, trivial⟩ H4D ?_
  change wpAnyL _ _ _ _ _ _ [1, 3, 8, 9, 10, 11].length _ _ _
  refine wpAnyL_of_seq [1, 3, 8, 9, 10, 11] _ _ _ (by kernel_rfl) ?_
  refine stepL 14 (by kernel_rfl) (of_decide_eq_true (by kernel_rfl)) (by kernel_rfl) (v := .int .i64 so) (exec_load (ty := 2) (x := .tmp 13) (by kernel_rfl) (pv := .pointer (some ⟨b, 0, none⟩)) (by kernel_rfl) (ld_oneV Try.underlying2 rfl (H3D.atL (show (smC so sd sb)[0]? = some (.int .i64 so) from rfl)))) (fun _ => H4D) ?_
  refine stepL 16 (by kernel_rfl) (of_decide_eq_true (by kernel_rfl)) (by kernel_rfl) (v := .int .i64 (so.tmod 1152921504606846976)) (exec_rem60 (t' := 2) (x := .tmp 14) (y := .tmp 15) (by kernel_rfl) (n := so) (by kernel_rfl) (by kernel_rfl) _) (fun _ => H4D) ?_
  refine stepL 21 (by kernel_rfl) (of_decide_eq_true (by kernel_rfl)) (by kernel_rfl) (v := .pointer (some ⟨b, 0, none⟩)) (by kernel_rfl) (fun _ => H4D) ?_
  refine stepL_skip (by kernel_rfl) (of_decide_eq_true (by kernel_rfl)) (by kernel_rfl) (exec_storeV 2 (.tmp 21) (.tmp 16) (by kernel_rfl) (pv := .pointer (some ⟨b, 0, none⟩)) (by kernel_rfl) (v := .int .i64 (so.tmod 1152921504606846976)) (by kernel_rfl) (st_oneI (v := undef) (H3D.atL (show (smC so sd sb)[0]? = some (.int .i64 so) from rfl)) (H3D.frozen 0) (so.tmod 1152921504606846976))) (fun _ => H4D.far (p := ⟨b, 0, none⟩) (Ne.symm ne) _) ?_
  refine stepL (W' := W4.setCell ⟨b, 0, none⟩ (.int .i64 (so.tmod 1152921504606846976))) 22 (by kernel_rfl) (of_decide_eq_true (by kernel_rfl)) (by kernel_rfl) (v := .pointer (some ⟨c, 0, none⟩)) (by kernel_rfl) (fun _ => H4D.far (p := ⟨b, 0, none⟩) (Ne.symm ne) (.int .i64 (so.tmod 1152921504606846976))) ?_
  have H4F := H4D.far (p := ⟨b, 0, none⟩) (Ne.symm ne) (.int .i64 (so.tmod 1152921504606846976))
  refine stepL_skip (by kernel_rfl) (of_decide_eq_true (by kernel_rfl)) (by kernel_rfl) (exec_storeV 2 (.tmp 22) (.tmp 20) (by kernel_rfl) (pv := .pointer (some ⟨c, 0, none⟩)) (by kernel_rfl) (v := .int .i64 (so'.tmod 1152921504606846976)) (by kernel_rfl) (st_oneI (v := undef) (H4F.atL (show (smC so' sd' sb')[0]? = some (.int .i64 so') from rfl)) (H4F.frozen 0) (so'.tmod 1152921504606846976))) (fun h => absurd rfl h) ?_
  clear H4F
  have H3 := (H3D.setL 0 (.int .i64 (so.tmod 1152921504606846976))).far (p := ⟨c, 0, none⟩) ne (.int .i64 (so'.tmod 1152921504606846976))
  have H4 := (H4D.far (p := ⟨b, 0, none⟩) (Ne.symm ne) (.int .i64 (so.tmod 1152921504606846976))).setL 0 (.int .i64 (so'.tmod 1152921504606846976))
  have HB := bsc (bsc HBD (p := ⟨b, 0, none⟩) l3 (.int .i64 (so.tmod 1152921504606846976))) (p := ⟨c, 0, none⟩) l4 (.int .i64 (so'.tmod 1152921504606846976))
  clear H3D H4D HBD
  unfold wpListL
  dsimp only [Exit.then, putAll, Act.put]
  simp only [List.setIfInBounds_toArray, List.set_cons_succ, List.set_cons_zero]
  generalize so.tmod 1152921504606846976 = O1 at r1 H3 H4 HB ⊢
  generalize so'.tmod 1152921504606846976 = O2 at r2 H3 H4 HB ⊢
  have H3 : Blk ((W4.setCell ⟨b, 0, none⟩ (.int .i64 O1)).setCell ⟨c, 0, none⟩ (.int .i64 O2)) b 23 (smC O1 sd sb).toArray := H3
  have H4 : Blk ((W4.setCell ⟨b, 0, none⟩ (.int .i64 O1)).setCell ⟨c, 0, none⟩ (.int .i64 O2)) c 23 (smC O2 sd' sb').toArray := H4
  generalize (W4.setCell ⟨b, 0, none⟩ (.int .i64 O1)).setCell ⟨c, 0, none⟩ (.int .i64 O2) = w1 at H3 H4 HB ⊢
  go_upto_region 5 with (fail)
  have H3D : Blk { w1 with drawn := w1.drawn + 1 } b 23 (smC O1 sd sb).toArray := H3
  have H4D : Blk { w1 with drawn := w1.drawn + 1 } c 23 (smC O2 sd' sb').toArray := H4
  have HBD := drawn_bel HB (w1.drawn + 1)
  refine wp_region_lastL (S := fun W' => Blk W' c 23 (smC O2 sd' sb').toArray) 13 (by kernel_rfl) ?_
  change wpAnyL _ _ _ _ _ 13 14 _ _ _
  generalize ({ w1 with drawn := w1.drawn + 1 } : World) = W5 at H3D H4D HBD ⊢
  clear H3 H4 HB
  refine takeAllL (by kernel_rfl) (fun _ _ d _ _ h => by cases d <;> exact h) [(0, 23), (3, 26), (5, 28), (6, 29), (7, 30), (8, 31), (9, 32)] [.pointer (some ⟨b, 2, none⟩), .int .i64 1152921504606846976, .pointer (some ⟨c, 2, none⟩), .int .i64 sb', .int .i64 (max sb' 0), .int .i64 1152921504606846976, .int .i64 ((max sb' 0).tmod 1152921504606846976)] _ _ _ 7 (by kernel_rfl) ⟨Or.inl ⟨by kernel_rfl, fun w hS => by kernel_rfl⟩, Or.inl ⟨by kernel_rfl, fun w hS => by kernel_rfl⟩, Or.inl ⟨by kernel_rfl, fun w hS => by kernel_rfl⟩, Or.inl ⟨by kernel_rfl, fun w hS => exec_load (ty := 2) (x := .tmp 28) (by kernel_rfl) (pv := .pointer (some ⟨c, 2, none⟩)) (by kernel_rfl) (ld_oneV Try.underlying2 rfl (hS.atL (show (smC O2 sd' sb')[2]? = some (.int .i64 sb') from rfl)))⟩, Or.inl ⟨by kernel_rfl, fun w hS => exec_max0 (ts := #[2, 2]) (t := 29) (by kernel_rfl) (n := sb') (by kernel_rfl) w⟩, Or.inl ⟨by kernel_rfl, fun w hS => by kernel_rfl⟩, Or.inl ⟨by kernel_rfl, fun w hS => exec_rem60 (t' := 2) (x := .tmp 30) (y := .tmp 31) (by kernel_rfl) (n := max sb' 0) (by kernel_rfl) (by kernel_rfl) w⟩, trivial⟩ H4D ?_
  change wpAnyL _ _ _ _ _ _ [1, 2, 4, 10, 11, 12, 13].length _ _ _
  refine wpAnyL_of_seq [1, 2, 4, 10, 11, 12, 13] _ _ _ (by kernel_rfl) ?_
  refine stepL 24 (by kernel_rfl) (of_decide_eq_true (by kernel_rfl)) (by kernel_rfl) (v := .int .i64 sb) (exec_load (ty := 2) (x := .tmp 23) (by kernel_rfl) (pv := .pointer (some ⟨b, 2, none⟩)) (by kernel_rfl) (ld_oneV Try.underlying2 rfl (H3D.atL (show (smC O1 sd sb)[2]? = some (.int .i64 sb) from rfl)))) (fun _ => H4D) ?_
  refine stepL 25 (by kernel_rfl) (of_decide_eq_true (by kernel_rfl)) (by kernel_rfl) (v := .int .i64 (max sb 0)) (exec_max0 (ts := #[2, 2]) (t := 24) (by kernel_rfl) (n := sb) (by kernel_rfl) _) (fun _ => H4D) ?_
  refine stepL 27 (by kernel_rfl) (of_decide_eq_true (by kernel_rfl)) (by kernel_rfl) (v := .int .i64 ((max sb 0).tmod 1152921504606846976)) (exec_rem60 (t' := 2) (x := .tmp 25) (y := .tmp 26) (by kernel_rfl) (n := max sb 0) (by kernel_rfl) (by kernel_rfl) _) (fun _ => H4D) ?_
  refine stepL 33 (by kernel_rfl) (of_decide_eq_true (by kernel_rfl)) (by kernel_rfl) (v := .pointer (some ⟨b, 2, none⟩)) (by kernel_rfl) (fun _ => H4D) ?_
  refine stepL_skip (by kernel_rfl) (of_decide_eq_true (by kernel_rfl)) (by kernel_rfl) (exec_storeV 2 (.tmp 33) (.tmp 27) (by kernel_rfl) (pv := .pointer (some ⟨b, 2, none⟩)) (by kernel_rfl) (v := .int .i64 ((max sb 0).tmod 1152921504606846976)) (by kernel_rfl) (st_oneI (v := undef) (H3D.atL (show (smC O1 sd sb)[2]? = some (.int .i64 sb) from rfl)) (H3D.frozen 2) ((max sb 0).tmod 1152921504606846976))) (fun _ => H4D.far (p := ⟨b, 2, none⟩) (Ne.symm ne) _) ?_
  refine stepL (W' := W5.setCell ⟨b, 2, none⟩ (.int .i64 ((max sb 0).tmod 1152921504606846976))) 34 (by kernel_rfl) (of_decide_eq_true (by kernel_rfl)) (by kernel_rfl) (v := .pointer (some ⟨c, 2, none⟩)) (by kernel_rfl) (fun _ => H4D.far (p := ⟨b, 2, none⟩) (Ne.symm ne) (.int .i64 ((max sb 0).tmod 1152921504606846976))) ?_
  have H4F := H4D.far (p := ⟨b, 2, none⟩) (Ne.symm ne) (.int .i64 ((max sb 0).tmod 1152921504606846976))
  refine stepL_skip (by kernel_rfl) (of_decide_eq_true (by kernel_rfl)) (by kernel_rfl) (exec_storeV 2 (.tmp 34) (.tmp 32) (by kernel_rfl) (pv := .pointer (some ⟨c, 2, none⟩)) (by kernel_rfl) (v := .int .i64 ((max sb' 0).tmod 1152921504606846976)) (by kernel_rfl) (st_oneI (v := undef) (H4F.atL (show (smC O2 sd' sb')[2]? = some (.int .i64 sb') from rfl)) (H4F.frozen 2) ((max sb' 0).tmod 1152921504606846976))) (fun h => absurd rfl h) ?_
  clear H4F
  have H3 := (H3D.setL 2 (.int .i64 ((max sb 0).tmod 1152921504606846976))).far (p := ⟨c, 2, none⟩) ne (.int .i64 ((max sb' 0).tmod 1152921504606846976))
  have H4 := (H4D.far (p := ⟨b, 2, none⟩) (Ne.symm ne) (.int .i64 ((max sb 0).tmod 1152921504606846976))).setL 2 (.int .i64 ((max sb' 0).tmod 1152921504606846976))
  have HB := bsc (bsc HBD (p := ⟨b, 2, none⟩) l3 (.int .i64 ((max sb 0).tmod 1152921504606846976))) (p := ⟨c, 2, none⟩) l4 (.int .i64 ((max sb' 0).tmod 1152921504606846976))
  clear H3D H4D HBD
  unfold wpListL
  dsimp only [Exit.then, putAll, Act.put]
  simp only [List.setIfInBounds_toArray, List.set_cons_succ, List.set_cons_zero]
  generalize (max sb 0).tmod 1152921504606846976 = B1 at r3 H3 H4 HB ⊢
  generalize (max sb' 0).tmod 1152921504606846976 = B2 at r4 H3 H4 HB ⊢
  have H3 : Kp (Blk ((W5.setCell ⟨b, 2, none⟩ (.int .i64 B1)).setCell ⟨c, 2, none⟩ (.int .i64 B2)) b 23 (smC O1 sd B1).toArray) := kp H3
  have H4 : Kp (Blk ((W5.setCell ⟨b, 2, none⟩ (.int .i64 B1)).setCell ⟨c, 2, none⟩ (.int .i64 B2)) c 23 (smC O2 sd' B2).toArray) := kp H4
  have HB := kp HB
  generalize (W5.setCell ⟨b, 2, none⟩ (.int .i64 B1)).setCell ⟨c, 2, none⟩ (.int .i64 B2) = W6 at H3 H4 HB ⊢
  have i1 : In64 O1 := by unfold In64; omega
  have i2 : In64 O2 := by unfold In64; omega
  have i3 : In64 B1 := by unfold In64; omega
  have i4 : In64 B2 := by unfold In64; omega
  have i5 : In64 (B1 + m) := by unfold In64; omega
  obtain ⟨p, hp⟩ : ∃ p, withinB O1 B1 O2 B2 = p := ⟨_, rfl⟩
  have hd : decide (max O1 O2 - min O1 O2 ≤ B1 + B2) = p := by rw [← hp, within_dist r3.1 r4.1]
  have c12 : Kp (∀ w', Calls Try.prog 14 #[.agg #[.int .i64 O1, .int .i64 sd, .int .i64 B1], .agg #[.int .i64 O2, .int .i64 sd', .int .i64 B2]] w' fun e w'' => e = .returned (.bool p) ∧ Below w'.heap.size w' w'') := kp (fun w' => by have h := V_Within O1 sd B1 O2 sd' B2 i1 i3 i2 i4 w'; rwa [hp] at h)
  have c11 : Kp (∀ w', Calls Try.prog 14 #[.agg #[.int .i64 O1, .int .i64 sd, .int .i64 B1], .agg #[.int .i64 O1, .int .i64 sd, .int .i64 B1]] w' fun e w'' => e = .returned (.bool true) ∧ Below w'.heap.size w' w'') := kp (fun w' => by have h := V_Within O1 sd B1 O1 sd B1 i1 i3 i1 i3 w'; rwa [within_self O1 B1 r3.1] at h)
  have c21 : Kp (∀ w', Calls Try.prog 14 #[.agg #[.int .i64 O2, .int .i64 sd', .int .i64 B2], .agg #[.int .i64 O1, .int .i64 sd, .int .i64 B1]] w' fun e w'' => e = .returned (.bool p) ∧ Below w'.heap.size w' w'') := kp (fun w' => by have h := V_Within O2 sd' B2 O1 sd B1 i2 i4 i1 i3 w'; rwa [within_turn, hp] at h)
  have c32 : Kp (p = true → ∀ w', Calls Try.prog 14 #[.agg #[.int .i64 O1, .int .i64 sd, .int .i64 (B1 + m)], .agg #[.int .i64 O2, .int .i64 sd', .int .i64 B2]] w' fun e w'' => e = .returned (.bool true) ∧ Below w'.heap.size w' w'') := kp (fun h w' => by have h2 := V_Within O1 sd (B1 + m) O2 sd' B2 i1 i5 i2 i4 w'; rwa [within_more m hm.1 (hp.trans h)] at h2)
  clear i1 i2 i3 i4 i5 hp
  have x0 := H3.out.atL (show (smC O1 sd B1)[0]? = some (.int .i64 O1) from rfl)
  have x1 := H3.out.atL (show (smC O1 sd B1)[1]? = some (.int .i64 sd) from rfl)
  have x2 := H3.out.atL (show (smC O1 sd B1)[2]? = some (.int .i64 B1) from rfl)
  have xl := H3.out.lt
  have y0 := H4.out.atL (show (smC O2 sd' B2)[0]? = some (.int .i64 O2) from rfl)
  have y1 := H4.out.atL (show (smC O2 sd' B2)[1]? = some (.int .i64 sd') from rfl)
  have y2 := H4.out.atL (show (smC O2 sd' B2)[2]? = some (.int .i64 B2) from rfl)
  have yl := H4.out.lt
  go_upto_region 7 with (go_at_call 14; refine (c12.out _).mono ?_; rintro e w2 ⟨rfl, hb⟩)
  clear x0 x1 x2 xl y0 y1 y2 yl c12
  have H3 := kp (H3.out.bel hb)
  have H4 := kp (H4.out.bel hb)
  have HB := kp (bt' HB.out hb HB.out.size)
  clear hb
  obtain ⟨S1, hS1⟩ : ∃ S, smC O1 sd B1 = S := ⟨_, rfl⟩
  have sl : S1.length = 3 := by subst hS1; rfl
  have so1 := kp (smC_one O1 sd B1)
  rw [hS1] at so1 H3
  have L1 := ld_all (P := Try.prog) b 3 23 23 S1 _ Try.underlying23 rfl info_sm sl H3.out
  have SC := sc_new (P := Try.prog) w2 23 S1 so1.out #[.int .i64 0, .int .i64 0, .int .i64 0] (by rw [sl]; rfl)
  go_upto_region 8 with (refine wpL_load rfl 23 _ rfl rfl L1 ?_)
  change Code.wp _ _ _ _ (w2.alloc (.cells S1.toArray 23))
  clear SC L1
  have n9 : w2.heap.size ≠ b ∧ w2.heap.size ≠ c := by have := H3.out.lt; have := H4.out.lt; omega
  have l9 : w.heap.size ≤ w2.heap.size := HB.out.size
  have H3 := kp (H3.out.alloc (.cells S1.toArray 23))
  have H4 := kp (H4.out.alloc (.cells S1.toArray 23))
  have H9 := kp (Blk.new w2 23 S1.toArray)
  have HB := kp (ba HB.out (.cells S1.toArray 23))
  generalize w2.alloc (.cells S1.toArray 23) = W8 at H3 H4 H9 HB ⊢
  generalize w2.heap.size = b9 at *
  rw [← hS1] at H3 H9
  clear hS1 so1 sl
  have z2 := H9.out.atL (show (smC O1 sd B1)[2]? = some (.int .i64 B1) from rfl)
  have zl := H9.out.lt
  have zf := H9.out.frozen 2
  go_upto_region 9 with (fail)
  clear z2 zl zf
  have H3 := kp (H3.out.far (p := ⟨b9, 2, none⟩) (Ne.symm n9.1) (.int .i64 (B1 + m)))
  have H4 := kp (H4.out.far (p := ⟨b9, 2, none⟩) (Ne.symm n9.2) (.int .i64 (B1 + m)))
  have H9 : Kp (Blk (W8.setCell ⟨b9, 2, none⟩ (.int .i64 (B1 + m))) b9 23 (smC O1 sd (B1 + m)).toArray) := kp (H9.out.setL 2 (.int .i64 (B1 + m)))
  have HB := kp (bsc HB.out (p := ⟨b9, 2, none⟩) l9 (.int .i64 (B1 + m)))
  generalize W8.setCell ⟨b9, 2, none⟩ (.int .i64 (B1 + m)) = W9 at H3 H4 H9 HB ⊢
  have x0 := H3.out.atL (show (smC O1 sd B1)[0]? = some (.int .i64 O1) from rfl)
  have x1 := H3.out.atL (show (smC O1 sd B1)[1]? = some (.int .i64 sd) from rfl)
  have x2 := H3.out.atL (show (smC O1 sd B1)[2]? = some (.int .i64 B1) from rfl)
  have xl := H3.out.lt
  have y0 := H4.out.atL (show (smC O2 sd' B2)[0]? = some (.int .i64 O2) from rfl)
  have y1 := H4.out.atL (show (smC O2 sd' B2)[1]? = some (.int .i64 sd') from rfl)
  have y2 := H4.out.atL (show (smC O2 sd' B2)[2]? = some (.int .i64 B2) from rfl)
  have yl := H4.out.lt
  go_upto_region 10 with (fail)
  clear n9
  cases hpc : p with
  | true =>
    subst hpc
    have c3t := kp (c32.out rfl)
    have hle := of_decide_eq_true hd
    go_wp2_with (first | (go_at_call 14; (with_reducible refine (c11.out _).mono ?_); rintro e w3 ⟨rfl, hb1⟩; have x0 := (H3.out.bel hb1).atL (show (smC O1 sd B1)[0]? = some (.int .i64 O1) from rfl); have x1 := (H3.out.bel hb1).atL (show (smC O1 sd B1)[1]? = some (.int .i64 sd) from rfl); have x2 := (H3.out.bel hb1).atL (show (smC O1 sd B1)[2]? = some (.int .i64 B1) from rfl); have xl := (H3.out.bel hb1).lt; have y0 := (H4.out.bel hb1).atL (show (smC O2 sd' B2)[0]? = some (.int .i64 O2) from rfl); have y1 := (H4.out.bel hb1).atL (show (smC O2 sd' B2)[1]? = some (.int .i64 sd') from rfl); have y2 := (H4.out.bel hb1).atL (show (smC O2 sd' B2)[2]? = some (.int .i64 B2) from rfl); have yl := (H4.out.bel hb1).lt) | (go_at_call 14; (with_reducible refine (c21.out _).mono ?_); rintro e w4 ⟨rfl, hb2⟩; have h12 := bt' hb1 hb2 hb1.size; have x0 := (H3.out.bel h12).atL (show (smC O1 sd B1)[0]? = some (.int .i64 O1) from rfl); have x1 := (H3.out.bel h12).atL (show (smC O1 sd B1)[1]? = some (.int .i64 sd) from rfl); have x2 := (H3.out.bel h12).atL (show (smC O1 sd B1)[2]? = some (.int .i64 B1) from rfl); have xl := (H3.out.bel h12).lt; have y0 := (H4.out.bel h12).atL (show (smC O2 sd' B2)[0]? = some (.int .i64 O2) from rfl); have y1 := (H4.out.bel h12).atL (show (smC O2 sd' B2)[1]? = some (.int .i64 sd') from rfl); have y2 := (H4.out.bel h12).atL (show (smC O2 sd' B2)[2]? = some (.int .i64 B2) from rfl); have yl := (H4.out.bel h12).lt; have z0 := (H9.out.bel h12).atL (show (smC O1 sd (B1 + m))[0]? = some (.int .i64 O1) from rfl); have z1 := (H9.out.bel h12).atL (show (smC O1 sd (B1 + m))[1]? = some (.int .i64 sd) from rfl); have z2 := (H9.out.bel h12).atL (show (smC O1 sd (B1 + m))[2]? = some (.int .i64 (B1 + m)) from rfl); have zl := (H9.out.bel h12).lt) | (go_at_call 14; (with_reducible refine (c3t.out _).mono ?_); rintro e w5 ⟨rfl, hb3⟩; have h13 := bt' h12 hb3 h12.size; have x0 := (H3.out.bel h13).atL (show (smC O1 sd B1)[0]? = some (.int .i64 O1) from rfl); have x1 := (H3.out.bel h13).atL (show (smC O1 sd B1)[1]? = some (.int .i64 sd) from rfl); have x2 := (H3.out.bel h13).atL (show (smC O1 sd B1)[2]? = some (.int .i64 B1) from rfl); have xl := (H3.out.bel h13).lt; have y0 := (H4.out.bel h13).atL (show (smC O2 sd' B2)[0]? = some (.int .i64 O2) from rfl); have y1 := (H4.out.bel h13).atL (show (smC O2 sd' B2)[1]? = some (.int .i64 sd') from rfl); have y2 := (H4.out.bel h13).atL (show (smC O2 sd' B2)[2]? = some (.int .i64 B2) from rfl); have yl := (H4.out.bel h13).lt))
    go_ret
    exact ⟨rfl, bt' HB.out h13 HB.out.size⟩
  | false =>
    subst hpc
    have hle := of_decide_eq_false hd
    have hlt : B1 + B2 < max O1 O2 - min O1 O2 := by omega
    go_wp2_with (first | (go_at_call 14; (with_reducible refine (c11.out _).mono ?_); rintro e w3 ⟨rfl, hb1⟩; have x0 := (H3.out.bel hb1).atL (show (smC O1 sd B1)[0]? = some (.int .i64 O1) from rfl); have x1 := (H3.out.bel hb1).atL (show (smC O1 sd B1)[1]? = some (.int .i64 sd) from rfl); have x2 := (H3.out.bel hb1).atL (show (smC O1 sd B1)[2]? = some (.int .i64 B1) from rfl); have xl := (H3.out.bel hb1).lt; have y0 := (H4.out.bel hb1).atL (show (smC O2 sd' B2)[0]? = some (.int .i64 O2) from rfl); have y1 := (H4.out.bel hb1).atL (show (smC O2 sd' B2)[1]? = some (.int .i64 sd') from rfl); have y2 := (H4.out.bel hb1).atL (show (smC O2 sd' B2)[2]? = some (.int .i64 B2) from rfl); have yl := (H4.out.bel hb1).lt) | (go_at_call 14; (with_reducible refine (c21.out _).mono ?_); rintro e w4 ⟨rfl, hb2⟩; have h12 := bt' hb1 hb2 hb1.size; have x0 := (H3.out.bel h12).atL (show (smC O1 sd B1)[0]? = some (.int .i64 O1) from rfl); have x1 := (H3.out.bel h12).atL (show (smC O1 sd B1)[1]? = some (.int .i64 sd) from rfl); have x2 := (H3.out.bel h12).atL (show (smC O1 sd B1)[2]? = some (.int .i64 B1) from rfl); have xl := (H3.out.bel h12).lt; have y0 := (H4.out.bel h12).atL (show (smC O2 sd' B2)[0]? = some (.int .i64 O2) from rfl); have y1 := (H4.out.bel h12).atL (show (smC O2 sd' B2)[1]? = some (.int .i64 sd') from rfl); have y2 := (H4.out.bel h12).atL (show (smC O2 sd' B2)[2]? = some (.int .i64 B2) from rfl); have yl := (H4.out.bel h12).lt; have z0 := (H9.out.bel h12).atL (show (smC O1 sd (B1 + m))[0]? = some (.int .i64 O1) from rfl); have z1 := (H9.out.bel h12).atL (show (smC O1 sd (B1 + m))[1]? = some (.int .i64 sd) from rfl); have z2 := (H9.out.bel h12).atL (show (smC O1 sd (B1 + m))[2]? = some (.int .i64 (B1 + m)) from rfl); have zl := (H9.out.bel h12).lt))
    go_ret
    exact ⟨rfl, bt' HB.out h12 HB.out.size⟩
end Go.Proofs.Ytkknnnkbegigeaa
