/- Texts laid together: Vol10, Sha0, Sha1, Sha2. -/
import Derived.Test.YtkknnnkbegigeaaVc4
/- volley.Round. -/
namespace Go.Proofs.Ytkknnnkbegigeaa
open Go Go.RowKit
set_option linter.unusedVariables false
set_option linter.unusedSimpArgs false
attribute [local go_sem] bmax2 bmin2 bmax bmin cell_ext frozen_ext

/-- the first error of two -/
def fo (f e : Int) : Int := if f = 0 then e else f
set_option maxHeartbeats 1000000 in
set_option maxRecDepth 100000 in
theorem V_Round_arg (t1 t2 t3 t4 r : Int) (h : ¬ (0 ≤ r ∧ r ≤ 100000000) ∨ t4 < t1 ∨ t3 < t2) (w : World) : Calls Try.prog 12 #[.int .i64 t1, .int .i64 t2, .int .i64 t3, .int .i64 t4, .int .i64 r] w fun e w' => e = .returned (.tuple #[.agg (smC 0 0 0).toArray, .int .i64 1]) ∧ Below w.heap.size w w' := by
  have cM := kp (fun w' => V_may r w')
  have hsc := kp (fun (a b c : Int) v (hv : v ∈ smC a b c) => (by simp only [smC, List.mem_cons, List.not_mem_nil, or_false] at hv; rcases hv with rfl | rfl | rfl <;> rfl : v.oneCell' = true))
  have HB := kp (ba (Below.refl w.heap.size w) (.cells (smC 0 0 0).toArray 23))
  have H10 := kp (Blk.new w 23 (smC 0 0 0).toArray)
  have S0 := kp (st_same (P := Try.prog) w.heap.size 3 23 _ _ info_sm rfl H10.out (hsc.out 0 0 0))
  by_cases h0 : 0 ≤ r ∧ r ≤ 100000000
  · rw [decide_eq_true h0] at cM
    by_cases h1 : t4 < t1
    · clear h0 h
      go_enter Try.func12, Try.ntmps12
      go_upto_region 1 with (fail)
      change Code.wp _ _ _ _ (w.alloc (.cells (smC 0 0 0).toArray 23))
      generalize w.alloc (.cells (smC 0 0 0).toArray 23) = W at H10 HB S0 ⊢
      have S0 := S0.out
      go_wp2_with (first | (go_at_call 28; refine (cM.out _).mono ?_; rintro e w1 ⟨rfl, rfl⟩) | (refine wpL_store rfl 23 _ _ rfl rfl rfl S0 ?_))
      refine bodyPost_ret (v := .tuple #[.agg (smC 0 0 0).toArray, .int .i64 1]) ?_ rfl ⟨rfl, HB.out⟩
      exact res2 Try.results12 w.heap.size 3 _ _ _ Try.underlying23 rfl info_sm rfl H10.out _ rfl _ rfl
    · have h2 : t3 < t2 := by rcases h with h | h | h
                              · exact absurd h0 h
                              · exact absurd h h1
                              · exact h
      clear h h0
      go_enter Try.func12, Try.ntmps12
      go_upto_region 1 with (fail)
      change Code.wp _ _ _ _ (w.alloc (.cells (smC 0 0 0).toArray 23))
      generalize w.alloc (.cells (smC 0 0 0).toArray 23) = W at H10 HB S0 ⊢
      have S0 := S0.out
      go_wp2_with (first | (go_at_call 28; refine (cM.out _).mono ?_; rintro e w1 ⟨rfl, rfl⟩) | (refine wpL_store rfl 23 _ _ rfl rfl rfl S0 ?_))
      refine bodyPost_ret (v := .tuple #[.agg (smC 0 0 0).toArray, .int .i64 1]) ?_ rfl ⟨rfl, HB.out⟩
      exact res2 Try.results12 w.heap.size 3 _ _ _ Try.underlying23 rfl info_sm rfl H10.out _ rfl _ rfl
  · rw [decide_eq_false h0] at cM
    clear h0 h
    go_enter Try.func12, Try.ntmps12
    go_upto_region 1 with (fail)
    change Code.wp _ _ _ _ (w.alloc (.cells (smC 0 0 0).toArray 23))
    generalize w.alloc (.cells (smC 0 0 0).toArray 23) = W at H10 HB S0 ⊢
    have S0 := S0.out
    go_wp2_with (first | (go_at_call 28; refine (cM.out _).mono ?_; rintro e w1 ⟨rfl, rfl⟩) | (refine wpL_store rfl 23 _ _ rfl rfl rfl S0 ?_))
    refine bodyPost_ret (v := .tuple #[.agg (smC 0 0 0).toArray, .int .i64 1]) ?_ rfl ⟨rfl, HB.out⟩
    exact res2 Try.results12 w.heap.size 3 _ _ _ Try.underlying23 rfl info_sm rfl H10.out _ rfl _ rfl
/-- Round's numbers -/
def vRF4 (t1 t2 t3 t4 : Int) : Int := fo (fo (fo (intE (t4 - t1)) (intE (t3 - t2))) (intE (t2 - t1))) (intE (t3 - t4))
def vRDel (t1 t2 t3 t4 : Int) : Int := t4 - t1 - (t3 - t2)
def vRHalf (t1 t2 t3 t4 : Int) : Int := (t2 - t1 + (t3 - t4)) / 2
def vRF6 (t1 t2 t3 t4 : Int) : Int := fo (fo (vRF4 t1 t2 t3 t4) (intE (vRDel t1 t2 t3 t4))) (intE (vRHalf t1 t2 t3 t4))
def vRUp (t1 t4 r : Int) : Int := upQ (intV (t4 - t1) * (2 * r))
def vRBnd (t1 t2 t3 t4 r : Int) : Int := (vRDel t1 t2 t3 t4 + 1) / 2 + intV (vRUp t1 t4 r) + 2
def vRF8 (t1 t2 t3 t4 r : Int) : Int := fo (fo (vRF6 t1 t2 t3 t4) (intE (vRUp t1 t4 r))) (intE (vRBnd t1 t2 t3 t4 r))
/-- Round's error -/
def vRE (t1 t2 t3 t4 r : Int) : Int := if vRF8 t1 t2 t3 t4 r = 0 then (if intV (vRDel t1 t2 t3 t4) < 0 then 3 else 0) else vRF8 t1 t2 t3 t4 r
def vRS (t1 t2 t3 t4 r : Int) : List Value := if vRE t1 t2 t3 t4 r = 0 then smC (intV (vRHalf t1 t2 t3 t4)) (intV (vRDel t1 t2 t3 t4)) (intV (vRBnd t1 t2 t3 t4 r)) else smC 0 0 0
section
variable {P : Program}
theorem exec_storeV {o : Oper} {a : Act} {w w' : World} (ty : TypeId) (x y : Operand) (ho : o.op = .store ty x y) {pv v : Value} (hx : a.eval x = pv) (hy : a.eval y = v) (hr : (Instr.storeAt ty pv v).run P w = .ok () w') : (execOp a.eval o).run P w = .ok .skip w' := by
  unfold execOp
  simp only [ho, hx, hy, Sem.run_bind, hr, Result.andThen_ok, Sem.run_pure]
theorem stepS_skipV {ops : Array Oper} {Q : Exit → Act → World → Prop} {S : World → Prop} {i : Nat} {t : List Nat} {a : Act} {w W' : World} (hd : (ops.getD i default).dst = none) (hi : i < ops.size) (hg : (ops.getD i default).guard = none) (hr : (execOp a.eval (ops.getD i default)).run P w = .ok .skip W') (hS : S W') (h : wpListS P ops Q S t a W') : wpListS P ops Q S (i :: t) a w := by
  unfold wpListS wpOp
  simp only [getD_some hi]
  rw [if_pos (by unfold Region.wanted; rw [hg])]
  refine .inl ?_
  unfold Oper.wp
  rw [hr]
  show S W' ∧ wpListS P ops Q S t (a.put _ undef) W'
  rw [hd]
  exact ⟨hS, h⟩
end
theorem ld_oneV {P : Program} {w : World} {ty : TypeId} {d : TypeDesc} (hu : P.underlying ty = some d) (hd : aggB d = false) {b o : Nat} {v : Value} (hc : w.cell? ⟨b, o, none⟩ = some v) : (Instr.loadAt ty (.pointer (some ⟨b, o, none⟩))).run P w = .ok v w := by
  have hagg : (isAgg ty).run P w = .ok false w := by
    unfold isAgg
    rw [Sem.run_bind, run_underlying hu w]
    cases d <;> simp_all [aggB]
  simp [Instr.loadAt, Instr.sureAddr, loadVar, Sem.run_bind, hagg, hc]
theorem drawn_bel {B : Nat} {w W : World} (h : Below B w W) (n : Nat) : Below B w { W with drawn := n } := ⟨h.os, h.tape, h.output, h.size, h.block⟩
/-- the memory beside the error's cell -/
structure VRS (w W : World) (b10 b12 b18 b22 : Nat) (D H : List Value) : Prop where
  below : Below w.heap.size w W
  h10 : Blk W b10 23 (smC 0 0 0).toArray
  h18 : Blk W b18 71 D.toArray
  h22 : Blk W b22 71 H.toArray
theorem VRS.bel {w W W' : World} {b10 b12 b18 b22 : Nat} {D H : List Value} (h : VRS w W b10 b12 b18 b22 D H) (hb : Below W.heap.size W W') : VRS w W' b10 b12 b18 b22 D H := ⟨bt' h.below hb h.below.size, h.h10.bel hb, h.h18.bel hb, h.h22.bel hb⟩
theorem VRS.fit {w W W' : World} {b10 b12 b18 b22 : Nat} {D H : List Value} (h : VRS w W b10 b12 b18 b22 D H) (n10 : b10 ≠ b12) (n18 : b18 ≠ b12) (n22 : b22 ≠ b12) (hle : w.heap.size ≤ b12) (hg : W.grownBy W' (some b12)) : VRS w W' b10 b12 b18 b22 D H := ⟨bgb h.below hg hle h.below.size, h.h10.grown hg (by simpa using n10), h.h18.grown hg (by simpa using n18), h.h22.grown hg (by simpa using n22)⟩
set_option maxHeartbeats 4000000 in
set_option maxRecDepth 100000 in
theorem V_Round_ok (t1 t2 t3 t4 r : Int) (h1 : In64 t1) (h2 : In64 t2) (h3 : In64 t3) (h4 : In64 t4) (hr : 0 ≤ r ∧ r ≤ 100000000) (h14 : t1 ≤ t4) (h23 : t2 ≤ t3) (w : World) : Calls Try.prog 12 #[.int .i64 t1, .int .i64 t2, .int .i64 t3, .int .i64 t4, .int .i64 r] w fun e w' => e = .returned (.tuple #[.agg (vRS t1 t2 t3 t4 r).toArray, .int .i64 (vRE t1 t2 t3 t4 r)]) ∧ Below w.heap.size w w' := by
  have cM := kp (fun w' => V_may r w')
  rw [decide_eq_true hr] at cM
  have cAt := kp (fun w' => V_less t4 t1 h4 h1 w')
  have cBk := kp (fun w' => V_less t3 t2 h3 h2 w')
  have cX := kp (fun w' => V_less t2 t1 h2 h1 w')
  have cY := kp (fun w' => V_less t3 t4 h3 h4 w')
  have hsp := intV0 (t4 - t1)
  have hsp0 : 0 ≤ intV (t4 - t1) := by unfold intV; split <;> omega
  have hw2 : wrap64 (2 * r) = 2 * r := IntWalk.wrap64_in _ (by omega)
  have g1 : decide (t4 < t1) = false := decide_eq_false (by omega)
  have g2 : decide (t3 < t2) = false := decide_eq_false (by omega)
  have m1 : ¬ t4 < t1 := by omega
  have m2 : ¬ t3 < t2 := by omega
  unfold vRS vRE vRF8 vRBnd
  have cG := kp (fun w' => D_Grown (intV (t4 - t1)) (2 * r) ⟨hsp0, hsp.2⟩ (by omega) w')
  have hgv := intV0 (vRUp t1 t4 r)
  rw [show upQ (intV (t4 - t1) * (2 * r)) = vRUp t1 t4 r from rfl] at cG
  generalize vRUp t1 t4 r = up at *
  unfold vRF6 vRF4
  have e1 : In128 (t4 - t1) := (in128_64 h4 h1).2
  have e2 : In128 (t3 - t2) := (in128_64 h3 h2).2
  have e3 : In128 (t2 - t1) := (in128_64 h2 h1).2
  have e4 : In128 (t3 - t4) := (in128_64 h3 h4).2
  have e5 : In128 (vRDel t1 t2 t3 t4) := by unfold vRDel; unfold In64 at h1 h2 h3 h4; unfold In128; omega
  have e6 : In128 (t2 - t1 + (t3 - t4)) := by unfold In64 at h1 h2 h3 h4; unfold In128; omega
  have e7 : In128 (vRHalf t1 t2 t3 t4) := by unfold vRHalf; unfold In64 at h1 h2 h3 h4; unfold In128; omega
  have e8 : In128 (vRDel t1 t2 t3 t4 + 1) := by unfold vRDel; unfold In64 at h1 h2 h3 h4; unfold In128; omega
  have e9 : In128 ((vRDel t1 t2 t3 t4 + 1) / 2) := by unfold vRDel; unfold In64 at h1 h2 h3 h4; unfold In128; omega
  have e10 : In128 ((vRDel t1 t2 t3 t4 + 1) / 2 + intV up) := by unfold vRDel; unfold In64 at h1 h2 h3 h4 hgv; unfold In128; omega
  have e11 : In128 ((vRDel t1 t2 t3 t4 + 1) / 2 + intV up + 2) := by unfold vRDel; unfold In64 at h1 h2 h3 h4 hgv; unfold In128; omega
  have i1 : In128 1 := by unfold In128; omega
  have i2 : In128 2 := by unfold In128; omega
  have iu : In128 (intV up) := by unfold In64 at hgv; unfold In128; omega
  have cF1 := kp (fun b f w' H => V_fit (t4 - t1) e1 b f w' H)
  have cF2 := kp (fun b f w' H => V_fit (t3 - t2) e2 b f w' H)
  have cF3 := kp (fun b f w' H => V_fit (t2 - t1) e3 b f w' H)
  have cF4 := kp (fun b f w' H => V_fit (t3 - t4) e4 b f w' H)
  have cF5 := kp (fun b f w' H => V_fit (vRDel t1 t2 t3 t4) e5 b f w' H)
  have cF6 := kp (fun b f w' H => V_fit (vRHalf t1 t2 t3 t4) e7 b f w' H)
  have cF8 := kp (fun b f w' H => V_fit ((vRDel t1 t2 t3 t4 + 1) / 2 + intV up + 2) e11 b f w' H)
  have cS := kp (fun w' => W_Sub_in (t4 - t1) (t3 - t2) e1 e2 e5 w')
  have cA := kp (fun w' => W_Add_in (t2 - t1) (t3 - t4) e3 e4 e6 w')
  have cD := kp (fun w' => W_Div (t2 - t1 + (t3 - t4)) 2 e6 (by omega) (by omega) w')
  have cE := kp (fun w' => W_Div (vRDel t1 t2 t3 t4 + 1) 2 e8 (by omega) (by omega) w')
  have c1 := kp (fun w' => W_Of 1 (by omega) (by omega) w')
  have c2 := kp (fun w' => W_Of 2 (by omega) (by omega) w')
  have cU := kp (fun w' => W_Of (intV up) hgv.1 hgv.2 w')
  have cs1 := kp (fun w' => V_sum (vRDel t1 t2 t3 t4) 1 e5 i1 e8 w')
  have cs2 := kp (fun w' => V_sum ((vRDel t1 t2 t3 t4 + 1) / 2) (intV up) e9 iu e10 w')
  have cs3 := kp (fun w' => V_sum ((vRDel t1 t2 t3 t4 + 1) / 2 + intV up) 2 e10 i2 e11 w')
  rw [show t4 - t1 - (t3 - t2) = vRDel t1 t2 t3 t4 from rfl] at cS
  rw [show ((2 : Nat) : Int) = 2 from rfl] at cD cE
  rw [show (t2 - t1 + (t3 - t4)) / 2 = vRHalf t1 t2 t3 t4 from rfl] at cD
  clear e1 e2 e3 e4 e5 e6 e7 e8 e9 e10 e11 i1 i2 iu hgv hsp hsp0 h1 h2 h3 h4 h14 h23
  generalize vRDel t1 t2 t3 t4 = del at *
  generalize vRHalf t1 t2 t3 t4 = half at *
  generalize (del + 1) / 2 + intV up + 2 = bnd at *
  have hAl := numC_length (t4 - t1)
  have HA1 := kp (numC_one (t4 - t1))
  have hBl := numC_length (t3 - t2)
  have HB1 := kp (numC_one (t3 - t2))
  have hDl := numC_length del
  have HD1 := kp (numC_one del)
  have hHl := numC_length half
  have HH1 := kp (numC_one half)
  have hGl := numC_length (t2 - t1 + (t3 - t4))
  have HG1 := kp (numC_one (t2 - t1 + (t3 - t4)))
  have hUl := numC_length ((del + 1) / 2)
  have HU1 := kp (numC_one ((del + 1) / 2))
  have hZl := numC_length bnd
  have HZ1 := kp (numC_one bnd)
  generalize intV (t4 - t1) = span at *
  generalize intV (t3 - t2) = v2 at *
  generalize intV (t2 - t1) = v3 at *
  generalize intV (t3 - t4) = v4 at *
  generalize intV del = vd at *
  generalize intV half = vh at *
  generalize intV up = gv at *
  generalize intV bnd = vb at *
  generalize hF1 : intE (t4 - t1) = f1 at *
  generalize intE (t3 - t2) = x2 at *
  generalize intE (t2 - t1) = x3 at *
  generalize intE (t3 - t4) = x4 at *
  generalize intE del = x5 at *
  generalize intE half = x6 at *
  generalize intE up = ge at *
  generalize intE bnd = x8 at *
  clear hF1
  generalize (t2 - t1 + (t3 - t4)) % 2 = rm1 at *
  generalize (del + 1) % 2 = rm2 at *
  generalize numC bnd = Z at *
  generalize numC ((del + 1) / 2 + gv) = Y1 at *
  generalize numC ((del + 1) / 2) = U at *
  generalize numC (del + 1) = D1 at *
  generalize numC del = D at *
  generalize numC half = H at *
  generalize numC (t2 - t1 + (t3 - t4)) = G at *
  generalize numC (t4 - t1) = A at *
  generalize numC (t3 - t2) = B at *
  generalize numC (t2 - t1) = X at *
  generalize numC (t3 - t4) = Y at *
  generalize numC 1 = N1 at *
  generalize numC 2 = N2 at *
  generalize numC gv = NG at *
  generalize hf2 : fo f1 x2 = f2 at *
  generalize hf3 : fo f2 x3 = f3 at *
  generalize hf4 : fo f3 x4 = f4 at *
  generalize hf5 : fo f4 x5 = f5 at *
  generalize hf6 : fo f5 x6 = f6 at *
  generalize hf7 : fo f6 ge = f7 at *
  generalize hf8 : fo f7 x8 = f8 at *
  generalize hER : (if f8 = 0 then (if vd < 0 then (3 : Int) else 0) else f8) = ER at *
  generalize hSR : (if ER = 0 then smC vh vd vb else smC 0 0 0) = SR at *
  have HER := kp hER
  have HSR := kp hSR
  clear hER hSR
  unfold fo at hf2 hf3 hf4 hf5 hf6 hf7 hf8
  have Hf2 := kp hf2
  have Hf3 := kp hf3
  have Hf4 := kp hf4
  have Hf5 := kp hf5
  have Hf6 := kp hf6
  have Hf7 := kp hf7
  have Hf8 := kp hf8
  clear hf2 hf3 hf4 hf5 hf6 hf7 hf8
  have hsc := kp (fun (a b c : Int) v (hv : v ∈ smC a b c) => (by simp only [smC, List.mem_cons, List.not_mem_nil, or_false] at hv; rcases hv with rfl | rfl | rfl <;> rfl : v.oneCell' = true))
  have H10 := kp ((Blk.new w 23 (smC 0 0 0).toArray).alloc (.cells ([.int .i64 0] : List Value).toArray 25))
  have F := kp (Blk.new (w.alloc (.cells (smC 0 0 0).toArray 23)) 25 ([.int .i64 0] : List Value).toArray)
  have HB := kp (ba (ba (Below.refl w.heap.size w) (.cells (smC 0 0 0).toArray 23)) (.cells ([.int .i64 0] : List Value).toArray 25))
  rw [size_all] at F
  have hle : w.heap.size ≤ w.heap.size + 1 := by omega
  have n10 : w.heap.size ≠ w.heap.size + 1 := by omega
  go_enter Try.func12, Try.ntmps12
  go_upto_region 4 with (go_at_call 28; refine (cM.out _).mono ?_; rintro e w1 ⟨rfl, rfl⟩)
  change Code.wp _ _ _ _ ((w.alloc (.cells (smC 0 0 0).toArray 23)).alloc (.cells ([.int .i64 0] : List Value).toArray 25))
  generalize (w.alloc (.cells (smC 0 0 0).toArray 23)).alloc (.cells ([.int .i64 0] : List Value).toArray 25) = W at H10 F HB ⊢
  generalize w.heap.size + 1 = b12 at *
  clear g1 g2 m1 m2 cM
  go_upto_region 6 with (fail)
  go_upto_region 7 with (first | (go_at_call 31; with_reducible refine (cAt.out _).mono ?_; rintro e w1 ⟨rfl, hb1⟩) | (go_at_call 31; (with_reducible refine (cBk.out _).mono ?_); rintro e w2 ⟨rfl, hb2⟩; have K15 := (Blk.new w2 71 #[.int .i64 0, .int .u64 0]).alloc (.cells #[.int .i64 0, .int .u64 0] 71); have K16 := Blk.new (w2.alloc (.cells #[.int .i64 0, .int .u64 0] 71)) 71 #[.int .i64 0, .int .u64 0]; rw [size_all] at K16; have SC := sc_all (P := Try.prog) (w := (w2.alloc (.cells #[.int .i64 0, .int .u64 0] 71)).alloc (.cells #[.int .i64 0, .int .u64 0] 71)) w2.heap.size 71 A [.int .i64 0, .int .u64 0] K15 hAl HA1.out; have SD := sc_all (P := Try.prog) (w := ((w2.alloc (.cells #[.int .i64 0, .int .u64 0] 71)).alloc (.cells #[.int .i64 0, .int .u64 0] 71)).setRow w2.heap.size A.toArray) (w2.heap.size + 1) 71 B [.int .i64 0, .int .u64 0] (K16.rowfar (by omega) A.toArray) hBl HB1.out))
  have H10 := kp ((((((H10.out.bel hb1).bel hb2).alloc (.cells #[.int .i64 0, .int .u64 0] 71)).alloc (.cells #[.int .i64 0, .int .u64 0] 71)).rowfar (b := w2.heap.size) (by have := ((H10.out.bel hb1).bel hb2).lt; omega) A.toArray).rowfar (b := w2.heap.size + 1) (by have := ((H10.out.bel hb1).bel hb2).lt; omega) B.toArray)
  have n15 : w2.heap.size ≠ b12 := by have := ((F.out.bel hb1).bel hb2).lt; omega
  have n16 : w2.heap.size + 1 ≠ b12 := by have := ((F.out.bel hb1).bel hb2).lt; omega
  have F := kp ((((((F.out.bel hb1).bel hb2).alloc (.cells #[.int .i64 0, .int .u64 0] 71)).alloc (.cells #[.int .i64 0, .int .u64 0] 71)).rowfar (b := w2.heap.size) (Ne.symm n15) A.toArray).rowfar (b := w2.heap.size + 1) (Ne.symm n16) B.toArray)
  have H15 := kp ((K15.row A.toArray).rowfar (b := w2.heap.size + 1) (by omega) B.toArray)
  have H16 := kp ((K16.rowfar (b := w2.heap.size) (by omega) A.toArray).row B.toArray)
  have q1 := bt' HB.out hb1 HB.out.size
  have q2 := bt' q1 hb2 q1.size
  have q3 := ba (ba q2 (.cells #[.int .i64 0, .int .u64 0] 71)) (.cells #[.int .i64 0, .int .u64 0] 71)
  have q4 := bsr q3 q2.size q3.size A.toArray
  have HB := kp (bsr q4 (b := w2.heap.size + 1) (by have := q2.size; omega) q4.size B.toArray)
  clear q1 q2 q3 q4 hb1 hb2 SC SD K15 K16
  generalize (((w2.alloc (.cells #[.int .i64 0, .int .u64 0] 71)).alloc (.cells #[.int .i64 0, .int .u64 0] 71)).setRow w2.heap.size A.toArray).setRow (w2.heap.size + 1) B.toArray = W7 at H10 F H15 H16 HB ⊢
  generalize w2.heap.size + 1 = b16 at *
  generalize w2.heap.size = b15 at *
  have L := ld_all (P := Try.prog) b15 2 71 71 A _ Try.underlying71 rfl info_num hAl H15.out
  go_upto_region 8 with (first | (refine wpL_load rfl 71 _ rfl rfl L ?_) | (go_at_call 29; refine (cF1.out b12 _ _ F.out).mono ?_; rintro e w7 ⟨rfl, hg, hF⟩))
  clear L
  simp only [↓reduceIte] at hF
  have F := kp hF
  have H10 := kp (H10.out.grown hg (by simpa using n10))
  have H15 := kp (H15.out.grown hg (by simpa using n15))
  have H16 := kp (H16.out.grown hg (by simpa using n16))
  have HB := kp (bgb HB.out hg hle HB.out.size)
  clear hg hF
  have L := ld_all (P := Try.prog) b16 2 71 71 B _ Try.underlying71 rfl info_num hBl H16.out
  go_upto_region 9 with (first | (refine wpL_load rfl 71 _ rfl rfl L ?_) | (go_at_call 29; refine (cF2.out b12 _ _ F.out).mono ?_; rintro e w8 ⟨rfl, hg, hF⟩))
  clear L
  rw [Hf2.out] at hF
  have F := kp hF
  have H10 := kp (H10.out.grown hg (by simpa using n10))
  have H15 := kp (H15.out.grown hg (by simpa using n15))
  have H16 := kp (H16.out.grown hg (by simpa using n16))
  have HB := kp (bgb HB.out hg hle HB.out.size)
  clear hg hF
  have L := ld_all (P := Try.prog) b15 2 71 71 A _ Try.underlying71 rfl info_num hAl H15.out
  have M := ld_all (P := Try.prog) b16 2 71 71 B _ Try.underlying71 rfl info_num hBl H16.out
  go_upto_region 10 with (first | (refine wpL_load rfl 71 _ rfl rfl L ?_) | (refine wpL_load rfl 71 _ rfl rfl M ?_) | (go_at_call 32; refine (cS.out _).mono ?_; rintro e w9 ⟨rfl, hb⟩; have SC := sc_new (P := Try.prog) w9 71 D HD1.out #[.int .i64 0, .int .u64 0] (by rw [hDl]; rfl)))
  change Code.wp _ _ _ _ (w9.alloc (.cells D.toArray 71))
  clear SC
  have H10 := kp (H10.out.bel hb)
  have H15 := kp (H15.out.bel hb)
  have H16 := kp (H16.out.bel hb)
  have F := kp (F.out.bel hb)
  have HB := kp (bt' HB.out hb HB.out.size)
  have n18 : w9.heap.size ≠ b12 := by have := F.out.lt; omega
  have l18 : w.heap.size ≤ w9.heap.size := HB.out.size
  have H10 := kp (H10.out.alloc (.cells D.toArray 71))
  have H15 := kp (H15.out.alloc (.cells D.toArray 71))
  have H16 := kp (H16.out.alloc (.cells D.toArray 71))
  have F := kp (F.out.alloc (.cells D.toArray 71))
  have HB := kp (ba HB.out (.cells D.toArray 71))
  have H18 := kp (Blk.new w9 71 D.toArray)
  clear hb
  generalize w9.alloc (.cells D.toArray 71) = W10 at H10 H15 H16 H18 F HB ⊢
  generalize w9.heap.size = b18 at *
  clear L M H15 H16
  go_upto_region 11 with (first | (go_at_call 31; with_reducible refine (cX.out _).mono ?_; rintro e w11 ⟨rfl, hb1⟩) | (go_at_call 31; with_reducible refine (cY.out _).mono ?_; rintro e w12 ⟨rfl, hb2⟩) | (go_at_call 34; refine (cA.out _).mono ?_; rintro e w13 ⟨rfl, hb3⟩; have SC := sc_new (P := Try.prog) w13 71 G HG1.out #[.int .i64 0, .int .u64 0] (by rw [hGl]; rfl)))
  change Code.wp _ _ _ _ (w13.alloc (.cells G.toArray 71))
  clear SC
  have H10 := kp (H10.out.bel hb1)
  have H18 := kp (H18.out.bel hb1)
  have F := kp (F.out.bel hb1)
  have HB := kp (bt' HB.out hb1 HB.out.size)
  have H10 := kp (H10.out.bel hb2)
  have H18 := kp (H18.out.bel hb2)
  have F := kp (F.out.bel hb2)
  have HB := kp (bt' HB.out hb2 HB.out.size)
  have H10 := kp (H10.out.bel hb3)
  have H18 := kp (H18.out.bel hb3)
  have F := kp (F.out.bel hb3)
  have HB := kp (bt' HB.out hb3 HB.out.size)
  have n20 : w13.heap.size ≠ b12 := by have := F.out.lt; omega
  have l20 : w.heap.size ≤ w13.heap.size := HB.out.size
  have H10 := kp (H10.out.alloc (.cells G.toArray 71))
  have H18 := kp (H18.out.alloc (.cells G.toArray 71))
  have F := kp (F.out.alloc (.cells G.toArray 71))
  have HB := kp (ba HB.out (.cells G.toArray 71))
  have H20 := kp (Blk.new w13 71 G.toArray)
  clear hb1 hb2 hb3
  generalize w13.alloc (.cells G.toArray 71) = W11 at H10 H18 H20 F HB ⊢
  generalize w13.heap.size = b20 at *
  go_upto_region 12 with (first | (go_at_call 31; with_reducible refine (cX.out _).mono ?_; rintro e x1 ⟨rfl, hb⟩) | (go_at_call 29; refine (cF3.out b12 _ _ (F.out.bel hb)).mono ?_; rintro e y1 ⟨rfl, hg, hF⟩))
  have H10 := kp (H10.out.bel hb)
  have H18 := kp (H18.out.bel hb)
  have H20 := kp (H20.out.bel hb)
  have HB := kp (bt' HB.out hb HB.out.size)
  rw [Hf3.out] at hF
  have F := kp hF
  have H10 := kp (H10.out.grown hg (by simpa using n10))
  have H18 := kp (H18.out.grown hg (by simpa using n18))
  have H20 := kp (H20.out.grown hg (by simpa using n20))
  have HB := kp (bgb HB.out hg hle HB.out.size)
  clear hg hF hb
  go_upto_region 13 with (first | (go_at_call 31; with_reducible refine (cY.out _).mono ?_; rintro e x2 ⟨rfl, hb⟩) | (go_at_call 29; refine (cF4.out b12 _ _ (F.out.bel hb)).mono ?_; rintro e y2 ⟨rfl, hg, hF⟩))
  have H10 := kp (H10.out.bel hb)
  have H18 := kp (H18.out.bel hb)
  have H20 := kp (H20.out.bel hb)
  have HB := kp (bt' HB.out hb HB.out.size)
  rw [Hf4.out] at hF
  have F := kp hF
  have H10 := kp (H10.out.grown hg (by simpa using n10))
  have H18 := kp (H18.out.grown hg (by simpa using n18))
  have H20 := kp (H20.out.grown hg (by simpa using n20))
  have HB := kp (bgb HB.out hg hle HB.out.size)
  clear hg hF hb
  have L := ld_all (P := Try.prog) b20 2 71 71 G _ Try.underlying71 rfl info_num hGl H20.out
  go_upto_region 14 with (first | (refine wpL_load rfl 71 _ rfl rfl L ?_) | (go_at_call 35; refine (cD.out _).mono ?_; rintro e w14 ⟨rfl, hb⟩; have SC := sc_new (P := Try.prog) w14 71 H HH1.out #[.int .i64 0, .int .u64 0] (by rw [hHl]; rfl)))
  change Code.wp _ _ _ _ (w14.alloc (.cells H.toArray 71))
  clear SC
  have H10 := kp (H10.out.bel hb)
  have H18 := kp (H18.out.bel hb)
  have H20 := kp (H20.out.bel hb)
  have F := kp (F.out.bel hb)
  have HB := kp (bt' HB.out hb HB.out.size)
  have n22 : w14.heap.size ≠ b12 := by have := F.out.lt; omega
  have l22 : w.heap.size ≤ w14.heap.size := HB.out.size
  have H10 := kp (H10.out.alloc (.cells H.toArray 71))
  have H18 := kp (H18.out.alloc (.cells H.toArray 71))
  have H20 := kp (H20.out.alloc (.cells H.toArray 71))
  have F := kp (F.out.alloc (.cells H.toArray 71))
  have HB := kp (ba HB.out (.cells H.toArray 71))
  have H22 := kp (Blk.new w14 71 H.toArray)
  clear hb
  generalize w14.alloc (.cells H.toArray 71) = W14 at H10 H18 H20 H22 F HB ⊢
  generalize w14.heap.size = b22 at *
  clear L H20
  have HVS : VRS w { W14 with drawn := W14.drawn + 1 } w.heap.size b12 b18 b22 D H := ⟨drawn_bel HB.out _, H10.out, H18.out, H22.out⟩
  have HF0 : Blk { W14 with drawn := W14.drawn + 1 } b12 25 ([.int .i64 f4] : List Value).toArray := F.out
  refine wp_region_held (S := fun W' => VRS w W' w.heap.size b12 b18 b22 D H) (by kernel_rfl) ?_
  change wpAnyH _ _ _ _ _ 9 _ _ _
  refine takeAll (by kernel_rfl) (fun _ _ d _ _ h => by cases d <;> exact h) [(0, 96), (1, 97), (3, 99), (4, 100)] [.func (.func 29) #[] #[.pointer (some ⟨b12, 0, none⟩)], .agg D.toArray, .func (.func 29) #[] #[.pointer (some ⟨b12, 0, none⟩)], .agg H.toArray] _ _ _ 5 (by kernel_rfl)
    ⟨Or.inl ⟨by kernel_rfl, fun w hS => by kernel_rfl⟩, Or.inl ⟨by kernel_rfl, fun w hS => exec_load (ty := 71) (x := .tmp 18) (by kernel_rfl) (pv := .pointer (some ⟨b18, 0, none⟩)) (by kernel_rfl) (ld_all (P := Try.prog) b18 2 71 71 D _ Try.underlying71 rfl info_num hDl hS.h18)⟩, Or.inl ⟨by kernel_rfl, fun w hS => by kernel_rfl⟩, Or.inl ⟨by kernel_rfl, fun w hS => exec_load (ty := 71) (x := .tmp 22) (by kernel_rfl) (pv := .pointer (some ⟨b22, 0, none⟩)) (by kernel_rfl) (ld_all (P := Try.prog) b22 2 71 71 H _ Try.underlying71 rfl info_num hHl hS.h22)⟩, trivial⟩ HVS ?_
  refine comb (by kernel_rfl) 7 25 (of_decide_eq_true (by kernel_rfl)) (by kernel_rfl) (by kernel_rfl) [(2, 98), (5, 101), (6, 102)] [.int .i64 vd, .int .i64 vh, .agg (smC vh vd 0).toArray] (fun W' => Blk W' b12 25 ([.int .i64 f4] : List Value).toArray) [fun W' => Blk W' b12 25 ([.int .i64 f5] : List Value).toArray, fun W' => Blk W' b12 25 ([.int .i64 f6] : List Value).toArray, fun W' => Blk W' b12 25 ([.int .i64 f6] : List Value).toArray] _ _ _ 1
    (V := fun u W' => ∃ bk, u = .pointer (some ⟨bk, 0, none⟩) ∧ w.heap.size ≤ bk ∧ bk ≠ b12 ∧ bk ≠ w.heap.size ∧ bk ≠ b18 ∧ bk ≠ b22 ∧ Blk W' bk 23 (smC 0 0 0).toArray) (pf := fun W' => Blk W' b12 25 ([.int .i64 f6] : List Value).toArray) (by kernel_rfl) ⟨?_, ?_, ?_, fun _ h => h⟩ ?_ HVS HF0 ?_
  · intro W hS hp
    refine Or.inr ⟨29, #[.agg D.toArray, .pointer (some ⟨b12, 0, none⟩)], by kernel_rfl, (cF5.out b12 _ W hp).mono fun e W' ⟨he, h1, h2⟩ => ⟨he, hS.fit n10 n18 n22 hle h1, by rw [Hf5.out] at h2; exact h2, ?_⟩⟩
    rintro u ⟨bk, e1, e2, e3, e4, e5, e6, e7⟩
    exact ⟨bk, e1, e2, e3, e4, e5, e6, e7.grown h1 (by simpa using e3)⟩
  · intro W hS hp
    refine Or.inr ⟨29, #[.agg H.toArray, .pointer (some ⟨b12, 0, none⟩)], by kernel_rfl, (cF6.out b12 _ W hp).mono fun e W' ⟨he, h1, h2⟩ => ⟨he, hS.fit n10 n18 n22 hle h1, by rw [Hf6.out] at h2; exact h2, ?_⟩⟩
    rintro u ⟨bk, e1, e2, e3, e4, e5, e6, e7⟩
    exact ⟨bk, e1, e2, e3, e4, e5, e6, e7.grown h1 (by simpa using e3)⟩
  · intro W hS hp
    exact Or.inl ⟨W, by kernel_rfl, hS, hp, fun u h => h⟩
  · have key : ∀ f W, VRS w W w.heap.size b12 b18 b22 D H → Blk W b12 25 ([.int .i64 f] : List Value).toArray → VRS w (W.alloc (.cells (smC 0 0 0).toArray 23)) w.heap.size b12 b18 b22 D H ∧ Blk (W.alloc (.cells (smC 0 0 0).toArray 23)) b12 25 ([.int .i64 f] : List Value).toArray ∧ ∃ bk, Value.pointer (some ⟨W.heap.size, 0, none⟩) = .pointer (some ⟨bk, 0, none⟩) ∧ w.heap.size ≤ bk ∧ bk ≠ b12 ∧ bk ≠ w.heap.size ∧ bk ≠ b18 ∧ bk ≠ b22 ∧ Blk (W.alloc (.cells (smC 0 0 0).toArray 23)) bk 23 (smC 0 0 0).toArray := by
      intro f W hS hp
      have a1 := hp.lt
      have a2 := hS.h10.lt
      have a3 := hS.h18.lt
      have a4 := hS.h22.lt
      have hal := ba (Below.refl W.heap.size W) (.cells (smC 0 0 0).toArray 23)
      exact ⟨hS.bel hal, hp.bel hal, W.heap.size, rfl, by omega, by omega, by omega, by omega, by omega, Blk.new _ _ _⟩
    intro q hq W hS hp
    simp only [List.mem_cons, List.not_mem_nil, or_false] at hq
    rcases hq with rfl | rfl | rfl | rfl
    · obtain ⟨k1, k2, k3⟩ := key _ W hS hp
      exact ⟨_, _, by kernel_rfl, k1, k2, k3⟩
    · obtain ⟨k1, k2, k3⟩ := key _ W hS hp
      exact ⟨_, _, by kernel_rfl, k1, k2, k3⟩
    · obtain ⟨k1, k2, k3⟩ := key _ W hS hp
      exact ⟨_, _, by kernel_rfl, k1, k2, k3⟩
    · obtain ⟨k1, k2, k3⟩ := key _ W hS hp
      exact ⟨_, _, by kernel_rfl, k1, k2, k3⟩
  rintro u W1 hS hp ⟨b25, rfl, l25, n25, m10, m18, m22, h25⟩
  have hst := st_all (P := Try.prog) (w := W1) b25 3 23 23 (smC vh vd 0) (smC 0 0 0) info_sm rfl rfl h25 (hsc.out _ _ _)
  have H25 := kp (h25.row (smC vh vd 0).toArray)
  have F := kp (hp.rowfar (Ne.symm n25) (smC vh vd 0).toArray)
  have hT : VRS w (W1.setRow b25 (smC vh vd 0).toArray) w.heap.size b12 b18 b22 D H := ⟨bsr hS.below l25 hS.below.size _, hS.h10.rowfar (Ne.symm m10) _, hS.h18.rowfar (Ne.symm m18) _, hS.h22.rowfar (Ne.symm m22) _⟩
  change wpAnyH _ _ _ _ _ [8].length _ _ _
  refine wpAnyH_of_seqE (by kernel_rfl) (fun _ _ d _ _ h => by cases d <;> exact h) [8] _ _ _ hS (of_decide_eq_true (by kernel_rfl)) (by kernel_rfl) ?_
  refine stepS_skipV (by kernel_rfl) (of_decide_eq_true (by kernel_rfl)) (by kernel_rfl) (exec_storeV 23 (.tmp 25) (.tmp 102) (by kernel_rfl) (pv := .pointer (some ⟨b25, 0, none⟩)) (by kernel_rfl) (v := .agg (smC vh vd 0).toArray) (by kernel_rfl) hst) hT ?_
  have HB := kp hT.below
  have H10 := kp hT.h10
  have H18 := kp hT.h18
  clear hst hT hS hp h25 HVS HF0 H22 cF5 cF6
  generalize W1.setRow b25 (smC vh vd 0).toArray = W15 at H25 F HB H10 H18 ⊢
  unfold wpListS
  dsimp only [Exit.then, putAll, Act.put]
  simp only [List.setIfInBounds_toArray, List.set_cons_succ, List.set_cons_zero]
  clear m18 m22 n22 cF1 cF2 cF3 cF4 cS cA cD cAt cBk cX cY n15 n16 n20 l20 l18 l22
  go_upto_region 16 with (go_at_call 36; refine (cG.out _).mono ?_; rintro e w15 ⟨rfl, hb⟩)
  have H10 := kp (H10.out.bel hb)
  have H18 := kp (H18.out.bel hb)
  have H25 := kp (H25.out.bel hb)
  have F := kp (F.out.bel hb)
  have HB := kp (bt' HB.out hb HB.out.size)
  clear hb cG
  have f0 := F.out.atL (show ([.int .i64 f6] : List Value)[0]? = some (.int .i64 f6) from rfl)
  have kl := F.out.lt
  have fz := F.out.frozen 0
  by_cases hp : f6 = 0
  · have e7 := Hf7.out
    rw [if_pos hp] at e7
    have g : (f6 == 0) = true := by simp [hp]
    have g2 : (f6 != 0) = false := by simp [hp]
    subst e7
    have J1 := kp (F.out.setL 0 (.int .i64 ge))
    have H10 := kp (H10.out.far (p := ⟨b12, 0, none⟩) n10 (.int .i64 ge))
    have H18 := kp (H18.out.far (p := ⟨b12, 0, none⟩) n18 (.int .i64 ge))
    have H25 := kp (H25.out.far (p := ⟨b12, 0, none⟩) n25 (.int .i64 ge))
    have HB := kp (bsc HB.out (p := ⟨b12, 0, none⟩) hle (.int .i64 ge))
    go_upto_region 18 with (fail)
    clear f0 kl fz g g2
    have F : Kp (Blk (w15.setCell ⟨b12, 0, none⟩ (.int .i64 ge)) b12 25 ([.int .i64 ge] : List Value).toArray) := J1
    clear J1
    generalize w15.setCell ⟨b12, 0, none⟩ (.int .i64 ge) = W18 at H10 H18 H25 F HB ⊢
    refine wp_region_earlyE [6, 7] [0, 1, 2, 3, 4, 5, 6, 7] [8] [9, 10, 11] 141 (fun _ => VA W18.heap.size 71 #[.int .i64 0, .int .u64 0]) (· ≠ ·) (by kernel_rfl) (by kernel_rfl) rfl (fun i v W W' h hb => h.mono hb) ?_
    apply Exists.intro
    refine ⟨fun V hV => ?_, ?_, ?_⟩
    · have L1 := kp (fun x => ld_all (P := Try.prog) b18 2 71 71 D _ Try.underlying71 rfl info_num hDl ((H18.out.bel hV).bel (ext_below V x)))
      simp only [List.append_eq, List.cons_append, List.nil_append, List.map_cons, List.map_nil, List.getD_cons_succ, List.getD_cons_zero]
      repeat (first
        | (go_big_quiet_want; refine quiet_load _ rfl 71 _ rfl rfl (fun w hw => by obtain ⟨x, rfl⟩ := hw; exact L1.out x) ?_; go_simp; go_big_quiet_on)
        | go_big_quiet_step (first | (go_at_call 33; with_reducible exact Calls.ext_of (c1.out _)) | (go_at_call 37; with_reducible exact Calls.ext_of (cs1.out _)) | (go_at_call 35; with_reducible exact Calls.ext_of (cE.out _))))
      exact wpQuiet_nil rfl
    · exact ⟨mk_alloc rfl (fun W => by kernel_rfl) (fun j u W h => h.ne), trivial⟩
    simp only [List.append_eq, List.cons_append, List.nil_append, List.map_cons, List.map_nil, List.getD_cons_succ, List.getD_cons_zero, TailX]
    rintro ev hev V hV ⟨_, b28, rfl, hb28, hk28⟩
    have SC := sc_all (P := Try.prog) (w := V) b28 71 U [.int .i64 0, .int .u64 0] hk28 (by rw [hUl]; rfl) HU1.out
    have H28 := kp (hk28.row U.toArray)
    have n28 : b28 ≠ b12 := by have := F.out.lt; omega
    have H10 := kp ((H10.out.bel hV).rowfar (b := b28) (by have := H10.out.lt; omega) U.toArray)
    have H25 := kp ((H25.out.bel hV).rowfar (b := b28) (by have := H25.out.lt; omega) U.toArray)
    have F := kp ((F.out.bel hV).rowfar (b := b28) (by have := F.out.lt; omega) U.toArray)
    have hbx := bt' HB.out hV HB.out.size
    have HB := kp (bsr hbx (Nat.le_trans HB.out.size hb28) hbx.size U.toArray)
    clear hV hk28 hbx hev H18 hb28
    generalize V.setRow b28 U.toArray = W19 at SC H28 H10 H25 F HB
    go_upto_region 19 with (fail)
    clear SC cs1 cE c1
    refine wp_region_ext [0, 1, 2, 3, 4, 5, 6] [7, 8, 9] (by kernel_rfl) (by kernel_rfl) ?_
    simp only [List.map_cons, List.map_nil, List.getD_cons_succ, List.getD_cons_zero]
    have L1 := kp (fun x => ld_all (P := Try.prog) b28 2 71 71 U _ Try.underlying71 rfl info_num hUl (H28.out.bel (ext_below W19 x)))
    repeat (first
      | (go_big_quiet_want; refine quiet_load _ rfl 71 _ rfl rfl (fun w hw => by obtain ⟨x, rfl⟩ := hw; exact L1.out x) ?_; go_simp; go_big_quiet_on)
      | go_big_quiet_step (first | (go_at_call 33; with_reducible exact Calls.ext_of (cU.out _)) | (go_at_call 33; with_reducible exact Calls.ext_of (c2.out _)) | (go_at_call 37; with_reducible exact Calls.ext_of (cs2.out _)) | (go_at_call 37; with_reducible exact Calls.ext_of (cs3.out _))))
    refine wpQuiet_nil ?_
    rintro z
    have H10 := kp (H10.out.bel (ext_below W19 z))
    have H25 := kp (H25.out.bel (ext_below W19 z))
    have F := kp (F.out.bel (ext_below W19 z))
    have HB := kp (bt' HB.out (ext_below W19 z) HB.out.size)
    clear L1 H28 c2 cU cs2 cs3
    generalize World.ext W19 z = V19 at H10 H25 F HB ⊢
    go_upto_region 20 with (go_at_call 29; refine (cF8.out b12 _ _ F.out).mono ?_; rintro e w19 ⟨rfl, hg, hF⟩; have G25 := H25.out.grown hg (by simpa using n25); have y2 := G25.atL (show (smC vh vd 0)[2]? = some (.int .i64 0) from rfl); have ky := G25.lt; have fy := G25.frozen 2)
    rw [Hf8.out] at hF
    have F := kp (hF.far (p := ⟨b25, 2, none⟩) (Ne.symm n25) (.int .i64 vb))
    have H10 := kp ((H10.out.grown hg (by simpa using n10)).far (p := ⟨b25, 2, none⟩) (Ne.symm m10) (.int .i64 vb))
    have H25 : Kp (Blk (w19.setCell ⟨b25, 2, none⟩ (.int .i64 vb)) b25 23 (smC vh vd vb).toArray) := kp (G25.setL 2 (.int .i64 vb))
    have HB := kp (bsc (bgb HB.out hg hle HB.out.size) (p := ⟨b25, 2, none⟩) l25 (.int .i64 vb))
    clear hg hF G25 y2 ky fy cF8
    generalize w19.setCell ⟨b25, 2, none⟩ (.int .i64 vb) = W20 at H10 H25 F HB ⊢
    have f0 := F.out.atL (show ([.int .i64 f8] : List Value)[0]? = some (.int .i64 f8) from rfl)
    have kl := F.out.lt
    have eE := HER.out
    have eS := HSR.out
    by_cases h8 : f8 = 0
    · rw [if_pos h8] at eE
      have g : (f8 == 0) = true := by simp [h8]
      have g2 : (f8 != 0) = false := by simp [h8]
      have y1 := H25.out.atL (show (smC vh vd vb)[1]? = some (.int .i64 vd) from rfl)
      have ky := H25.out.lt
      by_cases hv : vd < 0
      · rw [if_pos hv] at eE
        rw [← eE, if_neg (by omega)] at eS
        subst eE eS
        have gv' := decide_eq_true hv
        have S0 := st_same (P := Try.prog) w.heap.size 3 23 _ _ info_sm rfl H10.out (hsc.out 0 0 0)
        clear HER HSR
        go_wp2_with (refine wpL_store rfl 23 _ _ rfl rfl rfl S0 ?_)
        refine bodyPost_ret (v := .tuple #[.agg (smC 0 0 0).toArray, .int .i64 3]) ?_ rfl ⟨rfl, HB.out⟩
        exact res2 Try.results12 w.heap.size 3 _ _ _ Try.underlying23 rfl info_sm rfl H10.out _ rfl _ rfl
      · rw [if_neg hv] at eE
        rw [← eE, if_pos rfl] at eS
        subst eE eS
        have gv' := decide_eq_false hv
        have L := ld_all (P := Try.prog) b25 3 23 23 (smC vh vd vb) _ Try.underlying23 rfl info_sm rfl H25.out
        have S0 := st_all (P := Try.prog) w.heap.size 3 23 _ (smC vh vd vb) (smC 0 0 0) info_sm rfl rfl H10.out (hsc.out _ _ _)
        have HX := kp (H10.out.row (smC vh vd vb).toArray)
        have HBX := kp (bsr HB.out (Nat.le_refl _) HB.out.size (smC vh vd vb).toArray)
        generalize W20.setRow w.heap.size (smC vh vd vb).toArray = W24 at S0 HX HBX
        clear HER HSR
        go_wp2_with (first | (refine wpL_load rfl 23 _ rfl rfl L ?_) | (refine wpL_store rfl 23 _ _ rfl rfl rfl S0 ?_))
        refine bodyPost_ret (v := .tuple #[.agg (smC vh vd vb).toArray, .int .i64 0]) ?_ rfl ⟨rfl, HBX.out⟩
        exact res2 Try.results12 w.heap.size 3 _ _ _ Try.underlying23 rfl info_sm rfl HX.out _ rfl _ rfl
    · rw [if_neg h8] at eE
      rw [← eE, if_neg h8] at eS
      subst eE eS
      have g : (f8 == 0) = false := by simp [h8]
      have g2 : (f8 != 0) = true := by simp [h8]
      clear HER HSR
      go_upto_region 21 with (fail)
      have HF0 : Blk { W20 with drawn := W20.drawn + 1 } b12 25 ([.int .i64 f8] : List Value).toArray := F.out
      have H0 : Blk { W20 with drawn := W20.drawn + 1 } w.heap.size 23 (smC 0 0 0).toArray := H10.out
      have HB0 := drawn_bel HB.out (W20.drawn + 1)
      refine wp_region_held (S := fun W' => Blk W' b12 25 ([.int .i64 f8] : List Value).toArray) (by kernel_rfl) ?_
      change wpAnyH _ _ _ _ _ 4 _ _ _
      generalize ({ W20 with drawn := W20.drawn + 1 } : World) = W21 at HF0 H0 HB0 ⊢
      refine takeAll (by kernel_rfl) (fun _ _ d _ _ h => by cases d <;> exact h) [(1, 134)] [.int .i64 f8] _ _ _ 3 (by kernel_rfl) ⟨Or.inl ⟨by kernel_rfl, fun w hS => exec_load (ty := 25) (x := .tmp 12) (by kernel_rfl) (pv := .pointer (some ⟨b12, 0, none⟩)) (by kernel_rfl) (ld_oneV Try.underlying25 rfl (hS.atL (show ([.int .i64 f8] : List Value)[0]? = some (.int .i64 f8) from rfl)))⟩, trivial⟩ HF0 ?_
      have S0 := st_same (P := Try.prog) w.heap.size 3 23 _ _ info_sm rfl H0 (hsc.out 0 0 0)
      change wpAnyH _ _ _ _ _ [0, 2, 3].length _ _ _
      refine wpAnyH_of_seqE (by kernel_rfl) (fun _ _ d _ _ h => by cases d <;> exact h) [0, 2, 3] _ _ _ HF0 (of_decide_eq_true (by kernel_rfl)) (by kernel_rfl) ?_
      refine stepS 133 (by kernel_rfl) (of_decide_eq_true (by kernel_rfl)) (by kernel_rfl) (v := .agg (smC 0 0 0).toArray) (by kernel_rfl) HF0 ?_
      refine stepS_skipV (by kernel_rfl) (of_decide_eq_true (by kernel_rfl)) (by kernel_rfl) (exec_storeV 23 (.tmp 10) (.tmp 133) (by kernel_rfl) (pv := .pointer (some ⟨w.heap.size, 0, none⟩)) (by kernel_rfl) (v := .agg (smC 0 0 0).toArray) (by kernel_rfl) S0) HF0 ?_
      refine stepS 11 (by kernel_rfl) (of_decide_eq_true (by kernel_rfl)) (by kernel_rfl) (v := .int .i64 f8) (by kernel_rfl) HF0 ?_
      unfold wpListS
      dsimp only [Exit.then, putAll, Act.put]
      simp only [List.setIfInBounds_toArray, List.set_cons_succ, List.set_cons_zero]
      clear f0 g g2 kl
      go_wp2
      refine bodyPost_ret (v := .tuple #[.agg (smC 0 0 0).toArray, .int .i64 f8]) ?_ rfl ⟨rfl, HB0⟩
      exact res2 Try.results12 w.heap.size 3 _ _ _ Try.underlying23 rfl info_sm rfl H0 _ rfl _ rfl
  · have e7 := Hf7.out
    rw [if_neg hp] at e7
    have g : (f6 == 0) = false := by simp [hp]
    have g2 : (f6 != 0) = true := by simp [hp]
    subst e7
    go_upto_region 18 with (fail)
    clear f0 kl fz g g2
    generalize w15 = W18 at H10 H18 H25 F HB ⊢
    refine wp_region_earlyE [6, 7] [0, 1, 2, 3, 4, 5, 6, 7] [8] [9, 10, 11] 141 (fun _ => VA W18.heap.size 71 #[.int .i64 0, .int .u64 0]) (· ≠ ·) (by kernel_rfl) (by kernel_rfl) rfl (fun i v W W' h hb => h.mono hb) ?_
    apply Exists.intro
    refine ⟨fun V hV => ?_, ?_, ?_⟩
    · have L1 := kp (fun x => ld_all (P := Try.prog) b18 2 71 71 D _ Try.underlying71 rfl info_num hDl ((H18.out.bel hV).bel (ext_below V x)))
      simp only [List.append_eq, List.cons_append, List.nil_append, List.map_cons, List.map_nil, List.getD_cons_succ, List.getD_cons_zero]
      repeat (first
        | (go_big_quiet_want; refine quiet_load _ rfl 71 _ rfl rfl (fun w hw => by obtain ⟨x, rfl⟩ := hw; exact L1.out x) ?_; go_simp; go_big_quiet_on)
        | go_big_quiet_step (first | (go_at_call 33; with_reducible exact Calls.ext_of (c1.out _)) | (go_at_call 37; with_reducible exact Calls.ext_of (cs1.out _)) | (go_at_call 35; with_reducible exact Calls.ext_of (cE.out _))))
      exact wpQuiet_nil rfl
    · exact ⟨mk_alloc rfl (fun W => by kernel_rfl) (fun j u W h => h.ne), trivial⟩
    simp only [List.append_eq, List.cons_append, List.nil_append, List.map_cons, List.map_nil, List.getD_cons_succ, List.getD_cons_zero, TailX]
    rintro ev hev V hV ⟨_, b28, rfl, hb28, hk28⟩
    have SC := sc_all (P := Try.prog) (w := V) b28 71 U [.int .i64 0, .int .u64 0] hk28 (by rw [hUl]; rfl) HU1.out
    have H28 := kp (hk28.row U.toArray)
    have n28 : b28 ≠ b12 := by have := F.out.lt; omega
    have H10 := kp ((H10.out.bel hV).rowfar (b := b28) (by have := H10.out.lt; omega) U.toArray)
    have H25 := kp ((H25.out.bel hV).rowfar (b := b28) (by have := H25.out.lt; omega) U.toArray)
    have F := kp ((F.out.bel hV).rowfar (b := b28) (by have := F.out.lt; omega) U.toArray)
    have hbx := bt' HB.out hV HB.out.size
    have HB := kp (bsr hbx (Nat.le_trans HB.out.size hb28) hbx.size U.toArray)
    clear hV hk28 hbx hev H18 hb28
    generalize V.setRow b28 U.toArray = W19 at SC H28 H10 H25 F HB
    go_upto_region 19 with (fail)
    clear SC cs1 cE c1
    refine wp_region_ext [0, 1, 2, 3, 4, 5, 6] [7, 8, 9] (by kernel_rfl) (by kernel_rfl) ?_
    simp only [List.map_cons, List.map_nil, List.getD_cons_succ, List.getD_cons_zero]
    have L1 := kp (fun x => ld_all (P := Try.prog) b28 2 71 71 U _ Try.underlying71 rfl info_num hUl (H28.out.bel (ext_below W19 x)))
    repeat (first
      | (go_big_quiet_want; refine quiet_load _ rfl 71 _ rfl rfl (fun w hw => by obtain ⟨x, rfl⟩ := hw; exact L1.out x) ?_; go_simp; go_big_quiet_on)
      | go_big_quiet_step (first | (go_at_call 33; with_reducible exact Calls.ext_of (cU.out _)) | (go_at_call 33; with_reducible exact Calls.ext_of (c2.out _)) | (go_at_call 37; with_reducible exact Calls.ext_of (cs2.out _)) | (go_at_call 37; with_reducible exact Calls.ext_of (cs3.out _))))
    refine wpQuiet_nil ?_
    rintro z
    have H10 := kp (H10.out.bel (ext_below W19 z))
    have H25 := kp (H25.out.bel (ext_below W19 z))
    have F := kp (F.out.bel (ext_below W19 z))
    have HB := kp (bt' HB.out (ext_below W19 z) HB.out.size)
    clear L1 H28 c2 cU cs2 cs3
    generalize World.ext W19 z = V19 at H10 H25 F HB ⊢
    go_upto_region 20 with (go_at_call 29; refine (cF8.out b12 _ _ F.out).mono ?_; rintro e w19 ⟨rfl, hg, hF⟩; have G25 := H25.out.grown hg (by simpa using n25); have y2 := G25.atL (show (smC vh vd 0)[2]? = some (.int .i64 0) from rfl); have ky := G25.lt; have fy := G25.frozen 2)
    rw [Hf8.out] at hF
    have F := kp (hF.far (p := ⟨b25, 2, none⟩) (Ne.symm n25) (.int .i64 vb))
    have H10 := kp ((H10.out.grown hg (by simpa using n10)).far (p := ⟨b25, 2, none⟩) (Ne.symm m10) (.int .i64 vb))
    have H25 : Kp (Blk (w19.setCell ⟨b25, 2, none⟩ (.int .i64 vb)) b25 23 (smC vh vd vb).toArray) := kp (G25.setL 2 (.int .i64 vb))
    have HB := kp (bsc (bgb HB.out hg hle HB.out.size) (p := ⟨b25, 2, none⟩) l25 (.int .i64 vb))
    clear hg hF G25 y2 ky fy cF8
    generalize w19.setCell ⟨b25, 2, none⟩ (.int .i64 vb) = W20 at H10 H25 F HB ⊢
    have f0 := F.out.atL (show ([.int .i64 f8] : List Value)[0]? = some (.int .i64 f8) from rfl)
    have kl := F.out.lt
    have eE := HER.out
    have eS := HSR.out
    by_cases h8 : f8 = 0
    · rw [if_pos h8] at eE
      have g : (f8 == 0) = true := by simp [h8]
      have g2 : (f8 != 0) = false := by simp [h8]
      have y1 := H25.out.atL (show (smC vh vd vb)[1]? = some (.int .i64 vd) from rfl)
      have ky := H25.out.lt
      by_cases hv : vd < 0
      · rw [if_pos hv] at eE
        rw [← eE, if_neg (by omega)] at eS
        subst eE eS
        have gv' := decide_eq_true hv
        have S0 := st_same (P := Try.prog) w.heap.size 3 23 _ _ info_sm rfl H10.out (hsc.out 0 0 0)
        clear HER HSR
        go_wp2_with (refine wpL_store rfl 23 _ _ rfl rfl rfl S0 ?_)
        refine bodyPost_ret (v := .tuple #[.agg (smC 0 0 0).toArray, .int .i64 3]) ?_ rfl ⟨rfl, HB.out⟩
        exact res2 Try.results12 w.heap.size 3 _ _ _ Try.underlying23 rfl info_sm rfl H10.out _ rfl _ rfl
      · rw [if_neg hv] at eE
        rw [← eE, if_pos rfl] at eS
        subst eE eS
        have gv' := decide_eq_false hv
        have L := ld_all (P := Try.prog) b25 3 23 23 (smC vh vd vb) _ Try.underlying23 rfl info_sm rfl H25.out
        have S0 := st_all (P := Try.prog) w.heap.size 3 23 _ (smC vh vd vb) (smC 0 0 0) info_sm rfl rfl H10.out (hsc.out _ _ _)
        have HX := kp (H10.out.row (smC vh vd vb).toArray)
        have HBX := kp (bsr HB.out (Nat.le_refl _) HB.out.size (smC vh vd vb).toArray)
        generalize W20.setRow w.heap.size (smC vh vd vb).toArray = W24 at S0 HX HBX
        clear HER HSR
        go_wp2_with (first | (refine wpL_load rfl 23 _ rfl rfl L ?_) | (refine wpL_store rfl 23 _ _ rfl rfl rfl S0 ?_))
        refine bodyPost_ret (v := .tuple #[.agg (smC vh vd vb).toArray, .int .i64 0]) ?_ rfl ⟨rfl, HBX.out⟩
        exact res2 Try.results12 w.heap.size 3 _ _ _ Try.underlying23 rfl info_sm rfl HX.out _ rfl _ rfl
    · rw [if_neg h8] at eE
      rw [← eE, if_neg h8] at eS
      subst eE eS
      have g : (f8 == 0) = false := by simp [h8]
      have g2 : (f8 != 0) = true := by simp [h8]
      clear HER HSR
      go_upto_region 21 with (fail)
      have HF0 : Blk { W20 with drawn := W20.drawn + 1 } b12 25 ([.int .i64 f8] : List Value).toArray := F.out
      have H0 : Blk { W20 with drawn := W20.drawn + 1 } w.heap.size 23 (smC 0 0 0).toArray := H10.out
      have HB0 := drawn_bel HB.out (W20.drawn + 1)
      refine wp_region_held (S := fun W' => Blk W' b12 25 ([.int .i64 f8] : List Value).toArray) (by kernel_rfl) ?_
      change wpAnyH _ _ _ _ _ 4 _ _ _
      generalize ({ W20 with drawn := W20.drawn + 1 } : World) = W21 at HF0 H0 HB0 ⊢
      refine takeAll (by kernel_rfl) (fun _ _ d _ _ h => by cases d <;> exact h) [(1, 134)] [.int .i64 f8] _ _ _ 3 (by kernel_rfl) ⟨Or.inl ⟨by kernel_rfl, fun w hS => exec_load (ty := 25) (x := .tmp 12) (by kernel_rfl) (pv := .pointer (some ⟨b12, 0, none⟩)) (by kernel_rfl) (ld_oneV Try.underlying25 rfl (hS.atL (show ([.int .i64 f8] : List Value)[0]? = some (.int .i64 f8) from rfl)))⟩, trivial⟩ HF0 ?_
      have S0 := st_same (P := Try.prog) w.heap.size 3 23 _ _ info_sm rfl H0 (hsc.out 0 0 0)
      change wpAnyH _ _ _ _ _ [0, 2, 3].length _ _ _
      refine wpAnyH_of_seqE (by kernel_rfl) (fun _ _ d _ _ h => by cases d <;> exact h) [0, 2, 3] _ _ _ HF0 (of_decide_eq_true (by kernel_rfl)) (by kernel_rfl) ?_
      refine stepS 133 (by kernel_rfl) (of_decide_eq_true (by kernel_rfl)) (by kernel_rfl) (v := .agg (smC 0 0 0).toArray) (by kernel_rfl) HF0 ?_
      refine stepS_skipV (by kernel_rfl) (of_decide_eq_true (by kernel_rfl)) (by kernel_rfl) (exec_storeV 23 (.tmp 10) (.tmp 133) (by kernel_rfl) (pv := .pointer (some ⟨w.heap.size, 0, none⟩)) (by kernel_rfl) (v := .agg (smC 0 0 0).toArray) (by kernel_rfl) S0) HF0 ?_
      refine stepS 11 (by kernel_rfl) (of_decide_eq_true (by kernel_rfl)) (by kernel_rfl) (v := .int .i64 f8) (by kernel_rfl) HF0 ?_
      unfold wpListS
      dsimp only [Exit.then, putAll, Act.put]
      simp only [List.setIfInBounds_toArray, List.set_cons_succ, List.set_cons_zero]
      clear f0 g g2 kl
      go_wp2
      refine bodyPost_ret (v := .tuple #[.agg (smC 0 0 0).toArray, .int .i64 f8]) ?_ rfl ⟨rfl, HB0⟩
      exact res2 Try.results12 w.heap.size 3 _ _ _ Try.underlying23 rfl info_sm rfl H0 _ rfl _ rfl
end Go.Proofs.Ytkknnnkbegigeaa
/- sha in plain words: numbers and lists, no program in sight. -/
namespace Go.Proofs.Ytkknnnkbegigeaa
set_option linter.unusedVariables false
set_option linter.unusedSimpArgs false
open Go Go.RowKit

abbrev M32 : Nat := 4294967296
def rr (n k : Nat) : Nat := leftN n (32 - k)
def sg0 (x : Nat) : Nat := rr x 7 ^^^ rr x 18 ^^^ x / 8
def sg1 (x : Nat) : Nat := rr x 17 ^^^ rr x 19 ^^^ x / 1024
def bg0 (x : Nat) : Nat := rr x 2 ^^^ rr x 13 ^^^ rr x 22
def bg1 (x : Nat) : Nat := rr x 6 ^^^ rr x 11 ^^^ rr x 25
def chN (e f g : Nat) : Nat := (e &&& f) ^^^ ((4294967295 - e) &&& g)
def maN (a b c : Nat) : Nat := (a &&& b) ||| (a &&& c) ||| (b &&& c)

structure V8 where
  (a b c d e f g h : Nat)
def V8.list (v : V8) : List Nat := [v.a, v.b, v.c, v.d, v.e, v.f, v.g, v.h]
def V8.ok (v : V8) : Prop := ∀ x ∈ v.list, x < M32
def t1N (v : V8) (k w : Nat) : Nat := (v.h + bg1 v.e + chN v.e v.f v.g + k + w) % M32
def t2N (v : V8) : Nat := (bg0 v.a + maN v.a v.b v.c) % M32
def rnd (v : V8) (k w : Nat) : V8 := ⟨(t1N v k w + t2N v) % M32, v.a, v.b, v.c, (v.d + t1N v k w) % M32, v.e, v.f, v.g⟩

def kL : List Nat := [
  0x428a2f98, 0x71374491, 0xb5c0fbcf, 0xe9b5dba5, 0x3956c25b, 0x59f111f1, 0x923f82a4, 0xab1c5ed5,
  0xd807aa98, 0x12835b01, 0x243185be, 0x550c7dc3, 0x72be5d74, 0x80deb1fe, 0x9bdc06a7, 0xc19bf174,
  0xe49b69c1, 0xefbe4786, 0x0fc19dc6, 0x240ca1cc, 0x2de92c6f, 0x4a7484aa, 0x5cb0a9dc, 0x76f988da,
  0x983e5152, 0xa831c66d, 0xb00327c8, 0xbf597fc7, 0xc6e00bf3, 0xd5a79147, 0x06ca6351, 0x14292967,
  0x27b70a85, 0x2e1b2138, 0x4d2c6dfc, 0x53380d13, 0x650a7354, 0x766a0abb, 0x81c2c92e, 0x92722c85,
  0xa2bfe8a1, 0xa81a664b, 0xc24b8b70, 0xc76c51a3, 0xd192e819, 0xd6990624, 0xf40e3585, 0x106aa070,
  0x19a4c116, 0x1e376c08, 0x2748774c, 0x34b0bcb5, 0x391c0cb3, 0x4ed8aa4a, 0x5b9cca4f, 0x682e6ff3,
  0x748f82ee, 0x78a5636f, 0x84c87814, 0x8cc70208, 0x90befffa, 0xa4506ceb, 0xbef9a3f7, 0xc67178f2]
def h0V : V8 := ⟨0x6a09e667, 0xbb67ae85, 0x3c6ef372, 0xa54ff53a, 0x510e527f, 0x9b05688c, 0x1f83d9ab, 0x5be0cd19⟩

/-- the first 16 numbers of a block -/
def w16 (p : List UInt8) : Nat → List Nat
  | 0 => []
  | n + 1 => w16 p n ++ [takeN ((p.drop (4 * n)).take 4)]
/-- one number more -/
def nxt (l : List Nat) : Nat := (l.getD (l.length - 16) 0 + l.getD (l.length - 7) 0 + sg0 (l.getD (l.length - 15) 0) + sg1 (l.getD (l.length - 2) 0)) % M32
def more (l : List Nat) : Nat → List Nat
  | 0 => l
  | n + 1 => more l n ++ [nxt (more l n)]
/-- a block's 64 numbers -/
def sched (p : List UInt8) : List Nat := more (w16 p 16) 48
def rounds (w : List Nat) (v : V8) : Nat → V8
  | 0 => v
  | n + 1 => let u := rounds w v n; rnd u (kL.getD n 0) (w.getD n 0)
def addV (x y : V8) : V8 := ⟨(x.a + y.a) % M32, (x.b + y.b) % M32, (x.c + y.c) % M32, (x.d + y.d) % M32, (x.e + y.e) % M32, (x.f + y.f) % M32, (x.g + y.g) % M32, (x.h + y.h) % M32⟩
def press (h : V8) (p : List UInt8) : V8 := addV h (rounds (sched p) h 64)
/-- n blocks -/
def hRun (h : V8) : Nat → List UInt8 → V8
  | 0, _ => h
  | n + 1, l => hRun (press h (l.take 64)) n (l.drop 64)
def hOf (m : List UInt8) : V8 := hRun h0V (m.length / 64) m
def restOf (m : List UInt8) : List UInt8 := m.drop (64 * (m.length / 64))
def gapN (n : Nat) : Nat := 64 - (n + 8) % 64
def padB (m : List UInt8) : List UInt8 := [0x80] ++ List.replicate (gapN m.length - 1) 0 ++ putL (m.length * 8) 8
def outB (v : V8) : List UInt8 := (v.list.map (putL · 4)).flatten
/-- a text's digest: 32 bytes -/
def digest (m : List UInt8) : List UInt8 := outB (hOf (m ++ padB m))
def walkD (k : List UInt8) : Nat → List UInt8
  | 0 => k
  | n + 1 => digest (walkD k n)

theorem leftN_lt (n k : Nat) (h : n < M32) (hk : k < 32) : leftN n k < M32 := leftUp_lt n h k hk
theorem rr_lt (n k : Nat) (h : n < M32) (hk : 1 ≤ k) : rr n k < M32 := leftN_lt n _ h (by omega)
theorem xor_lt32 {a b : Nat} (ha : a < M32) (hb : b < M32) : a ^^^ b < M32 := Nat.xor_lt_two_pow (n := 32) ha hb
theorem or_lt32 {a b : Nat} (ha : a < M32) (hb : b < M32) : a ||| b < M32 := Nat.or_lt_two_pow (n := 32) ha hb
theorem and_lt32 {a b : Nat} (ha : a < M32) : a &&& b < M32 := Nat.lt_of_le_of_lt Nat.and_le_left ha
theorem V8.ok_mk {a b c d e f g h : Nat} (h1 : a < M32) (h2 : b < M32) (h3 : c < M32) (h4 : d < M32) (h5 : e < M32) (h6 : f < M32) (h7 : g < M32) (h8 : h < M32) : (V8.mk a b c d e f g h).ok := by
  intro x hx
  simp only [V8.list, List.mem_cons, List.not_mem_nil, or_false] at hx
  rcases hx with rfl | rfl | rfl | rfl | rfl | rfl | rfl | rfl <;> assumption
theorem V8.ok_iff (v : V8) : v.ok ↔ v.a < M32 ∧ v.b < M32 ∧ v.c < M32 ∧ v.d < M32 ∧ v.e < M32 ∧ v.f < M32 ∧ v.g < M32 ∧ v.h < M32 := by
  constructor
  · intro h
    exact ⟨h _ (by simp [V8.list]), h _ (by simp [V8.list]), h _ (by simp [V8.list]), h _ (by simp [V8.list]), h _ (by simp [V8.list]), h _ (by simp [V8.list]), h _ (by simp [V8.list]), h _ (by simp [V8.list])⟩
  · rintro ⟨h1, h2, h3, h4, h5, h6, h7, h8⟩
    exact V8.ok_mk h1 h2 h3 h4 h5 h6 h7 h8
theorem mod32 (n : Nat) : n % M32 < M32 := Nat.mod_lt _ (by decide)
theorem rnd_ok {v : V8} (h : v.ok) (k w : Nat) : (rnd v k w).ok := by
  obtain ⟨h1, h2, h3, h4, h5, h6, h7, h8⟩ := (V8.ok_iff v).1 h
  exact V8.ok_mk (mod32 _) h1 h2 h3 (mod32 _) h5 h6 h7
theorem rounds_ok {v : V8} (h : v.ok) (w : List Nat) : ∀ n, (rounds w v n).ok
  | 0 => h
  | n + 1 => rnd_ok (rounds_ok h w n) _ _
theorem addV_ok (x y : V8) : (addV x y).ok := V8.ok_mk (mod32 _) (mod32 _) (mod32 _) (mod32 _) (mod32 _) (mod32 _) (mod32 _) (mod32 _)
theorem h0V_ok : h0V.ok := V8.ok_mk (by decide) (by decide) (by decide) (by decide) (by decide) (by decide) (by decide) (by decide)
theorem hRun_ok : ∀ (n : Nat) (h : V8) (l : List UInt8), h.ok → (hRun h n l).ok
  | 0, h, l, hh => hh
  | n + 1, h, l, hh => hRun_ok n _ _ (addV_ok _ _)
theorem hOf_ok (m : List UInt8) : (hOf m).ok := hRun_ok _ _ _ h0V_ok

theorem hRun_add : ∀ (a b : Nat) (h : V8) (l : List UInt8), hRun h (a + b) l = hRun (hRun h a l) b (l.drop (64 * a))
  | 0, b, h, l => by simp [hRun]
  | a + 1, b, h, l => by
    rw [show a + 1 + b = (a + b) + 1 by omega]
    simp only [hRun]
    rw [hRun_add a b, List.drop_drop, show 64 + 64 * a = 64 * (a + 1) by omega]
theorem hRun_app : ∀ (n : Nat) (h : V8) (l t : List UInt8), 64 * n ≤ l.length → hRun h n (l ++ t) = hRun h n l
  | 0, h, l, t, _ => rfl
  | n + 1, h, l, t, hl => by
    simp only [hRun]
    rw [List.take_append_of_le_length (by omega), List.drop_append_of_le_length (by omega)]
    exact hRun_app n _ _ _ (by rw [List.length_drop]; omega)
theorem restOf_length (m : List UInt8) : (restOf m).length = m.length % 64 := by unfold restOf; rw [List.length_drop]; omega
theorem blocks_add (m t : List UInt8) : (m ++ t).length / 64 = m.length / 64 + (restOf m ++ t).length / 64 := by
  rw [List.length_append, List.length_append, restOf_length]; omega
theorem drop_rest (m t : List UInt8) : (m ++ t).drop (64 * (m.length / 64)) = restOf m ++ t := by
  unfold restOf
  rw [List.drop_append_of_le_length (by omega)]
theorem hOf_more (m t : List UInt8) : hRun (hOf m) ((restOf m ++ t).length / 64) (restOf m ++ t) = hOf (m ++ t) := by
  show _ = hRun h0V ((m ++ t).length / 64) (m ++ t)
  rw [blocks_add m t, hRun_add, drop_rest, hRun_app (m.length / 64) h0V m t (by omega)]
  rfl
theorem restOf_more (m t : List UInt8) : (restOf m ++ t).drop (64 * ((restOf m ++ t).length / 64)) = restOf (m ++ t) := by
  rw [← drop_rest, List.drop_drop]
  unfold restOf
  rw [blocks_add, drop_rest]
  congr 1; omega
theorem padB_length (m : List UInt8) : (padB m).length = gapN m.length + 8 := by
  unfold padB gapN
  simp only [List.length_append, List.length_cons, List.length_nil, List.length_replicate, length_putL]
  omega
theorem outB_length (v : V8) : (outB v).length = 32 := by simp [outB, V8.list, length_putL]
theorem digest_length (m : List UInt8) : (digest m).length = 32 := outB_length _

theorem w16_length (p : List UInt8) : ∀ n, (w16 p n).length = n
  | 0 => rfl
  | n + 1 => by simp [w16, w16_length p n]
theorem more_length (l : List Nat) : ∀ n, (more l n).length = l.length + n
  | 0 => rfl
  | n + 1 => by simp [more, more_length l n]; omega
theorem sched_length (p : List UInt8) : (sched p).length = 64 := by unfold sched; rw [more_length, w16_length]
theorem w16_lt (p : List UInt8) : ∀ n, ∀ x ∈ w16 p n, x < M32
  | 0, x, h => by simp [w16] at h
  | n + 1, x, h => by
    simp only [w16, List.mem_append, List.mem_singleton] at h
    rcases h with h | rfl
    · exact w16_lt p n x h
    · refine Nat.lt_of_lt_of_le (takeN_lt _) (Nat.pow_le_pow_right (n := 256) (i := _) (j := 4) (by omega) ?_)
      simp; omega
theorem more_lt (l : List Nat) (hl : ∀ x ∈ l, x < M32) : ∀ n, ∀ x ∈ more l n, x < M32
  | 0, x, h => hl x h
  | n + 1, x, h => by
    simp only [more, List.mem_append, List.mem_singleton] at h
    rcases h with h | rfl
    · exact more_lt l hl n x h
    · exact mod32 _
theorem sched_lt (p : List UInt8) : ∀ x ∈ sched p, x < M32 := more_lt _ (w16_lt p 16) 48
theorem getD_lt (l : List Nat) (hl : ∀ x ∈ l, x < M32) (i : Nat) : l.getD i 0 < M32 := by
  rw [List.getD_eq_getElem?_getD]
  by_cases h : i < l.length
  · rw [List.getElem?_eq_getElem h]; exact hl _ (List.getElem_mem h)
  · rw [List.getElem?_eq_none (by omega)]; decide
theorem kL_lt : ∀ x ∈ kL, x < M32 := by decide
theorem sg0_lt {x : Nat} (h : x < M32) : sg0 x < M32 := xor_lt32 (xor_lt32 (rr_lt _ _ h (by omega)) (rr_lt _ _ h (by omega))) (Nat.lt_of_le_of_lt (Nat.div_le_self _ _) h)
theorem sg1_lt {x : Nat} (h : x < M32) : sg1 x < M32 := xor_lt32 (xor_lt32 (rr_lt _ _ h (by omega)) (rr_lt _ _ h (by omega))) (Nat.lt_of_le_of_lt (Nat.div_le_self _ _) h)
theorem bg0_lt {x : Nat} (h : x < M32) : bg0 x < M32 := xor_lt32 (xor_lt32 (rr_lt _ _ h (by omega)) (rr_lt _ _ h (by omega))) (rr_lt _ _ h (by omega))
theorem bg1_lt {x : Nat} (h : x < M32) : bg1 x < M32 := xor_lt32 (xor_lt32 (rr_lt _ _ h (by omega)) (rr_lt _ _ h (by omega))) (rr_lt _ _ h (by omega))
theorem chN_lt {e f g : Nat} (h : e < M32) : chN e f g < M32 := xor_lt32 (and_lt32 h) (and_lt32 (show 4294967295 - e < 4294967296 by omega))
theorem maN_lt {a b c : Nat} (ha : a < M32) (hb : b < M32) : maN a b c < M32 := or_lt32 (or_lt32 (and_lt32 ha) (and_lt32 ha)) (and_lt32 hb)
/-- xor of the three is their or: the reference's word -/
theorem ma_xor (a b c : Nat) : (a &&& b) ^^^ (a &&& c) ^^^ (b &&& c) = maN a b c := by
  unfold maN
  apply Nat.eq_of_testBit_eq
  intro i
  simp only [Nat.testBit_xor, Nat.testBit_or, Nat.testBit_and]
  cases a.testBit i <;> cases b.testBit i <;> cases c.testBit i <;> rfl
theorem chunks_len (n : Nat) (hn : 1 ≤ n) : ∀ (k : Nat) (l : List UInt8), l.length = n * k → (chunks n l).length = k
  | 0, l, h => by
    have : l = [] := List.eq_nil_of_length_eq_zero (by simpa using h)
    subst this; rfl
  | k + 1, l, h => by
    have hm : n * (k + 1) = n * k + n := Nat.mul_succ n k
    have h0 : l ≠ [] := by intro e; subst e; simp at h; omega
    rw [chunks_cons n hn l h0, List.length_cons, chunks_len n hn k (l.drop n) (by rw [List.length_drop]; omega)]
theorem chunks_nth (n : Nat) (hn : 1 ≤ n) : ∀ (i : Nat) (l : List UInt8) (h : i < (chunks n l).length), (chunks n l)[i] = (l.drop (n * i)).take n
  | i, [], h => by simp [chunks_nil] at h
  | 0, c :: l, h => by simp [chunks_cons n hn (c :: l) (by simp)]
  | i + 1, c :: l, h => by
    have e := chunks_cons n hn (c :: l) (by simp)
    have h' : i < (chunks n ((c :: l).drop n)).length := by rw [e] at h; simpa using h
    have e2 : (chunks n (c :: l))[i + 1]'h = (chunks n ((c :: l).drop n))[i] := by simp [e]
    rw [e2, chunks_nth n hn i _ h', List.drop_drop]
    congr 2
    rw [Nat.mul_succ]; omega
theorem w16_set (p : List UInt8) (k : Nat) (h : k < 64) : (w16 p k ++ List.replicate (64 - k) 0).set k (takeN ((p.drop (4 * k)).take 4)) = w16 p (k + 1) ++ List.replicate (64 - (k + 1)) 0 := by
  rw [List.set_append_right _ _ (by rw [w16_length]; omega), w16_length, Nat.sub_self, show 64 - k = (64 - (k + 1)) + 1 by omega, List.replicate_succ, List.set_cons_zero]
  simp [w16]
theorem more_set (l : List Nat) (k : Nat) (hl : l.length = 16) (h : k < 48) : (more l k ++ List.replicate (48 - k) 0).set (k + 16) (nxt (more l k)) = more l (k + 1) ++ List.replicate (48 - (k + 1)) 0 := by
  rw [List.set_append_right _ _ (by rw [more_length]; omega), more_length, show k + 16 - (l.length + k) = 0 by omega, show 48 - k = (48 - (k + 1)) + 1 by omega, List.replicate_succ, List.set_cons_zero]
  simp [more]
theorem getD_app {l m : List Nat} {i : Nat} (h : i < l.length) : (l ++ m).getD i 0 = l.getD i 0 := by
  rw [List.getD_eq_getElem?_getD, List.getD_eq_getElem?_getD, List.getElem?_append_left h]
theorem not32 (e : Nat) (h : e < M32) : 4294967295 ^^^ e = 4294967295 - e := by
  have h1 : 4294967295 - e = 2 ^ 32 - (e + 1) := by have : e < 4294967296 := h; omega
  rw [h1]
  apply Nat.eq_of_testBit_eq
  intro i
  rw [Nat.testBit_xor, Nat.testBit_two_pow_sub_succ h, show (4294967295 : Nat) = 2 ^ 32 - 1 from rfl, Nat.testBit_two_pow_sub_one]
  by_cases hi : i < 32
  · simp [hi]
  · simp [hi, testBit_far e i h (by omega)]
theorem ch_eq (e f g : Nat) (he : e < M32) (hf : f < M32) (hg : g < M32) :
    bits .xor .u32 (bits .and .u32 (e : Int) (f : Int)) (bits .and .u32 (bits .xor .u32 IntKind.u32.max (e : Int)) (g : Int)) = ((chN e f g : Nat) : Int) := by
  have hm : IntKind.u32.max = ((4294967295 : Nat) : Int) := by decide
  have hn : 4294967295 - e < M32 := show 4294967295 - e < 4294967296 by omega
  rw [hm, u32_xor_nat _ _ (by decide) he, not32 e he, u32_and_nat _ _ he hf, u32_and_nat _ _ hn hg, u32_xor_nat _ _ (and_lt32 he) (and_lt32 hn)]
  rfl
theorem ma_eq (a b c : Nat) (ha : a < M32) (hb : b < M32) (hc : c < M32) :
    bits .or .u32 (bits .or .u32 (bits .and .u32 (a : Int) (b : Int)) (bits .and .u32 (a : Int) (c : Int))) (bits .and .u32 (b : Int) (c : Int)) = ((maN a b c : Nat) : Int) := by
  rw [u32_and_nat _ _ ha hb, u32_and_nat _ _ ha hc, u32_and_nat _ _ hb hc, u32_or_nat _ _ (and_lt32 ha) (and_lt32 ha), u32_or_nat _ _ (or_lt32 (and_lt32 ha) (and_lt32 ha)) (and_lt32 hb)]
  rfl
/-- the first i of s, the rest of l -/
def mixL (s l : List Nat) (i : Nat) : List Nat := s.take i ++ l.drop i
theorem mixL_length (s l : List Nat) (i : Nat) (h : s.length = l.length) (hi : i ≤ l.length) : (mixL s l i).length = l.length := by simp [mixL]; omega
theorem mixL_get (s l : List Nat) (i : Nat) (h : s.length = l.length) (hi : i < l.length) : (mixL s l i).getD i 0 = l.getD i 0 := by
  unfold mixL
  rw [List.getD_eq_getElem?_getD, List.getElem?_append_right (by simp; omega), List.getD_eq_getElem?_getD, List.getElem?_drop]
  congr 2; simp; omega
theorem mixL_set (s l : List Nat) (i : Nat) (h : s.length = l.length) (hi : i < l.length) : (mixL s l i).set i (s.getD i 0) = mixL s l (i + 1) := by
  unfold mixL
  rw [List.set_append_right _ _ (by simp; omega), List.drop_eq_getElem_cons hi, show i - (List.take i s).length = 0 by simp; omega, List.set_cons_zero, List.take_succ_eq_append_getElem (by omega), List.append_assoc]
  simp [List.getD_eq_getElem?_getD, show i < s.length by omega]
theorem mixL_all (s l : List Nat) (h : s.length = l.length) : mixL s l l.length = s := by
  unfold mixL
  rw [List.drop_of_length_le (Nat.le_refl _), List.append_nil, List.take_of_length_le (by omega)]
theorem addV_get (x y : V8) (i : Nat) (hi : i < 8) : (addV x y).list.getD i 0 = (x.list.getD i 0 + y.list.getD i 0) % M32 := by
  match i, hi with
  | 0, _ | 1, _ | 2, _ | 3, _ | 4, _ | 5, _ | 6, _ | 7, _ => rfl
  | i + 8, h => omega
theorem hRun_succ (h : V8) (j : Nat) (l : List UInt8) : hRun h (j + 1) l = press (hRun h j l) ((l.drop (64 * j)).take 64) := by
  rw [hRun_add j 1]; rfl
theorem str_append (a b : List UInt8) : str a ++ str b = str (a ++ b) := by
  apply bs_inj
  rw [bs_str, bs, ByteArray.data_append, Array.toList_append]
  simp [str]
/-- the first k numbers' bytes -/
def outP (l : List Nat) (k : Nat) : List UInt8 := ((l.take k).map (putL · 4)).flatten
theorem outP_length (l : List Nat) : ∀ k, k ≤ l.length → (outP l k).length = 4 * k
  | 0, _ => rfl
  | k + 1, h => by
    have := outP_length l k (by omega)
    unfold outP at *
    rw [List.take_succ_eq_append_getElem (by omega), List.map_append, List.flatten_append, List.length_append, this]
    simp [length_putL]; omega
theorem outP_succ (l : List Nat) (k : Nat) (h : k < l.length) : outP l (k + 1) = outP l k ++ putL (l.getD k 0) 4 := by
  unfold outP
  rw [List.take_succ_eq_append_getElem h, List.map_append, List.flatten_append]
  simp [List.getD_eq_getElem?_getD, h]
theorem outP_all (v : V8) : outP v.list 8 = outB v := rfl
theorem walkD_length (K : List UInt8) (h : K.length = 32) : ∀ n, (walkD K n).length = 32
  | 0 => h
  | n + 1 => digest_length _
theorem walkD_add (K : List UInt8) (a : Nat) : ∀ b, walkD (walkD K a) b = walkD K (a + b)
  | 0 => rfl
  | b + 1 => by simp only [walkD, walkD_add K a b]; rfl
/-- a digit of sixteen -/
def dig16 (n : Nat) : UInt8 := ([48, 49, 50, 51, 52, 53, 54, 55, 56, 57, 97, 98, 99, 100, 101, 102] : List UInt8).getD n 0
def hexL (D : List UInt8) : List UInt8 := D.flatMap fun c => [dig16 (c.toNat / 16), dig16 (c.toNat % 16)]
theorem hexL_snoc (l : List UInt8) (c : UInt8) : hexL (l ++ [c]) = hexL l ++ [dig16 (c.toNat / 16), dig16 (c.toNat % 16)] := by simp [hexL]
theorem hexL_length (l : List UInt8) : (hexL l).length = 2 * l.length := by
  induction l with
  | nil => rfl
  | cons c l ih => simp [hexL] at ih ⊢; omega
theorem u8_and15 (c : Nat) (h : c < 256) : bits .and .u8 (c : Int) 15 = ((c % 16 : Nat) : Int) := by
  have := u8_and_nat c 15 h (by omega)
  rw [show (15 : Nat) = 2 ^ 4 - 1 from rfl, Nat.and_two_pow_sub_one_eq_mod] at this
  exact this
end Go.Proofs.Ytkknnnkbegigeaa
/- sha: turned, spread. -/
namespace Go.Proofs.Ytkknnnkbegigeaa
open Go Go.RowKit
set_option linter.unusedVariables false
set_option linter.unusedSimpArgs false
attribute [local go_sem] bmax2 bmin2 bmax bmin cell_ext frozen_ext

theorem turned_any (n c x y : Nat) (a b : Int) (w : World) (hn : n < M32) (hc : c < M32) (ha : a = x) (hb : b = y) (hx : 1 ≤ x ∧ x ≤ 31) (hy : 1 ≤ y ∧ y ≤ 31) :
    Calls Try.prog 104 #[.int .u32 n, .int .i64 a, .int .i64 b, .int .u32 c] w fun e w' => e = .returned (.int .u32 ((rr n x ^^^ rr n y ^^^ c : Nat))) ∧ ∃ m, w' = w.drewN m := by
  have e1 : (-a) % 32 = ((32 - x : Nat) : Int) := by omega
  have e2 : (-b) % 32 = ((32 - y : Nat) : Int) := by omega
  have l1 := octet_Left_any n (-a)
  have l2 := octet_Left_any n (-b)
  rw [e1] at l1
  rw [e2] at l2
  have L1 := hid l1
  have L2 := hid l2
  have b1 : -31 ≤ a ∧ a ≤ 31 := by omega
  have b2 : -31 ≤ b ∧ b ≤ 31 := by omega
  clear l1 l2 e1 e2 ha hb
  go_enter Try.func104, Try.ntmps104
  go_wp2_with fail
  refine (L1.out _ hn).mono ?_
  rintro e w' ⟨rfl, m1, rfl⟩
  go_wp2_with fail
  refine (L2.out _ hn).mono ?_
  rintro e w' ⟨rfl, m2, rfl⟩
  go_wp2
  go_ret
  refine ⟨ret_int (k := .u32) ?_, _, rfl⟩
  have f1 := leftN_lt n (32 - x) hn (by omega)
  have f2 := leftN_lt n (32 - y) hn (by omega)
  rw [u32_xor_nat _ _ f1 f2, u32_xor_nat _ _ (xor_lt32 f1 f2) hc]
  rfl

theorem turned_i (n : Nat) (c a b : Int) (w : World) (hn : n < M32) (hc : 0 ≤ c ∧ c < 4294967296) (ha : 1 ≤ a ∧ a ≤ 31) (hb : 1 ≤ b ∧ b ≤ 31) :
    Calls Try.prog 104 #[.int .u32 n, .int .i64 a, .int .i64 b, .int .u32 c] w fun e w' => e = .returned (.int .u32 ((rr n a.toNat ^^^ rr n b.toNat ^^^ c.toNat : Nat))) ∧ ∃ m, w' = w.drewN m := by
  obtain ⟨d, rfl⟩ : ∃ d : Nat, c = d := ⟨c.toNat, by omega⟩
  exact turned_any n d a.toNat b.toNat a b w hn (show d < 4294967296 by omega) (by omega) (by omega) (by omega) (by omega)

theorem turned_n (n c : Nat) (a b : Int) (w : World) (hn : n < M32) (hc : c < M32) (ha : 1 ≤ a ∧ a ≤ 31) (hb : 1 ≤ b ∧ b ≤ 31) :
    Calls Try.prog 104 #[.int .u32 n, .int .i64 a, .int .i64 b, .int .u32 c] w fun e w' => e = .returned (.int .u32 ((rr n a.toNat ^^^ rr n b.toNat ^^^ c : Nat))) ∧ ∃ m, w' = w.drewN m :=
  turned_any n c a.toNat b.toNat a b w hn hc (by omega) (by omega) (by omega) (by omega)

theorem info_a64 : (Try.prog.info? 142).map (·.size) = some 64 := by kernel_rfl
theorem run_index32 {L : List Nat} {n : Nat} (t e : TypeId) (hu : Try.prog.underlying t = some (.array n e)) (he : (Try.prog.info? e).map (·.size) = some 1) (hua : (match Try.prog.underlying e with | some (.struct _) => true | some (.array _ _) => true | none => true | _ => false) = false) (hn : L.length = n) (k : Nat) (hk : k < n) (W : World) :
    (Instr.index t (arr32 L) (.int .i64 k)).run Try.prog W = .ok (.int .u32 ((L.getD k 0 : Nat) : Int)) W := by
  cases hq : Try.prog.info? e with
  | none => simp [hq] at he
  | some i =>
    have hs : i.size = 1 := by simpa [hq] using he
    have hc := c32_get (l := L) (i := k) (by omega)
    cases hd : Try.prog.underlying e with
    | none => rw [hd] at hua; cases hua
    | some d =>
      rw [hd] at hua
      have hagg : (isAgg e).run Try.prog W = .ok false W := by
        unfold isAgg
        rw [Sem.run_bind, run_underlying hd W]
        cases d <;> simp_all
      rw [List.getD_eq_getElem?_getD] at hc
      simp [Instr.index, arr32, asIntOf, Sem.run_bind, run_underlying hu W, part, hagg, sizeOf, typeInfo, hq, hs, hk, hc]
theorem spread_facts {W : World} {B k j : Nat} {T : TypeId} {L : List Nat} (hB : Blk W B T (c32 (L ++ List.replicate (48 - k) 0)).toArray) (hL : L.length = k + 16) (hj : k + 16 = j) (hk : k < 48) :
    W.cell? ⟨B, j - 15, none⟩ = some (.int .u32 (L.getD (k + 1) 0 : Nat)) ∧ W.cell? ⟨B, j - 2, none⟩ = some (.int .u32 (L.getD (k + 14) 0 : Nat)) ∧ W.cell? ⟨B, j - 16, none⟩ = some (.int .u32 (L.getD k 0 : Nat)) ∧ W.cell? ⟨B, j - 7, none⟩ = some (.int .u32 (L.getD (k + 9) 0 : Nat)) ∧ (∃ v, W.cell? ⟨B, j, none⟩ = some v) ∧ W.frozen? ⟨B, j, none⟩ = false ∧ B < W.heap.size := by
  have hget : ∀ i, i < k + 16 → W.cell? ⟨B, i, none⟩ = some (.int .u32 ((L.getD i 0 : Nat) : Int)) := fun i hi => by
    rw [← getD_app (m := List.replicate (48 - k) 0) (by rw [hL]; exact hi)]
    exact hB.atL (c32_get (by rw [List.length_append, hL]; omega))
  have hz := hB.atL (i := k + 16) (c32_get (by rw [List.length_append, hL, List.length_replicate]; omega))
  rw [hj] at hz
  rw [show j - 15 = k + 1 by omega, show j - 2 = k + 14 by omega, show j - 16 = k by omega, show j - 7 = k + 9 by omega]
  exact ⟨hget _ (by omega), hget _ (by omega), hget _ (by omega), hget _ (by omega), ⟨_, hz⟩, hB.frozen _, hB.lt⟩

set_option maxHeartbeats 1000000 in
set_option maxRecDepth 100000 in
theorem spread_any (p : List UInt8) (hp : p.length = 64) (w : World) :
    Calls Try.prog 103 #[.string (str p)] w fun e w' => e = .returned (arr32 (sched p)) ∧ Below w.heap.size w w' := by
  have hz : (str p).size ≤ 1099511627776 := by rw [str_size]; omega
  have P1 := hid (fun w' => octet_Parts_some (str p) 4 w' (by omega) (by omega) hz)
  go_enter Try.func103, Try.ntmps103
  go_wp2_with fail
  refine (P1.out _).mono ?_
  rintro e w1 ⟨v, rfl, ho, hb⟩
  have hk := (Blk.new w _ _).bel hb
  have HB := hid ((ba (Below.refl w.heap.size w) _).trans (hb.mono (by simp)))
  obtain ⟨ad, cp, rfl, hc⟩ := Texts.of_own ho
  have hl := chunks_len 4 (by omega) 16 p (by rw [hp])
  have hl2 : (chunks 4 (bs (str p))).length = 16 := hl
  have HC : Hid (∀ i, i < 16 → ∃ g, ad = some ⟨g, 0, none⟩ ∧ g ≠ w.heap.size ∧ w1.cell? ⟨g, i, none⟩ = some (.string (str ((p.drop (4 * i)).take 4)))) := fun i hi => by
    obtain ⟨g, h1, h2, h3⟩ := hc i (by omega)
    subst h1
    refine ⟨g, rfl, ?_, ?_⟩
    · have := (ho.lt g rfl).1
      simp at this; omega
    · rw [h3, chunks_nth 4 (by omega) i _ _]; rfl
  rw [hl2]
  clear ho hc hb hl hl2 hz
  have HK : Hid (Blk w1 w.heap.size 142 (c32 (w16 p 0 ++ List.replicate 64 0)).toArray) := hk
  clear hk
  go_wp2
  go_loopw [13] (fun i wr => ∃ k : Nat, k ≤ 16 ∧ i = .int .i64 k ∧ Hid (Blk wr w.heap.size 142 (c32 (w16 p k ++ List.replicate (64 - k) 0)).toArray) ∧ Hid (w1.grownBy wr (some w.heap.size))) (fun i _ => 16 - (intOf i).toNat)
  case atStart => exact ⟨0, Nat.zero_le _, rfl, HK, World.grownBy.refl _ _⟩
  case round =>
    obtain ⟨k, hk, rfl, hB, hg⟩ := hrel
    by_cases hlt : k < 16
    · obtain ⟨g, rfl, hg1, hg2⟩ := HC.out k hlt
      have hg3 := gbcell hg.out hg2 hg1
      have hlt' : (k : Int) < 16 := by omega
      have i2 : (0 : Int) ≤ (k : Int) := by omega
      have i3 : (k : Int) < 64 := by omega
      have t4 : (str ((p.drop (4 * k)).take 4)).size ≤ 8 := by rw [str_size]; simp; omega
      have T4 := hid (fun w' => octet_Take_any (str ((p.drop (4 * k)).take 4)) w' t4)
      have hle : k < (w16 p k ++ List.replicate (64 - k) 0).length := by rw [List.length_append, w16_length, List.length_replicate]; omega
      have s0 := (hB.out).atL (c32_get hle)
      have s1 := (hB.out).frozen k
      clear hg2 t4
      go_wp2_with fail
      refine (T4.out _).mono ?_
      rintro e w' ⟨rfl, rfl⟩
      go_wp2
      go_roundw
      case measure => simp [intOf]; omega
      case rel =>
        have e1 : (((takeN (bs (str ((p.drop (4 * k)).take 4))) : Nat) : Int) % 4294967296) = ((takeN ((p.drop (4 * k)).take 4) : Nat) : Int) := by
          have h1 := takeN_lt ((p.drop (4 * k)).take 4)
          have h2 : 256 ^ ((p.drop (4 * k)).take 4).length ≤ 256 ^ 4 := Nat.pow_le_pow_right (by omega) (by simp; omega)
          rw [bs_str]
          omega
        refine ⟨k + 1, by omega, by go_num, ?_, gbt hg.out (gbset _ _ _ _)⟩
        have := (hB.out).setL k (.int .u32 (((takeN ((p.drop (4 * k)).take 4) : Nat) : Int)))
        rw [c32_set, w16_set p k (by omega)] at this
        rw [e1]
        exact this
    · obtain rfl : k = 16 := by omega
      have HB2 : Hid (Blk wr w.heap.size 142 (c32 (more (w16 p 16) 0 ++ List.replicate (48 - 0) 0)).toArray) := hB
      have HW := hid (bgb HB.out hg.out (Nat.le_refl _) (HB.out.size))
      clear HB HK HC hB hg P1
      go_wp2
      go_loopw [7] (fun i wx => ∃ k : Nat, k ≤ 48 ∧ i = .int .i64 ((k + 16 : Nat) : Int) ∧ Hid (Blk wx w.heap.size 142 (c32 (more (w16 p 16) k ++ List.replicate (48 - k) 0)).toArray) ∧ Hid (Below w.heap.size w wx)) (fun i _ => 64 - (intOf i).toNat)
      case atStart => exact ⟨0, Nat.zero_le _, rfl, HB2, HW⟩
      case round =>
        obtain ⟨k, hk, rfl, hB, hb⟩ := hrel
        by_cases hlt : k < 48
        · have hL : (more (w16 p 16) k).length = k + 16 := by rw [more_length, w16_length]; omega
          have hL2 : ∀ x ∈ more (w16 p 16) k, x < M32 := more_lt _ (w16_lt p 16) k
          have hL3 : Hid (nxt (more (w16 p 16) k) = ((more (w16 p 16) k).getD k 0 + (more (w16 p 16) k).getD (k + 9) 0 + sg0 ((more (w16 p 16) k).getD (k + 1) 0) + sg1 ((more (w16 p 16) k).getD (k + 14) 0)) % M32) := by
            show _ = _
            unfold nxt
            rw [hL, show k + 16 - 16 = k by omega, show k + 16 - 7 = k + 9 by omega, show k + 16 - 15 = k + 1 by omega, show k + 16 - 2 = k + 14 by omega]
          have hS := more_set (w16 p 16) k (w16_length p 16) hlt
          obtain ⟨L, hLn⟩ : ∃ L, more (w16 p 16) k = L := ⟨_, rfl⟩
          rw [hLn] at hL hL2 hL3 hS hB
          obtain ⟨j, hj⟩ : ∃ j, k + 16 = j := ⟨_, rfl⟩
          rw [hj] at hS ⊢
          have FA := hid (fun W h => spread_facts (W := W) (T := 142) (B := w.heap.size) (L := L) h hL hj hlt)
          have l1 := getD_lt L hL2 (k + 1)
          have l2 := getD_lt L hL2 (k + 14)
          have l3 := getD_lt L hL2 k
          have l4 := getD_lt L hL2 (k + 9)
          generalize hx1 : L.getD (k + 1) 0 = x1 at *
          generalize hx2 : L.getD (k + 14) 0 = x2 at *
          generalize hx3 : L.getD k 0 = x3 at *
          generalize hx4 : L.getD (k + 9) 0 = x4 at *
          have b1 : (16 : Int) ≤ (j : Int) := by omega
          have b2 : (j : Int) < 64 := by omega
          have HS := hid hS
          have HJ := hid hj
          clear hS hx1 hx2 hx3 hx4 hL hL2 hj hLn
          have d1 : 0 ≤ (x1 : Int) / 8 ∧ (x1 : Int) / 8 < 4294967296 := by have : x1 < 4294967296 := l1; omega
          have d2 : 0 ≤ (x2 : Int) / 1024 ∧ (x2 : Int) / 1024 < 4294967296 := by have : x2 < 4294967296 := l2; omega
          have D1 := hid d1
          have D2 := hid d2
          clear d1 d2
          obtain ⟨c1, c2, c3, c4, _, _, _⟩ := FA.out _ hB.out
          go_wp2
          go_quiet (fail)
          have HQ := hid (hB.out.drewN nq)
          have HBQ := hid (bd hb.out nq)
          clear c1 c2 c3 c4 hB hb
          generalize (wr.drewN nq) = W at HQ HBQ ⊢
          obtain ⟨c1, c2, c3, c4, ⟨cv, c5⟩, c6, c7⟩ := FA.out _ HQ.out
          go_wp2
          refine wp_region_ext [0, 1, 2, 3, 4, 5, 6, 7, 8, 9, 10, 11, 12, 13, 14, 15, 16, 17, 18, 19, 20] [21] (by kernel_rfl) (by kernel_rfl) ?_
          simp only [List.map_cons, List.map_nil, List.getD_cons_succ, List.getD_cons_zero]
          repeat (go_big_quiet_step ((go_at_call 104; exact Calls.ext_drew (turned_i _ _ _ _ _ (by assumption) (by first | exact D1.out | exact D2.out) (by decide) (by decide)))))
          refine wpQuiet_nil ?_
          rintro z
          clear c1 c2 c3 c4 c5 c6 c7
          have HZ := hid (HQ.out.bel (ext_below W z))
          have HBZ := hid (bt' HBQ.out (ext_below W z) HBQ.out.size)
          generalize (W.ext z) = Z at HZ HBZ ⊢
          obtain ⟨_, _, _, _, ⟨cv', c5⟩, c6, c7⟩ := FA.out _ HZ.out
          go_wp2
          go_roundw
          case measure => simp [intOf]; omega
          case rel =>
            have hj := HJ.out
            refine ⟨k + 1, by omega, by rw [show k + 1 + 16 = j + 1 by omega]; go_num, ?_, hid (bsc HBZ.out (Nat.le_refl _) _)⟩
            have e : ((x3 : Int) + x4 + ((rr x1 7 ^^^ rr x1 18 ^^^ x1 / 8 : Nat) : Int) + ((rr x2 17 ^^^ rr x2 19 ^^^ x2 / 1024 : Nat) : Int)) % 4294967296 = ((nxt L : Nat) : Int) := by
              rw [hL3.out]
              unfold sg0 sg1
              simp
            rw [e]
            have := HZ.out.setL j (.int .u32 ((nxt L : Nat) : Int))
            rw [c32_set, HS.out] at this
            exact this
        · obtain rfl : k = 48 := by omega
          have HBL : Hid (Blk wr w.heap.size 142 (c32 (sched p)).toArray) := by
            have := hB.out
            rw [show List.replicate (48 - 48) 0 = ([] : List Nat) from rfl, List.append_nil] at this
            exact this
          clear hB
          have hSl := sched_length p
          obtain ⟨S, hS⟩ : ∃ S, sched p = S := ⟨_, rfl⟩
          rw [hS] at HBL hSl
          have HS := hid hS
          clear hS
          have LD := ld_all (P := Try.prog) (w := wr) w.heap.size 64 142 _ (c32 S) _ Try.underlying142 rfl info_a64 (by rw [length_c32, hSl]) HBL.out
          have ST := sc_same (P := Try.prog) (w := wr) w.heap.size 142 (c32 S) HBL.out (c32_one _)
          have hSl2 : (c32 S).length = 64 := by rw [length_c32, hSl]
          have HSl := hid hSl
          clear hSl
          go_wp2_with (refine wpL_load rfl 142 _ rfl rfl LD ?_)
          refine bodyPost_ret (v := arr32 S) ?_ rfl ⟨by rw [HS.out], hb.out⟩
          exact res_all Try.results103 w.heap.size 64 _ (c32 S) _ Try.underlying142 rfl info_a64 (by rw [length_c32, HSl.out]) HBL.out _ rfl
end Go.Proofs.Ytkknnnkbegigeaa
/- sha: through. -/
namespace Go.Proofs.Ytkknnnkbegigeaa
open Go Go.RowKit
set_option linter.unusedVariables false
set_option linter.unusedSimpArgs false
attribute [local go_sem] bmax2 bmin2 bmax bmin cell_ext frozen_ext

/-- a state of this shape, as a value -/
def stL (v : V8) (rest : ByteArray) (n : Int) (b : Bool) : List Value := [.int .u32 v.a, .int .u32 v.b, .int .u32 v.c, .int .u32 v.d, .int .u32 v.e, .int .u32 v.f, .int .u32 v.g, .int .u32 v.h, .string rest, .int .i64 n, .bool b]
theorem stL_one (v : V8) (rest : ByteArray) (n : Int) (b : Bool) : ∀ x ∈ stL v rest n b, x.oneCell' = true := by
  intro x hx; simp [stL] at hx; rcases hx with h | h | h | h | h | h | h | h | h | h | h <;> rw [h] <;> rfl
/-- what stands behind a state's numbers -/
def stT (rest : ByteArray) (n : Int) (b : Bool) : List Value := [.string rest, .int .i64 n, .bool b]
def stA (v : V8) (rest : ByteArray) (n : Int) (b : Bool) : Value := .agg (stL v rest n b).toArray
theorem info_st : (Try.prog.info? 132).map (·.size) = some 11 := by kernel_rfl
theorem info_a8 : (Try.prog.info? 130).map (·.size) = some 8 := by kernel_rfl

def v8L (v : V8) : List Value := [.int .u32 v.a, .int .u32 v.b, .int .u32 v.c, .int .u32 v.d, .int .u32 v.e, .int .u32 v.f, .int .u32 v.g, .int .u32 v.h]
theorem v8_cells {w : World} {B : Nat} {T : TypeId} {v : V8} (h : Blk w B T (v8L v).toArray) : w.cell? ⟨B, 0, none⟩ = some (.int .u32 v.a) ∧ w.cell? ⟨B, 1, none⟩ = some (.int .u32 v.b) ∧ w.cell? ⟨B, 2, none⟩ = some (.int .u32 v.c) ∧ w.cell? ⟨B, 3, none⟩ = some (.int .u32 v.d) ∧
    w.cell? ⟨B, 4, none⟩ = some (.int .u32 v.e) ∧ w.cell? ⟨B, 5, none⟩ = some (.int .u32 v.f) ∧ w.cell? ⟨B, 6, none⟩ = some (.int .u32 v.g) ∧ w.cell? ⟨B, 7, none⟩ = some (.int .u32 v.h) :=
  ⟨h.atL rfl, h.atL rfl, h.atL rfl, h.atL rfl, h.atL rfl, h.atL rfl, h.atL rfl, h.atL rfl⟩

theorem copy_v8 {W : World} {B : Nat} {T : TypeId} {x1 x2 x3 x4 x5 x6 x7 x8 : Nat} (h : Blk W B T (v8L ⟨x1, x2, x3, x4, x5, x6, x7, x8⟩).toArray) : ∃ Y,
    (Builtin.copy_ #[137, 137] 3 #[.slice (some ⟨B, 1, none⟩) 7 7, .slice (some ⟨B, 0, none⟩) 7 8]).run Try.prog W = .ok (.int .i64 7) Y ∧
      Blk Y B T (v8L ⟨x1, x1, x2, x3, x4, x5, x6, x7⟩).toArray ∧ W.grownBy Y (some B) := by
  have hinfo : (Try.prog.info? 60).map (·.size) = some 1 := by kernel_rfl
  refine ⟨_, ?_, h.row _, gbrow _ _ _⟩
  have := run_copy_rowk (P := Try.prog) W 137 137 3 60 B 1 7 7 ⟨B, 0, none⟩ 7 8 1 _ T ((v8L ⟨x1, x2, x3, x4, x5, x6, x7, x8⟩).take 7) Try.underlying137 hinfo h rfl (fun j v hj => by
    rw [addr_add, Nat.zero_add, h.cell]
    have hlt := (List.getElem?_eq_some_iff.1 hj).1
    rw [List.getElem?_take] at hj
    split at hj
    · simpa using hj
    · cases hj) (by simp [v8L]) (by intro v hv; simp [v8L] at hv; rcases hv with h | h | h | h | h | h | h <;> rw [h] <;> rfl)
  exact this

set_option maxHeartbeats 1000000 in
set_option maxRecDepth 100000 in
theorem through_any (v : V8) (hv : v.ok) (rest : ByteArray) (n : Int) (b : Bool) (p : List UInt8) (hp : p.length = 64) (kb : Nat) (w : World) (hk : Blk w kb 142 (c32 kL).toArray) :
    Calls Try.prog 96 #[stA v rest n b, .string (str p), .pointer (some ⟨kb, 0, none⟩)] w fun e w' => e = .returned (stA (press v p) rest n b) ∧ Below w.heap.size w w' := by
  obtain ⟨a1, a2, a3, a4, a5, a6, a7, a8⟩ := v
  have SP := kp (fun w' => spread_any p hp w')
  obtain ⟨P, hP⟩ : ∃ P, press ⟨a1, a2, a3, a4, a5, a6, a7, a8⟩ p = P := ⟨_, rfl⟩
  rw [hP]
  have HP := kp hP
  have hS1 := sched_length p
  have hS2 := sched_lt p
  obtain ⟨S, hS⟩ : ∃ S, sched p = S := ⟨_, rfl⟩
  rw [hS] at hS1 hS2 SP
  have HS := kp hS
  have HS1 := kp hS1
  have HS2 := kp hS2
  have HK := kp hk
  have HV := kp hv
  have HPL := kp hp
  clear hP hS hS1 hS2 hk hv hp
  unfold stA stL
  go_enter Try.func96, Try.ntmps96
  go_wp2_with fail
  refine (SP.out _).mono ?_
  rintro e w1 ⟨rfl, hb⟩
  have HK0 : Kp (Blk w1 w.heap.size 132 (stL ⟨a1, a2, a3, a4, a5, a6, a7, a8⟩ rest n b).toArray) := kp ((((Blk.new w _ _).alloc _).alloc _).bel hb)
  have HK1 : Kp (Blk w1 (w.heap.size + 1) 132 (stL ⟨0, 0, 0, 0, 0, 0, 0, 0⟩ ⟨#[]⟩ 0 false).toArray) := by
    have := ((Blk.new (w.alloc _) _ _).alloc _).bel hb
    rw [size_all] at this
    exact kp this
  have HK2 : Kp (Blk w1 (w.heap.size + 2) 130 (v8L (rounds S ⟨a1, a2, a3, a4, a5, a6, a7, a8⟩ 0)).toArray) := by
    have := (Blk.new ((w.alloc _) |>.alloc _) _ _).bel hb
    rw [size_all, size_all] at this
    exact kp this
  have HKK : Kp (Blk w1 kb 142 (c32 kL).toArray) := kp ((((HK.out.alloc _).alloc _).alloc _).bel hb)
  have hkb := HK.out.lt
  have HB := kp ((ba (ba (ba (Below.refl w.heap.size w) _) _) _).trans (hb.mono (by simp only [size_all]; omega)))
  have hs1 := HK2.out.lt
  clear hb HK SP
  go_wp2
  go_loopw [23] (fun i wr => ∃ k : Nat, k ≤ 64 ∧ i = .int .i64 k ∧ Kp (Blk wr (w.heap.size + 2) 130 (v8L (rounds S ⟨a1, a2, a3, a4, a5, a6, a7, a8⟩ k)).toArray) ∧ Kp (w1.grownBy wr (some (w.heap.size + 2)))) (fun i _ => 64 - (intOf i).toNat)
  case atStart => exact ⟨0, Nat.zero_le _, rfl, HK2, kp (World.grownBy.refl _ _)⟩
  case round =>
    obtain ⟨k, hk, rfl, hB, hg⟩ := hrel
    by_cases hlt : k < 64
    · have hlt' : (k : Int) < 64 := by omega
      have i2 : (0 : Int) ≤ (k : Int) := by omega
      have HR : Kp (rounds S ⟨a1, a2, a3, a4, a5, a6, a7, a8⟩ (k + 1) = rnd (rounds S ⟨a1, a2, a3, a4, a5, a6, a7, a8⟩ k) (kL.getD k 0) (S.getD k 0)) := kp rfl
      have hok := rounds_ok HV.out S k
      obtain ⟨V, hV⟩ : ∃ V, rounds S ⟨a1, a2, a3, a4, a5, a6, a7, a8⟩ k = V := ⟨_, rfl⟩
      rw [hV] at hok HR hB
      clear hV
      obtain ⟨x1, x2, x3, x4, x5, x6, x7, x8⟩ := V
      obtain ⟨y1, y2, y3, y4, y5, y6, y7, y8⟩ := (V8.ok_iff _).1 hok
      have Z1 := kp (leftN_lt x5 7 y5 (by omega))
      have Z2 := kp (leftN_lt x1 10 y1 (by omega))
      have Y1 : Kp (x1 < M32) := kp y1
      have Y5 : Kp (x5 < M32) := kp y5
      have HOK := kp hok
      clear y1 y2 y3 y4 y5 y6 y7 y8 hok
      obtain ⟨c0, c1, c2, c3, c4, c5, c6, c7⟩ := v8_cells hB.out
      have hlw := hB.out.lt
      obtain ⟨ss, hss⟩ : ∃ ss, S.getD k 0 = ss := ⟨_, rfl⟩
      have HSL := kp (getD_lt S HS2.out k)
      have ix : ∀ W : World, (Instr.index 142 (arr32 S) (.int .i64 k)).run Try.prog W = .ok (.int .u32 (ss : Int)) W := fun W => by rw [← hss]; exact run_index32 142 60 Try.underlying142 (by kernel_rfl) (by kernel_rfl) HS1.out k hlt W
      rw [hss] at HR HSL
      clear hss
      simp only at c0 c1 c2 c3 c4 c5 c6 c7
      go_wp2
      go_quiet (fail)
      have HQ := kp (hB.out.drewN nq)
      have HGQ := kp (gbt hg.out (gb (bd (Below.refl _ wr) nq) _))
      clear c0 c1 c2 c3 c4 c5 c6 c7 hB hg ix
      generalize (wr.drewN nq) = W at HQ HGQ ⊢
      obtain ⟨c0, c1, c2, c3, c4, c5, c6, c7⟩ := v8_cells HQ.out
      simp only at c0 c1 c2 c3 c4 c5 c6 c7
      have HKW := kp (HKK.out.grown HGQ.out (by intro e; injection e; omega))
      have ck := HKW.out.atL (i := k) (c32_get (by show k < 64; omega))
      have hkw := HKW.out.lt
      have hbw := HQ.out.lt
      have HKL := kp (getD_lt kL kL_lt k)
      generalize kL.getD k 0 = kk at ck HKL HR
      go_wp2
      refine wp_region_ext [0, 1, 2, 3, 4, 5, 6, 7, 8, 9, 10, 11, 12, 13, 14, 15, 16, 17, 18, 19, 20, 21, 22, 23] [24] (by kernel_rfl) (by kernel_rfl) ?_
      simp only [List.map_cons, List.map_nil, List.getD_cons_succ, List.getD_cons_zero]
      repeat (go_big_quiet_step (first | (go_at_call 104; exact Calls.ext_drew (turned_n _ _ _ _ _ Y5.out Z1.out (by decide) (by decide))) | (go_at_call 105; exact Calls.ext_drew (octet_Left_any _ _ _ Y5.out))))
      refine wpQuiet_nil ?_
      rintro z
      have HZ := kp (HQ.out.bel (ext_below W z))
      have HGZ := kp (gbt HGQ.out (gb (ext_below W z) _))
      clear c0 c1 c2 c3 c4 c5 c6 c7 HQ HGQ ck hkw hbw HKW
      generalize (W.ext z) = Z at HZ HGZ ⊢
      go_wp2_with fail
      refine (octet_Left_any _ _ _ Y1.out).mono ?_
      rintro e w' ⟨rfl, m1, rfl⟩
      go_wp2_with fail
      refine (turned_n _ _ _ _ _ Y1.out Z2.out (by decide) (by decide)).mono ?_
      rintro e w' ⟨rfl, m2, rfl⟩
      go_wp2
      refine wp_region_ext [0, 1] [2] (by kernel_rfl) (by kernel_rfl) ?_
      simp only [List.map_cons, List.map_nil, List.getD_cons_succ, List.getD_cons_zero]
      repeat (go_big_quiet_step (fail))
      refine wpQuiet_nil ?_
      rintro z
      have HX := kp (HZ.out.bel ((bd (Below.refl _ Z) (m1 + m2)).trans ((ext_below _ z).mono (by simp))))
      have HGX := kp (gbt HGZ.out (gb ((bd (Below.refl _ Z) (m1 + m2)).trans ((ext_below _ z).mono (by simp))) (some (w.heap.size + 2))))
      generalize World.ext _ z = X at HX HGX ⊢
      obtain ⟨Y, hcp, hX, hgY⟩ := copy_v8 HX.out
      have HX2 := kp hX
      have HGX2 := kp (gbt HGX.out hgY)
      clear HX HGX hX hgY
      obtain ⟨_, _, _, _, c4, _, _, _⟩ := v8_cells HX2.out
      simp only at c4
      have f4 := HX2.out.frozen 4
      have f0 := HX2.out.frozen 0
      have hyw := HX2.out.lt
      go_wp2
      go_roundw
      case measure => simp [intOf]; omega
      case rel =>
        obtain ⟨y1, y2, y3, y4, y5, y6, y7, y8⟩ := (V8.ok_iff _).1 HOK.out
        refine ⟨k + 1, by omega, by go_num, kp ?_, kp (gbt HGX2.out (gbt (gbset _ _ _ _) (gbset _ _ _ _)))⟩
        rw [ch_eq x5 x6 x7 y5 y6 y7, ma_eq x1 x2 x3 y1 y2 y3, HR.out]
        have e1 : ∀ x : Nat, ((x : Int) + ((x8 : Int) + ((rr x5 6 ^^^ rr x5 11 ^^^ leftN x5 7 : Nat) : Int) + ((chN x5 x6 x7 : Nat) : Int) + (kk : Int) + (ss : Int))) % 4294967296 = (((x + t1N ⟨x1, x2, x3, x4, x5, x6, x7, x8⟩ kk ss) % M32 : Nat) : Int) := fun x => by
          show _ = (((x + (x8 + (rr x5 6 ^^^ rr x5 11 ^^^ leftN x5 7) + chN x5 x6 x7 + kk + ss) % M32) % M32 : Nat) : Int)
          simp
        have e2 : ((x8 : Int) + ((rr x5 6 ^^^ rr x5 11 ^^^ leftN x5 7 : Nat) : Int) + ((chN x5 x6 x7 : Nat) : Int) + (kk : Int) + (ss : Int) + (((rr x1 2 ^^^ rr x1 13 ^^^ leftN x1 10 : Nat) : Int) + ((maN x1 x2 x3 : Nat) : Int))) % 4294967296 = (((t1N ⟨x1, x2, x3, x4, x5, x6, x7, x8⟩ kk ss + t2N ⟨x1, x2, x3, x4, x5, x6, x7, x8⟩) % M32 : Nat) : Int) := by
          show _ = ((((x8 + (rr x5 6 ^^^ rr x5 11 ^^^ leftN x5 7) + chN x5 x6 x7 + kk + ss) % M32 + ((rr x1 2 ^^^ rr x1 13 ^^^ leftN x1 10) + maN x1 x2 x3) % M32) % M32 : Nat) : Int)
          simp
        rw [e1, e2]
        exact (HX2.out.setL 4 _).setL 0 _
    · obtain rfl : k = 64 := by omega
      obtain ⟨F, hF⟩ : ∃ F, rounds S ⟨a1, a2, a3, a4, a5, a6, a7, a8⟩ 64 = F := ⟨_, rfl⟩
      have HPF : Kp (P = addV ⟨a1, a2, a3, a4, a5, a6, a7, a8⟩ F) := kp (by rw [← HP.out, ← hF, ← HS.out]; rfl)
      rw [hF] at hB
      have h0 : Kp (Blk wr w.heap.size 132 (c32 (mixL (addV ⟨a1, a2, a3, a4, a5, a6, a7, a8⟩ F).list (V8.mk a1 a2 a3 a4 a5 a6 a7 a8).list 0) ++ stT rest n b).toArray) := kp (HK0.out.grown hg.out (by intro e; injection e; omega))
      have h1 := kp (HK1.out.grown hg.out (by intro e; injection e; omega))
      have h2 : Kp (Blk wr (w.heap.size + 2) 130 (c32 F.list).toArray) := hB
      have hw := kp (bgb HB.out hg.out (by omega) HB.out.size)
      have hlF : F.list.length = (V8.mk a1 a2 a3 a4 a5 a6 a7 a8).list.length := rfl
      have hbw := h2.out.lt
      clear hB hg HK0 HK1 HK2 HKK HB HP HS HS1 HS2 HV hF HPL hs1
      go_wp2
      go_loopw [92] (fun i wx => ∃ k : Nat, k ≤ 8 ∧ i = .int .i64 k ∧ Kp (Blk wx w.heap.size 132 (c32 (mixL (addV ⟨a1, a2, a3, a4, a5, a6, a7, a8⟩ F).list (V8.mk a1 a2 a3 a4 a5 a6 a7 a8).list k) ++ stT rest n b).toArray) ∧
        Kp (Blk wx (w.heap.size + 1) 132 (stL ⟨0, 0, 0, 0, 0, 0, 0, 0⟩ ⟨#[]⟩ 0 false).toArray) ∧ Kp (Blk wx (w.heap.size + 2) 130 (c32 F.list).toArray) ∧ Kp (Below w.heap.size w wx)) (fun i _ => 8 - (intOf i).toNat)
      case atStart => exact ⟨0, Nat.zero_le _, rfl, h0, h1, h2, hw⟩
      case round =>
        obtain ⟨k, hk, rfl, hb0, hb1, hb2, hbb⟩ := hrel
        by_cases hlt : k < 8
        · have hlt' : (k : Int) < 8 := by omega
          have i2 : (0 : Int) ≤ (k : Int) := by omega
          have hl8 : (V8.mk a1 a2 a3 a4 a5 a6 a7 a8).list.length = 8 := rfl
          have hm8 : ∀ i, i ≤ 8 → (mixL (addV ⟨a1, a2, a3, a4, a5, a6, a7, a8⟩ F).list (V8.mk a1 a2 a3 a4 a5 a6 a7 a8).list i).length = 8 := fun i hi => mixL_length _ _ i rfl hi
          have FA : ∀ W : World, Blk W w.heap.size 132 (c32 (mixL (addV ⟨a1, a2, a3, a4, a5, a6, a7, a8⟩ F).list (V8.mk a1 a2 a3 a4 a5 a6 a7 a8).list k) ++ stT rest n b).toArray → Blk W (w.heap.size + 2) 130 (c32 F.list).toArray →
              W.cell? ⟨w.heap.size, k, none⟩ = some (.int .u32 (((V8.mk a1 a2 a3 a4 a5 a6 a7 a8).list.getD k 0 : Nat) : Int)) ∧ W.cell? ⟨w.heap.size + 2, k, none⟩ = some (.int .u32 ((F.list.getD k 0 : Nat) : Int)) ∧ W.frozen? ⟨w.heap.size, k, none⟩ = false ∧ w.heap.size + 2 < W.heap.size ∧ w.heap.size < W.heap.size := fun W g0 g2 => by
            refine ⟨?_, g2.atL (c32_get hlt), g0.frozen _, g2.lt, g0.lt⟩
            refine g0.atL ?_
            rw [List.getElem?_append_left (by rw [length_c32, hm8 k (by omega)]; exact hlt), c32_get (by rw [hm8 k (by omega)]; exact hlt), mixL_get (addV ⟨a1, a2, a3, a4, a5, a6, a7, a8⟩ F).list (V8.mk a1 a2 a3 a4 a5 a6 a7 a8).list k rfl hlt]
          have hset := mixL_set (addV ⟨a1, a2, a3, a4, a5, a6, a7, a8⟩ F).list (V8.mk a1 a2 a3 a4 a5 a6 a7 a8).list k rfl hlt
          rw [addV_get _ _ k hlt] at hset
          have HFA := kp FA
          have HSET := kp hset
          have HM8 := kp hm8
          clear FA hset hm8 hl8 hlF
          generalize (V8.mk a1 a2 a3 a4 a5 a6 a7 a8).list.getD k 0 = x at HFA HSET
          generalize F.list.getD k 0 = y at HFA HSET
          obtain ⟨c1, c2, c3, c4, c5⟩ := HFA.out _ hb0.out hb2.out
          go_wp2
          refine wp_region_ext [0, 1, 2, 3, 4, 5, 6, 7, 8, 9] [10] (by kernel_rfl) (by kernel_rfl) ?_
          simp only [List.map_cons, List.map_nil, List.getD_cons_succ, List.getD_cons_zero]
          repeat (go_big_quiet_step (fail))
          refine wpQuiet_nil ?_
          rintro z
          have hz0 := kp (hb0.out.bel (ext_below wr z))
          have hz1 := kp (hb1.out.bel (ext_below wr z))
          have hz2 := kp (hb2.out.bel (ext_below wr z))
          have hzb := kp (bt' hbb.out (ext_below wr z) hbb.out.size)
          clear c1 c2 c3 c4 c5 hb0 hb1 hb2 hbb
          generalize (wr.ext z) = Z at hz0 hz1 hz2 hzb ⊢
          obtain ⟨c1, c2, c3, c4, c5⟩ := HFA.out _ hz0.out hz2.out
          go_wp2
          go_roundw
          case measure => simp [intOf]; omega
          case rel =>
            refine ⟨k + 1, by omega, by go_num, kp ?_, kp (hz1.out.far (by simp) _), kp (hz2.out.far (by simp) _), kp (bsc hzb.out (Nat.le_refl _) _)⟩
            have := hz0.out.setL k (.int .u32 (((x + y) % M32 : Nat) : Int))
            rw [List.set_append_left _ _ (by rw [length_c32, HM8.out k (by omega)]; exact hlt), c32_set, HSET.out] at this
            have e : ((x : Int) + (y : Int)) % 4294967296 = (((x + y) % M32 : Nat) : Int) := by simp
            rw [e]
            exact this
        · obtain rfl : k = 8 := by omega
          have HE : Kp (Blk wr w.heap.size 132 (stL P rest n b).toArray) := by
            have := hb0.out
            rw [show mixL (addV ⟨a1, a2, a3, a4, a5, a6, a7, a8⟩ F).list (V8.mk a1 a2 a3 a4 a5 a6 a7 a8).list 8 = (addV ⟨a1, a2, a3, a4, a5, a6, a7, a8⟩ F).list from mixL_all _ (V8.mk a1 a2 a3 a4 a5 a6 a7 a8).list rfl] at this
            rw [HPF.out]
            exact kp this
          have hL11 : (stL P rest n b).length = 11 := rfl
          have h1c := stL_one P rest n b
          obtain ⟨CS, hCS⟩ : ∃ CS, stL P rest n b = CS := ⟨_, rfl⟩
          rw [hCS] at HE hL11 h1c
          have HCS := kp hCS
          have LD := ld_all (P := Try.prog) (w := wr) w.heap.size 11 132 _ CS _ Try.underlying132 rfl info_st hL11 HE.out
          have SC := sc_all (P := Try.prog) (w := wr) (w.heap.size + 1) 132 CS (stL ⟨0, 0, 0, 0, 0, 0, 0, 0⟩ ⟨#[]⟩ 0 false) hb1.out hL11 h1c
          have HX := kp (hb1.out.row CS.toArray)
          have HBX := kp (bsr hbb.out (show w.heap.size ≤ w.heap.size + 1 by omega) hbb.out.size CS.toArray)
          have HL := kp hL11
          clear hCS h1c hb0 hb1 hb2 hbb HPF h0 h1 h2 hw hbw hlF
          generalize hX : wr.setRow (w.heap.size + 1) CS.toArray = X at SC HX HBX
          clear hX
          go_wp2_with (refine wpL_load rfl 132 _ rfl rfl LD ?_)
          refine bodyPost_ret (v := .agg CS.toArray) ?_ rfl ⟨by rw [← HCS.out]; rfl, HBX.out⟩
          exact res_all Try.results96 (w.heap.size + 1) 11 _ CS _ Try.underlying132 rfl info_st HL.out HX.out _ rfl
end Go.Proofs.Ytkknnnkbegigeaa
