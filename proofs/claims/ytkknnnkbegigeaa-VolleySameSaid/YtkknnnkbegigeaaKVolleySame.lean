/- VolleySame: the walk. -/
import Derived.Test.YtkknnnkbegigeaaKVolleyWide
namespace Go.Proofs.Ytkknnnkbegigeaa
open Go Go.RowKit
set_option linter.unusedVariables false
set_option linter.unusedSimpArgs false
attribute [local go_sem] bmax2 bmin2 bmax bmin cell_ext frozen_ext

set_option maxHeartbeats 4000000 in
set_option maxRecDepth 100000 in
theorem VolleySame_walk (t1 t2 st0 sp0 by0 r : Int) (b0 : (Lit.int .i64 t1).wf = true) (b1 : (Lit.int .i64 t2).wf = true) (b2 : (Lit.int .u64 st0).wf = true) (b3 : (Lit.int .u64 sp0).wf = true) (b4 : (Lit.int .i64 by0).wf = true) (b5 : (Lit.int .i64 r).wf = true) (w : World) :
    Calls Try.prog 6 #[.int .i64 t1, .int .i64 t2, .int .u64 st0, .int .u64 sp0, .int .i64 by0, .int .i64 r] w fun e w' => e = .returned (.bool true) ∧ Below w.heap.size w w' := by
  have h2 := wf_u64 b2
  have h3 := wf_u64 b3
  have h5 := wf_i64 b5
  have cW := kp (fun w' => volley_awake w')
  have ra := tmod_rangeW t1 1152921504606846976 (by omega)
  have rb := tmod_rangeW t2 1152921504606846976 (by omega)
  have rc := tmod_rangeW by0 1152921504606846976 (by omega)
  obtain ⟨st, hst, hst0, hst1⟩ : ∃ x : Int, st0 % 288230376151711744 = x ∧ 0 ≤ x ∧ x < 288230376151711744 := ⟨_, rfl, by omega, by omega⟩
  obtain ⟨sp, hsp, hsp0, hsp1⟩ : ∃ x : Int, sp0 % 288230376151711744 = x ∧ 0 ≤ x ∧ x < 288230376151711744 := ⟨_, rfl, by omega, by omega⟩
  clear b0 b1 b2 b3 b4 b5
  go_enter Try.func6, Try.ntmps6
  go_upto_region 4 with (go_at_call 11; refine (cW.out _).mono ?_; rintro e w1 ⟨rfl, hb1⟩)
  have HB := kp hb1
  clear hb1 cW
  refine wp_region_ext [0, 1, 2, 3, 4, 5, 6] [7] (by kernel_rfl) (by kernel_rfl) ?_
  simp only [List.map_cons, List.map_nil, List.getD_cons_succ, List.getD_cons_zero]
  repeat (go_big_quiet_step (fail))
  refine wpQuiet_nil ?_
  rintro z
  have HB := kp (bt' HB.out (ext_below w1 z) HB.out.size)
  generalize World.ext w1 z = V at HB ⊢
  generalize t1.tmod 1152921504606846976 = a at ra ⊢
  generalize t2.tmod 1152921504606846976 = b at rb ⊢
  go_upto_region 8 with (fail)
  generalize by0.tmod 1152921504606846976 = y at rc ⊢
  have e1 := rnd_core (t1 := a) (t2 := b) (t3 := b + st) (t4 := a + sp) r (by unfold In64; omega) (by unfold In64; omega)
  have e2 := rnd_core (t1 := a + y) (t2 := b) (t3 := b + st) (t4 := a + sp + y) r (by unfold In64; omega) (by unfold In64; omega)
  have e3 := rnd_core (t1 := a) (t2 := b + y) (t3 := b + st + y) (t4 := a + sp) r (by unfold In64; omega) (by unfold In64; omega)
  rw [show a + sp - a = sp by omega, show b + st - b = st by omega, show b - a + (b + st - (a + sp)) = 2 * (b - a) + st - sp by omega] at e1
  rw [show a + sp + y - (a + y) = sp by omega, show b + st - b = st by omega, show (b - (a + y) + (b + st - (a + sp + y))) / 2 = (2 * (b - a) + st - sp) / 2 - y by omega] at e2
  rw [show a + sp - a = sp by omega, show b + st + y - (b + y) = st by omega, show (b + y - a + (b + st + y - (a + sp))) / 2 = (2 * (b - a) + st - sp) / 2 + y by omega] at e3
  have ro : -2461168601842738790 < (2 * (b - a) + st - sp) / 2 ∧ (2 * (b - a) + st - sp) / 2 < 2461168601842738790 := by omega
  have cR := kp (fun w' => V_Round a b (b + st) (a + sp) r (by unfold In64; omega) (by unfold In64; omega) (by unfold In64; omega) (by unfold In64; omega) w')
  have cS := kp (fun w' => V_Round (a + y) b (b + st) (a + sp + y) r (by unfold In64; omega) (by unfold In64; omega) (by unfold In64; omega) (by unfold In64; omega) w')
  have cT := kp (fun w' => V_Round a (b + y) (b + st + y) (a + sp) r (by unfold In64; omega) (by unfold In64; omega) (by unfold In64; omega) (by unfold In64; omega) w')
  rw [e1.1, e1.2] at cR
  rw [e2.1, e2.2] at cS
  rw [e3.1, e3.2] at cT
  clear e1 e2 e3 hst hsp
  generalize (2 * (b - a) + st - sp) / 2 = h at *
  generalize intV (sp - st) = D at *
  generalize intV (coreB sp st r) = B at *
  generalize coreE sp st r = E at *
  obtain ⟨S1, hS1⟩ : ∃ S, (if E = 0 then smC h D B else smC 0 0 0) = S := ⟨_, rfl⟩
  obtain ⟨S2, hS2⟩ : ∃ S, (if E = 0 then smC (h - y) D B else smC 0 0 0) = S := ⟨_, rfl⟩
  obtain ⟨S3, hS3⟩ : ∃ S, (if E = 0 then smC (h + y) D B else smC 0 0 0) = S := ⟨_, rfl⟩
  have zz : ∀ S o d b, (if E = 0 then smC o d b else smC 0 0 0) = S → S.length = 3 ∧ ∀ v ∈ S, v.oneCell' = true := by
    intro S o d b hS
    subst hS
    split
    · exact ⟨rfl, smC_one _ _ _⟩
    · exact ⟨rfl, smC_one _ _ _⟩
  have o1 := kp (zz _ _ _ _ hS1).2
  have o2 := kp (zz _ _ _ _ hS2).2
  have o3 := kp (zz _ _ _ _ hS3).2
  have zl : S1.length = 3 ∧ S2.length = 3 ∧ S3.length = 3 := ⟨(zz _ _ _ _ hS1).1, (zz _ _ _ _ hS2).1, (zz _ _ _ _ hS3).1⟩
  rw [hS1] at cR
  rw [hS2] at cS
  rw [hS3] at cT
  have HS1 := kp hS1
  have HS2 := kp hS2
  have HS3 := kp hS3
  clear hS1 hS2 hS3 zz
  go_upto_region 9 with (go_at_call 12; refine (cR.out _).mono ?_; rintro e w2 ⟨rfl, hb⟩; have SC := sc_new (P := Try.prog) w2 23 S1 o1.out #[.int .i64 0, .int .i64 0, .int .i64 0] (by rw [zl.1]; rfl))
  change Code.wp _ _ _ _ (w2.alloc (.cells S1.toArray 23))
  clear SC
  have q := bt' HB.out hb HB.out.size
  have HB := kp (ba q (.cells S1.toArray 23))
  have H1 := kp (Blk.new w2 23 S1.toArray)
  clear q hb cR
  generalize w2.alloc (.cells S1.toArray 23) = W1 at H1 HB ⊢
  generalize w2.heap.size = b1 at *
  go_upto_region 10 with (go_at_call 12; refine (cS.out _).mono ?_; rintro e w3 ⟨rfl, hb⟩; have SC := sc_new (P := Try.prog) w3 23 S2 o2.out #[.int .i64 0, .int .i64 0, .int .i64 0] (by rw [zl.2.1]; rfl))
  change Code.wp _ _ _ _ (w3.alloc (.cells S2.toArray 23))
  clear SC
  have q := bt' HB.out hb HB.out.size
  have HB := kp (ba q (.cells S2.toArray 23))
  have H1 := kp ((H1.out.bel hb).alloc (.cells S2.toArray 23))
  have H2 := kp (Blk.new w3 23 S2.toArray)
  clear q hb cS
  generalize w3.alloc (.cells S2.toArray 23) = W2 at H1 H2 HB ⊢
  generalize w3.heap.size = b2 at *
  go_upto_region 11 with (go_at_call 12; refine (cT.out _).mono ?_; rintro e w4 ⟨rfl, hb⟩; have SC := sc_new (P := Try.prog) w4 23 S3 o3.out #[.int .i64 0, .int .i64 0, .int .i64 0] (by rw [zl.2.2]; rfl))
  change Code.wp _ _ _ _ (w4.alloc (.cells S3.toArray 23))
  clear SC
  have q := bt' HB.out hb HB.out.size
  have HB := kp (ba q (.cells S3.toArray 23))
  have H1 := kp ((H1.out.bel hb).alloc (.cells S3.toArray 23))
  have H2 := kp ((H2.out.bel hb).alloc (.cells S3.toArray 23))
  have H3 := kp (Blk.new w4 23 S3.toArray)
  clear q hb cT
  generalize w4.alloc (.cells S3.toArray 23) = W3 at H1 H2 H3 HB ⊢
  generalize w4.heap.size = b3 at *
  by_cases hE : E = 0
  · have q1 := HS1.out
    have q2 := HS2.out
    have q3 := HS3.out
    rw [if_pos hE] at q1 q2 q3
    rw [← q1] at H1
    rw [← q2] at H2
    rw [← q3] at H3
    have g : (E != 0) = false := by simp [hE]
    have g2 : (E == 0) = true := by simp [hE]
    clear q1 q2 q3 HS1 HS2 HS3
    have x0 := H1.out.atL (show (smC h D B)[0]? = some (.int .i64 h) from rfl)
    have x1 := H1.out.atL (show (smC h D B)[1]? = some (.int .i64 D) from rfl)
    have x2 := H1.out.atL (show (smC h D B)[2]? = some (.int .i64 B) from rfl)
    have xl := H1.out.lt
    have y0 := H2.out.atL (show (smC (h - y) D B)[0]? = some (.int .i64 (h - y)) from rfl)
    have y1 := H2.out.atL (show (smC (h - y) D B)[1]? = some (.int .i64 D) from rfl)
    have y2 := H2.out.atL (show (smC (h - y) D B)[2]? = some (.int .i64 B) from rfl)
    have yl := H2.out.lt
    have z0 := H3.out.atL (show (smC (h + y) D B)[0]? = some (.int .i64 (h + y)) from rfl)
    have z1 := H3.out.atL (show (smC (h + y) D B)[1]? = some (.int .i64 D) from rfl)
    have z2 := H3.out.atL (show (smC (h + y) D B)[2]? = some (.int .i64 B) from rfl)
    have zl := H3.out.lt
    go_wp2
    go_ret
    exact ⟨rfl, HB.out⟩
  · have g : (E != 0) = true := by simp [hE]
    have g2 : (E == 0) = false := by simp [hE]
    go_wp2
    go_ret
    exact ⟨rfl, HB.out⟩
end Go.Proofs.Ytkknnnkbegigeaa
