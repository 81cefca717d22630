/- VolleyWide: the walk. -/
import Derived.Test.YtkknnnkbegigeaaVb7
namespace Go.Proofs.Ytkknnnkbegigeaa
open Go Go.RowKit
set_option linter.unusedVariables false
set_option linter.unusedSimpArgs false
attribute [local go_sem] bmax2 bmin2 bmax bmin cell_ext frozen_ext

theorem tmod_rangeW (a m : Int) (h : 0 < m) : -m < a.tmod m ∧ a.tmod m < m := by
  have h1 := Int.tmod_lt_of_pos (-a) h
  rw [Int.neg_tmod] at h1
  have h2 := Int.tmod_lt_of_pos a h
  omega
theorem wide_rnd {a b x : Int} (ha : -288230376151711744 < a ∧ a < 288230376151711744) (hb : -288230376151711744 < b ∧ b < 288230376151711744) (hx : 0 ≤ x ∧ x < 8796093022208) :
    rndE a b b (a + x) 0 = 0 ∧ rndS a b b (a + x) 0 = smC ((2 * (b - a) - x) / 2) x ((x + 1) / 2 + 2) := by
  have hc := rnd_core (t1 := a) (t2 := b) (t3 := b) (t4 := a + x) 0 (by unfold In64; omega) (by unfold In64; omega)
  have hf := core_fit (th := x) (bk := 0) (r := 0) (by omega) (by omega) (by omega)
  rw [show a + x - a = x by omega, show b - b = 0 by omega] at hc
  obtain ⟨f1, f2, f3, f4, f5⟩ := hf
  rw [if_neg (by omega)] at f1
  rw [f1, if_pos rfl] at hc
  refine ⟨hc.1, hc.2.trans ?_⟩
  rw [f4, intV_in f3, f2, show x * (2 * 0) = 0 by omega, show upQ 0 = 0 from rfl, show b - a + (b - (a + x)) = 2 * (b - a) - x by omega, show x - 0 = x by omega]
  simp
set_option maxHeartbeats 4000000 in
set_option maxRecDepth 100000 in
theorem VolleyWide_walk (t1 t2 th mo' : Int) (b0 : (Lit.int .i64 t1).wf = true) (b1 : (Lit.int .i64 t2).wf = true) (b2 : (Lit.int .u64 th).wf = true) (b3 : (Lit.int .u64 mo').wf = true) (w : World) :
    Calls Try.prog 8 #[.int .i64 t1, .int .i64 t2, .int .u64 th, .int .u64 mo'] w fun e w' => e = .returned (.bool true) ∧ Below w.heap.size w w' := by
  have h2 := wf_u64 b2
  have h3 := wf_u64 b3
  have cW := kp (fun w' => volley_awake w')
  have ra := tmod_rangeW t1 288230376151711744 (by omega)
  have rb := tmod_rangeW t2 288230376151711744 (by omega)
  obtain ⟨x, hx, hx0, hx1⟩ : ∃ x : Int, th % 1099511627776 = x ∧ 0 ≤ x ∧ x < 1099511627776 := ⟨_, rfl, by omega, by omega⟩
  obtain ⟨y, hy, hy0, hy1⟩ : ∃ x : Int, mo' % 1099511627776 = x ∧ 0 ≤ x ∧ x < 1099511627776 := ⟨_, rfl, by omega, by omega⟩
  clear b0 b1 b2 b3
  go_enter Try.func8, Try.ntmps8
  go_upto_region 4 with (go_at_call 11; refine (cW.out _).mono ?_; rintro e w1 ⟨rfl, hb1⟩)
  have HB := kp hb1
  clear hb1 cW
  refine wp_region_ext [0, 1, 2, 3, 4, 5, 6] [7] (by kernel_rfl) (by kernel_rfl) ?_
  simp only [List.map_cons, List.map_nil, List.getD_cons_succ, List.getD_cons_zero]
  repeat (go_big_quiet_step (fail))
  refine wpQuiet_nil ?_
  rintro z
  have HB := kp (bt' HB.out (ext_below w1 z) HB.out.size)
  generalize World.ext w1 z = V at HB ⊢
  generalize t1.tmod 288230376151711744 = a at ra ⊢
  generalize t2.tmod 288230376151711744 = b at rb ⊢
  have e1 := wide_rnd ra rb (x := x) (by omega)
  have e2 := wide_rnd ra rb (x := x + 2 * y) (by omega)
  rw [← Int.add_assoc] at e2
  have cR := kp (fun w' => V_Round a b b (a + x) 0 (by unfold In64; omega) (by unfold In64; omega) (by unfold In64; omega) (by unfold In64; omega) w')
  have cS := kp (fun w' => V_Round a b b (a + x + 2 * y) 0 (by unfold In64; omega) (by unfold In64; omega) (by unfold In64; omega) (by unfold In64; omega) w')
  rw [e1.1, e1.2] at cR
  rw [e2.1, e2.2, show (2 * (b - a) - (x + 2 * y)) / 2 = (2 * (b - a) - x) / 2 - y by omega, show (x + 2 * y + 1) / 2 + 2 = (x + 1) / 2 + 2 + y by omega] at cS
  have ro : -4611686018427387904 < (2 * (b - a) - x) / 2 ∧ (2 * (b - a) - x) / 2 < 4611686018427387904 := by omega
  have rp : 0 ≤ (x + 1) / 2 + 2 ∧ (x + 1) / 2 + 2 < 4611686018427387904 := by omega
  clear e1 e2
  generalize (2 * (b - a) - x) / 2 = H at *
  generalize (x + 1) / 2 + 2 = B at *
  obtain ⟨SA, hSA⟩ : ∃ S, smC H x B = S := ⟨_, rfl⟩
  obtain ⟨SB, hSB⟩ : ∃ S, smC (H - y) (x + 2 * y) (B + y) = S := ⟨_, rfl⟩
  have zl : SA.length = 3 ∧ SB.length = 3 := by subst hSA hSB; exact ⟨rfl, rfl⟩
  have o1 := kp (smC_one H x B)
  have o2 := kp (smC_one (H - y) (x + 2 * y) (B + y))
  rw [hSA] at cR o1
  rw [hSB] at cS o2
  have HSA := kp hSA
  have HSB := kp hSB
  clear hSA hSB
  go_upto_region 7 with (go_at_call 12; refine (cR.out _).mono ?_; rintro e w2 ⟨rfl, hb⟩; have SC := sc_new (P := Try.prog) w2 23 SA o1.out #[.int .i64 0, .int .i64 0, .int .i64 0] (by rw [zl.1]; rfl))
  change Code.wp _ _ _ _ (w2.alloc (.cells SA.toArray 23))
  clear SC
  have q := bt' HB.out hb HB.out.size
  have HB := kp (ba q (.cells SA.toArray 23))
  have H1 := kp (Blk.new w2 23 SA.toArray)
  clear q hb cR
  generalize w2.alloc (.cells SA.toArray 23) = W at H1 HB ⊢
  generalize w2.heap.size = b1 at *
  go_upto_region 8 with (go_at_call 12; refine (cS.out _).mono ?_; rintro e w3 ⟨rfl, hb⟩; have SC := sc_new (P := Try.prog) w3 23 SB o2.out #[.int .i64 0, .int .i64 0, .int .i64 0] (by rw [zl.2]; rfl))
  change Code.wp _ _ _ _ (w3.alloc (.cells SB.toArray 23))
  clear SC
  have q := bt' HB.out hb HB.out.size
  have HB := kp (ba q (.cells SB.toArray 23))
  have H1 := kp ((H1.out.bel hb).alloc (.cells SB.toArray 23))
  have H2 := kp (Blk.new w3 23 SB.toArray)
  clear q hb cS
  generalize w3.alloc (.cells SB.toArray 23) = X at H1 H2 HB ⊢
  generalize w3.heap.size = b2 at *
  rw [← HSA.out] at H1
  rw [← HSB.out] at H2
  have x0 := H1.out.atL (show (smC H x B)[0]? = some (.int .i64 H) from rfl)
  have x1 := H1.out.atL (show (smC H x B)[1]? = some (.int .i64 x) from rfl)
  have x2 := H1.out.atL (show (smC H x B)[2]? = some (.int .i64 B) from rfl)
  have xl := H1.out.lt
  have y0 := H2.out.atL (show (smC (H - y) (x + 2 * y) (B + y))[0]? = some (.int .i64 (H - y)) from rfl)
  have y1 := H2.out.atL (show (smC (H - y) (x + 2 * y) (B + y))[1]? = some (.int .i64 (x + 2 * y)) from rfl)
  have y2 := H2.out.atL (show (smC (H - y) (x + 2 * y) (B + y))[2]? = some (.int .i64 (B + y)) from rfl)
  have yl := H2.out.lt
  go_wp2
  go_ret
  exact ⟨rfl, HB.out⟩
end Go.Proofs.Ytkknnnkbegigeaa
