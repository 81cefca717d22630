/- VolleyBound: the walk. -/
import Derived.Test.YtkknnnkbegigeaaVb7
import Derived.Test.YtkknnnkbegigeaaKVolleyWide
namespace Go.Proofs.Ytkknnnkbegigeaa
open Go Go.RowKit
set_option linter.unusedVariables false
set_option linter.unusedSimpArgs false
attribute [local go_sem] bmax2 bmin2 bmax bmin cell_ext frozen_ext

theorem clkC_one (a b c : Int) : ∀ v ∈ clkC a b c, v.oneCell' = true := by
  intro v hv
  simp only [clkC, List.mem_cons, List.not_mem_nil, or_false] at hv
  rcases hv with rfl | rfl | rfl <;> rfl
theorem upQ_small {S r : Int} (h1 : S < 9000000000000) (h0 : 0 ≤ S) (hr : 0 ≤ r ∧ r ≤ 100000000) : upQ (S * (2 * r)) < 1000000000000000 := by
  have h : S * (2 * r) ≤ 9000000000000 * 200000000 := Int.mul_le_mul (by omega) (by omega) (by omega) (by omega)
  have := upQ_range (B := 1800000000000) (Int.mul_nonneg h0 (show (0 : Int) ≤ 2 * r by omega)) (by omega)
  omega
theorem bound_rnd {at_ s th sy bk G e r : Int} (ha : -1152921504606846976 < at_ ∧ at_ < 1152921504606846976) (hs : -1152921504606846976 < s ∧ s < 1152921504606846976) (hth : 0 ≤ th ∧ th < 1099511627776) (hsy : 0 ≤ sy ∧ sy < 1099511627776) (hbk : 0 ≤ bk ∧ bk < 1099511627776) (hG : G = th + sy + bk) (hr : 0 ≤ r ∧ r ≤ 100000000) (h0 : 0 ≤ G + e) (e1 : -1000000000000 ≤ e) (e2 : e ≤ 1000000000000) :
    rndE s (at_ + th) (at_ + th + sy) (e + G + s) r = (if G + e - sy < 0 then 3 else 0) ∧ rndS s (at_ + th) (at_ + th + sy) (e + G + s) r = if G + e - sy < 0 then smC 0 0 0 else smC (at_ - s + th + (th - bk - e) / 2 - th) (G + e - sy) ((th + bk + e + 1) / 2 + upQ ((G + e) * (2 * r)) + 2) := by
  have hc := rnd_core (t1 := s) (t2 := at_ + th) (t3 := at_ + th + sy) (t4 := e + G + s) r (by unfold In64; omega) (by unfold In64; omega)
  have hf := core_fit (th := G + e) (bk := sy) (r := r) hr (by omega) (by omega)
  rw [show e + G + s - s = G + e by omega, show at_ + th + sy - (at_ + th) = sy by omega] at hc
  obtain ⟨f1, f2, f3, f4, f5⟩ := hf
  rw [f1] at hc
  refine ⟨hc.1, hc.2.trans ?_⟩
  by_cases hd : G + e - sy < 0
  · rw [if_pos hd, if_pos hd, if_neg (by omega)]
  · rw [if_neg hd, if_neg hd, if_pos rfl, f4, intV_in f3, f2, show (at_ + th - s + (at_ + th + sy - (e + G + s))) / 2 = at_ - s + th + (th - bk - e) / 2 - th by omega, show (G + e - sy + 1) / 2 = (th + bk + e + 1) / 2 by omega]
theorem bound_plain {at_ s th sy bk wv r : Int} (ra : -1152921504606846976 < at_ ∧ at_ < 1152921504606846976) (rs : -1152921504606846976 < s ∧ s < 1152921504606846976) (hth : 0 ≤ th ∧ th < 1099511627776) (hsy : 0 ≤ sy ∧ sy < 1099511627776) (hbk : 0 ≤ bk ∧ bk < 1099511627776) (hr : 0 ≤ r ∧ r ≤ 100000000) (hw : -r ≤ wv ∧ wv ≤ r) :
    ∃ e, (th + sy + bk) * wv / 1000000000 = e ∧ -1000000000000 ≤ e ∧ e ≤ 1000000000000 ∧ ((rndE s (at_ + th) (at_ + th + sy) (e + (th + sy + bk) + s) r = 3 ∧ rndS s (at_ + th) (at_ + th + sy) (e + (th + sy + bk) + s) r = smC 0 0 0) ∨ (rndE s (at_ + th) (at_ + th + sy) (e + (th + sy + bk) + s) r = 0 ∧ ∃ OF D bd, rndS s (at_ + th) (at_ + th + sy) (e + (th + sy + bk) + s) r = smC OF D bd ∧ (-4611686018427387904 < OF ∧ OF < 4611686018427387904) ∧ at_ + th + sy + bk - (e + (th + sy + bk) + s) - OF ≤ bd ∧ -(at_ + th + sy + bk - (e + (th + sy + bk) + s) - OF) ≤ bd ∧ -20000000000000 < at_ + th + sy + bk - (e + (th + sy + bk) + s) - OF ∧ at_ + th + sy + bk - (e + (th + sy + bk) + s) - OF < 20000000000000)) := by
  obtain ⟨e, he, he0, he1, he2, he3, he4, he5⟩ := drift_facts (G := th + sy + bk) (w := wv) (r := r) (by omega) hr hw
  have er := bound_rnd (at_ := at_) (s := s) (th := th) (sy := sy) (bk := bk) (G := th + sy + bk) (e := e) (r := r) ra rs hth hsy hbk rfl hr he0 he1 he2
  have bl := bound_law (th := th) (sy := sy) (bk := bk) (e := e) (U := upQ ((th + sy + bk + e) * (2 * r))) hth.1 hbk.1 he3 he4 he5
  refine ⟨e, he, he1, he2, ?_⟩
  clear he
  by_cases hd : th + sy + bk + e - sy < 0
  · rw [if_pos hd, if_pos hd] at er
    exact Or.inl er
  · rw [if_neg hd, if_neg hd] at er
    refine Or.inr ⟨er.1, _, _, _, er.2, ?_⟩
    clear er he3 he4
    generalize upQ ((th + sy + bk + e) * (2 * r)) = U at *
    have e1 : at_ + th + sy + bk - (e + (th + sy + bk) + s) - (at_ - s + th + (th - bk - e) / 2 - th) = -e - (th - bk - e) / 2 := by omega
    rw [e1]
    refine ⟨by omega, bl.1, bl.2, by omega, by omega⟩
theorem bound_calls {at_ s th sy bk wv r : Int} (ra : -1152921504606846976 < at_ ∧ at_ < 1152921504606846976) (rs : -1152921504606846976 < s ∧ s < 1152921504606846976) (hth : 0 ≤ th ∧ th < 1099511627776) (hsy : 0 ≤ sy ∧ sy < 1099511627776) (hbk : 0 ≤ bk ∧ bk < 1099511627776) (hr : 0 ≤ r ∧ r ≤ 100000000) (hw : -r ≤ wv ∧ wv ≤ r) :
    ∃ cm E S, Kp (∀ w, Calls Try.prog 26 #[.int .i64 at_, .int .i64 s, .int .i64 wv] w fun e w' => e = .returned (.tuple #[.agg (clkC at_ s wv).toArray, .int .i64 0]) ∧ Below w.heap.size w w') ∧
      Kp (∀ w, Calls Try.prog 27 #[.agg (clkC at_ s wv).toArray, .int .i64 at_] w fun e w' => e = .returned (.tuple #[.int .i64 s, .int .i64 0]) ∧ Below w.heap.size w w') ∧
      Kp (∀ w, Calls Try.prog 27 #[.agg (clkC at_ s wv).toArray, .int .i64 (at_ + th + sy + bk)] w fun e w' => e = .returned (.tuple #[.int .i64 cm, .int .i64 0]) ∧ Below w.heap.size w w') ∧
      Kp (∀ w, Calls Try.prog 12 #[.int .i64 s, .int .i64 (at_ + th), .int .i64 (at_ + th + sy), .int .i64 cm, .int .i64 r] w fun e w' => e = .returned (.tuple #[.agg S.toArray, .int .i64 E]) ∧ Below w.heap.size w w') ∧
      (-4611686018427387904 < cm ∧ cm < 4611686018427387904) ∧ ((E = 3 ∧ S = smC 0 0 0) ∨ (E = 0 ∧ ∃ OF D bd, S = smC OF D bd ∧ (-4611686018427387904 < OF ∧ OF < 4611686018427387904) ∧ at_ + th + sy + bk - cm - OF ≤ bd ∧ -(at_ + th + sy + bk - cm - OF) ≤ bd ∧ -20000000000000 < at_ + th + sy + bk - cm - OF ∧ at_ + th + sy + bk - cm - OF < 20000000000000)) := by
  obtain ⟨e, he, he1, he2, hh⟩ := bound_plain ra rs hth hsy hbk hr hw
  have ia : In64 at_ := by unfold In64; omega
  have is : In64 s := by unfold In64; omega
  have iw : In64 wv := by unfold In64; omega
  have it : In64 (at_ + th + sy + bk) := by unfold In64; omega
  have ic : In64 (e + (th + sy + bk) + s) := by unfold In64; omega
  refine ⟨e + (th + sy + bk) + s, _, _, kp fun w => D_New at_ s wv (by omega) w, kp fun w => ?_, kp fun w => ?_, kp fun w => V_Round s (at_ + th) (at_ + th + sy) (e + (th + sy + bk) + s) r is (by unfold In64; omega) (by unfold In64; omega) ic w, by omega, hh⟩
  · have h := D_Read at_ s wv at_ ia is iw ia (Int.le_refl _) (by unfold In64; omega) w
    rwa [show at_ - at_ = 0 by omega, show 0 * wv / 1000000000 + 0 + s = s by rw [Int.zero_mul]; omega, intV_in is, intE_in is] at h
  · have h := D_Read at_ s wv (at_ + th + sy + bk) ia is iw it (by omega) (by unfold In64; omega) w
    rwa [show at_ + th + sy + bk - at_ = th + sy + bk by omega, he, intV_in ic, intE_in ic] at h
set_option maxHeartbeats 8000000 in
set_option maxRecDepth 100000 in
theorem VolleyBound_walk (at0 sh0 th0 sy0 bk0 wr0 r0 : Int) (b0 : (Lit.int .i64 at0).wf = true) (b1 : (Lit.int .i64 sh0).wf = true) (b2 : (Lit.int .u64 th0).wf = true) (b3 : (Lit.int .u64 sy0).wf = true) (b4 : (Lit.int .u64 bk0).wf = true) (b5 : (Lit.int .i64 wr0).wf = true) (b6 : (Lit.int .i64 r0).wf = true) (w : World) :
    Calls Try.prog 10 #[.int .i64 at0, .int .i64 sh0, .int .u64 th0, .int .u64 sy0, .int .u64 bk0, .int .i64 wr0, .int .i64 r0] w fun e w' => e = .returned (.bool true) ∧ Below w.heap.size w w' := by
  have h2 := wf_u64 b2
  have h3 := wf_u64 b3
  have h4 := wf_u64 b4
  have cW := kp (fun w' => volley_awake w')
  have ra := tmod_rangeW at0 1152921504606846976 (by omega)
  have rs := tmod_rangeW sh0 1152921504606846976 (by omega)
  have rr := tmod_rangeW r0 100000001 (by omega)
  obtain ⟨th, hth, hth0, hth1⟩ : ∃ x : Int, th0 % 1099511627776 = x ∧ 0 ≤ x ∧ x < 1099511627776 := ⟨_, rfl, by omega, by omega⟩
  obtain ⟨sy, hsy, hsy0, hsy1⟩ : ∃ x : Int, sy0 % 1099511627776 = x ∧ 0 ≤ x ∧ x < 1099511627776 := ⟨_, rfl, by omega, by omega⟩
  obtain ⟨bk, hbk, hbk0, hbk1⟩ : ∃ x : Int, bk0 % 1099511627776 = x ∧ 0 ≤ x ∧ x < 1099511627776 := ⟨_, rfl, by omega, by omega⟩
  clear b0 b1 b2 b3 b4 b5 b6
  go_enter Try.func10, Try.ntmps10
  go_upto_region 4 with (go_at_call 11; refine (cW.out _).mono ?_; rintro e w1 ⟨rfl, hb1⟩)
  have HB := kp hb1
  clear hb1 cW
  generalize r0.tmod 100000001 = q at rr ⊢
  by_cases hq : q < 0
  · obtain ⟨r, hrq⟩ : ∃ r, -q = r := ⟨_, rfl⟩
    have hr : 0 ≤ r ∧ r ≤ 100000000 := by omega
    have hr1 : 0 < r := by omega
    have rw0 := tmod_rangeW wr0 (r + 1) (by omega)
    have hw : -r ≤ wr0.tmod (r + 1) ∧ wr0.tmod (r + 1) ≤ r := by omega
    obtain ⟨wv, hwv⟩ : ∃ v, wr0.tmod (r + 1) = v := ⟨_, rfl⟩
    rw [hwv] at hw
    clear rw0
    have hne : (r + 1 == 0) = false := by simp; omega
    go_upto_region 14 with (fail)
    generalize at0.tmod 1152921504606846976 = at_ at ra ⊢
    obtain ⟨s, hs⟩ : ∃ s, sh0.tmod 1152921504606846976 = s := ⟨_, rfl⟩
    rw [hs] at rs
    obtain ⟨cm, E, S, cN, cR1, cR2, cV, hcm, hES⟩ := bound_calls (at_ := at_) (s := s) (th := th) (sy := sy) (bk := bk) (wv := wv) (r := r) ra rs ⟨hth0, hth1⟩ ⟨hsy0, hsy1⟩ ⟨hbk0, hbk1⟩ hr hw
    have HES := kp hES
    clear hES
    obtain ⟨CL, hCL⟩ : ∃ S, clkC at_ s wv = S := ⟨_, rfl⟩
    have cl : CL.length = 3 := by subst hCL; rfl
    have co := kp (clkC_one at_ s wv)
    rw [hCL] at cN cR1 cR2 co
    clear hCL
    go_upto_region 15 with (go_at_call 26; refine (cN.out _).mono ?_; rintro e w2 ⟨rfl, hb⟩; have SC := sc_new (P := Try.prog) w2 63 CL co.out #[.int .i64 0, .int .i64 0, .int .i64 0] (by rw [cl]; rfl))
    change Code.wp _ _ _ _ (w2.alloc (.cells CL.toArray 63))
    clear SC
    have qq := bt' HB.out hb HB.out.size
    have HB := kp (ba qq (.cells CL.toArray 63))
    have H1 := kp (Blk.new w2 63 CL.toArray)
    clear qq hb cN
    generalize w2.alloc (.cells CL.toArray 63) = W at H1 HB ⊢
    generalize w2.heap.size = b1 at *
    have L1 := ld_all (P := Try.prog) b1 3 63 63 CL _ Try.underlying63 rfl info_clk cl H1.out
    go_upto_region 16 with (first | (refine wpL_load rfl 63 _ rfl rfl L1 ?_) | (go_at_call 27; refine (cR1.out _).mono ?_; rintro e w3 ⟨rfl, hb⟩))
    clear L1
    have H1 := kp (H1.out.bel hb)
    have HB := kp (bt' HB.out hb HB.out.size)
    clear hb cR1
    have L1 := ld_all (P := Try.prog) b1 3 63 63 CL _ Try.underlying63 rfl info_clk cl H1.out
    go_upto_region 17 with (first | (refine wpL_load rfl 63 _ rfl rfl L1 ?_) | (go_at_call 27; refine (cR2.out _).mono ?_; rintro e w4 ⟨rfl, hb⟩))
    clear L1 H1
    have HB := kp (bt' HB.out hb HB.out.size)
    clear hb cR2
    have sl : S.length = 3 := by rcases HES.out with ⟨_, h⟩ | ⟨_, _, _, _, h, _⟩ <;> rw [h] <;> rfl
    have o1 : Kp (∀ v ∈ S, v.oneCell' = true) := kp (by rcases HES.out with ⟨_, h⟩ | ⟨_, _, _, _, h, _⟩ <;> rw [h] <;> exact smC_one _ _ _)
    go_upto_region 18 with (go_at_call 12; refine (cV.out _).mono ?_; rintro e w5 ⟨rfl, hb⟩; have SC := sc_new (P := Try.prog) w5 23 S o1.out #[.int .i64 0, .int .i64 0, .int .i64 0] (by rw [sl]; rfl))
    change Code.wp _ _ _ _ (w5.alloc (.cells S.toArray 23))
    clear SC
    have qq := bt' HB.out hb HB.out.size
    have HB := kp (ba qq (.cells S.toArray 23))
    have H1 := kp (Blk.new w5 23 S.toArray)
    clear qq hb cV
    generalize w5.alloc (.cells S.toArray 23) = X at H1 HB ⊢
    generalize w5.heap.size = b2 at *
    clear o1 sl
    rcases HES.out with ⟨hE, hS⟩ | ⟨hE, OF, D, bd, hS, hO, hl1, hl2, hl3, hl4⟩
    · clear HES
      subst hE hS
      have x0 := H1.out.atL (show (smC 0 0 0)[0]? = some (.int .i64 0) from rfl)
      have x1 := H1.out.atL (show (smC 0 0 0)[1]? = some (.int .i64 0) from rfl)
      have x2 := H1.out.atL (show (smC 0 0 0)[2]? = some (.int .i64 0) from rfl)
      have xl := H1.out.lt
      go_wp2
      go_ret
      exact ⟨rfl, HB.out⟩
    · clear HES
      subst hE hS
      have x0 := H1.out.atL (show (smC OF D bd)[0]? = some (.int .i64 OF) from rfl)
      have x1 := H1.out.atL (show (smC OF D bd)[1]? = some (.int .i64 D) from rfl)
      have x2 := H1.out.atL (show (smC OF D bd)[2]? = some (.int .i64 bd) from rfl)
      have xl := H1.out.lt
      obtain ⟨t4, ht4, ht5⟩ : ∃ o, at_ + th + sy + bk = o ∧ (-4611686018427387904 < o ∧ o < 4611686018427387904) := ⟨_, rfl, by omega⟩
      rw [ht4] at hl1 hl2 hl3 hl4 ⊢
      clear ht4 ra rs hth0 hth1 hsy0 hsy1 hbk0 hbk1 h2 h3 h4
      have hd6 : -9223372036854775808 ≤ t4 - cm ∧ t4 - cm ≤ 9223372036854775807 := by omega
      go_wp2
      go_ret
      exact ⟨rfl, HB.out⟩
  · by_cases hp : 0 < q
    · have hr : 0 ≤ q ∧ q ≤ 100000000 := by omega
      have rw0 := tmod_rangeW wr0 (q + 1) (by omega)
      have hw : -q ≤ wr0.tmod (q + 1) ∧ wr0.tmod (q + 1) ≤ q := by omega
      obtain ⟨wv, hwv⟩ : ∃ v, wr0.tmod (q + 1) = v := ⟨_, rfl⟩
      rw [hwv] at hw
      clear rw0
      have hne : (q + 1 == 0) = false := by simp; omega
      go_upto_region 14 with (fail)
      generalize at0.tmod 1152921504606846976 = at_ at ra ⊢
      obtain ⟨s, hs⟩ : ∃ s, sh0.tmod 1152921504606846976 = s := ⟨_, rfl⟩
      rw [hs] at rs
      obtain ⟨cm, E, S, cN, cR1, cR2, cV, hcm, hES⟩ := bound_calls (at_ := at_) (s := s) (th := th) (sy := sy) (bk := bk) (wv := wv) (r := q) ra rs ⟨hth0, hth1⟩ ⟨hsy0, hsy1⟩ ⟨hbk0, hbk1⟩ hr hw
      have HES := kp hES
      clear hES
      obtain ⟨CL, hCL⟩ : ∃ S, clkC at_ s wv = S := ⟨_, rfl⟩
      have cl : CL.length = 3 := by subst hCL; rfl
      have co := kp (clkC_one at_ s wv)
      rw [hCL] at cN cR1 cR2 co
      clear hCL
      go_upto_region 15 with (go_at_call 26; refine (cN.out _).mono ?_; rintro e w2 ⟨rfl, hb⟩; have SC := sc_new (P := Try.prog) w2 63 CL co.out #[.int .i64 0, .int .i64 0, .int .i64 0] (by rw [cl]; rfl))
      change Code.wp _ _ _ _ (w2.alloc (.cells CL.toArray 63))
      clear SC
      have qq := bt' HB.out hb HB.out.size
      have HB := kp (ba qq (.cells CL.toArray 63))
      have H1 := kp (Blk.new w2 63 CL.toArray)
      clear qq hb cN
      generalize w2.alloc (.cells CL.toArray 63) = W at H1 HB ⊢
      generalize w2.heap.size = b1 at *
      have L1 := ld_all (P := Try.prog) b1 3 63 63 CL _ Try.underlying63 rfl info_clk cl H1.out
      go_upto_region 16 with (first | (refine wpL_load rfl 63 _ rfl rfl L1 ?_) | (go_at_call 27; refine (cR1.out _).mono ?_; rintro e w3 ⟨rfl, hb⟩))
      clear L1
      have H1 := kp (H1.out.bel hb)
      have HB := kp (bt' HB.out hb HB.out.size)
      clear hb cR1
      have L1 := ld_all (P := Try.prog) b1 3 63 63 CL _ Try.underlying63 rfl info_clk cl H1.out
      go_upto_region 17 with (first | (refine wpL_load rfl 63 _ rfl rfl L1 ?_) | (go_at_call 27; refine (cR2.out _).mono ?_; rintro e w4 ⟨rfl, hb⟩))
      clear L1 H1
      have HB := kp (bt' HB.out hb HB.out.size)
      clear hb cR2
      have sl : S.length = 3 := by rcases HES.out with ⟨_, h⟩ | ⟨_, _, _, _, h, _⟩ <;> rw [h] <;> rfl
      have o1 : Kp (∀ v ∈ S, v.oneCell' = true) := kp (by rcases HES.out with ⟨_, h⟩ | ⟨_, _, _, _, h, _⟩ <;> rw [h] <;> exact smC_one _ _ _)
      go_upto_region 18 with (go_at_call 12; refine (cV.out _).mono ?_; rintro e w5 ⟨rfl, hb⟩; have SC := sc_new (P := Try.prog) w5 23 S o1.out #[.int .i64 0, .int .i64 0, .int .i64 0] (by rw [sl]; rfl))
      change Code.wp _ _ _ _ (w5.alloc (.cells S.toArray 23))
      clear SC
      have qq := bt' HB.out hb HB.out.size
      have HB := kp (ba qq (.cells S.toArray 23))
      have H1 := kp (Blk.new w5 23 S.toArray)
      clear qq hb cV
      generalize w5.alloc (.cells S.toArray 23) = X at H1 HB ⊢
      generalize w5.heap.size = b2 at *
      clear o1 sl
      rcases HES.out with ⟨hE, hS⟩ | ⟨hE, OF, D, bd, hS, hO, hl1, hl2, hl3, hl4⟩
      · clear HES
        subst hE hS
        have x0 := H1.out.atL (show (smC 0 0 0)[0]? = some (.int .i64 0) from rfl)
        have x1 := H1.out.atL (show (smC 0 0 0)[1]? = some (.int .i64 0) from rfl)
        have x2 := H1.out.atL (show (smC 0 0 0)[2]? = some (.int .i64 0) from rfl)
        have xl := H1.out.lt
        go_wp2
        go_ret
        exact ⟨rfl, HB.out⟩
      · clear HES
        subst hE hS
        have x0 := H1.out.atL (show (smC OF D bd)[0]? = some (.int .i64 OF) from rfl)
        have x1 := H1.out.atL (show (smC OF D bd)[1]? = some (.int .i64 D) from rfl)
        have x2 := H1.out.atL (show (smC OF D bd)[2]? = some (.int .i64 bd) from rfl)
        have xl := H1.out.lt
        obtain ⟨t4, ht4, ht5⟩ : ∃ o, at_ + th + sy + bk = o ∧ (-4611686018427387904 < o ∧ o < 4611686018427387904) := ⟨_, rfl, by omega⟩
        rw [ht4] at hl1 hl2 hl3 hl4 ⊢
        clear ht4 ra rs hth0 hth1 hsy0 hsy1 hbk0 hbk1 h2 h3 h4
        have hd6 : -9223372036854775808 ≤ t4 - cm ∧ t4 - cm ≤ 9223372036854775807 := by omega
        go_wp2
        go_ret
        exact ⟨rfl, HB.out⟩
    · obtain rfl : q = 0 := by omega
      have hr : (0 : Int) ≤ 0 ∧ (0 : Int) ≤ 100000000 := by omega
      have hw : -(0 : Int) ≤ 0 ∧ (0 : Int) ≤ 0 := by omega
      go_upto_region 14 with (fail)
      generalize at0.tmod 1152921504606846976 = at_ at ra ⊢
      obtain ⟨s, hs⟩ : ∃ s, sh0.tmod 1152921504606846976 = s := ⟨_, rfl⟩
      rw [hs] at rs
      obtain ⟨cm, E, S, cN, cR1, cR2, cV, hcm, hES⟩ := bound_calls (at_ := at_) (s := s) (th := th) (sy := sy) (bk := bk) (wv := 0) (r := 0) ra rs ⟨hth0, hth1⟩ ⟨hsy0, hsy1⟩ ⟨hbk0, hbk1⟩ hr hw
      have HES := kp hES
      clear hES
      obtain ⟨CL, hCL⟩ : ∃ S, clkC at_ s 0 = S := ⟨_, rfl⟩
      have cl : CL.length = 3 := by subst hCL; rfl
      have co := kp (clkC_one at_ s 0)
      rw [hCL] at cN cR1 cR2 co
      clear hCL
      go_upto_region 15 with (go_at_call 26; refine (cN.out _).mono ?_; rintro e w2 ⟨rfl, hb⟩; have SC := sc_new (P := Try.prog) w2 63 CL co.out #[.int .i64 0, .int .i64 0, .int .i64 0] (by rw [cl]; rfl))
      change Code.wp _ _ _ _ (w2.alloc (.cells CL.toArray 63))
      clear SC
      have qq := bt' HB.out hb HB.out.size
      have HB := kp (ba qq (.cells CL.toArray 63))
      have H1 := kp (Blk.new w2 63 CL.toArray)
      clear qq hb cN
      generalize w2.alloc (.cells CL.toArray 63) = W at H1 HB ⊢
      generalize w2.heap.size = b1 at *
      have L1 := ld_all (P := Try.prog) b1 3 63 63 CL _ Try.underlying63 rfl info_clk cl H1.out
      go_upto_region 16 with (first | (refine wpL_load rfl 63 _ rfl rfl L1 ?_) | (go_at_call 27; refine (cR1.out _).mono ?_; rintro e w3 ⟨rfl, hb⟩))
      clear L1
      have H1 := kp (H1.out.bel hb)
      have HB := kp (bt' HB.out hb HB.out.size)
      clear hb cR1
      have L1 := ld_all (P := Try.prog) b1 3 63 63 CL _ Try.underlying63 rfl info_clk cl H1.out
      go_upto_region 17 with (first | (refine wpL_load rfl 63 _ rfl rfl L1 ?_) | (go_at_call 27; refine (cR2.out _).mono ?_; rintro e w4 ⟨rfl, hb⟩))
      clear L1 H1
      have HB := kp (bt' HB.out hb HB.out.size)
      clear hb cR2
      have sl : S.length = 3 := by rcases HES.out with ⟨_, h⟩ | ⟨_, _, _, _, h, _⟩ <;> rw [h] <;> rfl
      have o1 : Kp (∀ v ∈ S, v.oneCell' = true) := kp (by rcases HES.out with ⟨_, h⟩ | ⟨_, _, _, _, h, _⟩ <;> rw [h] <;> exact smC_one _ _ _)
      go_upto_region 18 with (go_at_call 12; refine (cV.out _).mono ?_; rintro e w5 ⟨rfl, hb⟩; have SC := sc_new (P := Try.prog) w5 23 S o1.out #[.int .i64 0, .int .i64 0, .int .i64 0] (by rw [sl]; rfl))
      change Code.wp _ _ _ _ (w5.alloc (.cells S.toArray 23))
      clear SC
      have qq := bt' HB.out hb HB.out.size
      have HB := kp (ba qq (.cells S.toArray 23))
      have H1 := kp (Blk.new w5 23 S.toArray)
      clear qq hb cV
      generalize w5.alloc (.cells S.toArray 23) = X at H1 HB ⊢
      generalize w5.heap.size = b2 at *
      clear o1 sl
      rcases HES.out with ⟨hE, hS⟩ | ⟨hE, OF, D, bd, hS, hO, hl1, hl2, hl3, hl4⟩
      · clear HES
        subst hE hS
        have x0 := H1.out.atL (show (smC 0 0 0)[0]? = some (.int .i64 0) from rfl)
        have x1 := H1.out.atL (show (smC 0 0 0)[1]? = some (.int .i64 0) from rfl)
        have x2 := H1.out.atL (show (smC 0 0 0)[2]? = some (.int .i64 0) from rfl)
        have xl := H1.out.lt
        go_wp2
        go_ret
        exact ⟨rfl, HB.out⟩
      · clear HES
        subst hE hS
        have x0 := H1.out.atL (show (smC OF D bd)[0]? = some (.int .i64 OF) from rfl)
        have x1 := H1.out.atL (show (smC OF D bd)[1]? = some (.int .i64 D) from rfl)
        have x2 := H1.out.atL (show (smC OF D bd)[2]? = some (.int .i64 bd) from rfl)
        have xl := H1.out.lt
        obtain ⟨t4, ht4, ht5⟩ : ∃ o, at_ + th + sy + bk = o ∧ (-4611686018427387904 < o ∧ o < 4611686018427387904) := ⟨_, rfl, by omega⟩
        rw [ht4] at hl1 hl2 hl3 hl4 ⊢
        clear ht4 ra rs hth0 hth1 hsy0 hsy1 hbk0 hbk1 h2 h3 h4
        have hd6 : -9223372036854775808 ≤ t4 - cm ∧ t4 - cm ≤ 9223372036854775807 := by omega
        go_wp2
        go_ret
        exact ⟨rfl, HB.out⟩
end Go.Proofs.Ytkknnnkbegigeaa
