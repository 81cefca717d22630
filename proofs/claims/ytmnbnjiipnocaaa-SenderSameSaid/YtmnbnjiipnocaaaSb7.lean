/- Texts laid together: Pln2, Pln3, Pln4, Rw, Snd0, Snd1, Snd2, Snd3, Snd4. -/
import Derived.Maps.AppendAt
import Derived.Deep.AppendSrc
import Derived.Test.YtmnbnjiipnocaaaSb6
/- plan: Tells, End, Then, At, of a plan that may be. -/
namespace Go.Proofs.Ytmnbnjiipnocaaa
open Go Go.RowKit
set_option linter.unusedVariables false
set_option linter.unusedSimpArgs false
attribute [local go_sem] bmax2 bmin2 bmax bmin cell_ext frozen_ext

def tellsP (d c i : Int) : Int := if 1 ≤ i ∧ i ≤ c + d then max (i - d) 0 else 0
set_option maxHeartbeats 1000000 in
set_option maxRecDepth 100000 in
theorem P_Tells (s l d c i : Int) (hm : mayP s l d c = true) (w : World) : Calls Try.prog 34 #[.agg (planL s l d c).toArray, .int .i64 i] w fun e w' => e = .returned (.int .i64 (tellsP d c i)) ∧ Below w.heap.size w w' := by
  have cM := kp (fun w' => P_May s l d c w')
  have HB := kp (ba (Below.refl w.heap.size w) (.cells (planL s l d c).toArray 25))
  have HN := kp (Blk.new w 25 (planL s l d c).toArray)
  have hPl := planL_length s l d c
  have C2 : Kp ((planL s l d c)[2]? = some (.int .i64 d)) := kp rfl
  have C3 : Kp ((planL s l d c)[3]? = some (.int .i64 c)) := kp rfl
  unfold tellsP
  have hmm := mayP_iff.1 hm
  rw [hm] at cM
  clear hm
  have e1 : wrap64 (c + d) = c + d := IntWalk.wrap64_in _ (by omega)
  generalize planL s l d c = X at *
  by_cases h1 : i < 1
  · rw [if_neg (by omega)]
    clear hmm
    go_enter Try.func34, Try.ntmps34
    have LX := ld_all (P := Try.prog) w.heap.size 4 25 25 X _ Try.underlying25 rfl info_plan hPl HN.out
    go_wp2_with (refine wpL_load rfl 25 _ rfl rfl LX ?_)
    refine (cM.out _).mono ?_
    rintro e w1 ⟨rfl, hb1⟩
    have HB1 := kp (bt' HB.out hb1 HB.out.size)
    clear hb1
    go_wp2
    go_ret
    exact ⟨rfl, HB1.out⟩
  · by_cases h2 : c + d < i
    · rw [if_neg (by omega)]
      clear hmm
      go_enter Try.func34, Try.ntmps34
      have LX := ld_all (P := Try.prog) w.heap.size 4 25 25 X _ Try.underlying25 rfl info_plan hPl HN.out
      go_wp2_with (refine wpL_load rfl 25 _ rfl rfl LX ?_)
      refine (cM.out _).mono ?_
      rintro e w1 ⟨rfl, hb1⟩
      have HB1 := kp (bt' HB.out hb1 HB.out.size)
      have x2 := (HN.out.bel hb1).atL C2.out
      have x3 := (HN.out.bel hb1).atL C3.out
      have k1 := (HN.out.bel hb1).lt
      clear hb1
      go_wp2
      go_ret
      exact ⟨rfl, HB1.out⟩
    · rw [if_pos (by omega)]
      have e2 : wrap64 (i - d) = i - d := IntWalk.wrap64_in _ (by omega)
      clear hmm
      go_enter Try.func34, Try.ntmps34
      have LX := ld_all (P := Try.prog) w.heap.size 4 25 25 X _ Try.underlying25 rfl info_plan hPl HN.out
      go_wp2_with (refine wpL_load rfl 25 _ rfl rfl LX ?_)
      refine (cM.out _).mono ?_
      rintro e w1 ⟨rfl, hb1⟩
      have HB1 := kp (bt' HB.out hb1 HB.out.size)
      have x2 := (HN.out.bel hb1).atL C2.out
      have x3 := (HN.out.bel hb1).atL C3.out
      have k1 := (HN.out.bel hb1).lt
      clear hb1
      go_wp2
      go_ret
      exact ⟨rfl, HB1.out⟩
set_option maxHeartbeats 1000000 in
set_option maxRecDepth 100000 in
theorem P_End (s l d c : Int) (hm : mayP s l d c = true) (w : World) : Calls Try.prog 51 #[.agg (planL s l d c).toArray] w fun e w' => e = .returned (.tuple #[.int .i64 (s + c * l), .int .i64 0]) ∧ Below w.heap.size w w' := by
  have cB := kp (fun w' => P_Begins s l d c (c + 1) w')
  have HB := kp (ba (Below.refl w.heap.size w) (.cells (planL s l d c).toArray 25))
  have HN := kp (Blk.new w 25 (planL s l d c).toArray)
  have hPl := planL_length s l d c
  have C3 : Kp ((planL s l d c)[3]? = some (.int .i64 c)) := kp rfl
  have hmm := mayP_iff.1 hm
  unfold beginsV at cB
  rw [if_pos ⟨hm, by omega, by omega⟩, show c + 1 - 1 = c by omega] at cB
  have e1 : wrap64 (c + 1) = c + 1 := IntWalk.wrap64_in _ (by omega)
  generalize planL s l d c = X at *
  obtain ⟨t, ht⟩ : ∃ t, s + c * l = t := ⟨_, rfl⟩
  rw [ht] at cB ⊢
  clear hmm hm ht
  go_enter Try.func51, Try.ntmps51
  have LX := ld_all (P := Try.prog) w.heap.size 4 25 25 X _ Try.underlying25 rfl info_plan hPl HN.out
  have x3 := HN.out.atL C3.out
  have k1 := HN.out.lt
  go_wp2_with (refine wpL_load rfl 25 _ rfl rfl LX ?_)
  refine (cB.out _).mono ?_
  rintro e w1 ⟨rfl, hb1⟩
  have HB1 := kp (bt' HB.out hb1 HB.out.size)
  clear hb1
  go_wp2
  go_ret2
  exact ⟨rfl, HB1.out⟩
def thenV (s l d c : Int) : Value := if 1152921504606846976 < s + c * l then .tuple #[.agg (planL 0 0 0 0).toArray, .int .i64 6] else .tuple #[.agg (planL (s + c * l) l d c).toArray, .int .i64 0]
set_option maxHeartbeats 1000000 in
set_option maxRecDepth 100000 in
theorem P_Then (s l d c : Int) (hm : mayP s l d c = true) (w : World) : Calls Try.prog 28 #[.agg (planL s l d c).toArray] w fun e w' => e = .returned (thenV s l d c) ∧ Below w.heap.size w w' := by
  have cE := kp (fun w' => P_End s l d c hm w')
  have HB := kp (ba (ba (Below.refl w.heap.size w) (.cells (planL s l d c).toArray 25)) (.cells (planL 0 0 0 0).toArray 25))
  have H1 := kp ((Blk.new w 25 (planL s l d c).toArray).alloc (.cells (planL 0 0 0 0).toArray 25))
  have H2 := kp (Blk.new (w.alloc (.cells (planL s l d c).toArray 25)) 25 (planL 0 0 0 0).toArray)
  rw [size_all] at H2
  have hPl := planL_length s l d c
  have hZl := planL_length 0 0 0 0
  have hZ1 := kp (planL_one 0 0 0 0)
  have HZ : Kp (planL 0 0 0 0 = [.int .i64 0, .int .i64 0, .int .i64 0, .int .i64 0]) := kp rfl
  have C0 : Kp ((planL s l d c)[0]? = some (.int .i64 s)) := kp rfl
  unfold thenV
  obtain ⟨t, ht⟩ : ∃ t, s + c * l = t := ⟨_, rfl⟩
  rw [ht] at cE ⊢
  clear ht hm
  have hS : Kp (∀ u, (planL s l d c).set 0 (.int .i64 u) = planL u l d c) := kp (fun u => rfl)
  have hTl := planL_length t l d c
  have hT1 := kp (planL_one t l d c)
  have hST := kp (hS.out t)
  clear hS
  generalize planL s l d c = X at *
  generalize planL 0 0 0 0 = Z at *
  generalize planL t l d c = T at *
  by_cases hov : 1152921504606846976 < t
  · rw [if_pos hov]
    go_enter Try.func28, Try.ntmps28
    go_upto_region 1 with (fail)
    change Code.wp _ _ _ _ ((w.alloc (.cells X.toArray 25)).alloc (.cells #[.int .i64 0, .int .i64 0, .int .i64 0, .int .i64 0] 25))
    have hz : #[Value.int .i64 0, .int .i64 0, .int .i64 0, .int .i64 0] = Z.toArray := by rw [HZ.out]
    rw [hz]
    clear hz
    generalize (w.alloc (.cells X.toArray 25)).alloc (.cells Z.toArray 25) = W at H1 H2 HB ⊢
    have LX := ld_all (P := Try.prog) w.heap.size 4 25 25 X _ Try.underlying25 rfl info_plan hPl H1.out
    go_wp2_with (refine wpL_load rfl 25 _ rfl rfl LX ?_)
    refine (cE.out _).mono ?_
    rintro e w1 ⟨rfl, hb1⟩
    have HB1 := kp (bt' HB.out hb1 HB.out.size)
    have J2 := kp (H2.out.bel hb1)
    have SC := sc_same (P := Try.prog) (w := w1) (w.heap.size + 1) 25 Z J2.out hZ1.out
    clear hb1
    go_wp2_with (refine wpL_val 19 rfl rfl (.agg Z.toArray) (by rw [HZ.out]; kernel_rfl) ?_)
    refine bodyPost_ret (v := .tuple #[.agg Z.toArray, .int .i64 6]) ?_ rfl ⟨rfl, HB1.out⟩
    exact res2 Try.results28 (w.heap.size + 1) 4 _ _ _ Try.underlying25 rfl info_plan hZl J2.out _ rfl _ rfl
  · rw [if_neg hov]
    go_enter Try.func28, Try.ntmps28
    go_upto_region 1 with (fail)
    change Code.wp _ _ _ _ ((w.alloc (.cells X.toArray 25)).alloc (.cells #[.int .i64 0, .int .i64 0, .int .i64 0, .int .i64 0] 25))
    have hz : #[Value.int .i64 0, .int .i64 0, .int .i64 0, .int .i64 0] = Z.toArray := by rw [HZ.out]
    rw [hz]
    clear hz
    generalize (w.alloc (.cells X.toArray 25)).alloc (.cells Z.toArray 25) = W at H1 H2 HB ⊢
    have LX := ld_all (P := Try.prog) w.heap.size 4 25 25 X _ Try.underlying25 rfl info_plan hPl H1.out
    go_wp2_with (refine wpL_load rfl 25 _ rfl rfl LX ?_)
    refine (cE.out _).mono ?_
    rintro e w1 ⟨rfl, hb1⟩
    have HB1 := kp (bt' HB.out hb1 HB.out.size)
    have J1 := kp (H1.out.bel hb1)
    have J2 := kp (H2.out.bel hb1)
    clear hb1
    have x0 := J1.out.atL C0.out
    have f0 := J1.out.frozen 0
    have k1 := J1.out.lt
    have K1 := kp (J1.out.setL 0 (.int .i64 t))
    rw [hST.out] at K1
    have K2 := kp (J2.out.far (p := ⟨w.heap.size, 0, none⟩) (by show _ ≠ _; simp) (.int .i64 t))
    have HB2 := kp (bsc HB1.out (p := ⟨w.heap.size, 0, none⟩) (by show _ ≤ _; simp) (.int .i64 t))
    go_upto_region 7 with (fail)
    clear x0 f0 k1 LX
    generalize w1.setCell ⟨w.heap.size, 0, none⟩ (.int .i64 t) = W2 at K1 K2 HB2 ⊢
    have LT := ld_all (P := Try.prog) w.heap.size 4 25 25 T _ Try.underlying25 rfl info_plan hTl K1.out
    have SC := sc_all (P := Try.prog) (w := W2) (w.heap.size + 1) 25 T Z K2.out (by rw [hTl, hZl]) hT1.out
    have HX := kp (K2.out.row T.toArray)
    have HBX := kp (bsr HB2.out (show w.heap.size ≤ w.heap.size + 1 by omega) HB2.out.size T.toArray)
    generalize W2.setRow (w.heap.size + 1) T.toArray = W3 at SC HX HBX
    go_wp2_with (refine wpL_load rfl 25 _ rfl rfl LT ?_)
    refine bodyPost_ret (v := .tuple #[.agg T.toArray, .int .i64 0]) ?_ rfl ⟨rfl, HBX.out⟩
    exact res2 Try.results28 (w.heap.size + 1) 4 _ _ _ Try.underlying25 rfl info_plan hTl HX.out _ rfl _ rfl
end Go.Proofs.Ytmnbnjiipnocaaa
/- plan: At. -/
namespace Go.Proofs.Ytmnbnjiipnocaaa
open Go Go.RowKit
set_option linter.unusedVariables false
set_option linter.unusedSimpArgs false
attribute [local go_sem] bmax2 bmin2 bmax bmin cell_ext frozen_ext

/-- in which interval a moment is, and the error -/
def atP (s l c t : Int) : Int × Int := if t < s then (0, 15) else if s + c * l ≤ t then (0, 10) else ((t - s) / l + 1, 0)
theorem atP_in {s l d c t : Int} (hm : mayP s l d c = true) (h1 : s ≤ t) (h2 : t < s + c * l) : 0 ≤ (t - s) / l ∧ (t - s) / l < c := by
  have hmm := mayP_iff.1 hm
  constructor
  · exact Int.ediv_nonneg (by omega) (by omega)
  · exact Int.ediv_lt_of_lt_mul (by omega) (by omega)
set_option maxHeartbeats 1000000 in
set_option maxRecDepth 100000 in
theorem P_At (s l d c t : Int) (hm : mayP s l d c = true) (ht0 : -9223372036854775808 ≤ t) (ht1 : t < 9223372036854775808) (w : World) : Calls Try.prog 32 #[.agg (planL s l d c).toArray, .int .i64 t] w fun e w' => e = .returned (.tuple #[.int .i64 (atP s l c t).1, .int .i64 (atP s l c t).2]) ∧ Below w.heap.size w w' := by
  have cM := kp (fun w' => P_May s l d c w')
  have HB := kp (ba (Below.refl w.heap.size w) (.cells (planL s l d c).toArray 25))
  have HN := kp (Blk.new w 25 (planL s l d c).toArray)
  have hPl := planL_length s l d c
  have C0 : Kp ((planL s l d c)[0]? = some (.int .i64 s)) := kp rfl
  have C1 : Kp ((planL s l d c)[1]? = some (.int .i64 l)) := kp rfl
  have C3 : Kp ((planL s l d c)[3]? = some (.int .i64 c)) := kp rfl
  have hmm := mayP_iff.1 hm
  rw [hm] at cM
  have e1 : wrap64 (c + 1) = c + 1 := IntWalk.wrap64_in _ (by omega)
  have cB := kp (fun w' => P_begins_may s l d c (c + 1) hm (by omega) (by omega) w')
  rw [show c + 1 - 1 = c by omega] at cB
  unfold atP
  have hE := beg_in (i := c + 1) hm (by omega) (by omega)
  rw [show c + 1 - 1 = c by omega] at hE
  by_cases h1 : t < s
  · rw [if_pos h1]
    generalize planL s l d c = X at *
    clear hmm hE hm
    go_enter Try.func32, Try.ntmps32
    have LX := ld_all (P := Try.prog) w.heap.size 4 25 25 X _ Try.underlying25 rfl info_plan hPl HN.out
    go_wp2_with (refine wpL_load rfl 25 _ rfl rfl LX ?_)
    refine (cM.out _).mono ?_
    rintro e w1 ⟨rfl, hb1⟩
    have HB1 := kp (bt' HB.out hb1 HB.out.size)
    have x0 := (HN.out.bel hb1).atL C0.out
    have k1 := (HN.out.bel hb1).lt
    clear hb1
    go_wp2
    go_ret2
    exact ⟨rfl, HB1.out⟩
  · rw [if_neg h1]
    by_cases h2 : s + c * l ≤ t
    · rw [if_pos h2]
      obtain ⟨E, hEE⟩ : ∃ E, s + c * l = E := ⟨_, rfl⟩
      rw [hEE] at cB h2
      generalize planL s l d c = X at *
      clear hmm hE hm hEE
      go_enter Try.func32, Try.ntmps32
      have LX := ld_all (P := Try.prog) w.heap.size 4 25 25 X _ Try.underlying25 rfl info_plan hPl HN.out
      go_wp2_with (refine wpL_load rfl 25 _ rfl rfl LX ?_)
      refine (cM.out _).mono ?_
      rintro e w1 ⟨rfl, hb1⟩
      have HB1 := kp (bt' HB.out hb1 HB.out.size)
      have HN1 := kp (HN.out.bel hb1)
      have x0 := HN1.out.atL C0.out
      have x3 := HN1.out.atL C3.out
      have k1 := HN1.out.lt
      have LX1 := ld_all (P := Try.prog) w.heap.size 4 25 25 X _ Try.underlying25 rfl info_plan hPl HN1.out
      clear hb1 LX
      go_wp2_with (refine wpL_load rfl 25 _ rfl rfl LX1 ?_)
      refine (cB.out _).mono ?_
      rintro e w2 ⟨rfl, hb2⟩
      have HB2 := kp (bt' HB1.out hb2 HB1.out.size)
      clear hb2
      go_wp2
      go_ret2
      exact ⟨rfl, HB2.out⟩
    · rw [if_neg h2]
      have hq := atP_in hm (by omega) (show t < s + c * l by omega)
      have cO1 := kp (fun w' => W_Of t ht0 ht1 w')
      have cO2 := kp (fun w' => W_Of s (by omega) (by omega) w')
      have cS := kp (fun w' => W_Sub t s (by unfold In128; omega) (by unfold In128; omega) w')
      have hov : overV (t - s) = .tuple #[.agg (numC (t - s)).toArray, .int .i64 0] := if_pos (by unfold In128; omega)
      rw [hov] at cS
      obtain ⟨L, hL⟩ : ∃ L : Nat, l = (L : Int) := ⟨l.toNat, by omega⟩
      have cD := kp (fun w' => W_Div (t - s) L (by unfold In128; omega) (by omega) (by omega) w')
      rw [← hL] at cD
      obtain ⟨q, hqq⟩ : ∃ q, (t - s) / l = q := ⟨_, rfl⟩
      rw [hqq] at cD hq ⊢
      have cI := kp (fun w' => W_Int q (by omega) (by omega) w')
      rw [if_pos (by omega)] at cI
      have e2 : wrap64 (q + 1) = q + 1 := IntWalk.wrap64_in _ (by omega)
      obtain ⟨E, hEE⟩ : ∃ E, s + c * l = E := ⟨_, rfl⟩
      rw [hEE] at cB h2
      obtain ⟨R, hR⟩ : ∃ R, (t - s) % l = R := ⟨_, rfl⟩
      rw [hR] at cD
      have hGl := numC_length (t - s)
      have hG1 := kp (numC_one (t - s))
      have hQl := numC_length q
      have hQ1 := kp (numC_one q)
      have HZ : Kp (numC 0 = [.int .i64 0, .int .u64 0]) := kp (by kernel_rfl)
      generalize numC (t - s) = G at *
      generalize numC q = Q at *
      generalize numC t = T at *
      generalize numC s = S at *
      generalize planL s l d c = X at *
      clear hmm hE hm hEE hR hqq hov hL hq ht0 ht1
      go_enter Try.func32, Try.ntmps32
      have LX := ld_all (P := Try.prog) w.heap.size 4 25 25 X _ Try.underlying25 rfl info_plan hPl HN.out
      go_wp2_with (refine wpL_load rfl 25 _ rfl rfl LX ?_)
      refine (cM.out _).mono ?_
      rintro e w1 ⟨rfl, hb1⟩
      have HB1 := kp (bt' HB.out hb1 HB.out.size)
      have HN1 := kp (HN.out.bel hb1)
      have x0 := HN1.out.atL C0.out
      have x3 := HN1.out.atL C3.out
      have k1 := HN1.out.lt
      have LX1 := ld_all (P := Try.prog) w.heap.size 4 25 25 X _ Try.underlying25 rfl info_plan hPl HN1.out
      clear hb1 LX
      go_wp2_with (refine wpL_load rfl 25 _ rfl rfl LX1 ?_)
      refine (cB.out _).mono ?_
      rintro e w2 ⟨rfl, hb2⟩
      have HB2 := kp (bt' HB1.out hb2 HB1.out.size)
      have HN2 := kp (HN1.out.bel hb2)
      clear hb2 LX1 x0 x3 k1
      go_upto_region 7 with (fail)
      refine wp_region_earlyE [8] [0, 1, 2, 3, 4, 5, 6, 7, 8] [9] [10, 11] 54 (fun _ => VA w2.heap.size 100 (numC 0).toArray) (· ≠ ·) (by kernel_rfl) (by kernel_rfl) rfl (fun i v W W' h hb => h.mono hb) ?_
      apply Exists.intro
      refine ⟨fun V hV => ?_, ?_, ?_⟩
      · have J := HN2.out.bel hV
        have x0 := J.atL C0.out
        have k1 := J.lt
        simp only [List.map_cons, List.map_nil, List.getD_cons_succ, List.getD_cons_zero]
        repeat (go_big_quiet_step (first
          | (go_at_call 54; with_reducible exact Calls.ext_of (cO1.out _))
          | (go_at_call 54; with_reducible exact Calls.ext_of (cO2.out _))
          | (go_at_call 53; with_reducible exact Calls.ext_of (cS.out _))))
        exact wpQuiet_nil rfl
      · exact ⟨mk_alloc rfl (fun W => by rw [HZ.out]; kernel_rfl) (fun j u W h => h.ne), trivial⟩
      · intro ev _
        simp only [List.map_cons, List.map_nil, List.getD_cons_succ, List.getD_cons_zero, TailX]
        rintro V hV ⟨_, b4, rfl, hb4, hk4⟩
        have hZl := numC_length 0
        have SC := sc_all (P := Try.prog) (w := V) b4 100 G (numC 0) hk4 (by rw [hGl, hZl]) hG1.out
        have J4 := kp (hk4.row G.toArray)
        have hl2 := HN2.out.lt
        have J1 := kp ((HN2.out.bel hV).rowfar (b := b4) (by omega) G.toArray)
        have hbx := bt' HB2.out hV HB2.out.size
        have JB := kp (bsr hbx (show w.heap.size ≤ b4 by omega) hbx.size G.toArray)
        clear hV hk4 hbx
        generalize V.setRow b4 G.toArray = U at SC J1 J4 JB
        go_upto_region 8 with (fail)
        clear SC
        have LG := ld_all (P := Try.prog) b4 2 100 100 G _ Try.underlying100 rfl info_num hGl J4.out
        have x1 := J1.out.atL C1.out
        have k1 := J1.out.lt
        go_wp2_with (refine wpL_load rfl 100 _ rfl rfl LG ?_)
        refine (cD.out _).mono ?_
        rintro e w3 ⟨rfl, hb3⟩
        have JB3 := kp (bt' JB.out hb3 JB.out.size)
        clear hb3 LG
        have SC := sc_new (P := Try.prog) w3 100 Q hQ1.out #[.int .i64 0, .int .u64 0] (by rw [hQl]; rfl)
        have J9 := kp (Blk.new w3 100 Q.toArray)
        have JB9 := kp (ba JB3.out (.cells Q.toArray 100))
        go_upto_region 9 with (fail)
        change Code.wp _ _ _ _ (w3.alloc (.cells Q.toArray 100))
        clear SC
        generalize w3.alloc (.cells Q.toArray 100) = w4 at J9 JB9 ⊢
        have LQ := ld_all (P := Try.prog) w3.heap.size 2 100 100 Q _ Try.underlying100 rfl info_num hQl J9.out
        go_wp2_with (refine wpL_load rfl 100 _ rfl rfl LQ ?_)
        refine (cI.out _).mono ?_
        rintro e w5 ⟨rfl, hb5⟩
        have JB5 := kp (bt' JB9.out hb5 JB9.out.size)
        clear hb5
        go_wp2
        go_ret2
        exact ⟨by show Ending.returned (.tuple #[.int .i64 (wrap64 (q + 1)), .int .i64 0]) = _; rw [e2], JB5.out⟩
end Go.Proofs.Ytmnbnjiipnocaaa
/- the reference's plan, of a plan that may be. -/
namespace Go.Proofs.Ytmnbnjiipnocaaa
open Go Go.RowKit
set_option linter.unusedVariables false
set_option linter.unusedSimpArgs false
attribute [local go_sem] bmax2 bmin2 bmax bmin cell_ext frozen_ext

theorem info_rplan : (Try.prog.info? 34).map (·.size) = some 4 := by kernel_rfl
set_option maxHeartbeats 1000000 in
set_option maxRecDepth 100000 in
theorem R10_May (s l d c : Int) (hm : mayP s l d c = true) (w : World) : Calls Try.prog 45 #[.agg (planL s l d c).toArray] w fun e w' => e = .returned (.bool true) ∧ Below w.heap.size w w' := by
  have HB := kp (ba (Below.refl w.heap.size w) (.cells (planL s l d c).toArray 34))
  obtain ⟨⟨a1, a2⟩, ⟨a3, a4⟩, ⟨a5, a6⟩, a7, a8⟩ := mayP_iff.1 hm
  clear hm
  unfold planL at HB ⊢
  go_enter Try.func45, Try.ntmps45
  go_wp2
  go_ret
  exact ⟨rfl, HB.out⟩
theorem mul_step {s l d c : Int} (hm : mayP s l d c = true) {k : Int} (h1 : 0 ≤ k) (h2 : k ≤ 1024) : 0 ≤ k * l ∧ k * l ≤ 1125899906842624 := by
  rw [mayP_iff] at hm
  obtain ⟨_, ⟨l1, l2⟩, _⟩ := hm
  refine ⟨Int.mul_nonneg h1 (by omega), ?_⟩
  have := Int.mul_le_mul h2 l2 (by omega) (by omega)
  omega
set_option maxHeartbeats 1000000 in
set_option maxRecDepth 100000 in
theorem R10_Begins (s l d c : Int) (i : Nat) (hm : mayP s l d c = true) (h1 : 1 ≤ i) (h2 : (i : Int) ≤ c + 1) (w : World) : Calls Try.prog 23 #[.agg (planL s l d c).toArray, .int .i64 (i : Int)] w fun e w' => e = .returned (.tuple #[.int .i64 (s + ((i : Int) - 1) * l), .int .i64 0]) ∧ Below w.heap.size w w' := by
  have cM := kp (fun w' => R10_May s l d c hm w')
  have HB := kp (ba (Below.refl w.heap.size w) (.cells (planL s l d c).toArray 34))
  have HN := kp (Blk.new w 34 (planL s l d c).toArray)
  have hPl := planL_length s l d c
  have C0 : Kp ((planL s l d c)[0]? = some (.int .i64 s)) := kp rfl
  have C1 : Kp ((planL s l d c)[1]? = some (.int .i64 l)) := kp rfl
  have C3 : Kp ((planL s l d c)[3]? = some (.int .i64 c)) := kp rfl
  have hmm := mayP_iff.1 hm
  have HM := kp hm
  have HMM := kp hmm
  have e1 : wrap64 (c + 1) = c + 1 := IntWalk.wrap64_in _ (by omega)
  have i1 : ¬ (i : Int) < 1 := by omega
  have i2 : ¬ c + 1 < (i : Int) := by omega
  generalize planL s l d c = X at *
  clear hm hmm
  go_enter Try.func23, Try.ntmps23
  have LX := ld_all (P := Try.prog) w.heap.size 4 34 34 X _ Try.underlying34 rfl info_rplan hPl HN.out
  go_wp2_with (refine wpL_load rfl 34 _ rfl rfl LX ?_)
  refine (cM.out _).mono ?_
  rintro e w1 ⟨rfl, hb1⟩
  have HB1 := kp (bt' HB.out hb1 HB.out.size)
  have HN1 := kp (HN.out.bel hb1)
  have x0 := HN1.out.atL C0.out
  have x1 := HN1.out.atL C1.out
  have x3 := HN1.out.atL C3.out
  have k1 := HN1.out.lt
  clear hb1 LX
  go_wp2
  go_loop [6, 7] (fun t k => ∃ j : Nat, 1 ≤ j ∧ j ≤ i ∧ t = .int .i64 (s + ((j : Int) - 1) * l) ∧ k = .int .i64 (j : Int)) (fun _ k => i - (intOf k).toNat)
  case atStart => exact ⟨1, by omega, by omega, by rw [show ((1 : Nat) : Int) - 1 = 0 by omega, Int.zero_mul, Int.add_zero], rfl⟩
  case round =>
    obtain ⟨j, hj1, hj2, rfl, rfl⟩ := hrel
    by_cases hlt : j < i
    · have hlt2 : (j : Int) < (i : Int) := by omega
      have hmm := HMM.out
      have hbd := mul_step HM.out (show 0 ≤ (j : Int) - 1 by omega) (show (j : Int) - 1 ≤ 1024 by omega)
      have hst : s + ((j : Int) - 1) * l + l = s + (((j + 1 : Nat) : Int) - 1) * l := by
        rw [show (((j + 1 : Nat) : Int) - 1) = ((j : Int) - 1) + 1 by omega, Int.add_mul, Int.one_mul, Int.add_assoc]
      have HST := kp hst
      clear hst
      generalize ((j : Int) - 1) * l = m at *
      have hw : wrap64 (s + m + l) = s + m + l := IntWalk.wrap64_in _ (by omega)
      have hw2 : wrap64 ((j : Int) + 1) = (j : Int) + 1 := IntWalk.wrap64_in _ (by omega)
      have HW := kp hw
      clear hmm hbd hw
      go_wp2
      go_round
      case measure => rw [hw2]; simp only [intOf]; omega
      case rel => exact ⟨j + 1, by omega, by omega, by rw [← HST.out, HW.out], by rw [hw2]; rfl⟩
    · obtain rfl : j = i := by omega
      go_wp2
      go_ret2
      exact ⟨rfl, HB1.out⟩
set_option maxHeartbeats 1000000 in
set_option maxRecDepth 100000 in
theorem R10_At (s l d c t : Int) (hm : mayP s l d c = true) (w : World) : Calls Try.prog 36 #[.agg (planL s l d c).toArray, .int .i64 t] w fun e w' => e = .returned (.tuple #[.int .i64 (atP s l c t).1, .int .i64 (atP s l c t).2]) ∧ Below w.heap.size w w' := by
  have cM := kp (fun w' => R10_May s l d c hm w')
  have HB := kp (ba (Below.refl w.heap.size w) (.cells (planL s l d c).toArray 34))
  have HN := kp (Blk.new w 34 (planL s l d c).toArray)
  have hPl := planL_length s l d c
  have C0 : Kp ((planL s l d c)[0]? = some (.int .i64 s)) := kp rfl
  have C3 : Kp ((planL s l d c)[3]? = some (.int .i64 c)) := kp rfl
  have hmm := mayP_iff.1 hm
  have HMM := kp hmm
  have cB := kp (fun (i : Nat) h1 h2 w' => R10_Begins s l d c i hm h1 h2 w')
  obtain ⟨A, hA⟩ : ∃ A, atP s l c t = A := ⟨_, rfl⟩
  have HA := kp hA
  rw [hA]
  clear hA
  unfold atP at HA
  generalize planL s l d c = X at *
  clear hm hmm
  by_cases h1 : t < s
  · rw [if_pos h1] at HA
    obtain rfl := HA.out.symm
    go_enter Try.func36, Try.ntmps36
    have LX := ld_all (P := Try.prog) w.heap.size 4 34 34 X _ Try.underlying34 rfl info_rplan hPl HN.out
    go_wp2_with (refine wpL_load rfl 34 _ rfl rfl LX ?_)
    refine (cM.out _).mono ?_
    rintro e w1 ⟨rfl, hb1⟩
    have HB1 := kp (bt' HB.out hb1 HB.out.size)
    have x0 := (HN.out.bel hb1).atL C0.out
    have k1 := (HN.out.bel hb1).lt
    clear hb1
    go_wp2
    go_ret2
    exact ⟨rfl, HB1.out⟩
  · rw [if_neg h1] at HA
    go_enter Try.func36, Try.ntmps36
    have LX := ld_all (P := Try.prog) w.heap.size 4 34 34 X _ Try.underlying34 rfl info_rplan hPl HN.out
    go_wp2_with (refine wpL_load rfl 34 _ rfl rfl LX ?_)
    refine (cM.out _).mono ?_
    rintro e w1 ⟨rfl, hb1⟩
    have HB1 := kp (bt' HB.out hb1 HB.out.size)
    have HN1 := kp (HN.out.bel hb1)
    have x0 := HN1.out.atL C0.out
    have k1 := HN1.out.lt
    clear hb1 LX
    go_wp2
    go_loopw [6, 7, 8] (fun k _ _ wr => ∃ j : Nat, 1 ≤ j ∧ (j : Int) ≤ c + 1 ∧ k = .int .i64 (j : Int) ∧ Kp (s + ((j : Int) - 1) * l ≤ t) ∧ Kp (Blk wr w.heap.size 34 X.toArray) ∧ Kp (Below w.heap.size w wr)) (fun k _ _ _ => (c + 1 - intOf k).toNat)
    case atStart => exact ⟨1, by omega, by have := HMM.out; omega, rfl, kp (by rw [show ((1 : Nat) : Int) - 1 = 0 by omega, Int.zero_mul]; omega), HN1, HB1⟩
    case round =>
      obtain ⟨j, hj1, hj2, rfl, hle, J1, JB⟩ := hrel
      have LX := ld_all (P := Try.prog) w.heap.size 4 34 34 X _ Try.underlying34 rfl info_rplan hPl J1.out
      have x3 := J1.out.atL C3.out
      have k1 := J1.out.lt
      have hmm := HMM.out
      by_cases hlt : (j : Int) ≤ c
      · have cBj := kp (cB.out (j + 1) (by clear hmm; omega) (by clear hmm; omega))
        have hw2 : wrap64 ((j : Int) + 1) = (j : Int) + 1 := IntWalk.wrap64_in _ (by omega)
        rw [show ((j + 1 : Nat) : Int) = (j : Int) + 1 by omega, show (j : Int) + 1 - 1 = (j : Int) by omega] at cBj
        by_cases hend : t < s + (j : Int) * l
        · have hAv : A = ((j : Int), 0) := by
            rw [← HA.out]
            have hl0 : 0 < l := by omega
            have hcj : (j : Int) * l ≤ c * l := Int.mul_le_mul_of_nonneg_right hlt (by omega)
            rw [if_neg (by omega)]
            have hq : (t - s) / l = (j : Int) - 1 := by
              have e : t - s = l * ((j : Int) - 1) + (t - s - ((j : Int) - 1) * l) := by rw [Int.mul_comm l]; omega
              have h3 : (j : Int) * l = ((j : Int) - 1) * l + l := by rw [Int.sub_mul, Int.one_mul]; omega
              have := hle.out
              rw [e, Int.mul_add_ediv_left _ _ (by omega), Int.ediv_eq_zero_of_lt (by omega) (by omega), Int.add_zero]
            rw [hq]
            congr 1
            omega
          subst hAv
          generalize s + (j : Int) * l = E at *
          clear hmm hle
          go_wp2_with (refine wpL_load rfl 34 _ rfl rfl LX ?_)
          refine (cBj.out _).mono ?_
          rintro e w2 ⟨rfl, hb2⟩
          have HB2 := kp (bt' JB.out hb2 JB.out.size)
          clear hb2
          go_wp2
          go_ret2
          exact ⟨rfl, HB2.out⟩
        · have hle2 : Kp (s + (((j + 1 : Nat) : Int) - 1) * l ≤ t) := kp (by rw [show (((j + 1 : Nat) : Int) - 1) = (j : Int) by omega]; omega)
          generalize s + (j : Int) * l = E at *
          clear hmm hle
          go_wp2_with (refine wpL_load rfl 34 _ rfl rfl LX ?_)
          refine (cBj.out _).mono ?_
          rintro e w2 ⟨rfl, hb2⟩
          have HB2 := kp (bt' JB.out hb2 JB.out.size)
          have J2 := kp (J1.out.bel hb2)
          clear hb2 LX x3
          go_wp2
          go_roundw
          case measure => rw [hw2]; simp only [intOf]; omega
          case rel => exact ⟨j + 1, by omega, by omega, by rw [hw2]; rfl, hle2, J2, HB2⟩
      · have hAv : A = (0, 10) := by
          rw [← HA.out]
          have : (j : Int) - 1 = c := by omega
          have h3 := hle.out
          rw [this] at h3
          rw [if_pos h3]
        subst hAv
        clear hmm hle LX
        go_wp2
        go_ret2
        exact ⟨rfl, JB.out⟩
set_option maxHeartbeats 1000000 in
set_option maxRecDepth 100000 in
theorem R10_Tells (s l d c i : Int) (hm : mayP s l d c = true) (h1 : 1 ≤ i) (w : World) : Calls Try.prog 37 #[.agg (planL s l d c).toArray, .int .i64 i] w fun e w' => e = .returned (.int .i64 (tellsP d c i)) ∧ Below w.heap.size w w' := by
  have cM := kp (fun w' => R10_May s l d c hm w')
  have HB := kp (ba (Below.refl w.heap.size w) (.cells (planL s l d c).toArray 34))
  have HN := kp (Blk.new w 34 (planL s l d c).toArray)
  have hPl := planL_length s l d c
  have C2 : Kp ((planL s l d c)[2]? = some (.int .i64 d)) := kp rfl
  have C3 : Kp ((planL s l d c)[3]? = some (.int .i64 c)) := kp rfl
  obtain ⟨T, hT⟩ : ∃ T, tellsP d c i = T := ⟨_, rfl⟩
  have HT := kp hT
  rw [hT]
  clear hT
  unfold tellsP at HT
  have hmm := mayP_iff.1 hm
  have e1 : wrap64 (c + d) = c + d := IntWalk.wrap64_in _ (by omega)
  generalize planL s l d c = X at *
  clear hm
  by_cases h2 : c + d < i
  · have hv : T = 0 := by rw [← HT.out, if_neg (by omega)]
    subst hv
    clear hmm
    go_enter Try.func37, Try.ntmps37
    have LX := ld_all (P := Try.prog) w.heap.size 4 34 34 X _ Try.underlying34 rfl info_rplan hPl HN.out
    go_wp2_with (refine wpL_load rfl 34 _ rfl rfl LX ?_)
    refine (cM.out _).mono ?_
    rintro e w1 ⟨rfl, hb1⟩
    have HB1 := kp (bt' HB.out hb1 HB.out.size)
    have x2 := (HN.out.bel hb1).atL C2.out
    have x3 := (HN.out.bel hb1).atL C3.out
    have k1 := (HN.out.bel hb1).lt
    clear hb1
    go_wp2
    go_ret
    exact ⟨rfl, HB1.out⟩
  · by_cases h3 : i ≤ d
    · have hv : T = 0 := by rw [← HT.out, if_pos (by omega)]; omega
      subst hv
      clear hmm
      go_enter Try.func37, Try.ntmps37
      have LX := ld_all (P := Try.prog) w.heap.size 4 34 34 X _ Try.underlying34 rfl info_rplan hPl HN.out
      go_wp2_with (refine wpL_load rfl 34 _ rfl rfl LX ?_)
      refine (cM.out _).mono ?_
      rintro e w1 ⟨rfl, hb1⟩
      have HB1 := kp (bt' HB.out hb1 HB.out.size)
      have x2 := (HN.out.bel hb1).atL C2.out
      have x3 := (HN.out.bel hb1).atL C3.out
      have k1 := (HN.out.bel hb1).lt
      clear hb1
      go_wp2
      go_ret
      exact ⟨rfl, HB1.out⟩
    · have hv : T = i - d := by rw [← HT.out, if_pos (by omega)]; omega
      subst hv
      have e2 : wrap64 (i - d) = i - d := IntWalk.wrap64_in _ (by omega)
      clear hmm
      go_enter Try.func37, Try.ntmps37
      have LX := ld_all (P := Try.prog) w.heap.size 4 34 34 X _ Try.underlying34 rfl info_rplan hPl HN.out
      go_wp2_with (refine wpL_load rfl 34 _ rfl rfl LX ?_)
      refine (cM.out _).mono ?_
      rintro e w1 ⟨rfl, hb1⟩
      have HB1 := kp (bt' HB.out hb1 HB.out.size)
      have x2 := (HN.out.bel hb1).atL C2.out
      have x3 := (HN.out.bel hb1).atL C3.out
      have k1 := (HN.out.bel hb1).lt
      clear hb1
      go_wp2
      go_ret
      exact ⟨by show Ending.returned (.int .i64 (wrap64 (i - d))) = _; rw [e2], HB1.out⟩
end Go.Proofs.Ytmnbnjiipnocaaa
/- rows: a slice of elements of so many cells each, at any place of a block, or nil; appended to, cut at its front. -/
namespace Go.Proofs.Ytmnbnjiipnocaaa
open Go Go.RowKit
set_option linter.unusedVariables false
set_option linter.unusedSimpArgs false

/-- a slice behind B, of m elements of sz cells each, with room for c: its cells are l -/
def Rw (B : Nat) (w : World) (T sz : Nat) (ad : Option Addr) (m c : Nat) (l : List Value) : Prop :=
  l.length = m * sz ∧ m ≤ c ∧ c ≤ maxLen ∧ ((ad = none ∧ c = 0) ∨ ∃ g o cur, ad = some ⟨g, o, none⟩ ∧ B ≤ g ∧ Blk w g T cur ∧ o + c * sz ≤ cur.size ∧ (cur.toList.drop o).take (m * sz) = l)
variable {B B' : Nat} {w w' : World} {T sz : Nat} {ad : Option Addr} {m c : Nat} {l : List Value}
theorem Rw.nil (B : Nat) (w : World) (T sz : Nat) : Rw B w T sz none 0 0 [] := ⟨by simp, by omega, Nat.zero_le _, Or.inl ⟨rfl, rfl⟩⟩
theorem Rw.mono (h : Rw B w T sz ad m c l) (hB : B' ≤ B) : Rw B' w T sz ad m c l := by
  obtain ⟨h0, h1, h2, h3⟩ := h
  refine ⟨h0, h1, h2, ?_⟩
  rcases h3 with h3 | ⟨g, o, cur, e, hg, hk⟩
  · exact Or.inl h3
  · exact Or.inr ⟨g, o, cur, e, by omega, hk⟩
theorem Rw.kept {row : Option Nat} (h : Rw B w T sz ad m c l) (hg : w.grownBy w' row) (hne : ad.map (·.block) ≠ row ∨ ad = none) : Rw B w' T sz ad m c l := by
  obtain ⟨h0, h1, h2, h3⟩ := h
  refine ⟨h0, h1, h2, ?_⟩
  rcases h3 with h3 | ⟨g, o, cur, rfl, hB, hk, hk2⟩
  · exact Or.inl h3
  · refine Or.inr ⟨g, o, cur, rfl, hB, hk.grown hg ?_, hk2⟩
    rcases hne with hne | hne
    · exact hne
    · cases hne
theorem Rw.bel (h : Rw B w T sz ad m c l) (hb : Below w.heap.size w w') : Rw B w' T sz ad m c l := by
  obtain ⟨h0, h1, h2, h3⟩ := h
  refine ⟨h0, h1, h2, ?_⟩
  rcases h3 with h3 | ⟨g, o, cur, rfl, hB, hk, hk2⟩
  · exact Or.inl h3
  · exact Or.inr ⟨g, o, cur, rfl, hB, hk.bel hb, hk2⟩
theorem Rw.len (h : Rw B w T sz ad m c l) : l.length = m * sz := h.1
theorem Rw.blk (h : Rw B w T sz ad m c l) {g : Nat} (hg : ad.map (·.block) = some g) : B ≤ g ∧ ∃ cur, Blk w g T cur := by
  obtain ⟨h0, h1, h2, h3⟩ := h
  rcases h3 with ⟨rfl, _⟩ | ⟨g', o, cur, rfl, hB, hk, hk2⟩
  · cases hg
  · injection hg with hg
    subst hg
    exact ⟨hB, cur, hk⟩
/-- where one of its cells lies -/
theorem Rw.cell (h : Rw B w T sz ad m c l) {j : Nat} {v : Value} (hv : l[j]? = some v) : ∃ g o, ad = some ⟨g, o, none⟩ ∧ B ≤ g ∧ g < w.heap.size ∧ w.cell? ⟨g, o + j, none⟩ = some v := by
  obtain ⟨h0, h1, h2, h3⟩ := h
  have hj : j < l.length := (List.getElem?_eq_some_iff.1 hv).1
  rcases h3 with ⟨rfl, hc⟩ | ⟨g, o, cur, rfl, hB, hk, hf, ht⟩
  · have : m = 0 := by omega
    rw [this, Nat.zero_mul] at h0
    omega
  · refine ⟨g, o, rfl, hB, hk.lt, ?_⟩
    rw [hk.cell, ← Array.getElem?_toList]
    rw [← ht, List.getElem?_take] at hv
    split at hv
    · rw [List.getElem?_drop] at hv
      exact hv
    · cases hv
theorem Rw.cells {g o : Nat} (h : Rw B w T sz (some ⟨g, o, none⟩) m c l) {j : Nat} {v : Value} (hv : l[j]? = some v) : w.cell? ⟨g, o + j, none⟩ = some v := by
  obtain ⟨g', o', e, _, _, h⟩ := h.cell hv
  injection e with e
  injection e with e1 e2
  subst e1; subst e2
  exact h
theorem Rw.some_ (h : Rw B w T sz ad m c l) (hm : 0 < m) : ∃ g o, ad = some ⟨g, o, none⟩ ∧ B ≤ g ∧ g < w.heap.size := by
  obtain ⟨h0, h1, h2, h3⟩ := h
  rcases h3 with ⟨rfl, hc⟩ | ⟨g, o, cur, rfl, hB, hk, hf, ht⟩
  · omega
  · exact ⟨g, o, rfl, hB, hk.lt⟩
/-- an element of several cells -/
theorem Rw.elem {g o : Nat} {es : List (List Value)} (h : Rw B w T sz (some ⟨g, o, none⟩) m c es.flatten) (hes : ∀ e ∈ es, e.length = sz) {k : Nat} {e : List Value} (hk : es[k]? = some e) {j : Nat} {v : Value} (hv : e[j]? = some v) : w.cell? ⟨g, o + (k * sz + j), none⟩ = some v := by
  refine h.cells ?_
  clear h
  have hj : j < sz := by rw [← hes e (List.mem_of_getElem? hk)]; exact (List.getElem?_eq_some_iff.1 hv).1
  induction es generalizing k with
  | nil => simp at hk
  | cons e0 es ih =>
    have h0 := hes e0 (by simp)
    cases k with
    | zero =>
      simp only [List.getElem?_cons_zero, Option.some.injEq] at hk
      subst hk
      rw [List.flatten_cons, Nat.zero_mul, Nat.zero_add, List.getElem?_append_left (by omega)]
      exact hv
    | succ k =>
      rw [List.getElem?_cons_succ] at hk
      have := ih (fun x hx => hes x (by simp [hx])) hk
      rw [List.flatten_cons, List.getElem?_append_right (by rw [h0, Nat.succ_mul]; omega), h0, show (k + 1) * sz + j - sz = k * sz + j by rw [Nat.succ_mul]; omega]
      exact this
/-- elements appended -/
theorem Rw.append {P : Program} (t ty : TypeId) (i : TypeInfo) (z : Value) (ht : P.underlying t = some (.slice T)) (hi : P.info? T = some i) (hz : i.zero = some z) (hzs : z.cells.size = sz) (hs : i.size = sz) (hby : i.bytes ≤ 1000000)
    (h : Rw B w T sz ad m c l) (hm : m ≤ 100000) (hB : B ≤ w.heap.size) {x : Value} {n : Nat} {news : List Value} (hsrc : Src P sz t x n news w) (hn : n ≤ 100000) (hn0 : 0 < n) :
    ∃ g' o' c' w', (Builtin.append_ #[t, t] ty #[.slice ad m c, x]).run P w = .ok (.slice (some ⟨g', o', none⟩) (m + n) c') w' ∧ Rw B w' T sz (some ⟨g', o', none⟩) (m + n) c' (l ++ news) ∧ w.grownBy w' (ad.map (·.block)) ∧ ((some g' = ad.map (·.block) ∧ ad = some ⟨g', o', none⟩) ∨ (g' = w.heap.size ∧ ∀ g, ad.map (·.block) = some g → g < w.heap.size)) := by
  subst hs
  have h0 := h
  obtain ⟨hl, h1, h2, h3⟩ := h
  have hnl := hsrc.newsLen
  have hll : (l ++ news).length = (m + n) * i.size := by rw [List.length_append, hl, hnl, Nat.add_mul]
  have hgrow : c < m + n → (Builtin.firstCells i.size m (.slice ad m c)).run P w.drew = .ok l.toArray w.drew → ∃ g' o' c' w', (Builtin.append_ #[t, t] ty #[.slice ad m c, x]).run P w = .ok (.slice (some ⟨g', o', none⟩) (m + n) c') w' ∧ Rw B w' T i.size (some ⟨g', o', none⟩) (m + n) c' (l ++ news) ∧ w.grownBy w' (ad.map (·.block)) ∧ ((some g' = ad.map (·.block) ∧ ad = some ⟨g', o', none⟩) ∨ (g' = w.heap.size ∧ ∀ g, ad.map (·.block) = some g → g < w.heap.size)) := by
    intro hg hf
    have hcl : m + n ≤ maxLen := by unfold maxLen; omega
    have hbb : (m + n) * i.bytes ≤ 140737488355328 := Nat.le_trans (Nat.mul_le_mul (show m + n ≤ 200000 by omega) hby) (by omega)
    have hr := run_append_grow_src (P := P) w t t ty T i z ht hi hz ad m c l hf x n news hsrc hg (by omega) (growslice_fits hg hbb)
    refine ⟨w.heap.size, 0, _, _, hr, ⟨hll, grownCap_ge _ _ _ _, grownCap_le_maxLen w _ _ _ hcl, Or.inr ⟨w.heap.size, 0, _, rfl, hB, heap_alloc_new w.drew _, ?_, ?_⟩⟩, ⟨rfl, rfl, rfl, by simp, fun k hk _ => Below.heap_alloc w.drew _ k hk⟩, Or.inr ⟨rfl, fun g hg2 => ?_⟩⟩
    · have hge := grownCap_ge w (m + n) c T
      simp only [Array.size_append, List.size_toArray, size_zeroCells, hzs, hll, Nat.zero_add]
      rw [← Nat.add_mul]
      exact Nat.mul_le_mul_right _ (by omega)
    · rw [List.drop_zero, Array.toList_append, List.toList_toArray, List.take_append_of_le_length (by rw [hll]; exact Nat.le_refl _), List.take_of_length_le (by rw [hll]; exact Nat.le_refl _)]
    · obtain ⟨_, cur, hk⟩ := h0.blk hg2
      exact hk.lt
  rcases h3 with ⟨rfl, hc⟩ | ⟨g, o, cur, rfl, hBg, hk, hf, htk⟩
  · subst hc
    obtain rfl : m = 0 := by omega
    rw [Nat.zero_mul] at hl
    obtain rfl := List.eq_nil_of_length_eq_zero hl
    exact hgrow (by omega) (run_firstCells_none w.drew i.size 0 0 0)
  · by_cases hroom : m + n ≤ c
    · have hcs : m * i.size + n * i.size ≤ c * i.size := by rw [← Nat.add_mul]; exact Nat.mul_le_mul_right _ hroom
      have hcl : cur.toList.length = cur.size := Array.length_toList
      have hst := sc_row (P := P) g (o + m * i.size) T news cur.toList (w := w) (by rw [Array.toArray_toList]; exact hk) (by rw [hnl, hcl]; omega) hsrc.one
      have hr : (Builtin.append_ #[t, t] ty #[.slice (some ⟨g, o, none⟩) m c, x]).run P w = .ok (.slice (some ⟨g, o, none⟩) (m + n) c) (w.setRow g (cur.toList.take (o + m * i.size) ++ news ++ cur.toList.drop (o + m * i.size + news.length)).toArray) := by
        rcases hsrc.kind with ⟨e', hk'⟩ | hk' <;> simp [Builtin.append_, run_underlying ht, run_underlying hk', sizeOf, typeInfo, hi, hsrc.len, hroom, hsrc.cells, addr_add, hst]
      refine ⟨g, o, c, _, hr, ⟨hll, hroom, h2, Or.inr ⟨g, o, _, rfl, hBg, hk.row _, ?_, ?_⟩⟩, gbrow w g _, Or.inl ⟨rfl, rfl⟩⟩
      · simp only [List.size_toArray, List.length_append, List.length_take, List.length_drop, hcl, hnl]
        omega
      · show List.take ((m + n) * i.size) (List.drop o (List.take (o + m * i.size) cur.toList ++ news ++ List.drop (o + m * i.size + news.length) cur.toList)) = _
        have e1 : List.drop o (List.take (o + m * i.size) cur.toList ++ news ++ List.drop (o + m * i.size + news.length) cur.toList) = l ++ news ++ List.drop (o + m * i.size + news.length) cur.toList := by
          rw [List.append_assoc, List.drop_append_of_le_length (by rw [List.length_take, hcl]; omega), List.drop_take, show o + m * i.size - o = m * i.size by omega, htk, List.append_assoc]
        rw [e1, List.take_append_of_le_length (by rw [hll]; exact Nat.le_refl _), List.take_of_length_le (by rw [hll]; exact Nat.le_refl _)]
    · refine hgrow (by omega) (run_firstCells_some (P := P) w.drew i.size m ⟨g, o, none⟩ m c l hl (fun j v hv => ?_))
      rw [addr_add]
      have := h0.cells hv
      simpa using this
/-- its first element cut off -/
theorem Rw.tail {P : Program} (t : TypeId) (ht : P.underlying t = some (.slice T)) (hi : (P.info? T).map (·.size) = some sz) (h : Rw B w T sz ad (m + 1) c l) :
    ∃ o' g', (Instr.slice t (.slice ad (m + 1) c) (some (.int .i64 1)) none none).run P w = .ok (.slice (some ⟨g', o', none⟩) m (c - 1)) w ∧ Rw B w T sz (some ⟨g', o', none⟩) m (c - 1) (l.drop sz) ∧ ad.map (·.block) = some g' := by
  obtain ⟨hl, h1, h2, h3⟩ := h
  rcases h3 with ⟨rfl, hc⟩ | ⟨g, o, cur, rfl, hBg, hk, hf, htk⟩
  · omega
  · cases hq : P.info? T with
    | none => simp [hq] at hi
    | some i =>
      have hs : i.size = sz := by simpa [hq] using hi
      have hsb : (Instr.sliceBound (.int .i64 1) (m + 1) BoundsCode.sliceB).run P w = .ok 1 w := by
        have e5 : (1 : Int) ≤ ((m + 1 : Nat) : Int) := by omega
        rw [run_sliceBound (P := P) w .i64 1 (m + 1) BoundsCode.sliceB (by omega) e5]
        rfl
      have hcs : c * sz = (c - 1) * sz + sz := by
        obtain ⟨c', rfl⟩ : ∃ c', c = c' + 1 := ⟨c - 1, by omega⟩
        rw [Nat.add_sub_cancel, Nat.succ_mul]
      by_cases hc1 : c = 1
      · subst hc1
        obtain rfl : m = 0 := by omega
        refine ⟨o, g, ?_, ⟨?_, by omega, by omega, Or.inr ⟨g, o, cur, rfl, hBg, hk, by omega, ?_⟩⟩, rfl⟩
        · simp [Instr.slice, run_underlying ht, Instr.sliceBounds, hsb, sizeOf, typeInfo, hq, Sem.run_bind]
        · rw [List.length_drop, hl]; omega
        · rw [Nat.zero_mul, List.take_zero]
          exact (List.drop_eq_nil_of_le (by rw [hl]; omega)).symm
      · refine ⟨o + sz, g, ?_, ⟨?_, by omega, by omega, Or.inr ⟨g, o + sz, cur, rfl, hBg, hk, by omega, ?_⟩⟩, rfl⟩
        · have e2 : ¬ (c = 1) := hc1
          have e3 : (1 : Int) ≤ (m : Int) + 1 := by omega
          have e4 : (m : Int) + 1 ≤ (c : Int) := by omega
          simp [Instr.slice, run_underlying ht, Instr.sliceBounds, hsb, sizeOf, typeInfo, hq, Sem.run_bind, e2, h1, hs, addr_add]
        · rw [List.length_drop, hl, Nat.succ_mul]; omega
        · rw [← htk, ← List.drop_drop, List.drop_take, Nat.succ_mul, Nat.add_sub_cancel]
end Go.Proofs.Ytmnbnjiipnocaaa
/- sender: what a packet and a sender keep in memory. -/
namespace Go.Proofs.Ytmnbnjiipnocaaa
open Go Go.RowKit
set_option linter.unusedVariables false
set_option linter.unusedSimpArgs false

/-- of what a tag is -/
def tagT (i : Int) (t : ByteArray) : List UInt8 := putL (i % 18446744073709551616).toNat 4 ++ bs t
def tagD (K : List UInt8) (i : Int) (t : ByteArray) : List UInt8 := (macD (macD K tagS) (tagT i t)).take 16
theorem tagD_length (K : List UInt8) (i : Int) (t : ByteArray) : (tagD K i t).length = 16 := by unfold tagD; rw [List.length_take, macD_length]; rfl
/-- a packet's cells -/
def pkL (iv : Int) (t g : ByteArray) (tl : Int) (K : List UInt8) : List Value := [.int .i64 iv, .string t, .string g, .int .i64 tl] ++ cellsU8 K
theorem pkL_length {iv : Int} {t g : ByteArray} {tl : Int} {K : List UInt8} (h : K.length = 32) : (pkL iv t g tl K).length = 36 := by simp [pkL, length_cellsU8, h]
theorem pkL_one (iv : Int) (t g : ByteArray) (tl : Int) (K : List UInt8) : ∀ v ∈ pkL iv t g tl K, v.oneCell' = true := by
  intro v hv
  simp only [pkL, List.mem_append, List.mem_cons, List.not_mem_nil, or_false] at hv
  rcases hv with (rfl | rfl | rfl | rfl) | h
  · rfl
  · rfl
  · rfl
  · rfl
  · exact cellsU8_one _ v h
theorem info_pk : (Try.prog.info? 44).map (·.size) = some 36 := by kernel_rfl
theorem pkL_row (iv : Int) (t g : ByteArray) (tl : Int) (K : List UInt8) : pkL iv t g tl K = Fv.row [.int .i64 iv, .txt t, .txt g, .int .i64 tl, .u8s K] := by simp [pkL, Fv.row, Fv.cells]
theorem eqT_pk : EqT Try.prog 44 [.int .i64, .txt, .txt, .int .i64, .u8s 32] := ⟨by kernel_rfl, by kernel_rfl, by kernel_rfl, by kernel_rfl⟩
set_option maxRecDepth 100000 in
theorem build_pk4 (iv : Int) (t g : ByteArray) (tl : Int) (W : World) : (Instr.build 44 #[(0, .int .i64 iv), (1, .string t), (2, .string g), (3, .int .i64 tl)]).run Try.prog W = .ok (.agg (pkL iv t g tl zeroK).toArray) W := by
  have hz : cellsU8 zeroK = List.replicate 32 (.int .u8 0) := by kernel_rfl
  unfold pkL
  rw [hz]
  exact run_build W 44 _ _ (by kernel_rfl)
def zeroPk : List Value := pkL 0 ByteArray.empty ByteArray.empty 0 zeroK

/-- a sender's cells -/
def sdL (S : List UInt8) (s l d c : Int) (Kn : List UInt8) (bw : Nat) (ad : Option Addr) (m cp : Nat) (last : Int) : List Value := cellsU8 S ++ (planL s l d c ++ (cellsU8 Kn ++ [.pointer (some ⟨bw, 0, none⟩), .slice ad m cp, .int .i64 last]))
section
variable {S : List UInt8} {s l d c : Int} {Kn : List UInt8} {bw : Nat} {ad : Option Addr} {m cp : Nat} {last : Int}
theorem sdL_length (hS : S.length = 32) (hK : Kn.length = 32) : (sdL S s l d c Kn bw ad m cp last).length = 71 := by simp [sdL, planL, length_cellsU8, hS, hK]
theorem sdL_seed (j : Nat) (v : Value) (hv : (cellsU8 S)[j]? = some v) : (sdL S s l d c Kn bw ad m cp last)[j]? = some v := by
  unfold sdL
  rw [List.getElem?_append_left (List.getElem?_eq_some_iff.1 hv).1]; exact hv
theorem sdL_plan (hS : S.length = 32) (j : Nat) (v : Value) (hv : (planL s l d c)[j]? = some v) : (sdL S s l d c Kn bw ad m cp last)[32 + j]? = some v := by
  unfold sdL
  rw [List.getElem?_append_right (by rw [length_cellsU8]; omega), length_cellsU8, hS, Nat.add_sub_cancel_left, List.getElem?_append_left (List.getElem?_eq_some_iff.1 hv).1]; exact hv
theorem sdL_known (hS : S.length = 32) (j : Nat) (v : Value) (hv : (cellsU8 Kn)[j]? = some v) : (sdL S s l d c Kn bw ad m cp last)[36 + j]? = some v := by
  unfold sdL
  rw [List.getElem?_append_right (by rw [length_cellsU8]; omega), length_cellsU8, hS, show 36 + j - 32 = 4 + j by omega, List.getElem?_append_right (by rw [planL_length]; omega), planL_length, Nat.add_sub_cancel_left, List.getElem?_append_left (List.getElem?_eq_some_iff.1 hv).1]; exact hv
theorem sdL_end (hS : S.length = 32) (hK : Kn.length = 32) (j : Nat) : (sdL S s l d c Kn bw ad m cp last)[68 + j]? = [Value.pointer (some ⟨bw, 0, none⟩), .slice ad m cp, .int .i64 last][j]? := by
  unfold sdL
  rw [List.getElem?_append_right (by rw [length_cellsU8]; omega), length_cellsU8, hS, show 68 + j - 32 = 36 + j by omega, List.getElem?_append_right (by rw [planL_length]; omega), planL_length, show 36 + j - 4 = 32 + j by omega, List.getElem?_append_right (by rw [length_cellsU8]; omega), length_cellsU8, hK, Nat.add_sub_cancel_left]
theorem sdL_set (hS : S.length = 32) (hK : Kn.length = 32) (j : Nat) (hj : j < 3) (v : Value) : (sdL S s l d c Kn bw ad m cp last).set (68 + j) v = cellsU8 S ++ (planL s l d c ++ (cellsU8 Kn ++ [Value.pointer (some ⟨bw, 0, none⟩), .slice ad m cp, .int .i64 last].set j v)) := by
  unfold sdL
  rw [List.set_append_right _ _ (by rw [length_cellsU8]; omega), length_cellsU8, hS, List.set_append_right _ _ (by rw [planL_length]; omega), planL_length, List.set_append_right _ _ (by rw [length_cellsU8]; omega), length_cellsU8, hK, show 68 + j - 32 - 4 - 32 = j by omega]
theorem sdL_keys (hS : S.length = 32) (hK : Kn.length = 32) (ad' : Option Addr) (m' cp' : Nat) : (sdL S s l d c Kn bw ad m cp last).set 69 (.slice ad' m' cp') = sdL S s l d c Kn bw ad' m' cp' last := sdL_set hS hK 1 (by omega) _
theorem sdL_last (hS : S.length = 32) (hK : Kn.length = 32) (last' : Int) : (sdL S s l d c Kn bw ad m cp last).set 70 (.int .i64 last') = sdL S s l d c Kn bw ad m cp last' := sdL_set hS hK 2 (by omega) _
theorem sdL_one : ∀ v ∈ sdL S s l d c Kn bw ad m cp last, v.oneCell' = true := by
  intro v hv
  unfold sdL at hv
  simp only [List.mem_append, List.mem_cons, List.not_mem_nil, or_false] at hv
  rcases hv with h | h | h | rfl | rfl | rfl
  · exact cellsU8_one _ v h
  · exact planL_one _ _ _ _ v h
  · exact cellsU8_one _ v h
  · rfl
  · rfl
  · rfl
end
/-- the keys of the intervals from lo on, m of them -/
def keptE (F : Nat → List UInt8) (n lo m : Nat) : List (List Value) := (List.range m).map fun i => stoneL F n (lo + i)
def keptL (F : Nat → List UInt8) (n lo m : Nat) : List Value := (keptE F n lo m).flatten
theorem keptE_len {F : Nat → List UInt8} (hF : F32 F) {n lo m : Nat} : ∀ e ∈ keptE F n lo m, e.length = 33 := by
  intro e he
  obtain ⟨i, _, rfl⟩ := List.mem_map.1 he
  exact stoneL_length hF _ _
theorem keptE_get {F : Nat → List UInt8} {n lo m i : Nat} (hi : i < m) : (keptE F n lo m)[i]? = some (stoneL F n (lo + i)) := by
  unfold keptE
  rw [List.getElem?_map, List.getElem?_range hi]; rfl
theorem keptL_snoc (F : Nat → List UInt8) (n lo m : Nat) : keptL F n lo (m + 1) = keptL F n lo m ++ stoneL F n (lo + m) := by simp [keptL, keptE, List.range_succ]
theorem keptL_cons (F : Nat → List UInt8) (n lo m : Nat) : keptL F n lo (m + 1) = stoneL F n lo ++ keptL F n (lo + 1) m := by
  unfold keptL keptE
  rw [List.range_succ_eq_map, List.map_cons, List.flatten_cons, List.map_map, Nat.add_zero]
  congr 3
  funext i
  show stoneL F n (lo + (i + 1)) = _
  rw [show lo + (i + 1) = lo + 1 + i by omega]
theorem keptL_tail {F : Nat → List UInt8} (hF : F32 F) (n lo m : Nat) : (keptL F n lo (m + 1)).drop 33 = keptL F n (lo + 1) m := by
  rw [keptL_cons, ← stoneL_length hF n lo, List.drop_left]

/-- a sender: its object in b, its walker in bw, the walker's stones in g, its keys at ad; keys of [lo, a) are kept, the walker is at a -/
structure SK (B : Nat) (w : World) (b bw g : Nat) (ad : Option Addr) (cp : Nat) (S : List UInt8) (s l d c : Int) (n lo a : Nat) (last : Int) : Prop where
  blk : Blk w b 67 (sdL S s l d c (chK S n) bw ad (a - lo) cp last).toArray
  wk : WG B w bw g (chK S) n a
  ks : Rw B w 108 33 ad (a - lo) cp (keptL (chK S) n lo (a - lo))
  ge : B ≤ b
  le : 1 ≤ lo ∧ lo ≤ a
/-- only the blocks of X, and what is new, have turned -/
structure FrP (X : Nat → Prop) (w w' : World) : Prop where
  os : w'.os = w.os
  tape : w'.tape = w.tape
  output : w'.output = w.output
  size : w.heap.size ≤ w'.heap.size
  block : ∀ k, k < w.heap.size → ¬ X k → w'.heap[k]? = w.heap[k]?
/-- a sender's blocks -/
def sdX (b bw g : Nat) (ad : Option Addr) (k : Nat) : Prop := k = b ∨ k = bw ∨ k = g ∨ ad.map (·.block) = some k
variable {X Y Z : Nat → Prop} {w w' w1 w2 : World} {B b bw g : Nat} {ad : Option Addr}
theorem FrP.of_bel (h : Below w.heap.size w w') : FrP X w w' := ⟨h.os, h.tape, h.output, h.size, fun k hk _ => h.block k hk⟩
theorem FrP.of_fr (h : Fr w w' b g) (hb : X b) (hg : X g) : FrP X w w' := ⟨h.os, h.tape, h.output, h.size, fun k hk hX => h.block k hk (fun e => hX (e ▸ hb)) (fun e => hX (e ▸ hg))⟩
theorem FrP.of_grown {row : Option Nat} (h : w.grownBy w' row) (hb : ∀ k, row = some k → X k) : FrP X w w' := ⟨h.os, h.tape, h.output, h.size, fun k hk hX => h.block k hk (fun e => hX (hb k e.symm))⟩
theorem FrP.trans (h : FrP X w w1) (h2 : FrP Y w1 w2) (hY : ∀ k, Y k → X k ∨ w.heap.size ≤ k) : FrP X w w2 :=
  ⟨h2.os.trans h.os, h2.tape.trans h.tape, h2.output.trans h.output, Nat.le_trans h.size h2.size, fun k hk hX => (h2.block k (Nat.lt_of_lt_of_le hk h.size) (fun hy => by rcases hY k hy with h | h; exact hX h; omega)).trans (h.block k hk hX)⟩
theorem FrP.below (h : FrP X w w') (hX : ∀ k, X k → B ≤ k) (hB : B ≤ w.heap.size) : Below B w w' := ⟨h.os, h.tape, h.output, h.size, fun k hk => h.block k (by omega) (fun hx => by have := hX k hx; omega)⟩
theorem Blk.frP {k : Nat} {t : TypeId} {cs : Array Value} (h : Blk w k t cs) (hf : FrP X w w') (hX : ¬ X k) : Blk w' k t cs := (hf.block k h.lt hX).trans h
theorem Rw.frP {T sz m c : Nat} {l : List Value} (h : Rw B w T sz ad m c l) (hf : FrP X w w') (hX : ∀ k, ad.map (·.block) = some k → ¬ X k) : Rw B w' T sz ad m c l := by
  obtain ⟨h0, h1, h2, h3⟩ := h
  refine ⟨h0, h1, h2, ?_⟩
  rcases h3 with h3 | ⟨g, o, cur, rfl, hB, hk, hk2⟩
  · exact Or.inl h3
  · exact Or.inr ⟨g, o, cur, rfl, hB, hk.frP hf (hX g rfl), hk2⟩
theorem WG.frP {F : Nat → List UInt8} {n at_ : Nat} (h : WG B w b g F n at_) (hf : FrP X w w') (h1 : ¬ X b) (h2 : ¬ X g) : WG B w' b g F n at_ := by
  obtain ⟨cap, cur, ps, hk, hi, h3, h4⟩ := h
  exact ⟨cap, cur, ps, ⟨hk.blk.frP hf h1, hk.row.frP hf h2, hk.ne, hk.le, hk.cap_le, hk.fit, hk.take⟩, hi, h3, h4⟩
theorem WG.ge {F : Nat → List UInt8} {n at_ : Nat} (h : WG B w b g F n at_) : B ≤ b ∧ B ≤ g ∧ b < w.heap.size ∧ g < w.heap.size := by
  obtain ⟨cap, cur, ps, hk, hi, h3, h4⟩ := h
  exact ⟨h3, h4, hk.blk.lt, hk.row.lt⟩
theorem WG.blks {F : Nat → List UInt8} {n at_ : Nat} (h : WG B w b g F n at_) : (∃ cs, Blk w b 94 cs) ∧ ∃ cs, Blk w g 91 cs := by
  obtain ⟨cap, cur, ps, hk, hi, h3, h4⟩ := h
  exact ⟨⟨_, hk.blk⟩, ⟨_, hk.row⟩⟩
section
variable {cp : Nat} {S : List UInt8} {s l d c : Int} {n lo a : Nat} {last : Int}
theorem SK.bel (h : SK B w b bw g ad cp S s l d c n lo a last) (hb : Below w.heap.size w w') : SK B w' b bw g ad cp S s l d c n lo a last := ⟨h.blk.bel hb, h.wk.bel hb, h.ks.bel hb, h.ge, h.le⟩
theorem SK.frP (h : SK B w b bw g ad cp S s l d c n lo a last) (hf : FrP X w w') (hX : ∀ k, sdX b bw g ad k → ¬ X k) : SK B w' b bw g ad cp S s l d c n lo a last :=
  ⟨h.blk.frP hf (hX b (Or.inl rfl)), h.wk.frP hf (hX bw (Or.inr (Or.inl rfl))) (hX g (Or.inr (Or.inr (Or.inl rfl)))), h.ks.frP hf (fun k hk => hX k (Or.inr (Or.inr (Or.inr hk)))), h.ge, h.le⟩
/-- a sender's blocks are of four types, behind B -/
theorem SK.types (h : SK B w b bw g ad cp S s l d c n lo a last) {k : Nat} (hk : sdX b bw g ad k) : B ≤ k ∧ k < w.heap.size ∧ ∃ T cs, Blk w k T cs ∧ (T = 67 ∨ T = 94 ∨ T = 91 ∨ T = 108) := by
  obtain ⟨g1, g2, g3, g4⟩ := h.wk.ge
  obtain ⟨⟨c1, k1⟩, ⟨c2, k2⟩⟩ := h.wk.blks
  rcases hk with rfl | rfl | rfl | hk
  · exact ⟨h.ge, h.blk.lt, _, _, h.blk, Or.inl rfl⟩
  · exact ⟨g1, g3, _, _, k1, Or.inr (Or.inl rfl)⟩
  · exact ⟨g2, g4, _, _, k2, Or.inr (Or.inr (Or.inl rfl))⟩
  · obtain ⟨hB, cs, hb⟩ := h.ks.blk hk
    exact ⟨hB, hb.lt, _, _, hb, Or.inr (Or.inr (Or.inr rfl))⟩
theorem SK.ne (h : SK B w b bw g ad cp S s l d c n lo a last) : b ≠ bw ∧ b ≠ g ∧ bw ≠ g ∧ (∀ k, ad.map (·.block) = some k → k ≠ b ∧ k ≠ bw ∧ k ≠ g) := by
  obtain ⟨⟨c1, k1⟩, ⟨c2, k2⟩⟩ := h.wk.blks
  refine ⟨h.blk.ne_ k1 (by decide), h.blk.ne_ k2 (by decide), k1.ne_ k2 (by decide), fun k hk => ?_⟩
  obtain ⟨_, cs, hb⟩ := h.ks.blk hk
  exact ⟨hb.ne_ h.blk (by decide), hb.ne_ k1 (by decide), hb.ne_ k2 (by decide)⟩
theorem SK.cells (h : SK B w b bw g ad cp S s l d c n lo a last) (hS : S.length = 32) : w.cell? ⟨b, 68, none⟩ = some (.pointer (some ⟨bw, 0, none⟩)) ∧ w.cell? ⟨b, 69, none⟩ = some (.slice ad (a - lo) cp) ∧ w.cell? ⟨b, 70, none⟩ = some (.int .i64 last) ∧ b < w.heap.size :=
  ⟨h.blk.atL (sdL_end hS (chK_length S n) 0), h.blk.atL (sdL_end hS (chK_length S n) 1), h.blk.atL (sdL_end hS (chK_length S n) 2), h.blk.lt⟩
theorem SK.ldSeed (h : SK B w b bw g ad cp S s l d c n lo a last) (hS : S.length = 32) : (Instr.loadAt 23 (.pointer (some ⟨b, 0, none⟩))).run Try.prog w = .ok (.agg (cellsU8 S).toArray) w :=
  ld_row (P := Try.prog) b 0 32 23 (cellsU8 S) _ Try.underlying23 rfl info_key (key_cells S hS) (fun j v hv => h.blk.atL (by rw [Nat.zero_add]; exact sdL_seed j v hv))
theorem SK.ldPlan (h : SK B w b bw g ad cp S s l d c n lo a last) (hS : S.length = 32) : (Instr.loadAt 25 (.pointer (some ⟨b, 32, none⟩))).run Try.prog w = .ok (.agg (planL s l d c).toArray) w :=
  ld_row (P := Try.prog) b 32 4 25 (planL s l d c) _ Try.underlying25 rfl info_plan rfl (fun j v hv => h.blk.atL (sdL_plan hS j v hv))
theorem SK.ldKnown (h : SK B w b bw g ad cp S s l d c n lo a last) (hS : S.length = 32) : (Instr.loadAt 23 (.pointer (some ⟨b, 36, none⟩))).run Try.prog w = .ok (.agg (cellsU8 (chK S n)).toArray) w :=
  ld_row (P := Try.prog) b 36 32 23 (cellsU8 (chK S n)) _ Try.underlying23 rfl info_key (key_cells _ (chK_length S n)) (fun j v hv => h.blk.atL (sdL_known hS j v hv))
end
end Go.Proofs.Ytmnbnjiipnocaaa
/- sender: tagged, Tag, Right. -/
namespace Go.Proofs.Ytmnbnjiipnocaaa
open Go Go.RowKit
set_option linter.unusedVariables false
set_option linter.unusedSimpArgs false
attribute [local go_sem] bmax2 bmin2 bmax bmin cell_ext frozen_ext

theorem str_tagT (i : Int) (t : ByteArray) : str (putL (i % 18446744073709551616).toNat 4) ++ t = str (tagT i t) := by
  unfold tagT
  rw [← str_append, str_bs]
theorem bs_tagT (i : Int) (t : ByteArray) : bs (str (tagT i t)) = tagT i t := rfl
theorem tagT_size (i : Int) (t : ByteArray) : (str (tagT i t)).size = 4 + t.size := by
  rw [str_size]; unfold tagT; rw [List.length_append, length_putL, size_bs]
set_option maxHeartbeats 1000000 in
theorem S_tagged (i : Int) (t : ByteArray) (ht : t.size ≤ 1099511000) (w : World) :
    Calls Try.prog 43 #[.int .i64 i, .string t] w fun e w' => e = .returned (.string (str (tagT i t))) ∧ Below w.heap.size w w' := by
  obtain ⟨N, hN⟩ : ∃ N : Nat, i % 18446744073709551616 = (N : Int) := ⟨(i % 18446744073709551616).toNat, by omega⟩
  have hN2 : N < U64 := by unfold U64; omega
  have hs := kp (str_tagT i t)
  rw [hN, Int.toNat_natCast] at hs
  have c1 := kp (fun w' => octet_Put_mid N 4 w' hN2 (by decide) 4 (by decide))
  have hw : IntKind.u64.wrap i = (N : Int) := by rw [wrapU, hN]
  have hz : (str (putL N 4)).size ≤ 4 := by rw [str_size, length_putL]; omega
  generalize str (putL N 4) = A at *
  generalize str (tagT i t) = R at *
  clear hN hN2
  go_enter Try.func43, Try.ntmps43
  go_wp2_with fail
  refine (c1.out _).mono ?_
  rintro e w1 ⟨rfl, hb1⟩
  have HB := kp hb1
  clear hb1
  go_wp2
  go_ret
  exact ⟨by rw [← hs.out]; rfl, HB.out⟩
set_option maxHeartbeats 1000000 in
set_option maxRecDepth 100000 in
theorem S_Tag (K : List UInt8) (i : Int) (t : ByteArray) (hK : K.length = 32) (ht : t.size ≤ 1099511000) (w : World) :
    Calls Try.prog 21 #[.agg (cellsU8 K).toArray, .int .i64 i, .string t] w fun e w' => e = .returned (.string (str (tagD K i t))) ∧ Below w.heap.size w w' := by
  have c1 := kp (fun w' => Tagger_any K hK w')
  have c2 := kp (fun w' => S_tagged i t ht w')
  have hel := macD_length K tagS
  have c3 := kp (fun w' => Short_any (str (macD K tagS)) (str (tagT i t)) 16 16 (by decide) (by rw [str_size]; omega) (by rw [tagT_size]; omega) w')
  rw [bs_str, bs_tagT] at c3
  unfold tagD
  generalize macD K tagS = E at *
  generalize tagT i t = TT at *
  have hcl := key_cells _ hel
  have HEL := kp hel
  have HB := kp (ba (Below.refl w.heap.size w) (.cells (cellsU8 K).toArray 23))
  have LD := ldK K hK (Blk.new w 23 (cellsU8 K).toArray)
  clear hel ht
  go_enter Try.func21, Try.ntmps21
  go_wp2_with (refine wpL_load rfl 23 _ rfl rfl LD ?_)
  clear LD
  refine (c1.out _).mono ?_
  rintro e w1 ⟨rfl, hb1⟩
  have SC := fun (cur : Array Value) (h : cur.size = 32) => sc_new (P := Try.prog) w1 23 (cellsU8 E) (cellsU8_one _) cur (by rw [hcl]; exact h)
  have K3 := kp (Blk.new w1 23 (cellsU8 E).toArray)
  have HB3 := kp (ba (bt' HB.out hb1 HB.out.size) (.cells (cellsU8 E).toArray 23))
  clear hb1 HB
  go_upto_region 2 with (fail)
  clear SC
  generalize w1.alloc (.cells (cellsU8 E).toArray 23) = W3 at K3 HB3 ⊢
  generalize w1.heap.size = b3 at K3 ⊢
  have hcv := fun x => blk_str (P := Try.prog) 58 (e := 5) (dst := 9) (n := 32) (cap := 32) Try.underlying58 Try.underlying5 Try.underlying9 (K3.out.bel (ext_below W3 x)) HEL.out
  refine wp_region_ext [0, 1, 2, 3, 4, 5] [6] (by kernel_rfl) (by kernel_rfl) ?_
  simp only [List.map_cons, List.map_nil, List.getD_cons_succ, List.getD_cons_zero]
  repeat (first
    | go_big_quiet_step (first | (go_at_call 43; with_reducible exact Calls.ext_of (c2.out _)) | (go_at_call 42; with_reducible exact Calls.ext_of (c3.out _))))
  refine wpQuiet_nil ?_
  rintro z
  have HB4 := kp (bt' HB3.out (ext_below W3 z) HB3.out.size)
  clear hcv
  generalize W3.ext z = V at HB4 ⊢
  go_wp2
  go_ret
  exact ⟨rfl, HB4.out⟩
set_option maxHeartbeats 1000000 in
set_option maxRecDepth 100000 in
theorem S_Right (K : List UInt8) (iv : Int) (t g : ByteArray) (tl : Int) (K2 : List UInt8) (hK : K.length = 32) (hK2 : K2.length = 32) (ht : t.size ≤ 1099511000) (hg : g.size ≤ 1099511000) (w : World) :
    Calls Try.prog 22 #[.agg (cellsU8 K).toArray, .agg (pkL iv t g tl K2).toArray] w fun e w' => e = .returned (.bool (decide (g = str (tagD K iv t)))) ∧ Below w.heap.size w w' := by
  have c1 := kp (fun w' => S_Tag K iv t hK ht w')
  have htl := tagD_length K iv t
  have c2 := kp (fun w' => octet_Same_any (str (tagD K iv t)) g w' (by rw [str_size, htl]; omega) (by omega))
  have hv : ((str (tagD K iv t)).toList == g.toList) = decide (g = str (tagD K iv t)) := by
    rw [toList_beq]
    exact decide_eq_decide.2 eq_comm
  rw [hv] at c2
  have HP := kp ((Blk.new (w.alloc (.cells (cellsU8 K).toArray 23)) 44 (pkL iv t g tl K2).toArray))
  have HK := kp ((Blk.new w 23 (cellsU8 K).toArray).alloc (.cells (pkL iv t g tl K2).toArray 44))
  have HB := kp (ba (ba (Below.refl w.heap.size w) (.cells (cellsU8 K).toArray 23)) (.cells (pkL iv t g tl K2).toArray 44))
  have P0 : Kp ((pkL iv t g tl K2)[0]? = some (.int .i64 iv)) := kp rfl
  have P1 : Kp ((pkL iv t g tl K2)[1]? = some (.string t)) := kp rfl
  have P2 : Kp ((pkL iv t g tl K2)[2]? = some (.string g)) := kp rfl
  rw [size_all] at HP
  have HKL := kp hK
  generalize pkL iv t g tl K2 = X at *
  generalize decide (g = str (tagD K iv t)) = r at *
  generalize str (tagD K iv t) = TG at *
  clear hv htl hK hK2 ht hg
  go_enter Try.func22, Try.ntmps22
  go_upto_region 1 with (fail)
  change Code.wp _ _ _ _ ((w.alloc (.cells (cellsU8 K).toArray 23)).alloc (.cells X.toArray 44))
  generalize (w.alloc (.cells (cellsU8 K).toArray 23)).alloc (.cells X.toArray 44) = W at HP HK HB ⊢
  have LK := kp (fun x => ldK K HKL.out (HK.out.bel (ext_below W x)))
  have x0 := HP.out.atL P0.out
  have x1 := HP.out.atL P1.out
  have x2 := HP.out.atL P2.out
  have k1 := HP.out.lt
  refine wp_region_ext [0, 1, 2, 3, 4, 5, 6, 7, 8] [9] (by kernel_rfl) (by kernel_rfl) ?_
  simp only [List.map_cons, List.map_nil, List.getD_cons_succ, List.getD_cons_zero]
  repeat (first
    | (go_big_quiet_want; refine quiet_load _ rfl 23 _ rfl rfl (fun w hw => by obtain ⟨x, rfl⟩ := hw; exact LK.out x) ?_; go_simp; go_big_quiet_on)
    | go_big_quiet_step (first | (go_at_call 21; with_reducible exact Calls.ext_of (c1.out _)) | (go_at_call 44; with_reducible exact Calls.ext_drew (c2.out _))))
  refine wpQuiet_nil ?_
  rintro z
  have HB4 := kp (bt' HB.out (ext_below W z) HB.out.size)
  clear x0 x1 x2 k1
  generalize W.ext z = V at HB4 ⊢
  go_wp2
  go_ret
  exact ⟨rfl, HB4.out⟩
end Go.Proofs.Ytmnbnjiipnocaaa
/- sender: a key kept; key. -/
namespace Go.Proofs.Ytmnbnjiipnocaaa
open Go Go.RowKit
set_option linter.unusedVariables false
set_option linter.unusedSimpArgs false
attribute [local go_sem] bmax2 bmin2 bmax bmin cell_ext frozen_ext

theorem info_kept : (Try.prog.info? 108).map (·.size) = some 33 := by kernel_rfl
theorem info_kept3 : (Try.prog.info? 108).map (fun i => (i.zero.map (fun z => z.cells.size), i.size, i.bytes)) = some (some 33, 33, 40) := by kernel_rfl
theorem kept_parts : ∃ (i : TypeInfo) (z : Value), Try.prog.info? 108 = some i ∧ i.zero = some z ∧ z.cells.size = 33 ∧ i.size = 33 ∧ i.bytes = 40 := by
  have h := info_kept3
  cases hq : Try.prog.info? 108 with
  | none => simp [hq] at h
  | some i =>
    rw [hq] at h
    simp only [Option.map_some, Option.some.injEq, Prod.mk.injEq] at h
    obtain ⟨h1, h2, h3⟩ := h
    cases hz : i.zero with
    | none => simp [hz] at h1
    | some z =>
      rw [hz] at h1
      exact ⟨i, z, rfl, hz, by simpa using h1, h2, h3⟩
set_option maxRecDepth 100000 in
theorem build_kept (K : List UInt8) (a : Int) (h : K.length = 32) (W : World) : (Instr.build 108 #[(0, .int .i64 a), (1, .agg (cellsU8 K).toArray)]).run Try.prog W = .ok (.agg (.int .i64 a :: cellsU8 K).toArray) W := by
  obtain ⟨f, rfl⟩ := list32 K h
  exact run_build W 108 _ _ (by kernel_rfl)
set_option maxRecDepth 100000 in
theorem slice_kept (K : List UInt8) (a : Int) (h : K.length = 32) (W : World) : (Instr.buildSlice 65 1 #[(0, .agg (.int .i64 a :: cellsU8 K).toArray)]).run Try.prog W = .ok (.slice (some ⟨W.heap.size, 0, none⟩) 1 1) (W.alloc (.cells (.int .i64 a :: cellsU8 K).toArray 108)) := by
  obtain ⟨f, rfl⟩ := list32 K h
  kernel_rfl
/-- where a walker is -/
def atOf (w : World) (b : Nat) : Nat := match w.cell? ⟨b, 1, none⟩ with | some (.int _ z) => z.toNat | _ => 0
theorem WG.atOf {B : Nat} {w : World} {b g n a : Nat} {F : Nat → List UInt8} (h : WG B w b g F n a) : atOf w b = a := by
  obtain ⟨cap, cur, ps, hk, hi, h3, h4⟩ := h
  unfold Proofs.Ytmnbnjiipnocaaa.atOf
  rw [hk.cells.2.1]
  simp
/-- a key appended -/
theorem keep_append {B : Nat} {w : World} {ad : Option Addr} {m c : Nat} {F : Nat → List UInt8} {n lo : Nat} (hF : F32 F) (h : Rw B w 108 33 ad m c (keptL F n lo m)) (hm : m ≤ 2000) (hB : B ≤ w.heap.size) {bn : Nat} (hb : Blk w bn 108 (stoneL F n (lo + m)).toArray) :
    ∃ g' o' c' w', (Builtin.append_ #[65, 65] 65 #[.slice ad m c, .slice (some ⟨bn, 0, none⟩) 1 1]).run Try.prog w = .ok (.slice (some ⟨g', o', none⟩) (m + 1) c') w' ∧ Rw B w' 108 33 (some ⟨g', o', none⟩) (m + 1) c' (keptL F n lo (m + 1)) ∧ w.grownBy w' (ad.map (·.block)) ∧ (some g' = ad.map (·.block) ∨ g' = w.heap.size) := by
  obtain ⟨i, z, hi, hz, hzs, hs, hby⟩ := kept_parts
  have hsl := stoneL_length hF n (lo + m)
  have hsrc : Src Try.prog 33 65 (.slice (some ⟨bn, 0, none⟩) 1 1) 1 (stoneL F n (lo + m)) w := Src.ofSlice w Try.underlying65 ⟨bn, 0, none⟩ 1 1 _ (by rw [hsl]) (fun j u hu => by rw [addr_add, Nat.zero_add]; exact hb.atL hu) (stoneL_one F n _)
  obtain ⟨g', o', c', w', hr, ho, hg, hat⟩ := h.append (P := Try.prog) 65 65 i z Try.underlying65 hi hz hzs hs (by omega) (by omega) hB hsrc (by omega) (by omega)
  rw [← keptL_snoc] at ho
  exact ⟨g', o', c', w', hr, ho, hg, hat.imp (fun h => h.1) (fun h => h.1)⟩
/-- key's end -/
def KeyEnd (B : Nat) (w : World) (b bw g : Nat) (ad : Option Addr) (S : List UInt8) (s l d c : Int) (n lo a : Nat) (last : Int) (i : Nat) (e : Ending) (w' : World) : Prop :=
  ∃ g' ad' cp', e = .returned (.agg (cellsU8 (chK S (n - i))).toArray) ∧ SK B w' b bw g' ad' cp' S s l d c n lo (max a (i + 1)) last ∧ FrP (sdX b bw g ad) w w' ∧ ∀ k, sdX b bw g' ad' k → sdX b bw g ad k ∨ w.heap.size ≤ k
set_option maxHeartbeats 4000000 in
set_option maxRecDepth 100000 in
theorem S_key {B : Nat} {w : World} {b bw g : Nat} {ad : Option Addr} {cp : Nat} {S : List UInt8} {s l d c : Int} {n lo a : Nat} {last : Int} (h : SK B w b bw g ad cp S s l d c n lo a last) (hS : S.length = 32) (hn1 : 1 ≤ n) (hn2 : n ≤ 1024) (i : Nat) (h1 : lo ≤ i) (h2 : i ≤ n) (ha : a ≤ n + 1) (hB : B ≤ w.heap.size) :
    Calls Try.prog 33 #[.pointer (some ⟨b, 0, none⟩), .int .i64 (i : Int)] w (KeyEnd B w b bw g ad S s l d c n lo a last i) := by
  have HSL := kp hS
  have HF : Kp (F32 (chK S)) := kp (chK_length S)
  have H0 := kp h
  have HBB := kp hB
  have HN := kp (Blk.new w 23 (cellsU8 (List.replicate 32 0)).toArray)
  have hb0 := ba (Below.refl w.heap.size w) (.cells (cellsU8 (List.replicate 32 0)).toArray 23)
  have HFr := kp (FrP.of_bel (X := sdX b bw g ad) hb0)
  have HS1 := kp (h.bel hb0)
  clear hb0 h
  obtain ⟨Z, hZ⟩ : ∃ Z : List UInt8, List.replicate 32 0 = Z := ⟨_, rfl⟩
  have HZL : Kp (Z.length = 32) := kp (by rw [← hZ]; rfl)
  have HLE := kp (H0.out.le)
  go_enter Try.func33, Try.ntmps33
  go_wp2
  go_step3
  go_wp2
  change Code.wp _ _ _ _ (w.alloc (.cells (cellsU8 (List.replicate 32 0)).toArray 23))
  rw [hZ] at HN HFr HS1 ⊢
  clear hZ
  generalize w.alloc (.cells (cellsU8 Z).toArray 23) = W at HN HFr HS1 ⊢
  have HW2 : Kp (∃ g1 ad1 cp1 a1, SK B W b bw g1 ad1 cp1 S s l d c n lo a1 last ∧ (a ≤ a1 ∧ a1 ≤ max a (i + 1)) ∧ ∀ k, sdX b bw g1 ad1 k → sdX b bw g ad k ∨ w.heap.size < k) := kp ⟨g, ad, cp, a, HS1.out, ⟨Nat.le_refl _, by omega⟩, fun k hk => Or.inl hk⟩
  go_loopw [] (fun wr => Kp (Blk wr w.heap.size 23 (cellsU8 Z).toArray) ∧ Kp (FrP (sdX b bw g ad) w wr) ∧ Kp (∃ g1 ad1 cp1 a1, SK B wr b bw g1 ad1 cp1 S s l d c n lo a1 last ∧ (a ≤ a1 ∧ a1 ≤ max a (i + 1)) ∧ ∀ k, sdX b bw g1 ad1 k → sdX b bw g ad k ∨ w.heap.size < k)) (fun wr => i + 1 - atOf wr bw)
  case atStart => exact ⟨HN, HFr, HW2⟩
  case round =>
    clear HN HFr HW2 HS1
    obtain ⟨HN, HFr, HW2⟩ := hrel
    obtain ⟨g1, ad1, cp1, a1, hsk, ⟨ha1, ha2⟩, hx⟩ := HW2.out
    have hlo := hsk.le
    have HSK := kp hsk
    have HX := kp hx
    have HAT := kp hsk.wk.atOf
    have HNX : Kp (∀ k, sdX b bw g1 ad1 k → k ≠ w.heap.size) := kp (fun k hk => by
      rcases hx k hk with h | h
      · have := (H0.out.types h).2.1; omega
      · omega)
    have cA : Kp (∀ w', WG B w' bw g1 (chK S) n a1 → Calls Try.prog 57 #[.pointer (some ⟨bw, 0, none⟩)] w' fun e w'' => e = .returned (.int .i64 (a1 : Int)) ∧ w' = w'') := kp (fun w' h => S_At ⟨g1, h⟩)
    obtain ⟨c68, c69, c70, hlb⟩ := hsk.cells HSL.out
    have HBW : Kp (B ≤ wr.heap.size) := kp (Nat.le_trans HBB.out HFr.out.size)
    have HWL : Kp (¬ wr.heap.size ≤ w.heap.size) := kp (by have := HN.out.lt; omega)
    clear hsk hx HW2
    by_cases hlt : a1 ≤ i
    · have i1 : (a1 : Int) ≤ (i : Int) := by omega
      have g1' : decide ((a1 : Int) ≤ (i : Int)) = true := decide_eq_true i1
      go_wp2_with fail
      refine (cA.out _ HSK.out.wk).mono ?_
      rintro e w2 ⟨rfl, rfl⟩
      go_wp2_with fail
      refine (cA.out _ HSK.out.wk).mono ?_
      rintro e w2 ⟨rfl, rfl⟩
      go_wp2_with fail
      refine (G_Next HSK.out.wk hn1 hn2 (by omega) HBW.out).mono ?_
      rintro e w3 ⟨g2, rfl, hw3, hf3, hg2⟩
      obtain ⟨n1, n2, n3, n4⟩ := HSK.out.ne
      have hfp := FrP.of_fr (X := sdX b bw g1 ad1) hf3 (Or.inr (Or.inl rfl)) (Or.inr (Or.inr (Or.inl rfl)))
      have HBK := kp (HSK.out.blk.fr hf3 n1 n2)
      have HKS := kp (HSK.out.ks.frP (FrP.of_fr (X := fun k => k = bw ∨ k = g1) hf3 (Or.inl rfl) (Or.inr rfl)) (fun k hk => by have := n4 k hk; show ¬ (k = bw ∨ k = g1); omega))
      have HN := kp (HN.out.fr hf3 (Ne.symm (HNX.out bw (Or.inr (Or.inl rfl)))) (Ne.symm (HNX.out g1 (Or.inr (Or.inr (Or.inl rfl))))))
      have HW3 := kp hw3
      have HFP := kp hfp
      have HG2 : Kp (g2 = g1 ∨ wr.heap.size ≤ g2) := kp hg2
      clear hw3 hf3 hg2 hfp n1 n2 n3 n4 c68 c69 c70 hlb
      have HAL := kp (HF.out (n - a1))
      obtain ⟨A, hA⟩ : ∃ A, chK S (n - a1) = A := ⟨_, rfl⟩
      rw [hA] at HAL
      have HAA := kp hA
      rw [hA]
      have hlen5 := key_cells _ HAL.out
      have SC := fun (cur : Array Value) (h : cur.size = 32) => sc_new (P := Try.prog) w3 23 (cellsU8 A) (cellsU8_one _) cur (by rw [hlen5]; exact h)
      have hbx := ba (Below.refl w3.heap.size w3) (.cells (cellsU8 A).toArray 23)
      have HN := kp (HN.out.bel hbx)
      have HBK := kp (HBK.out.bel hbx)
      have HKS := kp (HKS.out.bel hbx)
      have HW3 := kp (HW3.out.bel hbx)
      have HFP := kp (HFP.out.trans (FrP.of_bel (X := sdX b bw g1 ad1) hbx) (fun k hk => Or.inl hk))
      have H6 := kp (Blk.new w3 23 (cellsU8 A).toArray)
      clear hA hbx
      go_upto_region 4 with (fail)
      clear SC hlen5
      generalize w3.alloc (.cells (cellsU8 A).toArray 23) = V3 at HN HBK HKS HW3 HFP H6 ⊢
      generalize w3.heap.size = b6 at H6 ⊢
      have HML : Kp (stoneL (chK S) n a1 = .int .i64 (a1 : Int) :: cellsU8 A) := kp (by rw [← HAA.out]; rfl)
      obtain ⟨ML, hML⟩ : ∃ ML, stoneL (chK S) n a1 = ML := ⟨_, rfl⟩
      rw [hML] at HML
      have HMLS := kp hML
      clear hML
      refine wp_region_mkP [0] [1, 2, 3, 4, 5, 6, 7] [8] [9, 10, 11, 12] 59 (fun _ => VS V3.heap.size 108 ML.toArray) (· ≠ ·) (by kernel_rfl) (by kernel_rfl) (fun i v W W' h hb => h.mono hb) ?_
      simp only [List.map_cons, List.map_nil, List.getD_cons_succ, List.getD_cons_zero]
      repeat (go_big_quiet_step (fail))
      refine wpQuiet_nil ⟨rfl, ?_⟩
      apply Exists.intro
      refine ⟨fun X hX => ?_, ?_, ?_⟩
      · have H6x := H6.out.bel hX
        have hbX := HBK.out.bel hX
        have c69 := hbX.atL (sdL_end (s := s) (l := l) (d := d) (c := c) (bw := bw) (ad := ad1) (m := a1 - lo) (cp := cp1) (last := last) HSL.out (HF.out n) 1)
        have hlb := hbX.lt
        have LQ := kp (fun x => ldK A HAL.out (H6x.bel (ext_below X x)))
        clear hbX
        try simp only [List.map_cons, List.map_nil, List.getD_cons_succ, List.getD_cons_zero]
        repeat (first
          | (go_big_quiet_want; refine quiet_load _ rfl 23 _ rfl rfl (fun w hw => by obtain ⟨x, rfl⟩ := hw; exact LQ.out x) ?_; go_simp; go_big_quiet_on)
          | (go_big_quiet_want; refine quiet_val 37 rfl (.agg ML.toArray) (fun w _ => exec_build (parts := #[(0, .int .i64 (a1 : Int)), (1, .agg (cellsU8 A).toArray)]) rfl (by simp [Act.eval, Act.put]) (by rw [HML.out]; exact build_kept A (a1 : Int) HAL.out w)) ?_; go_simp; go_big_quiet_on)
          | go_big_quiet_step (fail))
        exact wpQuiet_nil rfl
      · exact ⟨mk_slice rfl (fun W => exec_buildSlice (parts := #[(0, .agg ML.toArray)]) rfl (by simp [Act.eval, Act.put]) (by rw [HML.out]; exact slice_kept A (a1 : Int) HAL.out W)) (fun j u W h => h.ne), trivial⟩
      · intro ev _
        simp only [List.map_cons, List.map_nil, List.getD_cons_succ, List.getD_cons_zero, TailX]
        rintro X hX ⟨_, bn, rfl, hbn, hkn⟩
        have HN := kp (HN.out.bel hX)
        have HBK := kp (HBK.out.bel hX)
        have HKS := kp (HKS.out.bel hX)
        have HW3 := kp (HW3.out.bel hX)
        have HFP := kp (HFP.out.trans (FrP.of_bel (X := sdX b bw g1 ad1) hX) (fun k hk => Or.inl hk))
        have hBX : B ≤ X.heap.size := Nat.le_trans HBW.out HFP.out.size
        rw [← HMLS.out, show a1 = lo + (a1 - lo) by omega] at hkn
        obtain ⟨g', o', c', Y, hr, hY, hgr, hat⟩ := keep_append HF.out HKS.out (by omega) hBX hkn
        have hsz : w.heap.size < X.heap.size := HN.out.lt
        have hY2 := hY
        obtain ⟨_, hYg⟩ := hY.blk (g := g') rfl
        obtain ⟨curg, hYg⟩ := hYg
        have hadne : ∀ k, ad1.map (·.block) = some k → k ≠ b ∧ k ≠ bw ∧ k ≠ g2 := fun k hk => by
          obtain ⟨_, cs, hb⟩ := HKS.out.blk hk
          obtain ⟨⟨c1, k1⟩, ⟨c2, k2⟩⟩ := HW3.out.blks
          exact ⟨hb.ne_ HBK.out (by decide), hb.ne_ k1 (by decide), hb.ne_ k2 (by decide)⟩
        have hbY := HBK.out.grown hgr (fun e => (hadne b e.symm).1 rfl)
        have hWY : WG B Y bw g2 (chK S) n (a1 + 1) := HW3.out.frP (FrP.of_grown (X := fun k => ad1.map (·.block) = some k) hgr (fun k hk => hk)) (fun hk => (hadne bw hk).2.1 rfl) (fun hk => (hadne g2 hk).2.2 rfl)
        have hNY := HN.out.grown hgr (fun e => HNX.out w.heap.size (Or.inr (Or.inr (Or.inr e.symm))) rfl)
        have hs2 := hbY.setL 69 (.slice (some ⟨g', o', none⟩) (a1 - lo + 1) c')
        rw [sdL_keys HSL.out (HF.out n), show a1 - lo + 1 = a1 + 1 - lo by omega] at hs2
        have hgb : g' ≠ b := hYg.ne_ hbY (by decide)
        have hset := gbset Y b 69 (.slice (some ⟨g', o', none⟩) (a1 + 1 - lo) c')
        rw [show a1 - lo + 1 = a1 + 1 - lo by omega] at hY hr
        have HSK2 : Kp (SK B (Y.setCell ⟨b, 69, none⟩ (.slice (some ⟨g', o', none⟩) (a1 + 1 - lo) c')) b bw g2 (some ⟨g', o', none⟩) c' S s l d c n lo (a1 + 1) last) := kp
          ⟨hs2, hWY.frP (FrP.of_grown (X := fun k => k = b) hset (fun k hk => by injection hk with hk; exact hk.symm)) (fun e => by
              obtain ⟨⟨c1, k1⟩, _⟩ := hWY.blks
              exact k1.ne_ hbY (by decide) e) (fun e => by
              obtain ⟨_, ⟨c1, k1⟩⟩ := hWY.blks
              exact k1.ne_ hbY (by decide) e), hY.kept hset (Or.inl (fun e => by injection e with e; exact hgb e)), H0.out.ge, by omega⟩
        have hNb : w.heap.size ≠ b := Ne.symm (HNX.out b (Or.inl rfl))
        have HN := kp (hNY.far (p := ⟨b, 69, none⟩) hNb (.slice (some ⟨g', o', none⟩) (a1 + 1 - lo) c'))
        have HFP2 : Kp (FrP (sdX b bw g1 ad1) wr (Y.setCell ⟨b, 69, none⟩ (.slice (some ⟨g', o', none⟩) (a1 + 1 - lo) c'))) := kp ((HFP.out.trans (FrP.of_grown (X := sdX b bw g1 ad1) hgr (fun k hk => Or.inr (Or.inr (Or.inr hk)))) (fun k hk => Or.inl hk)).trans (FrP.of_grown (X := sdX b bw g1 ad1) hset (fun k hk => by injection hk with hk; exact Or.inl hk.symm)) (fun k hk => Or.inl hk))
        have HFE := kp (HFr.out.trans HFP2.out (fun k hk => (HX.out k hk).imp id Nat.le_of_lt))
        have hwr := HWL.out
        have HX2 : Kp (∀ k, sdX b bw g2 (some ⟨g', o', none⟩) k → sdX b bw g ad k ∨ w.heap.size < k) := kp (fun k hk => by
          rcases hk with rfl | rfl | rfl | hk
          · exact HX.out k (Or.inl rfl)
          · exact HX.out k (Or.inr (Or.inl rfl))
          · rcases HG2.out with h | h
            · subst h; exact HX.out k (Or.inr (Or.inr (Or.inl rfl)))
            · right; omega
          · injection hk with hk
            simp only at hk
            subst hk
            rcases hat with h | h
            · exact HX.out g' (Or.inr (Or.inr (Or.inr h.symm)))
            · right; omega)
        have hcY := hbY.atL (sdL_end (s := s) (l := l) (d := d) (c := c) (bw := bw) (ad := ad1) (m := a1 - lo) (cp := cp1) (last := last) HSL.out (HF.out n) 1)
        have hfY := hbY.frozen 69
        clear hX hbn hkn hbY hs2 hat hgr hY hY2 hYg hset hWY hNY hadne HW3 HBK HKS HFP HFP2 HFr HX hBX hsz hNb hgb
        refine wpL_append 39 rfl rfl _ _ 65 rfl rfl rfl hr ?_
        clear hr
        go_wp2
        go_roundw
        case measure =>
          rw [HAT.out, HSK2.out.wk.atOf]
          omega
        case rel => exact ⟨HN, HFE, kp ⟨g2, _, c', a1 + 1, HSK2.out, ⟨by omega, by omega⟩, HX2.out⟩⟩
    · have hmx : max a (i + 1) = a1 := by omega
      have g0 : decide ((a1 : Int) ≤ (i : Int)) = false := decide_eq_false (by omega)
      go_wp2_with fail
      refine (cA.out _ HSK.out.wk).mono ?_
      rintro e w2 ⟨rfl, rfl⟩
      go_wp2
      go_step3
      go_wp2
      have hai : i - lo < a1 - lo := by omega
      clear c68 c69 c70 hlb
      go_loopw [47] (fun j wr2 => ∃ q : Nat, lo + q ≤ i ∧ j = .int .i64 (q : Int) ∧ Kp (Blk wr2 w.heap.size 23 (cellsU8 Z).toArray) ∧ Kp (FrP (sdX b bw g ad) w wr2) ∧ Kp (SK B wr2 b bw g1 ad1 cp1 S s l d c n lo a1 last)) (fun j _ => i + 1 - (intOf j).toNat)
      case atStart => exact ⟨0, by omega, rfl, HN, HFr, HSK⟩
      case round =>
        clear HN HFr HSK HBW HWL
        obtain ⟨q, hq, rfl, HN, HFr, HSK⟩ := hrel
        obtain ⟨gk, ok, rfl, hBk, hkl⟩ := HSK.out.ks.some_ (by omega)
        have LE : (Instr.loadAt 108 (.pointer (some ⟨gk, ok + q * 33, none⟩))).run Try.prog wr = .ok (.agg (stoneL (chK S) n (lo + q)).toArray) wr :=
          ld_row (P := Try.prog) gk (ok + q * 33) 33 108 _ _ Try.underlying108 rfl info_kept (stoneL_length HF.out n (lo + q)) (fun j v hv => by
            have := HSK.out.ks.elem (keptE_len HF.out) (keptE_get (F := chK S) (n := n) (lo := lo) (m := a1 - lo) (i := q) (by omega)) hv
            rw [← Nat.add_assoc] at this
            exact this)
        have hstl := stoneL_length HF.out n (lo + q)
        have h1s := kp (stoneL_one (chK S) n (lo + q))
        have HKL := kp (HF.out (n - (lo + q)))
        have HST : Kp (stoneL (chK S) n (lo + q) = .int .i64 ((lo + q : Nat) : Int) :: cellsU8 (chK S (n - (lo + q)))) := kp rfl
        obtain ⟨K, hKK⟩ : ∃ K, chK S (n - (lo + q)) = K := ⟨_, rfl⟩
        rw [hKK] at HST HKL
        obtain ⟨SL, hSL⟩ : ∃ SL, stoneL (chK S) n (lo + q) = SL := ⟨_, rfl⟩
        rw [hSL] at LE HST hstl h1s
        have HKK := kp hKK
        clear hSL hKK
        have SC := fun (cur : Array Value) (h : cur.size = 33) => sc_new (P := Try.prog) wr 108 SL h1s.out cur (by rw [hstl]; exact h)
        have hbx := ba (Below.refl wr.heap.size wr) (.cells SL.toArray 108)
        have HN := kp (HN.out.bel hbx)
        have HFr := kp (HFr.out.trans (FrP.of_bel (X := sdX b bw g ad) hbx) (fun k hk => Or.inl hk))
        have HSK := kp (HSK.out.bel hbx)
        have H9 := kp (Blk.new wr 108 SL.toArray)
        clear hbx
        have i0 : (0 : Int) ≤ (q : Int) := by omega
        have i1 : (q : Int) < ((a1 - lo : Nat) : Int) := by omega
        have d1 : decide ((q : Int) < ((a1 - lo : Nat) : Int)) = true := decide_eq_true i1
        go_upto_region 8 with (refine wpL_load rfl 108 _ rfl rfl LE ?_)
        clear SC LE
        generalize wr.alloc (.cells SL.toArray 108) = V9 at HN HFr HSK H9 ⊢
        generalize wr.heap.size = b9 at H9 ⊢
        have c0 := H9.out.atL (show SL[0]? = some (.int .i64 ((lo + q : Nat) : Int)) by rw [HST.out]; rfl)
        have hl9 := H9.out.lt
        by_cases he : lo + q = i
        · have g5 : ((lo + q : Nat) : Int) = (i : Int) := by omega
          have hkk := HKK.out
          rw [he] at hkk
          rw [g5] at c0 HST
          have L9 := ld_row (P := Try.prog) (w := V9) b9 1 32 23 (cellsU8 K) _ Try.underlying23 rfl info_key (key_cells K HKL.out) (fun j v hv => H9.out.atL (by rw [HST.out, Nat.add_comm, List.getElem?_cons_succ]; exact hv))
          have hkl2 := key_cells K HKL.out
          have hzl : (cellsU8 Z).length = 32 := by rw [length_cellsU8]; exact HZL.out
          have SC := sc_all (P := Try.prog) (w := V9) w.heap.size 23 (cellsU8 K) _ HN.out (by rw [hkl2, hzl]) (cellsU8_one _)
          have HRES := kp (HN.out.row (cellsU8 K).toArray)
          have HFE := kp (HFr.out.trans (FrP.of_grown (X := fun k => k = w.heap.size) (gbrow V9 w.heap.size (cellsU8 K).toArray) (fun k hk => by injection hk with hk; exact hk.symm)) (fun k hk => Or.inr (Nat.le_of_eq hk.symm)))
          have HSE := kp (HSK.out.frP (FrP.of_grown (X := fun k => k = w.heap.size) (gbrow V9 w.heap.size (cellsU8 K).toArray) (fun k hk => by injection hk with hk; exact hk.symm)) (fun k hk e => HNX.out k hk e))
          have HEND : Kp (KeyEnd B w b bw g ad S s l d c n lo a last i (.returned (.agg (cellsU8 K).toArray)) (V9.setRow w.heap.size (cellsU8 K).toArray)) := kp ⟨g1, _, cp1, by rw [hkk], by rw [hmx]; exact HSE.out, HFE.out, fun k hk => (HX.out k hk).imp id Nat.le_of_lt⟩
          clear HFE HSE hkk
          go_wp2_with (refine wpL_load rfl 23 _ rfl rfl L9 ?_)
          try rw [Exit.noGoto_ret]
          refine bodyPost_ret (v := .agg (cellsU8 K).toArray) ?_ rfl HEND.out
          exact res_all Try.results33 w.heap.size 32 _ (cellsU8 K) _ Try.underlying23 rfl info_key hkl2 HRES.out _ rfl
        · have g5 : ¬ ((lo + q : Nat) : Int) = (i : Int) := by omega
          have e1 : IntKind.i64.wrap ((q : Int) + 1) = (q : Int) + 1 := IntWalk.i64_in _ (by omega)
          go_wp2
          go_roundw
          case measure => simp [intOf]; omega
          case rel => exact ⟨q + 1, by omega, by congr 1, HN, HFr, HSK⟩
end Go.Proofs.Ytmnbnjiipnocaaa
/- sender: New, forget, Known, Last. -/
namespace Go.Proofs.Ytmnbnjiipnocaaa
open Go Go.RowKit
set_option linter.unusedVariables false
set_option linter.unusedSimpArgs false
attribute [local go_sem] bmax2 bmin2 bmax bmin cell_ext frozen_ext

/-- forget's end -/
def ForgetEnd (B : Nat) (w : World) (b bw g : Nat) (ad : Option Addr) (S : List UInt8) (s l d c : Int) (n lo a : Nat) (last : Int) (e : Ending) (w' : World) : Prop :=
  ∃ ad' cp', (∃ u, e = .returned u) ∧ SK B w' b bw g ad' cp' S s l d c n lo a last ∧ FrP (sdX b bw g ad) w w' ∧ ad'.map (·.block) = ad.map (·.block)
/-- how long the slice of keys is -/
def keysOf (w : World) (b : Nat) : Nat := match w.cell? ⟨b, 69, none⟩ with | some (.slice _ n _) => n | _ => 0
theorem SK.keysOf {B : Nat} {w : World} {b bw g : Nat} {ad : Option Addr} {cp : Nat} {S : List UInt8} {s l d c : Int} {n lo a : Nat} {last : Int} (h : SK B w b bw g ad cp S s l d c n lo a last) (hS : S.length = 32) : keysOf w b = a - lo := by
  unfold Proofs.Ytmnbnjiipnocaaa.keysOf
  rw [(h.cells hS).2.1]
set_option maxHeartbeats 4000000 in
set_option maxRecDepth 100000 in
theorem S_forget {B : Nat} {w : World} {b bw g : Nat} {ad : Option Addr} {cp : Nat} {S : List UInt8} {s l d c : Int} {n lo a : Nat} {last : Int} (h : SK B w b bw g ad cp S s l d c n lo a last) (hS : S.length = 32) (hn2 : n ≤ 1024) (t : Nat) (h1 : t < a) (hla : lo < a) (ha : a ≤ n + 1) :
    Calls Try.prog 35 #[.pointer (some ⟨b, 0, none⟩), .int .i64 (t : Int)] w (ForgetEnd B w b bw g ad S s l d c n (max lo t) a last) := by
  have HSL := kp hS
  have HF : Kp (F32 (chK S)) := kp (chK_length S)
  have H0 := kp h
  have HFr := kp (FrP.of_bel (X := sdX b bw g ad) (Below.refl w.heap.size w))
  have HW : Kp (∃ ad1 cp1 lo1, SK B w b bw g ad1 cp1 S s l d c n lo1 a last ∧ ad1.map (·.block) = ad.map (·.block) ∧ lo ≤ lo1 ∧ lo1 ≤ max lo t) := kp ⟨ad, cp, lo, h, rfl, Nat.le_refl _, by omega⟩
  clear h
  go_enter Try.func35, Try.ntmps35
  go_wp2
  go_loopw [] (fun wr => Kp (FrP (sdX b bw g ad) w wr) ∧ Kp (∃ ad1 cp1 lo1, SK B wr b bw g ad1 cp1 S s l d c n lo1 a last ∧ ad1.map (·.block) = ad.map (·.block) ∧ lo ≤ lo1 ∧ lo1 ≤ max lo t)) (fun wr => keysOf wr b)
  case atStart => exact ⟨HFr, HW⟩
  case round =>
    clear HFr HW
    obtain ⟨HFr, HW⟩ := hrel
    obtain ⟨ad1, cp1, lo1, hsk, had, hl1, hl2⟩ := HW.out
    have hla1 : lo1 < a := by omega
    have HSK := kp hsk
    have HKO := kp (hsk.keysOf HSL.out)
    have HAD := kp had
    obtain ⟨gk, ok, rfl, hBk, hkl⟩ := hsk.ks.some_ (by omega)
    obtain ⟨c68, c69, c70, hlb⟩ := hsk.cells HSL.out
    have ck := HSK.out.ks.elem (keptE_len HF.out) (keptE_get (F := chK S) (n := n) (lo := lo1) (m := a - lo1) (i := 0) (by omega)) (j := 0) (v := .int .i64 (lo1 : Int)) rfl
    rw [Nat.zero_mul, Nat.add_zero] at ck
    have hm : a - lo1 = (a - lo1 - 1) + 1 := by omega
    have i3 : (0 : Int) < ((a - lo1 : Nat) : Int) := by omega
    have d3 : decide ((0 : Int) < ((a - lo1 : Nat) : Int)) = true := decide_eq_true i3
    have f69 := hsk.blk.frozen 69
    clear hsk had HW c68 c70
    by_cases hlt : lo1 < t
    · have g5 : (lo1 : Int) < (t : Int) := by omega
      have d5 : decide ((lo1 : Int) < (t : Int)) = true := decide_eq_true g5
      have hks := HSK.out.ks
      rw [hm] at hks
      obtain ⟨o', g', hr, hT, hg'⟩ := hks.tail (P := Try.prog) 65 Try.underlying65 info_kept
      rw [keptL_tail HF.out] at hT
      rw [← hm] at hr
      have e0 : a - lo1 - 1 = a - (lo1 + 1) := by omega
      rw [e0] at hr hT
      have hs2 := HSK.out.blk.setL 69 (.slice (some ⟨g', o', none⟩) (a - (lo1 + 1)) (cp1 - 1))
      rw [sdL_keys HSL.out (HF.out n)] at hs2
      have hset := gbset wr b 69 (.slice (some ⟨g', o', none⟩) (a - (lo1 + 1)) (cp1 - 1))
      obtain ⟨n1, n2, n3, n4⟩ := HSK.out.ne
      have hgb := (n4 g' (by rw [← hg'])).1
      have hfs := FrP.of_grown (X := fun k => k = b) hset (fun k hk => by injection hk with hk; exact hk.symm)
      have HSK2 : Kp (SK B (wr.setCell ⟨b, 69, none⟩ (.slice (some ⟨g', o', none⟩) (a - (lo1 + 1)) (cp1 - 1))) b bw g (some ⟨g', o', none⟩) (cp1 - 1) S s l d c n (lo1 + 1) a last) := kp
        ⟨hs2, HSK.out.wk.frP hfs (fun e => n1 e.symm) (fun e => n2 e.symm), hT.frP hfs (fun k hk e => by injection hk with hk; exact hgb (hk.trans e)), H0.out.ge, by have := HSK.out.le; omega⟩
      have HFE := kp (HFr.out.trans hfs (fun k hk => Or.inl (Or.inl hk)))
      have HAD2 : Kp (some g' = ad.map (·.block)) := kp (hg'.symm.trans HAD.out)
      clear hs2 hset hfs hT hks n1 n2 n3 n4 hgb HFr H0 hm e0
      go_wp2
      go_roundw
      case measure =>
        rw [HKO.out, HSK2.out.keysOf HSL.out]
        omega
      case rel => exact ⟨HFE, kp ⟨_, _, lo1 + 1, HSK2.out, HAD2.out, by omega, by omega⟩⟩
    · have g5 : ¬ (lo1 : Int) < (t : Int) := by omega
      have d5 : decide ((lo1 : Int) < (t : Int)) = false := decide_eq_false g5
      have hml : max lo t = lo1 := by omega
      clear hm
      have HML := kp hml
      clear hml
      go_wp2
      go_end0
      exact ⟨_, cp1, ⟨_, rfl⟩, by rw [HML.out]; exact HSK.out, HFr.out, HAD.out⟩
set_option maxRecDepth 100000 in
theorem S_Known {B : Nat} {w : World} {b bw g : Nat} {ad : Option Addr} {cp : Nat} {S : List UInt8} {s l d c : Int} {n lo a : Nat} {last : Int} (h : SK B w b bw g ad cp S s l d c n lo a last) (hS : S.length = 32) :
    Calls Try.prog 19 #[.pointer (some ⟨b, 0, none⟩)] w fun e w' => e = .returned (.agg (cellsU8 (chK S n)).toArray) ∧ Below w.heap.size w w' := by
  have HN := kp (Blk.new w 23 (cellsU8 (List.replicate 32 0)).toArray)
  have hb0 := ba (Below.refl w.heap.size w) (.cells (cellsU8 (List.replicate 32 0)).toArray 23)
  have LK := (h.bel hb0).ldKnown hS
  have HB := kp hb0
  clear hb0
  have HKL := kp (chK_length S n)
  generalize chK S n = K at *
  have hkl := key_cells K HKL.out
  obtain ⟨Z, hZ⟩ : ∃ Z : List UInt8, List.replicate 32 0 = Z := ⟨_, rfl⟩
  have HZL : Kp (Z.length = 32) := kp (by rw [← hZ]; rfl)
  go_enter Try.func19, Try.ntmps19
  go_upto_region 1 with (fail)
  change Code.wp _ _ _ _ (w.alloc (.cells (cellsU8 (List.replicate 32 0)).toArray 23))
  rw [hZ] at HN HB LK ⊢
  clear hZ
  have hzl : (cellsU8 Z).length = 32 := by rw [length_cellsU8]; exact HZL.out
  generalize w.alloc (.cells (cellsU8 Z).toArray 23) = W at HN HB LK ⊢
  have SC := sc_all (P := Try.prog) (w := W) w.heap.size 23 (cellsU8 K) _ HN.out (by rw [hkl, hzl]) (cellsU8_one _)
  have HRES := kp (HN.out.row (cellsU8 K).toArray)
  have HBE := kp (bsr HB.out (b := w.heap.size) (Nat.le_refl _) HB.out.size (cellsU8 K).toArray)
  go_wp2_with (refine wpL_load rfl 23 _ rfl rfl LK ?_)
  refine bodyPost_ret (v := .agg (cellsU8 K).toArray) ?_ rfl ⟨rfl, HBE.out⟩
  exact res_all Try.results19 w.heap.size 32 _ (cellsU8 K) _ Try.underlying23 rfl info_key hkl HRES.out _ rfl
theorem S_Last {B : Nat} {w : World} {b bw g : Nat} {ad : Option Addr} {cp : Nat} {S : List UInt8} {s l d c : Int} {n lo a : Nat} {last : Int} (h : SK B w b bw g ad cp S s l d c n lo a last) (hS : S.length = 32) :
    Calls Try.prog 17 #[.pointer (some ⟨b, 0, none⟩)] w fun e w' => e = .returned (.int .i64 last) ∧ w = w' := by
  obtain ⟨c68, c69, c70, hlb⟩ := h.cells hS
  clear h
  go_enter Try.func17, Try.ntmps17
  go_wp2
  go_ret
  exact ⟨rfl, rfl⟩
end Go.Proofs.Ytmnbnjiipnocaaa
/- sender: New. -/
namespace Go.Proofs.Ytmnbnjiipnocaaa
open Go Go.RowKit
set_option linter.unusedVariables false
set_option linter.unusedSimpArgs false
attribute [local go_sem] bmax2 bmin2 bmax bmin cell_ext frozen_ext

set_option maxRecDepth 100000 in
theorem build_sd (S Kn : List UInt8) (s l d c : Int) (bw : Nat) (hS : S.length = 32) (hK : Kn.length = 32) (W : World) :
    (Instr.build 67 #[(0, .agg (cellsU8 S).toArray), (1, .agg (planL s l d c).toArray), (2, .agg (cellsU8 Kn).toArray), (3, .pointer (some ⟨bw, 0, none⟩))]).run Try.prog W = .ok (.agg (sdL S s l d c Kn bw none 0 0 0).toArray) W := by
  obtain ⟨f, rfl⟩ := list32 S hS
  obtain ⟨f', rfl⟩ := list32 Kn hK
  exact run_build W 67 _ _ (by kernel_rfl)
set_option maxHeartbeats 2000000 in
set_option maxRecDepth 100000 in
theorem S_New_bad (S : List UInt8) (s l d c : Int) (hS : S.length = 32) (hm : mayP s l d c = false) (w : World) :
    Calls Try.prog 10 #[.agg (cellsU8 S).toArray, .agg (planL s l d c).toArray] w fun e w' => e = .returned (.tuple #[.pointer none, .int .i64 1]) ∧ Below w.heap.size w w' := by
  have cM := kp (fun w' => P_May s l d c w')
  rw [hm] at cM
  have cN : Kp (∀ w', ∃ R : Value → Int → Prop, (∀ v x, R v x → True) ∧ Calls Try.prog 25 #[.agg (cellsU8 S).toArray, .int .i64 c] w' fun e w'' => ∃ v x, e = .returned (.tuple #[v, .int .i64 x]) ∧ Below w'.heap.size w' w'') := kp (fun w' => by
    refine ⟨fun _ _ => True, fun _ _ _ => trivial, ?_⟩
    by_cases h : c < 1 ∨ 1024 < c
    · exact (PNew_bad S c h w').mono fun e w'' ⟨he, hb⟩ => ⟨_, _, he, hb⟩
    · obtain ⟨n, hn⟩ : ∃ n : Nat, c = (n : Int) := ⟨c.toNat, by omega⟩
      rw [hn]
      exact (S_New (B := 0) S hS n (by omega) (by omega) w' (Nat.zero_le _)).mono fun e w'' ⟨b, he, _, hb⟩ => ⟨_, _, he, hb⟩)
  have HK := kp ((Blk.new w 23 (cellsU8 S).toArray).alloc (.cells (planL s l d c).toArray 25))
  have HP := kp (Blk.new (w.alloc (.cells (cellsU8 S).toArray 23)) 25 (planL s l d c).toArray)
  have HB := kp (ba (ba (Below.refl w.heap.size w) (.cells (cellsU8 S).toArray 23)) (.cells (planL s l d c).toArray 25))
  rw [size_all] at HP
  have hPl := planL_length s l d c
  have C3 : Kp ((planL s l d c)[3]? = some (.int .i64 c)) := kp rfl
  have HSL := kp hS
  generalize planL s l d c = X at *
  clear hm hS
  go_enter Try.func10, Try.ntmps10
  go_upto_region 1 with (fail)
  change Code.wp _ _ _ _ ((w.alloc (.cells (cellsU8 S).toArray 23)).alloc (.cells X.toArray 25))
  generalize (w.alloc (.cells (cellsU8 S).toArray 23)).alloc (.cells X.toArray 25) = W at HK HP HB ⊢
  have LK := ldK S HSL.out HK.out
  have x3 := HP.out.atL C3.out
  have k1 := HP.out.lt
  obtain ⟨_, _, cN'⟩ := cN.out W
  go_wp2_with (refine wpL_load rfl 23 _ rfl rfl LK ?_)
  refine cN'.mono ?_
  rintro e w1 ⟨v, x, rfl, hb1⟩
  have HP1 := kp (HP.out.bel hb1)
  have HB1 := kp (bt' HB.out hb1 HB.out.size)
  have LP := ld_all (P := Try.prog) (w.heap.size + 1) 4 25 25 X _ Try.underlying25 rfl info_plan hPl HP1.out
  clear hb1 LK x3 k1
  go_wp2_with (refine wpL_load rfl 25 _ rfl rfl LP ?_)
  refine (cM.out _).mono ?_
  rintro e w2 ⟨rfl, hb2⟩
  have HB2 := kp (bt' HB1.out hb2 HB1.out.size)
  clear hb2
  go_wp2
  go_ret2
  exact ⟨rfl, HB2.out⟩
/-- New's end -/
def SNewEnd (B : Nat) (w : World) (S : List UInt8) (s l d c : Int) (n : Nat) (e : Ending) (w' : World) : Prop :=
  ∃ b bw g, e = .returned (.tuple #[.pointer (some ⟨b, 0, none⟩), .int .i64 0]) ∧ SK B w' b bw g none 0 S s l d c n 1 1 0 ∧ Below w.heap.size w w' ∧ ∀ k, sdX b bw g none k → w.heap.size ≤ k
set_option maxHeartbeats 2000000 in
set_option maxRecDepth 100000 in
theorem S_New_good {B : Nat} (S : List UInt8) (s l d c : Int) (hS : S.length = 32) (hm : mayP s l d c = true) (n : Nat) (hc : c = (n : Int)) (w : World) (hB : B ≤ w.heap.size) :
    Calls Try.prog 10 #[.agg (cellsU8 S).toArray, .agg (planL s l d c).toArray] w (SNewEnd B w S s l d c n) := by
  subst hc
  have cM := kp (fun w' => P_May s l d n w')
  have hmm := mayP_iff.1 hm
  rw [hm] at cM
  have hn1 : 1 ≤ n := by omega
  have hn2 : n ≤ 1024 := by omega
  have cN := kp (fun w' (h : B ≤ w'.heap.size) => G_New (B := B) S hS n hn1 hn2 w' h)
  have cX := kp (fun w' b g (h : WG B w' b g (chK S) n 0) (hB : B ≤ w'.heap.size) => G_Next h hn1 hn2 (Nat.zero_le _) hB)
  have HK := kp ((Blk.new w 23 (cellsU8 S).toArray).alloc (.cells (planL s l d n).toArray 25))
  have HP := kp (Blk.new (w.alloc (.cells (cellsU8 S).toArray 23)) 25 (planL s l d n).toArray)
  have HB := kp (ba (ba (Below.refl w.heap.size w) (.cells (cellsU8 S).toArray 23)) (.cells (planL s l d n).toArray 25))
  rw [size_all] at HP
  have hPl := planL_length s l d n
  have C3 : Kp ((planL s l d n)[3]? = some (.int .i64 (n : Int))) := kp rfl
  have HSL := kp hS
  have HKL := kp (chK_length S n)
  have HBU := kp (fun (bw : Nat) (W : World) => build_sd S (chK S n) s l d n bw hS (chK_length S n) W)
  have HSD := kp (fun bw => sdL_length (s := s) (l := l) (d := d) (c := n) (bw := bw) (ad := none) (m := 0) (cp := 0) (last := 0) hS (chK_length S n))
  have HBB := kp hB
  clear hmm hm hS hB
  obtain ⟨X, hX⟩ : ∃ X, planL s l d n = X := ⟨_, rfl⟩
  rw [hX] at cM HK HP HB hPl C3 HBU ⊢
  clear hX
  go_enter Try.func10, Try.ntmps10
  go_upto_region 1 with (fail)
  change Code.wp _ _ _ _ ((w.alloc (.cells (cellsU8 S).toArray 23)).alloc (.cells X.toArray 25))
  generalize (w.alloc (.cells (cellsU8 S).toArray 23)).alloc (.cells X.toArray 25) = W at HK HP HB ⊢
  have LK := ldK S HSL.out HK.out
  have x3 := HP.out.atL C3.out
  have k1 := HP.out.lt
  go_wp2_with (refine wpL_load rfl 23 _ rfl rfl LK ?_)
  refine (cN.out W (Nat.le_trans HBB.out HB.out.size)).mono ?_
  rintro e w1 ⟨bw, g, rfl, hw1, hb1, hf1, hf2⟩
  have HK1 := kp (HK.out.bel hb1)
  have HP1 := kp (HP.out.bel hb1)
  have HB1 := kp (bt' HB.out hb1 HB.out.size)
  have HW1 := kp hw1
  have HF1 := kp (Nat.le_trans HB.out.size hf1)
  have HF2 := kp (Nat.le_trans HB.out.size hf2)
  have LP := ld_all (P := Try.prog) (w.heap.size + 1) 4 25 25 X _ Try.underlying25 rfl info_plan hPl HP1.out
  clear hb1 LK x3 k1 hw1 hf1 hf2 HK HP HB
  go_wp2_with (refine wpL_load rfl 25 _ rfl rfl LP ?_)
  refine (cM.out _).mono ?_
  rintro e w2 ⟨rfl, hb2⟩
  have HK1 := kp (HK1.out.bel hb2)
  have HP1 := kp (HP1.out.bel hb2)
  have HB1 := kp (bt' HB1.out hb2 HB1.out.size)
  have HW1 := kp (HW1.out.bel hb2)
  clear hb2 LP
  go_wp2_with fail
  refine (cX.out w2 bw g HW1.out (Nat.le_trans HBB.out HB1.out.size)).mono ?_
  rintro e w3 ⟨g2, rfl, hw3, hf3, hg2⟩
  obtain ⟨⟨cs1, e1⟩, ⟨cs2, e2⟩⟩ := HW1.out.blks
  have HK1 := kp (HK1.out.fr hf3 (HK1.out.ne_ e1 (by decide)) (HK1.out.ne_ e2 (by decide)))
  have HP1 := kp (HP1.out.fr hf3 (HP1.out.ne_ e1 (by decide)) (HP1.out.ne_ e2 (by decide)))
  have HB1 := kp (HB1.out.trans (hf3.below HF1.out HF2.out HB1.out.size))
  have HW3 := kp hw3
  have HG2 : Kp (w.heap.size ≤ g2) := kp (by
    have := HF2.out
    have := HB1.out.size
    rcases hg2 with h | h
    · omega
    · have := (HW1.out.ge).2.2.2
      have := HB1.out
      omega)
  clear hw3 hf3 hg2 e1 e2 HW1 HF2
  rw [Nat.sub_zero]
  obtain ⟨K, hK⟩ : ∃ K, chK S n = K := ⟨_, rfl⟩
  have HKK := kp hK
  rw [hK] at HKL HBU HSD
  rw [hK]
  clear hK
  have hkl := key_cells K HKL.out
  have SC := fun (cur : Array Value) (h : cur.size = 32) => sc_new (P := Try.prog) w3 23 (cellsU8 K) (cellsU8_one _) cur (by rw [hkl]; exact h)
  have hbx := ba (Below.refl w3.heap.size w3) (.cells (cellsU8 K).toArray 23)
  have HK1 := kp (HK1.out.bel hbx)
  have HP1 := kp (HP1.out.bel hbx)
  have HW3 := kp (HW3.out.bel hbx)
  have HB1 := kp (bt' HB1.out hbx HB1.out.size)
  have H8 := kp (Blk.new w3 23 (cellsU8 K).toArray)
  clear hbx
  go_upto_region 5 with (fail)
  clear SC hkl
  generalize w3.alloc (.cells (cellsU8 K).toArray 23) = V at HK1 HP1 HW3 HB1 H8 ⊢
  generalize w3.heap.size = b8 at H8 ⊢
  have L1 := ldK S HSL.out HK1.out
  have L2 := ld_all (P := Try.prog) (w.heap.size + 1) 4 25 25 X _ Try.underlying25 rfl info_plan hPl HP1.out
  have L3 := ldK K HKL.out H8.out
  have hbx := ba (Below.refl V.heap.size V) (.cells (sdL S s l d n K bw none 0 0 0).toArray 67)
  have HEND : Kp (SNewEnd B w S s l d n n (.returned (.tuple #[.pointer (some ⟨V.heap.size, 0, none⟩), .int .i64 0])) (V.alloc (.cells (sdL S s l d n K bw none 0 0 0).toArray 67))) := kp
    ⟨V.heap.size, bw, g2, rfl, ⟨by rw [HKK.out]; exact Blk.new V 67 _, HW3.out.bel hbx, Rw.nil _ _ _ _, Nat.le_trans HBB.out HB1.out.size, by omega⟩, bt' HB1.out hbx HB1.out.size, fun k hk => by
      rcases hk with rfl | rfl | rfl | hk
      · exact HB1.out.size
      · exact HF1.out
      · exact HG2.out
      · cases hk⟩
  clear hbx HK1 HP1 HW3 H8
  go_wp2_with (first | (refine wpL_load rfl 23 _ rfl rfl L1 ?_) | (refine wpL_load rfl 25 _ rfl rfl L2 ?_) | (refine wpL_load rfl 23 _ rfl rfl L3 ?_) | (refine wpL_val 33 rfl rfl (.agg (sdL S s l d n K bw none 0 0 0).toArray) (exec_build (parts := #[(0, .agg (cellsU8 S).toArray), (1, .agg X.toArray), (2, .agg (cellsU8 K).toArray), (3, .pointer (some ⟨bw, 0, none⟩))]) rfl (by simp [Act.eval, Act.put]) (HBU.out bw _)) ?_))
  go_ret2
  exact HEND.out
end Go.Proofs.Ytmnbnjiipnocaaa
