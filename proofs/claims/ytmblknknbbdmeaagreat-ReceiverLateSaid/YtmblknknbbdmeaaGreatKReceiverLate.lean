/- ReceiverLate: the walk. -/
import Derived.Test.YtmblknknbbdmeaaGreatRcb13
namespace Go.Proofs.YtmblknknbbdmeaaGreat
open Go Go.RowKit
set_option linter.unusedVariables false
set_option linter.unusedSimpArgs false
attribute [local go_sem] bmax2 bmin2 bmax bmin cell_ext frozen_ext

set_option maxHeartbeats 8000000 in
set_option maxRecDepth 100000 in
theorem ReceiverLate_walk (w : World) (S : List UInt8) (s l d c : Int) (at9 lt9 : Int) (tx : ByteArray) (hS : S.length = 32) (b1 : (Lit.int .i64 s).wf = true ∧ (Lit.int .i64 l).wf = true ∧ (Lit.int .i64 d).wf = true ∧ (Lit.int .i64 c).wf = true) (b2 : (Lit.int .u16 at9).wf = true) (b3 : (Lit.int .u16 lt9).wf = true) (b4 : tx.size ≤ maxLen) :
    Calls Tryz.prog 9 #[keyV S, .agg (planL s l d c).toArray, .int .u16 at9, .int .u16 lt9, .string tx] w fun e w' => e = .returned (.bool true) ∧ Below w.heap.size w w' := by
  unfold keyV
  obtain ⟨bs9, bl9, bd9, bc9⟩ := b1
  have cM := kp (fun w' => P_May s l d c w')
  have HSL := kp hS
  have HPL := kp (planL_length s l d c)
  have HPO := kp (planL_one s l d c)
  have xc : Kp ((planL s l d c)[3]? = some (.int .i64 c)) := kp rfl
  have xs : Kp ((planL s l d c)[0]? = some (.int .i64 s)) := kp rfl
  obtain ⟨PL, hPL⟩ : ∃ PL, planL s l d c = PL := ⟨_, rfl⟩
  rw [hPL] at cM HPL HPO xc xs
  rw [hPL]
  have HPE := kp hPL
  clear hPL
  have K_s := kp ((Blk.new w 27 (cellsU8 S).toArray).alloc (.cells PL.toArray 29))
  have K_p := kp (Blk.new (w.alloc (.cells (cellsU8 S).toArray 27)) 29 PL.toArray)
  have HB := kp (ba (ba (Below.refl w.heap.size w) (.cells (cellsU8 S).toArray 27)) (.cells PL.toArray 29))
  rw [size_all] at K_p

  clear hS
  go_enter Tryz.func9, Tryz.ntmps9
  go_upto_region 1 with (fail)
  change Code.wp _ _ _ _ ((w.alloc (.cells (cellsU8 S).toArray 27)).alloc (.cells PL.toArray 29))
  generalize (w.alloc (.cells (cellsU8 S).toArray 27)).alloc (.cells PL.toArray 29) = W at K_s K_p HB ⊢
  go_wp2_with fail
  refine (receiver_awake _).mono ?_
  rintro e w_1 ⟨rfl, hb_1⟩
  have K_s := kp (K_s.out.bel hb_1)
  have K_p := kp (K_p.out.bel hb_1)
  have HB := kp (bt' HB.out hb_1 HB.out.size)
  clear hb_1
  have L_p := ld_all (P := Tryz.prog) (w.heap.size + 1) 4 29 29 PL _ Tryz.underlying29 rfl info_plan HPL.out K_p.out
  go_wp2_with (refine wpL_load rfl 29 _ rfl rfl L_p ?_)
  clear L_p
  refine (cM.out _).mono ?_
  rintro e w_2 ⟨rfl, hb_2⟩
  have K_s := kp (K_s.out.bel hb_2)
  have K_p := kp (K_p.out.bel hb_2)
  have HB := kp (bt' HB.out hb_2 HB.out.size)
  clear hb_2
  by_cases hm : mayP s l d c = true
  rotate_left
  · have hm : mayP s l d c = false := by simpa using hm
    rw [hm]
    go_wp2
    go_ret
    exact ⟨rfl, HB.out⟩
  rw [hm]
  have HM := kp hm
  clear hm cM
  have hcc := mayP_iff.1 HM.out
  have x3 := K_p.out.atL xc.out
  have lp := K_p.out.lt
  by_cases h16 : 16 < c
  · clear hcc
    have d16 : decide ((16 : Int) < c) = true := decide_eq_true h16
    go_wp2
    go_ret
    exact ⟨rfl, HB.out⟩
  have d16 : decide ((16 : Int) < c) = false := decide_eq_false h16
  have h16' : ¬ (16 : Int) < c := h16
  obtain ⟨n, hn⟩ : ∃ n : Nat, c = (n : Int) := ⟨c.toNat, by omega⟩
  have hok : (SP.mk S s l d n).Ok := ⟨HSL.out, by rw [← hn]; exact HM.out⟩
  have HN := kp hn
  have HPN := kp (HPE.out.symm.trans (by rw [hn]) : PL = planL s l d n)
  clear HPE
  have HCC := kp hcc
  have hn16 : n ≤ 16 := by omega
  have hn1 : 1 ≤ n := by omega
  clear hcc
  have b4' : tx.size ≤ maxLen := b4
  by_cases h300 : 300 < tx.size
  · have i300 : (300 : Int) < (tx.size : Int) := by omega
    have d300 : decide ((300 : Int) < (tx.size : Int)) = true := decide_eq_true i300
    go_wp2
    go_ret
    exact ⟨rfl, HB.out⟩
  have i300 : ¬ (300 : Int) < (tx.size : Int) := by omega
  have d300 : decide ((300 : Int) < (tx.size : Int)) = false := decide_eq_false i300
  subst hn
  have c1 : Kp (∀ w', w.heap.size ≤ w'.heap.size → Calls Tryz.prog 36 #[.agg (cellsU8 S).toArray, .agg PL.toArray] w' fun e w'' => ∃ b, e = .returned (.tuple #[.pointer (some ⟨b, 0, none⟩), .int .i64 0]) ∧ S1 w.heap.size w'' b ⟨S, s, l, d, n⟩ 0 ∧ Below w'.heap.size w' w'') := kp (fun w' h => by rw [HPN.out]; exact L_New hok w' h)
  have HOK := kp hok
  clear hok
  have L_p := ld_all (P := Tryz.prog) (w.heap.size + 1) 4 29 29 PL _ Tryz.underlying29 rfl info_plan HPL.out K_p.out
  have L_s := ldK S HSL.out K_s.out
  go_wp2_with (first | (refine wpL_load rfl 29 _ rfl rfl L_p ?_) | (refine wpL_load rfl 27 _ rfl rfl L_s ?_))
  clear L_p L_s x3 lp d16
  refine (c1.out _ HB.out.size).mono ?_
  rintro e w_3 ⟨b_a, rfl, hs_3, hb_3⟩
  have K_s := kp (K_s.out.bel hb_3)
  have K_p := kp (K_p.out.bel hb_3)
  have HB := kp (bt' HB.out hb_3 HB.out.size)
  have S_a := kp hs_3
  clear hs_3 hb_3
  clear c1
  clear d300
  have hmN := HM.out
  have cK : Kp (∀ w', S1 w.heap.size w' b_a ⟨S, s, l, d, n⟩ 0 → Calls Tryz.prog 37 #[.pointer (some ⟨b_a, 0, none⟩)] w' fun e w'' => e = .returned (.agg (cellsU8 (chK S n)).toArray) ∧ Below w'.heap.size w' w'') := kp (fun w' h => by have h1 := L_Known HOK.out h; dsimp only at h1; exact h1)
  have cN : Kp (∀ w', w.heap.size ≤ w'.heap.size → Calls Tryz.prog 29 #[.agg (cellsU8 (chK S n)).toArray, .agg PL.toArray, .int .i64 64, .int .i64 4, .int .i64 4] w' fun e w'' => ∃ rb, e = .returned (.tuple #[.pointer (some ⟨rb, 0, none⟩), .int .i64 0]) ∧ VR w.heap.size 0 (fun _ => False) w'' rb (newRc (chK S n) s l d n 64 4 4) ∧ Below w'.heap.size w' w'') := kp (fun w' h => by rw [HPN.out]; exact W_New (chK S n) s l d n 64 4 4 (chK_length S n) hmN (by decide) (by decide) (by decide) w' h (fun k hk => hk.elim))
  clear hmN
  obtain ⟨R0, hR0⟩ : ∃ R, newRc (chK S n) s l d n 64 4 4 = R := ⟨_, rfl⟩
  rw [hR0] at cN
  have HR0 := kp hR0
  clear hR0
  obtain ⟨KN, hKN⟩ : ∃ K, cellsU8 (chK S n) = K := ⟨_, rfl⟩
  rw [hKN] at cK cN
  clear hKN
  go_upto_region 8 with (fail)
  have hdr : Below w_3.heap.size w_3 w_3.drew := (Below.refl _ _).drew
  refine wp_region_held (S := fun W' => Below w_3.heap.size w_3 W') (by kernel_rfl) ?_
  change wpAnyH _ _ _ _ _ 9 _ _ _
  refine takeAll (by kernel_rfl) (fun _ _ d _ _ h => by cases d <;> exact h) [(0, 48), (2, 50)] [.pointer (some ⟨b_a, 0, none⟩), .agg PL.toArray] _ _ _ 7 (by kernel_rfl)
    ⟨Or.inl ⟨by kernel_rfl, fun w9 hS9 => by kernel_rfl⟩, Or.inl ⟨by kernel_rfl, fun w9 hS9 => exec_load (ty := 29) (x := .tmp 6) (by kernel_rfl) (pv := .pointer (some ⟨w.heap.size + 1, 0, none⟩)) (by kernel_rfl) (ld_all (P := Tryz.prog) (w.heap.size + 1) 4 29 29 PL _ Tryz.underlying29 rfl info_plan HPL.out (K_p.out.bel hS9))⟩, trivial⟩ hdr ?_
  change wpAnyH _ _ _ _ _ [1, 3, 4, 5, 6, 7, 8].length _ _ _
  refine wpAnyH_of_seqE (by kernel_rfl) (fun _ _ d _ _ h => by cases d <;> exact h) [1, 3, 4, 5, 6, 7, 8] _ _ _ hdr (of_decide_eq_true (by kernel_rfl)) (by kernel_rfl) ?_
  refine stepS_call 49 (by kernel_rfl) (of_decide_eq_true (by kernel_rfl)) (by kernel_rfl) (f := 37) (args := #[.pointer (some ⟨b_a, 0, none⟩)]) (v := .agg KN.toArray) (by kernel_rfl) (cK.out _ (S_a.out.bel hdr)) (fun W' h => bt' hdr h hdr.size) ?_
  intro W1 hk1
  have hdr1 := bt' hdr hk1 hdr.size
  refine stepS_callE 51 (by kernel_rfl) (of_decide_eq_true (by kernel_rfl)) (by kernel_rfl) (f := 29) (args := #[.agg KN.toArray, .agg PL.toArray, .int .i64 64, .int .i64 4, .int .i64 4]) (C := fun v W' => ∃ rb, v = .tuple #[.pointer (some ⟨rb, 0, none⟩), .int .i64 0] ∧ VR w.heap.size 0 (fun _ => False) W' rb R0 ∧ Below w_3.heap.size w_3 W') (by kernel_rfl) ((cN.out W1 (Nat.le_trans HB.out.size hdr1.size)).mono (fun e W' ⟨rb, he, hv, hb⟩ => ⟨_, he, rb, rfl, hv, bt' hdr1 hb hdr1.size⟩)) (fun v W' ⟨_, _, _, h⟩ => h) ?_
  rintro v W2 ⟨rb_r, rfl, hv, hb2⟩
  refine stepS 47 (by kernel_rfl) (of_decide_eq_true (by kernel_rfl)) (by kernel_rfl) (v := .tuple #[.pointer (some ⟨rb_r, 0, none⟩), .int .i64 0]) (by kernel_rfl) hb2 ?_
  refine stepS 52 (by kernel_rfl) (of_decide_eq_true (by kernel_rfl)) (by kernel_rfl) (v := .pointer (some ⟨rb_r, 0, none⟩)) (by kernel_rfl) hb2 ?_
  refine stepS 53 (by kernel_rfl) (of_decide_eq_true (by kernel_rfl)) (by kernel_rfl) (v := .int .i64 0) (by kernel_rfl) hb2 ?_
  refine stepS 13 (by kernel_rfl) (of_decide_eq_true (by kernel_rfl)) (by kernel_rfl) (v := .pointer (some ⟨rb_r, 0, none⟩)) (by kernel_rfl) hb2 ?_
  refine stepS 14 (by kernel_rfl) (of_decide_eq_true (by kernel_rfl)) (by kernel_rfl) (v := .int .i64 0) (by kernel_rfl) hb2 ?_
  clear hdr hdr1 hk1 cK cN
  have K_s := kp (K_s.out.bel hb2)
  have K_p := kp (K_p.out.bel hb2)
  have S_a := kp (S_a.out.bel hb2)
  have HB := kp (bt' HB.out hb2 HB.out.size)
  have V_r := kp hv
  clear hv hb2
  unfold wpListS
  dsimp only [Exit.then, putAll, Act.put]
  simp only [List.setIfInBounds_toArray, List.set_cons_succ, List.set_cons_zero]
  have b2' : 0 ≤ at9 ∧ at9 ≤ 65535 := by unfold Lit.wf at b2; simp only [Bool.and_eq_true, decide_eq_true_eq] at b2; exact ⟨b2.1, b2.2⟩
  have b3' : 0 ≤ lt9 ∧ lt9 ≤ 65535 := by unfold Lit.wf at b3; simp only [Bool.and_eq_true, decide_eq_true_eq] at b3; exact ⟨b3.1, b3.2⟩
  obtain ⟨q, hq⟩ : ∃ q : Nat, at9 % (n : Int) = (q : Int) := ⟨(at9 % (n : Int)).toNat, by have := Int.emod_nonneg at9 (show (n : Int) ≠ 0 by omega); omega⟩
  have hqn : q < n := by have := Int.emod_lt_of_pos at9 (show (0 : Int) < n by omega); omega
  have x3 := K_p.out.atL xc.out
  have lp := K_p.out.lt
  have hn0 : (n : Int) ≠ 0 := by omega
  have hw1 : wrap64 at9 = at9 := IntWalk.wrap64_in _ (by omega)
  go_upto_region 12 with (fail)
  clear hn0 hw1 x3 lp b2' hq
  obtain ⟨i, hi⟩ : ∃ i : Nat, i = q + 1 := ⟨_, rfl⟩
  have hqi : (q : Int) + 1 = (i : Int) := by omega
  rw [hqi]
  have hi1 : 1 ≤ i := by omega
  have hi2 : i ≤ n := by omega
  clear hqi hi hqn
  have hbeg := beg_in HM.out (show (1 : Int) ≤ (i : Int) by omega) (show (i : Int) ≤ (n : Int) + 1 by omega)
  obtain ⟨bg, hbg⟩ : ∃ bg, s + ((i : Int) - 1) * l = bg := ⟨_, rfl⟩
  have hc0 := HCC.out
  have hse := sendE_in HM.out hi1 (show (i : Int) ≤ (n : Int) by omega) (Int.le_refl 0) (show (0 : Int) < l by omega) (L := 0) (Nat.zero_le _) (t := tx) (by omega)
  rw [Int.add_zero, hbg] at hse
  have cBg : Kp (∀ w', Calls Tryz.prog 41 #[.agg PL.toArray, .int .i64 (i : Int)] w' fun e w'' => e = .returned (.tuple #[.int .i64 bg, .int .i64 0]) ∧ Below w'.heap.size w' w'') := kp (fun w' => by
    have h1 := P_Begins s l d n (i : Int) w'
    rw [show beginsV s l d n (i : Int) = .tuple #[.int .i64 bg, .int .i64 0] by unfold beginsV; rw [if_pos ⟨HM.out, by omega, by omega⟩, hbg]] at h1
    rw [HPN.out]
    exact h1)
  have hKl := kp (show (goodPk (chK S) d n i tx).length = 36 by rw [goodPk_eq]; exact pkL_length (tlK_length _ _ _))
  have hKo := kp (show ∀ v ∈ goodPk (chK S) d n i tx, v.oneCell' = true by rw [goodPk_eq]; exact pkL_one _ _ _ _ _)
  obtain ⟨PK, hPK⟩ : ∃ PK, goodPk (chK S) d n i tx = PK := ⟨_, rfl⟩
  rw [hPK] at hKl hKo
  have HPK := kp hPK
  have HTL : Kp ((tlN d i : Int) ≤ 9223372036854775807) := kp (by unfold tlN; omega)
  have cSe : Kp (∀ w', w.heap.size ≤ w'.heap.size → S1 w.heap.size w' b_a ⟨S, s, l, d, n⟩ 0 → Calls Tryz.prog 38 #[.pointer (some ⟨b_a, 0, none⟩), .int .i64 bg, .string tx] w' fun e w'' => e = .returned (.tuple #[.agg PK.toArray, .int .i64 0]) ∧ S1 w.heap.size w'' b_a ⟨S, s, l, d, n⟩ i ∧ MvT w.heap.size w' w'') := kp (fun w' hB h => by
    have h1 := L_SendV HOK.out h bg (by omega) (by omega) tx hB (by omega)
    have e1 : (SP.mk S s l d n).E 0 bg tx = 0 := hse.1
    obtain ⟨j, _, _, _, _, _, hj, hk⟩ := SP.good HOK.out e1
    have hji : j = i := hj.symm.trans hse.2
    subst hji
    rw [e1, hj, hk] at h1
    dsimp only at h1
    rw [hPK] at h1
    exact h1)
  have HBG := kp hbg
  clear hbeg hc0 hse hPK hbg
  have hmT := told_in HM.out (show (1 : Int) ≤ (i : Int) by omega) (show (i : Int) ≤ (n : Int) by omega)
  obtain ⟨td, htd⟩ : ∃ td, s + ((i : Int) + d - 1) * l = td := ⟨_, rfl⟩
  have hcc := HCC.out
  have hwt : wrap64 (td + lt9) = td + lt9 := IntWalk.wrap64_in _ (by omega)
  have hwl : wrap64 lt9 = lt9 := IntWalk.wrap64_in _ (by omega)
  have cTo : Kp (∀ w', Calls Tryz.prog 42 #[.agg PL.toArray, .int .i64 (i : Int)] w' fun e w'' => e = .returned (.tuple #[.int .i64 td, .int .i64 0]) ∧ Below w'.heap.size w' w'') := kp (fun w' => by
    have h1 := P_Told s l d n (i : Int) HM.out w'
    rw [show toldV s l d n (i : Int) = (td, 0) from (if_pos ⟨by omega, by omega⟩).trans (by rw [htd])] at h1
    rw [HPN.out]
    exact h1)
  obtain ⟨R1, hg, hRa, hRz, hRb⟩ := late_got S n s l d HM.out hn16 i hi1 hi2 tx (by omega) (td + lt9) (by omega)
  rw [HR0.out] at hg
  have cGo : Kp (∀ w', w.heap.size ≤ w'.heap.size → VR w.heap.size 0 (fun _ => False) w' rb_r R0 → Calls Tryz.prog 31 #[.pointer (some ⟨rb_r, 0, none⟩), .agg PK.toArray, .int .i64 (td + lt9)] w' (WEnd w.heap.size 1 (fun _ => False) w' rb_r ((R1, []), 14))) := kp (fun w' hB h => by
    have h1 := W_Got (N := 0) (by decide) h hB (i : Int) tx (str (tagD (chK S (n - i)) (i : Int) tx)) (tlN d i : Int) (tlK S n (tlN d i)) (tlK_length _ _ _) (td + lt9) HTL.out
    rw [hg] at h1
    rw [← HPK.out]
    exact h1)
  have q1 : Kp (∀ w', VR w.heap.size 1 (fun _ => False) w' rb_r R1 → Calls Tryz.prog 34 #[.pointer (some ⟨rb_r, 0, none⟩)] w' fun e w'' => e = .returned (.int .i64 0) ∧ w' = w'') := kp (fun w' h => by have h1 := W_Waits h; rw [hRz] at h1; exact h1)
  have q2 : Kp (∀ w', VR w.heap.size 1 (fun _ => False) w' rb_r R1 → Calls Tryz.prog 35 #[.pointer (some ⟨rb_r, 0, none⟩), .int .i64 (i : Int)] w' fun e w'' => e = .returned (.int .i64 0) ∧ w' = w'') := kp (fun w' h => by have h1 := W_Believed h (i : Int) (kI_wf (by omega) (by omega)); rw [hRb] at h1; exact h1)
  have q3 : Kp (∀ w', VR w.heap.size 1 (fun _ => False) w' rb_r R1 → Calls Tryz.prog 33 #[.pointer (some ⟨rb_r, 0, none⟩)] w' fun e w'' => e = .returned (.int .i64 (tlN d i : Int)) ∧ w' = w'') := kp (fun w' h => by have h1 := W_At h; rw [hRa] at h1; exact h1)
  clear hg hRa hRz hRb hmT htd hcc b2 b3 b3' bs9 bl9 bd9
  obtain ⟨TT, hTT⟩ : ∃ T, (tlN d i : Int) = T := ⟨_, rfl⟩
  rw [hTT] at q3
  have p3 : Kp (PK[3]? = some (.int .i64 TT)) := kp (by rw [← HPK.out, ← hTT]; rfl)
  clear hTT
  have L_p := ld_all (P := Tryz.prog) (w.heap.size + 1) 4 29 29 PL _ Tryz.underlying29 rfl info_plan HPL.out K_p.out
  go_wp2_with (refine wpL_load rfl 29 _ rfl rfl L_p ?_)
  clear L_p
  refine (cBg.out _).mono ?_
  rintro e w_4 ⟨rfl, hb_4⟩
  have V_r := kp (V_r.out.bel hb_4)
  have K_s := kp (K_s.out.bel hb_4)
  have K_p := kp (K_p.out.bel hb_4)
  have S_a := kp (S_a.out.bel hb_4)
  have HB := kp (bt' HB.out hb_4 HB.out.size)
  clear hb_4
  go_wp2_with fail
  refine (cSe.out _ HB.out.size S_a.out).mono ?_
  rintro e w_5 ⟨rfl, hs_5, hm_5⟩
  have K_s := kp (hm_5.keep (by decide) (by decide) (by decide) (by decide) K_s.out)
  have K_p := kp (hm_5.keep (by decide) (by decide) (by decide) (by decide) K_p.out)
  have HB := kp (HB.out.trans hm_5.below)
  have V_r := kp (V_r.out.mvT hm_5)
  have S_a := kp hs_5
  clear hs_5 hm_5
  have hlen_6 := hKl.out
  have SC_6 := fun (cur : Array Value) (h : cur.size = 36) => sc_new (P := Tryz.prog) w_5 40 PK (hKo.out) cur (by rw [hlen_6]; exact h)
  have hge_x := kp HB.out.size
  have V_r := kp (V_r.out.bel (ba (Below.refl _ _) (.cells PK.toArray 40)))
  have K_s := kp (K_s.out.alloc (.cells PK.toArray 40))
  have K_p := kp (K_p.out.alloc (.cells PK.toArray 40))
  have S_a := kp (S_a.out.bel (ba (Below.refl _ _) (.cells PK.toArray 40)))
  have HB := kp (ba HB.out (.cells PK.toArray 40))
  have K_x := kp (Blk.new w_5 40 PK.toArray)
  go_upto_region 14 with (fail)
  clear SC_6 hlen_6
  generalize w_5.alloc (.cells PK.toArray 40) = W_6 at K_s K_p K_x S_a V_r HB ⊢
  generalize w_5.heap.size = b_x at K_x hge_x ⊢
  have L_p := ld_all (P := Tryz.prog) (w.heap.size + 1) 4 29 29 PL _ Tryz.underlying29 rfl info_plan HPL.out K_p.out
  go_wp2_with (refine wpL_load rfl 29 _ rfl rfl L_p ?_)
  clear L_p
  refine (cTo.out _).mono ?_
  rintro e w_7 ⟨rfl, hb_7⟩
  have V_r := kp (V_r.out.bel hb_7)
  have K_s := kp (K_s.out.bel hb_7)
  have K_p := kp (K_p.out.bel hb_7)
  have K_x := kp (K_x.out.bel hb_7)
  have S_a := kp (S_a.out.bel hb_7)
  have HB := kp (bt' HB.out hb_7 HB.out.size)
  clear hb_7
  have L_x := ld_all (P := Tryz.prog) b_x 36 40 40 PK _ Tryz.underlying40 rfl info_pk hKl.out K_x.out
  go_wp2_with (refine wpL_load rfl 40 _ rfl rfl L_x ?_)
  clear L_x
  refine (cGo.out _ HB.out.size V_r.out).mono ?_
  rintro e w_8 ⟨ad_8, cp_8, rfl, hv_8, hm_8, hl_8⟩
  have K_s := kp (hm_8.keep (by decide) (by decide) K_s.out)
  have K_p := kp (hm_8.keep (by decide) (by decide) K_p.out)
  have K_x := kp (hm_8.keep (by decide) (by decide) K_x.out)
  have S_a := kp (hm_8.sd S_a.out)
  have HB := kp (HB.out.trans hm_8.below)
  have V_r := kp hv_8
  clear hv_8 hm_8 hl_8
  go_upto_region 16 with (fail)
  have y3 := K_x.out.atL p3.out
  have lx := K_x.out.lt
  have HV := kp (fun x => V_r.out.bel (ext_below w_8 x))
  refine wp_region_ext [0, 1, 2, 3, 4, 5, 6, 7, 8, 9, 10, 11, 12, 13, 14, 15, 16, 17, 18, 19, 20, 21, 22, 23, 24, 25, 26, 27, 28, 29, 30, 31, 32] [33] (by kernel_rfl) (by kernel_rfl) ?_
  simp only [List.append_eq, List.cons_append, List.nil_append, List.map_cons, List.map_nil, List.getD_cons_succ, List.getD_cons_zero]
  repeat (first
    | go_big_quiet_step (first | (go_at_call 33; with_reducible exact Calls.ext_same (q3.out _ (HV.out _))) | (go_at_call 34; with_reducible exact Calls.ext_same (q1.out _ (HV.out _))) | (go_at_call 35; with_reducible exact Calls.ext_same (q2.out _ (HV.out _)))))
  refine wpQuiet_nil ?_
  rintro z
  go_wp2
  go_ret
  exact ⟨rfl, bt' HB.out (ext_below w_8 z) HB.out.size⟩
end Go.Proofs.YtmblknknbbdmeaaGreat
