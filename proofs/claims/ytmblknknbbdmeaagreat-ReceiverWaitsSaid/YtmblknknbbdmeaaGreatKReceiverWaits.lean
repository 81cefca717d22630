/- ReceiverWaits: the walk. -/
import Derived.Test.YtmblknknbbdmeaaGreatRcb13
namespace Go.Proofs.YtmblknknbbdmeaaGreat
open Go Go.RowKit
set_option linter.unusedVariables false
set_option linter.unusedSimpArgs false
attribute [local go_sem] bmax2 bmin2 bmax bmin cell_ext frozen_ext

set_option maxHeartbeats 8000000 in
set_option maxRecDepth 100000 in
theorem ReceiverWaits_walk (w : World) (S : List UInt8) (s l d c : Int) (ad : Option Addr) (cp : Nat) (l9 : List ByteArray) (hS : S.length = 32) (b1 : (Lit.int .i64 s).wf = true ∧ (Lit.int .i64 l).wf = true ∧ (Lit.int .i64 d).wf = true ∧ (Lit.int .i64 c).wf = true) (b2 : l9.length ≤ maxLen ∧ (∀ s ∈ l9, s.size ≤ reachBytes) ∧ (l9 ≠ [] → ∃ b o, ad = some ⟨b, o, none⟩ ∧ b < w.heap.size ∧ HoldsT w b o l9)) :
    Calls Tryz.prog 7 #[keyV S, .agg (planL s l d c).toArray, .slice ad l9.length cp] w fun e w' => e = .returned (.bool true) ∧ Below w.heap.size w w' := by
  unfold keyV
  obtain ⟨bs9, bl9, bd9, bc9⟩ := b1
  have cM := kp (fun w' => P_May s l d c w')
  have HSL := kp hS
  have HPL := kp (planL_length s l d c)
  have HPO := kp (planL_one s l d c)
  have xc : Kp ((planL s l d c)[3]? = some (.int .i64 c)) := kp rfl
  have xs : Kp ((planL s l d c)[0]? = some (.int .i64 s)) := kp rfl
  obtain ⟨PL, hPL⟩ : ∃ PL, planL s l d c = PL := ⟨_, rfl⟩
  rw [hPL] at cM HPL HPO xc xs
  rw [hPL]
  have HPE := kp hPL
  clear hPL
  have K_s := kp ((Blk.new w 27 (cellsU8 S).toArray).alloc (.cells PL.toArray 29))
  have K_p := kp (Blk.new (w.alloc (.cells (cellsU8 S).toArray 27)) 29 PL.toArray)
  have HB := kp (ba (ba (Below.refl w.heap.size w) (.cells (cellsU8 S).toArray 27)) (.cells PL.toArray 29))
  rw [size_all] at K_p
  obtain ⟨hlm, hsz, hcells⟩ := b2
  have HC := kp hcells
  have hlm2 : l9.length ≤ 9223372036854775807 := hlm
  clear hsz hcells hlm
  clear hS
  go_enter Tryz.func7, Tryz.ntmps7
  go_upto_region 1 with (fail)
  change Code.wp _ _ _ _ ((w.alloc (.cells (cellsU8 S).toArray 27)).alloc (.cells PL.toArray 29))
  generalize (w.alloc (.cells (cellsU8 S).toArray 27)).alloc (.cells PL.toArray 29) = W at K_s K_p HB ⊢
  go_wp2_with fail
  refine (receiver_awake _).mono ?_
  rintro e w_1 ⟨rfl, hb_1⟩
  have K_s := kp (K_s.out.bel hb_1)
  have K_p := kp (K_p.out.bel hb_1)
  have HB := kp (bt' HB.out hb_1 HB.out.size)
  clear hb_1
  have L_p := ld_all (P := Tryz.prog) (w.heap.size + 1) 4 29 29 PL _ Tryz.underlying29 rfl info_plan HPL.out K_p.out
  go_wp2_with (refine wpL_load rfl 29 _ rfl rfl L_p ?_)
  clear L_p
  refine (cM.out _).mono ?_
  rintro e w_2 ⟨rfl, hb_2⟩
  have K_s := kp (K_s.out.bel hb_2)
  have K_p := kp (K_p.out.bel hb_2)
  have HB := kp (bt' HB.out hb_2 HB.out.size)
  clear hb_2
  by_cases hm : mayP s l d c = true
  rotate_left
  · have hm : mayP s l d c = false := by simpa using hm
    rw [hm]
    go_wp2
    go_ret
    exact ⟨rfl, HB.out⟩
  rw [hm]
  have HM := kp hm
  clear hm cM
  have hcc := mayP_iff.1 HM.out
  have x3 := K_p.out.atL xc.out
  have lp := K_p.out.lt
  by_cases h16 : 16 < c
  · clear hcc
    have d16 : decide ((16 : Int) < c) = true := decide_eq_true h16
    go_wp2
    go_ret
    exact ⟨rfl, HB.out⟩
  have d16 : decide ((16 : Int) < c) = false := decide_eq_false h16
  have h16' : ¬ (16 : Int) < c := h16
  obtain ⟨n, hn⟩ : ∃ n : Nat, c = (n : Int) := ⟨c.toNat, by omega⟩
  have hok : (SP.mk S s l d n).Ok := ⟨HSL.out, by rw [← hn]; exact HM.out⟩
  have HN := kp hn
  have HPN := kp (HPE.out.symm.trans (by rw [hn]) : PL = planL s l d n)
  clear HPE
  have HCC := kp hcc
  have hn16 : n ≤ 16 := by omega
  have hn1 : 1 ≤ n := by omega
  clear hcc
  by_cases h20 : (20 : Int) < (l9.length : Int)
  · have d20 : decide ((20 : Int) < (l9.length : Int)) = true := decide_eq_true h20
    go_wp2
    go_ret
    exact ⟨rfl, HB.out⟩
  have d20 : decide ((20 : Int) < (l9.length : Int)) = false := decide_eq_false h20
  have hl20 : l9.length ≤ 20 := by omega
  subst hn
  have c1 : Kp (∀ w', w.heap.size ≤ w'.heap.size → Calls Tryz.prog 36 #[.agg (cellsU8 S).toArray, .agg PL.toArray] w' fun e w'' => ∃ b, e = .returned (.tuple #[.pointer (some ⟨b, 0, none⟩), .int .i64 0]) ∧ S1 w.heap.size w'' b ⟨S, s, l, d, n⟩ 0 ∧ Below w'.heap.size w' w'') := kp (fun w' h => by rw [HPN.out]; exact L_New hok w' h)
  have HOK := kp hok
  clear hok
  have L_p := ld_all (P := Tryz.prog) (w.heap.size + 1) 4 29 29 PL _ Tryz.underlying29 rfl info_plan HPL.out K_p.out
  have L_s := ldK S HSL.out K_s.out
  go_wp2_with (first | (refine wpL_load rfl 29 _ rfl rfl L_p ?_) | (refine wpL_load rfl 27 _ rfl rfl L_s ?_))
  clear L_p L_s x3 lp d16
  refine (c1.out _ HB.out.size).mono ?_
  rintro e w_3 ⟨b_a, rfl, hs_3, hb_3⟩
  have K_s := kp (K_s.out.bel hb_3)
  have K_p := kp (K_p.out.bel hb_3)
  have HB := kp (bt' HB.out hb_3 HB.out.size)
  have S_a := kp hs_3
  clear hs_3 hb_3
  clear c1
  clear d20
  have hmN := HM.out
  have cK : Kp (∀ w', S1 w.heap.size w' b_a ⟨S, s, l, d, n⟩ 0 → Calls Tryz.prog 37 #[.pointer (some ⟨b_a, 0, none⟩)] w' fun e w'' => e = .returned (.agg (cellsU8 (chK S n)).toArray) ∧ Below w'.heap.size w' w'') := kp (fun w' h => by have h1 := L_Known HOK.out h; dsimp only at h1; exact h1)
  have cN : Kp (∀ w', w.heap.size ≤ w'.heap.size → Calls Tryz.prog 29 #[.agg (cellsU8 (chK S n)).toArray, .agg PL.toArray, .int .i64 9, .int .i64 3, .int .i64 3] w' fun e w'' => ∃ rb, e = .returned (.tuple #[.pointer (some ⟨rb, 0, none⟩), .int .i64 0]) ∧ VR w.heap.size 0 (fun _ => False) w'' rb (newRc (chK S n) s l d n 9 3 3) ∧ Below w'.heap.size w' w'') := kp (fun w' h => by rw [HPN.out]; exact W_New (chK S n) s l d n 9 3 3 (chK_length S n) hmN (by decide) (by decide) (by decide) w' h (fun k hk => hk.elim))
  clear hmN
  obtain ⟨R0, hR0⟩ : ∃ R, newRc (chK S n) s l d n 9 3 3 = R := ⟨_, rfl⟩
  rw [hR0] at cN
  have HR0 := kp hR0
  clear hR0
  obtain ⟨KN, hKN⟩ : ∃ K, cellsU8 (chK S n) = K := ⟨_, rfl⟩
  rw [hKN] at cK cN
  clear hKN
  go_upto_region 8 with (fail)
  have hdr : Below w_3.heap.size w_3 w_3.drew := (Below.refl _ _).drew
  refine wp_region_held (S := fun W' => Below w_3.heap.size w_3 W') (by kernel_rfl) ?_
  change wpAnyH _ _ _ _ _ 9 _ _ _
  refine takeAll (by kernel_rfl) (fun _ _ d _ _ h => by cases d <;> exact h) [(0, 43), (2, 45)] [.pointer (some ⟨b_a, 0, none⟩), .agg PL.toArray] _ _ _ 7 (by kernel_rfl)
    ⟨Or.inl ⟨by kernel_rfl, fun w9 hS9 => by kernel_rfl⟩, Or.inl ⟨by kernel_rfl, fun w9 hS9 => exec_load (ty := 29) (x := .tmp 4) (by kernel_rfl) (pv := .pointer (some ⟨w.heap.size + 1, 0, none⟩)) (by kernel_rfl) (ld_all (P := Tryz.prog) (w.heap.size + 1) 4 29 29 PL _ Tryz.underlying29 rfl info_plan HPL.out (K_p.out.bel hS9))⟩, trivial⟩ hdr ?_
  change wpAnyH _ _ _ _ _ [1, 3, 4, 5, 6, 7, 8].length _ _ _
  refine wpAnyH_of_seqE (by kernel_rfl) (fun _ _ d _ _ h => by cases d <;> exact h) [1, 3, 4, 5, 6, 7, 8] _ _ _ hdr (of_decide_eq_true (by kernel_rfl)) (by kernel_rfl) ?_
  refine stepS_call 44 (by kernel_rfl) (of_decide_eq_true (by kernel_rfl)) (by kernel_rfl) (f := 37) (args := #[.pointer (some ⟨b_a, 0, none⟩)]) (v := .agg KN.toArray) (by kernel_rfl) (cK.out _ (S_a.out.bel hdr)) (fun W' h => bt' hdr h hdr.size) ?_
  intro W1 hk1
  have hdr1 := bt' hdr hk1 hdr.size
  refine stepS_callE 46 (by kernel_rfl) (of_decide_eq_true (by kernel_rfl)) (by kernel_rfl) (f := 29) (args := #[.agg KN.toArray, .agg PL.toArray, .int .i64 9, .int .i64 3, .int .i64 3]) (C := fun v W' => ∃ rb, v = .tuple #[.pointer (some ⟨rb, 0, none⟩), .int .i64 0] ∧ VR w.heap.size 0 (fun _ => False) W' rb R0 ∧ Below w_3.heap.size w_3 W') (by kernel_rfl) ((cN.out W1 (Nat.le_trans HB.out.size hdr1.size)).mono (fun e W' ⟨rb, he, hv, hb⟩ => ⟨_, he, rb, rfl, hv, bt' hdr1 hb hdr1.size⟩)) (fun v W' ⟨_, _, _, h⟩ => h) ?_
  rintro v W2 ⟨rb_r, rfl, hv, hb2⟩
  refine stepS 42 (by kernel_rfl) (of_decide_eq_true (by kernel_rfl)) (by kernel_rfl) (v := .tuple #[.pointer (some ⟨rb_r, 0, none⟩), .int .i64 0]) (by kernel_rfl) hb2 ?_
  refine stepS 47 (by kernel_rfl) (of_decide_eq_true (by kernel_rfl)) (by kernel_rfl) (v := .pointer (some ⟨rb_r, 0, none⟩)) (by kernel_rfl) hb2 ?_
  refine stepS 48 (by kernel_rfl) (of_decide_eq_true (by kernel_rfl)) (by kernel_rfl) (v := .int .i64 0) (by kernel_rfl) hb2 ?_
  refine stepS 9 (by kernel_rfl) (of_decide_eq_true (by kernel_rfl)) (by kernel_rfl) (v := .pointer (some ⟨rb_r, 0, none⟩)) (by kernel_rfl) hb2 ?_
  refine stepS 10 (by kernel_rfl) (of_decide_eq_true (by kernel_rfl)) (by kernel_rfl) (v := .int .i64 0) (by kernel_rfl) hb2 ?_
  clear hdr hdr1 hk1 cK cN
  have K_s := kp (K_s.out.bel hb2)
  have K_p := kp (K_p.out.bel hb2)
  have S_a := kp (S_a.out.bel hb2)
  have HB := kp (bt' HB.out hb2 HB.out.size)
  have V_r := kp hv
  clear hv hb2
  unfold wpListS
  dsimp only [Exit.then, putAll, Act.put]
  simp only [List.setIfInBounds_toArray, List.set_cons_succ, List.set_cons_zero]
  have hmm := @run_makeMap Tryz.prog
  have hrs : R0 = wR S s l d n [] 0 := HR0.out.symm.trans (wR_new S s l d n)
  subst hrs
  go_upto_region 12 with (fail)
  clear hmm
  have HGM0 := kp HB.out.size
  have hbm := ba (Below.refl W2.heap.size W2) (.map #[] 0)
  have D_m := kp (Drs.made W2)
  have V_r : Kp (VR w.heap.size 0 (fun k => k = W2.heap.size) (W2.alloc (.map #[] 0)) rb_r (wR S s l d n [] 0)) := kp (V_r.out.moreZ hbm (fun k hk => Or.inr ⟨by rw [hk]; exact Nat.le_refl _, by rw [hk]; exact D_m.out.lt⟩))
  have S_a := kp (S_a.out.bel hbm)
  have K_s := kp (K_s.out.bel hbm)
  have K_p := kp (K_p.out.bel hbm)
  have HB := kp (bt' HB.out hbm HB.out.size)
  clear hbm HR0
  have HGM : Kp (w.heap.size ≤ W2.heap.size) := kp HGM0.out
  generalize W2.alloc (.map #[] 0) = W3 at D_m V_r S_a K_s K_p HB ⊢
  generalize W2.heap.size = gm at D_m V_r HGM ⊢
  go_wp2
  go_loopw [54] (fun iv wr => ∃ (j : Nat) (L : List (List UInt8)) (k cn Ls : Nat), j ≤ l9.length ∧ iv = .int .i64 (j : Int) ∧ L.length ≤ 3 ∧ Ls ≤ 1 ∧ Kp (cn ≤ j) ∧ Kp (Drs wr gm cn L) ∧ Kp (VR w.heap.size j (fun k => k = gm) wr rb_r (wR S s l d n L k)) ∧ Kp (S1 w.heap.size wr b_a ⟨S, s, l, d, n⟩ Ls) ∧ Kp (Blk wr w.heap.size 27 (cellsU8 S).toArray) ∧ Kp (Blk wr (w.heap.size + 1) 29 PL.toArray) ∧ Kp (Below w.heap.size w wr)) (fun iv _ => l9.length - (intOf iv).toNat)
  case atStart => exact ⟨0, [], 0, 0, 0, Nat.zero_le _, rfl, by decide, by decide, kp (Nat.le_refl _), D_m, V_r, S_a, K_s, K_p, HB⟩
  case round =>
    clear D_m V_r S_a K_s K_p HB
    obtain ⟨j, L, k, cn, Ls, hj, rfl, hL3, hLs, HCN, D_m, V_r, S_a, K_s, K_p, HB⟩ := hrel
    by_cases hlt : j < l9.length
    · skip
      have i1 : (j : Int) < (l9.length : Int) := by omega
      have i2 : (0 : Int) ≤ (j : Int) := by omega
      obtain ⟨tb, to9, rfl, hbw, hh⟩ := HC.out (by intro e; subst e; simp at hlt)
      have hs1 := HB.out.cell (p := ⟨tb, to9 + j, none⟩) hbw
      rw [hh j _ (List.getElem?_eq_getElem hlt)] at hs1
      have htbw : tb < wr.heap.size := Nat.lt_of_lt_of_le hbw HB.out.size
      clear hh
      obtain ⟨t, ht⟩ : ∃ t, l9[j] = t := ⟨_, rfl⟩
      rw [ht] at hs1
      clear ht
      by_cases h300 : 300 < t.size
      · have i300 : (300 : Int) < (t.size : Int) := by omega
        have d300 : decide ((300 : Int) < (t.size : Int)) = true := decide_eq_true i300
        go_wp2
        go_ret
        exact ⟨rfl, HB.out⟩
      have i300 : ¬ (300 : Int) < (t.size : Int) := by omega
      have d300 : decide ((300 : Int) < (t.size : Int)) = false := decide_eq_false i300
      have hc0 := HCC.out
      have hse := sendE_in HM.out (i := 1) (Nat.le_refl 1) (show ((1 : Nat) : Int) ≤ (n : Int) by omega) (Int.le_refl 0) (show (0 : Int) < l by omega) (L := Ls) hLs (t := t) (by omega)
      rw [show s + (((1 : Nat) : Int) - 1) * l + 0 = s by simp] at hse
      have hKl := kp (show (goodPk (chK S) d n 1 t).length = 36 by rw [goodPk_eq]; exact pkL_length (tlK_length _ _ _))
      have hKo := kp (show ∀ v ∈ goodPk (chK S) d n 1 t, v.oneCell' = true by rw [goodPk_eq]; exact pkL_one _ _ _ _ _)
      have hT0 : tlN d 1 = 0 := by unfold tlN; omega
      have hpk : goodPk (chK S) d n 1 t = pkL 1 t (str (tagD (chK S (n - 1)) 1 t)) 0 zeroK := by
        rw [goodPk_eq, hT0]
        rfl
      have hgot := wR_got S n s l d HM.out L hL3 k t (by omega) hn16
      obtain ⟨PK, hPK⟩ : ∃ PK, goodPk (chK S) d n 1 t = PK := ⟨_, rfl⟩
      rw [hPK] at hKl hKo
      have HPK := kp hPK
      have cSe : Kp (∀ w', w.heap.size ≤ w'.heap.size → S1 w.heap.size w' b_a ⟨S, s, l, d, n⟩ Ls → Calls Tryz.prog 38 #[.pointer (some ⟨b_a, 0, none⟩), .int .i64 s, .string t] w' fun e w'' => e = .returned (.tuple #[.agg PK.toArray, .int .i64 0]) ∧ S1 w.heap.size w'' b_a ⟨S, s, l, d, n⟩ 1 ∧ MvT w.heap.size w' w'') := kp (fun w' hB h => by
        have h1 := L_SendV HOK.out h s (by omega) (by omega) t hB (by omega)
        have e1 : (SP.mk S s l d n).E Ls s t = 0 := hse.1
        obtain ⟨i9, _, _, _, _, _, hi9, hk⟩ := SP.good HOK.out e1
        have hji : i9 = 1 := hi9.symm.trans hse.2
        subst hji
        rw [e1, hi9, hk] at h1
        dsimp only at h1
        rw [hPK] at h1
        exact h1)
      obtain ⟨x, hx⟩ : ∃ x, (wN L k (bs t)).1 = x := ⟨_, rfl⟩
      obtain ⟨L2, hL2⟩ : ∃ x, (wN L k (bs t)).2.1 = x := ⟨_, rfl⟩
      obtain ⟨k2, hk2⟩ : ∃ x, (wN L k (bs t)).2.2 = x := ⟨_, rfl⟩
      rw [hx, hL2, hk2] at hgot
      have cGo : Kp (∀ w', w.heap.size ≤ w'.heap.size → VR w.heap.size j (fun k => k = gm) w' rb_r (wR S s l d n L k) → Calls Tryz.prog 31 #[.pointer (some ⟨rb_r, 0, none⟩), .agg PK.toArray, .int .i64 s] w' (WEnd w.heap.size (j + 1) (fun k => k = gm) w' rb_r ((wR S s l d n L2 k2, []), x))) := kp (fun w' hB h => by
        have h1 := W_Got (N := j) (by omega) h hB 1 t (str (tagD (chK S (n - 1)) 1 t)) 0 zeroK zeroK_length s (by decide)
        rw [hgot] at h1
        rw [← HPK.out, hpk]
        exact h1)
      obtain ⟨R2, hR2⟩ : ∃ R, wR S s l d n L2 k2 = R := ⟨_, rfl⟩
      have q1 : Kp (∀ w', VR w.heap.size (j + 1) (fun k => k = gm) w' rb_r R2 → Calls Tryz.prog 34 #[.pointer (some ⟨rb_r, 0, none⟩)] w' fun e w'' => e = .returned (.int .i64 (L2.length : Int)) ∧ w' = w'') := kp (fun w' h => by have h1 := W_Waits h; rw [← hR2] at h1; exact h1)
      have q2 : Kp (∀ w', VR w.heap.size (j + 1) (fun k => k = gm) w' rb_r R2 → Calls Tryz.prog 35 #[.pointer (some ⟨rb_r, 0, none⟩), .int .i64 1] w' fun e w'' => e = .returned (.int .i64 0) ∧ w' = w'') := kp (fun w' h => by have h1 := W_Believed h 1 (by decide); rw [← hR2] at h1; exact h1)
      have q3 : Kp (∀ w', VR w.heap.size (j + 1) (fun k => k = gm) w' rb_r R2 → Calls Tryz.prog 33 #[.pointer (some ⟨rb_r, 0, none⟩)] w' fun e w'' => e = .returned (.int .i64 0) ∧ w' = w'') := kp (fun w' h => by have h1 := W_At h; rw [← hR2] at h1; exact h1)
      rw [hR2] at cGo
      have HR2 := kp hR2
      have HX := kp hx
      have HL2 := kp hL2
      clear hgot hse hpk hT0 hPK hc0 hR2 hx hL2 hk2
      have x0 := K_p.out.atL xs.out
      have lp := K_p.out.lt
      go_upto_region 17 with (fail)
      go_wp2_with (fail)
      refine (cSe.out _ HB.out.size S_a.out).mono ?_
      rintro e w_54 ⟨rfl, hs_54, hm_54⟩
      have D_m := kp (D_m.out.mvT hm_54)
      have K_s := kp (hm_54.keep (by decide) (by decide) (by decide) (by decide) K_s.out)
      have K_p := kp (hm_54.keep (by decide) (by decide) (by decide) (by decide) K_p.out)
      have HB := kp (HB.out.trans hm_54.below)
      have V_r := kp (V_r.out.mvT hm_54)
      have S_a := kp hs_54
      clear hs_54 hm_54
      have hlen_55 := hKl.out
      have SC_55 := fun (cur : Array Value) (h : cur.size = 36) => sc_new (P := Tryz.prog) w_54 40 PK (hKo.out) cur (by rw [hlen_55]; exact h)
      have hge_x := kp HB.out.size
      clear x0 lp hs1 htbw d300
      have V_r := kp (V_r.out.bel (ba (Below.refl _ _) (.cells PK.toArray 40)))
      have D_m := kp (D_m.out.bel (ba (Below.refl _ _) (.cells PK.toArray 40)))
      have K_s := kp (K_s.out.alloc (.cells PK.toArray 40))
      have K_p := kp (K_p.out.alloc (.cells PK.toArray 40))
      have S_a := kp (S_a.out.bel (ba (Below.refl _ _) (.cells PK.toArray 40)))
      have HB := kp (ba HB.out (.cells PK.toArray 40))
      have K_x := kp (Blk.new w_54 40 PK.toArray)
      go_upto_region 18 with (fail)
      clear SC_55 hlen_55
      generalize w_54.alloc (.cells PK.toArray 40) = W_55 at K_s K_p K_x S_a V_r D_m HB ⊢
      generalize w_54.heap.size = b_x at K_x hge_x ⊢
      have L_x := ld_all (P := Tryz.prog) b_x 36 40 40 PK _ Tryz.underlying40 rfl info_pk hKl.out K_x.out
      have x0 := K_p.out.atL xs.out
      have lp := K_p.out.lt
      go_wp2_with (refine wpL_load rfl 40 _ rfl rfl L_x ?_)
      clear L_x x0 lp
      refine (cGo.out _ HB.out.size V_r.out).mono ?_
      rintro e w_56 ⟨ad_56, cp_56, rfl, hv_56, hm_56, hl_56⟩
      have K_s := kp (hm_56.keep (by decide) (by decide) K_s.out)
      have K_p := kp (hm_56.keep (by decide) (by decide) K_p.out)
      have K_x := kp (hm_56.keep (by decide) (by decide) K_x.out)
      have S_a := kp (hm_56.sd S_a.out)
      have D_m := kp (D_m.out.mvQ hm_56 rfl)
      have HB := kp (HB.out.trans hm_56.below)
      have V_r := kp hv_56
      clear hv_56 hm_56 hl_56
      clear K_x
      have hlk := D_m.out.drw.look t (by have : maxLen = 9223372036854775807 := rfl; omega)
      have hln := fun ty => D_m.out.len ty
      by_cases hin : bs t ∈ L
      · skip
        have eN : wN L k (bs t) = (11, L, k) := if_pos hin
        have e1 := HX.out
        rw [eN] at e1
        have e2 := HL2.out
        rw [eN] at e2
        dsimp only at e1 e2
        subst e1
        subst e2
        rw [decide_eq_true hin] at hlk
        clear eN HX HL2
        go_wp2_with (first | (go_at_call 34; refine (q1.out _ V_r.out).mono ?_; rintro e8 w8 ⟨rfl, rfl⟩) | (go_at_call 35; refine (q2.out _ V_r.out).mono ?_; rintro e8 w8 ⟨rfl, rfl⟩) | (go_at_call 33; refine (q3.out _ V_r.out).mono ?_; rintro e8 w8 ⟨rfl, rfl⟩))
        go_roundw
        case measure => simp [intOf]; omega
        case rel => exact ⟨j + 1, L, k2, cn, 1, by omega, by congr 1, hL3, Nat.le_refl _, kp (by have := HCN.out; omega), D_m, by rw [HR2.out]; exact V_r, S_a, K_s, K_p, HB⟩
      by_cases h3 : L.length = 3
      · skip
        have eN : wN L k (bs t) = (4, L, k + 1) := (if_neg hin).trans (if_pos h3)
        have e1 := HX.out
        rw [eN] at e1
        have e2 := HL2.out
        rw [eN] at e2
        dsimp only at e1 e2
        subst e1
        subst e2
        rw [decide_eq_false hin] at hlk
        have h3i : (L.length : Int) = 3 := by omega
        have h3d : ((L.length : Int) == 3) = true := by simp [h3i]
        clear eN HX HL2
        go_wp2_with (first | (go_at_call 34; refine (q1.out _ V_r.out).mono ?_; rintro e8 w8 ⟨rfl, rfl⟩) | (go_at_call 35; refine (q2.out _ V_r.out).mono ?_; rintro e8 w8 ⟨rfl, rfl⟩) | (go_at_call 33; refine (q3.out _ V_r.out).mono ?_; rintro e8 w8 ⟨rfl, rfl⟩))
        go_roundw
        case measure => simp [intOf]; omega
        case rel => exact ⟨j + 1, L, k2, cn, 1, by omega, by congr 1, hL3, Nat.le_refl _, kp (by have := HCN.out; omega), D_m, by rw [HR2.out]; exact V_r, S_a, K_s, K_p, HB⟩
      · skip
        have eN : wN L k (bs t) = (0, L ++ [bs t], k) := (if_neg hin).trans (if_neg h3)
        have e1 := HX.out
        rw [eN] at e1
        have e2 := HL2.out
        rw [eN] at e2
        dsimp only at e1 e2
        subst e1
        rw [decide_eq_false hin] at hlk
        have h3d : ((L.length : Int) == 3) = false := by simp; omega
        obtain ⟨w7, hr7, hd7, hg7⟩ := D_m.out.put t (by have : maxLen = 9223372036854775807 := rfl; omega) (by have := HCN.out; have : maxLen = 9223372036854775807 := rfl; omega) hin
        obtain ⟨es7, cl7, hmo7⟩ := D_m.out.mapO
        have V_r7 := kp (V_r.out.mapZ hg7 rfl)
        have S_a7 := kp (S_a.out.map hmo7 hg7)
        have K_s7 := kp (K_s.out.mapG hmo7 hg7)
        have K_p7 := kp (K_p.out.mapG hmo7 hg7)
        have HB7 : Kp (Below w.heap.size w w7) := kp (bgb HB.out hg7 HGM.out HB.out.size)
        have hL2l : L2.length ≤ 3 := by rw [← e2, List.length_append, List.length_singleton]; omega
        rw [e2] at hd7
        have D_m7 := kp hd7
        clear eN HX HL2 e2 hd7 hg7 hmo7
        go_upto_region 25 with (refine wpL_mapUpdate rfl 79 _ _ _ rfl rfl rfl rfl hr7 ?_)
        clear hlk hln hr7 V_r S_a K_s K_p HB D_m
        have V_r := V_r7
        have S_a := S_a7
        have K_s := K_s7
        have K_p := K_p7
        have HB := HB7
        have D_m := D_m7
        have hln := fun ty => D_m.out.len ty
        go_wp2_with (first | (go_at_call 34; refine (q1.out _ V_r.out).mono ?_; rintro e8 w8 ⟨rfl, rfl⟩) | (go_at_call 35; refine (q2.out _ V_r.out).mono ?_; rintro e8 w8 ⟨rfl, rfl⟩) | (go_at_call 33; refine (q3.out _ V_r.out).mono ?_; rintro e8 w8 ⟨rfl, rfl⟩))
        go_roundw
        case measure => simp [intOf]; omega
        case rel => exact ⟨j + 1, L2, k2, cn + 1, 1, by omega, by congr 1, hL2l, Nat.le_refl _, kp (by have := HCN.out; omega), D_m, by rw [HR2.out]; exact V_r, S_a, K_s, K_p, HB⟩
    · have hje : j = l9.length := by omega
      subst hje
      have i1 : ¬ ((l9.length : Int) < (l9.length : Int)) := by omega
      go_wp2
      go_ret
      exact ⟨rfl, HB.out⟩
end Go.Proofs.YtmblknknbbdmeaaGreat
