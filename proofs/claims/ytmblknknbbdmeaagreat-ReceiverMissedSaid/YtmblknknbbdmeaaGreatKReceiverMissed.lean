/- ReceiverMissed: the walk. -/
import Derived.Test.YtmblknknbbdmeaaGreatRcb13
namespace Go.Proofs.YtmblknknbbdmeaaGreat
open Go Go.RowKit
set_option linter.unusedVariables false
set_option linter.unusedSimpArgs false
attribute [local go_sem] bmax2 bmin2 bmax bmin cell_ext frozen_ext

theorem le17 {q m9 x y T i n : Nat} (h1 : q ≤ m9) (h2 : m9 + x = y) (h3 : y ≤ T) (h4 : T < i + 1) (h5 : i ≤ n) (h6 : n ≤ 16) : q ≤ 17 := by omega
theorem es_m {m9 x y T i n : Nat} (h2 : m9 + x = y) (h3 : y ≤ T) (h4 : T < i + 1) (h5 : i ≤ n) (h6 : n ≤ 16) : wrap64 ((x : Int) + (m9 : Int)) = (y : Int) := by
  rw [IntWalk.wrap64_in _ (by omega)]
  omega
theorem cnt_le (cm : Nat → Bool) : ∀ k, cntC cm k ≤ k
  | 0 => Nat.le_refl _
  | k + 1 => by
    have := cnt_le cm k
    unfold cntC
    split <;> omega
theorem c1_17 {c1 k1 T i n : Nat} (h : c1 ≤ k1 - 1) (h1 : k1 ≤ T + 1) (h4 : T < i + 1) (h5 : i ≤ n) (h6 : n ≤ 16) : c1 ≤ 17 ∧ k1 ≤ 18 ∧ i ≤ 16 := by omega
theorem k1_T {k1 T : Nat} (h : ¬ k1 ≤ T) (h2 : k1 ≤ T + 1) : k1 - 1 = T := by omega
theorem wrap_s {k : Nat} (h : k ≤ 40) : wrap64 ((k : Int) + 1) = ((k + 1 : Nat) : Int) := (IntWalk.wrap64_in _ (by omega)).trans (by omega)
set_option maxHeartbeats 8000000 in
set_option maxRecDepth 100000 in
theorem ReceiverMissed_walk (w : World) (S : List UInt8) (s l d c : Int) (ad : Option Addr) (cp : Nat) (lz : List Bool) (hS : S.length = 32) (b1 : (Lit.int .i64 s).wf = true ∧ (Lit.int .i64 l).wf = true ∧ (Lit.int .i64 d).wf = true ∧ (Lit.int .i64 c).wf = true) (b2 : lz.length ≤ maxLen ∧ HeldB w ad lz) :
    Calls Tryz.prog 10 #[keyV S, .agg (planL s l d c).toArray, .slice ad lz.length cp] w fun e w' => e = .returned (.bool true) ∧ Below w.heap.size w w' := by
  unfold keyV
  obtain ⟨bs9, bl9, bd9, bc9⟩ := b1
  have cM := kp (fun w' => P_May s l d c w')
  have HSL := kp hS
  have HPL := kp (planL_length s l d c)
  have HPO := kp (planL_one s l d c)
  have xc : Kp ((planL s l d c)[3]? = some (.int .i64 c)) := kp rfl
  have xs : Kp ((planL s l d c)[0]? = some (.int .i64 s)) := kp rfl
  obtain ⟨PL, hPL⟩ : ∃ PL, planL s l d c = PL := ⟨_, rfl⟩
  rw [hPL] at cM HPL HPO xc xs
  rw [hPL]
  have HPE := kp hPL
  clear hPL
  have K_s := kp ((Blk.new w 27 (cellsU8 S).toArray).alloc (.cells PL.toArray 29))
  have K_p := kp (Blk.new (w.alloc (.cells (cellsU8 S).toArray 27)) 29 PL.toArray)
  have HB := kp (ba (ba (Below.refl w.heap.size w) (.cells (cellsU8 S).toArray 27)) (.cells PL.toArray 29))
  rw [size_all] at K_p
  obtain ⟨hlm, hheld⟩ := b2
  have HHELD := kp hheld
  have hlm2 : lz.length ≤ 9223372036854775807 := hlm
  clear hlm hheld
  clear hS
  go_enter Tryz.func10, Tryz.ntmps10
  go_upto_region 1 with (fail)
  change Code.wp _ _ _ _ ((w.alloc (.cells (cellsU8 S).toArray 27)).alloc (.cells PL.toArray 29))
  generalize (w.alloc (.cells (cellsU8 S).toArray 27)).alloc (.cells PL.toArray 29) = W at K_s K_p HB ⊢
  go_wp2_with fail
  refine (receiver_awake _).mono ?_
  rintro e w_1 ⟨rfl, hb_1⟩
  have K_s := kp (K_s.out.bel hb_1)
  have K_p := kp (K_p.out.bel hb_1)
  have HB := kp (bt' HB.out hb_1 HB.out.size)
  clear hb_1
  have L_p := ld_all (P := Tryz.prog) (w.heap.size + 1) 4 29 29 PL _ Tryz.underlying29 rfl info_plan HPL.out K_p.out
  go_wp2_with (refine wpL_load rfl 29 _ rfl rfl L_p ?_)
  clear L_p
  refine (cM.out _).mono ?_
  rintro e w_2 ⟨rfl, hb_2⟩
  have K_s := kp (K_s.out.bel hb_2)
  have K_p := kp (K_p.out.bel hb_2)
  have HB := kp (bt' HB.out hb_2 HB.out.size)
  clear hb_2
  by_cases hm : mayP s l d c = true
  rotate_left
  · have hm : mayP s l d c = false := by simpa using hm
    rw [hm]
    go_wp2
    go_ret
    exact ⟨rfl, HB.out⟩
  rw [hm]
  have HM := kp hm
  clear hm cM
  have hcc := mayP_iff.1 HM.out
  have x3 := K_p.out.atL xc.out
  have lp := K_p.out.lt
  by_cases h16 : 16 < c
  · clear hcc
    have d16 : decide ((16 : Int) < c) = true := decide_eq_true h16
    go_wp2
    go_ret
    exact ⟨rfl, HB.out⟩
  have d16 : decide ((16 : Int) < c) = false := decide_eq_false h16
  have h16' : ¬ (16 : Int) < c := h16
  obtain ⟨n, hn⟩ : ∃ n : Nat, c = (n : Int) := ⟨c.toNat, by omega⟩
  have hok : (SP.mk S s l d n).Ok := ⟨HSL.out, by rw [← hn]; exact HM.out⟩
  have HN := kp hn
  have HPN := kp (HPE.out.symm.trans (by rw [hn]) : PL = planL s l d n)
  clear HPE
  have HCC := kp hcc
  have hn16 : n ≤ 16 := by omega
  have hn1 : 1 ≤ n := by omega
  clear hcc
  subst hn
  have c1 : Kp (∀ w', w.heap.size ≤ w'.heap.size → Calls Tryz.prog 36 #[.agg (cellsU8 S).toArray, .agg PL.toArray] w' fun e w'' => ∃ b, e = .returned (.tuple #[.pointer (some ⟨b, 0, none⟩), .int .i64 0]) ∧ S1 w.heap.size w'' b ⟨S, s, l, d, n⟩ 0 ∧ Below w'.heap.size w' w'') := kp (fun w' h => by rw [HPN.out]; exact L_New hok w' h)
  have HOK := kp hok
  clear hok
  have L_p := ld_all (P := Tryz.prog) (w.heap.size + 1) 4 29 29 PL _ Tryz.underlying29 rfl info_plan HPL.out K_p.out
  have L_s := ldK S HSL.out K_s.out
  go_wp2_with (first | (refine wpL_load rfl 29 _ rfl rfl L_p ?_) | (refine wpL_load rfl 27 _ rfl rfl L_s ?_))
  clear L_p L_s x3 lp d16
  refine (c1.out _ HB.out.size).mono ?_
  rintro e w_3 ⟨b_a, rfl, hs_3, hb_3⟩
  have K_s := kp (K_s.out.bel hb_3)
  have K_p := kp (K_p.out.bel hb_3)
  have HB := kp (bt' HB.out hb_3 HB.out.size)
  have S_a := kp hs_3
  clear hs_3 hb_3
  clear c1
  have hmN := HM.out
  have cK : Kp (∀ w', S1 w.heap.size w' b_a ⟨S, s, l, d, n⟩ 0 → Calls Tryz.prog 37 #[.pointer (some ⟨b_a, 0, none⟩)] w' fun e w'' => e = .returned (.agg (cellsU8 (chK S n)).toArray) ∧ Below w'.heap.size w' w'') := kp (fun w' h => by have h1 := L_Known HOK.out h; dsimp only at h1; exact h1)
  have cN : Kp (∀ w', w.heap.size ≤ w'.heap.size → Calls Tryz.prog 29 #[.agg (cellsU8 (chK S n)).toArray, .agg PL.toArray, .int .i64 16, .int .i64 2, .int .i64 16] w' fun e w'' => ∃ rb, e = .returned (.tuple #[.pointer (some ⟨rb, 0, none⟩), .int .i64 0]) ∧ VR w.heap.size 0 (fun _ => False) w'' rb (newRc (chK S n) s l d n 16 2 16) ∧ Below w'.heap.size w' w'') := kp (fun w' h => by rw [HPN.out]; exact W_New (chK S n) s l d n 16 2 16 (chK_length S n) hmN (by decide) (by decide) (by decide) w' h (fun k hk => hk.elim))
  clear hmN
  obtain ⟨R0, hR0⟩ : ∃ R, newRc (chK S n) s l d n 16 2 16 = R := ⟨_, rfl⟩
  rw [hR0] at cN
  have HR0 := kp hR0
  clear hR0
  obtain ⟨KN, hKN⟩ : ∃ K, cellsU8 (chK S n) = K := ⟨_, rfl⟩
  rw [hKN] at cK cN
  clear hKN
  go_upto_region 8 with (fail)
  have hdr : Below w_3.heap.size w_3 w_3.drew := (Below.refl _ _).drew
  refine wp_region_held (S := fun W' => Below w_3.heap.size w_3 W') (by kernel_rfl) ?_
  change wpAnyH _ _ _ _ _ 9 _ _ _
  refine takeAll (by kernel_rfl) (fun _ _ d _ _ h => by cases d <;> exact h) [(0, 42), (2, 44)] [.pointer (some ⟨b_a, 0, none⟩), .agg PL.toArray] _ _ _ 7 (by kernel_rfl)
    ⟨Or.inl ⟨by kernel_rfl, fun w9 hS9 => by kernel_rfl⟩, Or.inl ⟨by kernel_rfl, fun w9 hS9 => exec_load (ty := 29) (x := .tmp 4) (by kernel_rfl) (pv := .pointer (some ⟨w.heap.size + 1, 0, none⟩)) (by kernel_rfl) (ld_all (P := Tryz.prog) (w.heap.size + 1) 4 29 29 PL _ Tryz.underlying29 rfl info_plan HPL.out (K_p.out.bel hS9))⟩, trivial⟩ hdr ?_
  change wpAnyH _ _ _ _ _ [1, 3, 4, 5, 6, 7, 8].length _ _ _
  refine wpAnyH_of_seqE (by kernel_rfl) (fun _ _ d _ _ h => by cases d <;> exact h) [1, 3, 4, 5, 6, 7, 8] _ _ _ hdr (of_decide_eq_true (by kernel_rfl)) (by kernel_rfl) ?_
  refine stepS_call 43 (by kernel_rfl) (of_decide_eq_true (by kernel_rfl)) (by kernel_rfl) (f := 37) (args := #[.pointer (some ⟨b_a, 0, none⟩)]) (v := .agg KN.toArray) (by kernel_rfl) (cK.out _ (S_a.out.bel hdr)) (fun W' h => bt' hdr h hdr.size) ?_
  intro W1 hk1
  have hdr1 := bt' hdr hk1 hdr.size
  refine stepS_callE 45 (by kernel_rfl) (of_decide_eq_true (by kernel_rfl)) (by kernel_rfl) (f := 29) (args := #[.agg KN.toArray, .agg PL.toArray, .int .i64 16, .int .i64 2, .int .i64 16]) (C := fun v W' => ∃ rb, v = .tuple #[.pointer (some ⟨rb, 0, none⟩), .int .i64 0] ∧ VR w.heap.size 0 (fun _ => False) W' rb R0 ∧ Below w_3.heap.size w_3 W') (by kernel_rfl) ((cN.out W1 (Nat.le_trans HB.out.size hdr1.size)).mono (fun e W' ⟨rb, he, hv, hb⟩ => ⟨_, he, rb, rfl, hv, bt' hdr1 hb hdr1.size⟩)) (fun v W' ⟨_, _, _, h⟩ => h) ?_
  rintro v W2 ⟨rb_r, rfl, hv, hb2⟩
  refine stepS 41 (by kernel_rfl) (of_decide_eq_true (by kernel_rfl)) (by kernel_rfl) (v := .tuple #[.pointer (some ⟨rb_r, 0, none⟩), .int .i64 0]) (by kernel_rfl) hb2 ?_
  refine stepS 46 (by kernel_rfl) (of_decide_eq_true (by kernel_rfl)) (by kernel_rfl) (v := .pointer (some ⟨rb_r, 0, none⟩)) (by kernel_rfl) hb2 ?_
  refine stepS 47 (by kernel_rfl) (of_decide_eq_true (by kernel_rfl)) (by kernel_rfl) (v := .int .i64 0) (by kernel_rfl) hb2 ?_
  refine stepS 9 (by kernel_rfl) (of_decide_eq_true (by kernel_rfl)) (by kernel_rfl) (v := .pointer (some ⟨rb_r, 0, none⟩)) (by kernel_rfl) hb2 ?_
  refine stepS 10 (by kernel_rfl) (of_decide_eq_true (by kernel_rfl)) (by kernel_rfl) (v := .int .i64 0) (by kernel_rfl) hb2 ?_
  clear hdr hdr1 hk1 cK cN
  have K_s := kp (K_s.out.bel hb2)
  have K_p := kp (K_p.out.bel hb2)
  have S_a := kp (S_a.out.bel hb2)
  have HB := kp (bt' HB.out hb2 HB.out.size)
  have V_r := kp hv
  clear hv hb2
  unfold wpListS
  dsimp only [Exit.then, putAll, Act.put]
  simp only [List.setIfInBounds_toArray, List.set_cons_succ, List.set_cons_zero]
  have hMI := MI.start S n (by omega) s l d (bs ⟨#[116, 101, 120, 116]⟩) (fun k => (lz[k]?).getD false)
  rw [HR0.out] at hMI
  have HMI := kp hMI
  obtain ⟨cm, hcm⟩ : ∃ cm : Nat → Bool, (fun k => (lz[k]?).getD false) = cm := ⟨_, rfl⟩
  rw [hcm] at HMI
  have HCM : Kp (∀ k, cm k = (lz[k]?).getD false) := kp (fun k => by rw [← hcm])
  clear hMI HR0 hcm
  go_wp2
  go_loopw [11, 12] (fun tv iv wr => ∃ (i a Ls : Nat) (R : Rc), 1 ≤ i ∧ i ≤ n + 1 ∧ tv = .int .i64 (cntC cm a : Int) ∧ iv = .int .i64 (i : Int) ∧ Ls ≤ i ∧ a < i ∧ Kp (MI S n s l d (bs ⟨#[116, 101, 120, 116]⟩) cm i a R) ∧ Kp (VR w.heap.size i (fun _ => False) wr rb_r R) ∧ Kp (S1 w.heap.size wr b_a ⟨S, s, l, d, n⟩ Ls) ∧ Kp (Blk wr w.heap.size 27 (cellsU8 S).toArray) ∧ Kp (Blk wr (w.heap.size + 1) 29 PL.toArray) ∧ Kp (Below w.heap.size w wr)) (fun _ iv _ => n + 1 - (intOf iv).toNat)
  case atStart => exact ⟨1, 0, 0, R0, Nat.le_refl _, by omega, rfl, rfl, by omega, by omega, HMI, kp (V_r.out.mono (by omega)), S_a, K_s, K_p, HB⟩
  case round =>
    clear HMI V_r S_a K_s K_p HB
    obtain ⟨i, a, Ls, R, hi1, hi2', rfl, rfl, hLs, hai, HMI, V_r, S_a, K_s, K_p, HB⟩ := hrel
    have x3 := K_p.out.atL xc.out
    have lp := K_p.out.lt
    by_cases hlt : i ≤ n
    · skip
      have hi2 : i ≤ n := hlt
      have ii : (i : Int) ≤ (n : Int) := by omega
      have di : decide ((i : Int) ≤ (n : Int)) = true := decide_eq_true ii
      have htz : (⟨#[116, 101, 120, 116]⟩ : ByteArray).size = 4 := rfl
      have hbeg := beg_in HM.out (show (1 : Int) ≤ (i : Int) by omega) (show (i : Int) ≤ (n : Int) + 1 by omega)
      obtain ⟨bg, hbg⟩ : ∃ bg, s + ((i : Int) - 1) * l = bg := ⟨_, rfl⟩
      have hc0 := HCC.out
      have hse := sendE_in HM.out hi1 (show (i : Int) ≤ (n : Int) by omega) (Int.le_refl 0) (show (0 : Int) < l by omega) (L := Ls) hLs (t := ⟨#[116, 101, 120, 116]⟩) (by omega)
      rw [Int.add_zero, hbg] at hse
      have cBg : Kp (∀ w', Calls Tryz.prog 41 #[.agg PL.toArray, .int .i64 (i : Int)] w' fun e w'' => e = .returned (.tuple #[.int .i64 bg, .int .i64 0]) ∧ Below w'.heap.size w' w'') := kp (fun w' => by
        have h1 := P_Begins s l d n (i : Int) w'
        rw [show beginsV s l d n (i : Int) = .tuple #[.int .i64 bg, .int .i64 0] by unfold beginsV; rw [if_pos ⟨HM.out, by omega, by omega⟩, hbg]] at h1
        rw [HPN.out]
        exact h1)
      have hKl := kp (show (goodPk (chK S) d n i ⟨#[116, 101, 120, 116]⟩).length = 36 by rw [goodPk_eq]; exact pkL_length (tlK_length _ _ _))
      have hKo := kp (show ∀ v ∈ goodPk (chK S) d n i ⟨#[116, 101, 120, 116]⟩, v.oneCell' = true by rw [goodPk_eq]; exact pkL_one _ _ _ _ _)
      obtain ⟨PK, hPK⟩ : ∃ PK, goodPk (chK S) d n i ⟨#[116, 101, 120, 116]⟩ = PK := ⟨_, rfl⟩
      rw [hPK] at hKl hKo
      have HPK := kp hPK
      have HTL : Kp ((tlN d i : Int) ≤ 9223372036854775807) := kp (by unfold tlN; omega)
      have cSe : Kp (∀ w', w.heap.size ≤ w'.heap.size → S1 w.heap.size w' b_a ⟨S, s, l, d, n⟩ Ls → Calls Tryz.prog 38 #[.pointer (some ⟨b_a, 0, none⟩), .int .i64 bg, .string ⟨#[116, 101, 120, 116]⟩] w' fun e w'' => e = .returned (.tuple #[.agg PK.toArray, .int .i64 0]) ∧ S1 w.heap.size w'' b_a ⟨S, s, l, d, n⟩ i ∧ MvT w.heap.size w' w'') := kp (fun w' hB h => by
        have h1 := L_SendV HOK.out h bg (by omega) (by omega) ⟨#[116, 101, 120, 116]⟩ hB (by omega)
        have e1 : (SP.mk S s l d n).E Ls bg ⟨#[116, 101, 120, 116]⟩ = 0 := hse.1
        obtain ⟨j, _, _, _, _, _, hj, hk⟩ := SP.good HOK.out e1
        have hji : j = i := hj.symm.trans hse.2
        subst hji
        rw [e1, hj, hk] at h1
        dsimp only at h1
        rw [hPK] at h1
        exact h1)
      have HBG := kp hbg
      clear hbeg hc0 hse hPK hbg
      have L_p := ld_all (P := Tryz.prog) (w.heap.size + 1) 4 29 29 PL _ Tryz.underlying29 rfl info_plan HPL.out K_p.out
      go_wp2_with (refine wpL_load rfl 29 _ rfl rfl L_p ?_)
      clear L_p di x3 lp
      refine (cBg.out _).mono ?_
      rintro e w_54 ⟨rfl, hb_54⟩
      have V_r := kp (V_r.out.bel hb_54)
      have K_s := kp (K_s.out.bel hb_54)
      have K_p := kp (K_p.out.bel hb_54)
      have S_a := kp (S_a.out.bel hb_54)
      have HB := kp (bt' HB.out hb_54 HB.out.size)
      clear hb_54
      go_wp2_with fail
      refine (cSe.out _ HB.out.size S_a.out).mono ?_
      rintro e w_55 ⟨rfl, hs_55, hm_55⟩
      have K_s := kp (hm_55.keep (by decide) (by decide) (by decide) (by decide) K_s.out)
      have K_p := kp (hm_55.keep (by decide) (by decide) (by decide) (by decide) K_p.out)
      have HB := kp (HB.out.trans hm_55.below)
      have V_r := kp (V_r.out.mvT hm_55)
      have S_a := kp hs_55
      clear hs_55 hm_55
      have hlen_56 := hKl.out
      have SC_56 := fun (cur : Array Value) (h : cur.size = 36) => sc_new (P := Tryz.prog) w_55 40 PK (hKo.out) cur (by rw [hlen_56]; exact h)
      have hge_x := kp HB.out.size
      have V_r := kp (V_r.out.bel (ba (Below.refl _ _) (.cells PK.toArray 40)))
      have K_s := kp (K_s.out.alloc (.cells PK.toArray 40))
      have K_p := kp (K_p.out.alloc (.cells PK.toArray 40))
      have S_a := kp (S_a.out.bel (ba (Below.refl _ _) (.cells PK.toArray 40)))
      have HB := kp (ba HB.out (.cells PK.toArray 40))
      have K_x := kp (Blk.new w_55 40 PK.toArray)
      go_upto_region 19 with (fail)
      clear SC_56 hlen_56
      generalize w_55.alloc (.cells PK.toArray 40) = W_56 at K_s K_p K_x S_a V_r HB ⊢
      generalize w_55.heap.size = b_x at K_x hge_x ⊢
      have hcmi := HCM.out i
      have ew : wrap64 ((i : Int) + 1) = ((i + 1 : Nat) : Int) := (IntWalk.wrap64_in _ (by omega)).trans (by omega)
      by_cases hil : i < lz.length
      rotate_left
      · have hcf : cm i = false := by rw [hcmi, List.getElem?_eq_none (by omega)]; rfl
        have i4 : (lz.length : Int) ≤ (i : Int) := by omega
        have d4 : decide ((lz.length : Int) ≤ (i : Int)) = true := decide_eq_true i4
        clear K_x
        go_wp2
        go_roundw
        case measure => simp [intOf]; omega
        case rel => exact ⟨i + 1, a, i, R, by omega, by omega, rfl, by congr 1, by omega, by omega, kp (HMI.out.skip hcf), kp (V_r.out.mono (by omega)), S_a, K_s, K_p, HB⟩
      obtain ⟨tb, to9, rfl, hbw, hh⟩ := HHELD.out (by intro e; subst e; simp at hil)
      have hs1 := HB.out.cell (p := ⟨tb, to9 + i, none⟩) hbw
      rw [hh i _ (List.getElem?_eq_getElem hil)] at hs1
      have htbw := kp hbw
      have HH := kp hh
      have i4 : ¬ (lz.length : Int) ≤ (i : Int) := by omega
      have d4 : decide ((lz.length : Int) ≤ (i : Int)) = false := decide_eq_false i4
      have i5 : (0 : Int) ≤ (i : Int) := by omega
      have i6 : (i : Int) < (lz.length : Int) := by omega
      have htw : tb < W_56.heap.size := Nat.lt_of_lt_of_le hbw HB.out.size
      rw [List.getElem?_eq_getElem hil, Option.getD_some] at hcmi
      clear hh hbw
      cases hci : lz[i] with
      | false =>
        rw [hci] at hs1 hcmi
        have hcf : cm i = false := hcmi
        clear K_x
        go_wp2
        go_roundw
        case measure => simp [intOf]; omega
        case rel => exact ⟨i + 1, a, i, R, by omega, by omega, rfl, by congr 1, by omega, by omega, kp (HMI.out.skip hcf), kp (V_r.out.mono (by omega)), S_a, K_s, K_p, HB⟩
      | true =>
        rw [hci] at hs1 hcmi
        clear hci
        obtain ⟨R2, out, hg, hM2, hlen, hyy⟩ := HMI.out.step HM.out hn16 hi1 hi2 hcmi ⟨#[116, 101, 120, 116]⟩ rfl (by decide)
        have hbg2 : s + ((i : Int) - 1) * l = bg := HBG.out
        rw [hbg2] at hg
        have hc0 := HCC.out
        have hTi : tlN d i < i + 1 := by unfold tlN; omega
        clear hc0
        have hcT : cntC cm (tlN d i) ≤ tlN d i := by have h1 := lstC_length cm 0 (tlN d i); have h2 := lstC_le cm 0 (tlN d i); rw [show min 0 (tlN d i) = 0 by omega] at h1; change _ + 0 = _ at h1; omega
        obtain ⟨T, hT⟩ : ∃ T, tlN d i = T := ⟨_, rfl⟩
        have hpk : PK = pkL (i : Int) ⟨#[116, 101, 120, 116]⟩ (str (tagD (chK S (n - i)) (i : Int) ⟨#[116, 101, 120, 116]⟩)) (T : Int) (tlK S n T) := by rw [← HPK.out, goodPk_eq, hT]
        rw [hT] at hg hM2 hlen hyy hTi hcT
        have cGo : Kp (∀ w', w.heap.size ≤ w'.heap.size → VR w.heap.size i (fun _ => False) w' rb_r R → Calls Tryz.prog 31 #[.pointer (some ⟨rb_r, 0, none⟩), .agg PK.toArray, .int .i64 bg] w' (WEnd w.heap.size (i + 1) (fun _ => False) w' rb_r ((R2, out), 0))) := kp (fun w' hB h => by
          have h1 := W_Got (N := i) (by omega) h hB (i : Int) ⟨#[116, 101, 120, 116]⟩ (str (tagD (chK S (n - i)) (i : Int) ⟨#[116, 101, 120, 116]⟩)) (T : Int) (tlK S n T) (tlK_length _ _ _) bg (by omega)
          rw [hg] at h1
          rw [hpk]
          exact h1)
        have hRa := hM2.at_
        have q3 : Kp (∀ w', VR w.heap.size (i + 1) (fun _ => False) w' rb_r R2 → Calls Tryz.prog 33 #[.pointer (some ⟨rb_r, 0, none⟩)] w' fun e w'' => e = .returned (.int .i64 (T : Int)) ∧ w' = w'') := kp (fun w' h => by have h1 := W_At h; rw [hRa] at h1; exact h1)
        have HM2 := kp hM2
        have HLEN := kp hlen
        have HYY := kp hyy
        have p3 : Kp (PK[3]? = some (.int .i64 (T : Int))) := kp (by rw [hpk]; rfl)
        clear hg hM2 hlen hyy hRa hpk hT hbg2
        have L_x := ld_all (P := Tryz.prog) b_x 36 40 40 PK _ Tryz.underlying40 rfl info_pk hKl.out K_x.out
        go_upto_region 20 with (fail)
        clear hs1 htw
        go_wp2_with (refine wpL_load rfl 40 _ rfl rfl L_x ?_)
        clear L_x
        refine (cGo.out _ HB.out.size V_r.out).mono ?_
        rintro e w_57 ⟨ad_57, cp_57, rfl, hv_57, hm_57, hl_57⟩
        have hl_57 := kp (hl_57.mono HB.out.size)
        have K_s := kp (hm_57.keep (by decide) (by decide) K_s.out)
        have K_p := kp (hm_57.keep (by decide) (by decide) K_p.out)
        have K_x := kp (hm_57.keep (by decide) (by decide) K_x.out)
        have S_a := kp (hm_57.sd S_a.out)
        have HB := kp (HB.out.trans hm_57.below)
        have V_r := kp hv_57
        have L_o := hl_57
        clear hv_57 hm_57 hl_57
        go_upto_region 21 with (fail)
        have y3 := K_x.out.atL p3.out
        have lx := K_x.out.lt
        have hmx : max (T : Int) 0 = (T : Int) := by omega
        have HV := kp (fun x => V_r.out.bel (ext_below w_57 x))
        refine wp_region_ext [0, 1, 2, 3, 4, 5, 6, 7, 8, 9, 10, 11, 12, 13] [14] (by kernel_rfl) (by kernel_rfl) ?_
        simp only [List.append_eq, List.cons_append, List.nil_append, List.map_cons, List.map_nil, List.getD_cons_succ, List.getD_cons_zero]
        repeat (first
          | go_big_quiet_step (first | (go_at_call 33; with_reducible exact Calls.ext_same (q3.out _ (HV.out _)))))
        refine wpQuiet_nil ?_
        rintro z
        have hbz := ext_below w_57 z
        have V_r := kp (V_r.out.bel hbz)
        have L_o := kp (L_o.out.bel hbz)
        have K_s := kp (K_s.out.bel hbz)
        have K_p := kp (K_p.out.bel hbz)
        have K_x := kp (K_x.out.bel hbz)
        have S_a := kp (S_a.out.bel hbz)
        have HB := kp (bt' HB.out hbz HB.out.size)
        clear hbz y3 lx HV hmx
        generalize w_57.ext z = W6 at K_s K_p K_x S_a V_r L_o HB ⊢
        go_wp2
        obtain ⟨m9, hm9⟩ : ∃ m9, out.length = m9 := ⟨_, rfl⟩
        have HM9 := kp hm9
        rw [hm9] at L_o ⊢
        have hm9c : m9 + cntC cm a = cntC cm T := by rw [← hm9]; exact HLEN.out
        clear hm9
        go_loopw [105] (fun iv wr => ∃ q : Nat, q ≤ m9 ∧ iv = .int .i64 (q : Int) ∧ Kp (VR w.heap.size (i + 1) (fun _ => False) wr rb_r R2) ∧ Kp (S1 w.heap.size wr b_a ⟨S, s, l, d, n⟩ i) ∧ Kp (Blk wr w.heap.size 27 (cellsU8 S).toArray) ∧ Kp (Blk wr (w.heap.size + 1) 29 PL.toArray) ∧ Kp (Blk wr b_x 40 PK.toArray) ∧ Kp (Rw w.heap.size wr 71 2 ad_57 m9 cp_57 (thL out)) ∧ Kp (Below w.heap.size w wr)) (fun iv _ => m9 - (intOf iv).toNat)
        case atStart => exact ⟨0, Nat.zero_le _, rfl, V_r, S_a, K_s, K_p, K_x, L_o, HB⟩
        case round =>
          clear V_r S_a K_s K_p K_x L_o HB
          obtain ⟨q, hq, rfl, V_r, S_a, K_s, K_p, K_x, L_o, HB⟩ := hrel
          by_cases hqm : q < m9
          · skip
            obtain ⟨gq, oq, had, hgq1, hgq⟩ := L_o.out.some_ (by omega)
            subst had
            have hql : q < out.length := by rw [HM9.out]; exact hqm
            obtain ⟨k, hy, hk1, hkT, hck⟩ := HYY.out _ (List.getElem_mem hql)
            have hto : out[q]? = some ((k : Int), bs ⟨#[116, 101, 120, 116]⟩) := by rw [List.getElem?_eq_getElem hql, hy]
            have LT := ld_row (P := Tryz.prog) (w := wr) gq (oq + q * 2) 2 71 (thC ((k : Int), bs ⟨#[116, 101, 120, 116]⟩)) _ Tryz.underlying71 rfl info_thg rfl (fun j v hv => by
              have h := L_o.out.elem (es := out.map thC) (fun e he => by obtain ⟨y, _, rfl⟩ := List.mem_map.1 he; rfl) (k := q) (e := thC ((k : Int), bs ⟨#[116, 101, 120, 116]⟩)) (by rw [List.getElem?_map, hto]; rfl) hv
              rw [Nat.add_assoc]
              exact h)
            have hcmk := HCM.out k
            rw [hck] at hcmk
            have hkz : k < lz.length := by
              rcases Nat.lt_or_ge k lz.length with h | h
              · exact h
              · rw [List.getElem?_eq_none h] at hcmk; exact absurd hcmk (by decide)
            rw [List.getElem?_eq_getElem hkz, Option.getD_some] at hcmk
            have hs2 := HB.out.cell (p := ⟨tb, to9 + k, none⟩) htbw.out
            rw [HH.out k _ (List.getElem?_eq_getElem hkz)] at hs2
            have htw : tb < wr.heap.size := Nat.lt_of_lt_of_le htbw.out HB.out.size
            have j1 : (q : Int) < (m9 : Int) := by omega
            have j2 : (0 : Int) ≤ (q : Int) := by omega
            obtain ⟨TC, hTC⟩ : ∃ TC, thC ((k : Int), bs ⟨#[116, 101, 120, 116]⟩) = TC := ⟨_, rfl⟩
            have hTL : Kp (TC.length = 2) := kp (by rw [← hTC]; rfl)
            have hTO : Kp (∀ v ∈ TC, v.oneCell' = true) := kp (by rw [← hTC]; exact thC_one _)
            have t0 : Kp (TC[0]? = some (.int .i64 (k : Int))) := kp (by rw [← hTC]; rfl)
            have t1 : Kp (TC[1]? = some (.string ⟨#[116, 101, 120, 116]⟩)) := kp (by rw [← hTC]; rfl)
            rw [hTC] at LT
            have hzk : lz[k] = true := hcmk.symm
            clear hTC hy hto hql hgq1 hgq hcmk hck hs2
            have hlen_108 := hTL.out
            have SC_108 := fun (cur : Array Value) (h : cur.size = 2) => sc_new (P := Tryz.prog) wr 71 TC (hTO.out) cur (by rw [hlen_108]; exact h)
            have hge_t := kp HB.out.size
            have V_r := kp (V_r.out.bel (ba (Below.refl _ _) (.cells TC.toArray 71)))
            have L_o := kp (L_o.out.bel (ba (Below.refl _ _) (.cells TC.toArray 71)))
            have K_s := kp (K_s.out.alloc (.cells TC.toArray 71))
            have K_p := kp (K_p.out.alloc (.cells TC.toArray 71))
            have K_x := kp (K_x.out.alloc (.cells TC.toArray 71))
            have S_a := kp (S_a.out.bel (ba (Below.refl _ _) (.cells TC.toArray 71)))
            have HB := kp (ba HB.out (.cells TC.toArray 71))
            have K_t := kp (Blk.new wr 71 TC.toArray)
            go_upto_region 26 with (refine wpL_load rfl 71 _ rfl rfl LT ?_)
            clear SC_108 hlen_108
            generalize wr.alloc (.cells TC.toArray 71) = W_108 at K_s K_p K_x K_t S_a V_r L_o HB ⊢
            generalize wr.heap.size = b_t at K_t hge_t ⊢
            clear LT
            have hs2 := HB.out.cell (p := ⟨tb, to9 + k, none⟩) htbw.out
            rw [HH.out k _ (List.getElem?_eq_getElem hkz), hzk] at hs2
            have u0 := K_t.out.atL t0.out
            have u1 := K_t.out.atL t1.out
            have lt9 := K_t.out.lt
            have y3 := K_x.out.atL p3.out
            have lx := K_x.out.lt
            have htw : tb < W_108.heap.size := Nat.lt_of_lt_of_le htbw.out HB.out.size
            have g1 : ¬ (T : Int) < (k : Int) := by omega
            have g2 : ¬ (lz.length : Int) ≤ (k : Int) := by omega
            have g3 : decide ((T : Int) < (k : Int)) = false := decide_eq_false g1
            have g4 : decide ((lz.length : Int) ≤ (k : Int)) = false := decide_eq_false g2
            have g5 : (k : Int) < (lz.length : Int) := by omega
            have g6 : (0 : Int) ≤ (k : Int) := by omega
            clear HH HCM HYY HHELD
            refine wp_region_extP 25 ?_
            simp only [List.append_eq, List.cons_append, List.nil_append, List.take_succ_cons, List.take_zero, List.drop_succ_cons, List.drop_zero, List.take_nil, List.drop_nil]
            repeat go_big_quiet_step (fail)
            refine wpQuiet_nil ?_
            rintro z
            have hbz := ext_below W_108 z
            have V_r := kp (V_r.out.bel hbz)
            have L_o := kp (L_o.out.bel hbz)
            have K_s := kp (K_s.out.bel hbz)
            have K_p := kp (K_p.out.bel hbz)
            have K_x := kp (K_x.out.bel hbz)
            have K_t := kp (K_t.out.bel hbz)
            have S_a := kp (S_a.out.bel hbz)
            have HB := kp (bt' HB.out hbz HB.out.size)
            clear hbz hs2 u0 u1 lt9 y3 lx htw
            generalize W_108.ext z = W8 at K_s K_p K_x K_t S_a V_r L_o HB ⊢
            have HQM := kp hqm
            have hq17 : q ≤ 17 := le17 hq hm9c hcT hTi hi2 hn16
            clear hqm hq hm9c g1 g2 g3 g4 g5 g6 hk1 hkT hkz j1 j2 hzk hge_t t0 t1 hTL hTO K_t hTi hcT
            go_wp2
            go_roundw
            case measure => have := HQM.out; simp [intOf]; omega
            case rel => exact ⟨q + 1, HQM.out, by congr 1, V_r, S_a, K_s, K_p, K_x, L_o, HB⟩
          · have hqe : m9 = q := by omega
            subst hqe
            have j1 : ¬ ((m9 : Int) < (m9 : Int)) := by omega
            have es : wrap64 ((cntC cm a : Int) + (m9 : Int)) = (cntC cm T : Int) := es_m hm9c hcT hTi hi2 hn16
            have y3 := K_x.out.atL p3.out
            have lx := K_x.out.lt
            have htw : tb < wr.heap.size := Nat.lt_of_lt_of_le htbw.out HB.out.size
            have HCK : Kp (∀ k, k < lz.length → ∀ b, lz[k]? = some b → wr.cell? ⟨tb, to9 + k, none⟩ = some (.bool b)) := kp (fun k hk b hb => by
              have h := HB.out.cell (p := ⟨tb, to9 + k, none⟩) htbw.out
              rw [HH.out k _ hb] at h
              exact h)
            have HM2' := HM2
            have HCM' := HCM
            clear HH HYY HHELD hm9c
            go_wp2
            go_loop [21, 22] (fun wv kv => ∃ k1 : Nat, 1 ≤ k1 ∧ k1 ≤ T + 1 ∧ wv = .int .i64 (cntC cm (k1 - 1) : Int) ∧ kv = .int .i64 (k1 : Int)) (fun _ kv => T + 1 - (intOf kv).toNat)
            case atStart => exact ⟨1, Nat.le_refl _, Nat.le_add_left 1 T, rfl, rfl⟩
            case round =>
              obtain ⟨k1, hk1, hkT, rfl, rfl⟩ := hrel
              obtain ⟨c1, hc1⟩ : ∃ c1, cntC cm (k1 - 1) = c1 := ⟨_, rfl⟩
              rw [hc1]
              have hcl : c1 ≤ k1 - 1 := by rw [← hc1]; exact cnt_le cm _
              have hc1b := c1_17 hcl hkT hTi hi2 hn16
              clear hcl
              have HB17 := kp hc1b
              clear hc1b
              by_cases hkl : k1 ≤ T
              · have hnx : cntC cm k1 = c1 + if cm k1 = true then 1 else 0 := by
                  have e : k1 = (k1 - 1) + 1 := (Nat.sub_add_cancel hk1).symm
                  rw [← hc1]
                  conv => lhs; rw [e]
                  show cntC cm (k1 - 1) + _ = _
                  rw [← e]
                have HNX := kp hnx
                have HC1 := kp hc1
                have f1 : (k1 : Int) ≤ (T : Int) := Int.ofNat_le.2 hkl
                have f2 : decide ((k1 : Int) ≤ (T : Int)) = true := decide_eq_true f1
                have f3 : (0 : Int) ≤ (k1 : Int) := Int.natCast_nonneg _
                have f7 : (k1 : Int) ≤ 18 := Int.ofNat_le.2 HB17.out.2.1
                have f8 : (c1 : Int) ≤ 17 := Int.ofNat_le.2 HB17.out.1
                have HKL := kp hkl
                have hck := HCM.out k1
                clear hnx hc1 es
                by_cases hkz : k1 < lz.length
                · have f4 : (k1 : Int) < (lz.length : Int) := Int.ofNat_lt.2 hkz
                  have f5 : decide ((k1 : Int) < (lz.length : Int)) = true := decide_eq_true f4
                  rw [List.getElem?_eq_getElem hkz, Option.getD_some] at hck
                  have hs3 := HCK.out k1 hkz _ (List.getElem?_eq_getElem hkz)
                  cases hv : lz[k1] with
                  | true =>
                    rw [hv] at hs3 hck
                    have hcn : cntC cm k1 = c1 + 1 := by rw [HNX.out, if_pos hck]
                    clear hv hck HCK HCM HM2 hkl hcT hTi
                    go_wp2
                    go_round
                    case measure => have := HKL.out; simp [intOf]; omega
                    case rel => exact ⟨k1 + 1, Nat.le_add_left 1 k1, Nat.succ_le_succ HKL.out, by rw [Nat.add_sub_cancel, hcn] <;> rfl, rfl⟩
                  | false =>
                    rw [hv] at hs3 hck
                    have hcn : cntC cm k1 = c1 := by rw [HNX.out, if_neg (by rw [hck]; decide)]; rfl
                    clear hv hck HCK HCM HM2 hkl hcT hTi
                    go_wp2
                    go_round
                    case measure => have := HKL.out; simp [intOf]; omega
                    case rel => exact ⟨k1 + 1, Nat.le_add_left 1 k1, Nat.succ_le_succ HKL.out, by rw [Nat.add_sub_cancel, hcn] <;> rfl, rfl⟩
                · have f4 : ¬ (k1 : Int) < (lz.length : Int) := fun h => hkz (Int.ofNat_lt.1 h)
                  have f5 : decide ((k1 : Int) < (lz.length : Int)) = false := decide_eq_false f4
                  rw [List.getElem?_eq_none (Nat.le_of_not_lt hkz)] at hck
                  have hck' : cm k1 = false := hck
                  have hcn : cntC cm k1 = c1 := by rw [HNX.out, if_neg (by rw [hck']; decide)]; rfl
                  clear hck hck' HCK HCM HM2 hkl hcT hTi
                  go_wp2
                  go_round
                  case measure => have := HKL.out; simp [intOf]; omega
                  case rel => exact ⟨k1 + 1, Nat.le_add_left 1 k1, Nat.succ_le_succ HKL.out, by rw [Nat.add_sub_cancel, hcn] <;> rfl, rfl⟩
              · have f1 : ¬ (k1 : Int) ≤ (T : Int) := fun h => hkl (Int.ofNat_le.1 h)
                have f2 : decide ((k1 : Int) ≤ (T : Int)) = false := decide_eq_false f1
                have hce : c1 = cntC cm T := by rw [← hc1, show k1 - 1 = T from k1_T hkl hkT]
                subst hce
                have f9 : (i : Int) ≤ 16 := Int.ofNat_le.2 HB17.out.2.2
                have f6 : ((cntC cm T : Int) != (cntC cm T : Int)) = false := by simp
                clear HCK HCM hc1 hkl hk1 hkT hcT es
                go_wp2
                go_roundw
                case measure => simp [intOf]; omega
                case rel => exact ⟨i + 1, T, i, R2, by omega, by omega, rfl, by congr 1, by omega, by omega, HM2, V_r, S_a, K_s, K_p, HB⟩
    · have hie : i = n + 1 := by omega
      have ii : ¬ (i : Int) ≤ (n : Int) := by omega
      have di : decide ((i : Int) ≤ (n : Int)) = false := decide_eq_false ii
      go_wp2
      go_ret
      exact ⟨rfl, HB.out⟩
end Go.Proofs.YtmblknknbbdmeaaGreat
