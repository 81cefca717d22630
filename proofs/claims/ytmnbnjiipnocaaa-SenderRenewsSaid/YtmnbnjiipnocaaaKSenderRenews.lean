/- SenderRenews: the walk. -/
import Derived.Test.YtmnbnjiipnocaaaSb10
namespace Go.Proofs.Ytmnbnjiipnocaaa
open Go Go.RowKit
set_option linter.unusedVariables false
set_option linter.unusedSimpArgs false
attribute [local go_sem] bmax2 bmin2 bmax bmin cell_ext frozen_ext

set_option maxHeartbeats 8000000 in
set_option maxRecDepth 100000 in
theorem SenderRenews_walk (w : World) (S : List UInt8) (s l d c : Int) (t : ByteArray) (hS : S.length = 32) (b1 : (Lit.int .i64 s).wf = true ∧ (Lit.int .i64 l).wf = true ∧ (Lit.int .i64 d).wf = true ∧ (Lit.int .i64 c).wf = true) (b2 : t.size ≤ maxLen) :
    Calls Try.prog 7 #[keyV S, .agg (planL s l d c).toArray, .string t] w fun e w' => e = .returned (.bool true) ∧ Below w.heap.size w w' := by
  unfold keyV
  obtain ⟨bs, bl, bd, bc⟩ := b1
  have cM := kp (fun w' => P_May s l d c w')
  have HSL := kp hS
  have HPL := kp (planL_length s l d c)
  have HPO := kp (planL_one s l d c)
  have xc : Kp ((planL s l d c)[3]? = some (.int .i64 c)) := kp rfl
  have xd : Kp ((planL s l d c)[2]? = some (.int .i64 d)) := kp rfl
  have xl : Kp ((planL s l d c)[1]? = some (.int .i64 l)) := kp rfl
  have xs : Kp ((planL s l d c)[0]? = some (.int .i64 s)) := kp rfl
  have HPP := kp (show planL s l d c = planL s l d c from rfl)
  obtain ⟨PL, hPL⟩ : ∃ PL, planL s l d c = PL := ⟨_, rfl⟩
  rw [hPL] at cM HPL HPO xc xd xl xs
  rw [hPL]
  have HPE := kp hPL
  clear hPL HPP
  have K_s := kp ((Blk.new w 23 (cellsU8 S).toArray).alloc (.cells PL.toArray 25))
  have K_p := kp (Blk.new (w.alloc (.cells (cellsU8 S).toArray 23)) 25 PL.toArray)
  have HB := kp (ba (ba (Below.refl w.heap.size w) (.cells (cellsU8 S).toArray 23)) (.cells PL.toArray 25))
  rw [size_all] at K_p

  clear hS
  go_enter Try.func7, Try.ntmps7
  go_upto_region 1 with (fail)
  change Code.wp _ _ _ _ ((w.alloc (.cells (cellsU8 S).toArray 23)).alloc (.cells PL.toArray 25))
  generalize (w.alloc (.cells (cellsU8 S).toArray 23)).alloc (.cells PL.toArray 25) = W at K_s K_p HB ⊢
  go_wp2_with fail
  refine (sender_awake _).mono ?_
  rintro e w_1 ⟨rfl, hb_1⟩
  have K_s := kp (K_s.out.bel hb_1)
  have K_p := kp (K_p.out.bel hb_1)
  have HB := kp (bt' HB.out hb_1 HB.out.size)
  clear hb_1
  have L_p := ld_all (P := Try.prog) (w.heap.size + 1) 4 25 25 PL _ Try.underlying25 rfl info_plan HPL.out K_p.out
  go_wp2_with (refine wpL_load rfl 25 _ rfl rfl L_p ?_)
  clear L_p
  refine (cM.out _).mono ?_
  rintro e w_2 ⟨rfl, hb_2⟩
  have K_s := kp (K_s.out.bel hb_2)
  have K_p := kp (K_p.out.bel hb_2)
  have HB := kp (bt' HB.out hb_2 HB.out.size)
  clear hb_2
  by_cases hm : mayP s l d c = true
  rotate_left
  · have hm : mayP s l d c = false := by simpa using hm
    rw [hm]
    go_wp2
    go_ret
    exact ⟨rfl, HB.out⟩
  rw [hm]
  have HM := kp hm
  clear hm cM
  have hcc := mayP_iff.1 HM.out
  have x3 := K_p.out.atL xc.out
  have lp := K_p.out.lt
  by_cases h16 : 16 < c
  · clear hcc
    have d16 : decide ((16 : Int) < c) = true := decide_eq_true h16
    go_wp2
    go_ret
    exact ⟨rfl, HB.out⟩
  have d16 : decide ((16 : Int) < c) = false := decide_eq_false h16
  have h16' : ¬ (16 : Int) < c := h16
  obtain ⟨n, hn⟩ : ∃ n : Nat, c = (n : Int) := ⟨c.toNat, by omega⟩
  have hok : (SP.mk S s l d n).Ok := ⟨HSL.out, by rw [← hn]; exact HM.out⟩
  have HN := kp hn
  have HPN := kp (HPE.out.symm.trans (by rw [hn]) : PL = planL s l d n)
  clear HPE
  have HCC := kp hcc
  have hn16 : n ≤ 16 := by omega
  have hn1 : 1 ≤ n := by omega
  clear hcc
  have b2' : t.size ≤ maxLen := b2
  by_cases ht : 1000 < t.size
  · have i1 : (1000 : Int) < (t.size : Int) := by omega
    have d1 : decide ((1000 : Int) < (t.size : Int)) = true := decide_eq_true i1
    clear hn HPN
    go_wp2
    go_ret
    exact ⟨rfl, HB.out⟩
  have i1 : ¬ (1000 : Int) < (t.size : Int) := by omega
  have d1 : decide ((1000 : Int) < (t.size : Int)) = false := decide_eq_false i1
  have hE := beg_in (i := c + 1) HM.out (by omega) (by omega)
  rw [show c + 1 - 1 = c by omega] at hE
  subst hn
  have c1 : Kp (∀ w', w.heap.size ≤ w'.heap.size → Calls Try.prog 10 #[.agg (cellsU8 S).toArray, .agg PL.toArray] w' fun e w'' => ∃ b, e = .returned (.tuple #[.pointer (some ⟨b, 0, none⟩), .int .i64 0]) ∧ S1 w.heap.size w'' b ⟨S, s, l, d, n⟩ 0 ∧ Below w'.heap.size w' w'') := kp (fun w' h => by rw [HPN.out]; exact L_New hok w' h)
  have c2 := kp (fun w' => R10_Begins s l d n (n + 1) HM.out (by omega) (by omega) w')
  rw [show ((n + 1 : Nat) : Int) = (n : Int) + 1 by omega, show (n : Int) + 1 - 1 = (n : Int) by omega, ← HPN.out] at c2
  have c3 := kp (fun b w' (h : S1 w.heap.size w' b ⟨S, s, l, d, n⟩ 0) (hB : w.heap.size ≤ w'.heap.size) => L_Renew hok h hB)
  have hsl := HCC.out
  have HEE : Kp (s + (n : Int) * l = s + (n : Int) * l) := kp rfl
  have a1 : (SP.mk S s l d n).E 0 (s + (n : Int) * l) t = 10 := by
    show sendE s l n 0 (s + (n : Int) * l) t = 10
    have : atP s l n (s + (n : Int) * l) = (0, 10) := by unfold atP; rw [if_neg (by omega), if_pos (by omega)]
    unfold sendE; rw [this]; rfl
  have a2 : (SP.mk S s l d n).next.E 0 (s + (n : Int) * l - 1) t = 15 := by
    show sendE (s + n * l) l n 0 (s + (n : Int) * l - 1) t = 15
    have : atP (s + n * l) l n (s + (n : Int) * l - 1) = (0, 15) := by unfold atP; rw [if_pos (by omega)]
    unfold sendE; rw [this]; rfl
  have hnl : (1 : Int) * 1 ≤ (n : Int) * l := Int.mul_le_mul (by omega) (by omega) (by omega) (by omega)
  have hat : atP (s + n * l) l n (s + (n : Int) * l) = (1, 0) := by
    unfold atP; rw [if_neg (by omega), if_neg (by omega)]; simp
  have a3 : (SP.mk S s l d n).next.E 0 (s + (n : Int) * l) t = 0 := by
    show sendE (s + n * l) l n 0 (s + (n : Int) * l) t = 0
    unfold sendE; rw [hat, if_pos rfl, if_neg (by decide), if_neg (by omega)]
  have c4 : Kp (∀ b w', S1 w.heap.size w' b ⟨S, s, l, d, n⟩ 0 → Calls Try.prog 15 #[.pointer (some ⟨b, 0, none⟩), .int .i64 (s + (n : Int) * l), .string t] w' fun e w'' => e = .returned (.tuple #[.agg zeroPk.toArray, .int .i64 10]) ∧ Below w'.heap.size w' w'') := kp (fun b w' h => by
    have h1 := L_Send_bad hok h (s + (n : Int) * l) (by omega) (by omega) t (by omega) (by rw [a1]; decide)
    rw [a1] at h1
    exact h1)
  have c5 : Kp ((s + (n : Int) * l ≤ 1152921504606846976) → ∀ b w', S1 w.heap.size w' b (SP.next ⟨S, s, l, d, n⟩) 0 → Calls Try.prog 15 #[.pointer (some ⟨b, 0, none⟩), .int .i64 (s + (n : Int) * l - 1), .string t] w' fun e w'' => e = .returned (.tuple #[.agg zeroPk.toArray, .int .i64 15]) ∧ Below w'.heap.size w' w'') := kp (fun hov b w' h => by
    have h1 := L_Send_bad (hok.next hov) h (s + (n : Int) * l - 1) (by omega) (by omega) t (by omega) (by rw [a2]; decide)
    rw [a2] at h1
    exact h1)
  have HGP : Kp ((s + (n : Int) * l ≤ 1152921504606846976) → ∃ PK : List Value, PK.length = 36 ∧ (∀ v ∈ PK, v.oneCell' = true) ∧ PK[0]? = some (.int .i64 1) ∧ PK[3]? = some (.int .i64 0) ∧ ∀ b c w', w.heap.size ≤ w'.heap.size → S2 w.heap.size w' b c ⟨S, s, l, d, n⟩ (SP.next ⟨S, s, l, d, n⟩) 0 0 → Calls Try.prog 15 #[.pointer (some ⟨c, 0, none⟩), .int .i64 (s + (n : Int) * l), .string t] w' fun e w'' => e = .returned (.tuple #[.agg PK.toArray, .int .i64 0]) ∧ S2 w.heap.size w'' b c ⟨S, s, l, d, n⟩ (SP.next ⟨S, s, l, d, n⟩) 0 1 ∧ MvS w.heap.size w' w'') := kp (fun hov => by
    obtain ⟨i, hat', _, _, _, _, hN, hK⟩ := SP.good (L := 0) (hok.next hov) a3
    have hi : i = 1 := by
      have h1 : atP (s + n * l) l n (s + (n : Int) * l) = ((i : Int), 0) := hat'
      rw [hat] at h1
      injection h1 with h1 _
      omega
    subst hi
    have hT : ((((1 : Nat) : Int) - d).toNat : Nat) = 0 := by omega
    refine ⟨(SP.next ⟨S, s, l, d, n⟩).K 0 (s + (n : Int) * l) t, SP.K_length _ _ _ _, SP.K_one _ _ _ _, ?_, ?_, fun b c w' hB h => ?_⟩
    · rw [hK]; unfold goodPk pkL; rfl
    · rw [hK]
      show (goodPk _ d n 1 t)[3]? = _
      unfold goodPk
      rw [hT]; rfl
    · have h1 := L_Send2 (hok.next hov) h.symm (s + (n : Int) * l) (by omega) (by omega) t hB (by omega)
      rw [hN, a3] at h1
      exact h1.mono fun e w'' ⟨he, hs, hm⟩ => ⟨he, hs.symm, hm⟩)
  have c6 : Kp (∀ b w', S1 w.heap.size w' b ⟨S, s, l, d, n⟩ 0 → Calls Try.prog 19 #[.pointer (some ⟨b, 0, none⟩)] w' fun e w'' => e = .returned (.agg (cellsU8 (chK S n)).toArray) ∧ Below w'.heap.size w' w'') := kp (fun b w' h => by have h1 := L_Known hok h; dsimp only at h1; exact h1)
  have HKL := kp (chK_length S n)
  generalize chK S n = KN at c6 HKL
  have e1 : wrap64 ((n : Int) + 1) = (n : Int) + 1 := IntWalk.wrap64_in _ (by omega)
  have e2 : wrap64 (s + (n : Int) * l - 1) = s + (n : Int) * l - 1 := IntWalk.wrap64_in _ (by omega)
  clear a1 a2 a3 hat hnl hE hsl b2' HEE hok
  obtain ⟨E, hE⟩ : ∃ E, s + (n : Int) * l = E := ⟨_, rfl⟩
  have c3 : Kp (∀ b w', S1 w.heap.size w' b ⟨S, s, l, d, n⟩ 0 → w.heap.size ≤ w'.heap.size → Calls Try.prog 13 #[.pointer (some ⟨b, 0, none⟩)] w' fun e w'' =>
      (1152921504606846976 < E ∧ e = .returned (.tuple #[.pointer none, .int .i64 6]) ∧ Below w'.heap.size w' w'') ∨
      (E ≤ 1152921504606846976 ∧ ∃ c, e = .returned (.tuple #[.pointer (some ⟨c, 0, none⟩), .int .i64 0]) ∧ S2 w.heap.size w'' b c ⟨S, s, l, d, n⟩ (SP.next ⟨S, s, l, d, n⟩) 0 0 ∧ Below w'.heap.size w' w'')) := kp (fun b w' h hB => by rw [← hE]; exact c3.out b w' h hB)
  rw [hE] at c2 c4 c5 HGP e2
  obtain ⟨q, hq⟩ : ∃ q, SP.next ⟨S, s, l, d, n⟩ = q := ⟨_, rfl⟩
  rw [hq] at c3 c5 HGP
  obtain ⟨p, hp⟩ : ∃ p, SP.mk S s l d n = p := ⟨_, rfl⟩
  rw [hp] at c1 c3 c4 HGP c6
  have LZ := kp zeroPk_length
  have OZ := kp zeroPk_one
  obtain ⟨ZP, hZP⟩ : ∃ ZP, zeroPk = ZP := ⟨_, rfl⟩
  rw [hZP] at c4 c5 LZ OZ
  clear hZP hq hp hE HPN HCC HN HM
  have L_p := ld_all (P := Try.prog) (w.heap.size + 1) 4 25 25 PL _ Try.underlying25 rfl info_plan HPL.out K_p.out
  have L_s := ldK S HSL.out K_s.out
  go_wp2_with (first | (refine wpL_load rfl 25 _ rfl rfl L_p ?_) | (refine wpL_load rfl 23 _ rfl rfl L_s ?_))
  clear L_p L_s x3 lp d16 d1
  refine (c1.out _ HB.out.size).mono ?_
  rintro e w_3 ⟨b_a, rfl, hs_3, hb_3⟩
  have K_s := kp (K_s.out.bel hb_3)
  have K_p := kp (K_p.out.bel hb_3)
  have HB := kp (bt' HB.out hb_3 HB.out.size)
  have S_a := kp hs_3
  clear hs_3 hb_3
  have x3 := K_p.out.atL xc.out
  have lp := K_p.out.lt
  have L_p := ld_all (P := Try.prog) (w.heap.size + 1) 4 25 25 PL _ Try.underlying25 rfl info_plan HPL.out K_p.out
  go_wp2_with (refine wpL_load rfl 25 _ rfl rfl L_p ?_)
  clear L_p x3 lp e1
  refine (c2.out _).mono ?_
  rintro e w_4 ⟨rfl, hb_4⟩
  have K_s := kp (K_s.out.bel hb_4)
  have K_p := kp (K_p.out.bel hb_4)
  have S_a := kp (S_a.out.bel hb_4)
  have HB := kp (bt' HB.out hb_4 HB.out.size)
  clear hb_4
  go_wp2_with fail
  refine (c3.out _ _ S_a.out HB.out.size).mono ?_
  rintro e w3 (⟨hov, rfl, hb3⟩ | ⟨hov, b_n, rfl, hs3, hb3⟩)
  · have HB := kp (bt' HB.out hb3 HB.out.size)
    have d5 : decide ((1152921504606846976 : Int) < E) = true := decide_eq_true hov
    clear hb3
    go_wp2
    go_ret
    exact ⟨rfl, HB.out⟩
  obtain ⟨PK, hPL', hPO', hP0, hP3, c7⟩ := HGP.out hov
  have PLN := kp hPL'
  have PON := kp hPO'
  have P0 := kp hP0
  have P3 := kp hP3
  have c7 := kp c7
  have c5 := kp (c5.out hov)
  clear hPL' hPO' hP0 hP3 HGP
  have K_s := kp (K_s.out.bel hb3)
  have K_p := kp (K_p.out.bel hb3)
  have HB := kp (bt' HB.out hb3 HB.out.size)
  have S_d := kp hs3
  clear hs3 hb3 S_a
  go_wp2_with fail
  refine (c4.out _ _ S_d.out.fst).mono ?_
  rintro e w_5 ⟨rfl, hb_5⟩
  have K_s := kp (K_s.out.bel hb_5)
  have K_p := kp (K_p.out.bel hb_5)
  have S_d := kp (S_d.out.bel hb_5)
  have HB := kp (bt' HB.out hb_5 HB.out.size)
  clear hb_5
  have hlen_6 := LZ.out
  have SC_6 := fun (cur : Array Value) (h : cur.size = 36) => sc_new (P := Try.prog) w_5 44 ZP (OZ.out) cur (by rw [hlen_6]; exact h)
  have hge_u := kp HB.out.size
  have K_s := kp (K_s.out.alloc (.cells ZP.toArray 44))
  have K_p := kp (K_p.out.alloc (.cells ZP.toArray 44))
  have S_d := kp (S_d.out.bel (ba (Below.refl _ _) (.cells ZP.toArray 44)))
  have HB := kp (ba HB.out (.cells ZP.toArray 44))
  have K_u := kp (Blk.new w_5 44 ZP.toArray)
  go_wp2_with fail
  clear SC_6 hlen_6
  generalize w_5.alloc (.cells ZP.toArray 44) = W_6 at K_s K_p K_u S_d HB ⊢
  generalize w_5.heap.size = b_u at K_u hge_u ⊢
  clear K_u
  refine (c5.out _ _ S_d.out.snd).mono ?_
  rintro e w_7 ⟨rfl, hb_7⟩
  have K_s := kp (K_s.out.bel hb_7)
  have K_p := kp (K_p.out.bel hb_7)
  have S_d := kp (S_d.out.bel hb_7)
  have HB := kp (bt' HB.out hb_7 HB.out.size)
  clear hb_7
  have hlen_8 := LZ.out
  have SC_8 := fun (cur : Array Value) (h : cur.size = 36) => sc_new (P := Try.prog) w_7 44 ZP (OZ.out) cur (by rw [hlen_8]; exact h)
  have hge_u := kp HB.out.size
  have K_s := kp (K_s.out.alloc (.cells ZP.toArray 44))
  have K_p := kp (K_p.out.alloc (.cells ZP.toArray 44))
  have S_d := kp (S_d.out.bel (ba (Below.refl _ _) (.cells ZP.toArray 44)))
  have HB := kp (ba HB.out (.cells ZP.toArray 44))
  have K_u := kp (Blk.new w_7 44 ZP.toArray)
  go_wp2_with fail
  clear SC_8 hlen_8
  generalize w_7.alloc (.cells ZP.toArray 44) = W_8 at K_s K_p K_u S_d HB ⊢
  generalize w_7.heap.size = b_u at K_u hge_u ⊢
  clear K_u
  refine (c7.out _ _ _ HB.out.size S_d.out).mono ?_
  rintro e w_9 ⟨rfl, hs_9, hm_9⟩
  have K_s := kp (hm_9.keep (by decide) (by decide) (by decide) (by decide) K_s.out)
  have K_p := kp (hm_9.keep (by decide) (by decide) (by decide) (by decide) K_p.out)
  have HB := kp (HB.out.trans hm_9.below)
  have S_d := kp hs_9
  clear hs_9 hm_9
  have hlen_10 := PLN.out
  have SC_10 := fun (cur : Array Value) (h : cur.size = 36) => sc_new (P := Try.prog) w_9 44 PK (PON.out) cur (by rw [hlen_10]; exact h)
  have hge_x := kp HB.out.size
  have K_s := kp (K_s.out.alloc (.cells PK.toArray 44))
  have K_p := kp (K_p.out.alloc (.cells PK.toArray 44))
  have S_d := kp (S_d.out.bel (ba (Below.refl _ _) (.cells PK.toArray 44)))
  have HB := kp (ba HB.out (.cells PK.toArray 44))
  have K_x := kp (Blk.new w_9 44 PK.toArray)
  go_upto_region 17 with (fail)
  clear SC_10 hlen_10
  generalize w_9.alloc (.cells PK.toArray 44) = W_10 at K_s K_p K_x S_d HB ⊢
  generalize w_9.heap.size = b_x at K_x hge_x ⊢
  have L_p := ld_all (P := Try.prog) (w.heap.size + 1) 4 25 25 PL _ Try.underlying25 rfl info_plan HPL.out K_p.out
  have L_s := ldK S HSL.out K_s.out
  go_wp2_with (first | (refine wpL_load rfl 25 _ rfl rfl L_p ?_) | (refine wpL_load rfl 23 _ rfl rfl L_s ?_))
  clear L_p L_s
  refine (c1.out _ HB.out.size).mono ?_
  rintro e w_11 ⟨b_m, rfl, hs_11, hb_11⟩
  have K_s := kp (K_s.out.bel hb_11)
  have K_p := kp (K_p.out.bel hb_11)
  have K_x := kp (K_x.out.bel hb_11)
  have S_d := kp (S_d.out.bel hb_11)
  have HB := kp (bt' HB.out hb_11 HB.out.size)
  have S_m := kp hs_11
  clear hs_11 hb_11
  go_upto_region 20 with (fail)
  refine wp_region_extP 27 ?_
  simp only [List.append_eq, List.cons_append, List.nil_append, List.take_succ_cons, List.take_zero, List.drop_succ_cons, List.drop_zero]
  have x0 := K_x.out.atL P0.out
  have x3 := K_x.out.atL P3.out
  have lx := K_x.out.lt
  have HXm := kp (fun x => S_m.out.bel (ext_below w_11 x))
  have HXa := kp (fun x => S_d.out.fst.bel (ext_below w_11 x))
  repeat (first
    | (go_big_quiet_want; refine quiet_eqk (D := KN) (E := KN) _ rfl rfl rfl rfl HKL.out HKL.out ?_; simp only [decide_true, Bool.not_true]; go_simp; go_big_quiet_on)
    | go_big_quiet_step (first | (go_at_call 19; with_reducible exact Calls.ext_of (c6.out _ _ (HXm.out _))) | (go_at_call 19; with_reducible exact Calls.ext_of (c6.out _ _ (HXa.out _)))))
  refine wpQuiet_nil ?_
  rintro z
  go_wp2
  go_ret
  exact ⟨rfl, bt' HB.out (ext_below w_11 z) HB.out.size⟩
end Go.Proofs.Ytmnbnjiipnocaaa
