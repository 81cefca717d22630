/- SenderTells: the walk. -/
import Derived.Test.YtmnbnjiipnocaaaSb10
namespace Go.Proofs.Ytmnbnjiipnocaaa
open Go Go.RowKit
set_option linter.unusedVariables false
set_option linter.unusedSimpArgs false
attribute [local go_sem] bmax2 bmin2 bmax bmin cell_ext frozen_ext

set_option maxHeartbeats 8000000 in
set_option maxRecDepth 100000 in
theorem SenderTells_walk (w : World) (S : List UInt8) (s l d c : Int) (ad : Option Addr) (cp : Nat) (l9 : List Cl) (hS : S.length = 32) (b1 : (Lit.int .i64 s).wf = true ∧ (Lit.int .i64 l).wf = true ∧ (Lit.int .i64 d).wf = true ∧ (Lit.int .i64 c).wf = true) (b2 : l9.length ≤ maxLen ∧ l9.length ≤ cp ∧ cp ≤ maxLen ∧ (∀ f ∈ l9, wfC f) ∧ HeldC w ad l9) :
    Calls Try.prog 5 #[keyV S, .agg (planL s l d c).toArray, .slice ad l9.length cp] w fun e w' => e = .returned (.bool true) ∧ Below w.heap.size w w' := by
  unfold keyV
  obtain ⟨bs, bl, bd, bc⟩ := b1
  have cM := kp (fun w' => P_May s l d c w')
  have HSL := kp hS
  have HPL := kp (planL_length s l d c)
  have HPO := kp (planL_one s l d c)
  have xc : Kp ((planL s l d c)[3]? = some (.int .i64 c)) := kp rfl
  have xd : Kp ((planL s l d c)[2]? = some (.int .i64 d)) := kp rfl
  have xl : Kp ((planL s l d c)[1]? = some (.int .i64 l)) := kp rfl
  have xs : Kp ((planL s l d c)[0]? = some (.int .i64 s)) := kp rfl
  have HPP := kp (show planL s l d c = planL s l d c from rfl)
  obtain ⟨PL, hPL⟩ : ∃ PL, planL s l d c = PL := ⟨_, rfl⟩
  rw [hPL] at cM HPL HPO xc xd xl xs
  rw [hPL]
  have HPE := kp hPL
  clear hPL HPP
  have K_s := kp ((Blk.new w 23 (cellsU8 S).toArray).alloc (.cells PL.toArray 25))
  have K_p := kp (Blk.new (w.alloc (.cells (cellsU8 S).toArray 23)) 25 PL.toArray)
  have HB := kp (ba (ba (Below.refl w.heap.size w) (.cells (cellsU8 S).toArray 23)) (.cells PL.toArray 25))
  rw [size_all] at K_p
  obtain ⟨hlm, hlc, hcm, hwf, hheld⟩ := b2
  have HWF := kp hwf
  have HHELD := kp hheld
  clear hwf hheld hcm hlc
  clear hS
  go_enter Try.func5, Try.ntmps5
  go_upto_region 1 with (fail)
  change Code.wp _ _ _ _ ((w.alloc (.cells (cellsU8 S).toArray 23)).alloc (.cells PL.toArray 25))
  generalize (w.alloc (.cells (cellsU8 S).toArray 23)).alloc (.cells PL.toArray 25) = W at K_s K_p HB ⊢
  go_wp2_with fail
  refine (sender_awake _).mono ?_
  rintro e w_1 ⟨rfl, hb_1⟩
  have K_s := kp (K_s.out.bel hb_1)
  have K_p := kp (K_p.out.bel hb_1)
  have HB := kp (bt' HB.out hb_1 HB.out.size)
  clear hb_1
  have L_p := ld_all (P := Try.prog) (w.heap.size + 1) 4 25 25 PL _ Try.underlying25 rfl info_plan HPL.out K_p.out
  go_wp2_with (refine wpL_load rfl 25 _ rfl rfl L_p ?_)
  clear L_p
  refine (cM.out _).mono ?_
  rintro e w_2 ⟨rfl, hb_2⟩
  have K_s := kp (K_s.out.bel hb_2)
  have K_p := kp (K_p.out.bel hb_2)
  have HB := kp (bt' HB.out hb_2 HB.out.size)
  clear hb_2
  by_cases hm : mayP s l d c = true
  rotate_left
  · have hm : mayP s l d c = false := by simpa using hm
    rw [hm]
    go_wp2
    go_ret
    exact ⟨rfl, HB.out⟩
  rw [hm]
  have HM := kp hm
  clear hm cM
  have hcc := mayP_iff.1 HM.out
  have x3 := K_p.out.atL xc.out
  have lp := K_p.out.lt
  by_cases h16 : 16 < c
  · clear hcc
    have d16 : decide ((16 : Int) < c) = true := decide_eq_true h16
    go_wp2
    go_ret
    exact ⟨rfl, HB.out⟩
  have d16 : decide ((16 : Int) < c) = false := decide_eq_false h16
  have h16' : ¬ (16 : Int) < c := h16
  obtain ⟨n, hn⟩ : ∃ n : Nat, c = (n : Int) := ⟨c.toNat, by omega⟩
  have hok : (SP.mk S s l d n).Ok := ⟨HSL.out, by rw [← hn]; exact HM.out⟩
  have HN := kp hn
  have HPN := kp (HPE.out.symm.trans (by rw [hn]) : PL = planL s l d n)
  clear HPE
  have HCC := kp hcc
  have hn16 : n ≤ 16 := by omega
  have hn1 : 1 ≤ n := by omega
  clear hcc
  subst hn
  have c1 : Kp (∀ w', w.heap.size ≤ w'.heap.size → Calls Try.prog 10 #[.agg (cellsU8 S).toArray, .agg PL.toArray] w' fun e w'' => ∃ b, e = .returned (.tuple #[.pointer (some ⟨b, 0, none⟩), .int .i64 0]) ∧ S1 w.heap.size w'' b ⟨S, s, l, d, n⟩ 0 ∧ Below w'.heap.size w' w'') := kp (fun w' h => by rw [HPN.out]; exact L_New hok w' h)
  have HOK := kp hok
  clear hok
  have LZ := kp zeroPk_length
  have OZ := kp zeroPk_one
  obtain ⟨ZP, hZP⟩ : ∃ ZP, zeroPk = ZP := ⟨_, rfl⟩
  have HZP := kp hZP
  rw [hZP] at LZ OZ
  clear hZP
  have L_p := ld_all (P := Try.prog) (w.heap.size + 1) 4 25 25 PL _ Try.underlying25 rfl info_plan HPL.out K_p.out
  have L_s := ldK S HSL.out K_s.out
  go_wp2_with (first | (refine wpL_load rfl 25 _ rfl rfl L_p ?_) | (refine wpL_load rfl 23 _ rfl rfl L_s ?_))
  clear L_p L_s x3 lp d16
  refine (c1.out _ HB.out.size).mono ?_
  rintro e w_3 ⟨b_a, rfl, hs_3, hb_3⟩
  have K_s := kp (K_s.out.bel hb_3)
  have K_p := kp (K_p.out.bel hb_3)
  have HB := kp (bt' HB.out hb_3 HB.out.size)
  have S_a := kp hs_3
  clear hs_3 hb_3
  clear c1
  go_wp2
  go_loopw [9] (fun iv wr => ∃ (j L : Nat), j ≤ l9.length ∧ j ≤ 30 ∧ iv = .int .i64 (j : Int) ∧ Kp (S1 w.heap.size wr b_a ⟨S, s, l, d, n⟩ L) ∧ Kp (Blk wr w.heap.size 23 (cellsU8 S).toArray) ∧ Kp (Blk wr (w.heap.size + 1) 25 PL.toArray) ∧ Kp (Below w.heap.size w wr)) (fun iv _ => 30 - (intOf iv).toNat)
  case atStart => exact ⟨0, 0, Nat.zero_le _, Nat.zero_le _, rfl, S_a, K_s, K_p, HB⟩
  case round =>
    clear S_a K_s K_p HB
    obtain ⟨j, L, hj, hj30, rfl, S_a, K_s, K_p, HB⟩ := hrel
    by_cases hlt : j < l9.length ∧ j < 30
    · skip
      obtain ⟨hjl, hj30⟩ := hlt
      have i0 : (0 : Int) ≤ (j : Int) := by omega
      have i1 : (j : Int) < (l9.length : Int) := by omega
      have i2 : (j : Int) < 30 := by omega
      have d1 : decide ((j : Int) < (l9.length : Int)) = true := decide_eq_true i1
      have d2 : decide ((j : Int) < 30) = true := decide_eq_true i2
      have ej : IntKind.i64.wrap ((j : Int) + 1) = (j : Int) + 1 := IntWalk.i64_in _ (by omega)
      obtain ⟨lb, lo, rfl, hlb, _⟩ := HHELD.out (by intro e; subst e; simp at hjl)
      obtain ⟨cl, hcj⟩ : ∃ cl, l9[j]? = some cl := ⟨_, List.getElem?_eq_getElem hjl⟩
      have hwc := HWF.out cl (List.mem_of_getElem? hcj)
      obtain ⟨hw0, hw1⟩ := wf_i64 hwc.1
      have L_c := HHELD.out.ld HB.out hcj
      obtain ⟨ROW, hROW⟩ : ∃ ROW, cl.row = ROW := ⟨_, rfl⟩
      have cLg := kp (fun w' => S_large cl w')
      rw [hROW] at L_c cLg
      clear hROW
      go_wp2_with (refine wpL_load rfl 39 _ rfl rfl L_c ?_)
      clear L_c
      refine (cLg.out _).mono ?_
      rintro e w_54 ⟨rfl, hb_54⟩
      have K_s := kp (K_s.out.bel hb_54)
      have K_p := kp (K_p.out.bel hb_54)
      have S_a := kp (S_a.out.bel hb_54)
      have HB := kp (bt' HB.out hb_54 HB.out.size)
      clear hb_54
      by_cases hlg : 1100 < cl.t.size
      · have i3 : (1100 : Int) < (cl.t.size : Int) := by omega
        have d3 : decide ((1100 : Int) < (cl.t.size : Int)) = true := decide_eq_true i3
        rw [d3]
        go_wp2
        go_ret
        exact ⟨rfl, HB.out⟩
      have i3 : ¬ (1100 : Int) < (cl.t.size : Int) := by omega
      have d3 : decide ((1100 : Int) < (cl.t.size : Int)) = false := decide_eq_false i3
      rw [d3]
      clear cLg d3 i3
      have cS := kp (fun W' (hB : w.heap.size ≤ W'.heap.size) (h : S1 w.heap.size W' b_a ⟨S, s, l, d, n⟩ L) => L_Send HOK.out h cl.n hw0 (by omega) cl.t hB (by omega))
      have hKl := kp (SP.K_length ⟨S, s, l, d, n⟩ L cl.n cl.t)
      have hKo := kp (SP.K_one ⟨S, s, l, d, n⟩ L cl.n cl.t)
      have hGB := kp (fun (h : (SP.mk S s l d n).E L cl.n cl.t = 0) => SP.good HOK.out h)
      have hBD := kp (fun (h : (SP.mk S s l d n).E L cl.n cl.t ≠ 0) => And.intro (SP.K_bad (p := ⟨S, s, l, d, n⟩) h) (SP.N_bad (p := ⟨S, s, l, d, n⟩) h))
      obtain ⟨PK, hPK⟩ : ∃ PK, (SP.mk S s l d n).K L cl.n cl.t = PK := ⟨_, rfl⟩
      obtain ⟨ER, hER⟩ : ∃ ER, (SP.mk S s l d n).E L cl.n cl.t = ER := ⟨_, rfl⟩
      obtain ⟨L2, hL2⟩ : ∃ L2, (SP.mk S s l d n).N L cl.n cl.t = L2 := ⟨_, rfl⟩
      rw [hPK] at cS hKl hKo hGB hBD
      rw [hER] at cS hGB hBD
      rw [hL2] at cS hGB hBD
      clear hPK hER hL2
      clear d1 d2
      go_upto_region 13 with (fail)
      have hdr_55 : TL w w_54.heap.size [(w.heap.size, 23, (cellsU8 S)), (w.heap.size + 1, 25, PL)] (fun W' => S1 w.heap.size W' b_a ⟨S, s, l, d, n⟩ L) { w_54 with drawn := w_54.drawn + 1 } := ⟨fun k hk => by
        simp only [List.mem_cons, List.not_mem_nil, or_false] at hk
        rcases hk with rfl | rfl
        · exact K_s.out.bel (Below.refl _ _).drew
        · exact K_p.out.bel (Below.refl _ _).drew, S_a.out.bel (Below.refl _ _).drew, bt' HB.out (Below.refl _ _).drew HB.out.size, Nat.le_refl _⟩
      have HKT_55 : ∀ k ∈ ([(w.heap.size, 23, (cellsU8 S)), (w.heap.size + 1, 25, PL)] : List (Nat × TypeId × List Value)), okT4 k.2.1 := fun k hk => by
        simp only [List.mem_cons, List.not_mem_nil, or_false] at hk
        rcases hk with rfl | rfl <;> (unfold okT4; dsimp only; decide)
      have HLT_55 : ∀ k ∈ ([(w.heap.size, 23, (cellsU8 S)), (w.heap.size + 1, 25, PL)] : List (Nat × TypeId × List Value)), k.1 < w_54.heap.size := fun k hk => by
        simp only [List.mem_cons, List.not_mem_nil, or_false] at hk
        rcases hk with rfl | rfl
        · exact K_s.out.lt
        · exact K_p.out.lt
      have hWN_55 := HB.out.size
      refine wp_region_held (S := fun W' => Below w.heap.size w W') (by kernel_rfl) ?_
      change wpAnyH _ _ _ _ _ 18 _ _ _
      refine takeAll (by kernel_rfl) (fun _ _ d _ _ h => by cases d <;> exact h) [(0, 54), (1, 55), (2, 56), (3, 57), (4, 58), (5, 59), (6, 60), (7, 61), (8, 62), (9, 63), (10, 64)] [.pointer (some ⟨b_a, 0, none⟩), .slice (some ⟨lb, lo, none⟩) l9.length cp, .int .i64 (j : Int), .pointer (some ⟨lb, lo + j * 2, none⟩), .pointer (some ⟨lb, lo + j * 2, none⟩), .int .i64 cl.n, .slice (some ⟨lb, lo, none⟩) l9.length cp, .int .i64 (j : Int), .pointer (some ⟨lb, lo + j * 2, none⟩), .pointer (some ⟨lb, lo + j * 2 + 1, none⟩), .string cl.t] _ _ _ 7 (by kernel_rfl)
        ⟨Or.inl ⟨by kernel_rfl, fun w hS => by kernel_rfl⟩, Or.inl ⟨by kernel_rfl, fun w hS => by kernel_rfl⟩, Or.inl ⟨by kernel_rfl, fun w hS => by kernel_rfl⟩,
         Or.inl ⟨by kernel_rfl, fun w hS => exec_index (t := 26) (e := 39) (x := .tmp 55) (i := .tmp 56) (b := lb) (off := lo) (len := l9.length) (cap := cp) (j := j) (by kernel_rfl) Try.underlying26 info_call (by kernel_rfl) (by kernel_rfl) hjl w⟩,
         Or.inl ⟨by kernel_rfl, fun w hS => by kernel_rfl⟩,
         Or.inl ⟨by kernel_rfl, fun w hS => exec_load (ty := 2) (x := .tmp 58) (by kernel_rfl) (pv := .pointer (some ⟨lb, lo + j * 2, none⟩)) (by kernel_rfl) (ld_one Try.underlying2 rfl (HeldC.at (cap := 0) (n := 0) HHELD.out hS hcj).1)⟩,
         Or.inl ⟨by kernel_rfl, fun w hS => by kernel_rfl⟩, Or.inl ⟨by kernel_rfl, fun w hS => by kernel_rfl⟩,
         Or.inl ⟨by kernel_rfl, fun w hS => exec_index (t := 26) (e := 39) (x := .tmp 60) (i := .tmp 61) (b := lb) (off := lo) (len := l9.length) (cap := cp) (j := j) (by kernel_rfl) Try.underlying26 info_call (by kernel_rfl) (by kernel_rfl) hjl w⟩,
         Or.inl ⟨by kernel_rfl, fun w hS => by kernel_rfl⟩,
         Or.inl ⟨by kernel_rfl, fun w hS => exec_load (ty := 9) (x := .tmp 63) (by kernel_rfl) (pv := .pointer (some ⟨lb, lo + j * 2 + 1, none⟩)) (by kernel_rfl) (ld_one Try.underlying9 rfl (HeldC.at (cap := 0) (n := 0) HHELD.out hS hcj).2.1)⟩, trivial⟩ hdr_55.below ?_
      refine combE (by kernel_rfl) (fun _ _ d _ _ h => by cases d <;> exact h) 15 10 (of_decide_eq_true (by kernel_rfl)) (by kernel_rfl) (by kernel_rfl) [(12, 53), (13, 66), (14, 67)] [.tuple #[.agg PK.toArray, .int .i64 ER], .agg PK.toArray, .int .i64 ER] [(11, 65)] [.tuple #[.agg PK.toArray, .int .i64 ER]] (TL w w_54.heap.size [(w.heap.size, 23, (cellsU8 S)), (w.heap.size + 1, 25, PL)] (fun W' => S1 w.heap.size W' b_a ⟨S, s, l, d, n⟩ L)) [TL w w_54.heap.size [(w.heap.size, 23, (cellsU8 S)), (w.heap.size + 1, 25, PL)] (fun W' => S1 w.heap.size W' b_a ⟨S, s, l, d, n⟩ L2)] _ _ _ 2
        (V := fun u W' => ∃ bk, u = .pointer (some ⟨bk, 0, none⟩) ∧ w_54.heap.size ≤ bk ∧ Blk W' bk 44 ZP.toArray) (pf := TL w w_54.heap.size [(w.heap.size, 23, (cellsU8 S)), (w.heap.size + 1, 25, PL)] (fun W' => S1 w.heap.size W' b_a ⟨S, s, l, d, n⟩ L2)) (by kernel_rfl) ⟨?_, fun _ h => h⟩ ⟨Or.inl ⟨by kernel_rfl, fun w hS => by kernel_rfl⟩, Or.inl ⟨by kernel_rfl, fun w hS => by kernel_rfl⟩, Or.inl ⟨by kernel_rfl, fun w hS => by kernel_rfl⟩, trivial⟩ ?_ hdr_55.below hdr_55 ?_
      · intro W hS hp
        refine Or.inr ⟨15, #[.pointer (some ⟨b_a, 0, none⟩), .int .i64 cl.n, .string cl.t], by kernel_rfl, (cS.out W hS.size hp.sd).mono fun e W' ⟨he, h1, h2⟩ => ⟨he, hS.trans h2.below, hp.mv HKT_55 h2 h1, ?_⟩⟩
        rintro u ⟨bk, e1, e2, e3⟩
        exact ⟨bk, e1, e2, h2.keep (by decide) (by decide) (by decide) (by decide) e3⟩
      · intro q hq W hS hp
        simp only [List.mem_cons, List.not_mem_nil, or_false] at hq
        have hal := ba (Below.refl W.heap.size W) (.cells ZP.toArray 44)
        rcases hq with rfl | rfl
        · exact ⟨.pointer (some ⟨W.heap.size, 0, none⟩), W.alloc (.cells ZP.toArray 44), by rw [← HZP.out]; kernel_rfl, bt' hS hal hS.size, hp.bel hal (hp.sd.bel hal), ⟨_, rfl, hp.sz, Blk.new _ _ _⟩⟩
        · exact ⟨.pointer (some ⟨W.heap.size, 0, none⟩), W.alloc (.cells ZP.toArray 44), by rw [← HZP.out]; kernel_rfl, bt' hS hal hS.size, hp.bel hal (hp.sd.bel hal), ⟨_, rfl, hp.sz, Blk.new _ _ _⟩⟩
      rintro u W1_55 hS hp ⟨b_x, rfl, hbk, hkk⟩
      have hst := st_all (P := Try.prog) (w := W1_55) b_x 36 44 44 PK ZP info_pk hKl.out LZ.out hkk hKo.out
      have K_x := kp (hkk.row PK.toArray)
      have hT2 := hp.row HLT_55 hbk hWN_55 PK.toArray (S1.row hp.sd hkk ⟨by decide, by decide, by decide, by decide⟩ (gbrow W1_55 b_x PK.toArray))
      have HT_55 := kp hT2
      have hge_x := kp (Nat.le_trans hWN_55 hbk)
      change wpAnyH _ _ _ _ _ [16, 17].length _ _ _
      refine wpAnyH_of_seqE (by kernel_rfl) (fun _ _ d _ _ h => by cases d <;> exact h) [16, 17] _ _ _ hp.below (of_decide_eq_true (by kernel_rfl)) (by kernel_rfl) ?_
      refine stepS_skip (by kernel_rfl) (of_decide_eq_true (by kernel_rfl)) (by kernel_rfl) (exec_store 44 (.tmp 10) (.tmp 66) (by kernel_rfl) (pv := .pointer (some ⟨b_x, 0, none⟩)) (by kernel_rfl) (v := .agg PK.toArray) (by kernel_rfl) hst) hT2.below ?_
      refine stepS 11 (by kernel_rfl) (of_decide_eq_true (by kernel_rfl)) (by kernel_rfl) (v := .int .i64 ER) (by kernel_rfl) hT2.below ?_
      clear hst hT2 hp hS hkk hbk HLT_55 HKT_55 hWN_55 hdr_55 K_s K_p HB S_a
      generalize W1_55.setRow b_x PK.toArray = V_55 at K_x HT_55 ⊢
      have K_s : Kp (Blk V_55 (w.heap.size) 23 (cellsU8 S).toArray) := kp (HT_55.out.ks (w.heap.size, 23, (cellsU8 S)) (by simp))
      have K_p : Kp (Blk V_55 (w.heap.size + 1) 25 PL.toArray) := kp (HT_55.out.ks (w.heap.size + 1, 25, PL) (by simp))
      have S_a := kp HT_55.out.sd
      have HB := kp HT_55.out.below
      clear HT_55
      unfold wpListS
      dsimp only [Exit.then, putAll, Act.put]
      simp only [List.setIfInBounds_toArray, List.set_cons_succ, List.set_cons_zero]
      by_cases hE0 : ER = 0
      rotate_left
      · have d5 : (ER == 0) = false := by simpa using hE0
        have d6 : (ER != 0) = true := by simpa using hE0
        have hkz := hBD.out hE0
        have L_x := ld_all (P := Try.prog) b_x 36 44 44 PK _ Try.underlying44 rfl info_pk hKl.out K_x.out
        have hPZ := kp hkz.1
        clear hGB hBD cS hkz
        go_wp2_with (first | (refine wpL_load rfl 44 _ rfl rfl L_x ?_) | (refine wpL_val 71 rfl rfl (.agg ZP.toArray) (by rw [← HZP.out]; kernel_rfl) ?_) | (refine wpL_val 72 rfl rfl (.bool false) (exec_nes eqT_pk rfl (vs := [.int .i64 0, .txt ByteArray.empty, .txt ByteArray.empty, .int .i64 0, .u8s zeroK]) (us := [.int .i64 0, .txt ByteArray.empty, .txt ByteArray.empty, .int .i64 0, .u8s zeroK]) rfl rfl ⟨rfl, trivial, trivial, rfl, zeroK_length, trivial⟩ ⟨rfl, trivial, trivial, rfl, zeroK_length, trivial⟩ (hPZ.out.trans (pkL_row _ _ _ _ _)) (HZP.out.symm.trans (pkL_row _ _ _ _ _)) (by decide) _) ?_))
        go_roundw
        case measure => simp [intOf]; omega
        case rel => exact ⟨j + 1, L2, by omega, by omega, by congr 1, S_a, K_s, K_p, HB⟩
      subst hE0
      obtain ⟨i, hat, hi1, hi2, hLi, hts, hNi, hKi⟩ := hGB.out rfl
      subst hNi
      clear hat hBD hGB cS
      obtain ⟨T, hT⟩ : ∃ T : Nat, ((L2 : Int) - d).toNat = T := ⟨_, rfl⟩
      have hdd := (mayP_iff.1 HM.out).2.2.1
      have hKL2 := chK_length S (n - L2)
      have hKT := chK_length S (n - T)
      have hPKE : PK = pkL (L2 : Int) cl.t (str (tagD (chK S (n - L2)) (L2 : Int) cl.t)) (T : Int) (if T = 0 then zeroK else chK S (n - T)) := by rw [hKi]; unfold goodPk; rw [hT]
      obtain ⟨KK, hKK⟩ : ∃ KK, (if T = 0 then zeroK else chK S (n - T)) = KK := ⟨_, rfl⟩
      rw [hKK] at hPKE
      have hkk32 : KK.length = 32 := by rw [← hKK]; split; exact zeroK_length; exact hKT
      have y0' : Kp (PK[0]? = some (.int .i64 (L2 : Int))) := kp (by rw [hPKE]; rfl)
      have y1' : Kp (PK[1]? = some (.string cl.t)) := kp (by rw [hPKE]; rfl)
      have y3' : Kp (PK[3]? = some (.int .i64 (T : Int))) := kp (by rw [hPKE]; rfl)
      have y4' : Kp (∀ (j : Nat) v, (cellsU8 KK)[j]? = some v → PK[4 + j]? = some v) := kp (fun j v hv => by
        rw [hPKE]
        unfold pkL
        rw [List.getElem?_append_right (by simp), show 4 + j - [Value.int .i64 (L2 : Int), .string cl.t, .string (str (tagD (chK S (n - L2)) (L2 : Int) cl.t)), .int .i64 (T : Int)].length = j by simp]
        exact hv)
      have HKK32 := kp hkk32
      have HKKE := kp hKK
      have HTD := kp hT
      have HTMX : Kp ((T : Int) = max ((L2 : Int) - d) 0) := kp (by omega)
      have cR := kp (fun w' => S_Right (chK S (n - L2)) (L2 : Int) cl.t (str (tagD (chK S (n - L2)) (L2 : Int) cl.t)) (T : Int) KK hKL2 hkk32 (by omega) (by rw [str_size, tagD_length]; omega) w')
      rw [decide_eq_true rfl, ← hPKE] at cR
      have cK := kp (fun w' => R_Key_good S HSL.out n (L2 : Nat) (n - L2) (by omega) (by omega) (by omega) (by omega) (by omega) w')
      have cK2 := kp (fun (h : T ≠ 0) w' => R_Key_good S HSL.out n T (n - T) (by omega) (by omega) (by omega) (by omega) (by omega) w')
      have HA := kp hKL2
      obtain ⟨A, hAA⟩ : ∃ A, chK S (n - L2) = A := ⟨_, rfl⟩
      rw [hAA] at cR cK HA
      clear hAA hPKE hKi hKL2 hKT hkk32 hKK hT
      have y0 := K_x.out.atL y0'.out
      have lx := K_x.out.lt
      have x3 := K_p.out.atL xc.out
      have lp := K_p.out.lt
      have L_s := ldK S HSL.out K_s.out
      go_wp2_with (refine wpL_load rfl 23 _ rfl rfl L_s ?_)
      clear L_s y0 lx x3 lp
      refine (cK.out _).mono ?_
      rintro e w_56 ⟨rfl, hb_56⟩
      have K_s := kp (K_s.out.bel hb_56)
      have K_p := kp (K_p.out.bel hb_56)
      have K_x := kp (K_x.out.bel hb_56)
      have S_a := kp (S_a.out.bel hb_56)
      have HB := kp (bt' HB.out hb_56 HB.out.size)
      clear hb_56
      have hlen_57 := key_cells _ HA.out
      have SC_57 := fun (cur : Array Value) (h : cur.size = 32) => sc_new (P := Try.prog) w_56 23 (cellsU8 A) (cellsU8_one _) cur (by rw [hlen_57]; exact h)
      have hge_k := kp HB.out.size
      have K_s := kp (K_s.out.alloc (.cells (cellsU8 A).toArray 23))
      have K_p := kp (K_p.out.alloc (.cells (cellsU8 A).toArray 23))
      have K_x := kp (K_x.out.alloc (.cells (cellsU8 A).toArray 23))
      have S_a := kp (S_a.out.bel (ba (Below.refl _ _) (.cells (cellsU8 A).toArray 23)))
      have HB := kp (ba HB.out (.cells (cellsU8 A).toArray 23))
      have K_k := kp (Blk.new w_56 23 (cellsU8 A).toArray)
      go_upto_region 18 with (fail)
      clear SC_57 hlen_57
      generalize w_56.alloc (.cells (cellsU8 A).toArray 23) = W_57 at K_s K_p K_x K_k S_a HB ⊢
      generalize w_56.heap.size = b_k at K_k hge_k ⊢
      have y0 := K_x.out.atL y0'.out
      have y1 := K_x.out.atL y1'.out
      have y3 := K_x.out.atL y3'.out
      have lx := K_x.out.lt
      have x2 := K_p.out.atL xd.out
      have lp := K_p.out.lt
      have hcc2 := HeldC.at (cap := 0) (n := 0) HHELD.out HB.out hcj
      have c1t := hcc2.2.1
      have llb : lb < W_57.heap.size := Nat.lt_of_lt_of_le hlb HB.out.size
      clear hcc2
      have tmn : (cl.t.toList != cl.t.toList) = false := by simp
      have Q_k := kp (fun x => ldK A HA.out (K_k.out.bel (ext_below W_57 x)))
      have Q_x := kp (fun x => ld_all (P := Try.prog) b_x 36 44 44 PK _ Try.underlying44 rfl info_pk hKl.out (K_x.out.bel (ext_below W_57 x)))
      have Q_xk := kp (fun x => ld_row (P := Try.prog) (w := W_57.ext x) b_x 4 32 23 (cellsU8 KK) _ Try.underlying23 rfl info_key (key_cells _ HKK32.out) (fun j v hv => (K_x.out.bel (ext_below W_57 x)).atL (y4'.out j v hv)))
      by_cases hT0 : T = 0
      · skip
        have hTd := HTMX.out
        have hKz : KK = zeroK := by rw [← HKKE.out, if_pos hT0]
        have g1 : decide ((0 : Int) < (T : Int)) = false := decide_eq_false (by omega)
        have g2 : ((T : Int) == 0) = true := by simp [hT0]
        have g3 : decide (d < (L2 : Int)) = false := decide_eq_false (by omega)
        have g4 : ¬ d < (L2 : Int) := by omega
        have g5 : ¬ 0 < T := by omega
        have g6 : decide (0 < T) = false := decide_eq_false (by omega)
        have g7 : (T == 0) = true := by simp [hT0]
        have HKZ := kp hKz
        clear hKz hTd
        refine wp_region_ext [0, 1, 2, 3, 4, 5, 6, 7, 8, 9, 10, 11, 12, 13, 14, 15, 16, 17, 18, 19, 20, 21, 22, 23, 24, 25, 26, 27, 28, 29, 30, 31, 32, 33, 34, 35, 36, 37, 38, 39, 40, 41, 42, 43, 44, 45] [46] (by kernel_rfl) (by kernel_rfl) ?_
        simp only [List.append_eq, List.cons_append, List.nil_append, List.map_cons, List.map_nil, List.getD_cons_succ, List.getD_cons_zero]
        repeat (first
          | (go_big_quiet_want; refine quiet_load _ rfl 23 _ rfl rfl (fun w hw => by obtain ⟨x, rfl⟩ := hw; exact Q_k.out x) ?_; go_simp; go_big_quiet_on)
          | (go_big_quiet_want; refine quiet_load _ rfl 44 _ rfl rfl (fun w hw => by obtain ⟨x, rfl⟩ := hw; exact Q_x.out x) ?_; go_simp; go_big_quiet_on)
          | (go_big_quiet_want; refine quiet_load _ rfl 23 _ rfl rfl (fun w hw => by obtain ⟨x, rfl⟩ := hw; exact Q_xk.out x) ?_; go_simp; go_big_quiet_on)
          | (go_big_quiet_want; refine quiet_val 124 rfl (.agg (cellsU8 zeroK).toArray) (fun w _ => by kernel_rfl) ?_; go_simp; go_big_quiet_on)
          | (go_big_quiet_want; refine quiet_nek (D := KK) (E := zeroK) _ rfl rfl rfl rfl HKK32.out zeroK_length ?_; rw [HKZ.out]; simp only [decide_true, Bool.not_true]; go_simp; go_big_quiet_on)
          | go_big_quiet_step (first | (go_at_call 22; with_reducible exact Calls.ext_of (cR.out _))))
        refine wpQuiet_nil ?_
        rintro z
        have S_a := kp (S_a.out.bel (ext_below W_57 z))
        have K_s := kp (K_s.out.bel (ext_below W_57 z))
        have K_p := kp (K_p.out.bel (ext_below W_57 z))
        have K_x := kp (K_x.out.bel (ext_below W_57 z))
        have HB := kp (bt' HB.out (ext_below W_57 z) HB.out.size)
        clear y0 y1 y3 lx x2 lp c1t llb Q_k Q_x Q_xk K_k
        generalize W_57.ext z = V9 at S_a K_s K_p K_x HB ⊢
        have y3 := K_x.out.atL y3'.out
        have lx := K_x.out.lt
        go_wp2
        go_roundw
        case measure => simp [intOf]; omega
        case rel => exact ⟨j + 1, L2, by omega, by omega, by congr 1, S_a, K_s, K_p, HB⟩
      · skip
        have hTd := HTMX.out
        have hKz : chK S (n - T) = KK := by rw [← HKKE.out, if_neg hT0]
        have g1 : decide ((0 : Int) < (T : Int)) = true := decide_eq_true (by omega)
        have g2 : ((T : Int) == 0) = false := by simp; omega
        have g3 : wrap64 ((L2 : Int) - d) = (T : Int) := by rw [IntWalk.wrap64_in _ (by omega)]; omega
        have g8 : ((T : Int) != (L2 : Int) - d) = false := by simp; omega
        have g9 : ((T : Int) == (L2 : Int) - d) = true := by simp; omega
        have g5 : 0 < T := by omega
        have g6 : decide (0 < T) = true := decide_eq_true (by omega)
        have g7 : (T == 0) = false := by simp; omega
        have cK2 := kp (cK2.out hT0)
        rw [hKz] at cK2
        clear hKz hTd
        refine wp_region_ext [0, 1, 2, 3, 4, 5, 6, 7, 8, 9, 10, 11, 12, 13, 14, 15, 16, 17, 18, 19, 20, 21, 22, 23, 24, 25, 26, 27, 28, 29, 30, 31, 32, 33, 34, 35, 36, 37, 38, 39, 40, 41, 42, 43, 44, 45] [46] (by kernel_rfl) (by kernel_rfl) ?_
        simp only [List.append_eq, List.cons_append, List.nil_append, List.map_cons, List.map_nil, List.getD_cons_succ, List.getD_cons_zero]
        repeat (first
          | (go_big_quiet_want; refine quiet_load _ rfl 23 _ rfl rfl (fun w hw => by obtain ⟨x, rfl⟩ := hw; exact Q_k.out x) ?_; go_simp; go_big_quiet_on)
          | (go_big_quiet_want; refine quiet_load _ rfl 44 _ rfl rfl (fun w hw => by obtain ⟨x, rfl⟩ := hw; exact Q_x.out x) ?_; go_simp; go_big_quiet_on)
          | (go_big_quiet_want; refine quiet_load _ rfl 23 _ rfl rfl (fun w hw => by obtain ⟨x, rfl⟩ := hw; exact Q_xk.out x) ?_; go_simp; go_big_quiet_on)
          | go_big_quiet_step (first | (go_at_call 22; with_reducible exact Calls.ext_of (cR.out _))))
        refine wpQuiet_nil ?_
        rintro z
        have S_a := kp (S_a.out.bel (ext_below W_57 z))
        have K_s := kp (K_s.out.bel (ext_below W_57 z))
        have K_p := kp (K_p.out.bel (ext_below W_57 z))
        have K_x := kp (K_x.out.bel (ext_below W_57 z))
        have HB := kp (bt' HB.out (ext_below W_57 z) HB.out.size)
        clear y0 y1 y3 lx x2 lp c1t llb Q_k Q_x Q_xk K_k
        generalize W_57.ext z = V9 at S_a K_s K_p K_x HB ⊢
        have y3 := K_x.out.atL y3'.out
        have lx := K_x.out.lt
        have x3 := K_p.out.atL xc.out
        have lp := K_p.out.lt
        have L_s := ldK S HSL.out K_s.out
        go_wp2_with (refine wpL_load rfl 23 _ rfl rfl L_s ?_)
        clear L_s x3 lp y3 lx
        refine (cK2.out _).mono ?_
        rintro e w_78 ⟨rfl, hb_78⟩
        have K_s := kp (K_s.out.bel hb_78)
        have K_p := kp (K_p.out.bel hb_78)
        have K_x := kp (K_x.out.bel hb_78)
        have S_a := kp (S_a.out.bel hb_78)
        have HB := kp (bt' HB.out hb_78 HB.out.size)
        clear hb_78
        have hlen_79 := key_cells _ HKK32.out
        have SC_79 := fun (cur : Array Value) (h : cur.size = 32) => sc_new (P := Try.prog) w_78 23 (cellsU8 KK) (cellsU8_one _) cur (by rw [hlen_79]; exact h)
        have hge_t := kp HB.out.size
        have K_s := kp (K_s.out.alloc (.cells (cellsU8 KK).toArray 23))
        have K_p := kp (K_p.out.alloc (.cells (cellsU8 KK).toArray 23))
        have K_x := kp (K_x.out.alloc (.cells (cellsU8 KK).toArray 23))
        have S_a := kp (S_a.out.bel (ba (Below.refl _ _) (.cells (cellsU8 KK).toArray 23)))
        have HB := kp (ba HB.out (.cells (cellsU8 KK).toArray 23))
        have K_t := kp (Blk.new w_78 23 (cellsU8 KK).toArray)
        go_upto_region 22 with (fail)
        clear SC_79 hlen_79
        generalize w_78.alloc (.cells (cellsU8 KK).toArray 23) = W_79 at K_s K_p K_x K_t S_a HB ⊢
        generalize w_78.heap.size = b_t at K_t hge_t ⊢
        have L_t := ldK KK HKK32.out K_t.out
        have L_xk := ld_row (P := Try.prog) (w := W_79) b_x 4 32 23 (cellsU8 KK) _ Try.underlying23 rfl info_key (key_cells _ HKK32.out) (fun j v hv => K_x.out.atL (y4'.out j v hv))
        go_wp2_with (first | (refine wpL_load rfl 23 _ rfl rfl L_t ?_) | (refine wpL_load rfl 23 _ rfl rfl L_xk ?_) | (refine wpL_val 144 rfl rfl (.bool false) ((exec_nek rfl rfl rfl HKK32.out HKK32.out _).trans (by simp)) ?_))
        clear L_t L_xk
        go_roundw
        case measure => simp [intOf]; omega
        case rel => exact ⟨j + 1, L2, by omega, by omega, by congr 1, S_a, K_s, K_p, HB⟩
    · skip
      rcases Decidable.em ((j : Int) < (l9.length : Int)) with h1 | h1
      · have d1 : decide ((j : Int) < (l9.length : Int)) = true := decide_eq_true h1
        have h2 : ¬ (j : Int) < 30 := by omega
        have d2 : decide ((j : Int) < 30) = false := decide_eq_false h2
        go_wp2
        go_ret
        exact ⟨rfl, HB.out⟩
      · have d1 : decide ((j : Int) < (l9.length : Int)) = false := decide_eq_false h1
        go_wp2
        go_ret
        exact ⟨rfl, HB.out⟩
end Go.Proofs.Ytmnbnjiipnocaaa
