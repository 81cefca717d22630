/- SenderRises: the walk. -/
import Derived.Test.YtmnbnjiipnocaaaSb10
namespace Go.Proofs.Ytmnbnjiipnocaaa
open Go Go.RowKit
set_option linter.unusedVariables false
set_option linter.unusedSimpArgs false
attribute [local go_sem] bmax2 bmin2 bmax bmin cell_ext frozen_ext

set_option maxHeartbeats 8000000 in
set_option maxRecDepth 100000 in
theorem SenderRises_walk (w : World) (S : List UInt8) (s l d c : Int) (ad : Option Addr) (cp : Nat) (l9 : List Cl) (hS : S.length = 32) (b1 : (Lit.int .i64 s).wf = true ∧ (Lit.int .i64 l).wf = true ∧ (Lit.int .i64 d).wf = true ∧ (Lit.int .i64 c).wf = true) (b2 : l9.length ≤ maxLen ∧ l9.length ≤ cp ∧ cp ≤ maxLen ∧ (∀ f ∈ l9, wfC f) ∧ HeldC w ad l9) :
    Calls Try.prog 6 #[keyV S, .agg (planL s l d c).toArray, .slice ad l9.length cp] w fun e w' => e = .returned (.bool true) ∧ Below w.heap.size w w' := by
  unfold keyV
  obtain ⟨bs, bl, bd, bc⟩ := b1
  have cM := kp (fun w' => P_May s l d c w')
  have HSL := kp hS
  have HPL := kp (planL_length s l d c)
  have HPO := kp (planL_one s l d c)
  have xc : Kp ((planL s l d c)[3]? = some (.int .i64 c)) := kp rfl
  have xd : Kp ((planL s l d c)[2]? = some (.int .i64 d)) := kp rfl
  have xl : Kp ((planL s l d c)[1]? = some (.int .i64 l)) := kp rfl
  have xs : Kp ((planL s l d c)[0]? = some (.int .i64 s)) := kp rfl
  have HPP := kp (show planL s l d c = planL s l d c from rfl)
  obtain ⟨PL, hPL⟩ : ∃ PL, planL s l d c = PL := ⟨_, rfl⟩
  rw [hPL] at cM HPL HPO xc xd xl xs
  rw [hPL]
  have HPE := kp hPL
  clear hPL HPP
  have K_s := kp ((Blk.new w 23 (cellsU8 S).toArray).alloc (.cells PL.toArray 25))
  have K_p := kp (Blk.new (w.alloc (.cells (cellsU8 S).toArray 23)) 25 PL.toArray)
  have HB := kp (ba (ba (Below.refl w.heap.size w) (.cells (cellsU8 S).toArray 23)) (.cells PL.toArray 25))
  rw [size_all] at K_p
  obtain ⟨hlm, hlc, hcm, hwf, hheld⟩ := b2
  have HWF := kp hwf
  have HHELD := kp hheld
  clear hwf hheld hcm hlc
  clear hS
  go_enter Try.func6, Try.ntmps6
  go_upto_region 1 with (fail)
  change Code.wp _ _ _ _ ((w.alloc (.cells (cellsU8 S).toArray 23)).alloc (.cells PL.toArray 25))
  generalize (w.alloc (.cells (cellsU8 S).toArray 23)).alloc (.cells PL.toArray 25) = W at K_s K_p HB ⊢
  go_wp2_with fail
  refine (sender_awake _).mono ?_
  rintro e w_1 ⟨rfl, hb_1⟩
  have K_s := kp (K_s.out.bel hb_1)
  have K_p := kp (K_p.out.bel hb_1)
  have HB := kp (bt' HB.out hb_1 HB.out.size)
  clear hb_1
  have L_p := ld_all (P := Try.prog) (w.heap.size + 1) 4 25 25 PL _ Try.underlying25 rfl info_plan HPL.out K_p.out
  go_wp2_with (refine wpL_load rfl 25 _ rfl rfl L_p ?_)
  clear L_p
  refine (cM.out _).mono ?_
  rintro e w_2 ⟨rfl, hb_2⟩
  have K_s := kp (K_s.out.bel hb_2)
  have K_p := kp (K_p.out.bel hb_2)
  have HB := kp (bt' HB.out hb_2 HB.out.size)
  clear hb_2
  by_cases hm : mayP s l d c = true
  rotate_left
  · have hm : mayP s l d c = false := by simpa using hm
    rw [hm]
    go_wp2
    go_ret
    exact ⟨rfl, HB.out⟩
  rw [hm]
  have HM := kp hm
  clear hm cM
  have hcc := mayP_iff.1 HM.out
  have x3 := K_p.out.atL xc.out
  have lp := K_p.out.lt
  by_cases h16 : 16 < c
  · clear hcc
    have d16 : decide ((16 : Int) < c) = true := decide_eq_true h16
    go_wp2
    go_ret
    exact ⟨rfl, HB.out⟩
  have d16 : decide ((16 : Int) < c) = false := decide_eq_false h16
  have h16' : ¬ (16 : Int) < c := h16
  obtain ⟨n, hn⟩ : ∃ n : Nat, c = (n : Int) := ⟨c.toNat, by omega⟩
  have hok : (SP.mk S s l d n).Ok := ⟨HSL.out, by rw [← hn]; exact HM.out⟩
  have HN := kp hn
  have HPN := kp (HPE.out.symm.trans (by rw [hn]) : PL = planL s l d n)
  clear HPE
  have HCC := kp hcc
  have hn16 : n ≤ 16 := by omega
  have hn1 : 1 ≤ n := by omega
  clear hcc
  subst hn
  have c1 : Kp (∀ w', w.heap.size ≤ w'.heap.size → Calls Try.prog 10 #[.agg (cellsU8 S).toArray, .agg PL.toArray] w' fun e w'' => ∃ b, e = .returned (.tuple #[.pointer (some ⟨b, 0, none⟩), .int .i64 0]) ∧ S1 w.heap.size w'' b ⟨S, s, l, d, n⟩ 0 ∧ Below w'.heap.size w' w'') := kp (fun w' h => by rw [HPN.out]; exact L_New hok w' h)
  have c1b : Kp (∀ b w', w.heap.size ≤ w'.heap.size → S1 w.heap.size w' b ⟨S, s, l, d, n⟩ 0 → Calls Try.prog 10 #[.agg (cellsU8 S).toArray, .agg PL.toArray] w' fun e w'' => ∃ c, e = .returned (.tuple #[.pointer (some ⟨c, 0, none⟩), .int .i64 0]) ∧ S2 w.heap.size w'' b c ⟨S, s, l, d, n⟩ ⟨S, s, l, d, n⟩ 0 0 ∧ Below w'.heap.size w' w'') := kp (fun b w' h hs => by rw [HPN.out]; exact L_New2 hok w' h hs)
  have HOK := kp hok
  clear hok
  have LZ := kp zeroPk_length
  have OZ := kp zeroPk_one
  obtain ⟨ZP, hZP⟩ : ∃ ZP, zeroPk = ZP := ⟨_, rfl⟩
  have HZP := kp hZP
  rw [hZP] at LZ OZ
  clear hZP
  have L_p := ld_all (P := Try.prog) (w.heap.size + 1) 4 25 25 PL _ Try.underlying25 rfl info_plan HPL.out K_p.out
  have L_s := ldK S HSL.out K_s.out
  go_wp2_with (first | (refine wpL_load rfl 25 _ rfl rfl L_p ?_) | (refine wpL_load rfl 23 _ rfl rfl L_s ?_))
  clear L_p L_s x3 lp d16
  refine (c1.out _ HB.out.size).mono ?_
  rintro e w_3 ⟨b_a, rfl, hs_3, hb_3⟩
  have K_s := kp (K_s.out.bel hb_3)
  have K_p := kp (K_p.out.bel hb_3)
  have HB := kp (bt' HB.out hb_3 HB.out.size)
  have S_a := kp hs_3
  clear hs_3 hb_3
  have L_p := ld_all (P := Try.prog) (w.heap.size + 1) 4 25 25 PL _ Try.underlying25 rfl info_plan HPL.out K_p.out
  have L_s := ldK S HSL.out K_s.out
  go_wp2_with (first | (refine wpL_load rfl 25 _ rfl rfl L_p ?_) | (refine wpL_load rfl 23 _ rfl rfl L_s ?_))
  clear L_p L_s
  refine (c1b.out _ _ HB.out.size S_a.out).mono ?_
  rintro e w_4 ⟨b_b, rfl, hs_4, hb_4⟩
  have K_s := kp (K_s.out.bel hb_4)
  have K_p := kp (K_p.out.bel hb_4)
  have HB := kp (bt' HB.out hb_4 HB.out.size)
  have S_d := kp hs_4
  clear hs_4 hb_4
  clear S_a c1 c1b
  go_wp2
  go_loopw [11, 12] (fun lv iv wr => ∃ (j L : Nat), j ≤ l9.length ∧ j ≤ 30 ∧ lv = .int .i64 (L : Int) ∧ iv = .int .i64 (j : Int) ∧ Kp (S2 w.heap.size wr b_a b_b ⟨S, s, l, d, n⟩ ⟨S, s, l, d, n⟩ L L) ∧ Kp (Blk wr w.heap.size 23 (cellsU8 S).toArray) ∧ Kp (Blk wr (w.heap.size + 1) 25 PL.toArray) ∧ Kp (Below w.heap.size w wr)) (fun _ iv _ => 30 - (intOf iv).toNat)
  case atStart => exact ⟨0, 0, Nat.zero_le _, Nat.zero_le _, rfl, rfl, S_d, K_s, K_p, HB⟩
  case round =>
    clear S_d K_s K_p HB
    obtain ⟨j, L, hj, hj30, rfl, rfl, S_d, K_s, K_p, HB⟩ := hrel
    by_cases hlt : j < l9.length ∧ j < 30
    · skip
      obtain ⟨hjl, hj30⟩ := hlt
      have i0 : (0 : Int) ≤ (j : Int) := by omega
      have i1 : (j : Int) < (l9.length : Int) := by omega
      have i2 : (j : Int) < 30 := by omega
      have d1 : decide ((j : Int) < (l9.length : Int)) = true := decide_eq_true i1
      have d2 : decide ((j : Int) < 30) = true := decide_eq_true i2
      have ej : IntKind.i64.wrap ((j : Int) + 1) = (j : Int) + 1 := IntWalk.i64_in _ (by omega)
      obtain ⟨lb, lo, rfl, hlb, _⟩ := HHELD.out (by intro e; subst e; simp at hjl)
      obtain ⟨cl, hcj⟩ : ∃ cl, l9[j]? = some cl := ⟨_, List.getElem?_eq_getElem hjl⟩
      have hwc := HWF.out cl (List.mem_of_getElem? hcj)
      obtain ⟨hw0, hw1⟩ := wf_i64 hwc.1
      have L_c := HHELD.out.ld HB.out hcj
      obtain ⟨ROW, hROW⟩ : ∃ ROW, cl.row = ROW := ⟨_, rfl⟩
      have cLg := kp (fun w' => S_large cl w')
      rw [hROW] at L_c cLg
      clear hROW
      go_wp2_with (refine wpL_load rfl 39 _ rfl rfl L_c ?_)
      clear L_c
      refine (cLg.out _).mono ?_
      rintro e w_55 ⟨rfl, hb_55⟩
      have K_s := kp (K_s.out.bel hb_55)
      have K_p := kp (K_p.out.bel hb_55)
      have S_d := kp (S_d.out.bel hb_55)
      have HB := kp (bt' HB.out hb_55 HB.out.size)
      clear hb_55
      by_cases hlg : 1100 < cl.t.size
      · have i3 : (1100 : Int) < (cl.t.size : Int) := by omega
        have d3 : decide ((1100 : Int) < (cl.t.size : Int)) = true := decide_eq_true i3
        rw [d3]
        go_wp2
        go_ret
        exact ⟨rfl, HB.out⟩
      have i3 : ¬ (1100 : Int) < (cl.t.size : Int) := by omega
      have d3 : decide ((1100 : Int) < (cl.t.size : Int)) = false := decide_eq_false i3
      rw [d3]
      clear cLg d3 i3
      have cS := kp (fun W' (hB : w.heap.size ≤ W'.heap.size) (h : S2 w.heap.size W' b_a b_b ⟨S, s, l, d, n⟩ ⟨S, s, l, d, n⟩ L L) => L_Send2 HOK.out h cl.n hw0 (by omega) cl.t hB (by omega))
      have hKl := kp (SP.K_length ⟨S, s, l, d, n⟩ L cl.n cl.t)
      have hKo := kp (SP.K_one ⟨S, s, l, d, n⟩ L cl.n cl.t)
      have hGB := kp (fun (h : (SP.mk S s l d n).E L cl.n cl.t = 0) => SP.good HOK.out h)
      have hBD := kp (fun (h : (SP.mk S s l d n).E L cl.n cl.t ≠ 0) => And.intro (SP.K_bad (p := ⟨S, s, l, d, n⟩) h) (SP.N_bad (p := ⟨S, s, l, d, n⟩) h))
      obtain ⟨PK, hPK⟩ : ∃ PK, (SP.mk S s l d n).K L cl.n cl.t = PK := ⟨_, rfl⟩
      obtain ⟨ER, hER⟩ : ∃ ER, (SP.mk S s l d n).E L cl.n cl.t = ER := ⟨_, rfl⟩
      obtain ⟨L2, hL2⟩ : ∃ L2, (SP.mk S s l d n).N L cl.n cl.t = L2 := ⟨_, rfl⟩
      rw [hPK] at cS hKl hKo hGB hBD
      rw [hER] at cS hGB hBD
      rw [hL2] at cS hGB hBD
      have hPK' := hPK
      have hER' := hER
      have hL2' := hL2
      have hIP : Kp (IsPk PK) := kp (hPK ▸ SP.K_row _ _ _ _)
      clear hPK hER hL2
      have cT := kp (fun W' (hB : w.heap.size ≤ W'.heap.size) (h : S2 w.heap.size W' b_a b_b ⟨S, s, l, d, n⟩ ⟨S, s, l, d, n⟩ L2 L) => (L_Send2 HOK.out h.symm cl.n hw0 (by omega) cl.t hB (by omega)).mono fun e W'' ⟨h1, h2, h3⟩ => And.intro h1 (And.intro h2.symm h3))
      rw [hPK', hER', hL2'] at cT
      have cL := kp (fun (N : Nat) W' (h : S2 w.heap.size W' b_a b_b ⟨S, s, l, d, n⟩ ⟨S, s, l, d, n⟩ L2 N) => L_Last HOK.out h.fst)
      clear d1 d2 hPK' hER' hL2'
      go_upto_region 15 with (fail)
      have hdr_56 : TL w w_55.heap.size [(w.heap.size, 23, (cellsU8 S)), (w.heap.size + 1, 25, PL)] (fun W' => S2 w.heap.size W' b_a b_b ⟨S, s, l, d, n⟩ ⟨S, s, l, d, n⟩ L L) { w_55 with drawn := w_55.drawn + 1 } := ⟨fun k hk => by
        simp only [List.mem_cons, List.not_mem_nil, or_false] at hk
        rcases hk with rfl | rfl
        · exact K_s.out.bel (Below.refl _ _).drew
        · exact K_p.out.bel (Below.refl _ _).drew, S_d.out.bel (Below.refl _ _).drew, bt' HB.out (Below.refl _ _).drew HB.out.size, Nat.le_refl _⟩
      have HKT_56 : ∀ k ∈ ([(w.heap.size, 23, (cellsU8 S)), (w.heap.size + 1, 25, PL)] : List (Nat × TypeId × List Value)), okT4 k.2.1 := fun k hk => by
        simp only [List.mem_cons, List.not_mem_nil, or_false] at hk
        rcases hk with rfl | rfl <;> (unfold okT4; dsimp only; decide)
      have HLT_56 : ∀ k ∈ ([(w.heap.size, 23, (cellsU8 S)), (w.heap.size + 1, 25, PL)] : List (Nat × TypeId × List Value)), k.1 < w_55.heap.size := fun k hk => by
        simp only [List.mem_cons, List.not_mem_nil, or_false] at hk
        rcases hk with rfl | rfl
        · exact K_s.out.lt
        · exact K_p.out.lt
      have hWN_56 := HB.out.size
      refine wp_region_held (S := fun W' => Below w.heap.size w W') (by kernel_rfl) ?_
      change wpAnyH _ _ _ _ _ 18 _ _ _
      refine takeAll (by kernel_rfl) (fun _ _ d _ _ h => by cases d <;> exact h) [(0, 61), (1, 62), (2, 63), (3, 64), (4, 65), (5, 66), (6, 67), (7, 68), (8, 69), (9, 70), (10, 71)] [.pointer (some ⟨b_a, 0, none⟩), .slice (some ⟨lb, lo, none⟩) l9.length cp, .int .i64 (j : Int), .pointer (some ⟨lb, lo + j * 2, none⟩), .pointer (some ⟨lb, lo + j * 2, none⟩), .int .i64 cl.n, .slice (some ⟨lb, lo, none⟩) l9.length cp, .int .i64 (j : Int), .pointer (some ⟨lb, lo + j * 2, none⟩), .pointer (some ⟨lb, lo + j * 2 + 1, none⟩), .string cl.t] _ _ _ 7 (by kernel_rfl)
        ⟨Or.inl ⟨by kernel_rfl, fun w hS => by kernel_rfl⟩, Or.inl ⟨by kernel_rfl, fun w hS => by kernel_rfl⟩, Or.inl ⟨by kernel_rfl, fun w hS => by kernel_rfl⟩,
         Or.inl ⟨by kernel_rfl, fun w hS => exec_index (t := 26) (e := 39) (x := .tmp 62) (i := .tmp 63) (b := lb) (off := lo) (len := l9.length) (cap := cp) (j := j) (by kernel_rfl) Try.underlying26 info_call (by kernel_rfl) (by kernel_rfl) hjl w⟩,
         Or.inl ⟨by kernel_rfl, fun w hS => by kernel_rfl⟩,
         Or.inl ⟨by kernel_rfl, fun w hS => exec_load (ty := 2) (x := .tmp 65) (by kernel_rfl) (pv := .pointer (some ⟨lb, lo + j * 2, none⟩)) (by kernel_rfl) (ld_one Try.underlying2 rfl (HeldC.at (cap := 0) (n := 0) HHELD.out hS hcj).1)⟩,
         Or.inl ⟨by kernel_rfl, fun w hS => by kernel_rfl⟩, Or.inl ⟨by kernel_rfl, fun w hS => by kernel_rfl⟩,
         Or.inl ⟨by kernel_rfl, fun w hS => exec_index (t := 26) (e := 39) (x := .tmp 67) (i := .tmp 68) (b := lb) (off := lo) (len := l9.length) (cap := cp) (j := j) (by kernel_rfl) Try.underlying26 info_call (by kernel_rfl) (by kernel_rfl) hjl w⟩,
         Or.inl ⟨by kernel_rfl, fun w hS => by kernel_rfl⟩,
         Or.inl ⟨by kernel_rfl, fun w hS => exec_load (ty := 9) (x := .tmp 70) (by kernel_rfl) (pv := .pointer (some ⟨lb, lo + j * 2 + 1, none⟩)) (by kernel_rfl) (ld_one Try.underlying9 rfl (HeldC.at (cap := 0) (n := 0) HHELD.out hS hcj).2.1)⟩, trivial⟩ hdr_56.below ?_
      refine combE (by kernel_rfl) (fun _ _ d _ _ h => by cases d <;> exact h) 15 13 (of_decide_eq_true (by kernel_rfl)) (by kernel_rfl) (by kernel_rfl) [(12, 60), (13, 73), (14, 74)] [.tuple #[.agg PK.toArray, .int .i64 ER], .agg PK.toArray, .int .i64 ER] [(11, 72)] [.tuple #[.agg PK.toArray, .int .i64 ER]] (TL w w_55.heap.size [(w.heap.size, 23, (cellsU8 S)), (w.heap.size + 1, 25, PL)] (fun W' => S2 w.heap.size W' b_a b_b ⟨S, s, l, d, n⟩ ⟨S, s, l, d, n⟩ L L)) [TL w w_55.heap.size [(w.heap.size, 23, (cellsU8 S)), (w.heap.size + 1, 25, PL)] (fun W' => S2 w.heap.size W' b_a b_b ⟨S, s, l, d, n⟩ ⟨S, s, l, d, n⟩ L2 L)] _ _ _ 2
        (V := fun u W' => ∃ bk, u = .pointer (some ⟨bk, 0, none⟩) ∧ w_55.heap.size ≤ bk ∧ Blk W' bk 44 ZP.toArray) (pf := TL w w_55.heap.size [(w.heap.size, 23, (cellsU8 S)), (w.heap.size + 1, 25, PL)] (fun W' => S2 w.heap.size W' b_a b_b ⟨S, s, l, d, n⟩ ⟨S, s, l, d, n⟩ L2 L)) (by kernel_rfl) ⟨?_, fun _ h => h⟩ ⟨Or.inl ⟨by kernel_rfl, fun w hS => by kernel_rfl⟩, Or.inl ⟨by kernel_rfl, fun w hS => by kernel_rfl⟩, Or.inl ⟨by kernel_rfl, fun w hS => by kernel_rfl⟩, trivial⟩ ?_ hdr_56.below hdr_56 ?_
      · intro W hS hp
        refine Or.inr ⟨15, #[.pointer (some ⟨b_a, 0, none⟩), .int .i64 cl.n, .string cl.t], by kernel_rfl, (cS.out W hS.size hp.sd).mono fun e W' ⟨he, h1, h2⟩ => ⟨he, hS.trans h2.below, hp.mv HKT_56 h2 h1, ?_⟩⟩
        rintro u ⟨bk, e1, e2, e3⟩
        exact ⟨bk, e1, e2, h2.keep (by decide) (by decide) (by decide) (by decide) e3⟩
      · intro q hq W hS hp
        simp only [List.mem_cons, List.not_mem_nil, or_false] at hq
        have hal := ba (Below.refl W.heap.size W) (.cells ZP.toArray 44)
        rcases hq with rfl | rfl
        · exact ⟨.pointer (some ⟨W.heap.size, 0, none⟩), W.alloc (.cells ZP.toArray 44), by rw [← HZP.out]; kernel_rfl, bt' hS hal hS.size, hp.bel hal (hp.sd.bel hal), ⟨_, rfl, hp.sz, Blk.new _ _ _⟩⟩
        · exact ⟨.pointer (some ⟨W.heap.size, 0, none⟩), W.alloc (.cells ZP.toArray 44), by rw [← HZP.out]; kernel_rfl, bt' hS hal hS.size, hp.bel hal (hp.sd.bel hal), ⟨_, rfl, hp.sz, Blk.new _ _ _⟩⟩
      rintro u W1_56 hS hp ⟨b_x, rfl, hbk, hkk⟩
      have hst := st_all (P := Try.prog) (w := W1_56) b_x 36 44 44 PK ZP info_pk hKl.out LZ.out hkk hKo.out
      have K_x := kp (hkk.row PK.toArray)
      have hT2 := hp.row HLT_56 hbk hWN_56 PK.toArray (S2.row hp.sd hkk ⟨by decide, by decide, by decide, by decide⟩ (gbrow W1_56 b_x PK.toArray))
      have HT_56 := kp hT2
      have hge_x := kp (Nat.le_trans hWN_56 hbk)
      change wpAnyH _ _ _ _ _ [16, 17].length _ _ _
      refine wpAnyH_of_seqE (by kernel_rfl) (fun _ _ d _ _ h => by cases d <;> exact h) [16, 17] _ _ _ hp.below (of_decide_eq_true (by kernel_rfl)) (by kernel_rfl) ?_
      refine stepS_skip (by kernel_rfl) (of_decide_eq_true (by kernel_rfl)) (by kernel_rfl) (exec_store 44 (.tmp 13) (.tmp 73) (by kernel_rfl) (pv := .pointer (some ⟨b_x, 0, none⟩)) (by kernel_rfl) (v := .agg PK.toArray) (by kernel_rfl) hst) hT2.below ?_
      refine stepS 14 (by kernel_rfl) (of_decide_eq_true (by kernel_rfl)) (by kernel_rfl) (v := .int .i64 ER) (by kernel_rfl) hT2.below ?_
      clear hst hT2 hp hS hkk hbk HLT_56 HKT_56 hWN_56 hdr_56 K_s K_p HB S_d
      generalize W1_56.setRow b_x PK.toArray = V_56 at K_x HT_56 ⊢
      have K_s : Kp (Blk V_56 (w.heap.size) 23 (cellsU8 S).toArray) := kp (HT_56.out.ks (w.heap.size, 23, (cellsU8 S)) (by simp))
      have K_p : Kp (Blk V_56 (w.heap.size + 1) 25 PL.toArray) := kp (HT_56.out.ks (w.heap.size + 1, 25, PL) (by simp))
      have S_d := kp HT_56.out.sd
      have HB := kp HT_56.out.below
      clear HT_56
      unfold wpListS
      dsimp only [Exit.then, putAll, Act.put]
      simp only [List.setIfInBounds_toArray, List.set_cons_succ, List.set_cons_zero]
      by_cases hE0 : ER = 0
      rotate_left
      · have d5 : (ER == 0) = false := by simpa using hE0
        have d6 : (ER != 0) = true := by simpa using hE0
        have hkz := (hBD.out hE0).2
        clear hGB hBD cS cT
        go_wp2_with fail
        refine (cL.out _ _ S_d.out).mono ?_
        rintro e w_z ⟨rfl, rfl⟩
        subst hkz
        clear cL
        go_wp2
        go_roundw
        case measure => simp [intOf]; omega
        case rel => exact ⟨j + 1, L2, by omega, by omega, rfl, by congr 1, S_d, K_s, K_p, HB⟩
      subst hE0
      obtain ⟨i, hat, hi1, hi2, hLi, hts, hNi, hKi⟩ := hGB.out rfl
      subst hNi
      have y0' : Kp (PK[0]? = some (.int .i64 (L2 : Int))) := kp (by rw [hKi]; rfl)
      clear hat hBD hGB cS hKi
      go_upto_region 19 with (fail)
      have hdr_57 : TL w V_56.heap.size [(w.heap.size, 23, (cellsU8 S)), (w.heap.size + 1, 25, PL), (b_x, 44, PK)] (fun W' => S2 w.heap.size W' b_a b_b ⟨S, s, l, d, n⟩ ⟨S, s, l, d, n⟩ L2 L) { V_56 with drawn := V_56.drawn + 1 } := ⟨fun k hk => by
        simp only [List.mem_cons, List.not_mem_nil, or_false] at hk
        rcases hk with rfl | rfl | rfl
        · exact K_s.out.bel (Below.refl _ _).drew
        · exact K_p.out.bel (Below.refl _ _).drew
        · exact K_x.out.bel (Below.refl _ _).drew, S_d.out.bel (Below.refl _ _).drew, bt' HB.out (Below.refl _ _).drew HB.out.size, Nat.le_refl _⟩
      have HKT_57 : ∀ k ∈ ([(w.heap.size, 23, (cellsU8 S)), (w.heap.size + 1, 25, PL), (b_x, 44, PK)] : List (Nat × TypeId × List Value)), okT4 k.2.1 := fun k hk => by
        simp only [List.mem_cons, List.not_mem_nil, or_false] at hk
        rcases hk with rfl | rfl | rfl <;> (unfold okT4; dsimp only; decide)
      have HLT_57 : ∀ k ∈ ([(w.heap.size, 23, (cellsU8 S)), (w.heap.size + 1, 25, PL), (b_x, 44, PK)] : List (Nat × TypeId × List Value)), k.1 < V_56.heap.size := fun k hk => by
        simp only [List.mem_cons, List.not_mem_nil, or_false] at hk
        rcases hk with rfl | rfl | rfl
        · exact K_s.out.lt
        · exact K_p.out.lt
        · exact K_x.out.lt
      have hWN_57 := HB.out.size
      refine wp_region_held (S := fun W' => Below w.heap.size w W') (by kernel_rfl) ?_
      change wpAnyH _ _ _ _ _ 18 _ _ _
      refine takeAll (by kernel_rfl) (fun _ _ d _ _ h => by cases d <;> exact h) [(0, 82), (1, 83), (2, 84), (3, 85), (4, 86), (5, 87), (6, 88), (7, 89), (8, 90), (9, 91), (10, 92)] [.pointer (some ⟨b_b, 0, none⟩), .slice (some ⟨lb, lo, none⟩) l9.length cp, .int .i64 (j : Int), .pointer (some ⟨lb, lo + j * 2, none⟩), .pointer (some ⟨lb, lo + j * 2, none⟩), .int .i64 cl.n, .slice (some ⟨lb, lo, none⟩) l9.length cp, .int .i64 (j : Int), .pointer (some ⟨lb, lo + j * 2, none⟩), .pointer (some ⟨lb, lo + j * 2 + 1, none⟩), .string cl.t] _ _ _ 7 (by kernel_rfl)
        ⟨Or.inl ⟨by kernel_rfl, fun w hS => by kernel_rfl⟩, Or.inl ⟨by kernel_rfl, fun w hS => by kernel_rfl⟩, Or.inl ⟨by kernel_rfl, fun w hS => by kernel_rfl⟩,
         Or.inl ⟨by kernel_rfl, fun w hS => exec_index (t := 26) (e := 39) (x := .tmp 83) (i := .tmp 84) (b := lb) (off := lo) (len := l9.length) (cap := cp) (j := j) (by kernel_rfl) Try.underlying26 info_call (by kernel_rfl) (by kernel_rfl) hjl w⟩,
         Or.inl ⟨by kernel_rfl, fun w hS => by kernel_rfl⟩,
         Or.inl ⟨by kernel_rfl, fun w hS => exec_load (ty := 2) (x := .tmp 86) (by kernel_rfl) (pv := .pointer (some ⟨lb, lo + j * 2, none⟩)) (by kernel_rfl) (ld_one Try.underlying2 rfl (HeldC.at (cap := 0) (n := 0) HHELD.out hS hcj).1)⟩,
         Or.inl ⟨by kernel_rfl, fun w hS => by kernel_rfl⟩, Or.inl ⟨by kernel_rfl, fun w hS => by kernel_rfl⟩,
         Or.inl ⟨by kernel_rfl, fun w hS => exec_index (t := 26) (e := 39) (x := .tmp 88) (i := .tmp 89) (b := lb) (off := lo) (len := l9.length) (cap := cp) (j := j) (by kernel_rfl) Try.underlying26 info_call (by kernel_rfl) (by kernel_rfl) hjl w⟩,
         Or.inl ⟨by kernel_rfl, fun w hS => by kernel_rfl⟩,
         Or.inl ⟨by kernel_rfl, fun w hS => exec_load (ty := 9) (x := .tmp 91) (by kernel_rfl) (pv := .pointer (some ⟨lb, lo + j * 2 + 1, none⟩)) (by kernel_rfl) (ld_one Try.underlying9 rfl (HeldC.at (cap := 0) (n := 0) HHELD.out hS hcj).2.1)⟩, trivial⟩ hdr_57.below ?_
      refine combE (by kernel_rfl) (fun _ _ d _ _ h => by cases d <;> exact h) 15 15 (of_decide_eq_true (by kernel_rfl)) (by kernel_rfl) (by kernel_rfl) [(12, 81), (13, 94), (14, 95)] [.tuple #[.agg PK.toArray, .int .i64 0], .agg PK.toArray, .int .i64 0] [(11, 93)] [.tuple #[.agg PK.toArray, .int .i64 0]] (TL w V_56.heap.size [(w.heap.size, 23, (cellsU8 S)), (w.heap.size + 1, 25, PL), (b_x, 44, PK)] (fun W' => S2 w.heap.size W' b_a b_b ⟨S, s, l, d, n⟩ ⟨S, s, l, d, n⟩ L2 L)) [TL w V_56.heap.size [(w.heap.size, 23, (cellsU8 S)), (w.heap.size + 1, 25, PL), (b_x, 44, PK)] (fun W' => S2 w.heap.size W' b_a b_b ⟨S, s, l, d, n⟩ ⟨S, s, l, d, n⟩ L2 L2)] _ _ _ 2
        (V := fun u W' => ∃ bk, u = .pointer (some ⟨bk, 0, none⟩) ∧ V_56.heap.size ≤ bk ∧ Blk W' bk 44 ZP.toArray) (pf := TL w V_56.heap.size [(w.heap.size, 23, (cellsU8 S)), (w.heap.size + 1, 25, PL), (b_x, 44, PK)] (fun W' => S2 w.heap.size W' b_a b_b ⟨S, s, l, d, n⟩ ⟨S, s, l, d, n⟩ L2 L2)) (by kernel_rfl) ⟨?_, fun _ h => h⟩ ⟨Or.inl ⟨by kernel_rfl, fun w hS => by kernel_rfl⟩, Or.inl ⟨by kernel_rfl, fun w hS => by kernel_rfl⟩, Or.inl ⟨by kernel_rfl, fun w hS => by kernel_rfl⟩, trivial⟩ ?_ hdr_57.below hdr_57 ?_
      · intro W hS hp
        refine Or.inr ⟨15, #[.pointer (some ⟨b_b, 0, none⟩), .int .i64 cl.n, .string cl.t], by kernel_rfl, (cT.out W hS.size hp.sd).mono fun e W' ⟨he, h1, h2⟩ => ⟨he, hS.trans h2.below, hp.mv HKT_57 h2 h1, ?_⟩⟩
        rintro u ⟨bk, e1, e2, e3⟩
        exact ⟨bk, e1, e2, h2.keep (by decide) (by decide) (by decide) (by decide) e3⟩
      · intro q hq W hS hp
        simp only [List.mem_cons, List.not_mem_nil, or_false] at hq
        have hal := ba (Below.refl W.heap.size W) (.cells ZP.toArray 44)
        rcases hq with rfl | rfl
        · exact ⟨.pointer (some ⟨W.heap.size, 0, none⟩), W.alloc (.cells ZP.toArray 44), by rw [← HZP.out]; kernel_rfl, bt' hS hal hS.size, hp.bel hal (hp.sd.bel hal), ⟨_, rfl, hp.sz, Blk.new _ _ _⟩⟩
        · exact ⟨.pointer (some ⟨W.heap.size, 0, none⟩), W.alloc (.cells ZP.toArray 44), by rw [← HZP.out]; kernel_rfl, bt' hS hal hS.size, hp.bel hal (hp.sd.bel hal), ⟨_, rfl, hp.sz, Blk.new _ _ _⟩⟩
      rintro u W1_57 hS hp ⟨b_y, rfl, hbk, hkk⟩
      have hst := st_all (P := Try.prog) (w := W1_57) b_y 36 44 44 PK ZP info_pk hKl.out LZ.out hkk hKo.out
      have K_y := kp (hkk.row PK.toArray)
      have hT2 := hp.row HLT_57 hbk hWN_57 PK.toArray (S2.row hp.sd hkk ⟨by decide, by decide, by decide, by decide⟩ (gbrow W1_57 b_y PK.toArray))
      have HT_57 := kp hT2
      have hge_y := kp (Nat.le_trans hWN_57 hbk)
      change wpAnyH _ _ _ _ _ [16, 17].length _ _ _
      refine wpAnyH_of_seqE (by kernel_rfl) (fun _ _ d _ _ h => by cases d <;> exact h) [16, 17] _ _ _ hp.below (of_decide_eq_true (by kernel_rfl)) (by kernel_rfl) ?_
      refine stepS_skip (by kernel_rfl) (of_decide_eq_true (by kernel_rfl)) (by kernel_rfl) (exec_store 44 (.tmp 15) (.tmp 94) (by kernel_rfl) (pv := .pointer (some ⟨b_y, 0, none⟩)) (by kernel_rfl) (v := .agg PK.toArray) (by kernel_rfl) hst) hT2.below ?_
      refine stepS 16 (by kernel_rfl) (of_decide_eq_true (by kernel_rfl)) (by kernel_rfl) (v := .int .i64 0) (by kernel_rfl) hT2.below ?_
      clear hst hT2 hp hS hkk hbk HLT_57 HKT_57 hWN_57 hdr_57 K_s K_p K_x HB S_d
      generalize W1_57.setRow b_y PK.toArray = V_57 at K_y HT_57 ⊢
      have K_s : Kp (Blk V_57 (w.heap.size) 23 (cellsU8 S).toArray) := kp (HT_57.out.ks (w.heap.size, 23, (cellsU8 S)) (by simp))
      have K_p : Kp (Blk V_57 (w.heap.size + 1) 25 PL.toArray) := kp (HT_57.out.ks (w.heap.size + 1, 25, PL) (by simp))
      have K_x : Kp (Blk V_57 (b_x) 44 PK.toArray) := kp (HT_57.out.ks (b_x, 44, PK) (by simp))
      have S_d := kp HT_57.out.sd
      have HB := kp HT_57.out.below
      clear HT_57
      unfold wpListS
      dsimp only [Exit.then, putAll, Act.put]
      simp only [List.setIfInBounds_toArray, List.set_cons_succ, List.set_cons_zero]
      go_upto_region 20 with (fail)
      have y0 := K_x.out.atL y0'.out
      have lx := K_x.out.lt
      have g1 : ¬ (L2 : Int) < (L : Int) := by omega
      have g2 : decide ((L2 : Int) < (L : Int)) = false := decide_eq_false g1
      have g3 : ¬ L2 < L := by omega
      have g4 : decide (L2 < L) = false := decide_eq_false g3
      refine wp_region_ext [0, 1, 2, 3, 4, 5, 6, 7, 8, 9, 10, 11, 12, 13, 14, 15, 16, 17, 18] [19] (by kernel_rfl) (by kernel_rfl) ?_
      simp only [List.append_eq, List.cons_append, List.nil_append, List.map_cons, List.map_nil, List.getD_cons_succ, List.getD_cons_zero]
      have HX := kp (fun x => S_d.out.bel (ext_below V_57 x))
      have Q_x := kp (fun x => ld_all (P := Try.prog) b_x 36 44 44 PK _ Try.underlying44 rfl info_pk hKl.out (K_x.out.bel (ext_below V_57 x)))
      have Q_y := kp (fun x => ld_all (P := Try.prog) b_y 36 44 44 PK _ Try.underlying44 rfl info_pk hKl.out (K_y.out.bel (ext_below V_57 x)))
      repeat (first
        | (go_big_quiet_want; refine quiet_load _ rfl 44 _ rfl rfl (fun w hw => by obtain ⟨x, rfl⟩ := hw; exact Q_x.out x) ?_; go_simp; go_big_quiet_on)
        | (go_big_quiet_want; refine quiet_load _ rfl 44 _ rfl rfl (fun w hw => by obtain ⟨x, rfl⟩ := hw; exact Q_y.out x) ?_; go_simp; go_big_quiet_on)
        | (go_big_quiet_want; refine quiet_val 107 rfl (.bool false) (fun w _ => exec_pk_ne rfl hIP.out rfl rfl w) ?_; go_simp; go_big_quiet_on)
        | go_big_quiet_step (first | (go_at_call 17; with_reducible exact Calls.ext_same (cL.out _ _ (HX.out _)))))
      refine wpQuiet_nil ?_
      rintro z
      have S_d := kp (S_d.out.bel (ext_below V_57 z))
      have K_s := kp (K_s.out.bel (ext_below V_57 z))
      have K_p := kp (K_p.out.bel (ext_below V_57 z))
      have K_x := kp (K_x.out.bel (ext_below V_57 z))
      have HB := kp (bt' HB.out (ext_below V_57 z) HB.out.size)
      clear y0 lx Q_x Q_y K_y HX
      generalize V_57.ext z = V9 at S_d K_s K_p K_x HB ⊢
      have y0 := K_x.out.atL y0'.out
      have lx := K_x.out.lt
      go_wp2
      go_roundw
      case measure => simp [intOf]; omega
      case rel => exact ⟨j + 1, L2, by omega, by omega, rfl, by congr 1, S_d, K_s, K_p, HB⟩
    · skip
      rcases Decidable.em ((j : Int) < (l9.length : Int)) with h1 | h1
      · have d1 : decide ((j : Int) < (l9.length : Int)) = true := decide_eq_true h1
        have h2 : ¬ (j : Int) < 30 := by omega
        have d2 : decide ((j : Int) < 30) = false := decide_eq_false h2
        go_wp2
        go_ret
        exact ⟨rfl, HB.out⟩
      · have d1 : decide ((j : Int) < (l9.length : Int)) = false := decide_eq_false h1
        go_wp2
        go_ret
        exact ⟨rfl, HB.out⟩
end Go.Proofs.Ytmnbnjiipnocaaa
