/- Texts laid together: Rcv11, Snd2, Snd3, Snd4, RegC, RegH. -/
import Derived.OrdersHeld
import Derived.Test.YtmblknknbbdmeaaGreatRcb9
/- receiver: Got. -/
namespace Go.Proofs.YtmblknknbbdmeaaGreat
open Go Go.RowKit Go.Maps
set_option linter.unusedVariables false
set_option linter.unusedSimpArgs false
attribute [local go_sem] bmax2 bmin2 bmax bmin cell_ext frozen_ext

/-- what Got does when the key is learnt -/
def gotT (S : RS) (iv : Int) (t g : ByteArray) (lt : Int) : RS × Int :=
  if ¬ lt < S.1.s + (iv + S.1.d - 1) * S.1.l then (S, 14)
  else if bs t ∈ S.1.bl iv then (S, 11)
  else (({ S.1 with B := (putP S.1.B iv (bs (g ++ t))).2 }, S.2), (putP S.1.B iv (bs (g ++ t))).1)
/-- Got, plainly -/
def gotP (R : Rc) (iv : Int) (t g : ByteArray) (tl : Int) (K : List UInt8) (lt : Int) : RS × Int :=
  if fitsP R iv t g tl K = false then ((R, []), 2)
  else if 0 < tl then (if (lrnP R K tl).2 = 0 then gotT (lrnP R K tl).1 iv t g lt else ((R, []), (lrnP R K tl).2))
  else gotT (R, []) iv t g lt
theorem lrnP_same (R : Rc) (k : List UInt8) (i : Int) : (lrnP R k i).1.1.s = R.s ∧ (lrnP R k i).1.1.l = R.l ∧ (lrnP R k i).1.1.d = R.d ∧ (lrnP R k i).1.1.c = R.c ∧ (lrnP R k i).1.1.most = R.most ∧ ((lrnP R k i).2 ≠ 0 → (lrnP R k i).1 = (R, [])) := by
  unfold lrnP
  split
  · exact ⟨rfl, rfl, rfl, rfl, rfl, fun _ => rfl⟩
  · split
    · exact ⟨rfl, rfl, rfl, rfl, rfl, fun _ => rfl⟩
    · split
      · obtain ⟨a, b, c, d, _, _, e⟩ := blv_same { R with K := k, a := i }
        exact ⟨a, b, c, d, e, fun h => absurd rfl h⟩
      · exact ⟨rfl, rfl, rfl, rfl, rfl, fun _ => rfl⟩
/-- whether a text of an interval is believed, as the walk reads it -/
theorem RV.seen {w : World} {M : Rm} {R : Rc} (h : RV w M R) (i : Int) (hi : (kI i).wf = true) (t : ByteArray) (ht : t.size ≤ maxLen) : ∃ v, (∀ x, (Instr.lookup 136 (.map (some M.gb)) (.int .i64 i) false).run Tryz.prog (w.ext x) = .ok v (w.ext x)) ∧ ∀ x, (Instr.lookup 79 v (.string t) false).run Tryz.prog (w.ext x) = .ok (.bool (decide (bs t ∈ R.bl i))) (w.ext x) := by
  rcases h.sets i with ⟨h1, h2⟩ | ⟨g, k, h1, h3, h4⟩
  · refine ⟨.map none, fun x => ?_, fun x => ?_⟩
    · have := (h.bel (ext_below w x)).im.look1 i hi
      rw [h1] at this
      exact this
    · rw [h2]; exact look_none t ht _
  · refine ⟨.map (some g), fun x => ?_, fun x => ?_⟩
    · have := (h.bel (ext_below w x)).im.look1 i hi
      rw [h1] at this
      exact this
    · exact (h4.bel (ext_below w x)).drw.look t ht
theorem bs_size (t : ByteArray) : (bs t).length = t.size := by simp [bs]
theorem sz_add (a b : ByteArray) : (a ++ b).size = a.size + b.size := by simp
set_option maxHeartbeats 4000000 in
set_option maxRecDepth 100000 in
theorem R_Got (N : Nat) (hN : N ≤ 40000) (w : World) (M : Rm) (R : Rc) (H : RR N w M R) (iv : Int) (t g : ByteArray) (tl : Int) (K : List UInt8) (hK : K.length = 32) (lt : Int) (htl : tl ≤ 9223372036854775807) : Calls Tryz.prog 31 #[.pointer (some ⟨M.rb, 0, none⟩), .agg (pkL iv t g tl K).toArray, .int .i64 lt] w (LrnEnd (N + 1) w M (gotP R iv t g tl K lt)) := by
  have HB := kp (ba (Below.refl w.heap.size w) (.cells (pkL iv t g tl K).toArray 40))
  have HH := kp (H.bel HB.out)
  have HPB := kp (Blk.new w 40 (pkL iv t g tl K).toArray)
  have HKL := kp hK
  clear H
  have HPL := kp (pkL_length (iv := iv) (t := t) (g := g) (tl := tl) hK)
  clear hK
  obtain ⟨S, hS⟩ : ∃ S, gotP R iv t g tl K lt = S := ⟨_, rfl⟩
  rw [hS]
  have HS := kp hS
  clear hS
  have cF := kp (fun (V : World) (hv : RV V M R) => R_fits V M R iv t g tl K HKL.out hv HH.out.ok.ok.may)
  have cL := kp (fun (V : World) (hv : RR N V M R) => R_Learn N (by omega) V M R hv K HKL.out tl htl)
  obtain ⟨PK, hPK⟩ : ∃ PK, pkL iv t g tl K = PK := ⟨_, rfl⟩
  have p0 : Kp (PK[0]? = some (.int .i64 iv)) := kp (by rw [← hPK]; rfl)
  have p1 : Kp (PK[1]? = some (.string t)) := kp (by rw [← hPK]; rfl)
  have p2 : Kp (PK[2]? = some (.string g)) := kp (by rw [← hPK]; rfl)
  have p3 : Kp (PK[3]? = some (.int .i64 tl)) := kp (by rw [← hPK]; rfl)
  have pk : Kp (∀ j v, (cellsU8 K)[j]? = some v → PK[4 + j]? = some v) := kp (fun j v hv => by rw [← hPK]; show (([.int .i64 iv, .string t, .string g, .int .i64 tl] : List Value) ++ cellsU8 K)[4 + j]? = some v; rw [List.getElem?_append_right (by simp)]; simpa using hv)
  rw [hPK] at HB HH HPB HPL cF ⊢
  clear hPK
  obtain ⟨rb, hrb⟩ : ∃ rb, M.rb = rb := ⟨_, rfl⟩
  have HRB := kp hrb
  rw [hrb] at cF cL ⊢
  clear hrb
  have HN := kp hN
  clear hN
  go_enter Tryz.func31, Tryz.ntmps31
  go_upto_region 1 with (fail)
  change Code.wp _ _ _ _ (w.alloc (.cells PK.toArray 40))
  generalize w.alloc (.cells PK.toArray 40) = W at HB HH HPB ⊢
  have hbw := HPB.out.lt
  obtain ⟨bp, hbp⟩ : ∃ bp, w.heap.size = bp := ⟨_, rfl⟩
  have HBP := kp hbp
  rw [hbp] at HPB hbw ⊢
  clear hbp
  have LP := ld_all (P := Tryz.prog) bp 36 40 40 PK _ Tryz.underlying40 rfl info_pk HPL.out HPB.out
  obtain ⟨ft, hft⟩ : ∃ ft, fitsP R iv t g tl K = ft := ⟨_, rfl⟩
  have HFT := kp hft
  rw [hft] at cF
  clear hft
  cases ft with
  | false =>
    have e9 : Kp (((R, []), 2) = S) := kp (by
      have h := HS.out
      unfold gotP at h
      rw [HFT.out, if_pos rfl] at h
      exact h)
    have e10 := e9.out
    subst e10
    go_wp2_with (first | (refine wpL_load rfl 40 _ rfl rfl LP ?_) | (go_at_call 65; refine (cF.out _ HH.out.rv).mono ?_; rintro e1 w1 ⟨rfl, hb1⟩; have HB1 := kp (bt' HB.out hb1 HB.out.size); have HH1 := kp (HH.out.bel hb1); have HPB1 := kp (HPB.out.bel hb1); clear hb1 LP hbw))
    go_ret2
    exact lrn_nil (HH1.out.mono (Nat.le_succ _)) HB1.out _
  | true =>
    have hfit := of_decide_eq_true HFT.out
    have HIV0 : Kp (1 ≤ iv ∧ iv ≤ R.c) := kp ⟨hfit.1, hfit.2.1⟩
    have HGZ : Kp (g.size = 16 ∧ t.size ≤ 1000) := kp ⟨hfit.2.2.1, hfit.2.2.2.1⟩
    have HIW : Kp ((kI iv).wf = true) := kp (by have := mayP_iff.1 HH.out.ok.ok.may; exact kI_wf (by omega) (by omega))
    have HTZ : Kp (t.size ≤ maxLen) := kp (by have := HGZ.out; unfold maxLen; omega)
    clear hfit
    by_cases htl0 : 0 < tl
    · obtain ⟨L, hL⟩ : ∃ L, lrnP R K tl = L := ⟨_, rfl⟩
      have hsm := lrnP_same R K tl
      have HG : Kp ((if L.2 = 0 then gotT L.1 iv t g lt else ((R, []), L.2)) = S) := kp (by
        have h := HS.out
        unfold gotP at h
        rw [HFT.out, if_neg (by decide), if_pos htl0, hL] at h
        exact h)
      rw [hL] at hsm cL
      have HSM := kp hsm
      clear hsm hL
      obtain ⟨⟨R1, l1⟩, x⟩ := L
      have HIV : Kp (1 ≤ iv ∧ iv ≤ R1.c) := kp (by have := HIV0.out; have := HSM.out.2.2.2.1; rw [show R1.c = R.c from this]; omega)
      go_upto_region 4 with (first | (refine wpL_load rfl 40 _ rfl rfl LP ?_) | (go_at_call 65; refine (cF.out _ HH.out.rv).mono ?_; rintro e1 w1 ⟨rfl, hb1⟩; have HB1 := kp (bt' HB.out hb1 HB.out.size); have HH1 := kp (HH.out.bel hb1); have HPB1 := kp (HPB.out.bel hb1); clear hb1 LP hbw))
      have c3 := HPB1.out.atL p3.out
      have kbp := HPB1.out.lt
      have LK := ld_row (P := Tryz.prog) (w := w1) bp 4 32 27 (cellsU8 K) _ Tryz.underlying27 rfl info_key (key_cells K HKL.out) (fun j v hv => HPB1.out.atL (pk.out j v hv))
      go_upto_region 7 with (first | (refine wpL_load rfl 27 _ rfl rfl LK ?_) | (go_at_call 32; refine (cL.out _ HH1.out).mono ?_; rintro e2 V ⟨ad, cp, M1, rfl, hrr, hrs, hrw⟩; have HRR := kp hrr; have HRS := kp ((Rs.of_bel (M := M) HB1.out).trans hrs); have HRW := kp (hrw.mono HB1.out.size); have HPV := kp (HH1.out.rv.blkKept hrs HPB1.out (by decide) (by decide)); clear hrr hrs hrw c3 kbp LK))
      by_cases hx : x = 0
      · subst hx
        have HGT : Kp (gotT (R1, l1) iv t g lt = S) := kp (by have h := HG.out; rw [if_pos rfl] at h; exact h)
        have HRB1 : Kp (M1.rb = rb) := kp (HRS.out.rb.trans HRB.out)
        have hmy := HRR.out.ok.ok.may
        have cS := kp (fun w' => P_Safe R1.s R1.l R1.d R1.c iv lt hmy HIV.out.1 HIV.out.2 w')
        obtain ⟨sf, hsf⟩ : ∃ sf, decide (lt < R1.s + (iv + R1.d - 1) * R1.l) = sf := ⟨_, rfl⟩
        have HSF := kp hsf
        rw [hsf] at cS
        clear hsf hmy
        go_upto_region 9 with (fail)
        refine wp_region_ext [0, 1, 2, 3, 4, 5, 6, 7, 8] [9] (by kernel_rfl) (by kernel_rfl) ?_
        simp only [List.map_cons, List.map_nil, List.getD_cons_succ, List.getD_cons_zero]
        have LPl := kp (fun x => (HRR.out.rv.bel (ext_below V x)).ldPlan)
        rw [HRB1.out] at LPl
        have c0 := HPV.out.atL p0.out
        have kbp := HPV.out.lt
        have krb := HRR.out.rv.blk.lt
        rw [HRB1.out] at krb
        repeat (first
          | (go_big_quiet_want; refine quiet_load _ rfl 29 _ rfl rfl (fun w hw => by obtain ⟨x, rfl⟩ := hw; exact LPl.out x) ?_; go_simp; go_big_quiet_on)
          | go_big_quiet_step (first | (go_at_call 66; with_reducible exact Calls.ext_of (cS.out _))))
        refine wpQuiet_nil ?_
        rintro z
        have hbz := ext_below V z
        have HRR2 := kp (HRR.out.bel hbz)
        have HRS2 := kp (HRS.out.trans (Rs.of_bel hbz))
        have HRW2 := kp (HRW.out.bel hbz)
        have HPV2 := kp (HPV.out.bel hbz)
        clear hbz c0 kbp krb LPl HRR HRS HRW HPV cS
        generalize V.ext z = V2 at HRR2 HRS2 HRW2 HPV2 ⊢
        cases sf with
        | false =>
          have e9 : Kp (((R1, l1), 14) = S) := kp (by
            have h := HGT.out
            unfold gotT at h
            rw [if_pos (by have := of_decide_eq_false HSF.out; exact this)] at h
            exact h)
          have e10 := e9.out
          subst e10
          go_wp2
          go_ret2
          exact ⟨ad, cp, M1, rfl, HRR2.out.mono (Nat.le_succ _), HRS2.out, HRW2.out⟩
        | true =>
          have e9 : Kp ((if bs t ∈ R1.bl iv then ((R1, l1), 11) else (({ R1 with B := (putP R1.B iv (bs (g ++ t))).2 }, l1), (putP R1.B iv (bs (g ++ t))).1)) = S) := kp (by
            have h := HGT.out
            unfold gotT at h
            rw [if_neg (by have := of_decide_eq_true HSF.out; exact fun g => g this)] at h
            exact h)
          obtain ⟨vb, hl1, hl2⟩ := HRR2.out.rv.seen iv HIW.out t HTZ.out
          obtain ⟨x1, x2, x3, x4, x5, x6, krb⟩ := HRR2.out.rv.cells
          have c0 := HPV2.out.atL p0.out
          have c1 := HPV2.out.atL p1.out
          have kbp := HPV2.out.lt
          rw [HRB1.out] at x4 krb
          clear x1 x2 x3 x5 x6
          obtain ⟨bd, hbd⟩ : ∃ bd, decide (bs t ∈ R1.bl iv) = bd := ⟨_, rfl⟩
          have HBD := kp hbd
          rw [hbd] at hl2
          clear hbd HSF HGT
          go_upto_region 11 with (fail)
          refine wp_region_ext [0, 1, 2, 3, 4, 5, 6, 7, 8, 9] [10] (by kernel_rfl) (by kernel_rfl) ?_
          simp only [List.map_cons, List.map_nil, List.getD_cons_succ, List.getD_cons_zero]
          repeat (go_big_quiet_step (fail))
          refine wpQuiet_nil ?_
          rintro z2
          have hbz := ext_below V2 z2
          have HRR3 := kp (HRR2.out.bel hbz)
          have HRS3 := kp (HRS2.out.trans (Rs.of_bel hbz))
          have HRW3 := kp (HRW2.out.bel hbz)
          have HPV3 := kp (HPV2.out.bel hbz)
          clear hbz c0 c1 kbp krb x4 hl1 hl2 HRR2 HRS2 HRW2 HPV2
          generalize V2.ext z2 = V3 at HRR3 HRS3 HRW3 HPV3 ⊢
          cases bd with
          | true =>
            have e10 := e9.out
            rw [if_pos (of_decide_eq_true HBD.out)] at e10
            subst e10
            go_wp2
            go_ret2
            exact ⟨ad, cp, M1, rfl, HRR3.out.mono (Nat.le_succ _), HRS3.out, HRW3.out⟩
          | false =>
            have e10 := e9.out
            rw [if_neg (of_decide_eq_false HBD.out)] at e10
            have cP := kp (fun (V : World) (hv : RV V M1 R1) => R_Put N (by have := HN.out; omega) V M1 R1 hv HRR3.out.ok.ok iv HIV.out.1 HIV.out.2 (g ++ t) (by have := HGZ.out; rw [sz_add]; omega))
            obtain ⟨pq, hpq⟩ : ∃ pq, putP R1.B iv (bs (g ++ t)) = pq := ⟨_, rfl⟩
            have HPQ := kp hpq
            rw [hpq] at cP e10
            clear hpq e9
            subst e10
            go_upto_region 13 with (fail)
            refine wp_region_earlyE [0] [0, 1, 2, 3, 4, 5, 6, 7, 8, 9, 10, 11] [] [12, 13, 14] 65 (fun _ _ _ => True) (fun _ _ => True) (by kernel_rfl) (by kernel_rfl) rfl (fun i v W W' h hb => h) ?_
            apply Exists.intro
            refine ⟨fun W4 hW4 => ?_, ?_, ?_⟩
            · obtain ⟨x1, x2, x3, x4, x5, x6, krb⟩ := (HRR3.out.rv.bel hW4).cells
              have c0 := (HPV3.out.bel hW4).atL p0.out
              have c1 := (HPV3.out.bel hW4).atL p1.out
              have c2 := (HPV3.out.bel hW4).atL p2.out
              have kbp := (HPV3.out.bel hW4).lt
              have hcat : g.size + t.size ≤ 1099511000 := by have := HGZ.out; omega
              rw [HRB1.out] at x3 krb
              clear x1 x2 x4 x5 x6
              simp only [List.map_cons, List.map_nil, List.getD_cons_succ, List.getD_cons_zero]
              repeat (go_big_quiet_step (fail))
              exact wpQuiet_nil rfl
            · exact trivial
            · simp only [List.map_cons, List.map_nil, List.getD_cons_succ, List.getD_cons_zero, TailX]
              intro W5 hW5 _
              have HRR4 := kp (HRR3.out.bel hW5)
              have HRS4 := kp (HRS3.out.trans (Rs.of_bel hW5))
              have HRW4 := kp (HRW3.out.bel hW5)
              clear hW5 HRR3 HRS3 HRW3 HPV3
              go_wp2_with (first | (go_at_call 67; refine (cP.out _ HRR4.out.rv).mono ?_; rintro e6 w6 ⟨rfl, M2, hv6, hs6, hm6⟩; have HV6 := kp hv6; have HS6 := kp hs6; have HM6 := kp hm6; clear hv6 hs6 hm6))
              go_ret2
              have hput := HRR4.out.ok.put HIV.out.1 HIV.out.2 (t := bs (g ++ t)) (by rw [bs_size, sz_add]; have := HGZ.out; omega)
              have hcs := putP_cases R1.B iv (bs (g ++ t))
              rw [HPQ.out] at hput hcs
              refine ⟨ad, cp, M2, rfl, ⟨HV6.out, hput, ?_⟩, HRS4.out.trans HS6.out, HRR4.out.rv.rwKept HS6.out HRW4.out (by decide) (by decide)⟩
              have h1 := HRR4.out.m
              have h2 := HM6.out
              have h3 : pq.2.sz ≤ R1.B.sz + 1 := by
                rcases hcs with ⟨_, h⟩ | ⟨_, h⟩ | ⟨_, ⟨ts, _, _, _, h⟩ | ⟨_, _, h⟩⟩ <;> rw [h] <;> show _ ≤ R1.B.sz + 1
                · omega
                · show R1.B.sz ≤ _; omega
                · exact Int.le_refl _
                · exact Int.le_refl _
              show (M2.m : Int) + pq.2.sz ≤ ((N + 1 : Nat) : Int)
              omega
      · have e9 : Kp (((R, []), x) = S) := kp (by have h := HG.out; rw [if_neg hx] at h; exact h)
        have e10 := e9.out
        subst e10
        have h0 := HSM.out.2.2.2.2.2 hx
        have hR1 : R1 = R := congrArg Prod.fst h0
        have hl1 : l1 = [] := congrArg Prod.snd h0
        subst hR1
        subst hl1
        go_wp2
        go_ret2
        exact ⟨none, 0, M1, rfl, HRR.out.mono (Nat.le_succ _), HRS.out, Rw.nil _ _ _ _⟩
    · have HGT : Kp (gotT (R, []) iv t g lt = S) := kp (by
        have h := HS.out
        unfold gotP at h
        rw [HFT.out, if_neg (by decide), if_neg htl0] at h
        exact h)
      go_upto_region 4 with (first | (refine wpL_load rfl 40 _ rfl rfl LP ?_) | (go_at_call 65; refine (cF.out _ HH.out.rv).mono ?_; rintro e1 w1 ⟨rfl, hb1⟩; have HB1 := kp (bt' HB.out hb1 HB.out.size); have HH1 := kp (HH.out.bel hb1); have HPB1 := kp (HPB.out.bel hb1); clear hb1 LP hbw))
      have c3 := HPB1.out.atL p3.out
      have kbp := HPB1.out.lt
      go_upto_region 9 with (fail)
      clear c3 kbp
      have HRB1 := HRB
      have HIV := HIV0
      have HRR := HH1
      have HRS := kp (Rs.of_bel (M := M) HB1.out)
      have HRW := kp (Rw.nil w.heap.size w1 71 2)
      have HPV := HPB1
      have hmy := HRR.out.ok.ok.may
      have cS := kp (fun w' => P_Safe R.s R.l R.d R.c iv lt hmy HIV.out.1 HIV.out.2 w')
      obtain ⟨sf, hsf⟩ : ∃ sf, decide (lt < R.s + (iv + R.d - 1) * R.l) = sf := ⟨_, rfl⟩
      have HSF := kp hsf
      rw [hsf] at cS
      clear hsf hmy
      refine wp_region_ext [0, 1, 2, 3, 4, 5, 6, 7, 8] [9] (by kernel_rfl) (by kernel_rfl) ?_
      simp only [List.map_cons, List.map_nil, List.getD_cons_succ, List.getD_cons_zero]
      have LPl := kp (fun x => (HRR.out.rv.bel (ext_below w1 x)).ldPlan)
      rw [HRB1.out] at LPl
      have c0 := HPV.out.atL p0.out
      have kbp := HPV.out.lt
      have krb := HRR.out.rv.blk.lt
      rw [HRB1.out] at krb
      repeat (first
        | (go_big_quiet_want; refine quiet_load _ rfl 29 _ rfl rfl (fun w hw => by obtain ⟨x, rfl⟩ := hw; exact LPl.out x) ?_; go_simp; go_big_quiet_on)
        | go_big_quiet_step (first | (go_at_call 66; with_reducible exact Calls.ext_of (cS.out _))))
      refine wpQuiet_nil ?_
      rintro z
      have hbz := ext_below w1 z
      have HRR2 := kp (HRR.out.bel hbz)
      have HRS2 := kp (HRS.out.trans (Rs.of_bel hbz))
      have HRW2 := kp (HRW.out.bel hbz)
      have HPV2 := kp (HPV.out.bel hbz)
      clear hbz c0 kbp krb LPl HRR HRS HRW HPV cS
      generalize w1.ext z = V2 at HRR2 HRS2 HRW2 HPV2 ⊢
      cases sf with
      | false =>
        have e9 : Kp (((R, []), 14) = S) := kp (by
          have h := HGT.out
          unfold gotT at h
          rw [if_pos (by have := of_decide_eq_false HSF.out; exact this)] at h
          exact h)
        have e10 := e9.out
        subst e10
        go_wp2
        go_ret2
        exact ⟨none, 0, M, rfl, HRR2.out.mono (Nat.le_succ _), HRS2.out, HRW2.out⟩
      | true =>
        have e9 : Kp ((if bs t ∈ R.bl iv then ((R, []), 11) else (({ R with B := (putP R.B iv (bs (g ++ t))).2 }, []), (putP R.B iv (bs (g ++ t))).1)) = S) := kp (by
          have h := HGT.out
          unfold gotT at h
          rw [if_neg (by have := of_decide_eq_true HSF.out; exact fun g => g this)] at h
          exact h)
        obtain ⟨vb, hlk1, hl2⟩ := HRR2.out.rv.seen iv HIW.out t HTZ.out
        obtain ⟨x1, x2, x3, x4, x5, x6, krb⟩ := HRR2.out.rv.cells
        have c0 := HPV2.out.atL p0.out
        have c1 := HPV2.out.atL p1.out
        have kbp := HPV2.out.lt
        rw [HRB1.out] at x4 krb
        clear x1 x2 x3 x5 x6
        obtain ⟨bd, hbd⟩ : ∃ bd, decide (bs t ∈ R.bl iv) = bd := ⟨_, rfl⟩
        have HBD := kp hbd
        rw [hbd] at hl2
        clear hbd HSF HGT
        go_upto_region 11 with (fail)
        refine wp_region_ext [0, 1, 2, 3, 4, 5, 6, 7, 8, 9] [10] (by kernel_rfl) (by kernel_rfl) ?_
        simp only [List.map_cons, List.map_nil, List.getD_cons_succ, List.getD_cons_zero]
        repeat (go_big_quiet_step (fail))
        refine wpQuiet_nil ?_
        rintro z2
        have hbz := ext_below V2 z2
        have HRR3 := kp (HRR2.out.bel hbz)
        have HRS3 := kp (HRS2.out.trans (Rs.of_bel hbz))
        have HRW3 := kp (HRW2.out.bel hbz)
        have HPV3 := kp (HPV2.out.bel hbz)
        clear hbz c0 c1 kbp krb x4 hlk1 hl2 HRR2 HRS2 HRW2 HPV2
        generalize V2.ext z2 = V3 at HRR3 HRS3 HRW3 HPV3 ⊢
        cases bd with
        | true =>
          have e10 := e9.out
          rw [if_pos (of_decide_eq_true HBD.out)] at e10
          subst e10
          go_wp2
          go_ret2
          exact ⟨none, 0, M, rfl, HRR3.out.mono (Nat.le_succ _), HRS3.out, HRW3.out⟩
        | false =>
          have e10 := e9.out
          rw [if_neg (of_decide_eq_false HBD.out)] at e10
          have cP := kp (fun (V : World) (hv : RV V M R) => R_Put N (by have := HN.out; omega) V M R hv HRR3.out.ok.ok iv HIV.out.1 HIV.out.2 (g ++ t) (by have := HGZ.out; rw [sz_add]; omega))
          obtain ⟨pq, hpq⟩ : ∃ pq, putP R.B iv (bs (g ++ t)) = pq := ⟨_, rfl⟩
          have HPQ := kp hpq
          rw [hpq] at cP e10
          clear hpq e9
          subst e10
          go_upto_region 13 with (fail)
          refine wp_region_earlyE [0] [0, 1, 2, 3, 4, 5, 6, 7, 8, 9, 10, 11] [] [12, 13, 14] 65 (fun _ _ _ => True) (fun _ _ => True) (by kernel_rfl) (by kernel_rfl) rfl (fun i v W W' h hb => h) ?_
          apply Exists.intro
          refine ⟨fun W4 hW4 => ?_, ?_, ?_⟩
          · obtain ⟨x1, x2, x3, x4, x5, x6, krb⟩ := (HRR3.out.rv.bel hW4).cells
            have c0 := (HPV3.out.bel hW4).atL p0.out
            have c1 := (HPV3.out.bel hW4).atL p1.out
            have c2 := (HPV3.out.bel hW4).atL p2.out
            have kbp := (HPV3.out.bel hW4).lt
            have hcat : g.size + t.size ≤ 1099511000 := by have := HGZ.out; omega
            rw [HRB1.out] at x3 krb
            clear x1 x2 x4 x5 x6
            simp only [List.map_cons, List.map_nil, List.getD_cons_succ, List.getD_cons_zero]
            repeat (go_big_quiet_step (fail))
            exact wpQuiet_nil rfl
          · exact trivial
          · simp only [List.map_cons, List.map_nil, List.getD_cons_succ, List.getD_cons_zero, TailX]
            intro W5 hW5 _
            have HRR4 := kp (HRR3.out.bel hW5)
            have HRS4 := kp (HRS3.out.trans (Rs.of_bel hW5))
            have HRW4 := kp (HRW3.out.bel hW5)
            clear hW5 HRR3 HRS3 HRW3 HPV3
            go_wp2_with (first | (go_at_call 67; refine (cP.out _ HRR4.out.rv).mono ?_; rintro e6 w6 ⟨rfl, M2, hv6, hs6, hm6⟩; have HV6 := kp hv6; have HS6 := kp hs6; have HM6 := kp hm6; clear hv6 hs6 hm6))
            go_ret2
            have hput := HRR4.out.ok.put HIV.out.1 HIV.out.2 (t := bs (g ++ t)) (by rw [bs_size, sz_add]; have := HGZ.out; omega)
            have hcs := putP_cases R.B iv (bs (g ++ t))
            rw [HPQ.out] at hput hcs
            refine ⟨none, 0, M2, rfl, ⟨HV6.out, hput, ?_⟩, HRS4.out.trans HS6.out, HRR4.out.rv.rwKept HS6.out HRW4.out (by decide) (by decide)⟩
            have h1 := HRR4.out.m
            have h2 := HM6.out
            have h3 : pq.2.sz ≤ R.B.sz + 1 := by
              rcases hcs with ⟨_, h⟩ | ⟨_, h⟩ | ⟨_, ⟨ts, _, _, _, h⟩ | ⟨_, _, h⟩⟩ <;> rw [h] <;> show _ ≤ R.B.sz + 1
              · omega
              · show R.B.sz ≤ _; omega
              · exact Int.le_refl _
              · exact Int.le_refl _
            show (M2.m : Int) + pq.2.sz ≤ ((N + 1 : Nat) : Int)
            omega
end Go.Proofs.YtmblknknbbdmeaaGreat
/- sender: a key kept; key. -/
namespace Go.Proofs.YtmblknknbbdmeaaGreat
open Go Go.RowKit
set_option linter.unusedVariables false
set_option linter.unusedSimpArgs false
attribute [local go_sem] bmax2 bmin2 bmax bmin cell_ext frozen_ext

theorem info_kept : (Tryz.prog.info? 205).map (·.size) = some 33 := by kernel_rfl
theorem info_kept3 : (Tryz.prog.info? 205).map (fun i => (i.zero.map (fun z => z.cells.size), i.size, i.bytes)) = some (some 33, 33, 40) := by kernel_rfl
theorem kept_parts : ∃ (i : TypeInfo) (z : Value), Tryz.prog.info? 205 = some i ∧ i.zero = some z ∧ z.cells.size = 33 ∧ i.size = 33 ∧ i.bytes = 40 := by
  have h := info_kept3
  cases hq : Tryz.prog.info? 205 with
  | none => simp [hq] at h
  | some i =>
    rw [hq] at h
    simp only [Option.map_some, Option.some.injEq, Prod.mk.injEq] at h
    obtain ⟨h1, h2, h3⟩ := h
    cases hz : i.zero with
    | none => simp [hz] at h1
    | some z =>
      rw [hz] at h1
      exact ⟨i, z, rfl, hz, by simpa using h1, h2, h3⟩
set_option maxRecDepth 100000 in
theorem build_kept (K : List UInt8) (a : Int) (h : K.length = 32) (W : World) : (Instr.build 205 #[(0, .int .i64 a), (1, .agg (cellsU8 K).toArray)]).run Tryz.prog W = .ok (.agg (.int .i64 a :: cellsU8 K).toArray) W := by
  obtain ⟨f, rfl⟩ := list32 K h
  exact run_build W 205 _ _ (by kernel_rfl)
set_option maxRecDepth 100000 in
theorem slice_kept (K : List UInt8) (a : Int) (h : K.length = 32) (W : World) : (Instr.buildSlice 150 1 #[(0, .agg (.int .i64 a :: cellsU8 K).toArray)]).run Tryz.prog W = .ok (.slice (some ⟨W.heap.size, 0, none⟩) 1 1) (W.alloc (.cells (.int .i64 a :: cellsU8 K).toArray 205)) := by
  obtain ⟨f, rfl⟩ := list32 K h
  kernel_rfl
/-- where a walker is -/
def atOf (w : World) (b : Nat) : Nat := match w.cell? ⟨b, 1, none⟩ with | some (.int _ z) => z.toNat | _ => 0
theorem WG.atOf {B : Nat} {w : World} {b g n a : Nat} {F : Nat → List UInt8} (h : WG B w b g F n a) : atOf w b = a := by
  obtain ⟨cap, cur, ps, hk, hi, h3, h4⟩ := h
  unfold Proofs.YtmblknknbbdmeaaGreat.atOf
  rw [hk.cells.2.1]
  simp
/-- a key appended -/
theorem keep_append {B : Nat} {w : World} {ad : Option Addr} {m c : Nat} {F : Nat → List UInt8} {n lo : Nat} (hF : F32 F) (h : Rw B w 205 33 ad m c (keptL F n lo m)) (hm : m ≤ 2000) (hB : B ≤ w.heap.size) {bn : Nat} (hb : Blk w bn 205 (stoneL F n (lo + m)).toArray) :
    ∃ g' o' c' w', (Builtin.append_ #[150, 150] 150 #[.slice ad m c, .slice (some ⟨bn, 0, none⟩) 1 1]).run Tryz.prog w = .ok (.slice (some ⟨g', o', none⟩) (m + 1) c') w' ∧ Rw B w' 205 33 (some ⟨g', o', none⟩) (m + 1) c' (keptL F n lo (m + 1)) ∧ w.grownBy w' (ad.map (·.block)) ∧ (some g' = ad.map (·.block) ∨ g' = w.heap.size) := by
  obtain ⟨i, z, hi, hz, hzs, hs, hby⟩ := kept_parts
  have hsl := stoneL_length hF n (lo + m)
  have hsrc : Src Tryz.prog 33 150 (.slice (some ⟨bn, 0, none⟩) 1 1) 1 (stoneL F n (lo + m)) w := Src.ofSlice w Tryz.underlying150 ⟨bn, 0, none⟩ 1 1 _ (by rw [hsl]) (fun j u hu => by rw [addr_add, Nat.zero_add]; exact hb.atL hu) (stoneL_one F n _)
  obtain ⟨g', o', c', w', hr, ho, hg, hat⟩ := h.append (P := Tryz.prog) 150 150 i z Tryz.underlying150 hi hz hzs hs (by omega) (by omega) hB hsrc (by omega) (by omega)
  rw [← keptL_snoc] at ho
  exact ⟨g', o', c', w', hr, ho, hg, hat.imp (fun h => h.1) (fun h => h.1)⟩
/-- key's end -/
def KeyEnd (B : Nat) (w : World) (b bw g : Nat) (ad : Option Addr) (S : List UInt8) (s l d c : Int) (n lo a : Nat) (last : Int) (i : Nat) (e : Ending) (w' : World) : Prop :=
  ∃ g' ad' cp', e = .returned (.agg (cellsU8 (chK S (n - i))).toArray) ∧ SK B w' b bw g' ad' cp' S s l d c n lo (max a (i + 1)) last ∧ FrP (sdX b bw g ad) w w' ∧ ∀ k, sdX b bw g' ad' k → sdX b bw g ad k ∨ w.heap.size ≤ k
set_option maxHeartbeats 4000000 in
set_option maxRecDepth 100000 in
theorem S_key {B : Nat} {w : World} {b bw g : Nat} {ad : Option Addr} {cp : Nat} {S : List UInt8} {s l d c : Int} {n lo a : Nat} {last : Int} (h : SK B w b bw g ad cp S s l d c n lo a last) (hS : S.length = 32) (hn1 : 1 ≤ n) (hn2 : n ≤ 1024) (i : Nat) (h1 : lo ≤ i) (h2 : i ≤ n) (ha : a ≤ n + 1) (hB : B ≤ w.heap.size) :
    Calls Tryz.prog 76 #[.pointer (some ⟨b, 0, none⟩), .int .i64 (i : Int)] w (KeyEnd B w b bw g ad S s l d c n lo a last i) := by
  have HSL := kp hS
  have HF : Kp (F32 (chK S)) := kp (chK_length S)
  have H0 := kp h
  have HBB := kp hB
  have HN := kp (Blk.new w 27 (cellsU8 (List.replicate 32 0)).toArray)
  have hb0 := ba (Below.refl w.heap.size w) (.cells (cellsU8 (List.replicate 32 0)).toArray 27)
  have HFr := kp (FrP.of_bel (X := sdX b bw g ad) hb0)
  have HS1 := kp (h.bel hb0)
  clear hb0 h
  obtain ⟨Z, hZ⟩ : ∃ Z : List UInt8, List.replicate 32 0 = Z := ⟨_, rfl⟩
  have HZL : Kp (Z.length = 32) := kp (by rw [← hZ]; rfl)
  have HLE := kp (H0.out.le)
  go_enter Tryz.func76, Tryz.ntmps76
  go_wp2
  go_step3
  go_wp2
  change Code.wp _ _ _ _ (w.alloc (.cells (cellsU8 (List.replicate 32 0)).toArray 27))
  rw [hZ] at HN HFr HS1 ⊢
  clear hZ
  generalize w.alloc (.cells (cellsU8 Z).toArray 27) = W at HN HFr HS1 ⊢
  have HW2 : Kp (∃ g1 ad1 cp1 a1, SK B W b bw g1 ad1 cp1 S s l d c n lo a1 last ∧ (a ≤ a1 ∧ a1 ≤ max a (i + 1)) ∧ ∀ k, sdX b bw g1 ad1 k → sdX b bw g ad k ∨ w.heap.size < k) := kp ⟨g, ad, cp, a, HS1.out, ⟨Nat.le_refl _, by omega⟩, fun k hk => Or.inl hk⟩
  go_loopw [] (fun wr => Kp (Blk wr w.heap.size 27 (cellsU8 Z).toArray) ∧ Kp (FrP (sdX b bw g ad) w wr) ∧ Kp (∃ g1 ad1 cp1 a1, SK B wr b bw g1 ad1 cp1 S s l d c n lo a1 last ∧ (a ≤ a1 ∧ a1 ≤ max a (i + 1)) ∧ ∀ k, sdX b bw g1 ad1 k → sdX b bw g ad k ∨ w.heap.size < k)) (fun wr => i + 1 - atOf wr bw)
  case atStart => exact ⟨HN, HFr, HW2⟩
  case round =>
    clear HN HFr HW2 HS1
    obtain ⟨HN, HFr, HW2⟩ := hrel
    obtain ⟨g1, ad1, cp1, a1, hsk, ⟨ha1, ha2⟩, hx⟩ := HW2.out
    have hlo := hsk.le
    have HSK := kp hsk
    have HX := kp hx
    have HAT := kp hsk.wk.atOf
    have HNX : Kp (∀ k, sdX b bw g1 ad1 k → k ≠ w.heap.size) := kp (fun k hk => by
      rcases hx k hk with h | h
      · have := (H0.out.types h).2.1; omega
      · omega)
    have cA : Kp (∀ w', WG B w' bw g1 (chK S) n a1 → Calls Tryz.prog 108 #[.pointer (some ⟨bw, 0, none⟩)] w' fun e w'' => e = .returned (.int .i64 (a1 : Int)) ∧ w' = w'') := kp (fun w' h => S_At ⟨g1, h⟩)
    obtain ⟨c68, c69, c70, hlb⟩ := hsk.cells HSL.out
    have HBW : Kp (B ≤ wr.heap.size) := kp (Nat.le_trans HBB.out HFr.out.size)
    have HWL : Kp (¬ wr.heap.size ≤ w.heap.size) := kp (by have := HN.out.lt; omega)
    clear hsk hx HW2
    by_cases hlt : a1 ≤ i
    · have i1 : (a1 : Int) ≤ (i : Int) := by omega
      have g1' : decide ((a1 : Int) ≤ (i : Int)) = true := decide_eq_true i1
      go_wp2_with fail
      refine (cA.out _ HSK.out.wk).mono ?_
      rintro e w2 ⟨rfl, rfl⟩
      go_wp2_with fail
      refine (cA.out _ HSK.out.wk).mono ?_
      rintro e w2 ⟨rfl, rfl⟩
      go_wp2_with fail
      refine (G_Next HSK.out.wk hn1 hn2 (by omega) HBW.out).mono ?_
      rintro e w3 ⟨g2, rfl, hw3, hf3, hg2⟩
      obtain ⟨n1, n2, n3, n4⟩ := HSK.out.ne
      have hfp := FrP.of_fr (X := sdX b bw g1 ad1) hf3 (Or.inr (Or.inl rfl)) (Or.inr (Or.inr (Or.inl rfl)))
      have HBK := kp (HSK.out.blk.fr hf3 n1 n2)
      have HKS := kp (HSK.out.ks.frP (FrP.of_fr (X := fun k => k = bw ∨ k = g1) hf3 (Or.inl rfl) (Or.inr rfl)) (fun k hk => by have := n4 k hk; show ¬ (k = bw ∨ k = g1); omega))
      have HN := kp (HN.out.fr hf3 (Ne.symm (HNX.out bw (Or.inr (Or.inl rfl)))) (Ne.symm (HNX.out g1 (Or.inr (Or.inr (Or.inl rfl))))))
      have HW3 := kp hw3
      have HFP := kp hfp
      have HG2 : Kp (g2 = g1 ∨ wr.heap.size ≤ g2) := kp hg2
      clear hw3 hf3 hg2 hfp n1 n2 n3 n4 c68 c69 c70 hlb
      have HAL := kp (HF.out (n - a1))
      obtain ⟨A, hA⟩ : ∃ A, chK S (n - a1) = A := ⟨_, rfl⟩
      rw [hA] at HAL
      have HAA := kp hA
      rw [hA]
      have hlen5 := key_cells _ HAL.out
      have SC := fun (cur : Array Value) (h : cur.size = 32) => sc_new (P := Tryz.prog) w3 27 (cellsU8 A) (cellsU8_one _) cur (by rw [hlen5]; exact h)
      have hbx := ba (Below.refl w3.heap.size w3) (.cells (cellsU8 A).toArray 27)
      have HN := kp (HN.out.bel hbx)
      have HBK := kp (HBK.out.bel hbx)
      have HKS := kp (HKS.out.bel hbx)
      have HW3 := kp (HW3.out.bel hbx)
      have HFP := kp (HFP.out.trans (FrP.of_bel (X := sdX b bw g1 ad1) hbx) (fun k hk => Or.inl hk))
      have H6 := kp (Blk.new w3 27 (cellsU8 A).toArray)
      clear hA hbx
      go_upto_region 4 with (fail)
      clear SC hlen5
      generalize w3.alloc (.cells (cellsU8 A).toArray 27) = V3 at HN HBK HKS HW3 HFP H6 ⊢
      generalize w3.heap.size = b6 at H6 ⊢
      have HML : Kp (stoneL (chK S) n a1 = .int .i64 (a1 : Int) :: cellsU8 A) := kp (by rw [← HAA.out]; rfl)
      obtain ⟨ML, hML⟩ : ∃ ML, stoneL (chK S) n a1 = ML := ⟨_, rfl⟩
      rw [hML] at HML
      have HMLS := kp hML
      clear hML
      refine wp_region_mkP [0] [1, 2, 3, 4, 5, 6, 7] [8] [9, 10, 11, 12] 59 (fun _ => VS V3.heap.size 205 ML.toArray) (· ≠ ·) (by kernel_rfl) (by kernel_rfl) (fun i v W W' h hb => h.mono hb) ?_
      simp only [List.map_cons, List.map_nil, List.getD_cons_succ, List.getD_cons_zero]
      repeat (go_big_quiet_step (fail))
      refine wpQuiet_nil ⟨rfl, ?_⟩
      apply Exists.intro
      refine ⟨fun X hX => ?_, ?_, ?_⟩
      · have H6x := H6.out.bel hX
        have hbX := HBK.out.bel hX
        have c69 := hbX.atL (sdL_end (s := s) (l := l) (d := d) (c := c) (bw := bw) (ad := ad1) (m := a1 - lo) (cp := cp1) (last := last) HSL.out (HF.out n) 1)
        have hlb := hbX.lt
        have LQ := kp (fun x => ldK A HAL.out (H6x.bel (ext_below X x)))
        clear hbX
        try simp only [List.map_cons, List.map_nil, List.getD_cons_succ, List.getD_cons_zero]
        repeat (first
          | (go_big_quiet_want; refine quiet_load _ rfl 27 _ rfl rfl (fun w hw => by obtain ⟨x, rfl⟩ := hw; exact LQ.out x) ?_; go_simp; go_big_quiet_on)
          | (go_big_quiet_want; refine quiet_val 37 rfl (.agg ML.toArray) (fun w _ => exec_build (parts := #[(0, .int .i64 (a1 : Int)), (1, .agg (cellsU8 A).toArray)]) rfl (by simp [Act.eval, Act.put]) (by rw [HML.out]; exact build_kept A (a1 : Int) HAL.out w)) ?_; go_simp; go_big_quiet_on)
          | go_big_quiet_step (fail))
        exact wpQuiet_nil rfl
      · exact ⟨mk_slice rfl (fun W => exec_buildSlice (parts := #[(0, .agg ML.toArray)]) rfl (by simp [Act.eval, Act.put]) (by rw [HML.out]; exact slice_kept A (a1 : Int) HAL.out W)) (fun j u W h => h.ne), trivial⟩
      · intro ev _
        simp only [List.map_cons, List.map_nil, List.getD_cons_succ, List.getD_cons_zero, TailX]
        rintro X hX ⟨_, bn, rfl, hbn, hkn⟩
        have HN := kp (HN.out.bel hX)
        have HBK := kp (HBK.out.bel hX)
        have HKS := kp (HKS.out.bel hX)
        have HW3 := kp (HW3.out.bel hX)
        have HFP := kp (HFP.out.trans (FrP.of_bel (X := sdX b bw g1 ad1) hX) (fun k hk => Or.inl hk))
        have hBX : B ≤ X.heap.size := Nat.le_trans HBW.out HFP.out.size
        rw [← HMLS.out, show a1 = lo + (a1 - lo) by omega] at hkn
        obtain ⟨g', o', c', Y, hr, hY, hgr, hat⟩ := keep_append HF.out HKS.out (by omega) hBX hkn
        have hsz : w.heap.size < X.heap.size := HN.out.lt
        have hY2 := hY
        obtain ⟨_, hYg⟩ := hY.blk (g := g') rfl
        obtain ⟨curg, hYg⟩ := hYg
        have hadne : ∀ k, ad1.map (·.block) = some k → k ≠ b ∧ k ≠ bw ∧ k ≠ g2 := fun k hk => by
          obtain ⟨_, cs, hb⟩ := HKS.out.blk hk
          obtain ⟨⟨c1, k1⟩, ⟨c2, k2⟩⟩ := HW3.out.blks
          exact ⟨hb.ne_ HBK.out (by decide), hb.ne_ k1 (by decide), hb.ne_ k2 (by decide)⟩
        have hbY := HBK.out.grown hgr (fun e => (hadne b e.symm).1 rfl)
        have hWY : WG B Y bw g2 (chK S) n (a1 + 1) := HW3.out.frP (FrP.of_grown (X := fun k => ad1.map (·.block) = some k) hgr (fun k hk => hk)) (fun hk => (hadne bw hk).2.1 rfl) (fun hk => (hadne g2 hk).2.2 rfl)
        have hNY := HN.out.grown hgr (fun e => HNX.out w.heap.size (Or.inr (Or.inr (Or.inr e.symm))) rfl)
        have hs2 := hbY.setL 69 (.slice (some ⟨g', o', none⟩) (a1 - lo + 1) c')
        rw [sdL_keys HSL.out (HF.out n), show a1 - lo + 1 = a1 + 1 - lo by omega] at hs2
        have hgb : g' ≠ b := hYg.ne_ hbY (by decide)
        have hset := gbset Y b 69 (.slice (some ⟨g', o', none⟩) (a1 + 1 - lo) c')
        rw [show a1 - lo + 1 = a1 + 1 - lo by omega] at hY hr
        have HSK2 : Kp (SK B (Y.setCell ⟨b, 69, none⟩ (.slice (some ⟨g', o', none⟩) (a1 + 1 - lo) c')) b bw g2 (some ⟨g', o', none⟩) c' S s l d c n lo (a1 + 1) last) := kp
          ⟨hs2, hWY.frP (FrP.of_grown (X := fun k => k = b) hset (fun k hk => by injection hk with hk; exact hk.symm)) (fun e => by
              obtain ⟨⟨c1, k1⟩, _⟩ := hWY.blks
              exact k1.ne_ hbY (by decide) e) (fun e => by
              obtain ⟨_, ⟨c1, k1⟩⟩ := hWY.blks
              exact k1.ne_ hbY (by decide) e), hY.kept hset (Or.inl (fun e => by injection e with e; exact hgb e)), H0.out.ge, by omega⟩
        have hNb : w.heap.size ≠ b := Ne.symm (HNX.out b (Or.inl rfl))
        have HN := kp (hNY.far (p := ⟨b, 69, none⟩) hNb (.slice (some ⟨g', o', none⟩) (a1 + 1 - lo) c'))
        have HFP2 : Kp (FrP (sdX b bw g1 ad1) wr (Y.setCell ⟨b, 69, none⟩ (.slice (some ⟨g', o', none⟩) (a1 + 1 - lo) c'))) := kp ((HFP.out.trans (FrP.of_grown (X := sdX b bw g1 ad1) hgr (fun k hk => Or.inr (Or.inr (Or.inr hk)))) (fun k hk => Or.inl hk)).trans (FrP.of_grown (X := sdX b bw g1 ad1) hset (fun k hk => by injection hk with hk; exact Or.inl hk.symm)) (fun k hk => Or.inl hk))
        have HFE := kp (HFr.out.trans HFP2.out (fun k hk => (HX.out k hk).imp id Nat.le_of_lt))
        have hwr := HWL.out
        have HX2 : Kp (∀ k, sdX b bw g2 (some ⟨g', o', none⟩) k → sdX b bw g ad k ∨ w.heap.size < k) := kp (fun k hk => by
          rcases hk with rfl | rfl | rfl | hk
          · exact HX.out k (Or.inl rfl)
          · exact HX.out k (Or.inr (Or.inl rfl))
          · rcases HG2.out with h | h
            · subst h; exact HX.out k (Or.inr (Or.inr (Or.inl rfl)))
            · right; omega
          · injection hk with hk
            simp only at hk
            subst hk
            rcases hat with h | h
            · exact HX.out g' (Or.inr (Or.inr (Or.inr h.symm)))
            · right; omega)
        have hcY := hbY.atL (sdL_end (s := s) (l := l) (d := d) (c := c) (bw := bw) (ad := ad1) (m := a1 - lo) (cp := cp1) (last := last) HSL.out (HF.out n) 1)
        have hfY := hbY.frozen 69
        clear hX hbn hkn hbY hs2 hat hgr hY hY2 hYg hset hWY hNY hadne HW3 HBK HKS HFP HFP2 HFr HX hBX hsz hNb hgb
        refine wpL_append 39 rfl rfl _ _ 150 rfl rfl rfl hr ?_
        clear hr
        go_wp2
        go_roundw
        case measure =>
          rw [HAT.out, HSK2.out.wk.atOf]
          omega
        case rel => exact ⟨HN, HFE, kp ⟨g2, _, c', a1 + 1, HSK2.out, ⟨by omega, by omega⟩, HX2.out⟩⟩
    · have hmx : max a (i + 1) = a1 := by omega
      have g0 : decide ((a1 : Int) ≤ (i : Int)) = false := decide_eq_false (by omega)
      go_wp2_with fail
      refine (cA.out _ HSK.out.wk).mono ?_
      rintro e w2 ⟨rfl, rfl⟩
      go_wp2
      go_step3
      go_wp2
      have hai : i - lo < a1 - lo := by omega
      clear c68 c69 c70 hlb
      go_loopw [47] (fun j wr2 => ∃ q : Nat, lo + q ≤ i ∧ j = .int .i64 (q : Int) ∧ Kp (Blk wr2 w.heap.size 27 (cellsU8 Z).toArray) ∧ Kp (FrP (sdX b bw g ad) w wr2) ∧ Kp (SK B wr2 b bw g1 ad1 cp1 S s l d c n lo a1 last)) (fun j _ => i + 1 - (intOf j).toNat)
      case atStart => exact ⟨0, by omega, rfl, HN, HFr, HSK⟩
      case round =>
        clear HN HFr HSK HBW HWL
        obtain ⟨q, hq, rfl, HN, HFr, HSK⟩ := hrel
        obtain ⟨gk, ok, rfl, hBk, hkl⟩ := HSK.out.ks.some_ (by omega)
        have LE : (Instr.loadAt 205 (.pointer (some ⟨gk, ok + q * 33, none⟩))).run Tryz.prog wr = .ok (.agg (stoneL (chK S) n (lo + q)).toArray) wr :=
          ld_row (P := Tryz.prog) gk (ok + q * 33) 33 205 _ _ Tryz.underlying205 rfl info_kept (stoneL_length HF.out n (lo + q)) (fun j v hv => by
            have := HSK.out.ks.elem (keptE_len HF.out) (keptE_get (F := chK S) (n := n) (lo := lo) (m := a1 - lo) (i := q) (by omega)) hv
            rw [← Nat.add_assoc] at this
            exact this)
        have hstl := stoneL_length HF.out n (lo + q)
        have h1s := kp (stoneL_one (chK S) n (lo + q))
        have HKL := kp (HF.out (n - (lo + q)))
        have HST : Kp (stoneL (chK S) n (lo + q) = .int .i64 ((lo + q : Nat) : Int) :: cellsU8 (chK S (n - (lo + q)))) := kp rfl
        obtain ⟨K, hKK⟩ : ∃ K, chK S (n - (lo + q)) = K := ⟨_, rfl⟩
        rw [hKK] at HST HKL
        obtain ⟨SL, hSL⟩ : ∃ SL, stoneL (chK S) n (lo + q) = SL := ⟨_, rfl⟩
        rw [hSL] at LE HST hstl h1s
        have HKK := kp hKK
        clear hSL hKK
        have SC := fun (cur : Array Value) (h : cur.size = 33) => sc_new (P := Tryz.prog) wr 205 SL h1s.out cur (by rw [hstl]; exact h)
        have hbx := ba (Below.refl wr.heap.size wr) (.cells SL.toArray 205)
        have HN := kp (HN.out.bel hbx)
        have HFr := kp (HFr.out.trans (FrP.of_bel (X := sdX b bw g ad) hbx) (fun k hk => Or.inl hk))
        have HSK := kp (HSK.out.bel hbx)
        have H9 := kp (Blk.new wr 205 SL.toArray)
        clear hbx
        have i0 : (0 : Int) ≤ (q : Int) := by omega
        have i1 : (q : Int) < ((a1 - lo : Nat) : Int) := by omega
        have d1 : decide ((q : Int) < ((a1 - lo : Nat) : Int)) = true := decide_eq_true i1
        go_upto_region 8 with (refine wpL_load rfl 205 _ rfl rfl LE ?_)
        clear SC LE
        generalize wr.alloc (.cells SL.toArray 205) = V9 at HN HFr HSK H9 ⊢
        generalize wr.heap.size = b9 at H9 ⊢
        have c0 := H9.out.atL (show SL[0]? = some (.int .i64 ((lo + q : Nat) : Int)) by rw [HST.out]; rfl)
        have hl9 := H9.out.lt
        by_cases he : lo + q = i
        · have g5 : ((lo + q : Nat) : Int) = (i : Int) := by omega
          have hkk := HKK.out
          rw [he] at hkk
          rw [g5] at c0 HST
          have L9 := ld_row (P := Tryz.prog) (w := V9) b9 1 32 27 (cellsU8 K) _ Tryz.underlying27 rfl info_key (key_cells K HKL.out) (fun j v hv => H9.out.atL (by rw [HST.out, Nat.add_comm, List.getElem?_cons_succ]; exact hv))
          have hkl2 := key_cells K HKL.out
          have hzl : (cellsU8 Z).length = 32 := by rw [length_cellsU8]; exact HZL.out
          have SC := sc_all (P := Tryz.prog) (w := V9) w.heap.size 27 (cellsU8 K) _ HN.out (by rw [hkl2, hzl]) (cellsU8_one _)
          have HRES := kp (HN.out.row (cellsU8 K).toArray)
          have HFE := kp (HFr.out.trans (FrP.of_grown (X := fun k => k = w.heap.size) (gbrow V9 w.heap.size (cellsU8 K).toArray) (fun k hk => by injection hk with hk; exact hk.symm)) (fun k hk => Or.inr (Nat.le_of_eq hk.symm)))
          have HSE := kp (HSK.out.frP (FrP.of_grown (X := fun k => k = w.heap.size) (gbrow V9 w.heap.size (cellsU8 K).toArray) (fun k hk => by injection hk with hk; exact hk.symm)) (fun k hk e => HNX.out k hk e))
          have HEND : Kp (KeyEnd B w b bw g ad S s l d c n lo a last i (.returned (.agg (cellsU8 K).toArray)) (V9.setRow w.heap.size (cellsU8 K).toArray)) := kp ⟨g1, _, cp1, by rw [hkk], by rw [hmx]; exact HSE.out, HFE.out, fun k hk => (HX.out k hk).imp id Nat.le_of_lt⟩
          clear HFE HSE hkk
          go_wp2_with (refine wpL_load rfl 27 _ rfl rfl L9 ?_)
          try rw [Exit.noGoto_ret]
          refine bodyPost_ret (v := .agg (cellsU8 K).toArray) ?_ rfl HEND.out
          exact res_all Tryz.results76 w.heap.size 32 _ (cellsU8 K) _ Tryz.underlying27 rfl info_key hkl2 HRES.out _ rfl
        · have g5 : ¬ ((lo + q : Nat) : Int) = (i : Int) := by omega
          have e1 : IntKind.i64.wrap ((q : Int) + 1) = (q : Int) + 1 := IntWalk.i64_in _ (by omega)
          go_wp2
          go_roundw
          case measure => simp [intOf]; omega
          case rel => exact ⟨q + 1, by omega, by congr 1, HN, HFr, HSK⟩
end Go.Proofs.YtmblknknbbdmeaaGreat
/- sender: New, forget, Known, Last. -/
namespace Go.Proofs.YtmblknknbbdmeaaGreat
open Go Go.RowKit
set_option linter.unusedVariables false
set_option linter.unusedSimpArgs false
attribute [local go_sem] bmax2 bmin2 bmax bmin cell_ext frozen_ext

/-- forget's end -/
def ForgetEnd (B : Nat) (w : World) (b bw g : Nat) (ad : Option Addr) (S : List UInt8) (s l d c : Int) (n lo a : Nat) (last : Int) (e : Ending) (w' : World) : Prop :=
  ∃ ad' cp', (∃ u, e = .returned u) ∧ SK B w' b bw g ad' cp' S s l d c n lo a last ∧ FrP (sdX b bw g ad) w w' ∧ ad'.map (·.block) = ad.map (·.block)
/-- how long the slice of keys is -/
def keysOf (w : World) (b : Nat) : Nat := match w.cell? ⟨b, 69, none⟩ with | some (.slice _ n _) => n | _ => 0
theorem SK.keysOf {B : Nat} {w : World} {b bw g : Nat} {ad : Option Addr} {cp : Nat} {S : List UInt8} {s l d c : Int} {n lo a : Nat} {last : Int} (h : SK B w b bw g ad cp S s l d c n lo a last) (hS : S.length = 32) : keysOf w b = a - lo := by
  unfold Proofs.YtmblknknbbdmeaaGreat.keysOf
  rw [(h.cells hS).2.1]
set_option maxHeartbeats 4000000 in
set_option maxRecDepth 100000 in
theorem S_forget {B : Nat} {w : World} {b bw g : Nat} {ad : Option Addr} {cp : Nat} {S : List UInt8} {s l d c : Int} {n lo a : Nat} {last : Int} (h : SK B w b bw g ad cp S s l d c n lo a last) (hS : S.length = 32) (hn2 : n ≤ 1024) (t : Nat) (h1 : t < a) (hla : lo < a) (ha : a ≤ n + 1) :
    Calls Tryz.prog 77 #[.pointer (some ⟨b, 0, none⟩), .int .i64 (t : Int)] w (ForgetEnd B w b bw g ad S s l d c n (max lo t) a last) := by
  have HSL := kp hS
  have HF : Kp (F32 (chK S)) := kp (chK_length S)
  have H0 := kp h
  have HFr := kp (FrP.of_bel (X := sdX b bw g ad) (Below.refl w.heap.size w))
  have HW : Kp (∃ ad1 cp1 lo1, SK B w b bw g ad1 cp1 S s l d c n lo1 a last ∧ ad1.map (·.block) = ad.map (·.block) ∧ lo ≤ lo1 ∧ lo1 ≤ max lo t) := kp ⟨ad, cp, lo, h, rfl, Nat.le_refl _, by omega⟩
  clear h
  go_enter Tryz.func77, Tryz.ntmps77
  go_wp2
  go_loopw [] (fun wr => Kp (FrP (sdX b bw g ad) w wr) ∧ Kp (∃ ad1 cp1 lo1, SK B wr b bw g ad1 cp1 S s l d c n lo1 a last ∧ ad1.map (·.block) = ad.map (·.block) ∧ lo ≤ lo1 ∧ lo1 ≤ max lo t)) (fun wr => keysOf wr b)
  case atStart => exact ⟨HFr, HW⟩
  case round =>
    clear HFr HW
    obtain ⟨HFr, HW⟩ := hrel
    obtain ⟨ad1, cp1, lo1, hsk, had, hl1, hl2⟩ := HW.out
    have hla1 : lo1 < a := by omega
    have HSK := kp hsk
    have HKO := kp (hsk.keysOf HSL.out)
    have HAD := kp had
    obtain ⟨gk, ok, rfl, hBk, hkl⟩ := hsk.ks.some_ (by omega)
    obtain ⟨c68, c69, c70, hlb⟩ := hsk.cells HSL.out
    have ck := HSK.out.ks.elem (keptE_len HF.out) (keptE_get (F := chK S) (n := n) (lo := lo1) (m := a - lo1) (i := 0) (by omega)) (j := 0) (v := .int .i64 (lo1 : Int)) rfl
    rw [Nat.zero_mul, Nat.add_zero] at ck
    have hm : a - lo1 = (a - lo1 - 1) + 1 := by omega
    have i3 : (0 : Int) < ((a - lo1 : Nat) : Int) := by omega
    have d3 : decide ((0 : Int) < ((a - lo1 : Nat) : Int)) = true := decide_eq_true i3
    have f69 := hsk.blk.frozen 69
    clear hsk had HW c68 c70
    by_cases hlt : lo1 < t
    · have g5 : (lo1 : Int) < (t : Int) := by omega
      have d5 : decide ((lo1 : Int) < (t : Int)) = true := decide_eq_true g5
      have hks := HSK.out.ks
      rw [hm] at hks
      obtain ⟨o', g', hr, hT, hg'⟩ := hks.tail (P := Tryz.prog) 150 Tryz.underlying150 info_kept
      rw [keptL_tail HF.out] at hT
      rw [← hm] at hr
      have e0 : a - lo1 - 1 = a - (lo1 + 1) := by omega
      rw [e0] at hr hT
      have hs2 := HSK.out.blk.setL 69 (.slice (some ⟨g', o', none⟩) (a - (lo1 + 1)) (cp1 - 1))
      rw [sdL_keys HSL.out (HF.out n)] at hs2
      have hset := gbset wr b 69 (.slice (some ⟨g', o', none⟩) (a - (lo1 + 1)) (cp1 - 1))
      obtain ⟨n1, n2, n3, n4⟩ := HSK.out.ne
      have hgb := (n4 g' (by rw [← hg'])).1
      have hfs := FrP.of_grown (X := fun k => k = b) hset (fun k hk => by injection hk with hk; exact hk.symm)
      have HSK2 : Kp (SK B (wr.setCell ⟨b, 69, none⟩ (.slice (some ⟨g', o', none⟩) (a - (lo1 + 1)) (cp1 - 1))) b bw g (some ⟨g', o', none⟩) (cp1 - 1) S s l d c n (lo1 + 1) a last) := kp
        ⟨hs2, HSK.out.wk.frP hfs (fun e => n1 e.symm) (fun e => n2 e.symm), hT.frP hfs (fun k hk e => by injection hk with hk; exact hgb (hk.trans e)), H0.out.ge, by have := HSK.out.le; omega⟩
      have HFE := kp (HFr.out.trans hfs (fun k hk => Or.inl (Or.inl hk)))
      have HAD2 : Kp (some g' = ad.map (·.block)) := kp (hg'.symm.trans HAD.out)
      clear hs2 hset hfs hT hks n1 n2 n3 n4 hgb HFr H0 hm e0
      go_wp2
      go_roundw
      case measure =>
        rw [HKO.out, HSK2.out.keysOf HSL.out]
        omega
      case rel => exact ⟨HFE, kp ⟨_, _, lo1 + 1, HSK2.out, HAD2.out, by omega, by omega⟩⟩
    · have g5 : ¬ (lo1 : Int) < (t : Int) := by omega
      have d5 : decide ((lo1 : Int) < (t : Int)) = false := decide_eq_false g5
      have hml : max lo t = lo1 := by omega
      clear hm
      have HML := kp hml
      clear hml
      go_wp2
      go_end0
      exact ⟨_, cp1, ⟨_, rfl⟩, by rw [HML.out]; exact HSK.out, HFr.out, HAD.out⟩
set_option maxRecDepth 100000 in
theorem S_Known {B : Nat} {w : World} {b bw g : Nat} {ad : Option Addr} {cp : Nat} {S : List UInt8} {s l d c : Int} {n lo a : Nat} {last : Int} (h : SK B w b bw g ad cp S s l d c n lo a last) (hS : S.length = 32) :
    Calls Tryz.prog 37 #[.pointer (some ⟨b, 0, none⟩)] w fun e w' => e = .returned (.agg (cellsU8 (chK S n)).toArray) ∧ Below w.heap.size w w' := by
  have HN := kp (Blk.new w 27 (cellsU8 (List.replicate 32 0)).toArray)
  have hb0 := ba (Below.refl w.heap.size w) (.cells (cellsU8 (List.replicate 32 0)).toArray 27)
  have LK := (h.bel hb0).ldKnown hS
  have HB := kp hb0
  clear hb0
  have HKL := kp (chK_length S n)
  generalize chK S n = K at *
  have hkl := key_cells K HKL.out
  obtain ⟨Z, hZ⟩ : ∃ Z : List UInt8, List.replicate 32 0 = Z := ⟨_, rfl⟩
  have HZL : Kp (Z.length = 32) := kp (by rw [← hZ]; rfl)
  go_enter Tryz.func37, Tryz.ntmps37
  go_upto_region 1 with (fail)
  change Code.wp _ _ _ _ (w.alloc (.cells (cellsU8 (List.replicate 32 0)).toArray 27))
  rw [hZ] at HN HB LK ⊢
  clear hZ
  have hzl : (cellsU8 Z).length = 32 := by rw [length_cellsU8]; exact HZL.out
  generalize w.alloc (.cells (cellsU8 Z).toArray 27) = W at HN HB LK ⊢
  have SC := sc_all (P := Tryz.prog) (w := W) w.heap.size 27 (cellsU8 K) _ HN.out (by rw [hkl, hzl]) (cellsU8_one _)
  have HRES := kp (HN.out.row (cellsU8 K).toArray)
  have HBE := kp (bsr HB.out (b := w.heap.size) (Nat.le_refl _) HB.out.size (cellsU8 K).toArray)
  go_wp2_with (refine wpL_load rfl 27 _ rfl rfl LK ?_)
  refine bodyPost_ret (v := .agg (cellsU8 K).toArray) ?_ rfl ⟨rfl, HBE.out⟩
  exact res_all Tryz.results37 w.heap.size 32 _ (cellsU8 K) _ Tryz.underlying27 rfl info_key hkl HRES.out _ rfl
end Go.Proofs.YtmblknknbbdmeaaGreat
/- sender: New. -/
namespace Go.Proofs.YtmblknknbbdmeaaGreat
open Go Go.RowKit
set_option linter.unusedVariables false
set_option linter.unusedSimpArgs false
attribute [local go_sem] bmax2 bmin2 bmax bmin cell_ext frozen_ext

set_option maxRecDepth 100000 in
theorem build_sd (S Kn : List UInt8) (s l d c : Int) (bw : Nat) (hS : S.length = 32) (hK : Kn.length = 32) (W : World) :
    (Instr.build 152 #[(0, .agg (cellsU8 S).toArray), (1, .agg (planL s l d c).toArray), (2, .agg (cellsU8 Kn).toArray), (3, .pointer (some ⟨bw, 0, none⟩))]).run Tryz.prog W = .ok (.agg (sdL S s l d c Kn bw none 0 0 0).toArray) W := by
  obtain ⟨f, rfl⟩ := list32 S hS
  obtain ⟨f', rfl⟩ := list32 Kn hK
  exact run_build W 152 _ _ (by kernel_rfl)
set_option maxHeartbeats 2000000 in
set_option maxRecDepth 100000 in
theorem S_New_bad (S : List UInt8) (s l d c : Int) (hS : S.length = 32) (hm : mayP s l d c = false) (w : World) :
    Calls Tryz.prog 36 #[.agg (cellsU8 S).toArray, .agg (planL s l d c).toArray] w fun e w' => e = .returned (.tuple #[.pointer none, .int .i64 1]) ∧ Below w.heap.size w w' := by
  have cM := kp (fun w' => P_May s l d c w')
  rw [hm] at cM
  have cN : Kp (∀ w', ∃ R : Value → Int → Prop, (∀ v x, R v x → True) ∧ Calls Tryz.prog 72 #[.agg (cellsU8 S).toArray, .int .i64 c] w' fun e w'' => ∃ v x, e = .returned (.tuple #[v, .int .i64 x]) ∧ Below w'.heap.size w' w'') := kp (fun w' => by
    refine ⟨fun _ _ => True, fun _ _ _ => trivial, ?_⟩
    by_cases h : c < 1 ∨ 1024 < c
    · exact (PNew_bad S c h w').mono fun e w'' ⟨he, hb⟩ => ⟨_, _, he, hb⟩
    · obtain ⟨n, hn⟩ : ∃ n : Nat, c = (n : Int) := ⟨c.toNat, by omega⟩
      rw [hn]
      exact (S_New (B := 0) S hS n (by omega) (by omega) w' (Nat.zero_le _)).mono fun e w'' ⟨b, he, _, hb⟩ => ⟨_, _, he, hb⟩)
  have HK := kp ((Blk.new w 27 (cellsU8 S).toArray).alloc (.cells (planL s l d c).toArray 29))
  have HP := kp (Blk.new (w.alloc (.cells (cellsU8 S).toArray 27)) 29 (planL s l d c).toArray)
  have HB := kp (ba (ba (Below.refl w.heap.size w) (.cells (cellsU8 S).toArray 27)) (.cells (planL s l d c).toArray 29))
  rw [size_all] at HP
  have hPl := planL_length s l d c
  have C3 : Kp ((planL s l d c)[3]? = some (.int .i64 c)) := kp rfl
  have HSL := kp hS
  generalize planL s l d c = X at *
  clear hm hS
  go_enter Tryz.func36, Tryz.ntmps36
  go_upto_region 1 with (fail)
  change Code.wp _ _ _ _ ((w.alloc (.cells (cellsU8 S).toArray 27)).alloc (.cells X.toArray 29))
  generalize (w.alloc (.cells (cellsU8 S).toArray 27)).alloc (.cells X.toArray 29) = W at HK HP HB ⊢
  have LK := ldK S HSL.out HK.out
  have x3 := HP.out.atL C3.out
  have k1 := HP.out.lt
  obtain ⟨_, _, cN'⟩ := cN.out W
  go_wp2_with (refine wpL_load rfl 27 _ rfl rfl LK ?_)
  refine cN'.mono ?_
  rintro e w1 ⟨v, x, rfl, hb1⟩
  have HP1 := kp (HP.out.bel hb1)
  have HB1 := kp (bt' HB.out hb1 HB.out.size)
  have LP := ld_all (P := Tryz.prog) (w.heap.size + 1) 4 29 29 X _ Tryz.underlying29 rfl info_plan hPl HP1.out
  clear hb1 LK x3 k1
  go_wp2_with (refine wpL_load rfl 29 _ rfl rfl LP ?_)
  refine (cM.out _).mono ?_
  rintro e w2 ⟨rfl, hb2⟩
  have HB2 := kp (bt' HB1.out hb2 HB1.out.size)
  clear hb2
  go_wp2
  go_ret2
  exact ⟨rfl, HB2.out⟩
/-- New's end -/
def SNewEnd (B : Nat) (w : World) (S : List UInt8) (s l d c : Int) (n : Nat) (e : Ending) (w' : World) : Prop :=
  ∃ b bw g, e = .returned (.tuple #[.pointer (some ⟨b, 0, none⟩), .int .i64 0]) ∧ SK B w' b bw g none 0 S s l d c n 1 1 0 ∧ Below w.heap.size w w' ∧ ∀ k, sdX b bw g none k → w.heap.size ≤ k
set_option maxHeartbeats 2000000 in
set_option maxRecDepth 100000 in
theorem S_New_good {B : Nat} (S : List UInt8) (s l d c : Int) (hS : S.length = 32) (hm : mayP s l d c = true) (n : Nat) (hc : c = (n : Int)) (w : World) (hB : B ≤ w.heap.size) :
    Calls Tryz.prog 36 #[.agg (cellsU8 S).toArray, .agg (planL s l d c).toArray] w (SNewEnd B w S s l d c n) := by
  subst hc
  have cM := kp (fun w' => P_May s l d n w')
  have hmm := mayP_iff.1 hm
  rw [hm] at cM
  have hn1 : 1 ≤ n := by omega
  have hn2 : n ≤ 1024 := by omega
  have cN := kp (fun w' (h : B ≤ w'.heap.size) => G_New (B := B) S hS n hn1 hn2 w' h)
  have cX := kp (fun w' b g (h : WG B w' b g (chK S) n 0) (hB : B ≤ w'.heap.size) => G_Next h hn1 hn2 (Nat.zero_le _) hB)
  have HK := kp ((Blk.new w 27 (cellsU8 S).toArray).alloc (.cells (planL s l d n).toArray 29))
  have HP := kp (Blk.new (w.alloc (.cells (cellsU8 S).toArray 27)) 29 (planL s l d n).toArray)
  have HB := kp (ba (ba (Below.refl w.heap.size w) (.cells (cellsU8 S).toArray 27)) (.cells (planL s l d n).toArray 29))
  rw [size_all] at HP
  have hPl := planL_length s l d n
  have C3 : Kp ((planL s l d n)[3]? = some (.int .i64 (n : Int))) := kp rfl
  have HSL := kp hS
  have HKL := kp (chK_length S n)
  have HBU := kp (fun (bw : Nat) (W : World) => build_sd S (chK S n) s l d n bw hS (chK_length S n) W)
  have HSD := kp (fun bw => sdL_length (s := s) (l := l) (d := d) (c := n) (bw := bw) (ad := none) (m := 0) (cp := 0) (last := 0) hS (chK_length S n))
  have HBB := kp hB
  clear hmm hm hS hB
  obtain ⟨X, hX⟩ : ∃ X, planL s l d n = X := ⟨_, rfl⟩
  rw [hX] at cM HK HP HB hPl C3 HBU ⊢
  clear hX
  go_enter Tryz.func36, Tryz.ntmps36
  go_upto_region 1 with (fail)
  change Code.wp _ _ _ _ ((w.alloc (.cells (cellsU8 S).toArray 27)).alloc (.cells X.toArray 29))
  generalize (w.alloc (.cells (cellsU8 S).toArray 27)).alloc (.cells X.toArray 29) = W at HK HP HB ⊢
  have LK := ldK S HSL.out HK.out
  have x3 := HP.out.atL C3.out
  have k1 := HP.out.lt
  go_wp2_with (refine wpL_load rfl 27 _ rfl rfl LK ?_)
  refine (cN.out W (Nat.le_trans HBB.out HB.out.size)).mono ?_
  rintro e w1 ⟨bw, g, rfl, hw1, hb1, hf1, hf2⟩
  have HK1 := kp (HK.out.bel hb1)
  have HP1 := kp (HP.out.bel hb1)
  have HB1 := kp (bt' HB.out hb1 HB.out.size)
  have HW1 := kp hw1
  have HF1 := kp (Nat.le_trans HB.out.size hf1)
  have HF2 := kp (Nat.le_trans HB.out.size hf2)
  have LP := ld_all (P := Tryz.prog) (w.heap.size + 1) 4 29 29 X _ Tryz.underlying29 rfl info_plan hPl HP1.out
  clear hb1 LK x3 k1 hw1 hf1 hf2 HK HP HB
  go_wp2_with (refine wpL_load rfl 29 _ rfl rfl LP ?_)
  refine (cM.out _).mono ?_
  rintro e w2 ⟨rfl, hb2⟩
  have HK1 := kp (HK1.out.bel hb2)
  have HP1 := kp (HP1.out.bel hb2)
  have HB1 := kp (bt' HB1.out hb2 HB1.out.size)
  have HW1 := kp (HW1.out.bel hb2)
  clear hb2 LP
  go_wp2_with fail
  refine (cX.out w2 bw g HW1.out (Nat.le_trans HBB.out HB1.out.size)).mono ?_
  rintro e w3 ⟨g2, rfl, hw3, hf3, hg2⟩
  obtain ⟨⟨cs1, e1⟩, ⟨cs2, e2⟩⟩ := HW1.out.blks
  have HK1 := kp (HK1.out.fr hf3 (HK1.out.ne_ e1 (by decide)) (HK1.out.ne_ e2 (by decide)))
  have HP1 := kp (HP1.out.fr hf3 (HP1.out.ne_ e1 (by decide)) (HP1.out.ne_ e2 (by decide)))
  have HB1 := kp (HB1.out.trans (hf3.below HF1.out HF2.out HB1.out.size))
  have HW3 := kp hw3
  have HG2 : Kp (w.heap.size ≤ g2) := kp (by
    have := HF2.out
    have := HB1.out.size
    rcases hg2 with h | h
    · omega
    · have := (HW1.out.ge).2.2.2
      have := HB1.out
      omega)
  clear hw3 hf3 hg2 e1 e2 HW1 HF2
  rw [Nat.sub_zero]
  obtain ⟨K, hK⟩ : ∃ K, chK S n = K := ⟨_, rfl⟩
  have HKK := kp hK
  rw [hK] at HKL HBU HSD
  rw [hK]
  clear hK
  have hkl := key_cells K HKL.out
  have SC := fun (cur : Array Value) (h : cur.size = 32) => sc_new (P := Tryz.prog) w3 27 (cellsU8 K) (cellsU8_one _) cur (by rw [hkl]; exact h)
  have hbx := ba (Below.refl w3.heap.size w3) (.cells (cellsU8 K).toArray 27)
  have HK1 := kp (HK1.out.bel hbx)
  have HP1 := kp (HP1.out.bel hbx)
  have HW3 := kp (HW3.out.bel hbx)
  have HB1 := kp (bt' HB1.out hbx HB1.out.size)
  have H8 := kp (Blk.new w3 27 (cellsU8 K).toArray)
  clear hbx
  go_upto_region 5 with (fail)
  clear SC hkl
  generalize w3.alloc (.cells (cellsU8 K).toArray 27) = V at HK1 HP1 HW3 HB1 H8 ⊢
  generalize w3.heap.size = b8 at H8 ⊢
  have L1 := ldK S HSL.out HK1.out
  have L2 := ld_all (P := Tryz.prog) (w.heap.size + 1) 4 29 29 X _ Tryz.underlying29 rfl info_plan hPl HP1.out
  have L3 := ldK K HKL.out H8.out
  have hbx := ba (Below.refl V.heap.size V) (.cells (sdL S s l d n K bw none 0 0 0).toArray 152)
  have HEND : Kp (SNewEnd B w S s l d n n (.returned (.tuple #[.pointer (some ⟨V.heap.size, 0, none⟩), .int .i64 0])) (V.alloc (.cells (sdL S s l d n K bw none 0 0 0).toArray 152))) := kp
    ⟨V.heap.size, bw, g2, rfl, ⟨by rw [HKK.out]; exact Blk.new V 152 _, HW3.out.bel hbx, Rw.nil _ _ _ _, Nat.le_trans HBB.out HB1.out.size, by omega⟩, bt' HB1.out hbx HB1.out.size, fun k hk => by
      rcases hk with rfl | rfl | rfl | hk
      · exact HB1.out.size
      · exact HF1.out
      · exact HG2.out
      · cases hk⟩
  clear hbx HK1 HP1 HW3 H8
  go_wp2_with (first | (refine wpL_load rfl 27 _ rfl rfl L1 ?_) | (refine wpL_load rfl 29 _ rfl rfl L2 ?_) | (refine wpL_load rfl 27 _ rfl rfl L3 ?_) | (refine wpL_val 33 rfl rfl (.agg (sdL S s l d n K bw none 0 0 0).toArray) (exec_build (parts := #[(0, .agg (cellsU8 S).toArray), (1, .agg X.toArray), (2, .agg (cellsU8 K).toArray), (3, .pointer (some ⟨bw, 0, none⟩))]) rfl (by simp [Act.eval, Act.put]) (HBU.out bw _)) ?_))
  go_ret2
  exact HEND.out
end Go.Proofs.YtmblknknbbdmeaaGreat
/- a drawing region with makers, one of which may want another one's value. -/
namespace Go.Proofs.YtmblknknbbdmeaaGreat
open Go Go.RowKit
set_option linter.unusedVariables false
set_option linter.unusedSimpArgs false
section
variable {P : Program} {ops : Array Oper} {md : Region.Mode}

/-- the closed fact: 'h' in the order of the text, 'k' makers; D: (i, j): maker i wants maker j's value -/
def Region.mkC (md : Region.Mode) (ops : Array Oper) (D : List (Nat × Nat)) (h k : List Nat) : Bool :=
  (((List.range h.length).all fun p => ((ops.getD (h.getD p 0) default).looksAt ops).all fun s =>
      ((List.range h.length).all fun q => (ops.getD (h.getD q 0) default).dst != some s || (if q < p then Region.waitsFor md ops (h.getD p 0) (h.getD q 0) else q == p || Region.waitsFor md ops (h.getD q 0) (h.getD p 0))) &&
      (k.all fun j => (ops.getD j default).dst != some s || Region.waitsFor md ops j (h.getD p 0))) &&
  (k.all fun i => ((ops.getD i default).looksAt ops).all fun s =>
      ((List.range h.length).all fun q => (ops.getD (h.getD q 0) default).dst != some s || Region.waitsFor md ops i (h.getD q 0)) && (k.all fun j => (ops.getD j default).dst != some s || D.contains (i, j)))) &&
  D.all fun x => Region.waitsFor md ops x.1 x.2
def MkAtC (P : Program) (ops : Array Oper) (D : List (Nat × Nat)) (k : List Nat) (i : Nat) (A : Act) (w : World) (V : Nat → Value → World → Prop) (N : Value → Value → Prop) : Prop :=
  ∀ (a' : Act) (W : World), Below w.heap.size w W →
    (∀ s ∈ (ops.getD i default).looksAt ops, (∀ j ∈ k, (i, j) ∈ D → (ops.getD j default).dst ≠ some s) → a'.tmps[s]? = A.tmps[s]?) →
    (∀ j ∈ k, (i, j) ∈ D → ∀ s, (ops.getD j default).dst = some s → ∃ u, a'.tmps[s]? = some u ∧ V j u W) →
    Region.wanted (ops.getD i default) (yielded ops a'.tmps) = true ∧ mkUpon P W (V i) (fun v => ∀ j u, V j u W → N v u ∧ N u v) ((execOp a'.eval (ops.getD i default)).run P W)
theorem MkAtC.plain {D : List (Nat × Nat)} {k : List Nat} {i : Nat} {A : Act} {w : World} {V : Nat → Value → World → Prop} {N : Value → Value → Prop} (hs : ∀ cs b, (ops.getD i default).op ≠ .select cs b) (hD : ∀ j, (i, j) ∉ D)
    (h : MkAt P ops (ops.getD i default) A w (V i) V N) : MkAtC P ops D k i A w V N := fun a' W hW hag _ => by
  obtain ⟨e1, e2⟩ := looks_same hs (fun s hs' => hag s hs' fun j _ hj => absurd hj (hD j))
  rw [e1, e2]
  exact ⟨h.1, h.2 W hW⟩
theorem MkAtC.one {D : List (Nat × Nat)} {k : List Nat} {i : Nat} {A : Act} {w : World} {V : Nat → Value → World → Prop} {N : Value → Value → Prop} (hs : ∀ cs b, (ops.getD i default).op ≠ .select cs b) (j d : Nat) (hj : j ∈ k) (hD : (i, j) ∈ D) (hd : (ops.getD j default).dst = some d) (hdl : d < A.tmps.size) (ho : ∀ j', (i, j') ∈ D → j' = j)
    (h : ∀ u W, Below w.heap.size w W → V j u W → Region.wanted (ops.getD i default) (yielded ops (A.put (some d) u).tmps) = true ∧ mkUpon P W (V i) (fun v => ∀ j u, V j u W → N v u ∧ N u v) ((execOp (A.put (some d) u).eval (ops.getD i default)).run P W)) : MkAtC P ops D k i A w V N := fun a' W hW hag hdp => by
  obtain ⟨u, hu, hV⟩ := hdp j hj hD d hd
  obtain ⟨e1, e2⟩ := looks_same (b := A.put (some d) u) hs (fun s hs' => by
    by_cases e : s = d
    · subst e
      rw [hu]
      simp [Act.put, hdl]
    · rw [hag s hs' fun j' _ hj' => by
        rw [ho j' hj', hd]
        intro h2
        injection h2 with h2
        exact e h2.symm]
      simp [Act.put, Array.getElem?_setIfInBounds, Ne.symm e])
  rw [e1, e2]
  exact h u W hW hV
/-- an extract, plain -/
def tailB (o : Oper) : Bool := match o.op with | .extract .. => o.guard == none | _ => false
theorem early_step {Q : Exit → Act → World → Prop} {o : Oper} {a : Act} {w : World} {rest : List Oper} (he : tailB o = true) (h : wpList P ops Q (o :: rest) a w) : ∃ v, Yields P ops o v a ∧ wpList P ops Q rest (a.put o.dst v) w := by
  unfold tailB at he
  cases ho : o.op <;> rw [ho] at he <;> first
    | (simp at he; done)
    | skip
  rename_i t ix
  have hg : o.guard = none := by simpa using he
  have hw : Region.wanted o (yielded ops a.tmps) = true := by simp [Region.wanted, hg]
  unfold wpList at h
  rw [if_pos hw] at h
  rcases h with h | ⟨h, _⟩
  · unfold Oper.wp execOp at h
    simp only [ho, Sem.run_pure, Sem.run_bind, Instr.extract] at h
    cases ht : a.eval t <;> rw [ht] at h <;> simp only [] at h <;> first
      | (simp [Result.andThen, Oper.upon] at h; done)
      | skip
    rename_i vs
    cases hx : vs[ix]? with
    | none => simp [hx, Result.andThen, Oper.upon] at h
    | some v =>
      refine ⟨v, Or.inl ⟨hw, fun w' => ?_⟩, ?_⟩
      · unfold execOp
        simp [ho, ht, Instr.extract, hx]
      · simpa [hx, Result.andThen, Oper.upon] using h
  · exfalso
    unfold Oper.asks execOp at h
    simp only [ho] at h
    have h1 := h.1
    unfold Instr.extract at h1
    have hn : ∀ e : Event, e ∉ (#[] : Array Event) := by simp
    cases ht : a.eval t <;> rw [ht] at h1
    case tuple vs =>
      simp only at h1
      cases hx : vs[ix]? <;> rw [hx] at h1 <;> exact hn _ h1
    all_goals exact hn _ h1
/-- The tail: one alone may come up each time, or an extract that may be taken first. -/
def Region.seqE (md : Region.Mode) (ops : Array Oper) : List Nat → Array Bool → Bool
  | [], listed => (Region.ready md ops listed).isEmpty
  | k :: t, listed => (decide (Region.ready md ops listed = [k]) || ((Region.ready md ops listed).contains k && tailB (ops.getD k default) && Region.freeE md ops k)) && Region.seqE md ops t (listed.setIfInBounds k true)
theorem wpAny_of_seqE {Q' : Exit → Act → World → Prop} (hsel : Region.noSelect ops = true) (hQ : ∀ c (a : Act) d v w, Q' (.panic c) (a.put d v) w → Q' (.panic c) a w) : ∀ (t : List Nat) (listed : Array Bool) (a : Act) (w : World), (∀ i ∈ t, i < ops.size) →
    Region.seqE md ops t listed = true → wpList P ops Q' (selOps ops t) a w → wpAny P md ops Q' t.length listed a w
  | [], _, _, _, _, hB, h => ⟨by simpa [Region.seqE] using hB, h⟩
  | k :: t, listed, a, w, hl, hB, h => by
    have h0 := getD_some (hl k (by simp))
    simp only [Region.seqE, Bool.and_eq_true, Bool.or_eq_true, decide_eq_true_eq] at hB
    rcases hB.1 with hr | ⟨⟨hr, ht⟩, hf⟩
    · refine ⟨fun h1 => (by rw [hr] at h1; cases h1), fun i hi => ?_⟩
      rw [hr] at hi
      have hik : i = k := by simpa using hi
      subst hik
      have hw : wpOp P ops Q' i (wpList P ops Q' (selOps ops t)) a w := by unfold wpOp; simp only [h0]; exact h
      exact wpOp_mono (fun a' w' h' => wpAny_of_seqE hsel hQ t _ a' w' (fun j hj => hl j (by simp [hj])) hB.2 h') hw
    · obtain ⟨v, hy, h2⟩ := early_step ht (show wpList P ops Q' (ops.getD k default :: selOps ops t) a w from h)
      exact wpAny_take h0 hsel (free_any (by simpa using hr) hf) hr (fun c a w => hQ c a _ v w) hy (wpAny_of_seqE hsel hQ t _ _ _ (fun j hj => hl j (by simp [hj])) hB.2 h2)
theorem wpAny_mkC {Q : Exit → Act → World → Prop} {a A : Act} {w : World} {E h k t : List Nat} {D : List (Nat × Nat)} {V : Nat → Value → World → Prop} {N : Value → Value → Prop} (hsel : Region.noSelect ops = true) (hnd : ((h ++ k) ++ t).Nodup)
    (hEh : ∀ e ∈ E, e ∈ h) (hEp : ∀ e ∈ E, earlyB (ops.getD e default).op = true) (hEf : ∀ e ∈ E, Region.freeE md ops e = true) (hQ : ∀ c (a : Act) d v w, Q (.panic c) (a.put d v) w → Q (.panic c) a w) (hs : Region.sinkE md ops E ((h ++ k) ++ t) (h ++ k).length = true) (hc : Region.chainI md ops ((h ++ k) ++ t) (h ++ k).length = true) (ht0 : 0 < t.length) (htop : Region.topB md ops (h ++ k) = true) (hin : ∀ x, x < ((h ++ k) ++ t).length → ((h ++ k) ++ t).getD x 0 < ops.size)
    (hmk : Region.mkC md ops D h k = true) (hdist : distB a.tmps.size (selOps ops (h ++ k)) = true) (hlex : LexX P ops w A (selOps ops h) a) (hk : ∀ i ∈ k, MkAtC P ops D k i A w V N)
    (hV : ∀ i v W W', V i v W → Below W.heap.size W W' → V i v W')
    (hL : ∀ listed a' W, HeadI md ops ((h ++ k) ++ t) (h ++ k).length listed → (∀ i ∈ h ++ k, listed.getD i true = true) → InvM ops a A w h k V N listed a' W → wpAny P md ops Q t.length listed a' W) :
    ∀ (f : Nat) (listed : Array Bool) (a' : Act) (W : World), unl (h ++ k) listed = f → HeadI md ops ((h ++ k) ++ t) (h ++ k).length listed → InvM ops a A w h k V N listed a' W → wpAny P md ops Q (f + t.length) listed a' W := by
  have hn : (h ++ k).length < ((h ++ k) ++ t).length := by rw [@List.length_append Nat (h ++ k) t]; omega
  have hord : ∀ x, x < (h ++ k).length → ((h ++ k) ++ t).getD x 0 = (h ++ k).getD x 0 := fun x hx => by
    rw [List.getD_eq_getElem?_getD, List.getElem?_append_left hx, ← List.getD_eq_getElem?_getD]
  have hin' : ∀ x, x < (h ++ k).length → (h ++ k).getD x 0 < ops.size := fun x hx => by rw [← hord x hx]; exact hin x (by omega)
  simp only [Region.mkC, Bool.and_eq_true] at hmk
  obtain ⟨⟨mk1, mk2⟩, mk3⟩ := hmk
  have hdh : distB a.tmps.size (selOps ops h) = true := by
    simp only [distB, Bool.and_eq_true, decide_eq_true_eq] at hdist ⊢
    unfold selOps at hdist ⊢
    rw [List.map_append, List.map_append, List.all_append, Bool.and_eq_true] at hdist
    exact ⟨hdist.1.1, (List.nodup_append.1 hdist.2).1⟩
  intro f
  induction f with
  | zero =>
    intro listed a' W hu inv iv
    rw [Nat.zero_add]
    exact hL listed a' W inv (unl_zero hu) iv
  | succ f ih =>
    intro listed a' W hu inv iv
    rw [show f + 1 + t.length = (f + t.length) + 1 by omega]
    obtain ⟨x, hx, hxu⟩ : ∃ x, x < (h ++ k).length ∧ listed.getD ((h ++ k).getD x 0) true = false := by
      have hne : ((h ++ k).filter fun i => !listed.getD i true) ≠ [] := fun e => by unfold unl at hu; rw [e] at hu; cases hu
      obtain ⟨y, hy⟩ := List.exists_mem_of_ne_nil _ hne
      rw [List.mem_filter] at hy
      obtain ⟨x, hx, he⟩ := List.mem_iff_getElem.1 hy.1
      exact ⟨x, hx, by rw [List.getD_eq_getElem?_getD, List.getElem?_eq_getElem hx]; simp only [Option.getD_some]; rw [he]; simpa using hy.2⟩
    obtain ⟨x0, hx0, hx0u, hx0r⟩ := ready_some htop hin' inv.size hx hxu
    have NEXT : ∀ i, i ∈ Region.ready md ops listed → i ∈ h ++ k → ∀ {d v W'}, (ops.getD i default).dst = some d → Below W.heap.size W W' → (i ∈ h → A.tmps[d]? = some v) → (i ∈ k → V i v W') → (i ∈ k → ∀ j u, V j u W → N v u ∧ N u v) → wpAny P md ops Q (f + t.length) (listed.setIfInBounds i true) (a'.put (some d) v) W' := by
      intro i hi him d v W' hd hW h1 h2 h3
      obtain ⟨hiu, oi, hoi, hdep⟩ := mem_ready.1 hi
      have hlt : i < ops.size := (Array.getElem?_eq_some_iff.1 hoi).1
      have ho : oi = ops.getD i default := by
        have := getD_some hlt
        rw [hoi] at this; exact Option.some.inj this
      subst ho
      obtain ⟨z, hz, hzi⟩ := inv.all i hlt hiu
      have hzn : z < (h ++ k).length := by
        rcases Nat.lt_or_ge z (h ++ k).length with h1 | h1
        · exact h1
        · exfalso
          obtain ⟨q, hq, hqi⟩ := List.mem_iff_getElem.1 him
          have e1 : ((h ++ k) ++ t).getD q 0 = i := by rw [hord q hq, List.getD_eq_getElem?_getD, List.getElem?_eq_getElem hq]; exact hqi
          have hq' : q < ((h ++ k) ++ t).length := by omega
          rw [List.getD_eq_getElem?_getD, List.getElem?_eq_getElem hz, Option.getD_some] at hzi
          rw [List.getD_eq_getElem?_getD, List.getElem?_eq_getElem hq', Option.getD_some] at e1
          have := (List.getElem_inj hnd).1 (hzi.trans e1.symm)
          omega

      refine ih _ _ _ ?_ ?_ (iv.step hdist hV him hiu hd hW h1 h2 h3)
      · have := unl_set (List.nodup_append.1 hnd).1 him hiu
        omega
      · have := inv.set hnd hz (hzi.symm ▸ hi) hzn
        rw [hzi] at this
        exact this
    have GET : ∀ i, i ∈ Region.ready md ops listed → i ∈ h → ∃ d v, (ops.getD i default).dst = some d ∧ A.tmps[d]? = some v ∧ ((Region.wanted (ops.getD i default) (yielded ops a'.tmps) = true ∧ YX P (ops.getD i default) a' w v) ∨ (Region.wanted (ops.getD i default) (yielded ops a'.tmps) = false ∧ v = undef)) := by
      intro i hi hih
      obtain ⟨hiu, oi, hoi, hdep⟩ := mem_ready.1 hi
      have hlt : i < ops.size := (Array.getElem?_eq_some_iff.1 hoi).1
      have ho : oi = ops.getD i default := by
        have := getD_some hlt
        rw [hoi] at this; exact Option.some.inj this
      subst ho
      obtain ⟨z, hz, hzi⟩ := inv.all i hlt hiu
      have listedOf : ∀ j, Region.waitsFor md ops i j = true → listed.getD j false = true := fun j hj => by
        obtain ⟨oj, hoj, e, he, hb, hon⟩ := Region.waitsFor_spec hj
        have : oj = ops.getD i default := Option.some.inj (hoj.symm.trans hoi)
        subst this
        rw [← hon]; exact hdep e he hb
      have unlistedOf : ∀ j, Region.waitsFor md ops j i = true → listed.getD j false = false := fun j hj => by
        obtain ⟨oj, hoj, e, he, hb, hon⟩ := Region.waitsFor_spec hj
        cases hl : listed.getD j false with
        | false => rfl
        | true =>
          have := inv.closed j oj hoj hl e he hb
          rw [hon, getD_both hiu] at this
          cases this
      obtain ⟨p, hp, hpi⟩ := List.mem_iff_getElem.1 hih
      have hpg : h.getD p 0 = i := by rw [List.getD_eq_getElem?_getD, List.getElem?_eq_getElem hp]; exact hpi
      have hag : ∀ s ∈ (ops.getD i default).looksAt ops, a'.tmps[s]? = if ∃ x ∈ (selOps ops h).take p, x.dst = some s then A.tmps[s]? else a.tmps[s]? := fun s hs' => by
        have m := List.all_eq_true.1 (List.all_eq_true.1 mk1 p (List.mem_range.2 hp)) s (by rw [hpg]; exact hs')
        rw [Bool.and_eq_true] at m
        split
        · rename_i hx
          obtain ⟨o, ho, hos⟩ := hx
          obtain ⟨q, hq, hqo⟩ := List.mem_iff_getElem.1 ho
          have hq1 : q < p := by rw [List.length_take] at hq; omega
          have hq2 : q < h.length := by omega
          have hoq : o = ops.getD (h.getD q 0) default := by
            rw [← hqo, List.getElem_take]
            unfold selOps
            rw [List.getElem_map, List.getD_eq_getElem?_getD, List.getElem?_eq_getElem hq2]; rfl
          have m1 := List.all_eq_true.1 m.1 q (List.mem_range.2 hq2)
          rw [← hoq, hos] at m1
          simp only [bne_self_eq_false, Bool.false_or, hq1, if_true, hpg] at m1
          exact iv.hv (h.getD q 0) (by rw [List.getD_eq_getElem?_getD, List.getElem?_eq_getElem hq2]; exact List.getElem_mem _) (listedOf _ m1) s (by rw [← hoq]; exact hos)
        · rename_i hx
          refine iv.old s fun j hj hjs => ?_
          rcases List.mem_append.1 hj with hj | hj
          · obtain ⟨q, hq, hqj⟩ := List.mem_iff_getElem.1 hj
            have hqg : h.getD q 0 = j := by rw [List.getD_eq_getElem?_getD, List.getElem?_eq_getElem hq]; exact hqj
            have m1 := List.all_eq_true.1 m.1 q (List.mem_range.2 hq)
            rw [hqg, hjs] at m1
            by_cases hqp : q < p
            · exfalso
              refine hx ⟨ops.getD j default, ?_, hjs⟩
              refine List.mem_iff_getElem.2 ⟨q, by unfold selOps; simp; omega, ?_⟩
              rw [List.getElem_take]
              unfold selOps
              rw [List.getElem_map, hqj]
            · simp only [bne_self_eq_false, Bool.false_or, hqp, if_false, Bool.or_eq_true, beq_iff_eq, hpg] at m1
              rcases m1 with e | m1
              · subst e
                have : j = i := by rw [← hqj, hpi]
                subst this; exact getD_both hiu
              · exact unlistedOf j m1
          · have m2 := List.all_eq_true.1 m.2 j hj
            rw [hjs, hpg] at m2
            simp only [bne_self_eq_false, Bool.false_or] at m2
            exact unlistedOf j m2
      exact LexX.get (selOps ops h) a hdh hlex p (ops.getD i default) (by unfold selOps; rw [List.getElem?_map, List.getElem?_eq_getElem hp, hpi]; rfl) (fun cs b => Region.noSelect_spec hsel i _ cs b hoi) a' hag
    by_cases hE : ∃ e ∈ E, e ∈ Region.ready md ops listed
    · obtain ⟨i, hiE, hi⟩ := hE
      have hih := hEh i hiE
      have him : i ∈ h ++ k := List.mem_append.2 (Or.inl hih)
      have hno : i ∈ k → False := fun hk' => by
        have := (List.nodup_append.1 (List.nodup_append.1 hnd).1).2.2 i hih i hk'
        exact this rfl
      obtain ⟨hiu, oi, hoi, hdep⟩ := mem_ready.1 hi
      have hlt : i < ops.size := (Array.getElem?_eq_some_iff.1 hoi).1
      obtain ⟨d, v, hd, hv, hcase⟩ := GET i hi hih
      have hy : Yields P ops (ops.getD i default) v a' := by
        rcases hcase with ⟨hw, hy⟩ | ⟨hw, rfl⟩
        · exact Or.inl ⟨hw, early_all (hEp i hiE) (hy w (Below.refl _ _))⟩
        · exact Or.inr ⟨hw, rfl⟩
      refine wpAny_take (getD_some hlt) hsel (free_any hi (hEf i hiE)) (by simpa using hi) (fun c a w => hQ c a _ v w) hy ?_
      rw [hd]
      exact NEXT i hi him hd (Below.refl _ _) (fun _ => hv) (fun hk' => (hno hk').elim) (fun hk' => (hno hk').elim)
    have hx0E : (h ++ k).getD x0 0 ∉ E := fun hh => hE ⟨_, hh, hx0r⟩
    refine ⟨fun h0 => (by rw [h0] at hx0r; cases hx0r), fun i hi => ?_⟩
    obtain ⟨hiu, oi, hoi, hdep⟩ := mem_ready.1 hi
    have hlt : i < ops.size := (Array.getElem?_eq_some_iff.1 hoi).1
    have ho : oi = ops.getD i default := by
      have := getD_some hlt
      rw [hoi] at this; exact Option.some.inj this
    subst ho
    obtain ⟨z, hz, hzi⟩ := inv.all i hlt hiu
    have hzn : z < (h ++ k).length := by
      rcases Nat.lt_or_ge z (h ++ k).length with h1 | h1
      · exact h1
      · exact absurd (hzi ▸ hi) (tail_waitsE hs hc hn inv _ x0 rfl hx0 (by rw [hord x0 hx0]; exact hx0E) (by rw [hord x0 hx0]; exact hx0u) z h1 hz)
    have him : i ∈ h ++ k := by
      rw [← hzi, hord z hzn, List.getD_eq_getElem?_getD, List.getElem?_eq_getElem hzn]
      exact List.getElem_mem _
    have listedOf : ∀ j, Region.waitsFor md ops i j = true → listed.getD j false = true := fun j hj => by
      obtain ⟨oj, hoj, e, he, hb, hon⟩ := Region.waitsFor_spec hj
      have : oj = ops.getD i default := Option.some.inj (hoj.symm.trans hoi)
      subst this
      rw [← hon]; exact hdep e he hb
    have unlistedOf : ∀ j, Region.waitsFor md ops j i = true → listed.getD j false = false := fun j hj => by
      obtain ⟨oj, hoj, e, he, hb, hon⟩ := Region.waitsFor_spec hj
      cases hl : listed.getD j false with
      | false => rfl
      | true =>
        have := inv.closed j oj hoj hl e he hb
        rw [hon, getD_both hiu] at this
        cases this
    have next := @NEXT i hi him
    unfold wpOp
    rw [hoi]
    simp only
    by_cases hih : i ∈ h
    · obtain ⟨d, v, hd, hv, hcase⟩ := GET i hi hih
      have hno : i ∈ k → False := fun hk' => by
        have := (List.nodup_append.1 (List.nodup_append.1 hnd).1).2.2 i hih i hk'
        exact this rfl
      rcases hcase with ⟨hw, hy⟩ | ⟨hw, rfl⟩
      · rw [if_pos hw]
        refine .inl (wp_of_YX hy iv.below fun W' hW' => ?_)
        rw [hd]
        exact next hd hW' (fun _ => hv) (fun hk' => (hno hk').elim) (fun hk' => (hno hk').elim)
      · rw [if_neg (by rw [hw]; simp), hd]
        exact next hd (Below.refl _ _) (fun _ => hv) (fun hk' => (hno hk').elim) (fun hk' => (hno hk').elim)
    · have hik : i ∈ k := (List.mem_append.1 him).resolve_left hih
      have hag : ∀ s ∈ (ops.getD i default).looksAt ops, (∀ j ∈ k, (i, j) ∈ D → (ops.getD j default).dst ≠ some s) → a'.tmps[s]? = A.tmps[s]? := fun s hs' hno => by
        have m := List.all_eq_true.1 (List.all_eq_true.1 mk2 i hik) s hs'
        rw [Bool.and_eq_true] at m
        by_cases hx : ∃ j ∈ h, (ops.getD j default).dst = some s
        · obtain ⟨j, hj, hjs⟩ := hx
          obtain ⟨q, hq, hqj⟩ := List.mem_iff_getElem.1 hj
          have hqg : h.getD q 0 = j := by rw [List.getD_eq_getElem?_getD, List.getElem?_eq_getElem hq]; exact hqj
          have m1 := List.all_eq_true.1 m.1 q (List.mem_range.2 hq)
          rw [hqg, hjs] at m1
          simp only [bne_self_eq_false, Bool.false_or] at m1
          exact iv.hv j hj (listedOf _ m1) s hjs
        · rw [lex_keeps (selOps ops h) a (fun o ho e => by
            unfold selOps at ho
            obtain ⟨j, hj, rfl⟩ := List.mem_map.1 ho
            exact hx ⟨j, hj, e⟩) hlex]
          refine iv.old s fun j hj hjs => ?_
          rcases List.mem_append.1 hj with hj | hj
          · exact absurd ⟨j, hj, hjs⟩ hx
          · have := List.all_eq_true.1 m.2 j hj
            rw [hjs] at this
            simp only [bne_self_eq_false, Bool.false_or, List.contains_eq_mem, decide_eq_true_eq] at this
            exact absurd hjs (hno j hj this)
      have hdp : ∀ j ∈ k, (i, j) ∈ D → ∀ s, (ops.getD j default).dst = some s → ∃ u, a'.tmps[s]? = some u ∧ V j u W := fun j hj hij s hs' => by
        have := List.all_eq_true.1 mk3 (i, j) hij
        exact iv.kv j hj (listedOf j this) s hs'
      obtain ⟨hw, hm⟩ := hk i hik a' W iv.below hag hdp
      obtain ⟨d, hd, _⟩ := (distB_get hdist).1 i him
      rw [if_pos hw]
      refine .inl (wp_of_mk (V := V i) hm fun v W' hW' hv hf => ?_)
      rw [hd]
      exact next hd hW' (fun hh => absurd hh hih) (fun _ => hv) (fun _ => hf)


/-- the closed fact of such a region -/
def Region.planC (md : Region.Mode) (ops : Array Oper) (n : Nat) (D : List (Nat × Nat)) (E h k t : List Nat) : Bool :=
  Region.noSelect ops && decide ((h ++ k) ++ t).Nodup && decide (0 < t.length) && Region.sinkE md ops E ((h ++ k) ++ t) (h ++ k).length && (E.all fun e => h.contains e && earlyB (ops.getD e default).op && Region.freeE md ops e) && Region.chainI md ops ((h ++ k) ++ t) (h ++ k).length &&
  Region.topB md ops (h ++ k) && (((h ++ k) ++ t).all fun i => decide (i < ops.size)) && Region.mkC md ops D h k && distB n (selOps ops (h ++ k)) &&
  ((List.range ops.size).all fun i => ((h ++ k) ++ t).contains i) && Region.seqE md ops t ((Array.range ops.size).map fun i => (h ++ k).contains i)

/-- **THE REGION**: 'h' in the order of the text, each of one value in whatever world comes, making new blocks alone; 'k' makers; 't' the tail in its one order. A: the act behind h. -/
theorem wp_region_chain {id : Nat} {Q : Exit → Act → World → Prop} {a : Act} {w : World} {l : List Oper} (D : List (Nat × Nat)) (E h k t : List Nat) (n : Nat) (V : Nat → Value → World → Prop) (N : Value → Value → Prop) (hm : P.follows .mixedOrders = true) (hB : Region.planC .any l.toArray n D E h k t = true) (hsz : a.tmps.size = n) (A : Act) (hQ : ∀ c (a : Act) d v w, Q (.panic c) (a.put d v) w → Q (.panic c) a w)
    (H : ∀ W, Below w.heap.size w W → wpQuiet P l.toArray (fun w' => ∃ x, w' = W.ext x) (· = A) (h.map (l.getD · default)) a)
    (hV : ∀ i v W W', V i v W → Below W.heap.size W W' → V i v W')
    (hk : ∀ i ∈ k, MkAtC P l.toArray D k i A w V N)
    (hT : TailX P l.toArray Q w (t.map (l.getD · default)) V N k [] (fun _ => True) A) :
    (Code.region id l.toArray true).wp P Q a w := by
  have esel : ∀ is, selOps l.toArray is = is.map (l.getD · default) := fun is => by
    unfold selOps
    apply List.map_congr_left
    intro i _
    simp [Array.getD, List.getD_eq_getElem?_getD]
    split <;> rename_i h
    · rw [List.getElem?_eq_getElem h]; rfl
    · rw [List.getElem?_eq_none (by omega)]; rfl
  simp only [Region.planC, Bool.and_eq_true, decide_eq_true_eq] at hB
  obtain ⟨⟨⟨⟨⟨⟨⟨⟨⟨⟨⟨hsel, hnd⟩, ht0⟩, hs⟩, hE⟩, hc⟩, htop⟩, hin⟩, hmk⟩, hdist⟩, hall⟩, hseq⟩ := hB
  subst hsz
  have hin' : ∀ x, x < ((h ++ k) ++ t).length → ((h ++ k) ++ t).getD x 0 < l.toArray.size := fun x hx => by
    have := List.all_eq_true.1 hin (((h ++ k) ++ t).getD x 0) (by rw [List.getD_eq_getElem?_getD, List.getElem?_eq_getElem hx]; exact List.getElem_mem _)
    simpa using this
  have hdh : distB a.tmps.size (selOps l.toArray h) = true := by
    have hdist' := hdist
    simp only [distB, Bool.and_eq_true, decide_eq_true_eq] at hdist' ⊢
    unfold selOps at hdist' ⊢
    rw [List.map_append, List.map_append, List.all_append, Bool.and_eq_true] at hdist'
    exact ⟨hdist'.1.1, (List.nodup_append.1 hdist'.2).1⟩
  have hlex : LexX P l.toArray w A (selOps l.toArray h) a := lex_of _ _ hdh fun W hW => by rw [esel]; exact H W hW
  obtain ⟨sz1, df1⟩ := lex_size _ _ hlex
  refine wp_region_any hm ?_
  have hsz0 : ∀ i, (Array.replicate l.toArray.size false).getD i false = false := fun i => getD_replicate_false _ _
  have hlen : unl (h ++ k) (Array.replicate l.toArray.size false) + t.length = l.toArray.size := by
    have h1 : unl (h ++ k) (Array.replicate l.toArray.size false) = (h ++ k).length := by
      unfold unl
      rw [List.filter_eq_self.2]
      intro i hi
      obtain ⟨x, hx, he⟩ := List.mem_iff_getElem.1 hi
      have := hin' x (by rw [@List.length_append Nat (h ++ k) t]; omega)
      rw [List.getD_eq_getElem?_getD, List.getElem?_append_left hx, List.getElem?_eq_getElem hx] at this
      simp only [Option.getD_some, he] at this
      have h2 : i < l.length := by simpa using this
      simp [h2]
    rw [h1, ← List.length_append]
    have h3 : ((h ++ k) ++ t).length ≤ (List.range l.toArray.size).length := nodup_le _ _ hnd fun i hi => by
      obtain ⟨x, hx, he⟩ := List.mem_iff_getElem.1 hi
      have := hin' x hx
      rw [List.getD_eq_getElem?_getD, List.getElem?_eq_getElem hx] at this
      simp only [Option.getD_some, he] at this
      exact List.mem_range.2 this
    have h4 : (List.range l.toArray.size).length ≤ ((h ++ k) ++ t).length := nodup_le _ _ List.nodup_range fun i hi => by
      have := List.all_eq_true.1 hall i hi
      simpa using this
    rw [List.length_range] at h3 h4
    omega
  have hFIN : ∀ (listed : Array Bool) (a' : Act) (W : World), HeadI .any l.toArray ((h ++ k) ++ t) (h ++ k).length listed → (∀ i ∈ h ++ k, listed.getD i true = true) → InvM l.toArray a A w h k V N listed a' W → wpAny P .any l.toArray Q t.length listed a' W := by
    intro listed a' W inv hl iv
    have hlist : listed = (Array.range l.toArray.size).map fun i => (h ++ k).contains i := by
      apply Array.ext
      · rw [inv.size]; simp
      · intro i h1 h2
        have hi : i < l.toArray.size := by rw [← inv.size]; exact h1
        simp only [Array.getElem_map, Array.getElem_range]
        by_cases hm : i ∈ h ++ k
        · have := hl i hm
          simp [h1] at this
          rw [this]
          symm
          simpa using hm
        · have hm' := List.all_eq_true.1 hall i (List.mem_range.2 hi)
          simp only [List.contains_eq_mem, decide_eq_true_eq] at hm'
          have ht' : i ∈ t := (List.mem_append.1 hm').resolve_left hm
          obtain ⟨y, hy, he⟩ := List.mem_iff_getElem.1 ht'
          have := inv.tail ((h ++ k).length + y) (by omega) (by rw [@List.length_append Nat (h ++ k) t]; omega)
          rw [List.getD_eq_getElem?_getD, List.getElem?_append_right (by omega), show (h ++ k).length + y - (h ++ k).length = y by omega, List.getElem?_eq_getElem hy] at this
          simp only [Option.getD_some, he] at this
          simp [h1] at this
          rw [this]
          symm
          simp only [List.contains_eq_mem, decide_eq_false_iff_not]
          exact hm
    have lst : ∀ i ∈ h ++ k, listed.getD i false = true := fun i hi => by
      have := hl i hi
      have hii := List.all_eq_true.1 hin i (by simp only [List.mem_append] at hi ⊢; exact Or.inl hi)
      have hii' : i < listed.size := by rw [inv.size]; simpa using hii
      simp [hii'] at this ⊢; exact this
    refine wpAny_of_seqE hsel hQ t listed a' W (fun i hi => ?_) (by rw [hlist]; exact hseq) ?_
    · have := List.all_eq_true.1 hin i (by simp [hi])
      simpa using this
    · rw [esel]
      refine tail_of iv.below k [] (fun _ => True) A (by rw [sz1, iv.size]) (by rw [df1, iv.defers]) (fun i hi => ?_) (fun s hs' => ?_) (List.nodup_append.1 (List.nodup_append.1 hnd).1).2.1 (fun x hx y hy hxy => iv.ap x hx y hy hxy (lst x (by simp [hx])) (lst y (by simp [hy]))) trivial hT
      · obtain ⟨d, hd, _⟩ := (distB_get hdist).1 i (by simp [hi])
        obtain ⟨v, e, hv⟩ := iv.kv i hi (by
          have := hl i (by simp [hi])
          have hii := List.all_eq_true.1 hin i (by simp [hi])
          have hii' : i < listed.size := by rw [inv.size]; simpa using hii
          simp [hii'] at this ⊢; exact this) d hd
        exact ⟨d, v, hd, e, hv, fun u hu => by cases hu⟩
      · by_cases hx : ∃ j ∈ h, (l.toArray.getD j default).dst = some s
        · obtain ⟨j, hj, hjs⟩ := hx
          refine iv.hv j hj ?_ s hjs
          have := hl j (by simp [hj])
          have hii := List.all_eq_true.1 hin j (by simp [hj])
          have hii' : j < listed.size := by rw [inv.size]; simpa using hii
          simp [hii'] at this ⊢; exact this
        · rw [lex_keeps (selOps l.toArray h) a (fun o ho e => by
            unfold selOps at ho
            obtain ⟨j, hj, rfl⟩ := List.mem_map.1 ho
            exact hx ⟨j, hj, e⟩) hlex]
          refine iv.old s fun j hj hjs => ?_
          rcases List.mem_append.1 hj with hj | hj
          · exact absurd ⟨j, hj, hjs⟩ hx
          · exact absurd hjs (hs' j hj)
  have hHD : HeadI .any l.toArray ((h ++ k) ++ t) (h ++ k).length (Array.replicate l.toArray.size false) := by
    refine ⟨by simp, fun j oj hj hl => ?_, fun i hi hl => ?_, fun y hy hyl => ?_, hin'⟩
    · rw [hsz0 j] at hl; cases hl
    · have := List.all_eq_true.1 hall i (List.mem_range.2 hi)
      simp only [List.contains_eq_mem, decide_eq_true_eq] at this
      obtain ⟨x, hx, he⟩ := List.mem_iff_getElem.1 this
      exact ⟨x, hx, by rw [List.getD_eq_getElem?_getD, List.getElem?_eq_getElem hx]; exact he⟩
    · have := hin' y hyl
      have h2 : ((h ++ k) ++ t).getD y 0 < l.length := by simpa using this
      exact getD_in (by simpa using h2) (hsz0 _)
  have hIV : InvM l.toArray a A w h k V N (Array.replicate l.toArray.size false) a w.drew := by
    exact ⟨(Below.refl w.heap.size w).drew, rfl, rfl, fun i hi hl => (by rw [hsz0 i] at hl; cases hl), fun i hi hl => (by rw [hsz0 i] at hl; cases hl), fun s _ => rfl, fun i hi j hj hij hl => (by rw [hsz0 i] at hl; cases hl)⟩
  have hE' : ∀ e ∈ E, e ∈ h ∧ earlyB (l.toArray.getD e default).op = true ∧ Region.freeE .any l.toArray e = true := fun e he => by
    have := List.all_eq_true.1 hE e he
    simp only [Bool.and_eq_true, List.contains_eq_mem, decide_eq_true_eq] at this
    exact ⟨this.1.1, this.1.2, this.2⟩
  have key := wpAny_mkC (Q := Q) (E := E) (A := A) (w := w) (h := h) (k := k) (V := V) hsel hnd (fun e he => (hE' e he).1) (fun e he => (hE' e he).2.1) (fun e he => (hE' e he).2.2) hQ hs hc ht0 htop hin' hmk hdist hlex hk hV hFIN _ (Array.replicate l.toArray.size false) a w.drew rfl hHD hIV
  rw [hlen] at key
  exact key
/-- .. in the form in which a walk finds A out: 'refine wp_region_chainE ..; apply Exists.intro; refine ⟨fun X hX => ?_, ?_, ?_⟩' -/
theorem wp_region_chainE {id : Nat} {Q : Exit → Act → World → Prop} {a : Act} {w : World} {l : List Oper} (D : List (Nat × Nat)) (E h k t : List Nat) (n : Nat) (V : Nat → Value → World → Prop) (N : Value → Value → Prop) (hm : P.follows .mixedOrders = true) (hB : Region.planC .any l.toArray n D E h k t = true) (hsz : a.tmps.size = n)
    (hV : ∀ i v W W', V i v W → Below W.heap.size W W' → V i v W')
    (H : ∃ A, (∀ W, Below w.heap.size w W → wpQuiet P l.toArray (fun w' => ∃ x, w' = W.ext x) (· = A) (h.map (l.getD · default)) a) ∧ (∀ i ∈ k, MkAtC P l.toArray D k i A w V N) ∧ TailX P l.toArray Q w (t.map (l.getD · default)) V N k [] (fun _ => True) A)
    (hQ : ∀ c (a : Act) d v w, Q (.panic c) (a.put d v) w → Q (.panic c) a w := by intro c a d v w h; cases d <;> exact h) :
    (Code.region id l.toArray true).wp P Q a w := by
  obtain ⟨A, h1, h2, h3⟩ := H
  exact wp_region_chain D E h k t n V N hm hB hsz A hQ h1 hV h2 h3
end
end Go.Proofs.YtmblknknbbdmeaaGreat
/- a drawing region, its loads first (under S); then two makers beside a third (a diamond); then a tail. -/
namespace Go.Proofs.YtmblknknbbdmeaaGreat
open Go Go.RowKit
set_option linter.unusedVariables false
set_option linter.unusedSimpArgs false
section
variable {P : Program} {ops : Array Oper} {md : Region.Mode} {Q : Exit → Act → World → Prop} {S : World → Prop}

theorem wpOp_val {i : Nat} {a : Act} {w W' : World} {v : Value} {K : Act → World → Prop} (hi : i < ops.size) (hg : (ops.getD i default).guard = none) (hr : (execOp a.eval (ops.getD i default)).run P w = .ok (.value v) W') (h : K (a.put (ops.getD i default).dst v) W') : wpOp P ops Q i K a w := by
  unfold wpOp
  simp only [getD_some hi]
  rw [if_pos (by unfold Region.wanted; rw [hg])]
  refine .inl ?_
  unfold Oper.wp
  rw [hr]
  exact h
theorem put_comm (a : Act) {d e : Nat} (u v : Value) (h : d ≠ e) : (a.put (some d) u).put (some e) v = (a.put (some e) v).put (some d) u := by
  simp only [Act.put]
  rw [Array.setIfInBounds_comm _ _ h]
theorem exec_put {o : Oper} (hs : ∀ cs b, o.op ≠ .select cs b) (a : Act) (d : Nat) (u : Value) (h : (o.looksAt ops).contains d = false) : execOp (a.put (some d) u).eval o = execOp a.eval o :=
  (looks_same hs fun s hs' => by
    have hne : s ≠ d := by
      intro e
      subst e
      rw [List.contains_eq_mem, decide_eq_false_iff_not] at h
      exact h hs'
    simp [Act.put, Array.getElem?_setIfInBounds, Ne.symm hne]).1
theorem takeFirst {i : Nat} {v : Value} {fuel : Nat} {listed : Array Bool} {a : Act} {w : World} (d : Nat) (z : i < ops.size) (hd : (ops.getD i default).dst = some d)
    (hs : Region.noSelect ops = true) (hf : Region.free md ops listed i = true) (hr : (Region.ready md ops listed).contains i = true)
    (hQ : ∀ c (a : Act) w, Q (.panic c) (a.put (some d) v) w → Q (.panic c) a w) (hy : YieldsIf P ops S (ops.getD i default) v a) (hS : S w)
    (h : wpAnyH P md ops Q S fuel (listed.setIfInBounds i true) (a.put (some d) v) w) : wpAnyH P md ops Q S (fuel + 1) listed a w :=
  wpAnyH_take (getD_some z) hs hf hr (fun c a w => by rw [hd]; exact hQ c a w) hy hS (by rw [hd]; exact h)
/-- the closed fact of the diamond: i1 ahead of i3; i5 beside them -/
def diaB (md : Region.Mode) (ops : Array Oper) (listed : Array Bool) (i1 i3 i5 d1 d3 d5 : Nat) : Bool :=
  decide (Region.ready md ops listed = [i1, i5]) && decide (Region.ready md ops (listed.setIfInBounds i1 true) = [i3, i5]) && decide (Region.ready md ops ((listed.setIfInBounds i1 true).setIfInBounds i3 true) = [i5]) &&
  decide (Region.ready md ops ((listed.setIfInBounds i1 true).setIfInBounds i5 true) = [i3]) && decide (Region.ready md ops (listed.setIfInBounds i5 true) = [i1]) &&
  decide (i1 < ops.size) && decide (i3 < ops.size) && decide (i5 < ops.size) && ((ops.getD i1 default).guard == none) && ((ops.getD i3 default).guard == none) && ((ops.getD i5 default).guard == none) &&
  ((ops.getD i1 default).dst == some d1) && ((ops.getD i3 default).dst == some d3) && ((ops.getD i5 default).dst == some d5) &&
  decide (i1 ≠ i3) && decide (i1 ≠ i5) && decide (i3 ≠ i5) && decide (d1 ≠ d3) && decide (d1 ≠ d5) && decide (d3 ≠ d5) &&
  (((ops.getD i1 default).looksAt ops).contains d5 == false) && (((ops.getD i3 default).looksAt ops).contains d5 == false) && (((ops.getD i5 default).looksAt ops).contains d1 == false) && (((ops.getD i5 default).looksAt ops).contains d3 == false)
theorem diamond {fuel : Nat} {listed : Array Bool} {a : Act} {w : World} (i1 i3 i5 d1 d3 d5 : Nat) (hsel : Region.noSelect ops = true) (hB : diaB md ops listed i1 i3 i5 d1 d3 d5 = true) (V1 V3 V5 : Value → World → Prop)
    (h1 : ∀ W, S W → ∃ v W', (execOp a.eval (ops.getD i1 default)).run P W = .ok (.value v) W' ∧ S W' ∧ V1 v W' ∧ ∀ u, V5 u W → V5 u W')
    (h3 : ∀ u W, S W → V1 u W → ∃ v W', (execOp (a.put (some d1) u).eval (ops.getD i3 default)).run P W = .ok (.value v) W' ∧ S W' ∧ V3 v W' ∧ ∀ u, V5 u W → V5 u W')
    (h5 : ∀ W, S W → ∃ v W', (execOp a.eval (ops.getD i5 default)).run P W = .ok (.value v) W' ∧ S W' ∧ V5 v W' ∧ (∀ u, V1 u W → V1 u W') ∧ ∀ u, V3 u W → V3 u W')
    (hS : S w)
    (REST : ∀ u1 u3 u5 W, S W → V3 u3 W → V5 u5 W → wpAnyH P md ops Q S fuel (((listed.setIfInBounds i1 true).setIfInBounds i3 true).setIfInBounds i5 true) (((a.put (some d1) u1).put (some d3) u3).put (some d5) u5) W) :
    wpAnyH P md ops Q S (fuel + 3) listed a w := by
  simp only [diaB, Bool.and_eq_true, decide_eq_true_eq, beq_iff_eq] at hB
  obtain ⟨⟨⟨⟨⟨⟨⟨⟨⟨⟨⟨⟨⟨⟨⟨⟨⟨⟨⟨⟨⟨⟨⟨r0, r1⟩, r13⟩, r15⟩, r5⟩, z1⟩, z3⟩, z5⟩, g1⟩, g3⟩, g5⟩, e1⟩, e3⟩, e5⟩, n13⟩, n15⟩, n35⟩, m13⟩, m15⟩, m35⟩, l15⟩, l35⟩, l51⟩, l53⟩ := hB
  have s1 : ∀ cs b, (ops.getD i1 default).op ≠ .select cs b := fun cs b => Region.noSelect_spec hsel i1 _ cs b (getD_some z1)
  have s3 : ∀ cs b, (ops.getD i3 default).op ≠ .select cs b := fun cs b => Region.noSelect_spec hsel i3 _ cs b (getD_some z3)
  have s5 : ∀ cs b, (ops.getD i5 default).op ≠ .select cs b := fun cs b => Region.noSelect_spec hsel i5 _ cs b (getD_some z5)
  refine wpAnyH_all r0 (by simp) fun i hi => ?_
  simp only [List.mem_cons, List.not_mem_nil, or_false] at hi
  rcases hi with rfl | rfl
  · obtain ⟨v1, W1, q1, S1, p1, _⟩ := h1 w hS
    refine wpOp_val z1 g1 q1 ⟨S1, ?_⟩
    rw [e1]
    refine wpAnyH_all r1 (by simp) fun j hj => ?_
    simp only [List.mem_cons, List.not_mem_nil, or_false] at hj
    rcases hj with rfl | rfl
    · obtain ⟨v3, W3, q3, S3, p3, _⟩ := h3 v1 W1 S1 p1
      refine wpOp_val z3 g3 q3 ⟨S3, ?_⟩
      rw [e3]
      refine wpAnyH_all r13 (by simp) fun k hk => ?_
      simp only [List.mem_cons, List.not_mem_nil, or_false] at hk
      subst hk
      obtain ⟨v5, W5, q5, S5, p5, _, k3⟩ := h5 W3 S3
      refine wpOp_val z5 g5 (by rw [exec_put s5 _ _ _ l53, exec_put s5 _ _ _ l51]; exact q5) ⟨S5, ?_⟩
      rw [e5]
      exact REST v1 v3 v5 W5 S5 (k3 _ p3) p5
    · obtain ⟨v5, W5, q5, S5, p5, k1, _⟩ := h5 W1 S1
      refine wpOp_val z5 g5 (by rw [exec_put s5 _ _ _ l51]; exact q5) ⟨S5, ?_⟩
      rw [e5]
      refine wpAnyH_all r15 (by simp) fun k hk => ?_
      simp only [List.mem_cons, List.not_mem_nil, or_false] at hk
      subst hk
      obtain ⟨v3, W3, q3, S3, p3, k5⟩ := h3 v1 W5 S5 (k1 _ p1)
      refine wpOp_val z3 g3 (by rw [exec_put s3 _ _ _ l35]; exact q3) ⟨S3, ?_⟩
      rw [e3, put_comm _ _ _ m35.symm, Array.setIfInBounds_comm _ _ n35.symm]
      exact REST v1 v3 v5 W3 S3 p3 (k5 _ p5)
  · obtain ⟨v5, W5, q5, S5, p5, _, _⟩ := h5 w hS
    refine wpOp_val z5 g5 q5 ⟨S5, ?_⟩
    rw [e5]
    refine wpAnyH_all r5 (by simp) fun j hj => ?_
    simp only [List.mem_cons, List.not_mem_nil, or_false] at hj
    subst hj
    obtain ⟨v1, W1, q1, S1, p1, k5⟩ := h1 W5 S5
    refine wpOp_val z1 g1 (by rw [exec_put s1 _ _ _ l15]; exact q1) ⟨S1, ?_⟩
    rw [e1, put_comm _ _ _ m15.symm, Array.setIfInBounds_comm _ _ n15.symm]
    refine wpAnyH_all r15 (by simp) fun k hk => ?_
    simp only [List.mem_cons, List.not_mem_nil, or_false] at hk
    subst hk
    obtain ⟨v3, W3, q3, S3, p3, k5'⟩ := h3 v1 W1 S1 p1
    refine wpOp_val z3 g3 (by rw [exec_put s3 _ _ _ l35]; exact q3) ⟨S3, ?_⟩
    rw [e3, put_comm _ _ _ m35.symm, Array.setIfInBounds_comm _ _ n35.symm]
    exact REST v1 v3 v5 W3 S3 p3 (k5' _ (k5 _ p5))

/-- a tail, S kept -/
def wpListS (P : Program) (ops : Array Oper) (Q : Exit → Act → World → Prop) (S : World → Prop) : List Nat → Act → World → Prop
  | [], a, w => Q .normal a w
  | i :: t, a, w => wpOp P ops Q i (fun a' w' => S w' ∧ wpListS P ops Q S t a' w') a w
theorem stepS {i : Nat} {t : List Nat} {a : Act} {w W' : World} {v : Value} (d : Nat) (hd : (ops.getD i default).dst = some d) (hi : i < ops.size) (hg : (ops.getD i default).guard = none) (hr : (execOp a.eval (ops.getD i default)).run P w = .ok (.value v) W') (hS : S W') (h : wpListS P ops Q S t (a.put (some d) v) W') : wpListS P ops Q S (i :: t) a w :=
  wpOp_val hi hg hr ⟨hS, by rw [hd]; exact h⟩
theorem stepS_call {i : Nat} {t : List Nat} {a : Act} {w : World} {f : FuncId} {args : Array Value} {v : Value} {C : World → Prop} (d : Nat) (hd : (ops.getD i default).dst = some d) (hi : i < ops.size) (hg : (ops.getD i default).guard = none) (hr : (execOp a.eval (ops.getD i default)).run P w = .ok (.enter f args) w)
    (hc : Calls P f args w fun e w' => e = .returned v ∧ C w') (hS : ∀ W', C W' → S W') (h : ∀ W', C W' → wpListS P ops Q S t (a.put (some d) v) W') : wpListS P ops Q S (i :: t) a w := by
  unfold wpListS wpOp
  simp only [getD_some hi]
  rw [if_pos (by unfold Region.wanted; rw [hg])]
  refine .inl ?_
  unfold Oper.wp
  rw [hr]
  refine hc.mono fun e w' he => ?_
  obtain ⟨rfl, hC⟩ := he
  rw [hd]
  exact ⟨hS w' hC, h w' hC⟩
theorem early_stepS {k : Nat} {o : Oper} {a : Act} {w : World} {tl : List Nat} (he : tailB o = true) (hi : ops[k]? = some o) (h : wpOp P ops Q k (fun a' w' => S w' ∧ wpListS P ops Q S tl a' w') a w) : ∃ v, Yields P ops o v a ∧ wpListS P ops Q S tl (a.put o.dst v) w := by
  unfold tailB at he
  cases ho : o.op <;> rw [ho] at he <;> first
    | (simp at he; done)
    | skip
  rename_i t ix
  have hg : o.guard = none := by simpa using he
  have hw : Region.wanted o (yielded ops a.tmps) = true := by simp [Region.wanted, hg]
  unfold wpOp at h
  simp only [hi] at h
  rw [if_pos hw] at h
  rcases h with h | ⟨h, _⟩
  · unfold Oper.wp execOp at h
    simp only [ho, Sem.run_pure, Sem.run_bind, Instr.extract] at h
    cases ht : a.eval t <;> rw [ht] at h <;> simp only [] at h <;> first
      | (simp [Result.andThen, Oper.upon] at h; done)
      | skip
    rename_i vs
    cases hx : vs[ix]? with
    | none => simp [hx, Result.andThen, Oper.upon] at h
    | some v =>
      refine ⟨v, Or.inl ⟨hw, fun w' => ?_⟩, ?_⟩
      · unfold execOp
        simp [ho, ht, Instr.extract, hx]
      · have h' : S w ∧ wpListS P ops Q S tl (a.put o.dst v) w := by simpa [hx, Result.andThen, Oper.upon] using h
        exact h'.2
  · exfalso
    unfold Oper.asks execOp at h
    simp only [ho] at h
    have h1 := h.1
    unfold Instr.extract at h1
    have hn : ∀ e : Event, e ∉ (#[] : Array Event) := by simp
    cases ht : a.eval t <;> rw [ht] at h1
    case tuple vs =>
      simp only at h1
      cases hx : vs[ix]? <;> rw [hx] at h1 <;> exact hn _ h1
    all_goals exact hn _ h1
theorem wpAnyH_of_seqE (hsel : Region.noSelect ops = true) (hQ : ∀ c (a : Act) d v w, Q (.panic c) (a.put d v) w → Q (.panic c) a w) : ∀ (t : List Nat) (listed : Array Bool) (a : Act) (w : World), S w → (∀ i ∈ t, i < ops.size) →
    Region.seqE md ops t listed = true → wpListS P ops Q S t a w → wpAnyH P md ops Q S t.length listed a w
  | [], _, _, _, _, _, hB, h => ⟨by simpa [Region.seqE] using hB, h⟩
  | k :: t, listed, a, w, hS, hl, hB, h => by
    have h0 := getD_some (hl k (by simp))
    simp only [Region.seqE, Bool.and_eq_true, Bool.or_eq_true, decide_eq_true_eq] at hB
    rcases hB.1 with hr | ⟨⟨hr, ht⟩, hf⟩
    · refine ⟨fun h1 => (by rw [hr] at h1; cases h1), fun i hi => ?_⟩
      rw [hr] at hi
      have hik : i = k := by simpa using hi
      subst hik
      exact wpOp_mono (fun a' w' h' => ⟨h'.1, wpAnyH_of_seqE hsel hQ t _ a' w' h'.1 (fun j hj => hl j (by simp [hj])) hB.2 h'.2⟩) h
    · have h3 : wpOp P ops Q k (fun a' w' => S w' ∧ wpListS P ops Q S t a' w') a w := h
      obtain ⟨v, hy, h4⟩ := early_stepS ht h0 h3
      exact wpAnyH_take h0 hsel (free_any (by simpa using hr) hf) hr (fun c a w => hQ c a _ v w) hy.yieldsIf hS (wpAnyH_of_seqE hsel hQ t _ _ _ hS (fun j hj => hl j (by simp [hj])) hB.2 h4)
end
end Go.Proofs.YtmblknknbbdmeaaGreat
