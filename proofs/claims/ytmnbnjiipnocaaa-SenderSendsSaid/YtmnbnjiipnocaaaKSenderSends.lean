/- SenderSends: the walk. -/
import Derived.Test.YtmnbnjiipnocaaaSb10
namespace Go.Proofs.Ytmnbnjiipnocaaa
open Go Go.RowKit
set_option linter.unusedVariables false
set_option linter.unusedSimpArgs false
attribute [local go_sem] bmax2 bmin2 bmax bmin cell_ext frozen_ext

set_option maxHeartbeats 16000000 in
set_option maxRecDepth 100000 in
theorem SenderSends_walk (w : World) (S : List UInt8) (s l d c : Int) (ad : Option Addr) (cp : Nat) (l9 : List Cl) (at_ : Int) (hS : S.length = 32) (b1 : (Lit.int .i64 s).wf = true ∧ (Lit.int .i64 l).wf = true ∧ (Lit.int .i64 d).wf = true ∧ (Lit.int .i64 c).wf = true) (b2 : l9.length ≤ maxLen ∧ l9.length ≤ cp ∧ cp ≤ maxLen ∧ (∀ f ∈ l9, wfC f) ∧ HeldC w ad l9) (b3 : (Lit.int .u8 at_).wf = true) :
    Calls Try.prog 3 #[keyV S, .agg (planL s l d c).toArray, .slice ad l9.length cp, .int .u8 at_] w fun e w' => e = .returned (.bool true) ∧ Below w.heap.size w w' := by
  unfold keyV
  obtain ⟨bs, bl, bd, bc⟩ := b1
  obtain ⟨ha0, ha1⟩ := wf_u8 b3
  clear b3
  obtain ⟨hlm, hlc, hcm, hwf, hheld⟩ := b2
  have HWF := kp hwf
  have HHELD := kp hheld
  clear hwf hheld hcm hlc
  have cM := kp (fun w' => P_May s l d c w')
  have HSL := kp hS
  have HPL := kp (planL_length s l d c)
  have xc : Kp ((planL s l d c)[3]? = some (.int .i64 c)) := kp rfl
  have K_s := kp ((Blk.new w 23 (cellsU8 S).toArray).alloc (.cells (planL s l d c).toArray 25))
  have K_p := kp (Blk.new (w.alloc (.cells (cellsU8 S).toArray 23)) 25 (planL s l d c).toArray)
  have HB := kp (ba (ba (Below.refl w.heap.size w) (.cells (cellsU8 S).toArray 23)) (.cells (planL s l d c).toArray 25))
  rw [size_all] at K_p
  have c1 : Kp (∀ w', w.heap.size ≤ w'.heap.size → mayP s l d c = true → ∀ n : Nat, c = (n : Int) → Calls Try.prog 10 #[.agg (cellsU8 S).toArray, .agg (planL s l d c).toArray] w' fun e w'' => ∃ b, e = .returned (.tuple #[.pointer (some ⟨b, 0, none⟩), .int .i64 0]) ∧ S1 w.heap.size w'' b ⟨S, s, l, d, n⟩ 0 ∧ Below w'.heap.size w' w'') := kp (fun w' h hm n hn => by subst hn; exact L_New ⟨hS, hm⟩ w' h)
  have c2 : Kp (∀ w', mayP s l d c = false → Calls Try.prog 10 #[.agg (cellsU8 S).toArray, .agg (planL s l d c).toArray] w' fun e w'' => e = .returned (.tuple #[.pointer none, .int .i64 1]) ∧ Below w'.heap.size w' w'') := kp (fun w' h => S_New_bad S s l d c hS h w')
  have HRS : Kp (∀ W : World, (Instr.build 36 #[(0, .agg (cellsU8 S).toArray), (1, .agg (planL s l d c).toArray)]).run Try.prog W = .ok (.agg (rsL S s l d c 0).toArray) W) := kp (fun W => build_rs S s l d c hS W)
  obtain ⟨PL, hPL⟩ : ∃ PL, planL s l d c = PL := ⟨_, rfl⟩
  rw [hPL] at cM HPL xc K_s K_p HB c1 c2 HRS
  rw [hPL]
  clear hPL hS
  go_enter Try.func3, Try.ntmps3
  go_upto_region 1 with (fail)
  change Code.wp _ _ _ _ ((w.alloc (.cells (cellsU8 S).toArray 23)).alloc (.cells PL.toArray 25))
  generalize (w.alloc (.cells (cellsU8 S).toArray 23)).alloc (.cells PL.toArray 25) = W at K_s K_p HB ⊢
  go_wp2_with fail
  refine (sender_awake _).mono ?_
  rintro e w_1 ⟨rfl, hb_1⟩
  have K_s := kp (K_s.out.bel hb_1)
  have K_p := kp (K_p.out.bel hb_1)
  have HB := kp (bt' HB.out hb_1 HB.out.size)
  clear hb_1
  have L_p := ld_all (P := Try.prog) (w.heap.size + 1) 4 25 25 PL _ Try.underlying25 rfl info_plan HPL.out K_p.out
  have L_s := ldK S HSL.out K_s.out
  go_wp2_with (first | (refine wpL_load rfl 25 _ rfl rfl L_p ?_) | (refine wpL_load rfl 23 _ rfl rfl L_s ?_))
  clear L_p L_s
  by_cases hm : mayP s l d c = true
  rotate_left
  · have hm : mayP s l d c = false := by simpa using hm
    refine (c2.out _ hm).mono ?_
    rintro e w_8 ⟨rfl, hb_8⟩
    have K_p := kp (K_p.out.bel hb_8)
    have HB := kp (bt' HB.out hb_8 HB.out.size)
    clear hb_8
    rw [hm] at cM
    have L_p := ld_all (P := Try.prog) (w.heap.size + 1) 4 25 25 PL _ Try.underlying25 rfl info_plan HPL.out K_p.out
    go_wp2_with (refine wpL_load rfl 25 _ rfl rfl L_p ?_)
    clear L_p
    refine (cM.out _).mono ?_
    rintro e w_9 ⟨rfl, hb_9⟩
    have HB := kp (bt' HB.out hb_9 HB.out.size)
    clear hb_9
    go_wp2
    go_ret
    exact ⟨rfl, HB.out⟩
  have hcc := mayP_iff.1 hm
  obtain ⟨n, hn⟩ : ∃ n : Nat, c = (n : Int) := ⟨c.toNat, by omega⟩
  have HM := kp hm
  have hnn : 1 ≤ n ∧ n ≤ 1024 := by omega
  rw [hm] at cM
  have c1 := kp (fun w' hB => c1.out w' hB HM.out n hn)
  clear hm c2 hcc
  refine (c1.out _ HB.out.size).mono ?_
  rintro e w_2 ⟨b_a, rfl, hs_2, hb_2⟩
  have K_s := kp (K_s.out.bel hb_2)
  have K_p := kp (K_p.out.bel hb_2)
  have HB := kp (bt' HB.out hb_2 HB.out.size)
  have S_a := kp hs_2
  clear hs_2 hb_2
  clear c1
  have L_p := ld_all (P := Try.prog) (w.heap.size + 1) 4 25 25 PL _ Try.underlying25 rfl info_plan HPL.out K_p.out
  go_wp2_with (refine wpL_load rfl 25 _ rfl rfl L_p ?_)
  clear L_p
  refine (cM.out _).mono ?_
  rintro e w_3 ⟨rfl, hb_3⟩
  have K_s := kp (K_s.out.bel hb_3)
  have K_p := kp (K_p.out.bel hb_3)
  have S_a := kp (S_a.out.bel hb_3)
  have HB := kp (bt' HB.out hb_3 HB.out.size)
  clear hb_3
  have x3 := K_p.out.atL xc.out
  have lp := K_p.out.lt
  by_cases h16 : 16 < c
  · have d16 : decide ((16 : Int) < c) = true := decide_eq_true h16
    clear hn
    go_wp2
    go_ret
    exact ⟨rfl, HB.out⟩
  have d16 : decide ((16 : Int) < c) = false := decide_eq_false h16
  have h16' : ¬ (16 : Int) < c := h16
  have HOK := kp (SP.Ok.mk (p := ⟨S, s, l, d, n⟩) HSL.out (by rw [← hn]; exact HM.out))
  have HN := kp hn
  clear hn
  obtain ⟨RL, hRL⟩ : ∃ RL, rsL S s l d c 0 = RL := ⟨_, rfl⟩
  rw [hRL] at HRS
  have HRL := kp hRL
  clear hRL
  have L_p := ld_all (P := Try.prog) (w.heap.size + 1) 4 25 25 PL _ Try.underlying25 rfl info_plan HPL.out K_p.out
  have L_s := ldK S HSL.out K_s.out
  have K_r := kp (Blk.new w_3 36 RL.toArray)
  have hge_r := kp HB.out.size
  have S_a := kp (S_a.out.bel (ba (Below.refl _ _) (.cells RL.toArray 36)))
  have HB := kp (ba HB.out (.cells RL.toArray 36))
  go_wp2_with (first | (refine wpL_load rfl 25 _ rfl rfl L_p ?_) | (refine wpL_load rfl 23 _ rfl rfl L_s ?_) | (refine wpL_val 51 rfl rfl (.agg RL.toArray) (exec_build (parts := #[(0, .agg (cellsU8 S).toArray), (1, .agg PL.toArray)]) rfl (by simp [Act.eval, Act.put]) (HRS.out _)) ?_))
  clear L_p L_s x3 lp d16 h16' K_s K_p cM HRS
  generalize w_3.alloc (.cells RL.toArray 36) = W0 at K_r S_a HB ⊢
  generalize w_3.heap.size = b_r at K_r hge_r ⊢
  have K_r : Kp (RS W0 b_r S s l d n 0) := kp (by rw [← HN.out]; unfold RS; rw [HRL.out]; exact K_r.out)
  have h16n : n ≤ 16 := by have := HN.out; omega
  have LZ := kp zeroPk_length
  have OZ := kp zeroPk_one
  obtain ⟨ZP, hZP⟩ : ∃ ZP, zeroPk = ZP := ⟨_, rfl⟩
  have HZP := kp hZP
  rw [hZP] at LZ OZ
  clear hZP
  go_loopw [9, 11, 12] (fun av rv iv wr => ∃ (j L b r : Nat) (p : SP), j ≤ l9.length ∧ j ≤ 30 ∧ av = .pointer (some ⟨b, 0, none⟩) ∧ rv = .pointer (some ⟨r, 0, none⟩) ∧ iv = .int .i64 (j : Int) ∧ w.heap.size ≤ r ∧ p.n ≤ 16 ∧ Kp p.Ok ∧ Kp (S1 w.heap.size wr b p L) ∧ Kp (RS wr r p.S p.s p.l p.d p.n L) ∧ Kp (Below w.heap.size w wr)) (fun _ _ iv _ => 30 - (intOf iv).toNat)
  case atStart => exact ⟨0, 0, b_a, b_r, ⟨S, s, l, d, n⟩, Nat.zero_le _, Nat.zero_le _, rfl, rfl, rfl, hge_r.out, h16n, HOK, S_a, K_r, HB⟩
  case round =>
    clear S_a K_r HB hge_r HOK h16n hnn
    obtain ⟨j, L, b_a, b_r, p, hj, hj30, rfl, rfl, rfl, hgr, hp16, HOK, S_a, K_r, HB⟩ := hrel
    by_cases hlt : j < l9.length ∧ j < 30
    · skip
      have K_r : Kp (Blk wr b_r 36 (rsL p.S p.s p.l p.d p.n L).toArray) := kp K_r.out
      have HGR := kp hgr
      obtain ⟨hjl, hj30⟩ := hlt
      have i0 : (0 : Int) ≤ (j : Int) := by omega
      have i1 : (j : Int) < (l9.length : Int) := by omega
      have i2 : (j : Int) < 30 := by omega
      have d1 : decide ((j : Int) < (l9.length : Int)) = true := decide_eq_true i1
      have d2 : decide ((j : Int) < 30) = true := decide_eq_true i2
      have ej : IntKind.i64.wrap ((j : Int) + 1) = (j : Int) + 1 := IntWalk.i64_in _ (by omega)
      obtain ⟨lb, lo, rfl, hlb, _⟩ := HHELD.out (by intro e; subst e; simp at hjl)
      obtain ⟨cl, hcj⟩ : ∃ cl, l9[j]? = some cl := ⟨_, List.getElem?_eq_getElem hjl⟩
      have hwc := HWF.out cl (List.mem_of_getElem? hcj)
      obtain ⟨hw0, hw1⟩ := wf_i64 hwc.1
      have L_c := HHELD.out.ld HB.out hcj
      obtain ⟨ROW, hROW⟩ : ∃ ROW, cl.row = ROW := ⟨_, rfl⟩
      have cLg := kp (fun w' => S_large cl w')
      rw [hROW] at L_c cLg
      clear hROW
      go_wp2_with (refine wpL_load rfl 39 _ rfl rfl L_c ?_)
      clear L_c
      refine (cLg.out _).mono ?_
      rintro e w_54 ⟨rfl, hb_54⟩
      have K_r := kp (K_r.out.bel hb_54)
      have S_a := kp (S_a.out.bel hb_54)
      have HB := kp (bt' HB.out hb_54 HB.out.size)
      clear hb_54
      by_cases hlg : 1100 < cl.t.size
      · have i3 : (1100 : Int) < (cl.t.size : Int) := by omega
        have d3 : decide ((1100 : Int) < (cl.t.size : Int)) = true := decide_eq_true i3
        rw [d3]
        go_wp2
        go_ret
        exact ⟨rfl, HB.out⟩
      have i3 : ¬ (1100 : Int) < (cl.t.size : Int) := by omega
      have d3 : decide ((1100 : Int) < (cl.t.size : Int)) = false := decide_eq_false i3
      rw [d3]
      clear cLg d3 i3
      clear d1 d2
      obtain ⟨Q, hQ⟩ : ∃ Q : Nat, at_ % 30 = (Q : Int) := ⟨(at_ % 30).toNat, by omega⟩
      have hQ30 : (Q : Int) < 30 := by omega
      have f1 : IntKind.u8.wrap (at_ % 30) = (Q : Int) := by rw [hQ]; exact IntWalk.u8_in _ (by omega)
      have f2 : IntKind.i64.wrap (Q : Int) = (Q : Int) := IntWalk.i64_in _ (by omega)
      have f3 : IntKind.u8.wrap (Q : Int) = (Q : Int) := IntWalk.u8_in _ (by omega)
      by_cases hjq : j = Q
      · skip
        have d5 : ((j : Int) == (Q : Int)) = true := by simp [hjq]
        have d6 : (j == Q) = true := by simp [hjq]
        clear hjq
        go_wp2_with fail
        clear d5 d6 f1 f2 f3 hQ
        refine (L_Renew HOK.out S_a.out HB.out.size).mono ?_
        rintro e w_r (⟨hov, rfl, hb_r⟩ | ⟨hov, b_n, rfl, hs_n, hb_r⟩)
        · have S_a := kp (S_a.out.bel hb_r)
          have K_r : Kp (RS w_r b_r p.S p.s p.l p.d p.n L) := kp (Blk.bel K_r.out hb_r)
          have HB := kp (bt' HB.out hb_r HB.out.size)
          clear hb_r
          go_wp2_with fail
          refine (R12_Renew K_r.out HOK.out.len HOK.out.may rfl).mono ?_
          rintro e w_q (⟨_, rfl, hb_q⟩ | ⟨hov2, _⟩)
          rotate_left
          · exfalso; omega
          have S_a := kp (S_a.out.bel hb_q)
          have K_r : Kp (Blk w_q b_r 36 (rsL p.S p.s p.l p.d p.n L).toArray) := kp (Blk.bel K_r.out hb_q)
          have HB := kp (bt' HB.out hb_q HB.out.size)
          clear hb_q
          have hpn := HOK.out.hn
          have cS := kp (fun W' (hB : w.heap.size ≤ W'.heap.size) (h : S1 w.heap.size W' b_a p L) => L_Send HOK.out h cl.n hw0 (by omega) cl.t hB (by omega))
          have cT := kp (fun W' (h : RS W' b_r p.S p.s p.l p.d p.n L) => R12_Send h HOK.out.len HOK.out.may rfl cl.n cl.t (by omega))
          have hKl := kp (SP.K_length p L cl.n cl.t)
          have hKo := kp (SP.K_one p L cl.n cl.t)
          have hIP : Kp (IsPk (p.K L cl.n cl.t)) := kp (SP.K_row p L cl.n cl.t)
          have cT : Kp (∀ W', RS W' b_r p.S p.s p.l p.d p.n L → Calls Try.prog 16 #[.pointer (some ⟨b_r, 0, none⟩), .int .i64 cl.n, .string cl.t] W' fun e w' => e = .returned (.tuple #[.agg (p.K L cl.n cl.t).toArray, .int .i64 (p.E L cl.n cl.t)]) ∧ RS w' b_r p.S p.s p.l p.d p.n (p.N L cl.n cl.t) ∧ W'.grownBy w' (some b_r)) := kp (fun W' h => cT.out W' h)
          obtain ⟨PK, hPK⟩ : ∃ PK, p.K L cl.n cl.t = PK := ⟨_, rfl⟩
          obtain ⟨ER, hER⟩ : ∃ ER, p.E L cl.n cl.t = ER := ⟨_, rfl⟩
          obtain ⟨L2, hL2⟩ : ∃ L2, p.N L cl.n cl.t = L2 := ⟨_, rfl⟩
          rw [hPK] at cS cT hKl hKo hIP
          rw [hER] at cS cT
          rw [hL2] at cS cT
          clear hPK hER hL2
          go_upto_region 23 with (fail)
          have hdr_70 : TL w w_q.heap.size [(b_r, 36, (rsL p.S p.s p.l p.d p.n L))] (fun W' => S1 w.heap.size W' b_a p L) { w_q with drawn := w_q.drawn + 1 } := ⟨fun k hk => by
            simp only [List.mem_cons, List.not_mem_nil, or_false] at hk
            rcases hk with rfl
            · exact K_r.out.bel (Below.refl _ _).drew, S_a.out.bel (Below.refl _ _).drew, bt' HB.out (Below.refl _ _).drew HB.out.size, Nat.le_refl _⟩
          have HKT_70 : ∀ k ∈ ([(b_r, 36, (rsL p.S p.s p.l p.d p.n L))] : List (Nat × TypeId × List Value)), okT4 k.2.1 := fun k hk => by
            simp only [List.mem_cons, List.not_mem_nil, or_false] at hk
            rcases hk with rfl <;> (unfold okT4; dsimp only; decide)
          have HLT_70 : ∀ k ∈ ([(b_r, 36, (rsL p.S p.s p.l p.d p.n L))] : List (Nat × TypeId × List Value)), k.1 < w_q.heap.size := fun k hk => by
            simp only [List.mem_cons, List.not_mem_nil, or_false] at hk
            rcases hk with rfl
            · exact K_r.out.lt
          have hWN_70 := HB.out.size
          refine wp_region_held (S := fun W' => Below w.heap.size w W') (by kernel_rfl) ?_
          change wpAnyH _ _ _ _ _ 18 _ _ _
          refine takeAll (by kernel_rfl) (fun _ _ d _ _ h => by cases d <;> exact h) [(0, 98), (1, 99), (2, 100), (3, 101), (4, 102), (5, 103), (6, 104), (7, 105), (8, 106), (9, 107), (10, 108)] [.pointer (some ⟨b_a, 0, none⟩), .slice (some ⟨lb, lo, none⟩) l9.length cp, .int .i64 (j : Int), .pointer (some ⟨lb, lo + j * 2, none⟩), .pointer (some ⟨lb, lo + j * 2, none⟩), .int .i64 cl.n, .slice (some ⟨lb, lo, none⟩) l9.length cp, .int .i64 (j : Int), .pointer (some ⟨lb, lo + j * 2, none⟩), .pointer (some ⟨lb, lo + j * 2 + 1, none⟩), .string cl.t] _ _ _ 7 (by kernel_rfl)
            ⟨Or.inl ⟨by kernel_rfl, fun w hS => by kernel_rfl⟩, Or.inl ⟨by kernel_rfl, fun w hS => by kernel_rfl⟩, Or.inl ⟨by kernel_rfl, fun w hS => by kernel_rfl⟩,
             Or.inl ⟨by kernel_rfl, fun w hS => exec_index (t := 26) (e := 39) (x := .tmp 99) (i := .tmp 100) (b := lb) (off := lo) (len := l9.length) (cap := cp) (j := j) (by kernel_rfl) Try.underlying26 info_call (by kernel_rfl) (by kernel_rfl) hjl w⟩,
             Or.inl ⟨by kernel_rfl, fun w hS => by kernel_rfl⟩,
             Or.inl ⟨by kernel_rfl, fun w hS => exec_load (ty := 2) (x := .tmp 102) (by kernel_rfl) (pv := .pointer (some ⟨lb, lo + j * 2, none⟩)) (by kernel_rfl) (ld_one Try.underlying2 rfl (HeldC.at (cap := 0) (n := 0) HHELD.out hS hcj).1)⟩,
             Or.inl ⟨by kernel_rfl, fun w hS => by kernel_rfl⟩, Or.inl ⟨by kernel_rfl, fun w hS => by kernel_rfl⟩,
             Or.inl ⟨by kernel_rfl, fun w hS => exec_index (t := 26) (e := 39) (x := .tmp 104) (i := .tmp 105) (b := lb) (off := lo) (len := l9.length) (cap := cp) (j := j) (by kernel_rfl) Try.underlying26 info_call (by kernel_rfl) (by kernel_rfl) hjl w⟩,
             Or.inl ⟨by kernel_rfl, fun w hS => by kernel_rfl⟩,
             Or.inl ⟨by kernel_rfl, fun w hS => exec_load (ty := 9) (x := .tmp 107) (by kernel_rfl) (pv := .pointer (some ⟨lb, lo + j * 2 + 1, none⟩)) (by kernel_rfl) (ld_one Try.underlying9 rfl (HeldC.at (cap := 0) (n := 0) HHELD.out hS hcj).2.1)⟩, trivial⟩ hdr_70.below ?_
          refine combE (by kernel_rfl) (fun _ _ d _ _ h => by cases d <;> exact h) 15 17 (of_decide_eq_true (by kernel_rfl)) (by kernel_rfl) (by kernel_rfl) [(12, 97), (13, 110), (14, 111)] [.tuple #[.agg PK.toArray, .int .i64 ER], .agg PK.toArray, .int .i64 ER] [(11, 109)] [.tuple #[.agg PK.toArray, .int .i64 ER]] (TL w w_q.heap.size [(b_r, 36, (rsL p.S p.s p.l p.d p.n L))] (fun W' => S1 w.heap.size W' b_a p L)) [TL w w_q.heap.size [(b_r, 36, (rsL p.S p.s p.l p.d p.n L))] (fun W' => S1 w.heap.size W' b_a p L2)] _ _ _ 2
            (V := fun u W' => ∃ bk, u = .pointer (some ⟨bk, 0, none⟩) ∧ w_q.heap.size ≤ bk ∧ Blk W' bk 44 ZP.toArray) (pf := TL w w_q.heap.size [(b_r, 36, (rsL p.S p.s p.l p.d p.n L))] (fun W' => S1 w.heap.size W' b_a p L2)) (by kernel_rfl) ⟨?_, fun _ h => h⟩ ⟨Or.inl ⟨by kernel_rfl, fun w hS => by kernel_rfl⟩, Or.inl ⟨by kernel_rfl, fun w hS => by kernel_rfl⟩, Or.inl ⟨by kernel_rfl, fun w hS => by kernel_rfl⟩, trivial⟩ ?_ hdr_70.below hdr_70 ?_
          · intro W hS hp
            refine Or.inr ⟨15, #[.pointer (some ⟨b_a, 0, none⟩), .int .i64 cl.n, .string cl.t], by kernel_rfl, (cS.out W hS.size hp.sd).mono fun e W' ⟨he, h1, h2⟩ => ⟨he, hS.trans h2.below, hp.mv HKT_70 h2 h1, ?_⟩⟩
            rintro u ⟨bk, e1, e2, e3⟩
            exact ⟨bk, e1, e2, h2.keep (by decide) (by decide) (by decide) (by decide) e3⟩
          · intro q hq W hS hp
            simp only [List.mem_cons, List.not_mem_nil, or_false] at hq
            have hal := ba (Below.refl W.heap.size W) (.cells ZP.toArray 44)
            rcases hq with rfl | rfl
            · exact ⟨.pointer (some ⟨W.heap.size, 0, none⟩), W.alloc (.cells ZP.toArray 44), by rw [← HZP.out]; kernel_rfl, bt' hS hal hS.size, hp.bel hal (hp.sd.bel hal), ⟨_, rfl, hp.sz, Blk.new _ _ _⟩⟩
            · exact ⟨.pointer (some ⟨W.heap.size, 0, none⟩), W.alloc (.cells ZP.toArray 44), by rw [← HZP.out]; kernel_rfl, bt' hS hal hS.size, hp.bel hal (hp.sd.bel hal), ⟨_, rfl, hp.sz, Blk.new _ _ _⟩⟩
          rintro u W1_70 hS hp ⟨b_x, rfl, hbk, hkk⟩
          have hst := st_all (P := Try.prog) (w := W1_70) b_x 36 44 44 PK ZP info_pk hKl.out LZ.out hkk hKo.out
          have K_x := kp (hkk.row PK.toArray)
          have hT2 := hp.row HLT_70 hbk hWN_70 PK.toArray (S1.row hp.sd hkk ⟨by decide, by decide, by decide, by decide⟩ (gbrow W1_70 b_x PK.toArray))
          have HT_70 := kp hT2
          have hge_x := kp (Nat.le_trans hWN_70 hbk)
          change wpAnyH _ _ _ _ _ [16, 17].length _ _ _
          refine wpAnyH_of_seqE (by kernel_rfl) (fun _ _ d _ _ h => by cases d <;> exact h) [16, 17] _ _ _ hp.below (of_decide_eq_true (by kernel_rfl)) (by kernel_rfl) ?_
          refine stepS_skip (by kernel_rfl) (of_decide_eq_true (by kernel_rfl)) (by kernel_rfl) (exec_store 44 (.tmp 17) (.tmp 110) (by kernel_rfl) (pv := .pointer (some ⟨b_x, 0, none⟩)) (by kernel_rfl) (v := .agg PK.toArray) (by kernel_rfl) hst) hT2.below ?_
          refine stepS 18 (by kernel_rfl) (of_decide_eq_true (by kernel_rfl)) (by kernel_rfl) (v := .int .i64 ER) (by kernel_rfl) hT2.below ?_
          clear hst hT2 hp hS hkk hbk HLT_70 HKT_70 hWN_70 hdr_70 K_r HB S_a
          generalize W1_70.setRow b_x PK.toArray = V_70 at K_x HT_70 ⊢
          have K_r : Kp (Blk V_70 (b_r) 36 (rsL p.S p.s p.l p.d p.n L).toArray) := kp (HT_70.out.ks (b_r, 36, (rsL p.S p.s p.l p.d p.n L)) (by simp))
          have S_a := kp HT_70.out.sd
          have HB := kp HT_70.out.below
          clear HT_70
          unfold wpListS
          dsimp only [Exit.then, putAll, Act.put]
          simp only [List.setIfInBounds_toArray, List.set_cons_succ, List.set_cons_zero]
          have S_b : Kp (S1 w.heap.size V_70 b_a p L2 ∧ RS V_70 b_r p.S p.s p.l p.d p.n L) := kp ⟨S_a.out, K_r.out⟩
          clear S_a K_r
          go_upto_region 24 with (fail)
          have hdr_71 : TL w V_70.heap.size [(b_x, 44, PK)] (fun W' => S1 w.heap.size W' b_a p L2 ∧ RS W' b_r p.S p.s p.l p.d p.n L) { V_70 with drawn := V_70.drawn + 1 } := ⟨fun k hk => by
            simp only [List.mem_cons, List.not_mem_nil, or_false] at hk
            rcases hk with rfl
            · exact K_x.out.bel (Below.refl _ _).drew, pairBel S_b.out (Below.refl _ _).drew, bt' HB.out (Below.refl _ _).drew HB.out.size, Nat.le_refl _⟩
          have HKT_71 : ∀ k ∈ ([(b_x, 44, PK)] : List (Nat × TypeId × List Value)), k.2.1 ≠ 36 := fun k hk => by
            simp only [List.mem_cons, List.not_mem_nil, or_false] at hk
            rcases hk with rfl <;> (dsimp only; decide)
          have HLT_71 : ∀ k ∈ ([(b_x, 44, PK)] : List (Nat × TypeId × List Value)), k.1 < V_70.heap.size := fun k hk => by
            simp only [List.mem_cons, List.not_mem_nil, or_false] at hk
            rcases hk with rfl
            · exact K_x.out.lt
          have hWN_71 := HB.out.size
          refine wp_region_held (S := fun W' => Below w.heap.size w W') (by kernel_rfl) ?_
          change wpAnyH _ _ _ _ _ 18 _ _ _
          refine takeAll (by kernel_rfl) (fun _ _ d _ _ h => by cases d <;> exact h) [(0, 113), (1, 114), (2, 115), (3, 116), (4, 117), (5, 118), (6, 119), (7, 120), (8, 121), (9, 122), (10, 123)] [.pointer (some ⟨b_r, 0, none⟩), .slice (some ⟨lb, lo, none⟩) l9.length cp, .int .i64 (j : Int), .pointer (some ⟨lb, lo + j * 2, none⟩), .pointer (some ⟨lb, lo + j * 2, none⟩), .int .i64 cl.n, .slice (some ⟨lb, lo, none⟩) l9.length cp, .int .i64 (j : Int), .pointer (some ⟨lb, lo + j * 2, none⟩), .pointer (some ⟨lb, lo + j * 2 + 1, none⟩), .string cl.t] _ _ _ 7 (by kernel_rfl)
            ⟨Or.inl ⟨by kernel_rfl, fun w hS => by kernel_rfl⟩, Or.inl ⟨by kernel_rfl, fun w hS => by kernel_rfl⟩, Or.inl ⟨by kernel_rfl, fun w hS => by kernel_rfl⟩,
             Or.inl ⟨by kernel_rfl, fun w hS => exec_index (t := 26) (e := 39) (x := .tmp 114) (i := .tmp 115) (b := lb) (off := lo) (len := l9.length) (cap := cp) (j := j) (by kernel_rfl) Try.underlying26 info_call (by kernel_rfl) (by kernel_rfl) hjl w⟩,
             Or.inl ⟨by kernel_rfl, fun w hS => by kernel_rfl⟩,
             Or.inl ⟨by kernel_rfl, fun w hS => exec_load (ty := 2) (x := .tmp 117) (by kernel_rfl) (pv := .pointer (some ⟨lb, lo + j * 2, none⟩)) (by kernel_rfl) (ld_one Try.underlying2 rfl (HeldC.at (cap := 0) (n := 0) HHELD.out hS hcj).1)⟩,
             Or.inl ⟨by kernel_rfl, fun w hS => by kernel_rfl⟩, Or.inl ⟨by kernel_rfl, fun w hS => by kernel_rfl⟩,
             Or.inl ⟨by kernel_rfl, fun w hS => exec_index (t := 26) (e := 39) (x := .tmp 119) (i := .tmp 120) (b := lb) (off := lo) (len := l9.length) (cap := cp) (j := j) (by kernel_rfl) Try.underlying26 info_call (by kernel_rfl) (by kernel_rfl) hjl w⟩,
             Or.inl ⟨by kernel_rfl, fun w hS => by kernel_rfl⟩,
             Or.inl ⟨by kernel_rfl, fun w hS => exec_load (ty := 9) (x := .tmp 122) (by kernel_rfl) (pv := .pointer (some ⟨lb, lo + j * 2 + 1, none⟩)) (by kernel_rfl) (ld_one Try.underlying9 rfl (HeldC.at (cap := 0) (n := 0) HHELD.out hS hcj).2.1)⟩, trivial⟩ hdr_71.below ?_
          refine combE (by kernel_rfl) (fun _ _ d _ _ h => by cases d <;> exact h) 15 19 (of_decide_eq_true (by kernel_rfl)) (by kernel_rfl) (by kernel_rfl) [(12, 112), (13, 125), (14, 126)] [.tuple #[.agg PK.toArray, .int .i64 ER], .agg PK.toArray, .int .i64 ER] [(11, 124)] [.tuple #[.agg PK.toArray, .int .i64 ER]] (TL w V_70.heap.size [(b_x, 44, PK)] (fun W' => S1 w.heap.size W' b_a p L2 ∧ RS W' b_r p.S p.s p.l p.d p.n L)) [TL w V_70.heap.size [(b_x, 44, PK)] (fun W' => S1 w.heap.size W' b_a p L2 ∧ RS W' b_r p.S p.s p.l p.d p.n L2)] _ _ _ 2
            (V := fun u W' => ∃ bk, u = .pointer (some ⟨bk, 0, none⟩) ∧ V_70.heap.size ≤ bk ∧ Blk W' bk 44 ZP.toArray) (pf := TL w V_70.heap.size [(b_x, 44, PK)] (fun W' => S1 w.heap.size W' b_a p L2 ∧ RS W' b_r p.S p.s p.l p.d p.n L2)) (by kernel_rfl) ⟨?_, fun _ h => h⟩ ⟨Or.inl ⟨by kernel_rfl, fun w hS => by kernel_rfl⟩, Or.inl ⟨by kernel_rfl, fun w hS => by kernel_rfl⟩, Or.inl ⟨by kernel_rfl, fun w hS => by kernel_rfl⟩, trivial⟩ ?_ hdr_71.below hdr_71 ?_
          · intro W hS hp
            refine Or.inr ⟨16, #[.pointer (some ⟨b_r, 0, none⟩), .int .i64 cl.n, .string cl.t], by kernel_rfl, (cT.out W hp.sd.2).mono fun e W' ⟨he, h1, h2⟩ => ⟨he, hS.grown h2 hS.size (fun k hk => by injection hk with e; have := HGR.out; omega), hp.grown hp.sd.2 HKT_71 h2 HGR.out ⟨hp.sd.1.row hp.sd.2 ⟨by decide, by decide, by decide, by decide⟩ h2, h1⟩, ?_⟩⟩
            rintro u ⟨bk, e1, e2, e3⟩
            exact ⟨bk, e1, e2, e3.grown h2 (fun e => by injection e with e; exact (Blk.ne_ e3 hp.sd.2 (by decide)) e)⟩
          · intro q hq W hS hp
            simp only [List.mem_cons, List.not_mem_nil, or_false] at hq
            have hal := ba (Below.refl W.heap.size W) (.cells ZP.toArray 44)
            rcases hq with rfl | rfl
            · exact ⟨.pointer (some ⟨W.heap.size, 0, none⟩), W.alloc (.cells ZP.toArray 44), by rw [← HZP.out]; kernel_rfl, bt' hS hal hS.size, hp.bel hal (pairBel hp.sd hal), ⟨_, rfl, hp.sz, Blk.new _ _ _⟩⟩
            · exact ⟨.pointer (some ⟨W.heap.size, 0, none⟩), W.alloc (.cells ZP.toArray 44), by rw [← HZP.out]; kernel_rfl, bt' hS hal hS.size, hp.bel hal (pairBel hp.sd hal), ⟨_, rfl, hp.sz, Blk.new _ _ _⟩⟩
          rintro u W1_71 hS hp ⟨b_y, rfl, hbk, hkk⟩
          have hst := st_all (P := Try.prog) (w := W1_71) b_y 36 44 44 PK ZP info_pk hKl.out LZ.out hkk hKo.out
          have K_y := kp (hkk.row PK.toArray)
          have hT2 := hp.row HLT_71 hbk hWN_71 PK.toArray (pairRow hp.sd hkk ⟨by decide, by decide, by decide, by decide⟩ (gbrow W1_71 b_y PK.toArray))
          have HT_71 := kp hT2
          have hge_y := kp (Nat.le_trans hWN_71 hbk)
          change wpAnyH _ _ _ _ _ [16, 17].length _ _ _
          refine wpAnyH_of_seqE (by kernel_rfl) (fun _ _ d _ _ h => by cases d <;> exact h) [16, 17] _ _ _ hp.below (of_decide_eq_true (by kernel_rfl)) (by kernel_rfl) ?_
          refine stepS_skip (by kernel_rfl) (of_decide_eq_true (by kernel_rfl)) (by kernel_rfl) (exec_store 44 (.tmp 19) (.tmp 125) (by kernel_rfl) (pv := .pointer (some ⟨b_y, 0, none⟩)) (by kernel_rfl) (v := .agg PK.toArray) (by kernel_rfl) hst) hT2.below ?_
          refine stepS 20 (by kernel_rfl) (of_decide_eq_true (by kernel_rfl)) (by kernel_rfl) (v := .int .i64 ER) (by kernel_rfl) hT2.below ?_
          clear hst hT2 hp hS hkk hbk HLT_71 HKT_71 hWN_71 hdr_71 K_x HB S_b
          generalize W1_71.setRow b_y PK.toArray = V_71 at K_y HT_71 ⊢
          have K_x : Kp (Blk V_71 (b_x) 44 PK.toArray) := kp (HT_71.out.ks (b_x, 44, PK) (by simp))
          have S_b := kp HT_71.out.sd
          have HB := kp HT_71.out.below
          clear HT_71
          unfold wpListS
          dsimp only [Exit.then, putAll, Act.put]
          simp only [List.setIfInBounds_toArray, List.set_cons_succ, List.set_cons_zero]
          have S_a := kp S_b.out.1
          have K_r := kp S_b.out.2
          clear S_b
          go_upto_region 25 with (fail)
          have cL := kp (fun W' (h : S1 w.heap.size W' b_a p L2) => L_Last HOK.out h)
          have xr := Blk.atL K_r.out (rsL_at HOK.out.len)
          have lr := Blk.lt K_r.out
          have HX := kp (fun x => S_a.out.bel (ext_below V_71 x))
          refine wp_region_ext [0, 1, 2, 3, 4, 5, 6, 7, 8, 9, 10, 11, 12, 13, 14, 15] [16] (by kernel_rfl) (by kernel_rfl) ?_
          simp only [List.append_eq, List.cons_append, List.nil_append, List.map_cons, List.map_nil, List.getD_cons_succ, List.getD_cons_zero]
          have Q_x := kp (fun x => ld_all (P := Try.prog) b_x 36 44 44 PK _ Try.underlying44 rfl info_pk hKl.out (K_x.out.bel (ext_below V_71 x)))
          have Q_y := kp (fun x => ld_all (P := Try.prog) b_y 36 44 44 PK _ Try.underlying44 rfl info_pk hKl.out (K_y.out.bel (ext_below V_71 x)))
          repeat (first
            | (go_big_quiet_want; refine quiet_load _ rfl 44 _ rfl rfl (fun w hw => by obtain ⟨x, rfl⟩ := hw; exact Q_x.out x) ?_; go_simp; go_big_quiet_on)
            | (go_big_quiet_want; refine quiet_load _ rfl 44 _ rfl rfl (fun w hw => by obtain ⟨x, rfl⟩ := hw; exact Q_y.out x) ?_; go_simp; go_big_quiet_on)
            | (go_big_quiet_want; refine quiet_val 129 rfl (.bool false) (fun w _ => exec_pk_ne rfl hIP.out rfl rfl w) ?_; go_simp; go_big_quiet_on)
            | go_big_quiet_step (first | (go_at_call 17; with_reducible exact Calls.ext_same (cL.out _ (HX.out _)))))
          refine wpQuiet_nil ?_
          rintro z
          have S_a := kp (S_a.out.bel (ext_below V_71 z))
          have K_r : Kp (RS (V_71.ext z) b_r p.S p.s p.l p.d p.n L2) := kp (Blk.bel K_r.out (ext_below V_71 z))
          have HB := kp (bt' HB.out (ext_below V_71 z) HB.out.size)
          clear xr lr Q_x Q_y K_x K_y HX
          generalize V_71.ext z = V7 at S_a K_r HB ⊢
          go_upto_region 27 with (fail)
          have cK := kp (fun w' => R_Key_good p.S HOK.out.len p.n 0 p.n (by omega) (by omega) (by omega) (by omega) (by omega) w')
          have cW := kp (fun W' (h : S1 w.heap.size W' b_a p L2) => L_Known HOK.out h)
          have hFl := kp (chK_length p.S p.n)
          obtain ⟨F, hF⟩ : ∃ F, chK p.S p.n = F := ⟨_, rfl⟩
          rw [hF] at cK cW hFl
          clear hF
          have HZC : Kp (cellsU8 zeroK = List.replicate 32 (.int .u8 0)) := kp (by kernel_rfl)
          refine wp_region_earlyE [12] [0, 1, 2, 3, 4, 5, 6, 7, 8, 9, 10, 11, 12] [13] [14, 15] 161 (fun _ => VA V7.heap.size 23 (cellsU8 zeroK).toArray) (· ≠ ·) (by kernel_rfl) (by kernel_rfl) rfl (fun i v W W' h hb => h.mono hb) ?_
          apply Exists.intro
          refine ⟨fun W hW => ?_, ?_, ?_⟩
          · have LS := kp (fun x => RS.ldSeed (Blk.bel (Blk.bel K_r.out hW) (ext_below W x)) HOK.out.len)
            have c35 := Blk.atL (Blk.bel K_r.out hW) (rsL_plan HOK.out.len 3 (.int .i64 (p.n : Int)) rfl)
            have hlb := Blk.lt (Blk.bel K_r.out hW)
            simp only [List.map_cons, List.map_nil, List.getD_cons_succ, List.getD_cons_zero]
            repeat (first
              | (go_big_quiet_want; refine quiet_load _ rfl 23 _ rfl rfl (fun w hw => by obtain ⟨x, rfl⟩ := hw; exact LS.out x) ?_; go_simp; go_big_quiet_on)
              | go_big_quiet_step (first | (go_at_call 18; with_reducible exact Calls.ext_of (cK.out _))))
            exact wpQuiet_nil rfl
          · exact ⟨mk_alloc rfl (fun W => by rw [HZC.out]; kernel_rfl) (fun j u W h => h.ne), trivial⟩
          intro ev _
          simp only [List.map_cons, List.map_nil, List.getD_cons_succ, List.getD_cons_zero, TailX]
          rintro W2 hW2 ⟨_, b4, rfl, hb4, hk4⟩
          have hal := key_cells F hFl.out
          have hzc := key_cells zeroK zeroK_length
          have SC := sc_all (P := Try.prog) (w := W2) b4 23 (cellsU8 F) (cellsU8 zeroK) hk4 (by rw [hal, hzc]) (cellsU8_one _)
          have J4 := kp (hk4.row (cellsU8 F).toArray)
          have hrl := Blk.lt K_r.out
          have hbs := HB.out.size
          have S_a := kp (S1.row (S_a.out.bel hW2) hk4 ⟨by decide, by decide, by decide, by decide⟩ (gbrow W2 b4 (cellsU8 F).toArray))
          have K_r : Kp (RS (W2.setRow b4 (cellsU8 F).toArray) b_r p.S p.s p.l p.d p.n L2) := kp (Blk.rowfar (Blk.bel K_r.out hW2) (b := b4) (by omega) (cellsU8 F).toArray)
          have HB := kp (bsr (bt' HB.out hW2 HB.out.size) (b := b4) (by omega) (bt' HB.out hW2 HB.out.size).size (cellsU8 F).toArray)
          clear hW2 hk4 hb4 hrl hbs
          generalize W2.setRow b4 (cellsU8 F).toArray = U at SC J4 S_a K_r HB
          go_upto_region 28 with (fail)
          clear SC hal hzc
          have HX := kp (fun x => S_a.out.bel (ext_below U x))
          have Q_k := kp (fun x => ldK F hFl.out (J4.out.bel (ext_below U x)))
          refine wp_region_ext [0, 1, 2] [3] (by kernel_rfl) (by kernel_rfl) ?_
          simp only [List.append_eq, List.cons_append, List.nil_append, List.map_cons, List.map_nil, List.getD_cons_succ, List.getD_cons_zero]
          repeat (first
            | (go_big_quiet_want; refine quiet_load _ rfl 23 _ rfl rfl (fun w hw => by obtain ⟨x, rfl⟩ := hw; exact Q_k.out x) ?_; go_simp; go_big_quiet_on)
            | go_big_quiet_step (first | (go_at_call 19; with_reducible exact Calls.ext_of (cW.out _ (HX.out _)))))
          refine wpQuiet_nil ?_
          rintro z
          have S_a := kp (S_a.out.bel (ext_below U z))
          have K_r : Kp (RS (U.ext z) b_r p.S p.s p.l p.d p.n L2) := kp (Blk.bel K_r.out (ext_below U z))
          have HB := kp (bt' HB.out (ext_below U z) HB.out.size)
          clear HX Q_k J4
          generalize U.ext z = V9 at S_a K_r HB ⊢
          go_wp2_with (refine wpL_val 160 rfl rfl (.bool false) ((exec_nek rfl rfl rfl hFl.out hFl.out _).trans (by simp)) ?_)
          go_roundw
          case measure => simp [intOf]; omega
          case rel => exact ⟨j + 1, L2, b_a, b_r, p, by omega, by omega, rfl, rfl, by congr 1, HGR.out, hp16, HOK, S_a, K_r, HB⟩
        · have HB := kp (bt' HB.out hb_r HB.out.size)
          have K_r : Kp (RS w_r b_r p.S p.s p.l p.d p.n L) := kp (Blk.bel K_r.out hb_r)
          have S_n := kp hs_n.snd
          clear hb_r hs_n S_a
          go_wp2_with fail
          refine (R12_Renew K_r.out HOK.out.len HOK.out.may rfl).mono ?_
          rintro e w_q (⟨hov2, _⟩ | ⟨_, r_n, rfl, hr_n, hb_q, hge_n⟩)
          · exfalso; omega
          have S_n := kp (S_n.out.bel hb_q)
          have HGR := kp (Nat.le_trans HB.out.size hge_n)
          have HB := kp (bt' HB.out hb_q HB.out.size)
          have HOKn := kp (HOK.out.next hov)
          have hpnn : p.next.n ≤ 16 := hp16
          have hr_n : RS w_q r_n p.next.S p.next.s p.next.l p.next.d p.next.n ((0 : Nat) : Int) := hr_n
          have K_n := kp hr_n
          clear hb_q hge_n hr_n K_r HOK hgr hp16 hov
          generalize p.next = p' at S_n HOKn hpnn K_n
          obtain ⟨L', hL⟩ : ∃ L' : Nat, 0 = L' := ⟨_, rfl⟩
          rw [hL] at S_n K_n
          clear hL
          have S_a := S_n
          have HOK := HOKn
          have hp16 := hpnn
          have K_r : Kp (Blk w_q r_n 36 (rsL p'.S p'.s p'.l p'.d p'.n L').toArray) := kp K_n.out
          clear S_n HOKn hpnn K_n
          have hpn := HOK.out.hn
          have cS := kp (fun W' (hB : w.heap.size ≤ W'.heap.size) (h : S1 w.heap.size W' b_n p' L') => L_Send HOK.out h cl.n hw0 (by omega) cl.t hB (by omega))
          have cT := kp (fun W' (h : RS W' r_n p'.S p'.s p'.l p'.d p'.n L') => R12_Send h HOK.out.len HOK.out.may rfl cl.n cl.t (by omega))
          have hKl := kp (SP.K_length p' L' cl.n cl.t)
          have hKo := kp (SP.K_one p' L' cl.n cl.t)
          have hIP : Kp (IsPk (p'.K L' cl.n cl.t)) := kp (SP.K_row p' L' cl.n cl.t)
          have cT : Kp (∀ W', RS W' r_n p'.S p'.s p'.l p'.d p'.n L' → Calls Try.prog 16 #[.pointer (some ⟨r_n, 0, none⟩), .int .i64 cl.n, .string cl.t] W' fun e w' => e = .returned (.tuple #[.agg (p'.K L' cl.n cl.t).toArray, .int .i64 (p'.E L' cl.n cl.t)]) ∧ RS w' r_n p'.S p'.s p'.l p'.d p'.n (p'.N L' cl.n cl.t) ∧ W'.grownBy w' (some r_n)) := kp (fun W' h => cT.out W' h)
          obtain ⟨PK, hPK⟩ : ∃ PK, p'.K L' cl.n cl.t = PK := ⟨_, rfl⟩
          obtain ⟨ER, hER⟩ : ∃ ER, p'.E L' cl.n cl.t = ER := ⟨_, rfl⟩
          obtain ⟨L2, hL2⟩ : ∃ L2, p'.N L' cl.n cl.t = L2 := ⟨_, rfl⟩
          rw [hPK] at cS cT hKl hKo hIP
          rw [hER] at cS cT
          rw [hL2] at cS cT
          clear hPK hER hL2
          go_upto_region 23 with (fail)
          have hdr_120 : TL w w_q.heap.size [(r_n, 36, (rsL p'.S p'.s p'.l p'.d p'.n L'))] (fun W' => S1 w.heap.size W' b_n p' L') { w_q with drawn := w_q.drawn + 1 } := ⟨fun k hk => by
            simp only [List.mem_cons, List.not_mem_nil, or_false] at hk
            rcases hk with rfl
            · exact K_r.out.bel (Below.refl _ _).drew, S_a.out.bel (Below.refl _ _).drew, bt' HB.out (Below.refl _ _).drew HB.out.size, Nat.le_refl _⟩
          have HKT_120 : ∀ k ∈ ([(r_n, 36, (rsL p'.S p'.s p'.l p'.d p'.n L'))] : List (Nat × TypeId × List Value)), okT4 k.2.1 := fun k hk => by
            simp only [List.mem_cons, List.not_mem_nil, or_false] at hk
            rcases hk with rfl <;> (unfold okT4; dsimp only; decide)
          have HLT_120 : ∀ k ∈ ([(r_n, 36, (rsL p'.S p'.s p'.l p'.d p'.n L'))] : List (Nat × TypeId × List Value)), k.1 < w_q.heap.size := fun k hk => by
            simp only [List.mem_cons, List.not_mem_nil, or_false] at hk
            rcases hk with rfl
            · exact K_r.out.lt
          have hWN_120 := HB.out.size
          refine wp_region_held (S := fun W' => Below w.heap.size w W') (by kernel_rfl) ?_
          change wpAnyH _ _ _ _ _ 18 _ _ _
          refine takeAll (by kernel_rfl) (fun _ _ d _ _ h => by cases d <;> exact h) [(0, 98), (1, 99), (2, 100), (3, 101), (4, 102), (5, 103), (6, 104), (7, 105), (8, 106), (9, 107), (10, 108)] [.pointer (some ⟨b_n, 0, none⟩), .slice (some ⟨lb, lo, none⟩) l9.length cp, .int .i64 (j : Int), .pointer (some ⟨lb, lo + j * 2, none⟩), .pointer (some ⟨lb, lo + j * 2, none⟩), .int .i64 cl.n, .slice (some ⟨lb, lo, none⟩) l9.length cp, .int .i64 (j : Int), .pointer (some ⟨lb, lo + j * 2, none⟩), .pointer (some ⟨lb, lo + j * 2 + 1, none⟩), .string cl.t] _ _ _ 7 (by kernel_rfl)
            ⟨Or.inl ⟨by kernel_rfl, fun w hS => by kernel_rfl⟩, Or.inl ⟨by kernel_rfl, fun w hS => by kernel_rfl⟩, Or.inl ⟨by kernel_rfl, fun w hS => by kernel_rfl⟩,
             Or.inl ⟨by kernel_rfl, fun w hS => exec_index (t := 26) (e := 39) (x := .tmp 99) (i := .tmp 100) (b := lb) (off := lo) (len := l9.length) (cap := cp) (j := j) (by kernel_rfl) Try.underlying26 info_call (by kernel_rfl) (by kernel_rfl) hjl w⟩,
             Or.inl ⟨by kernel_rfl, fun w hS => by kernel_rfl⟩,
             Or.inl ⟨by kernel_rfl, fun w hS => exec_load (ty := 2) (x := .tmp 102) (by kernel_rfl) (pv := .pointer (some ⟨lb, lo + j * 2, none⟩)) (by kernel_rfl) (ld_one Try.underlying2 rfl (HeldC.at (cap := 0) (n := 0) HHELD.out hS hcj).1)⟩,
             Or.inl ⟨by kernel_rfl, fun w hS => by kernel_rfl⟩, Or.inl ⟨by kernel_rfl, fun w hS => by kernel_rfl⟩,
             Or.inl ⟨by kernel_rfl, fun w hS => exec_index (t := 26) (e := 39) (x := .tmp 104) (i := .tmp 105) (b := lb) (off := lo) (len := l9.length) (cap := cp) (j := j) (by kernel_rfl) Try.underlying26 info_call (by kernel_rfl) (by kernel_rfl) hjl w⟩,
             Or.inl ⟨by kernel_rfl, fun w hS => by kernel_rfl⟩,
             Or.inl ⟨by kernel_rfl, fun w hS => exec_load (ty := 9) (x := .tmp 107) (by kernel_rfl) (pv := .pointer (some ⟨lb, lo + j * 2 + 1, none⟩)) (by kernel_rfl) (ld_one Try.underlying9 rfl (HeldC.at (cap := 0) (n := 0) HHELD.out hS hcj).2.1)⟩, trivial⟩ hdr_120.below ?_
          refine combE (by kernel_rfl) (fun _ _ d _ _ h => by cases d <;> exact h) 15 17 (of_decide_eq_true (by kernel_rfl)) (by kernel_rfl) (by kernel_rfl) [(12, 97), (13, 110), (14, 111)] [.tuple #[.agg PK.toArray, .int .i64 ER], .agg PK.toArray, .int .i64 ER] [(11, 109)] [.tuple #[.agg PK.toArray, .int .i64 ER]] (TL w w_q.heap.size [(r_n, 36, (rsL p'.S p'.s p'.l p'.d p'.n L'))] (fun W' => S1 w.heap.size W' b_n p' L')) [TL w w_q.heap.size [(r_n, 36, (rsL p'.S p'.s p'.l p'.d p'.n L'))] (fun W' => S1 w.heap.size W' b_n p' L2)] _ _ _ 2
            (V := fun u W' => ∃ bk, u = .pointer (some ⟨bk, 0, none⟩) ∧ w_q.heap.size ≤ bk ∧ Blk W' bk 44 ZP.toArray) (pf := TL w w_q.heap.size [(r_n, 36, (rsL p'.S p'.s p'.l p'.d p'.n L'))] (fun W' => S1 w.heap.size W' b_n p' L2)) (by kernel_rfl) ⟨?_, fun _ h => h⟩ ⟨Or.inl ⟨by kernel_rfl, fun w hS => by kernel_rfl⟩, Or.inl ⟨by kernel_rfl, fun w hS => by kernel_rfl⟩, Or.inl ⟨by kernel_rfl, fun w hS => by kernel_rfl⟩, trivial⟩ ?_ hdr_120.below hdr_120 ?_
          · intro W hS hp
            refine Or.inr ⟨15, #[.pointer (some ⟨b_n, 0, none⟩), .int .i64 cl.n, .string cl.t], by kernel_rfl, (cS.out W hS.size hp.sd).mono fun e W' ⟨he, h1, h2⟩ => ⟨he, hS.trans h2.below, hp.mv HKT_120 h2 h1, ?_⟩⟩
            rintro u ⟨bk, e1, e2, e3⟩
            exact ⟨bk, e1, e2, h2.keep (by decide) (by decide) (by decide) (by decide) e3⟩
          · intro q hq W hS hp
            simp only [List.mem_cons, List.not_mem_nil, or_false] at hq
            have hal := ba (Below.refl W.heap.size W) (.cells ZP.toArray 44)
            rcases hq with rfl | rfl
            · exact ⟨.pointer (some ⟨W.heap.size, 0, none⟩), W.alloc (.cells ZP.toArray 44), by rw [← HZP.out]; kernel_rfl, bt' hS hal hS.size, hp.bel hal (hp.sd.bel hal), ⟨_, rfl, hp.sz, Blk.new _ _ _⟩⟩
            · exact ⟨.pointer (some ⟨W.heap.size, 0, none⟩), W.alloc (.cells ZP.toArray 44), by rw [← HZP.out]; kernel_rfl, bt' hS hal hS.size, hp.bel hal (hp.sd.bel hal), ⟨_, rfl, hp.sz, Blk.new _ _ _⟩⟩
          rintro u W1_120 hS hp ⟨b_x, rfl, hbk, hkk⟩
          have hst := st_all (P := Try.prog) (w := W1_120) b_x 36 44 44 PK ZP info_pk hKl.out LZ.out hkk hKo.out
          have K_x := kp (hkk.row PK.toArray)
          have hT2 := hp.row HLT_120 hbk hWN_120 PK.toArray (S1.row hp.sd hkk ⟨by decide, by decide, by decide, by decide⟩ (gbrow W1_120 b_x PK.toArray))
          have HT_120 := kp hT2
          have hge_x := kp (Nat.le_trans hWN_120 hbk)
          change wpAnyH _ _ _ _ _ [16, 17].length _ _ _
          refine wpAnyH_of_seqE (by kernel_rfl) (fun _ _ d _ _ h => by cases d <;> exact h) [16, 17] _ _ _ hp.below (of_decide_eq_true (by kernel_rfl)) (by kernel_rfl) ?_
          refine stepS_skip (by kernel_rfl) (of_decide_eq_true (by kernel_rfl)) (by kernel_rfl) (exec_store 44 (.tmp 17) (.tmp 110) (by kernel_rfl) (pv := .pointer (some ⟨b_x, 0, none⟩)) (by kernel_rfl) (v := .agg PK.toArray) (by kernel_rfl) hst) hT2.below ?_
          refine stepS 18 (by kernel_rfl) (of_decide_eq_true (by kernel_rfl)) (by kernel_rfl) (v := .int .i64 ER) (by kernel_rfl) hT2.below ?_
          clear hst hT2 hp hS hkk hbk HLT_120 HKT_120 hWN_120 hdr_120 K_r HB S_a
          generalize W1_120.setRow b_x PK.toArray = V_120 at K_x HT_120 ⊢
          have K_r : Kp (Blk V_120 (r_n) 36 (rsL p'.S p'.s p'.l p'.d p'.n L').toArray) := kp (HT_120.out.ks (r_n, 36, (rsL p'.S p'.s p'.l p'.d p'.n L')) (by simp))
          have S_a := kp HT_120.out.sd
          have HB := kp HT_120.out.below
          clear HT_120
          unfold wpListS
          dsimp only [Exit.then, putAll, Act.put]
          simp only [List.setIfInBounds_toArray, List.set_cons_succ, List.set_cons_zero]
          have S_b : Kp (S1 w.heap.size V_120 b_n p' L2 ∧ RS V_120 r_n p'.S p'.s p'.l p'.d p'.n L') := kp ⟨S_a.out, K_r.out⟩
          clear S_a K_r
          go_upto_region 24 with (fail)
          have hdr_121 : TL w V_120.heap.size [(b_x, 44, PK)] (fun W' => S1 w.heap.size W' b_n p' L2 ∧ RS W' r_n p'.S p'.s p'.l p'.d p'.n L') { V_120 with drawn := V_120.drawn + 1 } := ⟨fun k hk => by
            simp only [List.mem_cons, List.not_mem_nil, or_false] at hk
            rcases hk with rfl
            · exact K_x.out.bel (Below.refl _ _).drew, pairBel S_b.out (Below.refl _ _).drew, bt' HB.out (Below.refl _ _).drew HB.out.size, Nat.le_refl _⟩
          have HKT_121 : ∀ k ∈ ([(b_x, 44, PK)] : List (Nat × TypeId × List Value)), k.2.1 ≠ 36 := fun k hk => by
            simp only [List.mem_cons, List.not_mem_nil, or_false] at hk
            rcases hk with rfl <;> (dsimp only; decide)
          have HLT_121 : ∀ k ∈ ([(b_x, 44, PK)] : List (Nat × TypeId × List Value)), k.1 < V_120.heap.size := fun k hk => by
            simp only [List.mem_cons, List.not_mem_nil, or_false] at hk
            rcases hk with rfl
            · exact K_x.out.lt
          have hWN_121 := HB.out.size
          refine wp_region_held (S := fun W' => Below w.heap.size w W') (by kernel_rfl) ?_
          change wpAnyH _ _ _ _ _ 18 _ _ _
          refine takeAll (by kernel_rfl) (fun _ _ d _ _ h => by cases d <;> exact h) [(0, 113), (1, 114), (2, 115), (3, 116), (4, 117), (5, 118), (6, 119), (7, 120), (8, 121), (9, 122), (10, 123)] [.pointer (some ⟨r_n, 0, none⟩), .slice (some ⟨lb, lo, none⟩) l9.length cp, .int .i64 (j : Int), .pointer (some ⟨lb, lo + j * 2, none⟩), .pointer (some ⟨lb, lo + j * 2, none⟩), .int .i64 cl.n, .slice (some ⟨lb, lo, none⟩) l9.length cp, .int .i64 (j : Int), .pointer (some ⟨lb, lo + j * 2, none⟩), .pointer (some ⟨lb, lo + j * 2 + 1, none⟩), .string cl.t] _ _ _ 7 (by kernel_rfl)
            ⟨Or.inl ⟨by kernel_rfl, fun w hS => by kernel_rfl⟩, Or.inl ⟨by kernel_rfl, fun w hS => by kernel_rfl⟩, Or.inl ⟨by kernel_rfl, fun w hS => by kernel_rfl⟩,
             Or.inl ⟨by kernel_rfl, fun w hS => exec_index (t := 26) (e := 39) (x := .tmp 114) (i := .tmp 115) (b := lb) (off := lo) (len := l9.length) (cap := cp) (j := j) (by kernel_rfl) Try.underlying26 info_call (by kernel_rfl) (by kernel_rfl) hjl w⟩,
             Or.inl ⟨by kernel_rfl, fun w hS => by kernel_rfl⟩,
             Or.inl ⟨by kernel_rfl, fun w hS => exec_load (ty := 2) (x := .tmp 117) (by kernel_rfl) (pv := .pointer (some ⟨lb, lo + j * 2, none⟩)) (by kernel_rfl) (ld_one Try.underlying2 rfl (HeldC.at (cap := 0) (n := 0) HHELD.out hS hcj).1)⟩,
             Or.inl ⟨by kernel_rfl, fun w hS => by kernel_rfl⟩, Or.inl ⟨by kernel_rfl, fun w hS => by kernel_rfl⟩,
             Or.inl ⟨by kernel_rfl, fun w hS => exec_index (t := 26) (e := 39) (x := .tmp 119) (i := .tmp 120) (b := lb) (off := lo) (len := l9.length) (cap := cp) (j := j) (by kernel_rfl) Try.underlying26 info_call (by kernel_rfl) (by kernel_rfl) hjl w⟩,
             Or.inl ⟨by kernel_rfl, fun w hS => by kernel_rfl⟩,
             Or.inl ⟨by kernel_rfl, fun w hS => exec_load (ty := 9) (x := .tmp 122) (by kernel_rfl) (pv := .pointer (some ⟨lb, lo + j * 2 + 1, none⟩)) (by kernel_rfl) (ld_one Try.underlying9 rfl (HeldC.at (cap := 0) (n := 0) HHELD.out hS hcj).2.1)⟩, trivial⟩ hdr_121.below ?_
          refine combE (by kernel_rfl) (fun _ _ d _ _ h => by cases d <;> exact h) 15 19 (of_decide_eq_true (by kernel_rfl)) (by kernel_rfl) (by kernel_rfl) [(12, 112), (13, 125), (14, 126)] [.tuple #[.agg PK.toArray, .int .i64 ER], .agg PK.toArray, .int .i64 ER] [(11, 124)] [.tuple #[.agg PK.toArray, .int .i64 ER]] (TL w V_120.heap.size [(b_x, 44, PK)] (fun W' => S1 w.heap.size W' b_n p' L2 ∧ RS W' r_n p'.S p'.s p'.l p'.d p'.n L')) [TL w V_120.heap.size [(b_x, 44, PK)] (fun W' => S1 w.heap.size W' b_n p' L2 ∧ RS W' r_n p'.S p'.s p'.l p'.d p'.n L2)] _ _ _ 2
            (V := fun u W' => ∃ bk, u = .pointer (some ⟨bk, 0, none⟩) ∧ V_120.heap.size ≤ bk ∧ Blk W' bk 44 ZP.toArray) (pf := TL w V_120.heap.size [(b_x, 44, PK)] (fun W' => S1 w.heap.size W' b_n p' L2 ∧ RS W' r_n p'.S p'.s p'.l p'.d p'.n L2)) (by kernel_rfl) ⟨?_, fun _ h => h⟩ ⟨Or.inl ⟨by kernel_rfl, fun w hS => by kernel_rfl⟩, Or.inl ⟨by kernel_rfl, fun w hS => by kernel_rfl⟩, Or.inl ⟨by kernel_rfl, fun w hS => by kernel_rfl⟩, trivial⟩ ?_ hdr_121.below hdr_121 ?_
          · intro W hS hp
            refine Or.inr ⟨16, #[.pointer (some ⟨r_n, 0, none⟩), .int .i64 cl.n, .string cl.t], by kernel_rfl, (cT.out W hp.sd.2).mono fun e W' ⟨he, h1, h2⟩ => ⟨he, hS.grown h2 hS.size (fun k hk => by injection hk with e; have := HGR.out; omega), hp.grown hp.sd.2 HKT_121 h2 HGR.out ⟨hp.sd.1.row hp.sd.2 ⟨by decide, by decide, by decide, by decide⟩ h2, h1⟩, ?_⟩⟩
            rintro u ⟨bk, e1, e2, e3⟩
            exact ⟨bk, e1, e2, e3.grown h2 (fun e => by injection e with e; exact (Blk.ne_ e3 hp.sd.2 (by decide)) e)⟩
          · intro q hq W hS hp
            simp only [List.mem_cons, List.not_mem_nil, or_false] at hq
            have hal := ba (Below.refl W.heap.size W) (.cells ZP.toArray 44)
            rcases hq with rfl | rfl
            · exact ⟨.pointer (some ⟨W.heap.size, 0, none⟩), W.alloc (.cells ZP.toArray 44), by rw [← HZP.out]; kernel_rfl, bt' hS hal hS.size, hp.bel hal (pairBel hp.sd hal), ⟨_, rfl, hp.sz, Blk.new _ _ _⟩⟩
            · exact ⟨.pointer (some ⟨W.heap.size, 0, none⟩), W.alloc (.cells ZP.toArray 44), by rw [← HZP.out]; kernel_rfl, bt' hS hal hS.size, hp.bel hal (pairBel hp.sd hal), ⟨_, rfl, hp.sz, Blk.new _ _ _⟩⟩
          rintro u W1_121 hS hp ⟨b_y, rfl, hbk, hkk⟩
          have hst := st_all (P := Try.prog) (w := W1_121) b_y 36 44 44 PK ZP info_pk hKl.out LZ.out hkk hKo.out
          have K_y := kp (hkk.row PK.toArray)
          have hT2 := hp.row HLT_121 hbk hWN_121 PK.toArray (pairRow hp.sd hkk ⟨by decide, by decide, by decide, by decide⟩ (gbrow W1_121 b_y PK.toArray))
          have HT_121 := kp hT2
          have hge_y := kp (Nat.le_trans hWN_121 hbk)
          change wpAnyH _ _ _ _ _ [16, 17].length _ _ _
          refine wpAnyH_of_seqE (by kernel_rfl) (fun _ _ d _ _ h => by cases d <;> exact h) [16, 17] _ _ _ hp.below (of_decide_eq_true (by kernel_rfl)) (by kernel_rfl) ?_
          refine stepS_skip (by kernel_rfl) (of_decide_eq_true (by kernel_rfl)) (by kernel_rfl) (exec_store 44 (.tmp 19) (.tmp 125) (by kernel_rfl) (pv := .pointer (some ⟨b_y, 0, none⟩)) (by kernel_rfl) (v := .agg PK.toArray) (by kernel_rfl) hst) hT2.below ?_
          refine stepS 20 (by kernel_rfl) (of_decide_eq_true (by kernel_rfl)) (by kernel_rfl) (v := .int .i64 ER) (by kernel_rfl) hT2.below ?_
          clear hst hT2 hp hS hkk hbk HLT_121 HKT_121 hWN_121 hdr_121 K_x HB S_b
          generalize W1_121.setRow b_y PK.toArray = V_121 at K_y HT_121 ⊢
          have K_x : Kp (Blk V_121 (b_x) 44 PK.toArray) := kp (HT_121.out.ks (b_x, 44, PK) (by simp))
          have S_b := kp HT_121.out.sd
          have HB := kp HT_121.out.below
          clear HT_121
          unfold wpListS
          dsimp only [Exit.then, putAll, Act.put]
          simp only [List.setIfInBounds_toArray, List.set_cons_succ, List.set_cons_zero]
          have S_a := kp S_b.out.1
          have K_r := kp S_b.out.2
          clear S_b
          go_upto_region 25 with (fail)
          have cL := kp (fun W' (h : S1 w.heap.size W' b_n p' L2) => L_Last HOK.out h)
          have xr := Blk.atL K_r.out (rsL_at HOK.out.len)
          have lr := Blk.lt K_r.out
          have HX := kp (fun x => S_a.out.bel (ext_below V_121 x))
          refine wp_region_ext [0, 1, 2, 3, 4, 5, 6, 7, 8, 9, 10, 11, 12, 13, 14, 15] [16] (by kernel_rfl) (by kernel_rfl) ?_
          simp only [List.append_eq, List.cons_append, List.nil_append, List.map_cons, List.map_nil, List.getD_cons_succ, List.getD_cons_zero]
          have Q_x := kp (fun x => ld_all (P := Try.prog) b_x 36 44 44 PK _ Try.underlying44 rfl info_pk hKl.out (K_x.out.bel (ext_below V_121 x)))
          have Q_y := kp (fun x => ld_all (P := Try.prog) b_y 36 44 44 PK _ Try.underlying44 rfl info_pk hKl.out (K_y.out.bel (ext_below V_121 x)))
          repeat (first
            | (go_big_quiet_want; refine quiet_load _ rfl 44 _ rfl rfl (fun w hw => by obtain ⟨x, rfl⟩ := hw; exact Q_x.out x) ?_; go_simp; go_big_quiet_on)
            | (go_big_quiet_want; refine quiet_load _ rfl 44 _ rfl rfl (fun w hw => by obtain ⟨x, rfl⟩ := hw; exact Q_y.out x) ?_; go_simp; go_big_quiet_on)
            | (go_big_quiet_want; refine quiet_val 129 rfl (.bool false) (fun w _ => exec_pk_ne rfl hIP.out rfl rfl w) ?_; go_simp; go_big_quiet_on)
            | go_big_quiet_step (first | (go_at_call 17; with_reducible exact Calls.ext_same (cL.out _ (HX.out _)))))
          refine wpQuiet_nil ?_
          rintro z
          have S_a := kp (S_a.out.bel (ext_below V_121 z))
          have K_r : Kp (RS (V_121.ext z) r_n p'.S p'.s p'.l p'.d p'.n L2) := kp (Blk.bel K_r.out (ext_below V_121 z))
          have HB := kp (bt' HB.out (ext_below V_121 z) HB.out.size)
          clear xr lr Q_x Q_y K_x K_y HX
          generalize V_121.ext z = V7 at S_a K_r HB ⊢
          go_upto_region 27 with (fail)
          have cK := kp (fun w' => R_Key_good p'.S HOK.out.len p'.n 0 p'.n (by omega) (by omega) (by omega) (by omega) (by omega) w')
          have cW := kp (fun W' (h : S1 w.heap.size W' b_n p' L2) => L_Known HOK.out h)
          have hFl := kp (chK_length p'.S p'.n)
          obtain ⟨F, hF⟩ : ∃ F, chK p'.S p'.n = F := ⟨_, rfl⟩
          rw [hF] at cK cW hFl
          clear hF
          have HZC : Kp (cellsU8 zeroK = List.replicate 32 (.int .u8 0)) := kp (by kernel_rfl)
          refine wp_region_earlyE [12] [0, 1, 2, 3, 4, 5, 6, 7, 8, 9, 10, 11, 12] [13] [14, 15] 161 (fun _ => VA V7.heap.size 23 (cellsU8 zeroK).toArray) (· ≠ ·) (by kernel_rfl) (by kernel_rfl) rfl (fun i v W W' h hb => h.mono hb) ?_
          apply Exists.intro
          refine ⟨fun W hW => ?_, ?_, ?_⟩
          · have LS := kp (fun x => RS.ldSeed (Blk.bel (Blk.bel K_r.out hW) (ext_below W x)) HOK.out.len)
            have c35 := Blk.atL (Blk.bel K_r.out hW) (rsL_plan HOK.out.len 3 (.int .i64 (p'.n : Int)) rfl)
            have hlb := Blk.lt (Blk.bel K_r.out hW)
            simp only [List.map_cons, List.map_nil, List.getD_cons_succ, List.getD_cons_zero]
            repeat (first
              | (go_big_quiet_want; refine quiet_load _ rfl 23 _ rfl rfl (fun w hw => by obtain ⟨x, rfl⟩ := hw; exact LS.out x) ?_; go_simp; go_big_quiet_on)
              | go_big_quiet_step (first | (go_at_call 18; with_reducible exact Calls.ext_of (cK.out _))))
            exact wpQuiet_nil rfl
          · exact ⟨mk_alloc rfl (fun W => by rw [HZC.out]; kernel_rfl) (fun j u W h => h.ne), trivial⟩
          intro ev _
          simp only [List.map_cons, List.map_nil, List.getD_cons_succ, List.getD_cons_zero, TailX]
          rintro W2 hW2 ⟨_, b4, rfl, hb4, hk4⟩
          have hal := key_cells F hFl.out
          have hzc := key_cells zeroK zeroK_length
          have SC := sc_all (P := Try.prog) (w := W2) b4 23 (cellsU8 F) (cellsU8 zeroK) hk4 (by rw [hal, hzc]) (cellsU8_one _)
          have J4 := kp (hk4.row (cellsU8 F).toArray)
          have hrl := Blk.lt K_r.out
          have hbs := HB.out.size
          have S_a := kp (S1.row (S_a.out.bel hW2) hk4 ⟨by decide, by decide, by decide, by decide⟩ (gbrow W2 b4 (cellsU8 F).toArray))
          have K_r : Kp (RS (W2.setRow b4 (cellsU8 F).toArray) r_n p'.S p'.s p'.l p'.d p'.n L2) := kp (Blk.rowfar (Blk.bel K_r.out hW2) (b := b4) (by omega) (cellsU8 F).toArray)
          have HB := kp (bsr (bt' HB.out hW2 HB.out.size) (b := b4) (by omega) (bt' HB.out hW2 HB.out.size).size (cellsU8 F).toArray)
          clear hW2 hk4 hb4 hrl hbs
          generalize W2.setRow b4 (cellsU8 F).toArray = U at SC J4 S_a K_r HB
          go_upto_region 28 with (fail)
          clear SC hal hzc
          have HX := kp (fun x => S_a.out.bel (ext_below U x))
          have Q_k := kp (fun x => ldK F hFl.out (J4.out.bel (ext_below U x)))
          refine wp_region_ext [0, 1, 2] [3] (by kernel_rfl) (by kernel_rfl) ?_
          simp only [List.append_eq, List.cons_append, List.nil_append, List.map_cons, List.map_nil, List.getD_cons_succ, List.getD_cons_zero]
          repeat (first
            | (go_big_quiet_want; refine quiet_load _ rfl 23 _ rfl rfl (fun w hw => by obtain ⟨x, rfl⟩ := hw; exact Q_k.out x) ?_; go_simp; go_big_quiet_on)
            | go_big_quiet_step (first | (go_at_call 19; with_reducible exact Calls.ext_of (cW.out _ (HX.out _)))))
          refine wpQuiet_nil ?_
          rintro z
          have S_a := kp (S_a.out.bel (ext_below U z))
          have K_r : Kp (RS (U.ext z) r_n p'.S p'.s p'.l p'.d p'.n L2) := kp (Blk.bel K_r.out (ext_below U z))
          have HB := kp (bt' HB.out (ext_below U z) HB.out.size)
          clear HX Q_k J4
          generalize U.ext z = V9 at S_a K_r HB ⊢
          go_wp2_with (refine wpL_val 160 rfl rfl (.bool false) ((exec_nek rfl rfl rfl hFl.out hFl.out _).trans (by simp)) ?_)
          go_roundw
          case measure => simp [intOf]; omega
          case rel => exact ⟨j + 1, L2, b_n, r_n, p', by omega, by omega, rfl, rfl, by congr 1, HGR.out, hp16, HOK, S_a, K_r, HB⟩
      · skip
        have d5 : ((j : Int) == (Q : Int)) = false := by simp; omega
        have d6 : (j == Q) = false := by simp [hjq]
        have hjq' : ¬ (j : Int) = (Q : Int) := by omega
        have hpn := HOK.out.hn
        have cS := kp (fun W' (hB : w.heap.size ≤ W'.heap.size) (h : S1 w.heap.size W' b_a p L) => L_Send HOK.out h cl.n hw0 (by omega) cl.t hB (by omega))
        have cT := kp (fun W' (h : RS W' b_r p.S p.s p.l p.d p.n L) => R12_Send h HOK.out.len HOK.out.may rfl cl.n cl.t (by omega))
        have hKl := kp (SP.K_length p L cl.n cl.t)
        have hKo := kp (SP.K_one p L cl.n cl.t)
        have hIP : Kp (IsPk (p.K L cl.n cl.t)) := kp (SP.K_row p L cl.n cl.t)
        have cT : Kp (∀ W', RS W' b_r p.S p.s p.l p.d p.n L → Calls Try.prog 16 #[.pointer (some ⟨b_r, 0, none⟩), .int .i64 cl.n, .string cl.t] W' fun e w' => e = .returned (.tuple #[.agg (p.K L cl.n cl.t).toArray, .int .i64 (p.E L cl.n cl.t)]) ∧ RS w' b_r p.S p.s p.l p.d p.n (p.N L cl.n cl.t) ∧ W'.grownBy w' (some b_r)) := kp (fun W' h => cT.out W' h)
        obtain ⟨PK, hPK⟩ : ∃ PK, p.K L cl.n cl.t = PK := ⟨_, rfl⟩
        obtain ⟨ER, hER⟩ : ∃ ER, p.E L cl.n cl.t = ER := ⟨_, rfl⟩
        obtain ⟨L2, hL2⟩ : ∃ L2, p.N L cl.n cl.t = L2 := ⟨_, rfl⟩
        rw [hPK] at cS cT hKl hKo hIP
        rw [hER] at cS cT
        rw [hL2] at cS cT
        clear hPK hER hL2
        go_upto_region 23 with (fail)
        have hdr_175 : TL w w_54.heap.size [(b_r, 36, (rsL p.S p.s p.l p.d p.n L))] (fun W' => S1 w.heap.size W' b_a p L) { w_54 with drawn := w_54.drawn + 1 } := ⟨fun k hk => by
          simp only [List.mem_cons, List.not_mem_nil, or_false] at hk
          rcases hk with rfl
          · exact K_r.out.bel (Below.refl _ _).drew, S_a.out.bel (Below.refl _ _).drew, bt' HB.out (Below.refl _ _).drew HB.out.size, Nat.le_refl _⟩
        have HKT_175 : ∀ k ∈ ([(b_r, 36, (rsL p.S p.s p.l p.d p.n L))] : List (Nat × TypeId × List Value)), okT4 k.2.1 := fun k hk => by
          simp only [List.mem_cons, List.not_mem_nil, or_false] at hk
          rcases hk with rfl <;> (unfold okT4; dsimp only; decide)
        have HLT_175 : ∀ k ∈ ([(b_r, 36, (rsL p.S p.s p.l p.d p.n L))] : List (Nat × TypeId × List Value)), k.1 < w_54.heap.size := fun k hk => by
          simp only [List.mem_cons, List.not_mem_nil, or_false] at hk
          rcases hk with rfl
          · exact K_r.out.lt
        have hWN_175 := HB.out.size
        refine wp_region_held (S := fun W' => Below w.heap.size w W') (by kernel_rfl) ?_
        change wpAnyH _ _ _ _ _ 18 _ _ _
        refine takeAll (by kernel_rfl) (fun _ _ d _ _ h => by cases d <;> exact h) [(0, 98), (1, 99), (2, 100), (3, 101), (4, 102), (5, 103), (6, 104), (7, 105), (8, 106), (9, 107), (10, 108)] [.pointer (some ⟨b_a, 0, none⟩), .slice (some ⟨lb, lo, none⟩) l9.length cp, .int .i64 (j : Int), .pointer (some ⟨lb, lo + j * 2, none⟩), .pointer (some ⟨lb, lo + j * 2, none⟩), .int .i64 cl.n, .slice (some ⟨lb, lo, none⟩) l9.length cp, .int .i64 (j : Int), .pointer (some ⟨lb, lo + j * 2, none⟩), .pointer (some ⟨lb, lo + j * 2 + 1, none⟩), .string cl.t] _ _ _ 7 (by kernel_rfl)
          ⟨Or.inl ⟨by kernel_rfl, fun w hS => by kernel_rfl⟩, Or.inl ⟨by kernel_rfl, fun w hS => by kernel_rfl⟩, Or.inl ⟨by kernel_rfl, fun w hS => by kernel_rfl⟩,
           Or.inl ⟨by kernel_rfl, fun w hS => exec_index (t := 26) (e := 39) (x := .tmp 99) (i := .tmp 100) (b := lb) (off := lo) (len := l9.length) (cap := cp) (j := j) (by kernel_rfl) Try.underlying26 info_call (by kernel_rfl) (by kernel_rfl) hjl w⟩,
           Or.inl ⟨by kernel_rfl, fun w hS => by kernel_rfl⟩,
           Or.inl ⟨by kernel_rfl, fun w hS => exec_load (ty := 2) (x := .tmp 102) (by kernel_rfl) (pv := .pointer (some ⟨lb, lo + j * 2, none⟩)) (by kernel_rfl) (ld_one Try.underlying2 rfl (HeldC.at (cap := 0) (n := 0) HHELD.out hS hcj).1)⟩,
           Or.inl ⟨by kernel_rfl, fun w hS => by kernel_rfl⟩, Or.inl ⟨by kernel_rfl, fun w hS => by kernel_rfl⟩,
           Or.inl ⟨by kernel_rfl, fun w hS => exec_index (t := 26) (e := 39) (x := .tmp 104) (i := .tmp 105) (b := lb) (off := lo) (len := l9.length) (cap := cp) (j := j) (by kernel_rfl) Try.underlying26 info_call (by kernel_rfl) (by kernel_rfl) hjl w⟩,
           Or.inl ⟨by kernel_rfl, fun w hS => by kernel_rfl⟩,
           Or.inl ⟨by kernel_rfl, fun w hS => exec_load (ty := 9) (x := .tmp 107) (by kernel_rfl) (pv := .pointer (some ⟨lb, lo + j * 2 + 1, none⟩)) (by kernel_rfl) (ld_one Try.underlying9 rfl (HeldC.at (cap := 0) (n := 0) HHELD.out hS hcj).2.1)⟩, trivial⟩ hdr_175.below ?_
        refine combE (by kernel_rfl) (fun _ _ d _ _ h => by cases d <;> exact h) 15 17 (of_decide_eq_true (by kernel_rfl)) (by kernel_rfl) (by kernel_rfl) [(12, 97), (13, 110), (14, 111)] [.tuple #[.agg PK.toArray, .int .i64 ER], .agg PK.toArray, .int .i64 ER] [(11, 109)] [.tuple #[.agg PK.toArray, .int .i64 ER]] (TL w w_54.heap.size [(b_r, 36, (rsL p.S p.s p.l p.d p.n L))] (fun W' => S1 w.heap.size W' b_a p L)) [TL w w_54.heap.size [(b_r, 36, (rsL p.S p.s p.l p.d p.n L))] (fun W' => S1 w.heap.size W' b_a p L2)] _ _ _ 2
          (V := fun u W' => ∃ bk, u = .pointer (some ⟨bk, 0, none⟩) ∧ w_54.heap.size ≤ bk ∧ Blk W' bk 44 ZP.toArray) (pf := TL w w_54.heap.size [(b_r, 36, (rsL p.S p.s p.l p.d p.n L))] (fun W' => S1 w.heap.size W' b_a p L2)) (by kernel_rfl) ⟨?_, fun _ h => h⟩ ⟨Or.inl ⟨by kernel_rfl, fun w hS => by kernel_rfl⟩, Or.inl ⟨by kernel_rfl, fun w hS => by kernel_rfl⟩, Or.inl ⟨by kernel_rfl, fun w hS => by kernel_rfl⟩, trivial⟩ ?_ hdr_175.below hdr_175 ?_
        · intro W hS hp
          refine Or.inr ⟨15, #[.pointer (some ⟨b_a, 0, none⟩), .int .i64 cl.n, .string cl.t], by kernel_rfl, (cS.out W hS.size hp.sd).mono fun e W' ⟨he, h1, h2⟩ => ⟨he, hS.trans h2.below, hp.mv HKT_175 h2 h1, ?_⟩⟩
          rintro u ⟨bk, e1, e2, e3⟩
          exact ⟨bk, e1, e2, h2.keep (by decide) (by decide) (by decide) (by decide) e3⟩
        · intro q hq W hS hp
          simp only [List.mem_cons, List.not_mem_nil, or_false] at hq
          have hal := ba (Below.refl W.heap.size W) (.cells ZP.toArray 44)
          rcases hq with rfl | rfl
          · exact ⟨.pointer (some ⟨W.heap.size, 0, none⟩), W.alloc (.cells ZP.toArray 44), by rw [← HZP.out]; kernel_rfl, bt' hS hal hS.size, hp.bel hal (hp.sd.bel hal), ⟨_, rfl, hp.sz, Blk.new _ _ _⟩⟩
          · exact ⟨.pointer (some ⟨W.heap.size, 0, none⟩), W.alloc (.cells ZP.toArray 44), by rw [← HZP.out]; kernel_rfl, bt' hS hal hS.size, hp.bel hal (hp.sd.bel hal), ⟨_, rfl, hp.sz, Blk.new _ _ _⟩⟩
        rintro u W1_175 hS hp ⟨b_x, rfl, hbk, hkk⟩
        have hst := st_all (P := Try.prog) (w := W1_175) b_x 36 44 44 PK ZP info_pk hKl.out LZ.out hkk hKo.out
        have K_x := kp (hkk.row PK.toArray)
        have hT2 := hp.row HLT_175 hbk hWN_175 PK.toArray (S1.row hp.sd hkk ⟨by decide, by decide, by decide, by decide⟩ (gbrow W1_175 b_x PK.toArray))
        have HT_175 := kp hT2
        have hge_x := kp (Nat.le_trans hWN_175 hbk)
        change wpAnyH _ _ _ _ _ [16, 17].length _ _ _
        refine wpAnyH_of_seqE (by kernel_rfl) (fun _ _ d _ _ h => by cases d <;> exact h) [16, 17] _ _ _ hp.below (of_decide_eq_true (by kernel_rfl)) (by kernel_rfl) ?_
        refine stepS_skip (by kernel_rfl) (of_decide_eq_true (by kernel_rfl)) (by kernel_rfl) (exec_store 44 (.tmp 17) (.tmp 110) (by kernel_rfl) (pv := .pointer (some ⟨b_x, 0, none⟩)) (by kernel_rfl) (v := .agg PK.toArray) (by kernel_rfl) hst) hT2.below ?_
        refine stepS 18 (by kernel_rfl) (of_decide_eq_true (by kernel_rfl)) (by kernel_rfl) (v := .int .i64 ER) (by kernel_rfl) hT2.below ?_
        clear hst hT2 hp hS hkk hbk HLT_175 HKT_175 hWN_175 hdr_175 K_r HB S_a
        generalize W1_175.setRow b_x PK.toArray = V_175 at K_x HT_175 ⊢
        have K_r : Kp (Blk V_175 (b_r) 36 (rsL p.S p.s p.l p.d p.n L).toArray) := kp (HT_175.out.ks (b_r, 36, (rsL p.S p.s p.l p.d p.n L)) (by simp))
        have S_a := kp HT_175.out.sd
        have HB := kp HT_175.out.below
        clear HT_175
        unfold wpListS
        dsimp only [Exit.then, putAll, Act.put]
        simp only [List.setIfInBounds_toArray, List.set_cons_succ, List.set_cons_zero]
        have S_b : Kp (S1 w.heap.size V_175 b_a p L2 ∧ RS V_175 b_r p.S p.s p.l p.d p.n L) := kp ⟨S_a.out, K_r.out⟩
        clear S_a K_r
        go_upto_region 24 with (fail)
        have hdr_176 : TL w V_175.heap.size [(b_x, 44, PK)] (fun W' => S1 w.heap.size W' b_a p L2 ∧ RS W' b_r p.S p.s p.l p.d p.n L) { V_175 with drawn := V_175.drawn + 1 } := ⟨fun k hk => by
          simp only [List.mem_cons, List.not_mem_nil, or_false] at hk
          rcases hk with rfl
          · exact K_x.out.bel (Below.refl _ _).drew, pairBel S_b.out (Below.refl _ _).drew, bt' HB.out (Below.refl _ _).drew HB.out.size, Nat.le_refl _⟩
        have HKT_176 : ∀ k ∈ ([(b_x, 44, PK)] : List (Nat × TypeId × List Value)), k.2.1 ≠ 36 := fun k hk => by
          simp only [List.mem_cons, List.not_mem_nil, or_false] at hk
          rcases hk with rfl <;> (dsimp only; decide)
        have HLT_176 : ∀ k ∈ ([(b_x, 44, PK)] : List (Nat × TypeId × List Value)), k.1 < V_175.heap.size := fun k hk => by
          simp only [List.mem_cons, List.not_mem_nil, or_false] at hk
          rcases hk with rfl
          · exact K_x.out.lt
        have hWN_176 := HB.out.size
        refine wp_region_held (S := fun W' => Below w.heap.size w W') (by kernel_rfl) ?_
        change wpAnyH _ _ _ _ _ 18 _ _ _
        refine takeAll (by kernel_rfl) (fun _ _ d _ _ h => by cases d <;> exact h) [(0, 113), (1, 114), (2, 115), (3, 116), (4, 117), (5, 118), (6, 119), (7, 120), (8, 121), (9, 122), (10, 123)] [.pointer (some ⟨b_r, 0, none⟩), .slice (some ⟨lb, lo, none⟩) l9.length cp, .int .i64 (j : Int), .pointer (some ⟨lb, lo + j * 2, none⟩), .pointer (some ⟨lb, lo + j * 2, none⟩), .int .i64 cl.n, .slice (some ⟨lb, lo, none⟩) l9.length cp, .int .i64 (j : Int), .pointer (some ⟨lb, lo + j * 2, none⟩), .pointer (some ⟨lb, lo + j * 2 + 1, none⟩), .string cl.t] _ _ _ 7 (by kernel_rfl)
          ⟨Or.inl ⟨by kernel_rfl, fun w hS => by kernel_rfl⟩, Or.inl ⟨by kernel_rfl, fun w hS => by kernel_rfl⟩, Or.inl ⟨by kernel_rfl, fun w hS => by kernel_rfl⟩,
           Or.inl ⟨by kernel_rfl, fun w hS => exec_index (t := 26) (e := 39) (x := .tmp 114) (i := .tmp 115) (b := lb) (off := lo) (len := l9.length) (cap := cp) (j := j) (by kernel_rfl) Try.underlying26 info_call (by kernel_rfl) (by kernel_rfl) hjl w⟩,
           Or.inl ⟨by kernel_rfl, fun w hS => by kernel_rfl⟩,
           Or.inl ⟨by kernel_rfl, fun w hS => exec_load (ty := 2) (x := .tmp 117) (by kernel_rfl) (pv := .pointer (some ⟨lb, lo + j * 2, none⟩)) (by kernel_rfl) (ld_one Try.underlying2 rfl (HeldC.at (cap := 0) (n := 0) HHELD.out hS hcj).1)⟩,
           Or.inl ⟨by kernel_rfl, fun w hS => by kernel_rfl⟩, Or.inl ⟨by kernel_rfl, fun w hS => by kernel_rfl⟩,
           Or.inl ⟨by kernel_rfl, fun w hS => exec_index (t := 26) (e := 39) (x := .tmp 119) (i := .tmp 120) (b := lb) (off := lo) (len := l9.length) (cap := cp) (j := j) (by kernel_rfl) Try.underlying26 info_call (by kernel_rfl) (by kernel_rfl) hjl w⟩,
           Or.inl ⟨by kernel_rfl, fun w hS => by kernel_rfl⟩,
           Or.inl ⟨by kernel_rfl, fun w hS => exec_load (ty := 9) (x := .tmp 122) (by kernel_rfl) (pv := .pointer (some ⟨lb, lo + j * 2 + 1, none⟩)) (by kernel_rfl) (ld_one Try.underlying9 rfl (HeldC.at (cap := 0) (n := 0) HHELD.out hS hcj).2.1)⟩, trivial⟩ hdr_176.below ?_
        refine combE (by kernel_rfl) (fun _ _ d _ _ h => by cases d <;> exact h) 15 19 (of_decide_eq_true (by kernel_rfl)) (by kernel_rfl) (by kernel_rfl) [(12, 112), (13, 125), (14, 126)] [.tuple #[.agg PK.toArray, .int .i64 ER], .agg PK.toArray, .int .i64 ER] [(11, 124)] [.tuple #[.agg PK.toArray, .int .i64 ER]] (TL w V_175.heap.size [(b_x, 44, PK)] (fun W' => S1 w.heap.size W' b_a p L2 ∧ RS W' b_r p.S p.s p.l p.d p.n L)) [TL w V_175.heap.size [(b_x, 44, PK)] (fun W' => S1 w.heap.size W' b_a p L2 ∧ RS W' b_r p.S p.s p.l p.d p.n L2)] _ _ _ 2
          (V := fun u W' => ∃ bk, u = .pointer (some ⟨bk, 0, none⟩) ∧ V_175.heap.size ≤ bk ∧ Blk W' bk 44 ZP.toArray) (pf := TL w V_175.heap.size [(b_x, 44, PK)] (fun W' => S1 w.heap.size W' b_a p L2 ∧ RS W' b_r p.S p.s p.l p.d p.n L2)) (by kernel_rfl) ⟨?_, fun _ h => h⟩ ⟨Or.inl ⟨by kernel_rfl, fun w hS => by kernel_rfl⟩, Or.inl ⟨by kernel_rfl, fun w hS => by kernel_rfl⟩, Or.inl ⟨by kernel_rfl, fun w hS => by kernel_rfl⟩, trivial⟩ ?_ hdr_176.below hdr_176 ?_
        · intro W hS hp
          refine Or.inr ⟨16, #[.pointer (some ⟨b_r, 0, none⟩), .int .i64 cl.n, .string cl.t], by kernel_rfl, (cT.out W hp.sd.2).mono fun e W' ⟨he, h1, h2⟩ => ⟨he, hS.grown h2 hS.size (fun k hk => by injection hk with e; have := HGR.out; omega), hp.grown hp.sd.2 HKT_176 h2 HGR.out ⟨hp.sd.1.row hp.sd.2 ⟨by decide, by decide, by decide, by decide⟩ h2, h1⟩, ?_⟩⟩
          rintro u ⟨bk, e1, e2, e3⟩
          exact ⟨bk, e1, e2, e3.grown h2 (fun e => by injection e with e; exact (Blk.ne_ e3 hp.sd.2 (by decide)) e)⟩
        · intro q hq W hS hp
          simp only [List.mem_cons, List.not_mem_nil, or_false] at hq
          have hal := ba (Below.refl W.heap.size W) (.cells ZP.toArray 44)
          rcases hq with rfl | rfl
          · exact ⟨.pointer (some ⟨W.heap.size, 0, none⟩), W.alloc (.cells ZP.toArray 44), by rw [← HZP.out]; kernel_rfl, bt' hS hal hS.size, hp.bel hal (pairBel hp.sd hal), ⟨_, rfl, hp.sz, Blk.new _ _ _⟩⟩
          · exact ⟨.pointer (some ⟨W.heap.size, 0, none⟩), W.alloc (.cells ZP.toArray 44), by rw [← HZP.out]; kernel_rfl, bt' hS hal hS.size, hp.bel hal (pairBel hp.sd hal), ⟨_, rfl, hp.sz, Blk.new _ _ _⟩⟩
        rintro u W1_176 hS hp ⟨b_y, rfl, hbk, hkk⟩
        have hst := st_all (P := Try.prog) (w := W1_176) b_y 36 44 44 PK ZP info_pk hKl.out LZ.out hkk hKo.out
        have K_y := kp (hkk.row PK.toArray)
        have hT2 := hp.row HLT_176 hbk hWN_176 PK.toArray (pairRow hp.sd hkk ⟨by decide, by decide, by decide, by decide⟩ (gbrow W1_176 b_y PK.toArray))
        have HT_176 := kp hT2
        have hge_y := kp (Nat.le_trans hWN_176 hbk)
        change wpAnyH _ _ _ _ _ [16, 17].length _ _ _
        refine wpAnyH_of_seqE (by kernel_rfl) (fun _ _ d _ _ h => by cases d <;> exact h) [16, 17] _ _ _ hp.below (of_decide_eq_true (by kernel_rfl)) (by kernel_rfl) ?_
        refine stepS_skip (by kernel_rfl) (of_decide_eq_true (by kernel_rfl)) (by kernel_rfl) (exec_store 44 (.tmp 19) (.tmp 125) (by kernel_rfl) (pv := .pointer (some ⟨b_y, 0, none⟩)) (by kernel_rfl) (v := .agg PK.toArray) (by kernel_rfl) hst) hT2.below ?_
        refine stepS 20 (by kernel_rfl) (of_decide_eq_true (by kernel_rfl)) (by kernel_rfl) (v := .int .i64 ER) (by kernel_rfl) hT2.below ?_
        clear hst hT2 hp hS hkk hbk HLT_176 HKT_176 hWN_176 hdr_176 K_x HB S_b
        generalize W1_176.setRow b_y PK.toArray = V_176 at K_y HT_176 ⊢
        have K_x : Kp (Blk V_176 (b_x) 44 PK.toArray) := kp (HT_176.out.ks (b_x, 44, PK) (by simp))
        have S_b := kp HT_176.out.sd
        have HB := kp HT_176.out.below
        clear HT_176
        unfold wpListS
        dsimp only [Exit.then, putAll, Act.put]
        simp only [List.setIfInBounds_toArray, List.set_cons_succ, List.set_cons_zero]
        have S_a := kp S_b.out.1
        have K_r := kp S_b.out.2
        clear S_b
        go_upto_region 25 with (fail)
        have cL := kp (fun W' (h : S1 w.heap.size W' b_a p L2) => L_Last HOK.out h)
        have xr := Blk.atL K_r.out (rsL_at HOK.out.len)
        have lr := Blk.lt K_r.out
        have HX := kp (fun x => S_a.out.bel (ext_below V_176 x))
        refine wp_region_ext [0, 1, 2, 3, 4, 5, 6, 7, 8, 9, 10, 11, 12, 13, 14, 15] [16] (by kernel_rfl) (by kernel_rfl) ?_
        simp only [List.append_eq, List.cons_append, List.nil_append, List.map_cons, List.map_nil, List.getD_cons_succ, List.getD_cons_zero]
        have Q_x := kp (fun x => ld_all (P := Try.prog) b_x 36 44 44 PK _ Try.underlying44 rfl info_pk hKl.out (K_x.out.bel (ext_below V_176 x)))
        have Q_y := kp (fun x => ld_all (P := Try.prog) b_y 36 44 44 PK _ Try.underlying44 rfl info_pk hKl.out (K_y.out.bel (ext_below V_176 x)))
        repeat (first
          | (go_big_quiet_want; refine quiet_load _ rfl 44 _ rfl rfl (fun w hw => by obtain ⟨x, rfl⟩ := hw; exact Q_x.out x) ?_; go_simp; go_big_quiet_on)
          | (go_big_quiet_want; refine quiet_load _ rfl 44 _ rfl rfl (fun w hw => by obtain ⟨x, rfl⟩ := hw; exact Q_y.out x) ?_; go_simp; go_big_quiet_on)
          | (go_big_quiet_want; refine quiet_val 129 rfl (.bool false) (fun w _ => exec_pk_ne rfl hIP.out rfl rfl w) ?_; go_simp; go_big_quiet_on)
          | go_big_quiet_step (first | (go_at_call 17; with_reducible exact Calls.ext_same (cL.out _ (HX.out _)))))
        refine wpQuiet_nil ?_
        rintro z
        have S_a := kp (S_a.out.bel (ext_below V_176 z))
        have K_r : Kp (RS (V_176.ext z) b_r p.S p.s p.l p.d p.n L2) := kp (Blk.bel K_r.out (ext_below V_176 z))
        have HB := kp (bt' HB.out (ext_below V_176 z) HB.out.size)
        clear xr lr Q_x Q_y K_x K_y HX
        generalize V_176.ext z = V7 at S_a K_r HB ⊢
        go_upto_region 27 with (fail)
        have cK := kp (fun w' => R_Key_good p.S HOK.out.len p.n 0 p.n (by omega) (by omega) (by omega) (by omega) (by omega) w')
        have cW := kp (fun W' (h : S1 w.heap.size W' b_a p L2) => L_Known HOK.out h)
        have hFl := kp (chK_length p.S p.n)
        obtain ⟨F, hF⟩ : ∃ F, chK p.S p.n = F := ⟨_, rfl⟩
        rw [hF] at cK cW hFl
        clear hF
        have HZC : Kp (cellsU8 zeroK = List.replicate 32 (.int .u8 0)) := kp (by kernel_rfl)
        refine wp_region_earlyE [12] [0, 1, 2, 3, 4, 5, 6, 7, 8, 9, 10, 11, 12] [13] [14, 15] 161 (fun _ => VA V7.heap.size 23 (cellsU8 zeroK).toArray) (· ≠ ·) (by kernel_rfl) (by kernel_rfl) rfl (fun i v W W' h hb => h.mono hb) ?_
        apply Exists.intro
        refine ⟨fun W hW => ?_, ?_, ?_⟩
        · have LS := kp (fun x => RS.ldSeed (Blk.bel (Blk.bel K_r.out hW) (ext_below W x)) HOK.out.len)
          have c35 := Blk.atL (Blk.bel K_r.out hW) (rsL_plan HOK.out.len 3 (.int .i64 (p.n : Int)) rfl)
          have hlb := Blk.lt (Blk.bel K_r.out hW)
          simp only [List.map_cons, List.map_nil, List.getD_cons_succ, List.getD_cons_zero]
          repeat (first
            | (go_big_quiet_want; refine quiet_load _ rfl 23 _ rfl rfl (fun w hw => by obtain ⟨x, rfl⟩ := hw; exact LS.out x) ?_; go_simp; go_big_quiet_on)
            | go_big_quiet_step (first | (go_at_call 18; with_reducible exact Calls.ext_of (cK.out _))))
          exact wpQuiet_nil rfl
        · exact ⟨mk_alloc rfl (fun W => by rw [HZC.out]; kernel_rfl) (fun j u W h => h.ne), trivial⟩
        intro ev _
        simp only [List.map_cons, List.map_nil, List.getD_cons_succ, List.getD_cons_zero, TailX]
        rintro W2 hW2 ⟨_, b4, rfl, hb4, hk4⟩
        have hal := key_cells F hFl.out
        have hzc := key_cells zeroK zeroK_length
        have SC := sc_all (P := Try.prog) (w := W2) b4 23 (cellsU8 F) (cellsU8 zeroK) hk4 (by rw [hal, hzc]) (cellsU8_one _)
        have J4 := kp (hk4.row (cellsU8 F).toArray)
        have hrl := Blk.lt K_r.out
        have hbs := HB.out.size
        have S_a := kp (S1.row (S_a.out.bel hW2) hk4 ⟨by decide, by decide, by decide, by decide⟩ (gbrow W2 b4 (cellsU8 F).toArray))
        have K_r : Kp (RS (W2.setRow b4 (cellsU8 F).toArray) b_r p.S p.s p.l p.d p.n L2) := kp (Blk.rowfar (Blk.bel K_r.out hW2) (b := b4) (by omega) (cellsU8 F).toArray)
        have HB := kp (bsr (bt' HB.out hW2 HB.out.size) (b := b4) (by omega) (bt' HB.out hW2 HB.out.size).size (cellsU8 F).toArray)
        clear hW2 hk4 hb4 hrl hbs
        generalize W2.setRow b4 (cellsU8 F).toArray = U at SC J4 S_a K_r HB
        go_upto_region 28 with (fail)
        clear SC hal hzc
        have HX := kp (fun x => S_a.out.bel (ext_below U x))
        have Q_k := kp (fun x => ldK F hFl.out (J4.out.bel (ext_below U x)))
        refine wp_region_ext [0, 1, 2] [3] (by kernel_rfl) (by kernel_rfl) ?_
        simp only [List.append_eq, List.cons_append, List.nil_append, List.map_cons, List.map_nil, List.getD_cons_succ, List.getD_cons_zero]
        repeat (first
          | (go_big_quiet_want; refine quiet_load _ rfl 23 _ rfl rfl (fun w hw => by obtain ⟨x, rfl⟩ := hw; exact Q_k.out x) ?_; go_simp; go_big_quiet_on)
          | go_big_quiet_step (first | (go_at_call 19; with_reducible exact Calls.ext_of (cW.out _ (HX.out _)))))
        refine wpQuiet_nil ?_
        rintro z
        have S_a := kp (S_a.out.bel (ext_below U z))
        have K_r : Kp (RS (U.ext z) b_r p.S p.s p.l p.d p.n L2) := kp (Blk.bel K_r.out (ext_below U z))
        have HB := kp (bt' HB.out (ext_below U z) HB.out.size)
        clear HX Q_k J4
        generalize U.ext z = V9 at S_a K_r HB ⊢
        go_wp2_with (refine wpL_val 160 rfl rfl (.bool false) ((exec_nek rfl rfl rfl hFl.out hFl.out _).trans (by simp)) ?_)
        go_roundw
        case measure => simp [intOf]; omega
        case rel => exact ⟨j + 1, L2, b_a, b_r, p, by omega, by omega, rfl, rfl, by congr 1, HGR.out, hp16, HOK, S_a, K_r, HB⟩
    · skip
      rcases Decidable.em ((j : Int) < (l9.length : Int)) with h1 | h1
      · have d1 : decide ((j : Int) < (l9.length : Int)) = true := decide_eq_true h1
        have h2 : ¬ (j : Int) < 30 := by omega
        have d2 : decide ((j : Int) < 30) = false := decide_eq_false h2
        go_wp2
        go_ret
        exact ⟨rfl, HB.out⟩
      · have d1 : decide ((j : Int) < (l9.length : Int)) = false := decide_eq_false h1
        go_wp2
        go_ret
        exact ⟨rfl, HB.out⟩
end Go.Proofs.Ytmnbnjiipnocaaa
