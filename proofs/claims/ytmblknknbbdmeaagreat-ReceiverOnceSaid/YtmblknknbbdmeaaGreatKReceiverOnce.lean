/- ReceiverOnce: the walk. -/
import Derived.Test.YtmblknknbbdmeaaGreatRcb13
namespace Go.Proofs.YtmblknknbbdmeaaGreat
open Go Go.RowKit
set_option linter.unusedVariables false
set_option linter.unusedSimpArgs false
attribute [local go_sem] bmax2 bmin2 bmax bmin cell_ext frozen_ext

theorem once_n {n1 n2 j m9 : Nat} (h : n1 ≤ 5000 * j ∧ n2 ≤ 5000 * j) (h2 : m9 ≤ 4096) (h3 : j < 30) : (n1 + m9 ≤ 200000) ∧ n2 + m9 ≤ 200000 := by omega
theorem once_l {n1 m9 q : Nat} (h : n1 + m9 ≤ 200000) (h2 : q ≤ m9) : n1 + q < maxLen := by unfold maxLen; omega
theorem once_c {n : Nat} (h : n ≤ 16) : (n : Int) ≤ 1024 := by omega
theorem once_m {n1 n2 j m9 : Nat} (h : n1 ≤ 5000 * j ∧ n2 ≤ 5000 * j) (h2 : m9 ≤ 4096) : n1 + m9 ≤ 5000 * (j + 1) ∧ n2 + m9 ≤ 5000 * (j + 1) := by omega
theorem wrap_s40 {k : Nat} (h : k ≤ 40) : wrap64 ((k : Int) + 1) = ((k + 1 : Nat) : Int) := (IntWalk.wrap64_in _ (by omega)).trans (by omega)
theorem wrap_s5 {k : Nat} (h : k ≤ 5000) : wrap64 ((k : Int) + 1) = ((k + 1 : Nat) : Int) := (IntWalk.wrap64_in _ (by omega)).trans (by omega)
theorem cntI_take (l : List Th) (q : Nat) (i : Int) : cntI (l.take q) i ≤ cntI l i := ((List.take_sublist q l).filter _).length_le
theorem Rw.mapG {B : Nat} {w w' : World} {T sz m c g : Nat} {ad : Option Addr} {l : List Value} (h : Rw B w T sz ad m c l) {es : Array MapEntry} {cl : Nat} (hk : w.heap[g]? = some (.map es cl)) (hg : w.grownBy w' (some g)) : Rw B w' T sz ad m c l := by
  obtain ⟨a0, a1, a2, a3⟩ := h
  refine ⟨a0, a1, a2, ?_⟩
  rcases a3 with a3 | ⟨g2, o, cur, rfl, hB, hk2, hk3⟩
  · exact Or.inl a3
  · exact Or.inr ⟨g2, o, cur, rfl, hB, hk2.mapG hk hg, hk3⟩
theorem info_ract : (Tryz.prog.info? 65).map (·.size) = some 38 := by kernel_rfl
theorem Av.row_one (a : Av) : ∀ v ∈ a.row, v.oneCell' = true := by
  intro v hv
  unfold Av.row at hv
  rcases List.mem_cons.1 hv with rfl | hv
  · rfl
  · rcases List.mem_append.1 hv with hv | hv
    · exact pkL_one _ _ _ _ _ v hv
    · rw [List.mem_singleton] at hv; rw [hv]; rfl
theorem Av.row_pk {a : Av} {q : Nat} {v : Value} (hv : (pkL a.iv a.tx a.tg a.tl a.K)[q]? = some v) : a.row[1 + q]? = some v := by
  unfold Av.row
  rw [Nat.add_comm 1 q, List.getElem?_cons_succ, List.getElem?_append_left (List.getElem?_eq_some_iff.1 hv).1]
  exact hv
theorem Av.row_lt {a : Av} (h : a.K.length = 32) : a.row[37]? = some (.int .i64 a.lt) := by
  unfold Av.row
  rw [List.getElem?_cons_succ, List.getElem?_append_right (by rw [pkL_length h]; omega), pkL_length h]
  rfl
theorem pkL_key {iv : Int} {t g : ByteArray} {tl : Int} {K : List UInt8} {q : Nat} {v : Value} (hv : (cellsU8 K)[q]? = some v) : (pkL iv t g tl K)[4 + q]? = some v := by
  unfold pkL
  rw [List.getElem?_append_right (by simp)]
  simpa using hv
set_option maxHeartbeats 8000000 in
set_option maxRecDepth 100000 in
theorem ReceiverOnce_walk (w : World) (S : List UInt8) (s l d c : Int) (ad : Option Addr) (cp : Nat) (l9 : List Av) (hS : S.length = 32) (b1 : (Lit.int .i64 s).wf = true ∧ (Lit.int .i64 l).wf = true ∧ (Lit.int .i64 d).wf = true ∧ (Lit.int .i64 c).wf = true) (b2 : l9.length ≤ maxLen ∧ (∀ a ∈ l9, a.Wf) ∧ HeldA w ad l9) :
    Calls Tryz.prog 6 #[keyV S, .agg (planL s l d c).toArray, .slice ad l9.length cp] w fun e w' => e = .returned (.bool true) ∧ Below w.heap.size w w' := by
  unfold keyV
  obtain ⟨bs9, bl9, bd9, bc9⟩ := b1
  have cM := kp (fun w' => P_May s l d c w')
  have HSL := kp hS
  have HPL := kp (planL_length s l d c)
  have HPO := kp (planL_one s l d c)
  have xc : Kp ((planL s l d c)[3]? = some (.int .i64 c)) := kp rfl
  have xs : Kp ((planL s l d c)[0]? = some (.int .i64 s)) := kp rfl
  obtain ⟨PL, hPL⟩ : ∃ PL, planL s l d c = PL := ⟨_, rfl⟩
  rw [hPL] at cM HPL HPO xc xs
  rw [hPL]
  have HPE := kp hPL
  clear hPL
  have K_s := kp ((Blk.new w 27 (cellsU8 S).toArray).alloc (.cells PL.toArray 29))
  have K_p := kp (Blk.new (w.alloc (.cells (cellsU8 S).toArray 27)) 29 PL.toArray)
  have HB := kp (ba (ba (Below.refl w.heap.size w) (.cells (cellsU8 S).toArray 27)) (.cells PL.toArray 29))
  rw [size_all] at K_p
  obtain ⟨hlm, hwf, hheld⟩ := b2
  have HWF := kp hwf
  have HHELD := kp hheld
  have hlm2 : l9.length ≤ 9223372036854775807 := hlm
  clear hlm hwf hheld
  clear hS
  go_enter Tryz.func6, Tryz.ntmps6
  go_upto_region 1 with (fail)
  change Code.wp _ _ _ _ ((w.alloc (.cells (cellsU8 S).toArray 27)).alloc (.cells PL.toArray 29))
  generalize (w.alloc (.cells (cellsU8 S).toArray 27)).alloc (.cells PL.toArray 29) = W at K_s K_p HB ⊢
  go_wp2_with fail
  refine (receiver_awake _).mono ?_
  rintro e w_1 ⟨rfl, hb_1⟩
  have K_s := kp (K_s.out.bel hb_1)
  have K_p := kp (K_p.out.bel hb_1)
  have HB := kp (bt' HB.out hb_1 HB.out.size)
  clear hb_1
  have L_p := ld_all (P := Tryz.prog) (w.heap.size + 1) 4 29 29 PL _ Tryz.underlying29 rfl info_plan HPL.out K_p.out
  go_wp2_with (refine wpL_load rfl 29 _ rfl rfl L_p ?_)
  clear L_p
  refine (cM.out _).mono ?_
  rintro e w_2 ⟨rfl, hb_2⟩
  have K_s := kp (K_s.out.bel hb_2)
  have K_p := kp (K_p.out.bel hb_2)
  have HB := kp (bt' HB.out hb_2 HB.out.size)
  clear hb_2
  by_cases hm : mayP s l d c = true
  rotate_left
  · have hm : mayP s l d c = false := by simpa using hm
    rw [hm]
    go_wp2
    go_ret
    exact ⟨rfl, HB.out⟩
  rw [hm]
  have HM := kp hm
  clear hm cM
  have hcc := mayP_iff.1 HM.out
  have x3 := K_p.out.atL xc.out
  have lp := K_p.out.lt
  by_cases h16 : 16 < c
  · clear hcc
    have d16 : decide ((16 : Int) < c) = true := decide_eq_true h16
    go_wp2
    go_ret
    exact ⟨rfl, HB.out⟩
  have d16 : decide ((16 : Int) < c) = false := decide_eq_false h16
  have h16' : ¬ (16 : Int) < c := h16
  obtain ⟨n, hn⟩ : ∃ n : Nat, c = (n : Int) := ⟨c.toNat, by omega⟩
  have hok : (SP.mk S s l d n).Ok := ⟨HSL.out, by rw [← hn]; exact HM.out⟩
  have HN := kp hn
  have HPN := kp (HPE.out.symm.trans (by rw [hn]) : PL = planL s l d n)
  clear HPE
  have HCC := kp hcc
  have hn16 : n ≤ 16 := by omega
  have hn1 : 1 ≤ n := by omega
  clear hcc
  subst hn
  have hmN := HM.out
  obtain ⟨R0, hR0⟩ : ∃ R, newRc S s l d n 16 3 3 = R := ⟨_, rfl⟩
  have cN : Kp (∀ w', w.heap.size ≤ w'.heap.size → Calls Tryz.prog 29 #[.agg (cellsU8 S).toArray, .agg PL.toArray, .int .i64 16, .int .i64 3, .int .i64 3] w' fun e w'' => ∃ rb, e = .returned (.tuple #[.pointer (some ⟨rb, 0, none⟩), .int .i64 0]) ∧ VR w.heap.size 0 (fun _ => False) w'' rb R0 ∧ Below w'.heap.size w' w'') := kp (fun w' h => by rw [HPN.out, ← hR0]; exact W_New S s l d n 16 3 3 HSL.out hmN (by decide) (by decide) (by decide) w' h (fun k hk => hk.elim))
  have HR0 : Kp (R0.a = 0 ∧ R0.c = (n : Int) ∧ R0.B.each = 3 ∧ R0.B.room = 3 ∧ ∀ i, R0.bl i = []) := kp (by subst hR0; exact ⟨rfl, rfl, rfl, rfl, fun i => rfl⟩)
  clear hmN hR0 hok
  have L_p := ld_all (P := Tryz.prog) (w.heap.size + 1) 4 29 29 PL _ Tryz.underlying29 rfl info_plan HPL.out K_p.out
  have L_s := ldK S HSL.out K_s.out
  go_wp2_with (first | (refine wpL_load rfl 29 _ rfl rfl L_p ?_) | (refine wpL_load rfl 27 _ rfl rfl L_s ?_))
  clear L_p L_s x3 lp d16
  refine (cN.out _ HB.out.size).mono ?_
  rintro e w_3 ⟨rb_r, rfl, hv_3, hb_3⟩
  have K_s := kp (K_s.out.bel hb_3)
  have K_p := kp (K_p.out.bel hb_3)
  have HB := kp (bt' HB.out hb_3 HB.out.size)
  have V_r := kp hv_3
  clear hv_3 hb_3
  clear cN K_s K_p
  have hmm := @run_makeMap Tryz.prog
  have HGT := kp HB.out.size
  go_upto_region 9 with (fail)
  clear hmm
  have hbm := ba (ba (Below.refl w_3.heap.size w_3) (.map #[] 0)) (.map #[] 0)
  have D_t := kp ((Thg.made w_3).bel (ba (Below.refl _ _) (.map #[] 0)))
  have D_c := kp (CM.made (w_3.alloc (.map #[] 0)))
  rw [size_all] at D_c
  have V_r : Kp (VR w.heap.size 0 (fun k => k = w_3.heap.size ∨ k = w_3.heap.size + 1) ((w_3.alloc (.map #[] 0)).alloc (.map #[] 0)) rb_r R0) := kp (V_r.out.moreZ hbm (fun k hk => Or.inr (by rw [size_all, size_all]; omega)))
  have HB := kp (bt' HB.out hbm HB.out.size)
  clear hbm
  generalize (w_3.alloc (.map #[] 0)).alloc (.map #[] 0) = W3 at D_t D_c V_r HB ⊢
  generalize w_3.heap.size = gt at D_t D_c V_r HGT ⊢
  have HL0 : Kp (∀ x : Th, x ∈ ([] : List Th) ↔ x.2 ∈ R0.bl x.1) := kp (fun x => by rw [HR0.out.2.2.2.2 x.1]; simp)
  have hf0 : (fun _ : Int => 0) = fun i => (R0.bl i).length := by funext i; rw [HR0.out.2.2.2.2 i]; rfl
  rw [hf0] at D_c
  clear hf0
  have ha0 := HR0.out.1
  go_wp2
  go_loopw [11, 12] (fun av iv wr => ∃ (j n1 n2 : Nat) (R : Rc) (L : List Th), j ≤ l9.length ∧ j ≤ 30 ∧ av = .int .i64 R.a ∧ iv = .int .i64 (j : Int) ∧ Kp (R.c = (n : Int) ∧ R.B.each = 3 ∧ R.B.room = 3) ∧ Kp (n1 ≤ 5000 * j ∧ n2 ≤ 5000 * j) ∧ Kp (∀ x : Th, x ∈ L ↔ x.2 ∈ R.bl x.1) ∧ Kp (Thg wr gt n1 L) ∧ Kp (CM wr (gt + 1) n2 (fun i => (R.bl i).length)) ∧ Kp (VR w.heap.size j (fun k => k = gt ∨ k = gt + 1) wr rb_r R) ∧ Kp (Below w.heap.size w wr)) (fun _ iv _ => 30 - (intOf iv).toNat)
  case atStart => exact ⟨0, 0, 0, R0, [], Nat.zero_le _, Nat.zero_le _, by rw [ha0], rfl, kp ⟨HR0.out.2.1, HR0.out.2.2.1, HR0.out.2.2.2.1⟩, kp ⟨Nat.zero_le _, Nat.zero_le _⟩, HL0, D_t, D_c, V_r, HB⟩
  case round =>
    clear D_t D_c V_r HB HL0 ha0 HR0
    obtain ⟨j, n1, n2, R, L, hj, hj30, rfl, rfl, HCR, HN12, HLM, D_t, D_c, V_r, HB⟩ := hrel
    by_cases hlt : j < l9.length ∧ j < 30
    · skip
      obtain ⟨lb, lo, rfl, hlb, hh⟩ := HHELD.out (by intro e; subst e; simp at hlt)
      have i1 : (j : Int) < (l9.length : Int) := Int.ofNat_lt.2 hlt.1
      have i2 : (0 : Int) ≤ (j : Int) := Int.natCast_nonneg _
      have i3 : (j : Int) < 30 := Int.ofNat_lt.2 hlt.2
      have d1 : decide ((j : Int) < (l9.length : Int)) = true := decide_eq_true i1
      have d2 : decide ((j : Int) < 30) = true := decide_eq_true i3
      obtain ⟨a, haj⟩ : ∃ a, l9[j]? = some a := ⟨_, List.getElem?_eq_getElem hlt.1⟩
      have haw := HWF.out a (List.mem_of_getElem? haj)
      have LA := ld_row (P := Tryz.prog) (w := wr) lb (lo + j * 38) 38 65 a.row _ Tryz.underlying65 rfl info_ract (Av.row_length haw.key) (fun q v hv => (HB.out.cell (p := ⟨lb, lo + j * 38 + q, none⟩) hlb).trans (hh j a haj q v hv))
      have HRL := kp (Av.row_length haw.key)
      have HR1 := kp (Av.row_one a)
      have HAW := kp haw
      have cLg := kp (fun w' => R_large a w')
      have a0 : Kp (a.row[0]? = some (.int .i64 a.kind)) := kp rfl
      have a37 : Kp (a.row[37]? = some (.int .i64 a.lt)) := kp (Av.row_lt haw.key)
      have apk : Kp (∀ q v, (pkL a.iv a.tx a.tg a.tl a.K)[q]? = some v → a.row[1 + q]? = some v) := kp (fun q v hv => Av.row_pk hv)
      obtain ⟨AR, hAR⟩ : ∃ AR, a.row = AR := ⟨_, rfl⟩
      rw [hAR] at LA HRL HR1 cLg a0 a37 apk
      clear hAR haw haj hh
      have hlen_54 := HRL.out
      have SC_54 := fun (cur : Array Value) (h : cur.size = 38) => sc_new (P := Tryz.prog) wr 65 AR (HR1.out) cur (by rw [hlen_54]; exact h)
      have hge_x := kp HB.out.size
      have HLT := kp hlt
      have V_r := kp (V_r.out.bel (ba (Below.refl _ _) (.cells AR.toArray 65)))
      have D_t := kp (D_t.out.bel (ba (Below.refl _ _) (.cells AR.toArray 65)))
      have D_c := kp (D_c.out.bel (ba (Below.refl _ _) (.cells AR.toArray 65)))
      have HB := kp (ba HB.out (.cells AR.toArray 65))
      have K_x := kp (Blk.new wr 65 AR.toArray)
      go_upto_region 13 with (refine wpL_load rfl 65 _ rfl rfl LA ?_)
      clear SC_54 hlen_54
      generalize wr.alloc (.cells AR.toArray 65) = W_54 at K_x V_r D_t D_c HB ⊢
      generalize wr.heap.size = b_x at K_x hge_x ⊢
      clear LA d1 d2
      have L_x := ld_all (P := Tryz.prog) b_x 38 65 65 AR _ Tryz.underlying65 rfl info_ract HRL.out K_x.out
      go_wp2_with (refine wpL_load rfl 65 _ rfl rfl L_x ?_)
      clear L_x
      refine (cLg.out _).mono ?_
      rintro e w_55 ⟨rfl, hb_55⟩
      have V_r := kp (V_r.out.bel hb_55)
      have D_t := kp (D_t.out.bel hb_55)
      have D_c := kp (D_c.out.bel hb_55)
      have K_x := kp (K_x.out.bel hb_55)
      have HB := kp (bt' HB.out hb_55 HB.out.size)
      clear hb_55
      cases hlg : largeA a with
      | true =>
        go_wp2
        go_ret
        exact ⟨rfl, HB.out⟩
      | false =>
        clear cLg
        obtain ⟨S9, hS9⟩ : ∃ S9, actP R a = S9 := ⟨_, rfl⟩
        have HS9 := kp hS9
        have HAI : Kp (AI R S9) := kp (by rw [← hS9]; exact act_AI V_r.out.ok a)
        have HOUT : Kp (S9.2.length ≤ 4096) := kp (by rw [← hS9]; exact act_out V_r.out.ok a)
        clear hS9
        go_upto_region 16 with (fail)
        have x0 := K_x.out.atL a0.out
        have lx := K_x.out.lt
        go_step
        go_step
        go_step
        go_step
        go_step
        go_step
        go_step
        go_step
        go_step
        go_step
        go_cut [14] (fun s14 wx => ∃ ad9 cp9, s14 = .slice ad9 S9.2.length cp9 ∧ Kp (VR w.heap.size (j + 1) (fun k => k = gt ∨ k = gt + 1) wx rb_r S9.1) ∧ Kp (Thg wx gt n1 L) ∧ Kp (CM wx (gt + 1) n2 (fun i => (R.bl i).length)) ∧ Kp (Rw w.heap.size wx 71 2 ad9 S9.2.length cp9 (thL S9.2)) ∧ Kp (Below w.heap.size w wx))
        case first =>
          have x37 := K_x.out.atL a37.out
          by_cases hk0 : a.kind = 0
          · skip
            have f0 : (a.kind == 0) = true := by simpa using hk0
            have LPk := ld_row (P := Tryz.prog) (w := w_55) b_x 1 36 40 (pkL a.iv a.tx a.tg a.tl a.K) _ Tryz.underlying40 rfl info_pk (pkL_length HAW.out.key) (fun q v hv => K_x.out.atL (apk.out q v hv))
            have cGo : Kp (∀ w', w.heap.size ≤ w'.heap.size → VR w.heap.size j (fun k => k = gt ∨ k = gt + 1) w' rb_r R → Calls Tryz.prog 31 #[.pointer (some ⟨rb_r, 0, none⟩), .agg (pkL a.iv a.tx a.tg a.tl a.K).toArray, .int .i64 a.lt] w' (WEnd w.heap.size (j + 1) (fun k => k = gt ∨ k = gt + 1) w' rb_r (S9, (gotP R a.iv a.tx a.tg a.tl a.K a.lt).2))) := kp (fun w' hB h => by
              have h1 := W_Got (N := j) (by omega) h hB a.iv a.tx a.tg a.tl a.K HAW.out.key a.lt (by have := HAW.out.tl; unfold Lit.wf at this; simp only [Bool.and_eq_true, decide_eq_true_eq] at this; exact this.2)
              have e : gotP R a.iv a.tx a.tg a.tl a.K a.lt = (S9, (gotP R a.iv a.tx a.tg a.tl a.K a.lt).2) := by rw [← HS9.out]; unfold actP; rw [if_pos hk0]
              rw [e] at h1
              exact h1)
            obtain ⟨er, her⟩ : ∃ er, (gotP R a.iv a.tx a.tg a.tl a.K a.lt).2 = er := ⟨_, rfl⟩
            rw [her] at cGo
            clear her hk0
            go_wp2_with (first | (refine wpL_load rfl 40 _ rfl rfl LPk ?_) | (go_at_call 31; refine (cGo.out _ HB.out.size V_r.out).mono ?_; rintro e7 w7 ⟨ad9, cp9, rfl, hv7, hm7, hl7⟩; have V7 := kp hv7; have T7 := kp (D_t.out.mvQ hm7 (Or.inl rfl)); have C7 := kp (D_c.out.mvQ hm7 (Or.inr rfl)); have R7 := kp (hl7.mono HB.out.size); have B7 := kp (HB.out.trans hm7.below); clear hv7 hm7 hl7))
            go_meet
            exact ⟨ad9, cp9, rfl, V7, T7, C7, R7, B7⟩
          · by_cases hk1 : a.kind = 1
            · skip
              have LKy := ld_row (P := Tryz.prog) (w := w_55) b_x 5 32 27 (cellsU8 a.K) _ Tryz.underlying27 rfl info_key (key_cells a.K HAW.out.key) (fun q v hv => by have h := K_x.out.atL (apk.out (4 + q) v (pkL_key hv)); rw [show 5 + q = 1 + (4 + q) by omega]; exact h)
              have x4 := K_x.out.atL (apk.out 3 (.int .i64 a.tl) rfl)
              have cLe : Kp (∀ w', w.heap.size ≤ w'.heap.size → VR w.heap.size j (fun k => k = gt ∨ k = gt + 1) w' rb_r R → Calls Tryz.prog 32 #[.pointer (some ⟨rb_r, 0, none⟩), .agg (cellsU8 a.K).toArray, .int .i64 a.tl] w' (WEnd w.heap.size j (fun k => k = gt ∨ k = gt + 1) w' rb_r (S9, (lrnP R a.K a.tl).2))) := kp (fun w' hB h => by
                have h1 := W_Learn (N := j) (by omega) h hB a.K HAW.out.key a.tl (by have := HAW.out.tl; unfold Lit.wf at this; simp only [Bool.and_eq_true, decide_eq_true_eq] at this; exact this.2)
                have e : lrnP R a.K a.tl = (S9, (lrnP R a.K a.tl).2) := by rw [← HS9.out]; unfold actP; rw [if_neg hk0, if_pos hk1]
                rw [e] at h1
                exact h1)
              obtain ⟨er, her⟩ : ∃ er, (lrnP R a.K a.tl).2 = er := ⟨_, rfl⟩
              rw [her] at cLe
              have f0 : (a.kind == 0) = false := by simpa using hk0
              have f1 : (a.kind == 1) = true := by simpa using hk1
              clear her hk0 hk1
              go_wp2_with (first | (refine wpL_load rfl 27 _ rfl rfl LKy ?_) | (go_at_call 32; refine (cLe.out _ HB.out.size V_r.out).mono ?_; rintro e7 w7 ⟨ad9, cp9, rfl, hv7, hm7, hl7⟩; have V7 := kp (hv7.mono (Nat.le_succ j)); have T7 := kp (D_t.out.mvQ hm7 (Or.inl rfl)); have C7 := kp (D_c.out.mvQ hm7 (Or.inr rfl)); have R7 := kp (hl7.mono HB.out.size); have B7 := kp (HB.out.trans hm7.below); clear hv7 hm7 hl7))
              go_meet
              exact ⟨ad9, cp9, rfl, V7, T7, C7, R7, B7⟩
            · have e9 : S9 = (R, []) := by rw [← HS9.out]; unfold actP; rw [if_neg hk0, if_neg hk1]
              have f0 : (a.kind == 0) = false := by simpa using hk0
              have f1 : (a.kind == 1) = false := by simpa using hk1
              go_wp2
              go_meet
              exact ⟨none, 0, by rw [e9]; rfl, by rw [e9]; exact kp (V_r.out.mono (Nat.le_succ j)), D_t, D_c, by rw [e9]; exact kp (Rw.nil _ _ _ _), HB⟩
        case rest =>
          clear K_x V_r D_t D_c HB x0 lx
          obtain ⟨ad9, cp9, rfl, V_r, D_t, D_c, L_o, HB⟩ := hcut
          obtain ⟨R2, out⟩ := S9
          have HOUT' : Kp (out.length ≤ 4096) := HOUT
          obtain ⟨m9, hm9⟩ : ∃ m9, out.length = m9 := ⟨_, rfl⟩
          have HM9 := kp hm9
          try dsimp only at L_o
          try dsimp only at V_r
          try dsimp only
          have HM4 : Kp (m9 ≤ 4096) := kp (by rw [← hm9]; exact HOUT'.out)
          have HN := kp (once_n HN12.out HM4.out HLT.out.2)
          rw [hm9] at L_o
          simp only [hm9]
          clear hm9 HOUT HOUT'
          have hf0 : (fun i => (R.bl i).length) = fun i => (R.bl i).length + cntI (out.take 0) i := by funext i; simp [cntI]
          rw [hf0] at D_c
          have HL0 : Kp (∀ x : Th, x ∈ L ↔ x.2 ∈ R.bl x.1 ∨ x ∈ out.take 0) := kp (fun x => by rw [HLM.out x]; simp)
          clear hf0
          have HAW0 := HAW
          clear HAW HRL HR1 a0 a37 apk
          go_wp2
          go_loopw [82] (fun iv wr => ∃ (q : Nat) (Lq : List Th), q ≤ m9 ∧ iv = .int .i64 (q : Int) ∧ Kp (∀ x : Th, x ∈ Lq ↔ x.2 ∈ R.bl x.1 ∨ x ∈ out.take q) ∧ Kp (Thg wr gt (n1 + q) Lq) ∧ Kp (CM wr (gt + 1) (n2 + q) (fun i => (R.bl i).length + cntI (out.take q) i)) ∧ Kp (VR w.heap.size (j + 1) (fun k => k = gt ∨ k = gt + 1) wr rb_r R2) ∧ Kp (Rw w.heap.size wr 71 2 ad9 m9 cp9 (thL out)) ∧ Kp (Below w.heap.size w wr)) (fun iv _ => m9 - (intOf iv).toNat)
          case atStart => exact ⟨0, L, Nat.zero_le _, rfl, HL0, D_t, D_c, V_r, L_o, HB⟩
          case round =>
            clear V_r D_t D_c L_o HB HL0
            obtain ⟨q, Lq, hq, rfl, HLQ, D_t, D_c, V_r, L_o, HB⟩ := hrel
            by_cases hqm : q < m9
            · skip
              obtain ⟨gq, oq, had, _, _⟩ := L_o.out.some_ (Nat.lt_of_le_of_lt (Nat.zero_le q) hqm)
              subst had
              have hql : q < out.length := by rw [HM9.out]; exact hqm
              obtain ⟨⟨yi, yu⟩, hyy⟩ : ∃ y : Th, out[q]'hql = y := ⟨_, rfl⟩
              have hto : out[q]? = some (yi, yu) := by rw [List.getElem?_eq_getElem hql, hyy]
              have hym : (yi, yu) ∈ out := List.mem_of_getElem? hto
              have HYO : Kp (okTh (yi, yu)) := kp (HAI.out.ti.okTh (by rw [HCR.out.1]; exact once_c hn16) hym)
              have hynew : (yi, yu) ∉ Lq := fun hm => by
                rcases (HLQ.out _).1 hm with h | h
                · exact HAI.out.ti.new _ hym h
                · obtain ⟨q2, hq2, he⟩ := List.mem_take_iff_getElem.1 h
                  have h3 : out[q2]? = some (yi, yu) := by rw [List.getElem?_eq_getElem (Nat.lt_of_lt_of_le hq2 (Nat.min_le_right _ _)), he]
                  have := (List.getElem?_inj hql HAI.out.ti.nodup).1 (hto.trans h3.symm)
                  omega
              have hyle : yi ≤ R2.a := (HAI.out.ti.le _ hym).1
              have HTS : Kp (out.take (q + 1) = out.take q ++ [(yi, yu)]) := kp (take_snocR hto)
              have HFQ : Kp ((R.bl yi).length + cntI (out.take q) yi ≤ 40) := kp (by
                have h1 := HAI.out.cnt yi
                have h2 := V_r.out.ok.ok.bl yi
                have h3 := cntI_take out q yi
                have h4 := HLT.out.2
                change (R2.bl yi).length = (R.bl yi).length + cntI out yi at h1
                omega)
              have LT := ld_row (P := Tryz.prog) (w := wr) gq (oq + q * 2) 2 71 (thC (yi, yu)) _ Tryz.underlying71 rfl info_thg rfl (fun j v hv => by
                have h := L_o.out.elem (es := out.map thC) (fun e he => by obtain ⟨y, _, rfl⟩ := List.mem_map.1 he; rfl) (k := q) (e := thC (yi, yu)) (by rw [List.getElem?_map, hto]; rfl) hv
                rw [Nat.add_assoc]
                exact h)
              have hlk := fun W' (h : Thg W' gt (n1 + q) Lq) => h.look (yi, yu) HYO.out
              rw [decide_eq_false hynew] at hlk
              have HLK := kp hlk
              have cPut := kp (fun W' (h : Thg W' gt (n1 + q) Lq) => h.put (yi, yu) HYO.out (once_l HN.out.1 hq))
              have j1 : (q : Int) < (m9 : Int) := Int.ofNat_lt.2 hqm
              have j2 : (0 : Int) ≤ (q : Int) := Int.natCast_nonneg _
              have HYW : Kp ((kI yi).wf = true) := kp HYO.out.1
              have HQM := kp hqm
              have HQ := kp hq
              have HYL := kp hyle
              obtain ⟨TC, hTC⟩ : ∃ TC, thC (yi, yu) = TC := ⟨_, rfl⟩
              have hTL : Kp (TC.length = 2) := kp (by rw [← hTC]; rfl)
              have hTO : Kp (∀ v ∈ TC, v.oneCell' = true) := kp (by rw [← hTC]; exact thC_one _)
              have t0 : Kp (TC[0]? = some (.int .i64 yi)) := kp (by rw [← hTC]; rfl)
              rw [hTC] at LT HLK cPut
              clear hTC hto hql hyy hym hynew hlk hqm hq hyle
              go_upto_region 23 with (fail)
              have hlen_106 := hTL.out
              have SC_106 := fun (cur : Array Value) (h : cur.size = 2) => sc_new (P := Tryz.prog) wr 71 TC (hTO.out) cur (by rw [hlen_106]; exact h)
              have hge_t := kp HB.out.size
              have V_r := kp (V_r.out.bel (ba (Below.refl _ _) (.cells TC.toArray 71)))
              have L_o := kp (L_o.out.bel (ba (Below.refl _ _) (.cells TC.toArray 71)))
              have D_t := kp (D_t.out.bel (ba (Below.refl _ _) (.cells TC.toArray 71)))
              have D_c := kp (D_c.out.bel (ba (Below.refl _ _) (.cells TC.toArray 71)))
              have HB := kp (ba HB.out (.cells TC.toArray 71))
              have K_t := kp (Blk.new wr 71 TC.toArray)
              go_upto_region 24 with (refine wpL_load rfl 71 _ rfl rfl LT ?_)
              clear SC_106 hlen_106
              generalize wr.alloc (.cells TC.toArray 71) = W_106 at K_t V_r L_o D_t D_c HB ⊢
              generalize wr.heap.size = b_t at K_t hge_t ⊢
              clear LT j1 j2
              have u0 := K_t.out.atL t0.out
              have lt9 := K_t.out.lt
              have hl1 := fun x => HLK.out _ (D_t.out.bel (ext_below W_106 x))
              have LT2 := kp (fun x => ld_all (P := Tryz.prog) b_t 2 71 71 TC _ Tryz.underlying71 rfl info_thg hTL.out (K_t.out.bel (ext_below W_106 x)))
              have q3 := kp (fun x => W_At (V_r.out.bel (ext_below W_106 x)))
              have g1 : ¬ R2.a < yi := Int.not_lt.2 HYL.out
              have g2 : decide (R2.a < yi) = false := decide_eq_false g1
              refine wp_region_ext [0, 1, 2, 3, 4, 5, 6, 7, 8] [9] (by kernel_rfl) (by kernel_rfl) ?_
              simp only [List.append_eq, List.cons_append, List.nil_append, List.map_cons, List.map_nil, List.getD_cons_succ, List.getD_cons_zero]
              repeat (first
                | (go_big_quiet_want; refine quiet_load _ rfl 71 _ rfl rfl (fun w hw => by obtain ⟨x, rfl⟩ := hw; exact LT2.out x) ?_; go_simp; go_big_quiet_on)
                | go_big_quiet_step (first | (go_at_call 33; with_reducible exact Calls.ext_same (q3.out _))))
              refine wpQuiet_nil ?_
              rintro z
              have hbz := ext_below W_106 z
              have V_r := kp (V_r.out.bel hbz)
              have L_o := kp (L_o.out.bel hbz)
              have D_t := kp (D_t.out.bel hbz)
              have D_c := kp (D_c.out.bel hbz)
              have K_t := kp (K_t.out.bel hbz)
              have HB := kp (bt' HB.out hbz HB.out.size)
              clear hbz u0 lt9 hl1 LT2 q3 g1 g2
              generalize W_106.ext z = W6 at K_t V_r L_o D_t D_c HB ⊢
              have L_t := ld_all (P := Tryz.prog) b_t 2 71 71 TC _ Tryz.underlying71 rfl info_thg hTL.out K_t.out
              obtain ⟨w7, hr7, ht7, hg7⟩ := cPut.out W6 D_t.out
              obtain ⟨es7, cl7, hmo7⟩ := D_t.out.mapO
              have V7 := kp (V_r.out.mapZ hg7 (Or.inl rfl))
              have C7 := kp (D_c.out.kept hg7 (by simp))
              have T7 := kp ht7
              have K7 := kp (K_t.out.mapG hmo7 hg7)
              have L7 := kp (L_o.out.mapG hmo7 hg7)
              have HB7 : Kp (Below w.heap.size w w7) := kp (bgb HB.out hg7 HGT.out HB.out.size)
              clear ht7 hmo7 hg7
              go_upto_region 27 with (first | (refine wpL_load rfl 71 _ rfl rfl L_t ?_) | (refine wpL_mapUpdate rfl 62 _ _ _ rfl rfl rfl rfl hr7 ?_))
              clear L_t hr7 V_r D_c D_t K_t L_o HB cPut HLK
              have u0 := K7.out.atL t0.out
              have lt9 := K7.out.lt
              have hlc := C7.out.look yi HYW.out
              obtain ⟨fq, hfq⟩ : ∃ fq, (R.bl yi).length + cntI (out.take q) yi = fq := ⟨_, rfl⟩
              have hfb : fq ≤ 40 := by rw [← hfq]; exact HFQ.out
              obtain ⟨w8, hr8, hc8, hg8⟩ := C7.out.put yi HYW.out (once_l HN.out.2 HQ.out) (fq + 1)
              obtain ⟨es8, cl8, hmo8⟩ := C7.out.mapO
              have V8 := kp (V7.out.mapZ hg8 (Or.inr rfl))
              have T8 := kp (T7.out.kept hg8 (by simp))
              have L8 := kp (L7.out.mapG hmo8 hg8)
              have HB8 : Kp (Below w.heap.size w w8) := kp (bgb HB7.out hg8 (Nat.le_succ_of_le HGT.out) HB7.out.size)
              have hfe : (fun k => if k = yi then fq + 1 else (R.bl k).length + cntI (out.take q) k) = fun i => (R.bl i).length + cntI (out.take (q + 1)) i := by
                funext k
                rw [HTS.out, cntI_snoc]
                by_cases e : k = yi
                · subst e; rw [if_pos rfl, if_pos rfl, ← hfq, Nat.add_assoc]
                · rw [if_neg e, if_neg e, Nat.add_zero]
              rw [hfe] at hc8
              have C8 := kp hc8
              have ewf : wrap64 ((fq : Int) + 1) = ((fq + 1 : Nat) : Int) := wrap_s40 hfb
              have hlc' : (Instr.lookup 63 (.map (some (gt + 1))) (.int .i64 yi) false).run Tryz.prog w7 = .ok (.int .i64 (fq : Int)) w7 := by rw [← hfq]; exact hlc
              clear hfe hc8 hmo8 hg8 hlc hfq hfb
              have HLQ2 : Kp (∀ x : Th, x ∈ (yi, yu) :: Lq ↔ x.2 ∈ R.bl x.1 ∨ x ∈ out.take (q + 1)) := kp (fun x => by
                rw [HTS.out, List.mem_cons, HLQ.out x, List.mem_append, List.mem_singleton]
                constructor
                · rintro (h | h | h)
                  · exact Or.inr (Or.inr h)
                  · exact Or.inl h
                  · exact Or.inr (Or.inl h)
                · rintro (h | h | h)
                  · exact Or.inr (Or.inl h)
                  · exact Or.inr (Or.inr h)
                  · exact Or.inl h)
              have ewq := wrap_s5 (Nat.le_trans HQ.out (Nat.le_trans HM4.out (by decide)))
              clear HLQ HTS HFQ HLM
              go_wp2_with (refine wpL_mapUpdate rfl 63 _ _ _ rfl rfl rfl rfl (by first | exact hr8 | (rw [ewf]; exact hr8)) ?_)
              go_roundw
              case measure => rw [ewq]; exact meas_lt HQM.out
              case rel => exact ⟨q + 1, (yi, yu) :: Lq, HQM.out, by congr 1, HLQ2, T8, C8, V8, L8, HB8⟩
            · have hqe : m9 = q := by omega
              subst hqe
              have j1 : ¬ ((m9 : Int) < (m9 : Int)) := Int.lt_irrefl _
              have htk : out.take m9 = out := List.take_of_length_le (Nat.le_of_eq HM9.out)
              rw [htk] at HLQ D_c
              have hfe : (fun i => (R.bl i).length + cntI out i) = fun i => (R2.bl i).length := by funext i; exact (HAI.out.cnt i).symm
              rw [hfe] at D_c
              have HLM2 : Kp (∀ x : Th, x ∈ Lq ↔ x.2 ∈ R2.bl x.1) := kp (fun x => by rw [HLQ.out x]; exact (HAI.out.mem x).symm)
              have hup : ¬ R2.a < R.a := Int.not_lt.2 HAI.out.up
              have dup : decide (R2.a < R.a) = false := decide_eq_false hup
              have hz : ¬ (9 : Int) < R2.B.sz := Int.not_lt.2 (sz_nine V_r.out.ok (HAI.out.each.1.trans HCR.out.2.1) (HAI.out.each.2.trans HCR.out.2.2))
              have dz : decide ((9 : Int) < R2.B.sz) = false := decide_eq_false hz
              have HCR2 : Kp (R2.c = (n : Int) ∧ R2.B.each = 3 ∧ R2.B.room = 3) := kp ⟨HAI.out.c.trans HCR.out.1, HAI.out.each.1.trans HCR.out.2.1, HAI.out.each.2.trans HCR.out.2.2⟩
              have q3 := kp (W_At V_r.out)
              have q4 := kp (W_Waits V_r.out)
              have ew : wrap64 ((j : Int) + 1) = ((j + 1 : Nat) : Int) := wrap_s40 (Nat.le_trans (Nat.le_of_lt HLT.out.2) (by decide))
              have HN2 := kp (once_m HN12.out HM4.out)
              clear HLQ HLM hfe htk HN12 HN
              go_wp2_with (first | (go_at_call 33; refine q3.out.mono ?_; rintro e8 w8 ⟨rfl, rfl⟩) | (go_at_call 34; refine q4.out.mono ?_; rintro e8 w8 ⟨rfl, rfl⟩))
              go_roundw
              case measure => have := HLT.out; simp [intOf]; omega
              case rel => exact ⟨j + 1, n1 + m9, n2 + m9, R2, Lq, HLT.out.1, HLT.out.2, rfl, by congr 1, HCR2, HN2, HLM2, D_t, D_c, V_r, HB⟩
    · rcases Decidable.em ((j : Int) < (l9.length : Int)) with h1 | h1
      · have d1 : decide ((j : Int) < (l9.length : Int)) = true := decide_eq_true h1
        have h2 : ¬ (j : Int) < 30 := by omega
        have d2 : decide ((j : Int) < 30) = false := decide_eq_false h2
        go_wp2
        go_loopw [17] (fun kv wr => ∃ k : Nat, k ≤ 18 ∧ kv = .int .i64 (k : Int) ∧ Kp (CM wr (gt + 1) n2 (fun i => (R.bl i).length)) ∧ Kp (VR w.heap.size j (fun k => k = gt ∨ k = gt + 1) wr rb_r R) ∧ Kp (Below w.heap.size w wr)) (fun kv _ => 18 - (intOf kv).toNat)
        case atStart => exact ⟨0, Nat.zero_le _, rfl, D_c, V_r, HB⟩
        case round =>
          clear D_t D_c V_r HB HLM
          obtain ⟨k, hk18, rfl, D_c, V_r, HB⟩ := hrel
          by_cases hk : k ≤ 17
          · have f1 : (k : Int) ≤ 17 := Int.ofNat_le.2 hk
            have f2 : decide ((k : Int) ≤ 17) = true := decide_eq_true f1
            have hkw : (kI (k : Int)).wf = true := kI_wf (by omega) (by omega)
            have HKW := kp hkw
            obtain ⟨fk, hfk⟩ : ∃ fk, (R.bl (k : Int)).length = fk := ⟨_, rfl⟩
            have hl1 := fun x => (D_c.out.bel (ext_below wr x)).look (k : Int) HKW.out
            have q5 := kp (fun x => W_Believed (V_r.out.bel (ext_below wr x)) (k : Int) HKW.out)
            rw [hfk] at q5
            simp only [hfk] at hl1
            have hne : ((fk : Int) != (fk : Int)) = false := by simp
            have ew : wrap64 ((k : Int) + 1) = ((k + 1 : Nat) : Int) := wrap_s40 (Nat.le_trans hk (by decide))
            go_upto_region 35 with (fail)
            refine wp_region_ext [0, 1, 2, 3, 4, 5] [6] (by kernel_rfl) (by kernel_rfl) ?_
            simp only [List.append_eq, List.cons_append, List.nil_append, List.map_cons, List.map_nil, List.getD_cons_succ, List.getD_cons_zero]
            repeat (first
              | go_big_quiet_step (first | (go_at_call 35; with_reducible exact Calls.ext_same (q5.out _))))
            refine wpQuiet_nil ?_
            rintro z
            have hbz := ext_below wr z
            have D_c := kp (D_c.out.bel hbz)
            have V_r := kp (V_r.out.bel hbz)
            have HB := kp (bt' HB.out hbz HB.out.size)
            clear hbz hl1 q5
            generalize wr.ext z = W9 at D_c V_r HB ⊢
            go_wp2
            go_roundw
            case measure => simp [intOf]; omega
            case rel => exact ⟨k + 1, Nat.succ_le_succ hk, by congr 1, D_c, V_r, HB⟩
          · have f1 : ¬ (k : Int) ≤ 17 := by omega
            have f2 : decide ((k : Int) ≤ 17) = false := decide_eq_false f1
            go_wp2
            go_ret
            exact ⟨rfl, HB.out⟩
      · have d1 : decide ((j : Int) < (l9.length : Int)) = false := decide_eq_false h1
        go_wp2
        go_loopw [17] (fun kv wr => ∃ k : Nat, k ≤ 18 ∧ kv = .int .i64 (k : Int) ∧ Kp (CM wr (gt + 1) n2 (fun i => (R.bl i).length)) ∧ Kp (VR w.heap.size j (fun k => k = gt ∨ k = gt + 1) wr rb_r R) ∧ Kp (Below w.heap.size w wr)) (fun kv _ => 18 - (intOf kv).toNat)
        case atStart => exact ⟨0, Nat.zero_le _, rfl, D_c, V_r, HB⟩
        case round =>
          clear D_t D_c V_r HB HLM
          obtain ⟨k, hk18, rfl, D_c, V_r, HB⟩ := hrel
          by_cases hk : k ≤ 17
          · have f1 : (k : Int) ≤ 17 := Int.ofNat_le.2 hk
            have f2 : decide ((k : Int) ≤ 17) = true := decide_eq_true f1
            have hkw : (kI (k : Int)).wf = true := kI_wf (by omega) (by omega)
            have HKW := kp hkw
            obtain ⟨fk, hfk⟩ : ∃ fk, (R.bl (k : Int)).length = fk := ⟨_, rfl⟩
            have hl1 := fun x => (D_c.out.bel (ext_below wr x)).look (k : Int) HKW.out
            have q5 := kp (fun x => W_Believed (V_r.out.bel (ext_below wr x)) (k : Int) HKW.out)
            rw [hfk] at q5
            simp only [hfk] at hl1
            have hne : ((fk : Int) != (fk : Int)) = false := by simp
            have ew : wrap64 ((k : Int) + 1) = ((k + 1 : Nat) : Int) := wrap_s40 (Nat.le_trans hk (by decide))
            go_upto_region 35 with (fail)
            refine wp_region_ext [0, 1, 2, 3, 4, 5] [6] (by kernel_rfl) (by kernel_rfl) ?_
            simp only [List.append_eq, List.cons_append, List.nil_append, List.map_cons, List.map_nil, List.getD_cons_succ, List.getD_cons_zero]
            repeat (first
              | go_big_quiet_step (first | (go_at_call 35; with_reducible exact Calls.ext_same (q5.out _))))
            refine wpQuiet_nil ?_
            rintro z
            have hbz := ext_below wr z
            have D_c := kp (D_c.out.bel hbz)
            have V_r := kp (V_r.out.bel hbz)
            have HB := kp (bt' HB.out hbz HB.out.size)
            clear hbz hl1 q5
            generalize wr.ext z = W9 at D_c V_r HB ⊢
            go_wp2
            go_roundw
            case measure => simp [intOf]; omega
            case rel => exact ⟨k + 1, Nat.succ_le_succ hk, by congr 1, D_c, V_r, HB⟩
          · have f1 : ¬ (k : Int) ≤ 17 := by omega
            have f2 : decide ((k : Int) ≤ 17) = false := decide_eq_false f1
            go_wp2
            go_ret
            exact ⟨rfl, HB.out⟩
end Go.Proofs.YtmblknknbbdmeaaGreat
