/- VolleyOnce: the walk. -/
import Derived.Test.YtkknnnkbegigeaaVb7
import Derived.Test.YtkknnnkbegigeaaKVolleyBytes
namespace Go.Proofs.Ytkknnnkbegigeaa
open Go Go.RowKit
set_option linter.unusedVariables false
set_option linter.unusedSimpArgs false
attribute [local go_sem] bmax2 bmin2 bmax bmin cell_ext frozen_ext

theorem guard_draw : Try.prog.eqGuardType Try.prog.depth 53 = false := by kernel_rfl
theorem run_eqd (D E : List UInt8) (hD : D.length = 16) (hE : E.length = 16) (w : World) : (Go.binOp .eql 53 (.agg (cellsU8 D).toArray) (.agg (cellsU8 E).toArray)).run Try.prog w = .ok (.bool (decide (D = E))) w := by
  have e : (Op.equal 53 (.agg (cellsU8 D).toArray) (.agg (cellsU8 E).toArray)).run Try.prog w = .ok (decide (D = E)) w := run_equalIn_u8arr 9998 16 53 5 D E w Try.underlying53 Try.underlying5 (by kernel_rfl) hD hE
  generalize (Value.agg (cellsU8 D).toArray) = A at *
  unfold Go.binOp
  simp only [Sem.run_bind, e, Result.andThen_ok, Sem.run_pure]
theorem exec_eqd {o : Oper} {a : Act} {x y : Operand} {t' : TypeId} (ho : o.op = .binOp .eql 53 x y t') {D E : List UInt8} (hx : a.eval x = .agg (cellsU8 D).toArray) (hy : a.eval y = .agg (cellsU8 E).toArray) (hD : D.length = 16) (hE : E.length = 16) (w : World) :
    (execOp a.eval o).run Try.prog w = .ok (.value (.bool (decide (D = E)))) w := by
  have e := run_eqd D E hD hE w
  have g := guard_draw
  unfold execOp
  simp only [ho, hx, hy]
  unfold eqGuard
  simp [Sem.run_bind, e, g]
theorem quiet_eqd {o : Oper} {a : Act} {C : World → Prop} {K : Act → Prop} (d : Tmp) (hd : o.dst = some d) {x y : Operand} {t' : TypeId} (ho : o.op = .binOp .eql 53 x y t') {D E : List UInt8} (hx : a.eval x = .agg (cellsU8 D).toArray) (hy : a.eval y = .agg (cellsU8 E).toArray) (hD : D.length = 16) (hE : E.length = 16)
    (h : K { a with tmps := a.tmps.setIfInBounds d (.bool (decide (D = E))) }) : o.quiet Try.prog a C K := by
  refine ⟨.bool (decide (D = E)), fun w hw => ?_, by rw [hd]; exact h⟩
  unfold Oper.quietAt
  rw [exec_eqd ho hx hy hD hE w]
  exact ⟨rfl, rfl⟩
theorem info_draw : (Try.prog.info? 53).map (·.size) = some 16 := by kernel_rfl
theorem rightB_sameV {k t : List UInt8} {n : Nat} (h : 8 ≤ n) (h2 : n ≤ 32) : rightB k t ((macD k t).take n) = true := by
  have hl : ((macD k t).take n).length = n := by rw [List.length_take, macD_length]; omega
  rw [rightB_in (by omega) (by omega), hl]
  simp
theorem ans_own (key ask : ByteArray) (h : ask.size = 24) (t2 t3 : Int) : (ansT key ask t2 t3).extract 0 40 = ansB ask t2 t3 := by
  apply bs_inj
  have hl : (bs (ansB ask t2 t3)).length = 40 := by
    rw [size_bs]
    unfold ansB
    simp only [ByteArray.size_append, str_size, length_putL]
    omega
  rw [bs_extractV]
  unfold ansT
  rw [bs_append, List.drop_zero, List.take_append_of_le_length (by omega), List.take_of_length_le (by omega)]
theorem ans_tag (key ask : ByteArray) (h : ask.size = 24) (t2 t3 : Int) : bs ((ansT key ask t2 t3).extract 40 56) = (macD (bs key) (bs (ansB ask t2 t3))).take 16 := by
  have hl : (bs (ansB ask t2 t3)).length = 40 := by
    rw [size_bs]
    unfold ansB
    simp only [ByteArray.size_append, str_size, length_putL]
    omega
  rw [bs_extractV]
  unfold ansT
  rw [bs_append, List.drop_append_of_le_length (by omega), List.drop_of_length_le (by omega), List.nil_append, bs_str, List.take_take]
  rfl
theorem mac_self (key ask : ByteArray) (h : ask.size = 24) (t2 t3 : Int) : macB key (ansT key ask t2 t3) = true := by
  unfold macB
  rw [ans_own key ask h, ans_tag key ask h]
  exact rightB_sameV (by decide) (by decide)
theorem pre_self (key ask : ByteArray) (t2 t3 : Int) : preB (ansT key ask t2 t3) ask = true := by
  unfold preB
  rw [show (ansT key ask t2 t3).data.toList = bs (ansT key ask t2 t3) from rfl, bs_ans]
  exact List.isPrefixOf_iff_prefix.2 (List.prefix_append _ _)
theorem pre_other (key ask ask' : ByteArray) (h : ask.size = ask'.size) (hne : bs ask ≠ bs ask') (t2 t3 : Int) : preB (ansT key ask t2 t3) ask' = false := by
  unfold preB
  rw [show (ansT key ask t2 t3).data.toList = bs (ansT key ask t2 t3) from rfl, bs_ans]
  cases h0 : Lib.hasPrefix (bs ask ++ (putL (uT t2) 8 ++ (putL (uT t3) 8 ++ (macD (bs key) (bs (ansB ask t2 t3))).take 16))) ask'.data.toList with
  | false => rfl
  | true =>
    obtain ⟨Z, hZ⟩ := List.isPrefixOf_iff_prefix.1 h0
    exact absurd (List.append_inj hZ (by rw [show ask'.data.toList = bs ask' from rfl, size_bs, size_bs, h])).1.symm hne
theorem ask_size (K : List UInt8) (h : K.length = 16) (now : Int) : (askB (str K) now).size = 24 := by unfold askB; rw [ByteArray.size_append, str_size, str_size, length_putL, h]
theorem bs_ask (K : List UInt8) (now : Int) : bs (askB (str K) now) = K ++ putL (uT now) 8 := by unfold askB; rw [bs_append, bs_str, bs_str]
set_option maxHeartbeats 8000000 in
set_option maxRecDepth 100000 in
theorem VolleyOnce_walk (w : World) (key : ByteArray) (A B : List UInt8) (now t2 t3 : Int) (b0 : key.size ≤ maxLen) (hA : A.length = 16) (hB : B.length = 16) (b3 : (Lit.int .i64 now).wf = true) (b4 : (Lit.int .i64 t2).wf = true) (b5 : (Lit.int .i64 t3).wf = true) :
    Calls Try.prog 5 #[.string key, .agg (cellsU8 A).toArray, .agg (cellsU8 B).toArray, .int .i64 now, .int .i64 t2, .int .i64 t3] w fun e w' => e = .returned (.bool true) ∧ Below w.heap.size w w' := by
  have hn := wf_i64 b3
  have cW := kp (fun w' => volley_awake w')
  clear b0 b3 b4 b5
  have HB := kp (ba (ba (Below.refl w.heap.size w) (.cells (cellsU8 A).toArray 53)) (.cells (cellsU8 B).toArray 53))
  have H7 := kp ((Blk.new w 53 (cellsU8 A).toArray).alloc (.cells (cellsU8 B).toArray 53))
  have H8 := kp (Blk.new (w.alloc (.cells (cellsU8 A).toArray 53)) 53 (cellsU8 B).toArray)
  rw [size_all] at H8
  have hal : (cellsU8 A).length = 16 := by rw [length_cellsU8, hA]
  have hbl : (cellsU8 B).length = 16 := by rw [length_cellsU8, hB]
  by_cases k0 : key.size < 1
  · have g0 : (key.size : Int) < 1 := by omega
    go_enter Try.func5, Try.ntmps5
    go_upto_region 1 with (fail)
    change Code.wp _ _ _ _ ((w.alloc (.cells (cellsU8 A).toArray 53)).alloc (.cells (cellsU8 B).toArray 53))
    generalize (w.alloc (.cells (cellsU8 A).toArray 53)).alloc (.cells (cellsU8 B).toArray 53) = W at H7 H8 HB ⊢
    go_wp2_with (go_at_call 11; refine (cW.out _).mono ?_; rintro e w1 ⟨rfl, hb1⟩)
    go_ret
    exact ⟨rfl, bt' HB.out hb1 HB.out.size⟩
  have g0 : ¬ (key.size : Int) < 1 := by omega
  by_cases k1 : 100 < key.size
  · have g1 : (100 : Int) < (key.size : Int) := by omega
    go_enter Try.func5, Try.ntmps5
    go_upto_region 1 with (fail)
    change Code.wp _ _ _ _ ((w.alloc (.cells (cellsU8 A).toArray 53)).alloc (.cells (cellsU8 B).toArray 53))
    generalize (w.alloc (.cells (cellsU8 A).toArray 53)).alloc (.cells (cellsU8 B).toArray 53) = W at H7 H8 HB ⊢
    go_wp2_with (go_at_call 11; refine (cW.out _).mono ?_; rintro e w1 ⟨rfl, hb1⟩)
    go_ret
    exact ⟨rfl, bt' HB.out hb1 HB.out.size⟩
  have g1 : ¬ (100 : Int) < (key.size : Int) := by omega
  go_enter Try.func5, Try.ntmps5
  go_upto_region 1 with (fail)
  change Code.wp _ _ _ _ ((w.alloc (.cells (cellsU8 A).toArray 53)).alloc (.cells (cellsU8 B).toArray 53))
  generalize (w.alloc (.cells (cellsU8 A).toArray 53)).alloc (.cells (cellsU8 B).toArray 53) = W at H7 H8 HB ⊢
  have l7 : w.heap.size ≤ w.heap.size := Nat.le_refl _
  obtain ⟨b8, hb8⟩ : ∃ b, w.heap.size + 1 = b := ⟨_, rfl⟩
  obtain ⟨b7, hb7⟩ : ∃ b, w.heap.size = b := ⟨_, rfl⟩
  rw [hb8] at H8 ⊢
  rw [hb7] at H7 ⊢
  go_upto_region 3 with (go_at_call 11; refine (cW.out _).mono ?_; rintro e w1 ⟨rfl, hb1⟩)
  have H7 := kp (H7.out.bel hb1)
  have H8 := kp (H8.out.bel hb1)
  have HB := kp (bt' HB.out hb1 HB.out.size)
  clear hb1 cW
  have d0 : decide ((key.size : Int) < 1) = false := decide_eq_false (by omega)
  have d1 : decide ((100 : Int) < (key.size : Int)) = false := decide_eq_false (by omega)
  refine wp_region_extP 13 ?_
  simp only [List.append_eq, List.cons_append, List.nil_append, List.take_succ_cons, List.take_zero, List.drop_succ_cons, List.drop_zero]
  have Q7 := kp (fun x => ld_all (P := Try.prog) b7 16 53 53 (cellsU8 A) _ Try.underlying53 rfl info_draw hal (H7.out.bel (ext_below w1 x)))
  have Q8 := kp (fun x => ld_all (P := Try.prog) b8 16 53 53 (cellsU8 B) _ Try.underlying53 rfl info_draw hbl (H8.out.bel (ext_below w1 x)))
  have HAL := kp hA
  have HBL := kp hB
  obtain ⟨AB, hABd⟩ : ∃ d, decide (A = B) = d := ⟨_, rfl⟩
  have HAB := kp hABd
  clear hABd hal hbl hA hB
  repeat (first
    | (go_big_quiet_want; refine quiet_load _ rfl 53 _ rfl rfl (fun w hw => by obtain ⟨x, rfl⟩ := hw; exact Q7.out x) ?_; go_simp; go_big_quiet_on)
    | (go_big_quiet_want; refine quiet_load _ rfl 53 _ rfl rfl (fun w hw => by obtain ⟨x, rfl⟩ := hw; exact Q8.out x) ?_; go_simp; go_big_quiet_on)
    | (go_big_quiet_want; refine quiet_eqd (D := A) (E := B) _ rfl rfl rfl rfl HAL.out HBL.out ?_; rw [HAB.out]; go_simp; go_big_quiet_on)
    | go_big_quiet_step (fail))
  refine wpQuiet_nil ?_
  rintro z
  have hbz := ext_below w1 z
  have H7 := kp (H7.out.bel hbz)
  have H8 := kp (H8.out.bel hbz)
  have HB := kp (bt' HB.out hbz HB.out.size)
  have hA := HAL.out
  have hB := HBL.out
  have hal : (cellsU8 A).length = 16 := by rw [length_cellsU8, hA]
  have hbl : (cellsU8 B).length = 16 := by rw [length_cellsU8, hB]
  clear Q7 Q8 hbz
  generalize World.ext w1 z = w1 at H7 H8 HB ⊢
  cases hABd : AB with
  | true =>
    subst hABd
    go_wp2
    go_ret
    exact ⟨rfl, HB.out⟩
  | false =>
  subst hABd
  have hAB : A ≠ B := of_decide_eq_false HAB.out
  go_upto_region 5 with (fail)
  clear g0 g1 d0 d1 HAB
  have cN := kp (fun w' => V_New_ok key 0 (by omega) (by omega) w')
  have kA := kp (fun b g w' H => V_Ask_ok b g 0 key ⟨#[]⟩ (str A) 0 0 now [] w' H (by rw [str_size, hA]) (by simp) (by decide))
  have kB := kp (fun b g w' H => V_Ask_ok b g 1 key (askB (str A) now) (str B) 0 now now [bs (str A)] w' H (by rw [str_size, hB]) (by rw [bs_str, bs_str]; simpa using fun h => hAB h.symm) (by decide))
  have kC := kp (fun b g w' H => V_Ask_twice b g 2 key (askB (str B) now) (str A) 0 now now [bs (str B), bs (str A)] w' H (by rw [str_size, hA]) (by simp))
  have zX := ask_size A hA now
  have zY := ask_size B hB now
  have kP := kp (fun w' => V_Answer_ok key (askB (str A) now) zX (by omega) t2 t3 w')
  have kQ := kp (fun w' => V_Answer_ok key (askB (str B) now) zY (by omega) t2 t3 w')
  have i0 : In64 0 := by unfold In64; omega
  have in0 : In64 now := by unfold In64; omega
  have uP : tkE key (askB (str B) now) (ansT key (askB (str A) now) t2 t3) now now 0 = 2 ∧ tkS key (askB (str B) now) (ansT key (askB (str A) now) t2 t3) now now 0 = smC 0 0 0 ∧ tkA key (askB (str B) now) (ansT key (askB (str A) now) t2 t3) = askB (str B) now := by
    have e1 := ans_size key (askB (str A) now) zX t2 t3
    have e2 := pre_other key (askB (str A) now) (askB (str B) now) (by rw [zX, zY]) (by rw [bs_ask, bs_ask]; intro h; exact hAB (List.append_inj h (by rw [hA, hB])).1) t2 t3
    unfold tkE tkS tkA
    simp [zY, e1, e2]
  have uQ : ∃ E S, tkE key (askB (str B) now) (ansT key (askB (str B) now) t2 t3) now now 0 = E ∧ tkS key (askB (str B) now) (ansT key (askB (str B) now) t2 t3) now now 0 = S ∧ tkA key (askB (str B) now) (ansT key (askB (str B) now) t2 t3) = ⟨#[]⟩ ∧ (E = 0 ∨ E = 1 ∨ E = 3 ∨ E = 6) ∧ ∃ o d b, S = smC o d b := by
    have e1 := ans_size key (askB (str B) now) zY t2 t3
    have e2 := pre_self key (askB (str B) now) t2 t3
    have e3 := mac_self key (askB (str B) now) zY t2 t3
    refine ⟨_, _, rfl, rfl, ?_, ?_, ?_⟩
    · unfold tkA
      simp [zY, e1, e2, e3]
    · unfold tkE
      simp only [zY, e1, e2, e3]
      simp only [ne_eq, not_true_eq_false, if_false, Bool.true_eq_false, Nat.reduceEqDiff]
      exact rndE_cases _ _ _ _ _
    · unfold tkS
      simp only [zY, e1, e2, e3]
      simp only [ne_eq, not_true_eq_false, if_false, Bool.true_eq_false, Nat.reduceEqDiff]
      exact rndS_sm _ _ _ _ _
  obtain ⟨E, S, uQ1, uQ2, uQ3, uE, so, sd, sb, uS⟩ := uQ
  have v1 := kp (fun b g w' H => V_Take b g 2 key (askB (str B) now) (ansT key (askB (str A) now) t2 t3) 0 now now [bs (str B), bs (str A)] w' H i0 in0 in0 (by omega))
  rw [uP.1, uP.2.1, uP.2.2] at v1
  have v2 := kp (fun b g w' H => V_Take b g 2 key (askB (str B) now) (ansT key (askB (str B) now) t2 t3) 0 now now [bs (str B), bs (str A)] w' H i0 in0 in0 (by omega))
  rw [uQ1, uQ2, uQ3] at v2
  have v3 := kp (fun b g w' H => V_Take b g 2 key ⟨#[]⟩ (ansT key (askB (str B) now) t2 t3) 0 now now [bs (str B), bs (str A)] w' H i0 in0 in0 (by omega))
  rw [(tk_none _ _ _ _ _).1, (tk_none _ _ _ _ _).2.1, (tk_none _ _ 0 0 0).2.2] at v3
  clear uP uQ1 uQ2 uQ3 zX zY
  obtain ⟨SZ, hSZ⟩ : ∃ S, smC 0 0 0 = S := ⟨_, rfl⟩
  have zl : S.length = 3 ∧ SZ.length = 3 := by subst uS hSZ; exact ⟨rfl, rfl⟩
  have o1 := kp (smC_one so sd sb)
  have o2 := kp (smC_one 0 0 0)
  rw [← uS] at o1
  rw [hSZ] at v1 v3 o2
  clear hSZ uS
  obtain ⟨X, hX⟩ : ∃ X, askB (str A) now = X := ⟨_, rfl⟩
  obtain ⟨Y, hY⟩ : ∃ X, askB (str B) now = X := ⟨_, rfl⟩
  rw [hX] at kA kB kP v1
  rw [hY] at kB kC kQ v1 v2 v3
  clear hX hY
  generalize ansT key X t2 t3 = P at *
  generalize ansT key Y t2 t3 = Q at *
  have LL := kp (rfl : [bs (str B), bs (str A)] = bs (str B) :: [bs (str A)])
  clear LL
  go_upto_region 8 with (go_at_call 16; with_reducible refine (cN.out _).mono ?_; rintro e w3 ⟨rfl, hV, hb⟩)
  have HV := kp hV
  have n7b : b7 ≠ w1.heap.size + 1 := by have := H7.out.lt; omega
  have n7g : b7 ≠ w1.heap.size := by have := H7.out.lt; omega
  have n8b : b8 ≠ w1.heap.size + 1 := by have := H8.out.lt; omega
  have n8g : b8 ≠ w1.heap.size := by have := H8.out.lt; omega
  have lb : w.heap.size ≤ w1.heap.size + 1 := Nat.le_succ_of_le HB.out.size
  have lg : w.heap.size ≤ w1.heap.size := HB.out.size
  have H7 := kp (H7.out.bel hb)
  have H8 := kp (H8.out.bel hb)
  have HB := kp (bt' HB.out hb HB.out.size)
  clear hV hb cN
  generalize w1.heap.size + 1 = b at *
  generalize w1.heap.size = g at *
  have CV := kp (fun (W : World) (k : Nat) (D : List UInt8) (hD : D.length = 16) (h : Blk W k 53 (cellsU8 D).toArray) => blk_str (P := Try.prog) 45 (e := 5) (dst := 9) (n := 16) (cap := 16) Try.underlying45 Try.underlying5 Try.underlying9 h hD)
  have cv := CV.out _ b7 A hA H7.out
  go_upto_region 9 with (go_at_call 20; with_reducible refine (kA.out b g _ HV.out).mono ?_; rintro e w4 ⟨rfl, hV, hf⟩)
  clear cv
  have H7 := kp (H7.out.vfr hf n7b n7g)
  have H8 := kp (H8.out.vfr hf n8b n8g)
  have HV := kp hV
  have HB := kp (hf.below HB.out lb lg HB.out.size)
  clear hV hf
  have cv := CV.out _ b8 B hB H8.out
  go_upto_region 10 with (go_at_call 20; with_reducible refine (kB.out b g _ HV.out).mono ?_; rintro e w5 ⟨rfl, hV, hf⟩)
  clear cv
  have H7 := kp (H7.out.vfr hf n7b n7g)
  have H8 := kp (H8.out.vfr hf n8b n8g)
  have HV := kp hV
  have HB := kp (hf.below HB.out lb lg HB.out.size)
  clear hV hf
  have cv := CV.out _ b7 A hA H7.out
  go_upto_region 11 with (go_at_call 20; with_reducible refine (kC.out b g _ HV.out).mono ?_; rintro e w6 ⟨rfl, rfl⟩)
  clear cv
  clear H7 H8 CV n7b n7g n8b n8g
  go_upto_region 13 with (first | (go_at_call 18; with_reducible refine (kP.out _).mono ?_; rintro e w7 ⟨rfl, hb1⟩) | (go_at_call 18; with_reducible refine (kQ.out _).mono ?_; rintro e w8 ⟨rfl, hb2⟩))
  have HV := kp ((HV.out.bel hb1).bel hb2)
  have q := bt' HB.out hb1 HB.out.size
  have HB := kp (bt' q hb2 q.size)
  clear q hb1 hb2 kP kQ kA kB kC
  go_upto_region 14 with (go_at_call 22; (with_reducible refine (v1.out b g _ HV.out).mono ?_); rintro e w9 ⟨rfl, hV, hf⟩; have SC := sc_new (P := Try.prog) w9 23 SZ o2.out #[.int .i64 0, .int .i64 0, .int .i64 0] (by rw [zl.2]; rfl))
  change Code.wp _ _ _ _ (w9.alloc (.cells SZ.toArray 23))
  clear SC
  have q := hf.below HB.out lb lg HB.out.size
  have HV := kp (hV.bel (ba (Below.refl _ _) (.cells SZ.toArray 23)))
  have HB := kp (ba q (.cells SZ.toArray 23))
  clear q hV hf v1
  generalize w9.alloc (.cells SZ.toArray 23) = W9 at HV HB ⊢
  go_upto_region 15 with (go_at_call 22; (with_reducible refine (v2.out b g _ HV.out).mono ?_); rintro e w10 ⟨rfl, hV, hf⟩; have SC := sc_new (P := Try.prog) w10 23 S o1.out #[.int .i64 0, .int .i64 0, .int .i64 0] (by rw [zl.1]; rfl))
  change Code.wp _ _ _ _ (w10.alloc (.cells S.toArray 23))
  clear SC
  have q := hf.below HB.out lb lg HB.out.size
  have HV := kp (hV.bel (ba (Below.refl _ _) (.cells S.toArray 23)))
  have HB := kp (ba q (.cells S.toArray 23))
  clear q hV hf v2
  generalize w10.alloc (.cells S.toArray 23) = W10 at HV HB ⊢
  go_upto_region 16 with (go_at_call 22; (with_reducible refine (v3.out b g _ HV.out).mono ?_); rintro e w11 ⟨rfl, hV, hf⟩; have SC := sc_new (P := Try.prog) w11 23 SZ o2.out #[.int .i64 0, .int .i64 0, .int .i64 0] (by rw [zl.2]; rfl))
  change Code.wp _ _ _ _ (w11.alloc (.cells SZ.toArray 23))
  clear SC
  have q := hf.below HB.out lb lg HB.out.size
  have HV := kp (hV.bel (ba (Below.refl _ _) (.cells SZ.toArray 23)))
  have HB := kp (ba q (.cells SZ.toArray 23))
  clear q hV hf v3
  generalize w11.alloc (.cells SZ.toArray 23) = W11 at HV HB ⊢
  rcases uE with rfl | rfl | rfl | rfl
  · go_wp2
    go_ret
    exact ⟨rfl, HB.out⟩
  · go_wp2
    go_ret
    exact ⟨rfl, HB.out⟩
  · go_wp2
    go_ret
    exact ⟨rfl, HB.out⟩
  · go_wp2
    go_ret
    exact ⟨rfl, HB.out⟩
end Go.Proofs.Ytkknnnkbegigeaa
