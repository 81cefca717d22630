/- ChainChecks: the walk. -/
import Derived.Test.YtfmfdhcmbnabpaaChn4
import Derived.Test.YtfmfdhcmbnabpaaChn5
import Derived.Test.YtfmfdhcmbnabpaaArgB
namespace Go.Proofs.Ytfmfdhcmbnabpaa
open Go Go.RowKit
set_option linter.unusedVariables false
set_option linter.unusedSimpArgs false
attribute [local go_sem] bmax2 bmin2 bmax bmin cell_ext frozen_ext

set_option maxHeartbeats 4000000 in
set_option maxRecDepth 100000 in
theorem ChainChecks_walk (w : World) (K : List UInt8) (a : Int) (k : List UInt8) (i far ask : Int) (hK : K.length = 32) (b1 : (Lit.int .i64 a).wf = true) (hk : k.length = 32) (b3 : (Lit.int .i64 i).wf = true) (b4 : (Lit.int .i64 far).wf = true) (b5 : (Lit.int .i64 ask).wf = true) :
    Calls Try.prog 4 #[keyV K, .int .i64 a, keyV k, .int .i64 i, .int .i64 far, .int .i64 ask] w fun e w' => e = .returned (.bool true) ∧ Below w.heap.size w w' := by
  unfold keyV
  obtain ⟨a0, a1⟩ := wf_i64 b1
  obtain ⟨i0, i1⟩ := wf_i64 b3
  obtain ⟨f0, f1⟩ := wf_i64 b4
  obtain ⟨q0, q1⟩ := wf_i64 b5
  clear b1 b3 b4 b5
  obtain ⟨M, x, hM, h1M, hMx, c1, c2, c3⟩ := Learn_some K k hK hk a i far (by omega)
  obtain ⟨E, y, hE, c4, c5⟩ := Tell_some K hK a ask (by omega)
  have C1 := kp c1
  have C2 := kp c2
  have C3 := kp c3
  have C4 := kp c4
  have C5 := kp c5
  have HM := kp hM
  have H1M := kp h1M
  have HMX := kp hMx
  have HE := kp hE
  have HK := kp hK
  have HKK := kp hk
  have HB0 := kp (ba (ba (Below.refl w.heap.size w) (.cells (cellsU8 K).toArray 23)) (.cells (cellsU8 k).toArray 23))
  have K_s0 := kp ((Blk.new w 23 (cellsU8 K).toArray).alloc (.cells (cellsU8 k).toArray 23))
  have K_t0 := kp (Blk.new (w.alloc (.cells (cellsU8 K).toArray 23)) 23 (cellsU8 k).toArray)
  rw [size_all] at K_t0
  clear hM h1M hMx c1 c2 c3 hE c4 c5 hK hk
  go_enter Try.func4, Try.ntmps4
  go_wp2_with fail
  refine (chain_awake _).mono ?_
  rintro e w1 ⟨rfl, hb⟩
  have HB := kp (bt' HB0.out hb HB0.out.size)
  have K_s := kp (K_s0.out.bel hb)
  have K_t := kp (K_t0.out.bel hb)
  clear hb HB0 K_s0 K_t0
  go_upto_region 4 with (fail)
  go_cut [73] (fun s73 wx => ∃ b : Bool, s73 = .bool b ∧ wx = w1)
  case first =>
    go_wp2
    all_goals (go_meet; exact ⟨_, rfl, rfl⟩)
  case rest =>
    obtain ⟨b, rfl, rfl⟩ := hcut
    cases b with
    | true =>
      go_wp2
      go_ret
      exact ⟨rfl, HB.out⟩
    | false =>
      obtain ⟨ZK, hZK⟩ : ∃ ZK, zeroK = ZK := ⟨_, rfl⟩
      have HZK := kp hZK
      have HZL : Kp (ZK.length = 32) := kp (by rw [← hZK]; rfl)
      have hcase : (x = 0 ∧ M = mindL k i) ∨ (x ≠ 0 ∧ M = mindL ZK 0) := by rw [← hZK]; exact HMX.out
      clear hZK HMX HM H1M
      rcases hcase with ⟨rfl, rfl⟩ | ⟨hx, rfl⟩
      · skip
        have L_s := ldK K HK.out K_s.out
        have L_t := ldK k HKK.out K_t.out
        go_wp2_with (first | (refine wpL_load rfl 23 _ rfl rfl L_s ?_) | (refine wpL_load rfl 23 _ rfl rfl L_t ?_))
        clear L_s L_t
        refine (C2.out _).mono ?_
        rintro e w_1 ⟨rfl, hb_1⟩
        have K_s := kp (K_s.out.bel hb_1)
        have K_t := kp (K_t.out.bel hb_1)
        have HB := kp (bt' HB.out hb_1 HB.out.size)
        clear hb_1
        have L_s := ldK K HK.out K_s.out
        have L_t := ldK k HKK.out K_t.out
        go_wp2_with (first | (refine wpL_load rfl 23 _ rfl rfl L_s ?_) | (refine wpL_load rfl 23 _ rfl rfl L_t ?_) | (refine wpL_val 83 rfl rfl (.agg (mindL K a).toArray) (exec_build rfl (by simp [Act.eval, Act.put]) (build_mind K a HK.out _)) ?_))
        clear L_s L_t
        refine (C1.out _).mono ?_
        rintro e w_2 ⟨rfl, hb_2⟩
        have hlen_2 := mindL_length k i HKK.out
        have SC_2 := fun (cur : Array Value) (h : cur.size = 33) => sc_new (P := Try.prog) w_2 34 (mindL k i) (mindL_one _ _) cur (by rw [hlen_2]; exact h)
        have K_s := kp ((K_s.out.bel hb_2).alloc (.cells (mindL k i).toArray 34))
        have K_t := kp ((K_t.out.bel hb_2).alloc (.cells (mindL k i).toArray 34))
        have K_m := kp (Blk.new w_2 34 (mindL k i).toArray)
        have hge_m := kp (bt' HB.out hb_2 HB.out.size).size
        have HB := kp (ba (bt' HB.out hb_2 HB.out.size) (.cells (mindL k i).toArray 34))
        clear hb_2
        have L_s := ldK K HK.out K_s.out
        go_wp2_with (first | (refine wpL_load rfl 23 _ rfl rfl L_s ?_) | (refine wpL_val 93 rfl rfl (.agg (mindL K a).toArray) (exec_build rfl (by simp [Act.eval, Act.put]) (build_mind K a HK.out _)) ?_))
        clear SC_2 hlen_2
        clear L_s
        generalize w_2.alloc (.cells (mindL k i).toArray 34) = W_2 at K_s K_t K_m HB ⊢
        generalize w_2.heap.size = b_m at K_m hge_m ⊢
        refine (C4.out _).mono ?_
        rintro e w_3 ⟨rfl, hb_3⟩
        have hlen_3 := key_cells _ HE.out
        have SC_3 := fun (cur : Array Value) (h : cur.size = 32) => sc_new (P := Try.prog) w_3 23 (cellsU8 E) (cellsU8_one _) cur (by rw [hlen_3]; exact h)
        have K_s := kp ((K_s.out.bel hb_3).alloc (.cells (cellsU8 E).toArray 23))
        have K_t := kp ((K_t.out.bel hb_3).alloc (.cells (cellsU8 E).toArray 23))
        have K_m := kp ((K_m.out.bel hb_3).alloc (.cells (cellsU8 E).toArray 23))
        have K_p := kp (Blk.new w_3 23 (cellsU8 E).toArray)
        have hge_p := kp (bt' HB.out hb_3 HB.out.size).size
        have HB := kp (ba (bt' HB.out hb_3 HB.out.size) (.cells (cellsU8 E).toArray 23))
        clear hb_3
        have L_s := ldK K HK.out K_s.out
        go_wp2_with (first | (refine wpL_load rfl 23 _ rfl rfl L_s ?_))
        clear SC_3 hlen_3
        clear L_s
        generalize w_3.alloc (.cells (cellsU8 E).toArray 23) = W_3 at K_s K_t K_m K_p HB ⊢
        generalize w_3.heap.size = b_p at K_p hge_p ⊢
        refine (C5.out _).mono ?_
        rintro e w_4 ⟨rfl, hb_4⟩
        have hlen_4 := key_cells _ HE.out
        have SC_4 := fun (cur : Array Value) (h : cur.size = 32) => sc_new (P := Try.prog) w_4 23 (cellsU8 E) (cellsU8_one _) cur (by rw [hlen_4]; exact h)
        have K_s := kp ((K_s.out.bel hb_4).alloc (.cells (cellsU8 E).toArray 23))
        have K_t := kp ((K_t.out.bel hb_4).alloc (.cells (cellsU8 E).toArray 23))
        have K_m := kp ((K_m.out.bel hb_4).alloc (.cells (cellsU8 E).toArray 23))
        have K_p := kp ((K_p.out.bel hb_4).alloc (.cells (cellsU8 E).toArray 23))
        have K_q := kp (Blk.new w_4 23 (cellsU8 E).toArray)
        have hge_q := kp (bt' HB.out hb_4 HB.out.size).size
        have HB := kp (ba (bt' HB.out hb_4 HB.out.size) (.cells (cellsU8 E).toArray 23))
        clear hb_4
        go_upto_region 10 with (fail)
        clear SC_4 hlen_4
        generalize w_4.alloc (.cells (cellsU8 E).toArray 23) = W_4 at K_s K_t K_m K_p K_q HB ⊢
        generalize w_4.heap.size = b_q at K_q hge_q ⊢
        refine wp_region_extP 22 ?_
        simp only [List.append_eq, List.cons_append, List.nil_append, List.take_succ_cons, List.take_zero, List.drop_succ_cons, List.drop_zero]
        have Q_s := kp (fun x => ldK K HK.out (K_s.out.bel (ext_below W_4 x)))
        have Q_t := kp (fun x => ldK k HKK.out (K_t.out.bel (ext_below W_4 x)))
        have Q_p := kp (fun x => ldK E HE.out (K_p.out.bel (ext_below W_4 x)))
        have Q_q := kp (fun x => ldK E HE.out (K_q.out.bel (ext_below W_4 x)))
        repeat (first
          | (go_big_quiet_want; refine quiet_load _ rfl 23 _ rfl rfl (fun w hw => by obtain ⟨x, rfl⟩ := hw; exact Q_s.out x) ?_; go_simp; go_big_quiet_on)
          | (go_big_quiet_want; refine quiet_load _ rfl 23 _ rfl rfl (fun w hw => by obtain ⟨x, rfl⟩ := hw; exact Q_t.out x) ?_; go_simp; go_big_quiet_on)
          | (go_big_quiet_want; refine quiet_load _ rfl 23 _ rfl rfl (fun w hw => by obtain ⟨x, rfl⟩ := hw; exact Q_p.out x) ?_; go_simp; go_big_quiet_on)
          | (go_big_quiet_want; refine quiet_load _ rfl 23 _ rfl rfl (fun w hw => by obtain ⟨x, rfl⟩ := hw; exact Q_q.out x) ?_; go_simp; go_big_quiet_on)
          | (go_big_quiet_want; refine quiet_nek (D := E) (E := E) _ rfl rfl rfl rfl HE.out HE.out ?_; simp only [decide_true, Bool.not_true]; go_simp; go_big_quiet_on)
          | go_big_quiet_step (first | (go_at_call 26; with_reducible exact Calls.ext_of (C3.out _))))
        refine wpQuiet_nil ?_
        rintro z
        have K_t := kp (K_t.out.bel (ext_below W_4 z))
        have K_m := kp (K_m.out.bel (ext_below W_4 z))
        have HB := kp (bt' HB.out (ext_below W_4 z) HB.out.size)
        clear Q_s Q_t Q_p Q_q K_s K_p K_q
        generalize W_4.ext z = V at K_t K_m HB ⊢
        go_upto_region 12 with (fail)
        refine wp_region_extP 18 ?_
        simp only [List.append_eq, List.cons_append, List.nil_append, List.take_succ_cons, List.take_zero, List.drop_succ_cons, List.drop_zero]
        have Q_m := kp (fun x => ldM k i HKK.out (K_m.out.bel (ext_below V x)))
        have Q_t := kp (fun x => ldK k HKK.out (K_t.out.bel (ext_below V x)))
        repeat (first
          | (go_big_quiet_want; refine quiet_load _ rfl 34 _ rfl rfl (fun w hw => by obtain ⟨x, rfl⟩ := hw; exact Q_m.out x) ?_; go_simp; go_big_quiet_on)
          | (go_big_quiet_want; refine quiet_load _ rfl 23 _ rfl rfl (fun w hw => by obtain ⟨x, rfl⟩ := hw; exact Q_t.out x) ?_; go_simp; go_big_quiet_on)
          | (go_big_quiet_want; refine quiet_val 134 rfl (.agg (mindL k i).toArray) (fun w _ => exec_build rfl (by simp [Act.eval, Act.put]) (build_mind k i HKK.out w)) ?_; go_simp; go_big_quiet_on)
          | (go_big_quiet_want; refine quiet_val 142 rfl (.agg (mindL ZK 0).toArray) (fun w _ => by rw [← HZK.out]; kernel_rfl) ?_; go_simp; go_big_quiet_on)
          | (go_big_quiet_want; refine quiet_eqm (K := k) (K' := k) (i := i) (i' := i) _ rfl rfl rfl rfl HKK.out HKK.out ?_; simp only [decide_true, and_self]; go_simp; go_big_quiet_on)
          | go_big_quiet_step (fail))
        refine wpQuiet_nil ?_
        rintro z
        go_wp2
        go_ret
        exact ⟨rfl, bt' HB.out (ext_below V z) HB.out.size⟩
      · skip
        have x1 : (x == 0) = false := by simpa using hx
        have x2 : (x != 0) = true := by simpa using hx
        have x3 : (x != x) = false := by simp
        have HXX := kp hx
        clear hx
        have L_s := ldK K HK.out K_s.out
        have L_t := ldK k HKK.out K_t.out
        go_wp2_with (first | (refine wpL_load rfl 23 _ rfl rfl L_s ?_) | (refine wpL_load rfl 23 _ rfl rfl L_t ?_))
        clear L_s L_t
        refine (C2.out _).mono ?_
        rintro e w_5 ⟨rfl, hb_5⟩
        have K_s := kp (K_s.out.bel hb_5)
        have K_t := kp (K_t.out.bel hb_5)
        have HB := kp (bt' HB.out hb_5 HB.out.size)
        clear hb_5
        have L_s := ldK K HK.out K_s.out
        have L_t := ldK k HKK.out K_t.out
        go_wp2_with (first | (refine wpL_load rfl 23 _ rfl rfl L_s ?_) | (refine wpL_load rfl 23 _ rfl rfl L_t ?_) | (refine wpL_val 83 rfl rfl (.agg (mindL K a).toArray) (exec_build rfl (by simp [Act.eval, Act.put]) (build_mind K a HK.out _)) ?_))
        clear L_s L_t
        refine (C1.out _).mono ?_
        rintro e w_6 ⟨rfl, hb_6⟩
        have hlen_6 := mindL_length ZK 0 HZL.out
        have SC_6 := fun (cur : Array Value) (h : cur.size = 33) => sc_new (P := Try.prog) w_6 34 (mindL ZK 0) (mindL_one _ _) cur (by rw [hlen_6]; exact h)
        have K_s := kp ((K_s.out.bel hb_6).alloc (.cells (mindL ZK 0).toArray 34))
        have K_t := kp ((K_t.out.bel hb_6).alloc (.cells (mindL ZK 0).toArray 34))
        have K_m := kp (Blk.new w_6 34 (mindL ZK 0).toArray)
        have hge_m := kp (bt' HB.out hb_6 HB.out.size).size
        have HB := kp (ba (bt' HB.out hb_6 HB.out.size) (.cells (mindL ZK 0).toArray 34))
        clear hb_6
        have L_s := ldK K HK.out K_s.out
        go_wp2_with (first | (refine wpL_load rfl 23 _ rfl rfl L_s ?_) | (refine wpL_val 93 rfl rfl (.agg (mindL K a).toArray) (exec_build rfl (by simp [Act.eval, Act.put]) (build_mind K a HK.out _)) ?_))
        clear SC_6 hlen_6
        clear L_s
        generalize w_6.alloc (.cells (mindL ZK 0).toArray 34) = W_6 at K_s K_t K_m HB ⊢
        generalize w_6.heap.size = b_m at K_m hge_m ⊢
        refine (C4.out _).mono ?_
        rintro e w_7 ⟨rfl, hb_7⟩
        have hlen_7 := key_cells _ HE.out
        have SC_7 := fun (cur : Array Value) (h : cur.size = 32) => sc_new (P := Try.prog) w_7 23 (cellsU8 E) (cellsU8_one _) cur (by rw [hlen_7]; exact h)
        have K_s := kp ((K_s.out.bel hb_7).alloc (.cells (cellsU8 E).toArray 23))
        have K_t := kp ((K_t.out.bel hb_7).alloc (.cells (cellsU8 E).toArray 23))
        have K_m := kp ((K_m.out.bel hb_7).alloc (.cells (cellsU8 E).toArray 23))
        have K_p := kp (Blk.new w_7 23 (cellsU8 E).toArray)
        have hge_p := kp (bt' HB.out hb_7 HB.out.size).size
        have HB := kp (ba (bt' HB.out hb_7 HB.out.size) (.cells (cellsU8 E).toArray 23))
        clear hb_7
        have L_s := ldK K HK.out K_s.out
        go_wp2_with (first | (refine wpL_load rfl 23 _ rfl rfl L_s ?_))
        clear SC_7 hlen_7
        clear L_s
        generalize w_7.alloc (.cells (cellsU8 E).toArray 23) = W_7 at K_s K_t K_m K_p HB ⊢
        generalize w_7.heap.size = b_p at K_p hge_p ⊢
        refine (C5.out _).mono ?_
        rintro e w_8 ⟨rfl, hb_8⟩
        have hlen_8 := key_cells _ HE.out
        have SC_8 := fun (cur : Array Value) (h : cur.size = 32) => sc_new (P := Try.prog) w_8 23 (cellsU8 E) (cellsU8_one _) cur (by rw [hlen_8]; exact h)
        have K_s := kp ((K_s.out.bel hb_8).alloc (.cells (cellsU8 E).toArray 23))
        have K_t := kp ((K_t.out.bel hb_8).alloc (.cells (cellsU8 E).toArray 23))
        have K_m := kp ((K_m.out.bel hb_8).alloc (.cells (cellsU8 E).toArray 23))
        have K_p := kp ((K_p.out.bel hb_8).alloc (.cells (cellsU8 E).toArray 23))
        have K_q := kp (Blk.new w_8 23 (cellsU8 E).toArray)
        have hge_q := kp (bt' HB.out hb_8 HB.out.size).size
        have HB := kp (ba (bt' HB.out hb_8 HB.out.size) (.cells (cellsU8 E).toArray 23))
        clear hb_8
        go_upto_region 10 with (fail)
        clear SC_8 hlen_8
        generalize w_8.alloc (.cells (cellsU8 E).toArray 23) = W_8 at K_s K_t K_m K_p K_q HB ⊢
        generalize w_8.heap.size = b_q at K_q hge_q ⊢
        refine wp_region_extP 22 ?_
        simp only [List.append_eq, List.cons_append, List.nil_append, List.take_succ_cons, List.take_zero, List.drop_succ_cons, List.drop_zero]
        have Q_s := kp (fun x => ldK K HK.out (K_s.out.bel (ext_below W_8 x)))
        have Q_t := kp (fun x => ldK k HKK.out (K_t.out.bel (ext_below W_8 x)))
        have Q_p := kp (fun x => ldK E HE.out (K_p.out.bel (ext_below W_8 x)))
        have Q_q := kp (fun x => ldK E HE.out (K_q.out.bel (ext_below W_8 x)))
        repeat (first
          | (go_big_quiet_want; refine quiet_load _ rfl 23 _ rfl rfl (fun w hw => by obtain ⟨x, rfl⟩ := hw; exact Q_s.out x) ?_; go_simp; go_big_quiet_on)
          | (go_big_quiet_want; refine quiet_load _ rfl 23 _ rfl rfl (fun w hw => by obtain ⟨x, rfl⟩ := hw; exact Q_t.out x) ?_; go_simp; go_big_quiet_on)
          | (go_big_quiet_want; refine quiet_load _ rfl 23 _ rfl rfl (fun w hw => by obtain ⟨x, rfl⟩ := hw; exact Q_p.out x) ?_; go_simp; go_big_quiet_on)
          | (go_big_quiet_want; refine quiet_load _ rfl 23 _ rfl rfl (fun w hw => by obtain ⟨x, rfl⟩ := hw; exact Q_q.out x) ?_; go_simp; go_big_quiet_on)
          | (go_big_quiet_want; refine quiet_nek (D := E) (E := E) _ rfl rfl rfl rfl HE.out HE.out ?_; simp only [decide_true, Bool.not_true]; go_simp; go_big_quiet_on)
          | go_big_quiet_step (first | (go_at_call 26; with_reducible exact Calls.ext_of (C3.out _))))
        refine wpQuiet_nil ?_
        rintro z
        have K_t := kp (K_t.out.bel (ext_below W_8 z))
        have K_m := kp (K_m.out.bel (ext_below W_8 z))
        have HB := kp (bt' HB.out (ext_below W_8 z) HB.out.size)
        clear Q_s Q_t Q_p Q_q K_s K_p K_q
        generalize W_8.ext z = V at K_t K_m HB ⊢
        go_upto_region 12 with (fail)
        refine wp_region_extP 18 ?_
        simp only [List.append_eq, List.cons_append, List.nil_append, List.take_succ_cons, List.take_zero, List.drop_succ_cons, List.drop_zero]
        have Q_m := kp (fun x => ldM ZK 0 HZL.out (K_m.out.bel (ext_below V x)))
        have Q_t := kp (fun x => ldK k HKK.out (K_t.out.bel (ext_below V x)))
        repeat (first
          | (go_big_quiet_want; refine quiet_load _ rfl 34 _ rfl rfl (fun w hw => by obtain ⟨x, rfl⟩ := hw; exact Q_m.out x) ?_; go_simp; go_big_quiet_on)
          | (go_big_quiet_want; refine quiet_load _ rfl 23 _ rfl rfl (fun w hw => by obtain ⟨x, rfl⟩ := hw; exact Q_t.out x) ?_; go_simp; go_big_quiet_on)
          | (go_big_quiet_want; refine quiet_val 134 rfl (.agg (mindL k i).toArray) (fun w _ => exec_build rfl (by simp [Act.eval, Act.put]) (build_mind k i HKK.out w)) ?_; go_simp; go_big_quiet_on)
          | (go_big_quiet_want; refine quiet_val 142 rfl (.agg (mindL ZK 0).toArray) (fun w _ => by rw [← HZK.out]; kernel_rfl) ?_; go_simp; go_big_quiet_on)
          | (go_big_quiet_want; refine quiet_eqm (K := ZK) (K' := ZK) (i := 0) (i' := 0) _ rfl rfl rfl rfl HZL.out HZL.out ?_; simp only [decide_true, and_self]; go_simp; go_big_quiet_on)
          | go_big_quiet_step (fail))
        refine wpQuiet_nil ?_
        rintro z
        go_wp2
        go_ret
        exact ⟨rfl, bt' HB.out (ext_below V z) HB.out.size⟩
end Go.Proofs.Ytfmfdhcmbnabpaa
