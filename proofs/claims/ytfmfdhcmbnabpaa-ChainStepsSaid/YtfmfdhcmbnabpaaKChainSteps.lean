/- ChainSteps: the walk. -/
import Derived.Test.YtfmfdhcmbnabpaaChn4
import Derived.Test.YtfmfdhcmbnabpaaChn5
import Derived.Test.YtfmfdhcmbnabpaaArgB
namespace Go.Proofs.Ytfmfdhcmbnabpaa
open Go Go.RowKit
set_option linter.unusedVariables false
set_option linter.unusedSimpArgs false
attribute [local go_sem] bmax2 bmin2 bmax bmin cell_ext frozen_ext

set_option maxHeartbeats 4000000 in
set_option maxRecDepth 100000 in
theorem ChainSteps_walk (w : World) (K : List UInt8) (n at_ : Int) (hK : K.length = 32) (b1 : (Lit.int .u8 n).wf = true) (b2 : (Lit.int .u8 at_).wf = true) :
    Calls Try.prog 8 #[keyV K, .int .u8 n, .int .u8 at_] w fun e w' => e = .returned (.bool true) ∧ Below w.heap.size w w' := by
  unfold keyV
  obtain ⟨hn0, hn1⟩ := wf_u8 b1
  obtain ⟨ha0, ha1⟩ := wf_u8 b2
  clear b1 b2
  obtain ⟨k, hk⟩ : ∃ k : Nat, n % 40 + 2 = (k : Int) := ⟨(n % 40 + 2).toNat, by omega⟩
  have hk2 : 2 ≤ k ∧ k ≤ 41 := by omega
  obtain ⟨hk3, hk4⟩ := hk2
  obtain ⟨i, hi⟩ : ∃ i : Nat, 1 + at_ % ((k : Int) - 1) = (i : Int) := ⟨(1 + at_ % ((k : Int) - 1)).toNat, by have := Int.emod_nonneg at_ (show (k : Int) - 1 ≠ 0 by omega); omega⟩
  have hi2 : 1 ≤ i ∧ i < k := by
    have h1 := Int.emod_nonneg at_ (show (k : Int) - 1 ≠ 0 by omega)
    have h2 := Int.emod_lt_of_pos at_ (show (0 : Int) < (k : Int) - 1 by omega)
    omega
  obtain ⟨hi3, hi4⟩ := hi2
  have c1 := kp (fun w' => Known_good K hK (k : Int) k (by omega) (by omega) rfl w')
  have c2 := kp (fun w' => Key_good K hK (k : Int) (i : Int) (k - i) (by omega) (by omega) (by omega) (by omega) (by omega) w')
  have c3 := kp (fun w' => Key_good K hK (k : Int) (k : Int) 0 (by omega) (by omega) (by omega) (by omega) (by omega) w')
  have hA := chK_length K k
  have hB := chK_length K (k - i)
  have hC := chK_length K 0
  have e1 : walkD (chK K 0) k = chK K k := by rw [chK_walk, Nat.zero_add]
  have e2 : walkD (chK K (k - i)) i = chK K k := by rw [chK_walk, show k - i + i = k by omega]
  have e3 : walkD (chK K 0) (k - i) = chK K (k - i) := by rw [chK_walk, Nat.zero_add]
  generalize chK K k = A at *
  generalize chK K (k - i) = B at *
  generalize chK K 0 = C at *
  have c4 : Kp (∀ w', Calls Try.prog 23 #[.agg (mindL A 0).toArray, .agg (cellsU8 C).toArray, .int .i64 (k : Int), .int .i64 (k : Int)] w' fun e w'' => e = .returned (.tuple #[.agg (mindL C (k : Int)).toArray, .int .i64 0]) ∧ Below w'.heap.size w' w'') := kp (fun w' => by
    have := Learn_near A C 0 (k : Int) (k : Int) k hA hC (by omega) (by omega) (by omega) (by omega) (by omega) w'
    rw [learnV_yes _ _ _ _ e1] at this
    exact this)
  have c5 : Kp (∀ w', Calls Try.prog 23 #[.agg (mindL A 0).toArray, .agg (cellsU8 B).toArray, .int .i64 (i : Int), .int .i64 (k : Int)] w' fun e w'' => e = .returned (.tuple #[.agg (mindL B (i : Int)).toArray, .int .i64 0]) ∧ Below w'.heap.size w' w'') := kp (fun w' => by
    have := Learn_near A B 0 (i : Int) (k : Int) i hA hB (by omega) (by omega) (by omega) (by omega) (by omega) w'
    rw [learnV_yes _ _ _ _ e2] at this
    exact this)
  have c6 : Kp (∀ w', Calls Try.prog 23 #[.agg (mindL B (i : Int)).toArray, .agg (cellsU8 C).toArray, .int .i64 (k : Int), .int .i64 (k : Int)] w' fun e w'' => e = .returned (.tuple #[.agg (mindL C (k : Int)).toArray, .int .i64 0]) ∧ Below w'.heap.size w' w'') := kp (fun w' => by
    have := Learn_near B C (i : Int) (k : Int) (k : Int) (k - i) hB hC (by omega) (by omega) (by omega) (by omega) (by omega) w'
    rw [learnV_yes _ _ _ _ e3] at this
    exact this)
  have c7 : Kp (∀ w', Calls Try.prog 24 #[.agg (mindL C (k : Int)).toArray, .int .i64 (i : Int)] w' fun e w'' => e = .returned (.tuple #[.agg (cellsU8 B).toArray, .int .i64 0]) ∧ Below w'.heap.size w' w'') := kp (fun w' => by
    have := Tell_good C (k : Int) (i : Int) hC (by omega) (by omega) (by omega) (k - i) (by omega) w'
    rw [e3] at this
    exact this)
  have HK := kp hK
  have HA := kp hA
  have HB' := kp hB
  have HC := kp hC
  have HB0 := kp (ba (Below.refl w.heap.size w) (.cells (cellsU8 K).toArray 23))
  have K_s0 := kp (Blk.new w 23 (cellsU8 K).toArray)
  clear hK hA hB hC e1 e2 e3
  have w1' : n % 40 + 2 ≤ 41 := by omega
  have w2' : (1 : Int) ≤ (k : Int) - 1 := by omega
  have w3' : (k : Int) - 1 ≤ 40 := by omega
  have w4' : 1 + at_ % ((k : Int) - 1) ≤ 41 := by omega
  go_enter Try.func8, Try.ntmps8
  go_wp2_with fail
  refine (chain_awake _).mono ?_
  rintro e w1 ⟨rfl, hb⟩
  have HB := kp (bt' HB0.out hb HB0.out.size)
  have K_s := kp (K_s0.out.bel hb)
  clear hb
  have L_s := ldK K HK.out K_s.out
  go_wp2_with (first | (refine wpL_load rfl 23 _ rfl rfl L_s ?_))
  clear L_s
  refine (c1.out _).mono ?_
  rintro e w_1 ⟨rfl, hb_1⟩
  have hlen_1 := key_cells _ HA.out
  have SC_1 := fun (cur : Array Value) (h : cur.size = 32) => sc_new (P := Try.prog) w_1 23 (cellsU8 A) (cellsU8_one _) cur (by rw [hlen_1]; exact h)
  have K_s := kp ((K_s.out.bel hb_1).alloc (.cells (cellsU8 A).toArray 23))
  have K_n := kp (Blk.new w_1 23 (cellsU8 A).toArray)
  have hge_n := kp (bt' HB.out hb_1 HB.out.size).size
  have HB := kp (ba (bt' HB.out hb_1 HB.out.size) (.cells (cellsU8 A).toArray 23))
  clear hb_1
  have L_s := ldK K HK.out K_s.out
  go_wp2_with (first | (refine wpL_load rfl 23 _ rfl rfl L_s ?_))
  clear SC_1 hlen_1
  clear L_s
  generalize w_1.alloc (.cells (cellsU8 A).toArray 23) = W_1 at K_s K_n HB ⊢
  generalize w_1.heap.size = b_n at K_n hge_n ⊢
  refine (c2.out _).mono ?_
  rintro e w_2 ⟨rfl, hb_2⟩
  have hlen_2 := key_cells _ HB'.out
  have SC_2 := fun (cur : Array Value) (h : cur.size = 32) => sc_new (P := Try.prog) w_2 23 (cellsU8 B) (cellsU8_one _) cur (by rw [hlen_2]; exact h)
  have K_s := kp ((K_s.out.bel hb_2).alloc (.cells (cellsU8 B).toArray 23))
  have K_n := kp ((K_n.out.bel hb_2).alloc (.cells (cellsU8 B).toArray 23))
  have K_a := kp (Blk.new w_2 23 (cellsU8 B).toArray)
  have hge_a := kp (bt' HB.out hb_2 HB.out.size).size
  have HB := kp (ba (bt' HB.out hb_2 HB.out.size) (.cells (cellsU8 B).toArray 23))
  clear hb_2
  have L_s := ldK K HK.out K_s.out
  go_wp2_with (first | (refine wpL_load rfl 23 _ rfl rfl L_s ?_))
  clear SC_2 hlen_2
  clear L_s
  generalize w_2.alloc (.cells (cellsU8 B).toArray 23) = W_2 at K_s K_n K_a HB ⊢
  generalize w_2.heap.size = b_a at K_a hge_a ⊢
  refine (c3.out _).mono ?_
  rintro e w_3 ⟨rfl, hb_3⟩
  have hlen_3 := key_cells _ HC.out
  have SC_3 := fun (cur : Array Value) (h : cur.size = 32) => sc_new (P := Try.prog) w_3 23 (cellsU8 C) (cellsU8_one _) cur (by rw [hlen_3]; exact h)
  have K_s := kp ((K_s.out.bel hb_3).alloc (.cells (cellsU8 C).toArray 23))
  have K_n := kp ((K_n.out.bel hb_3).alloc (.cells (cellsU8 C).toArray 23))
  have K_a := kp ((K_a.out.bel hb_3).alloc (.cells (cellsU8 C).toArray 23))
  have K_b := kp (Blk.new w_3 23 (cellsU8 C).toArray)
  have hge_b := kp (bt' HB.out hb_3 HB.out.size).size
  have HB := kp (ba (bt' HB.out hb_3 HB.out.size) (.cells (cellsU8 C).toArray 23))
  clear hb_3
  go_upto_region 10 with (fail)
  clear SC_3 hlen_3
  generalize w_3.alloc (.cells (cellsU8 C).toArray 23) = W_3 at K_s K_n K_a K_b HB ⊢
  generalize w_3.heap.size = b_b at K_b hge_b ⊢
  have B_n := ldK A HA.out K_n.out
  have hlen_4 := mindL_length A 0 HA.out
  have SC_4 := fun (cur : Array Value) (h : cur.size = 33) => sc_new (P := Try.prog) W_3 34 (mindL A 0) (mindL_one _ _) cur (by rw [hlen_4]; exact h)
  have K_s := kp (K_s.out.alloc (.cells (mindL A 0).toArray 34))
  have K_n := kp (K_n.out.alloc (.cells (mindL A 0).toArray 34))
  have K_a := kp (K_a.out.alloc (.cells (mindL A 0).toArray 34))
  have K_b := kp (K_b.out.alloc (.cells (mindL A 0).toArray 34))
  have hge_m := kp HB.out.size
  have K_m := kp (Blk.new W_3 34 (mindL A 0).toArray)
  have HB := kp (ba HB.out (.cells (mindL A 0).toArray 34))
  have L_m := ldM A 0 HA.out K_m.out
  have L_b := ldK C HC.out K_b.out
  go_wp2_with (first | (refine wpL_load rfl 34 _ rfl rfl L_m ?_) | (refine wpL_load rfl 23 _ rfl rfl L_b ?_) | (refine wpL_val 67 rfl rfl (.agg (mindL A 0).toArray) (exec_build rfl (by simp [Act.eval, Act.put]) (build_mind0 A HA.out _)) ?_) | (refine wpL_load rfl 23 _ rfl rfl B_n ?_))
  clear SC_4 hlen_4 B_n
  clear L_m L_b
  generalize W_3.alloc (.cells (mindL A 0).toArray 34) = W_4 at K_s K_n K_a K_b K_m HB ⊢
  generalize W_3.heap.size = b_m at K_m hge_m ⊢
  refine (c4.out _).mono ?_
  rintro e w_5 ⟨rfl, hb_5⟩
  have hlen_5 := mindL_length C (k : Int) HC.out
  have SC_5 := fun (cur : Array Value) (h : cur.size = 33) => sc_new (P := Try.prog) w_5 34 (mindL C (k : Int)) (mindL_one _ _) cur (by rw [hlen_5]; exact h)
  have K_s := kp ((K_s.out.bel hb_5).alloc (.cells (mindL C (k : Int)).toArray 34))
  have K_n := kp ((K_n.out.bel hb_5).alloc (.cells (mindL C (k : Int)).toArray 34))
  have K_a := kp ((K_a.out.bel hb_5).alloc (.cells (mindL C (k : Int)).toArray 34))
  have K_b := kp ((K_b.out.bel hb_5).alloc (.cells (mindL C (k : Int)).toArray 34))
  have K_m := kp ((K_m.out.bel hb_5).alloc (.cells (mindL C (k : Int)).toArray 34))
  have K_x := kp (Blk.new w_5 34 (mindL C (k : Int)).toArray)
  have hge_x := kp (bt' HB.out hb_5 HB.out.size).size
  have HB := kp (ba (bt' HB.out hb_5 HB.out.size) (.cells (mindL C (k : Int)).toArray 34))
  clear hb_5
  have L_m := ldM A 0 HA.out K_m.out
  have L_a := ldK B HB'.out K_a.out
  go_wp2_with (first | (refine wpL_load rfl 34 _ rfl rfl L_m ?_) | (refine wpL_load rfl 23 _ rfl rfl L_a ?_))
  clear SC_5 hlen_5
  clear L_m L_a
  generalize w_5.alloc (.cells (mindL C (k : Int)).toArray 34) = W_5 at K_s K_n K_a K_b K_m K_x HB ⊢
  generalize w_5.heap.size = b_x at K_x hge_x ⊢
  refine (c5.out _).mono ?_
  rintro e w_6 ⟨rfl, hb_6⟩
  have hlen_6 := mindL_length B (i : Int) HB'.out
  have SC_6 := fun (cur : Array Value) (h : cur.size = 33) => sc_new (P := Try.prog) w_6 34 (mindL B (i : Int)) (mindL_one _ _) cur (by rw [hlen_6]; exact h)
  have K_s := kp ((K_s.out.bel hb_6).alloc (.cells (mindL B (i : Int)).toArray 34))
  have K_n := kp ((K_n.out.bel hb_6).alloc (.cells (mindL B (i : Int)).toArray 34))
  have K_a := kp ((K_a.out.bel hb_6).alloc (.cells (mindL B (i : Int)).toArray 34))
  have K_b := kp ((K_b.out.bel hb_6).alloc (.cells (mindL B (i : Int)).toArray 34))
  have K_m := kp ((K_m.out.bel hb_6).alloc (.cells (mindL B (i : Int)).toArray 34))
  have K_x := kp ((K_x.out.bel hb_6).alloc (.cells (mindL B (i : Int)).toArray 34))
  have K_y := kp (Blk.new w_6 34 (mindL B (i : Int)).toArray)
  have hge_y := kp (bt' HB.out hb_6 HB.out.size).size
  have HB := kp (ba (bt' HB.out hb_6 HB.out.size) (.cells (mindL B (i : Int)).toArray 34))
  clear hb_6
  have L_y := ldM B (i : Int) HB'.out K_y.out
  have L_b := ldK C HC.out K_b.out
  go_wp2_with (first | (refine wpL_load rfl 34 _ rfl rfl L_y ?_) | (refine wpL_load rfl 23 _ rfl rfl L_b ?_))
  clear SC_6 hlen_6
  clear L_y L_b
  generalize w_6.alloc (.cells (mindL B (i : Int)).toArray 34) = W_6 at K_s K_n K_a K_b K_m K_x K_y HB ⊢
  generalize w_6.heap.size = b_y at K_y hge_y ⊢
  refine (c6.out _).mono ?_
  rintro e w_7 ⟨rfl, hb_7⟩
  have hlen_7 := mindL_length C (k : Int) HC.out
  have SC_7 := fun (cur : Array Value) (h : cur.size = 33) => sc_new (P := Try.prog) w_7 34 (mindL C (k : Int)) (mindL_one _ _) cur (by rw [hlen_7]; exact h)
  have K_s := kp ((K_s.out.bel hb_7).alloc (.cells (mindL C (k : Int)).toArray 34))
  have K_n := kp ((K_n.out.bel hb_7).alloc (.cells (mindL C (k : Int)).toArray 34))
  have K_a := kp ((K_a.out.bel hb_7).alloc (.cells (mindL C (k : Int)).toArray 34))
  have K_b := kp ((K_b.out.bel hb_7).alloc (.cells (mindL C (k : Int)).toArray 34))
  have K_m := kp ((K_m.out.bel hb_7).alloc (.cells (mindL C (k : Int)).toArray 34))
  have K_x := kp ((K_x.out.bel hb_7).alloc (.cells (mindL C (k : Int)).toArray 34))
  have K_y := kp ((K_y.out.bel hb_7).alloc (.cells (mindL C (k : Int)).toArray 34))
  have K_z := kp (Blk.new w_7 34 (mindL C (k : Int)).toArray)
  have hge_z := kp (bt' HB.out hb_7 HB.out.size).size
  have HB := kp (ba (bt' HB.out hb_7 HB.out.size) (.cells (mindL C (k : Int)).toArray 34))
  clear hb_7
  have L_x := ldM C (k : Int) HC.out K_x.out
  go_wp2_with (first | (refine wpL_load rfl 34 _ rfl rfl L_x ?_))
  clear SC_7 hlen_7
  clear L_x
  generalize w_7.alloc (.cells (mindL C (k : Int)).toArray 34) = W_7 at K_s K_n K_a K_b K_m K_x K_y K_z HB ⊢
  generalize w_7.heap.size = b_z at K_z hge_z ⊢
  refine (c7.out _).mono ?_
  rintro e w_8 ⟨rfl, hb_8⟩
  have hlen_8 := key_cells _ HB'.out
  have SC_8 := fun (cur : Array Value) (h : cur.size = 32) => sc_new (P := Try.prog) w_8 23 (cellsU8 B) (cellsU8_one _) cur (by rw [hlen_8]; exact h)
  have K_s := kp ((K_s.out.bel hb_8).alloc (.cells (cellsU8 B).toArray 23))
  have K_n := kp ((K_n.out.bel hb_8).alloc (.cells (cellsU8 B).toArray 23))
  have K_a := kp ((K_a.out.bel hb_8).alloc (.cells (cellsU8 B).toArray 23))
  have K_b := kp ((K_b.out.bel hb_8).alloc (.cells (cellsU8 B).toArray 23))
  have K_m := kp ((K_m.out.bel hb_8).alloc (.cells (cellsU8 B).toArray 23))
  have K_x := kp ((K_x.out.bel hb_8).alloc (.cells (cellsU8 B).toArray 23))
  have K_y := kp ((K_y.out.bel hb_8).alloc (.cells (cellsU8 B).toArray 23))
  have K_z := kp ((K_z.out.bel hb_8).alloc (.cells (cellsU8 B).toArray 23))
  have K_p := kp (Blk.new w_8 23 (cellsU8 B).toArray)
  have hge_p := kp (bt' HB.out hb_8 HB.out.size).size
  have HB := kp (ba (bt' HB.out hb_8 HB.out.size) (.cells (cellsU8 B).toArray 23))
  clear hb_8
  go_upto_region 15 with (fail)
  clear SC_8 hlen_8
  generalize w_8.alloc (.cells (cellsU8 B).toArray 23) = W_8 at K_s K_n K_a K_b K_m K_x K_y K_z K_p HB ⊢
  generalize w_8.heap.size = b_p at K_p hge_p ⊢
  refine wp_region_extP 30 ?_
  simp only [List.append_eq, List.cons_append, List.nil_append, List.take_succ_cons, List.take_zero, List.drop_succ_cons, List.drop_zero]
  have Q_x := kp (fun x => ldM C (k : Int) HC.out (K_x.out.bel (ext_below W_8 x)))
  have Q_z := kp (fun x => ldM C (k : Int) HC.out (K_z.out.bel (ext_below W_8 x)))
  have Q_p := kp (fun x => ldK B HB'.out (K_p.out.bel (ext_below W_8 x)))
  have Q_a := kp (fun x => ldK B HB'.out (K_a.out.bel (ext_below W_8 x)))
  have Q_m := kp (fun x => ldM A 0 HA.out (K_m.out.bel (ext_below W_8 x)))
  have Q_n := kp (fun x => ldK A HA.out (K_n.out.bel (ext_below W_8 x)))
  repeat (first
    | (go_big_quiet_want; refine quiet_load _ rfl 34 _ rfl rfl (fun w hw => by obtain ⟨x, rfl⟩ := hw; exact Q_x.out x) ?_; go_simp; go_big_quiet_on)
    | (go_big_quiet_want; refine quiet_load _ rfl 34 _ rfl rfl (fun w hw => by obtain ⟨x, rfl⟩ := hw; exact Q_z.out x) ?_; go_simp; go_big_quiet_on)
    | (go_big_quiet_want; refine quiet_load _ rfl 23 _ rfl rfl (fun w hw => by obtain ⟨x, rfl⟩ := hw; exact Q_p.out x) ?_; go_simp; go_big_quiet_on)
    | (go_big_quiet_want; refine quiet_load _ rfl 23 _ rfl rfl (fun w hw => by obtain ⟨x, rfl⟩ := hw; exact Q_a.out x) ?_; go_simp; go_big_quiet_on)
    | (go_big_quiet_want; refine quiet_load _ rfl 34 _ rfl rfl (fun w hw => by obtain ⟨x, rfl⟩ := hw; exact Q_m.out x) ?_; go_simp; go_big_quiet_on)
    | (go_big_quiet_want; refine quiet_load _ rfl 23 _ rfl rfl (fun w hw => by obtain ⟨x, rfl⟩ := hw; exact Q_n.out x) ?_; go_simp; go_big_quiet_on)
    | (go_big_quiet_want; refine quiet_val 125 rfl (.agg (mindL A 0).toArray) (fun w _ => exec_build rfl (by simp [Act.eval, Act.put]) (build_mind0 A HA.out w)) ?_; go_simp; go_big_quiet_on)
    | (go_big_quiet_want; refine quiet_eqm (K := C) (K' := C) (i := (k : Int)) (i' := (k : Int)) _ rfl rfl rfl rfl HC.out HC.out ?_; simp only [decide_true, and_self]; go_simp; go_big_quiet_on)
    | (go_big_quiet_want; refine quiet_eqm (K := A) (K' := A) (i := 0) (i' := 0) _ rfl rfl rfl rfl HA.out HA.out ?_; simp only [decide_true, and_self]; go_simp; go_big_quiet_on)
    | (go_big_quiet_want; refine quiet_eqk (D := B) (E := B) _ rfl rfl rfl rfl HB'.out HB'.out ?_; simp only [decide_true]; go_simp; go_big_quiet_on)
    | go_big_quiet_step (fail))
  refine wpQuiet_nil ?_
  rintro z
  go_wp2
  go_ret
  exact ⟨rfl, bt' HB.out (ext_below W_8 z) HB.out.size⟩
end Go.Proofs.Ytfmfdhcmbnabpaa
