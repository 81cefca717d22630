/- pebble: what the document fixes. -/
import Derived.Test.YtfmfdhcmbnabpaaPeb5
import Derived.Test.YtfmfdhcmbnabpaaChn4

namespace Go.Proofs.Ytfmfdhcmbnabpaa
open Go Go.RowKit
set_option linter.unusedVariables false
set_option linter.unusedSimpArgs false
attribute [local go_sem] bmax2 bmin2 bmax bmin cell_ext frozen_ext

set_option maxHeartbeats 4000000 in
set_option maxRecDepth 100000 in
theorem pebble_awake (w : World) : Calls Try.prog 28 #[] w fun e w' => e = .returned (.bool true) ∧ Below w.heap.size w w' := by
  have HO := kp oneK_length
  obtain ⟨S, hS⟩ : ∃ S, oneK = S := ⟨_, rfl⟩
  rw [hS] at HO
  have HSS := kp hS
  clear hS
  have c1 : Kp (∀ w', w.heap.size ≤ w'.heap.size → Calls Try.prog 29 #[.agg (cellsU8 S).toArray, .int .i64 2] w' fun e w'' => ∃ b, e = .returned (.tuple #[.pointer (some ⟨b, 0, none⟩), .int .i64 0]) ∧ WS w.heap.size w'' b (chK S) 2 0 ∧ Below w'.heap.size w' w'') := kp (fun w' h => S_New S HO.out 2 (by decide) (by decide) w' h)
  have c2 := kp (fun w' => PNew_bad S 0 (Or.inl (by decide)) w')
  have k1 : Kp (∀ w', Calls Try.prog 17 #[.agg (cellsU8 S).toArray, .int .i64 2, .int .i64 0] w' fun e w'' => e = .returned (.tuple #[.agg (cellsU8 (chK S 2)).toArray, .int .i64 0]) ∧ Below w'.heap.size w' w'') := kp (fun w' => R_Key_good S HO.out 2 0 2 (by decide) (by decide) (by decide) (by decide) (by decide) w')
  have k2 : Kp (∀ w', Calls Try.prog 17 #[.agg (cellsU8 S).toArray, .int .i64 2, .int .i64 1] w' fun e w'' => e = .returned (.tuple #[.agg (cellsU8 (chK S 1)).toArray, .int .i64 0]) ∧ Below w'.heap.size w' w'') := kp (fun w' => R_Key_good S HO.out 2 1 1 (by decide) (by decide) (by decide) (by decide) (by decide) w')
  have k3 : Kp (∀ w', Calls Try.prog 17 #[.agg (cellsU8 S).toArray, .int .i64 2, .int .i64 2] w' fun e w'' => e = .returned (.tuple #[.agg (cellsU8 (chK S 0)).toArray, .int .i64 0]) ∧ Below w'.heap.size w' w'') := kp (fun w' => R_Key_good S HO.out 2 2 0 (by decide) (by decide) (by decide) (by decide) (by decide) w')
  have n1 : Kp (∀ b w', w.heap.size ≤ w'.heap.size → WS w.heap.size w' b (chK S) 2 0 → Calls Try.prog 34 #[.pointer (some ⟨b, 0, none⟩)] w' fun e w'' => e = .returned (.tuple #[.agg (cellsU8 (chK S 2)).toArray, .int .i64 0]) ∧ WS w.heap.size w'' b (chK S) 2 1 ∧ Mv w.heap.size w' w'') := kp (fun b w' hB h => S_Next h (by decide) (by decide) (by decide) hB)
  have n2 : Kp (∀ b w', w.heap.size ≤ w'.heap.size → WS w.heap.size w' b (chK S) 2 1 → Calls Try.prog 34 #[.pointer (some ⟨b, 0, none⟩)] w' fun e w'' => e = .returned (.tuple #[.agg (cellsU8 (chK S 1)).toArray, .int .i64 0]) ∧ WS w.heap.size w'' b (chK S) 2 2 ∧ Mv w.heap.size w' w'') := kp (fun b w' hB h => S_Next h (by decide) (by decide) (by decide) hB)
  have n3 : Kp (∀ b w', w.heap.size ≤ w'.heap.size → WS w.heap.size w' b (chK S) 2 2 → Calls Try.prog 34 #[.pointer (some ⟨b, 0, none⟩)] w' fun e w'' => e = .returned (.tuple #[.agg (cellsU8 (chK S 0)).toArray, .int .i64 0]) ∧ WS w.heap.size w'' b (chK S) 2 3 ∧ Mv w.heap.size w' w'') := kp (fun b w' hB h => S_Next h (by decide) (by decide) (by decide) hB)
  have h0 := chK_length S 0
  have h1 := chK_length S 1
  have h2 := chK_length S 2
  generalize chK S = F at *
  have q1 : Kp (∀ b w', WS w.heap.size w' b F 2 0 → Calls Try.prog 31 #[.pointer (some ⟨b, 0, none⟩)] w' fun e w'' => e = .returned (.int .i64 3) ∧ Below w'.heap.size w' w'') := kp (fun b w' h => S_Left h (by decide))
  have q2 : Kp (∀ b w', WS w.heap.size w' b F 2 3 → Calls Try.prog 30 #[.pointer (some ⟨b, 0, none⟩)] w' fun e w'' => e = .returned (.int .i64 3) ∧ w' = w'') := kp (fun b w' h => S_At h)
  have q3 : Kp (∀ b w', WS w.heap.size w' b F 2 3 → Calls Try.prog 32 #[.pointer (some ⟨b, 0, none⟩)] w' fun e w'' => e = .returned (.int .i64 0) ∧ w' = w'') := kp (fun b w' h => by
    obtain ⟨m, _, hm, hc⟩ := S_Minds h (by decide)
    have := hc w' (Below.refl _ _)
    rw [hm (by decide)] at this
    exact this)
  have q4 : Kp (∀ b w', WS w.heap.size w' b F 2 3 → Calls Try.prog 36 #[.pointer (some ⟨b, 0, none⟩), .int .i64 2] w' fun e w'' => e = .returned (.int .i64 1) ∧ w' = w'') := kp (fun b w' h => S_Skip_bad h (Or.inl (by decide)))
  generalize F 0 = A0 at *
  generalize F 1 = A1 at *
  generalize F 2 = A2 at *
  have H0 := kp h0
  have H1 := kp h1
  have H2 := kp h2
  clear h0 h1 h2
  have HZ := kp zeroK_length
  obtain ⟨ZK, hZK⟩ : ∃ ZK, zeroK = ZK := ⟨_, rfl⟩
  have n4 : Kp (∀ b w', w.heap.size ≤ w'.heap.size → WS w.heap.size w' b F 2 3 → Calls Try.prog 34 #[.pointer (some ⟨b, 0, none⟩)] w' fun e w'' => e = .returned (.tuple #[.agg (cellsU8 ZK).toArray, .int .i64 10]) ∧ WS w.heap.size w'' b F 2 3 ∧ Below w'.heap.size w' w'') := kp (fun b w' hB h => by rw [← hZK]; exact S_none h (by decide) hB)
  rw [hZK] at HZ
  clear hZK
  have HB := kp (Below.refl w.heap.size w)
  go_enter Try.func28, Try.ntmps28
  go_wp2_with (refine wpL_val 21 rfl rfl (.agg (cellsU8 S).toArray) (by rw [← HSS.out]; kernel_rfl) ?_)
  refine (c1.out _ HB.out.size).mono ?_
  rintro e w_1 ⟨b_a, rfl, hs_1, hb_1⟩
  have HB := kp (bt' HB.out hb_1 HB.out.size)
  have S_a := kp hs_1
  clear hs_1 hb_1
  go_wp2_with (refine wpL_val 26 rfl rfl (.agg (cellsU8 S).toArray) (by rw [← HSS.out]; kernel_rfl) ?_)
  refine (c2.out _).mono ?_
  rintro e w_2 ⟨rfl, hb_2⟩
  have S_a := kp (S_a.out.bel hb_2)
  have HB := kp (bt' HB.out hb_2 HB.out.size)
  clear hb_2
  go_wp2_with fail
  refine (q1.out _ _ S_a.out).mono ?_
  rintro e w_3 ⟨rfl, hb_3⟩
  have S_a := kp (S_a.out.bel hb_3)
  have HB := kp (bt' HB.out hb_3 HB.out.size)
  clear hb_3
  go_wp2_with fail
  refine (n1.out _ _ HB.out.size S_a.out).mono ?_
  rintro e w_4 ⟨rfl, hs_4, hm_4⟩
  have HB := kp (HB.out.trans hm_4.below)
  have S_a := kp hs_4
  clear hs_4 hm_4
  have hlen_5 := key_cells _ H2.out
  have SC_5 := fun (cur : Array Value) (h : cur.size = 32) => sc_new (P := Try.prog) w_4 23 (cellsU8 A2) (cellsU8_one _) cur (by rw [hlen_5]; exact h)
  have hge_x := kp HB.out.size
  have S_a := kp (S_a.out.bel (ba (Below.refl _ _) (.cells (cellsU8 A2).toArray 23)))
  have HB := kp (ba HB.out (.cells (cellsU8 A2).toArray 23))
  have K_x := kp (Blk.new w_4 23 (cellsU8 A2).toArray)
  go_wp2_with fail
  clear SC_5 hlen_5
  generalize w_4.alloc (.cells (cellsU8 A2).toArray 23) = W_5 at K_x S_a HB ⊢
  generalize w_4.heap.size = b_x at K_x hge_x ⊢
  refine (n2.out _ _ HB.out.size S_a.out).mono ?_
  rintro e w_6 ⟨rfl, hs_6, hm_6⟩
  have K_x := kp (hm_6.keep (by decide) (by decide) K_x.out)
  have HB := kp (HB.out.trans hm_6.below)
  have S_a := kp hs_6
  clear hs_6 hm_6
  have hlen_7 := key_cells _ H1.out
  have SC_7 := fun (cur : Array Value) (h : cur.size = 32) => sc_new (P := Try.prog) w_6 23 (cellsU8 A1) (cellsU8_one _) cur (by rw [hlen_7]; exact h)
  have hge_y := kp HB.out.size
  have K_x := kp (K_x.out.alloc (.cells (cellsU8 A1).toArray 23))
  have S_a := kp (S_a.out.bel (ba (Below.refl _ _) (.cells (cellsU8 A1).toArray 23)))
  have HB := kp (ba HB.out (.cells (cellsU8 A1).toArray 23))
  have K_y := kp (Blk.new w_6 23 (cellsU8 A1).toArray)
  go_wp2_with fail
  clear SC_7 hlen_7
  generalize w_6.alloc (.cells (cellsU8 A1).toArray 23) = W_7 at K_x K_y S_a HB ⊢
  generalize w_6.heap.size = b_y at K_y hge_y ⊢
  refine (n3.out _ _ HB.out.size S_a.out).mono ?_
  rintro e w_8 ⟨rfl, hs_8, hm_8⟩
  have K_x := kp (hm_8.keep (by decide) (by decide) K_x.out)
  have K_y := kp (hm_8.keep (by decide) (by decide) K_y.out)
  have HB := kp (HB.out.trans hm_8.below)
  have S_a := kp hs_8
  clear hs_8 hm_8
  have hlen_9 := key_cells _ H0.out
  have SC_9 := fun (cur : Array Value) (h : cur.size = 32) => sc_new (P := Try.prog) w_8 23 (cellsU8 A0) (cellsU8_one _) cur (by rw [hlen_9]; exact h)
  have hge_z := kp HB.out.size
  have K_x := kp (K_x.out.alloc (.cells (cellsU8 A0).toArray 23))
  have K_y := kp (K_y.out.alloc (.cells (cellsU8 A0).toArray 23))
  have S_a := kp (S_a.out.bel (ba (Below.refl _ _) (.cells (cellsU8 A0).toArray 23)))
  have HB := kp (ba HB.out (.cells (cellsU8 A0).toArray 23))
  have K_z := kp (Blk.new w_8 23 (cellsU8 A0).toArray)
  go_wp2_with fail
  clear SC_9 hlen_9
  generalize w_8.alloc (.cells (cellsU8 A0).toArray 23) = W_9 at K_x K_y K_z S_a HB ⊢
  generalize w_8.heap.size = b_z at K_z hge_z ⊢
  refine (n4.out _ _ HB.out.size S_a.out).mono ?_
  rintro e w_10 ⟨rfl, hs_10, hb_10⟩
  clear hs_10
  have K_x := kp (K_x.out.bel hb_10)
  have K_y := kp (K_y.out.bel hb_10)
  have K_z := kp (K_z.out.bel hb_10)
  have S_a := kp (S_a.out.bel hb_10)
  have HB := kp (bt' HB.out hb_10 HB.out.size)
  clear hb_10
  have hlen_11 := key_cells _ HZ.out
  have SC_11 := fun (cur : Array Value) (h : cur.size = 32) => sc_new (P := Try.prog) w_10 23 (cellsU8 ZK) (cellsU8_one _) cur (by rw [hlen_11]; exact h)
  have hge_n := kp HB.out.size
  have K_x := kp (K_x.out.alloc (.cells (cellsU8 ZK).toArray 23))
  have K_y := kp (K_y.out.alloc (.cells (cellsU8 ZK).toArray 23))
  have K_z := kp (K_z.out.alloc (.cells (cellsU8 ZK).toArray 23))
  have S_a := kp (S_a.out.bel (ba (Below.refl _ _) (.cells (cellsU8 ZK).toArray 23)))
  have HB := kp (ba HB.out (.cells (cellsU8 ZK).toArray 23))
  have K_n := kp (Blk.new w_10 23 (cellsU8 ZK).toArray)
  go_wp2_with (refine wpL_val 55 rfl rfl (.agg (cellsU8 S).toArray) (by rw [← HSS.out]; kernel_rfl) ?_)
  clear SC_11 hlen_11
  generalize w_10.alloc (.cells (cellsU8 ZK).toArray 23) = W_11 at K_x K_y K_z K_n S_a HB ⊢
  generalize w_10.heap.size = b_n at K_n hge_n ⊢
  refine (k1.out _).mono ?_
  rintro e w_12 ⟨rfl, hb_12⟩
  have K_x := kp (K_x.out.bel hb_12)
  have K_y := kp (K_y.out.bel hb_12)
  have K_z := kp (K_z.out.bel hb_12)
  have K_n := kp (K_n.out.bel hb_12)
  have S_a := kp (S_a.out.bel hb_12)
  have HB := kp (bt' HB.out hb_12 HB.out.size)
  clear hb_12
  have hlen_13 := key_cells _ H2.out
  have SC_13 := fun (cur : Array Value) (h : cur.size = 32) => sc_new (P := Try.prog) w_12 23 (cellsU8 A2) (cellsU8_one _) cur (by rw [hlen_13]; exact h)
  have hge_p := kp HB.out.size
  have K_x := kp (K_x.out.alloc (.cells (cellsU8 A2).toArray 23))
  have K_y := kp (K_y.out.alloc (.cells (cellsU8 A2).toArray 23))
  have K_z := kp (K_z.out.alloc (.cells (cellsU8 A2).toArray 23))
  have K_n := kp (K_n.out.alloc (.cells (cellsU8 A2).toArray 23))
  have S_a := kp (S_a.out.bel (ba (Below.refl _ _) (.cells (cellsU8 A2).toArray 23)))
  have HB := kp (ba HB.out (.cells (cellsU8 A2).toArray 23))
  have K_p := kp (Blk.new w_12 23 (cellsU8 A2).toArray)
  go_wp2_with (refine wpL_val 60 rfl rfl (.agg (cellsU8 S).toArray) (by rw [← HSS.out]; kernel_rfl) ?_)
  clear SC_13 hlen_13
  generalize w_12.alloc (.cells (cellsU8 A2).toArray 23) = W_13 at K_x K_y K_z K_n K_p S_a HB ⊢
  generalize w_12.heap.size = b_p at K_p hge_p ⊢
  refine (k2.out _).mono ?_
  rintro e w_14 ⟨rfl, hb_14⟩
  have K_x := kp (K_x.out.bel hb_14)
  have K_y := kp (K_y.out.bel hb_14)
  have K_z := kp (K_z.out.bel hb_14)
  have K_n := kp (K_n.out.bel hb_14)
  have K_p := kp (K_p.out.bel hb_14)
  have S_a := kp (S_a.out.bel hb_14)
  have HB := kp (bt' HB.out hb_14 HB.out.size)
  clear hb_14
  have hlen_15 := key_cells _ H1.out
  have SC_15 := fun (cur : Array Value) (h : cur.size = 32) => sc_new (P := Try.prog) w_14 23 (cellsU8 A1) (cellsU8_one _) cur (by rw [hlen_15]; exact h)
  have hge_q := kp HB.out.size
  have K_x := kp (K_x.out.alloc (.cells (cellsU8 A1).toArray 23))
  have K_y := kp (K_y.out.alloc (.cells (cellsU8 A1).toArray 23))
  have K_z := kp (K_z.out.alloc (.cells (cellsU8 A1).toArray 23))
  have K_n := kp (K_n.out.alloc (.cells (cellsU8 A1).toArray 23))
  have K_p := kp (K_p.out.alloc (.cells (cellsU8 A1).toArray 23))
  have S_a := kp (S_a.out.bel (ba (Below.refl _ _) (.cells (cellsU8 A1).toArray 23)))
  have HB := kp (ba HB.out (.cells (cellsU8 A1).toArray 23))
  have K_q := kp (Blk.new w_14 23 (cellsU8 A1).toArray)
  go_wp2_with (refine wpL_val 65 rfl rfl (.agg (cellsU8 S).toArray) (by rw [← HSS.out]; kernel_rfl) ?_)
  clear SC_15 hlen_15
  generalize w_14.alloc (.cells (cellsU8 A1).toArray 23) = W_15 at K_x K_y K_z K_n K_p K_q S_a HB ⊢
  generalize w_14.heap.size = b_q at K_q hge_q ⊢
  refine (k3.out _).mono ?_
  rintro e w_16 ⟨rfl, hb_16⟩
  have K_x := kp (K_x.out.bel hb_16)
  have K_y := kp (K_y.out.bel hb_16)
  have K_z := kp (K_z.out.bel hb_16)
  have K_n := kp (K_n.out.bel hb_16)
  have K_p := kp (K_p.out.bel hb_16)
  have K_q := kp (K_q.out.bel hb_16)
  have S_a := kp (S_a.out.bel hb_16)
  have HB := kp (bt' HB.out hb_16 HB.out.size)
  clear hb_16
  have hlen_17 := key_cells _ H0.out
  have SC_17 := fun (cur : Array Value) (h : cur.size = 32) => sc_new (P := Try.prog) w_16 23 (cellsU8 A0) (cellsU8_one _) cur (by rw [hlen_17]; exact h)
  have hge_r := kp HB.out.size
  have K_x := kp (K_x.out.alloc (.cells (cellsU8 A0).toArray 23))
  have K_y := kp (K_y.out.alloc (.cells (cellsU8 A0).toArray 23))
  have K_z := kp (K_z.out.alloc (.cells (cellsU8 A0).toArray 23))
  have K_n := kp (K_n.out.alloc (.cells (cellsU8 A0).toArray 23))
  have K_p := kp (K_p.out.alloc (.cells (cellsU8 A0).toArray 23))
  have K_q := kp (K_q.out.alloc (.cells (cellsU8 A0).toArray 23))
  have S_a := kp (S_a.out.bel (ba (Below.refl _ _) (.cells (cellsU8 A0).toArray 23)))
  have HB := kp (ba HB.out (.cells (cellsU8 A0).toArray 23))
  have K_r := kp (Blk.new w_16 23 (cellsU8 A0).toArray)
  go_upto_region 13 with (fail)
  clear SC_17 hlen_17
  generalize w_16.alloc (.cells (cellsU8 A0).toArray 23) = W_17 at K_x K_y K_z K_n K_p K_q K_r S_a HB ⊢
  generalize w_16.heap.size = b_r at K_r hge_r ⊢
  refine wp_region_extP 56 ?_
  simp only [List.append_eq, List.cons_append, List.nil_append, List.take_succ_cons, List.take_zero, List.drop_succ_cons, List.drop_zero]
  have Q_x := kp (fun x => ldK A2 H2.out (K_x.out.bel (ext_below W_17 x)))
  have Q_y := kp (fun x => ldK A1 H1.out (K_y.out.bel (ext_below W_17 x)))
  have Q_z := kp (fun x => ldK A0 H0.out (K_z.out.bel (ext_below W_17 x)))
  have Q_p := kp (fun x => ldK A2 H2.out (K_p.out.bel (ext_below W_17 x)))
  have Q_q := kp (fun x => ldK A1 H1.out (K_q.out.bel (ext_below W_17 x)))
  have Q_r := kp (fun x => ldK A0 H0.out (K_r.out.bel (ext_below W_17 x)))
  have HX := kp (fun x => S_a.out.bel (ext_below W_17 x))
  repeat (first
    | (go_big_quiet_want; refine quiet_load _ rfl 23 _ rfl rfl (fun w hw => by obtain ⟨x, rfl⟩ := hw; exact Q_x.out x) ?_; go_simp; go_big_quiet_on)
    | (go_big_quiet_want; refine quiet_load _ rfl 23 _ rfl rfl (fun w hw => by obtain ⟨x, rfl⟩ := hw; exact Q_y.out x) ?_; go_simp; go_big_quiet_on)
    | (go_big_quiet_want; refine quiet_load _ rfl 23 _ rfl rfl (fun w hw => by obtain ⟨x, rfl⟩ := hw; exact Q_z.out x) ?_; go_simp; go_big_quiet_on)
    | (go_big_quiet_want; refine quiet_load _ rfl 23 _ rfl rfl (fun w hw => by obtain ⟨x, rfl⟩ := hw; exact Q_p.out x) ?_; go_simp; go_big_quiet_on)
    | (go_big_quiet_want; refine quiet_load _ rfl 23 _ rfl rfl (fun w hw => by obtain ⟨x, rfl⟩ := hw; exact Q_q.out x) ?_; go_simp; go_big_quiet_on)
    | (go_big_quiet_want; refine quiet_load _ rfl 23 _ rfl rfl (fun w hw => by obtain ⟨x, rfl⟩ := hw; exact Q_r.out x) ?_; go_simp; go_big_quiet_on)
    | (go_big_quiet_want; refine quiet_eqk (D := A0) (E := A0) _ rfl rfl rfl rfl H0.out H0.out ?_; simp only [decide_true, Bool.not_true]; go_simp; go_big_quiet_on)
    | (go_big_quiet_want; refine quiet_eqk (D := A1) (E := A1) _ rfl rfl rfl rfl H1.out H1.out ?_; simp only [decide_true, Bool.not_true]; go_simp; go_big_quiet_on)
    | (go_big_quiet_want; refine quiet_eqk (D := A2) (E := A2) _ rfl rfl rfl rfl H2.out H2.out ?_; simp only [decide_true, Bool.not_true]; go_simp; go_big_quiet_on)
    | go_big_quiet_step (first | (go_at_call 30; with_reducible exact Calls.ext_same (q2.out _ _ (HX.out _))) | (go_at_call 32; with_reducible exact Calls.ext_same (q3.out _ _ (HX.out _))) | (go_at_call 36; with_reducible exact Calls.ext_same (q4.out _ _ (HX.out _)))))
  refine wpQuiet_nil ?_
  rintro z
  go_wp2
  go_ret
  exact ⟨rfl, bt' HB.out (ext_below W_17 z) HB.out.size⟩
end Go.Proofs.Ytfmfdhcmbnabpaa
