/- PebbleEnds: the walk. -/
import Derived.Test.YtfmfdhcmbnabpaaPeb6
import Derived.Test.YtfmfdhcmbnabpaaArgK
import Derived.Test.YtfmfdhcmbnabpaaArgB
import Derived.Test.YtfmfdhcmbnabpaaChn5

namespace Go.Proofs.Ytfmfdhcmbnabpaa
open Go Go.RowKit
set_option linter.unusedVariables false
set_option linter.unusedSimpArgs false
attribute [local go_sem] bmax2 bmin2 bmax bmin cell_ext frozen_ext

set_option maxHeartbeats 4000000 in
set_option maxRecDepth 100000 in
theorem PebbleEnds_walk (w : World) (K : List UInt8) (n : Int) (hK : K.length = 32) (b1 : (Lit.int .u16 n).wf = true) :
    Calls Try.prog 14 #[keyV K, .int .u16 n] w fun e w' => e = .returned (.bool true) ∧ Below w.heap.size w w' := by
  unfold keyV
  obtain ⟨hn0, hn1⟩ := wf_u16 b1
  clear b1
  obtain ⟨k, hk⟩ : ∃ k : Nat, n % 1024 + 1 = (k : Int) := ⟨(n % 1024 + 1).toNat, by omega⟩
  have hk1 : 1 ≤ k := by omega
  have hk2 : k ≤ 1024 := by omega
  have hkI : (k : Int) ≤ 1024 := by omega
  have w1' : n % 1024 + 1 ≤ 1024 := by omega
  have hk3 : k ≤ 1024 := by omega
  have HKL := kp hK
  have c1 : Kp (∀ w', w.heap.size ≤ w'.heap.size → Calls Try.prog 29 #[.agg (cellsU8 K).toArray, .int .i64 (k : Int)] w' fun e w'' => ∃ b, e = .returned (.tuple #[.pointer (some ⟨b, 0, none⟩), .int .i64 0]) ∧ WS w.heap.size w'' b (chK K) k 0 ∧ Below w'.heap.size w' w'') := kp (fun w' h => S_New K hK k hk1 hk3 w' h)
  have c2 : Kp (∀ b w', w.heap.size ≤ w'.heap.size → WS w.heap.size w' b (chK K) k 0 → Calls Try.prog 36 #[.pointer (some ⟨b, 0, none⟩), .int .i64 (k : Int)] w' fun e w'' => e = .returned (.int .i64 0) ∧ WS w.heap.size w'' b (chK K) k k ∧ Mv w.heap.size w' w'') := kp (fun b w' hB h => S_Skip (chK_length K) h hk1 hk3 (Nat.zero_le _) (Nat.le_refl _) hB)
  have c4 : Kp (∀ b w', w.heap.size ≤ w'.heap.size → WS w.heap.size w' b (chK K) k k → Calls Try.prog 34 #[.pointer (some ⟨b, 0, none⟩)] w' fun e w'' => e = .returned (.tuple #[.agg (cellsU8 (chK K 0)).toArray, .int .i64 0]) ∧ WS w.heap.size w'' b (chK K) k (k + 1) ∧ Mv w.heap.size w' w'') := kp (fun b w' hB h => by
    have := S_Next h hk1 hk3 (Nat.le_refl _) hB
    rw [Nat.sub_self] at this
    exact this)
  have k1 : Kp (∀ w', Calls Try.prog 17 #[.agg (cellsU8 K).toArray, .int .i64 1, .int .i64 1] w' fun e w'' => e = .returned (.tuple #[.agg (cellsU8 (chK K 0)).toArray, .int .i64 0]) ∧ Below w'.heap.size w' w'') := kp (fun w' => R_Key_good K hK 1 1 0 (by decide) (by decide) (by decide) (by decide) (by decide) w')
  have h0 := chK_length K 0
  generalize chK K = F at *
  have c3 : Kp (∀ b w', WS w.heap.size w' b F k k → Calls Try.prog 31 #[.pointer (some ⟨b, 0, none⟩)] w' fun e w'' => e = .returned (.int .i64 1) ∧ Below w'.heap.size w' w'') := kp (fun b w' h => by have := S_Left h hk3; rw [show ((k : Int) + 1 - (k : Int)) = 1 by omega] at this; exact this)
  have q1 : Kp (∀ b w', WS w.heap.size w' b F k (k + 1) → Calls Try.prog 31 #[.pointer (some ⟨b, 0, none⟩)] w' fun e w'' => e = .returned (.int .i64 0) ∧ Below w'.heap.size w' w'') := kp (fun b w' h => by have := S_Left h hk3; rw [show ((k : Int) + 1 - ((k + 1 : Nat) : Int)) = 0 by omega] at this; exact this)
  have q2 : Kp (∀ b w', WS w.heap.size w' b F k (k + 1) → Calls Try.prog 30 #[.pointer (some ⟨b, 0, none⟩)] w' fun e w'' => e = .returned (.int .i64 ((k : Int) + 1)) ∧ w' = w'') := kp (fun b w' h => by have := S_At h; rw [Int.natCast_succ] at this; exact this)
  have q3 : Kp (∀ b w', WS w.heap.size w' b F k (k + 1) → Calls Try.prog 32 #[.pointer (some ⟨b, 0, none⟩)] w' fun e w'' => e = .returned (.int .i64 0) ∧ w' = w'') := kp (fun b w' h => by obtain ⟨m, _, hm, hc⟩ := S_Minds h hk1; have := hc w' (Below.refl _ _); rw [hm (by omega)] at this; exact this)
  have q4 : Kp (∀ b w', WS w.heap.size w' b F k (k + 1) → Calls Try.prog 36 #[.pointer (some ⟨b, 0, none⟩), .int .i64 (k : Int)] w' fun e w'' => e = .returned (.int .i64 1) ∧ w' = w'') := kp (fun b w' h => S_Skip_bad h (Or.inl (by omega)))
  generalize F 0 = A at *
  have HA := kp h0
  clear h0
  have HZ := kp zeroK_length
  obtain ⟨ZK, hZK⟩ : ∃ ZK, zeroK = ZK := ⟨_, rfl⟩
  have HZZ := kp hZK
  have n4 : Kp (∀ b w', w.heap.size ≤ w'.heap.size → WS w.heap.size w' b F k (k + 1) → Calls Try.prog 34 #[.pointer (some ⟨b, 0, none⟩)] w' fun e w'' => e = .returned (.tuple #[.agg (cellsU8 ZK).toArray, .int .i64 10]) ∧ WS w.heap.size w'' b F k (k + 1) ∧ Below w'.heap.size w' w'') := kp (fun b w' hB h => by rw [← hZK]; exact S_none h (by omega) hB)
  rw [hZK] at HZ
  clear hZK
  have e1 : IntKind.i64.wrap ((k : Int) + 1) = (k : Int) + 1 := IntWalk.i64_in _ (by omega)
  have HB := kp (ba (Below.refl w.heap.size w) (.cells (cellsU8 K).toArray 23))
  have K_s := kp (Blk.new w 23 (cellsU8 K).toArray)
  clear hK
  go_enter Try.func14, Try.ntmps14
  go_wp2_with fail
  refine (pebble_awake _).mono ?_
  rintro e w_1 ⟨rfl, hb_1⟩
  have K_s := kp (K_s.out.bel hb_1)
  have HB := kp (bt' HB.out hb_1 HB.out.size)
  clear hb_1
  have L_s := ldK K HKL.out K_s.out
  go_wp2_with (first | (refine wpL_load rfl 23 _ rfl rfl L_s ?_))
  clear L_s
  refine (c1.out _ HB.out.size).mono ?_
  rintro e w_2 ⟨b_a, rfl, hs_2, hb_2⟩
  have K_s := kp (K_s.out.bel hb_2)
  have HB := kp (bt' HB.out hb_2 HB.out.size)
  have S_a := kp hs_2
  clear hs_2 hb_2
  go_wp2_with fail
  refine (c2.out _ _ HB.out.size S_a.out).mono ?_
  rintro e w_3 ⟨rfl, hs_3, hm_3⟩
  have K_s := kp (hm_3.keep (by decide) (by decide) K_s.out)
  have HB := kp (HB.out.trans hm_3.below)
  have S_a := kp hs_3
  clear hs_3 hm_3
  go_wp2_with fail
  refine (c3.out _ _ S_a.out).mono ?_
  rintro e w_4 ⟨rfl, hb_4⟩
  have K_s := kp (K_s.out.bel hb_4)
  have S_a := kp (S_a.out.bel hb_4)
  have HB := kp (bt' HB.out hb_4 HB.out.size)
  clear hb_4
  go_wp2_with fail
  refine (c4.out _ _ HB.out.size S_a.out).mono ?_
  rintro e w_5 ⟨rfl, hs_5, hm_5⟩
  have K_s := kp (hm_5.keep (by decide) (by decide) K_s.out)
  have HB := kp (HB.out.trans hm_5.below)
  have S_a := kp hs_5
  clear hs_5 hm_5
  have hlen_6 := key_cells _ HA.out
  have SC_6 := fun (cur : Array Value) (h : cur.size = 32) => sc_new (P := Try.prog) w_5 23 (cellsU8 A) (cellsU8_one _) cur (by rw [hlen_6]; exact h)
  have hge_x := kp HB.out.size
  have K_s := kp (K_s.out.alloc (.cells (cellsU8 A).toArray 23))
  have S_a := kp (S_a.out.bel (ba (Below.refl _ _) (.cells (cellsU8 A).toArray 23)))
  have HB := kp (ba HB.out (.cells (cellsU8 A).toArray 23))
  have K_x := kp (Blk.new w_5 23 (cellsU8 A).toArray)
  go_wp2_with fail
  clear SC_6 hlen_6
  generalize w_5.alloc (.cells (cellsU8 A).toArray 23) = W_6 at K_s K_x S_a HB ⊢
  generalize w_5.heap.size = b_x at K_x hge_x ⊢
  refine (n4.out _ _ HB.out.size S_a.out).mono ?_
  rintro e w_7 ⟨rfl, hs_7, hb_7⟩
  clear hs_7
  have K_s := kp (K_s.out.bel hb_7)
  have K_x := kp (K_x.out.bel hb_7)
  have S_a := kp (S_a.out.bel hb_7)
  have HB := kp (bt' HB.out hb_7 HB.out.size)
  clear hb_7
  have hlen_8 := key_cells _ HZ.out
  have SC_8 := fun (cur : Array Value) (h : cur.size = 32) => sc_new (P := Try.prog) w_7 23 (cellsU8 ZK) (cellsU8_one _) cur (by rw [hlen_8]; exact h)
  have hge_y := kp HB.out.size
  have K_s := kp (K_s.out.alloc (.cells (cellsU8 ZK).toArray 23))
  have K_x := kp (K_x.out.alloc (.cells (cellsU8 ZK).toArray 23))
  have S_a := kp (S_a.out.bel (ba (Below.refl _ _) (.cells (cellsU8 ZK).toArray 23)))
  have HB := kp (ba HB.out (.cells (cellsU8 ZK).toArray 23))
  have K_y := kp (Blk.new w_7 23 (cellsU8 ZK).toArray)
  go_wp2_with fail
  clear SC_8 hlen_8
  generalize w_7.alloc (.cells (cellsU8 ZK).toArray 23) = W_8 at K_s K_x K_y S_a HB ⊢
  generalize w_7.heap.size = b_y at K_y hge_y ⊢
  refine (n4.out _ _ HB.out.size S_a.out).mono ?_
  rintro e w_9 ⟨rfl, hs_9, hb_9⟩
  clear hs_9
  have K_s := kp (K_s.out.bel hb_9)
  have K_x := kp (K_x.out.bel hb_9)
  have K_y := kp (K_y.out.bel hb_9)
  have S_a := kp (S_a.out.bel hb_9)
  have HB := kp (bt' HB.out hb_9 HB.out.size)
  clear hb_9
  have L_s := ldK K HKL.out K_s.out
  clear L_s
  have hlen_10 := key_cells _ HZ.out
  have SC_10 := fun (cur : Array Value) (h : cur.size = 32) => sc_new (P := Try.prog) w_9 23 (cellsU8 ZK) (cellsU8_one _) cur (by rw [hlen_10]; exact h)
  have hge_z := kp HB.out.size
  have K_s := kp (K_s.out.alloc (.cells (cellsU8 ZK).toArray 23))
  have K_x := kp (K_x.out.alloc (.cells (cellsU8 ZK).toArray 23))
  have K_y := kp (K_y.out.alloc (.cells (cellsU8 ZK).toArray 23))
  have S_a := kp (S_a.out.bel (ba (Below.refl _ _) (.cells (cellsU8 ZK).toArray 23)))
  have HB := kp (ba HB.out (.cells (cellsU8 ZK).toArray 23))
  have K_z := kp (Blk.new w_9 23 (cellsU8 ZK).toArray)
  have L_s := ldK K HKL.out K_s.out
  go_wp2_with (first | (refine wpL_load rfl 23 _ rfl rfl L_s ?_))
  clear L_s
  clear SC_10 hlen_10
  generalize w_9.alloc (.cells (cellsU8 ZK).toArray 23) = W_10 at K_s K_x K_y K_z S_a HB ⊢
  generalize w_9.heap.size = b_z at K_z hge_z ⊢
  refine (k1.out _).mono ?_
  rintro e w_11 ⟨rfl, hb_11⟩
  have K_s := kp (K_s.out.bel hb_11)
  have K_x := kp (K_x.out.bel hb_11)
  have K_y := kp (K_y.out.bel hb_11)
  have K_z := kp (K_z.out.bel hb_11)
  have S_a := kp (S_a.out.bel hb_11)
  have HB := kp (bt' HB.out hb_11 HB.out.size)
  clear hb_11
  have hlen_12 := key_cells _ HA.out
  have SC_12 := fun (cur : Array Value) (h : cur.size = 32) => sc_new (P := Try.prog) w_11 23 (cellsU8 A) (cellsU8_one _) cur (by rw [hlen_12]; exact h)
  have hge_r := kp HB.out.size
  have K_s := kp (K_s.out.alloc (.cells (cellsU8 A).toArray 23))
  have K_x := kp (K_x.out.alloc (.cells (cellsU8 A).toArray 23))
  have K_y := kp (K_y.out.alloc (.cells (cellsU8 A).toArray 23))
  have K_z := kp (K_z.out.alloc (.cells (cellsU8 A).toArray 23))
  have S_a := kp (S_a.out.bel (ba (Below.refl _ _) (.cells (cellsU8 A).toArray 23)))
  have HB := kp (ba HB.out (.cells (cellsU8 A).toArray 23))
  have K_r := kp (Blk.new w_11 23 (cellsU8 A).toArray)
  go_upto_region 11 with (fail)
  clear SC_12 hlen_12
  generalize w_11.alloc (.cells (cellsU8 A).toArray 23) = W_12 at K_s K_x K_y K_z K_r S_a HB ⊢
  generalize w_11.heap.size = b_r at K_r hge_r ⊢
  refine wp_region_extP 43 ?_
  simp only [List.append_eq, List.cons_append, List.nil_append, List.take_succ_cons, List.take_zero, List.drop_succ_cons, List.drop_zero]
  have Q_x := kp (fun x => ldK A HA.out (K_x.out.bel (ext_below W_12 x)))
  have Q_r := kp (fun x => ldK A HA.out (K_r.out.bel (ext_below W_12 x)))
  have Q_y := kp (fun x => ldK ZK HZ.out (K_y.out.bel (ext_below W_12 x)))
  have HX := kp (fun x => S_a.out.bel (ext_below W_12 x))
  repeat (first
    | (go_big_quiet_want; refine quiet_load _ rfl 23 _ rfl rfl (fun w hw => by obtain ⟨x, rfl⟩ := hw; exact Q_x.out x) ?_; go_simp; go_big_quiet_on)
    | (go_big_quiet_want; refine quiet_load _ rfl 23 _ rfl rfl (fun w hw => by obtain ⟨x, rfl⟩ := hw; exact Q_r.out x) ?_; go_simp; go_big_quiet_on)
    | (go_big_quiet_want; refine quiet_load _ rfl 23 _ rfl rfl (fun w hw => by obtain ⟨x, rfl⟩ := hw; exact Q_y.out x) ?_; go_simp; go_big_quiet_on)
    | (go_big_quiet_want; refine quiet_eqk (D := A) (E := A) _ rfl rfl rfl rfl HA.out HA.out ?_; simp only [decide_true, Bool.not_true]; go_simp; go_big_quiet_on)
    | (go_big_quiet_want; refine quiet_eqk (D := ZK) (E := ZK) _ rfl rfl rfl rfl HZ.out HZ.out ?_; simp only [decide_true, Bool.not_true]; go_simp; go_big_quiet_on)
    | (go_big_quiet_want; refine quiet_val 78 rfl (.agg (cellsU8 ZK).toArray) (fun w _ => by rw [← HZZ.out]; kernel_rfl) ?_; go_simp; go_big_quiet_on)
    | go_big_quiet_step (first | (go_at_call 31; with_reducible exact Calls.ext_of (q1.out _ _ (HX.out _))) | (go_at_call 30; with_reducible exact Calls.ext_same (q2.out _ _ (HX.out _))) | (go_at_call 32; with_reducible exact Calls.ext_same (q3.out _ _ (HX.out _))) | (go_at_call 36; with_reducible exact Calls.ext_same (q4.out _ _ (HX.out _)))))
  refine wpQuiet_nil ?_
  rintro z
  go_wp2
  go_ret
  exact ⟨rfl, bt' HB.out (ext_below W_12 z) HB.out.size⟩
end Go.Proofs.Ytfmfdhcmbnabpaa
