/- PebbleSkips: the walk. -/
import Derived.Test.YtfmfdhcmbnabpaaPeb7
import Derived.Test.YtfmfdhcmbnabpaaArgK
import Derived.Test.YtfmfdhcmbnabpaaArgB
import Derived.Test.YtfmfdhcmbnabpaaChn5

namespace Go.Proofs.Ytfmfdhcmbnabpaa
open Go Go.RowKit
set_option linter.unusedVariables false
set_option linter.unusedSimpArgs false
attribute [local go_sem] bmax2 bmin2 bmax bmin cell_ext frozen_ext

set_option maxHeartbeats 4000000 in
set_option maxRecDepth 100000 in
theorem PebbleSkips_walk (w : World) (K : List UInt8) (n p q : Int) (hK : K.length = 32) (b1 : (Lit.int .u8 n).wf = true) (b2 : (Lit.int .u8 p).wf = true) (b3 : (Lit.int .u8 q).wf = true) :
    Calls Try.prog 12 #[keyV K, .int .u8 n, .int .u8 p, .int .u8 q] w fun e w' => e = .returned (.bool true) ∧ Below w.heap.size w w' := by
  unfold keyV
  obtain ⟨hn0, hn1⟩ := wf_u8 b1
  clear b1
  obtain ⟨k, hk⟩ : ∃ k : Nat, n % 40 + 1 = (k : Int) := ⟨(n % 40 + 1).toNat, by omega⟩
  have hk1 : 1 ≤ k := by omega
  have hk2 : k ≤ 40 := by omega
  have hkI : (k : Int) ≤ 40 := by omega
  have w1' : n % 40 + 1 ≤ 40 := by omega
  have hk3 : k ≤ 1024 := by omega
  have HKL := kp hK
  have c1 : Kp (∀ w', w.heap.size ≤ w'.heap.size → Calls Try.prog 29 #[.agg (cellsU8 K).toArray, .int .i64 (k : Int)] w' fun e w'' => ∃ b, e = .returned (.tuple #[.pointer (some ⟨b, 0, none⟩), .int .i64 0]) ∧ WS w.heap.size w'' b (chK K) k 0 ∧ Below w'.heap.size w' w'') := kp (fun w' h => S_New K hK k hk1 hk3 w' h)
  obtain ⟨ha0, ha1⟩ := wf_u8 b2
  obtain ⟨hb0, hb1⟩ := wf_u8 b3
  clear b2 b3
  obtain ⟨x, hx⟩ : ∃ x : Nat, p % ((k : Int) + 1) = (x : Int) := ⟨(p % ((k : Int) + 1)).toNat, by have := Int.emod_nonneg p (show (k : Int) + 1 ≠ 0 by omega); omega⟩
  have hxk : x ≤ k := by have := Int.emod_lt_of_pos p (show (0 : Int) < (k : Int) + 1 by omega); omega
  obtain ⟨y, hy⟩ : ∃ y : Nat, q % ((k : Int) + 1) = (y : Int) := ⟨(q % ((k : Int) + 1)).toNat, by have := Int.emod_nonneg q (show (k : Int) + 1 ≠ 0 by omega); omega⟩
  have hyk : y ≤ k := by have := Int.emod_lt_of_pos q (show (0 : Int) < (k : Int) + 1 by omega); omega
  have hk0 : (k : Int) + 1 ≠ 0 := by omega
  have e1 : IntKind.i64.wrap ((k : Int) + 1) = (k : Int) + 1 := IntWalk.i64_in _ (by omega)
  have e1' : IntKind.i64.wrap (x : Int) = (x : Int) := IntWalk.i64_in _ (by omega)
  have e1'' : IntKind.i64.wrap (y : Int) = (y : Int) := IntWalk.i64_in _ (by omega)
  obtain ⟨X, hX⟩ : ∃ X : Nat, max (x : Int) (y : Int) = (X : Int) := ⟨max x y, by omega⟩
  obtain ⟨N, hN⟩ : ∃ N : Nat, min (x : Int) (y : Int) = (N : Int) := ⟨min x y, by omega⟩
  have hNX : N ≤ X := by omega
  have hXk : X ≤ k := by omega
  have hne : x ≠ y → N < X := by omega
  have c2 : Kp (∀ b w', w.heap.size ≤ w'.heap.size → WS w.heap.size w' b (chK K) k 0 → Calls Try.prog 29 #[.agg (cellsU8 K).toArray, .int .i64 (k : Int)] w' fun e w'' => ∃ c, e = .returned (.tuple #[.pointer (some ⟨c, 0, none⟩), .int .i64 0]) ∧ W2 w.heap.size w'' b c (chK K) k 0 0 ∧ Below w'.heap.size w' w'') := kp (fun b w' h hw => W2_New K hK k hk1 hk3 w' h hw)
  have cA : Kp (∀ b c i j w', i ≤ k → w.heap.size ≤ w'.heap.size → W2 w.heap.size w' b c (chK K) k i j → Calls Try.prog 34 #[.pointer (some ⟨b, 0, none⟩)] w' fun e w'' => e = .returned (.tuple #[.agg (cellsU8 (chK K (k - i))).toArray, .int .i64 0]) ∧ W2 w.heap.size w'' b c (chK K) k (i + 1) j ∧ Mv w.heap.size w' w'') := kp (fun b c i j w' hi hB h => W2_Next h hk1 hk3 hi hB)
  have cB : Kp (∀ b c i j w', j ≤ k → w.heap.size ≤ w'.heap.size → W2 w.heap.size w' b c (chK K) k i j → Calls Try.prog 34 #[.pointer (some ⟨c, 0, none⟩)] w' fun e w'' => e = .returned (.tuple #[.agg (cellsU8 (chK K (k - j))).toArray, .int .i64 0]) ∧ W2 w.heap.size w'' b c (chK K) k i (j + 1) ∧ Mv w.heap.size w' w'') := kp (fun b c i j w' hj hB h => (W2_Next h.symm hk1 hk3 hj hB).mono fun e w'' ⟨h1, h2, h3⟩ => ⟨h1, h2.symm, h3⟩)
  have HF := kp (chK_length K)
  generalize chK K = F at *
  have cS : Kp (∀ b c i j t w', i ≤ t → t ≤ k → w.heap.size ≤ w'.heap.size → W2 w.heap.size w' b c F k i j → Calls Try.prog 36 #[.pointer (some ⟨b, 0, none⟩), .int .i64 (t : Int)] w' fun e w'' => e = .returned (.int .i64 0) ∧ W2 w.heap.size w'' b c F k t j ∧ Mv w.heap.size w' w'') := kp (fun b c i j t w' h1 h2 hB h => W2_Skip HF.out h hk1 hk3 h1 h2 hB)
  have cZ : Kp (∀ b c (i j : Nat) (t : Int) w', t < (i : Int) ∨ (k : Int) < t → W2 w.heap.size w' b c F k i j → Calls Try.prog 36 #[.pointer (some ⟨b, 0, none⟩), .int .i64 t] w' fun e w'' => e = .returned (.int .i64 1) ∧ w' = w'') := kp (fun b c i j t w' ht h => S_Skip_bad h.fst ht)
  have HB := kp (ba (Below.refl w.heap.size w) (.cells (cellsU8 K).toArray 23))
  have K_s := kp (Blk.new w 23 (cellsU8 K).toArray)
  clear hK
  go_enter Try.func12, Try.ntmps12
  go_wp2_with fail
  refine (pebble_awake _).mono ?_
  rintro e w_1 ⟨rfl, hb_1⟩
  have K_s := kp (K_s.out.bel hb_1)
  have HB := kp (bt' HB.out hb_1 HB.out.size)
  clear hb_1
  go_upto_region 4 with (fail)
  refine wp_region_extQ [0, 1, 2, 3, 4, 5, 6, 7, 8, 9, 10] [] [11] (by kernel_rfl) (by kernel_rfl) ?_
  simp only [List.map_cons, List.map_nil, List.getD_cons_succ, List.getD_cons_zero]
  repeat (go_big_quiet_step (fail))
  refine wpQuiet_nil ?_
  refine wpQuiet_nil ?_
  rintro z
  have K_s := kp (K_s.out.bel (ext_below w_1 z))
  have HB := kp (bt' HB.out (ext_below w_1 z) HB.out.size)
  generalize w_1.ext z = V0 at K_s HB ⊢
  have L_s := ldK K HKL.out K_s.out
  go_wp2_with (first | (refine wpL_load rfl 23 _ rfl rfl L_s ?_))
  clear L_s
  refine (c1.out _ HB.out.size).mono ?_
  rintro e w_2 ⟨b_a, rfl, hs_2, hb_2⟩
  have K_s := kp (K_s.out.bel hb_2)
  have HB := kp (bt' HB.out hb_2 HB.out.size)
  have S_a := kp hs_2
  clear hs_2 hb_2
  have L_s := ldK K HKL.out K_s.out
  go_wp2_with (first | (refine wpL_load rfl 23 _ rfl rfl L_s ?_))
  clear L_s
  refine (c2.out _ _ HB.out.size S_a.out).mono ?_
  rintro e w_3 ⟨b_b, rfl, hs_3, hb_3⟩
  clear S_a K_s
  have HB := kp (bt' HB.out hb_3 HB.out.size)
  have S_p := kp hs_3
  clear hs_3 hb_3 c1 c2
  go_wp2
  go_loopw [16] (fun i wr => ∃ j : Nat, j ≤ X ∧ i = .int .i64 (j : Int) ∧ Kp (W2 w.heap.size wr b_a b_b F k 0 j) ∧ Kp (Below w.heap.size w wr)) (fun i _ => X - (intOf i).toNat)
  case atStart => exact ⟨0, Nat.zero_le _, rfl, S_p, HB⟩
  case round =>
    clear S_p HB
    obtain ⟨j, hj, rfl, S_p, HB⟩ := hrel
    by_cases hlt : j < X
    · have i1 : (j : Int) < (X : Int) := by omega
      have g1 : decide ((j : Int) < (X : Int)) = true := decide_eq_true i1
      have ej : IntKind.i64.wrap ((j : Int) + 1) = (j : Int) + 1 := IntWalk.i64_in _ (by omega)
      have CB := kp (fun w' h1 h2 => cB.out b_a b_b 0 j w' (by omega) h1 h2)
      go_wp2_with fail
      refine (CB.out _ HB.out.size S_p.out).mono ?_
      rintro e w_4 ⟨rfl, hs_4, hm_4⟩
      have HB := kp (HB.out.trans hm_4.below)
      have S_p := kp hs_4
      clear hs_4 hm_4
      go_wp2
      go_roundw
      case measure => simp [intOf]; omega
      case rel => exact ⟨j + 1, by omega, by congr 1, S_p, HB⟩
    · obtain rfl : j = X := by omega
      have i1 : ¬ (j : Int) < (j : Int) := by omega
      have g1 : decide ((j : Int) < (j : Int)) = false := decide_eq_false i1
      have S1 := kp (fun w' h1 h2 => cS.out b_a b_b 0 j N w' (Nat.zero_le _) (by omega) h1 h2)
      have S2 := kp (fun w' h1 h2 => cS.out b_a b_b N j j w' hNX hXk h1 h2)
      have S3 := kp (fun w' (hh : N < j) h2 => cZ.out b_a b_b j j (N : Int) w' (Or.inl (by omega)) h2)
      have CA := kp (fun w' h1 h2 => cA.out b_a b_b j j w' hXk h1 h2)
      have CB := kp (fun w' h1 h2 => cB.out b_a b_b (j + 1) j w' hXk h1 h2)
      have S4 := kp (fun w' h2 => cZ.out b_a b_b (j + 1) (j + 1) ((k : Int) + 1) w' (Or.inr (by omega)) h2)
      have HA := kp (HF.out (k - j))
      generalize F (k - j) = A at CA CB HA
      go_wp2_with fail
      refine (S1.out _ HB.out.size S_p.out).mono ?_
      rintro e w_5 ⟨rfl, hs_5, hm_5⟩
      have HB := kp (HB.out.trans hm_5.below)
      have S_p := kp hs_5
      clear hs_5 hm_5
      go_wp2_with fail
      refine (S2.out _ HB.out.size S_p.out).mono ?_
      rintro e w_6 ⟨rfl, hs_6, hm_6⟩
      have HB := kp (HB.out.trans hm_6.below)
      have S_p := kp hs_6
      clear hs_6 hm_6
      by_cases hxy : x = y
      · have hxI : decide ((x : Int) = (y : Int)) = true := decide_eq_true (by omega)
        have hxN : decide (x = y) = true := decide_eq_true hxy
        have hxI' : (x : Int) = (y : Int) := by omega
        go_wp2_with fail
        refine (CA.out _ HB.out.size S_p.out).mono ?_
        rintro e w_7 ⟨rfl, hs_7, hm_7⟩
        have HB := kp (HB.out.trans hm_7.below)
        have S_p := kp hs_7
        clear hs_7 hm_7
        have hlen_8 := key_cells _ HA.out
        have SC_8 := fun (cur : Array Value) (h : cur.size = 32) => sc_new (P := Try.prog) w_7 23 (cellsU8 A) (cellsU8_one _) cur (by rw [hlen_8]; exact h)
        have hge_x := kp HB.out.size
        have S_p := kp (S_p.out.bel (ba (Below.refl _ _) (.cells (cellsU8 A).toArray 23)))
        have HB := kp (ba HB.out (.cells (cellsU8 A).toArray 23))
        have K_x := kp (Blk.new w_7 23 (cellsU8 A).toArray)
        go_wp2_with fail
        clear SC_8 hlen_8
        generalize w_7.alloc (.cells (cellsU8 A).toArray 23) = W_8 at K_x S_p HB ⊢
        generalize w_7.heap.size = b_x at K_x hge_x ⊢
        refine (CB.out _ HB.out.size S_p.out).mono ?_
        rintro e w_9 ⟨rfl, hs_9, hm_9⟩
        have K_x := kp (hm_9.keep (by decide) (by decide) K_x.out)
        have HB := kp (HB.out.trans hm_9.below)
        have S_p := kp hs_9
        clear hs_9 hm_9
        have hlen_10 := key_cells _ HA.out
        have SC_10 := fun (cur : Array Value) (h : cur.size = 32) => sc_new (P := Try.prog) w_9 23 (cellsU8 A) (cellsU8_one _) cur (by rw [hlen_10]; exact h)
        have hge_y := kp HB.out.size
        have K_x := kp (K_x.out.alloc (.cells (cellsU8 A).toArray 23))
        have S_p := kp (S_p.out.bel (ba (Below.refl _ _) (.cells (cellsU8 A).toArray 23)))
        have HB := kp (ba HB.out (.cells (cellsU8 A).toArray 23))
        have K_y := kp (Blk.new w_9 23 (cellsU8 A).toArray)
        go_upto_region 17 with (fail)
        clear SC_10 hlen_10
        generalize w_9.alloc (.cells (cellsU8 A).toArray 23) = W_10 at K_x K_y S_p HB ⊢
        generalize w_9.heap.size = b_y at K_y hge_y ⊢
        refine wp_region_extP 19 ?_
        simp only [List.append_eq, List.cons_append, List.nil_append, List.take_succ_cons, List.take_zero, List.drop_succ_cons, List.drop_zero]
        have Q_x := kp (fun x => ldK A HA.out (K_x.out.bel (ext_below W_10 x)))
        have Q_y := kp (fun x => ldK A HA.out (K_y.out.bel (ext_below W_10 x)))
        have HX := kp (fun x => S_p.out.bel (ext_below W_10 x))
        repeat (first
          | (go_big_quiet_want; refine quiet_load _ rfl 23 _ rfl rfl (fun w hw => by obtain ⟨x, rfl⟩ := hw; exact Q_x.out x) ?_; go_simp; go_big_quiet_on)
          | (go_big_quiet_want; refine quiet_load _ rfl 23 _ rfl rfl (fun w hw => by obtain ⟨x, rfl⟩ := hw; exact Q_y.out x) ?_; go_simp; go_big_quiet_on)
          | (go_big_quiet_want; refine quiet_eqk (D := A) (E := A) _ rfl rfl rfl rfl HA.out HA.out ?_; simp only [decide_true, Bool.not_true]; go_simp; go_big_quiet_on)
          | go_big_quiet_step (first | (go_at_call 36; with_reducible exact Calls.ext_same (S4.out _ (HX.out _)))))
        refine wpQuiet_nil ?_
        rintro z
        go_wp2
        go_ret
        exact ⟨rfl, bt' HB.out (ext_below W_10 z) HB.out.size⟩
      · have hxI : decide ((x : Int) = (y : Int)) = false := decide_eq_false (by omega)
        have hxN : decide (x = y) = false := decide_eq_false hxy
        have hxI' : ¬ (x : Int) = (y : Int) := by omega
        go_wp2_with fail
        refine (S3.out _ (hne hxy) S_p.out).mono ?_
        rintro e w_11 ⟨rfl, rfl⟩
        go_wp2_with fail
        refine (CA.out _ HB.out.size S_p.out).mono ?_
        rintro e w_12 ⟨rfl, hs_12, hm_12⟩
        have HB := kp (HB.out.trans hm_12.below)
        have S_p := kp hs_12
        clear hs_12 hm_12
        have hlen_13 := key_cells _ HA.out
        have SC_13 := fun (cur : Array Value) (h : cur.size = 32) => sc_new (P := Try.prog) w_12 23 (cellsU8 A) (cellsU8_one _) cur (by rw [hlen_13]; exact h)
        have hge_x := kp HB.out.size
        have S_p := kp (S_p.out.bel (ba (Below.refl _ _) (.cells (cellsU8 A).toArray 23)))
        have HB := kp (ba HB.out (.cells (cellsU8 A).toArray 23))
        have K_x := kp (Blk.new w_12 23 (cellsU8 A).toArray)
        go_wp2_with fail
        clear SC_13 hlen_13
        generalize w_12.alloc (.cells (cellsU8 A).toArray 23) = W_13 at K_x S_p HB ⊢
        generalize w_12.heap.size = b_x at K_x hge_x ⊢
        refine (CB.out _ HB.out.size S_p.out).mono ?_
        rintro e w_14 ⟨rfl, hs_14, hm_14⟩
        have K_x := kp (hm_14.keep (by decide) (by decide) K_x.out)
        have HB := kp (HB.out.trans hm_14.below)
        have S_p := kp hs_14
        clear hs_14 hm_14
        have hlen_15 := key_cells _ HA.out
        have SC_15 := fun (cur : Array Value) (h : cur.size = 32) => sc_new (P := Try.prog) w_14 23 (cellsU8 A) (cellsU8_one _) cur (by rw [hlen_15]; exact h)
        have hge_y := kp HB.out.size
        have K_x := kp (K_x.out.alloc (.cells (cellsU8 A).toArray 23))
        have S_p := kp (S_p.out.bel (ba (Below.refl _ _) (.cells (cellsU8 A).toArray 23)))
        have HB := kp (ba HB.out (.cells (cellsU8 A).toArray 23))
        have K_y := kp (Blk.new w_14 23 (cellsU8 A).toArray)
        go_upto_region 17 with (fail)
        clear SC_15 hlen_15
        generalize w_14.alloc (.cells (cellsU8 A).toArray 23) = W_15 at K_x K_y S_p HB ⊢
        generalize w_14.heap.size = b_y at K_y hge_y ⊢
        refine wp_region_extP 19 ?_
        simp only [List.append_eq, List.cons_append, List.nil_append, List.take_succ_cons, List.take_zero, List.drop_succ_cons, List.drop_zero]
        have Q_x := kp (fun x => ldK A HA.out (K_x.out.bel (ext_below W_15 x)))
        have Q_y := kp (fun x => ldK A HA.out (K_y.out.bel (ext_below W_15 x)))
        have HX := kp (fun x => S_p.out.bel (ext_below W_15 x))
        repeat (first
          | (go_big_quiet_want; refine quiet_load _ rfl 23 _ rfl rfl (fun w hw => by obtain ⟨x, rfl⟩ := hw; exact Q_x.out x) ?_; go_simp; go_big_quiet_on)
          | (go_big_quiet_want; refine quiet_load _ rfl 23 _ rfl rfl (fun w hw => by obtain ⟨x, rfl⟩ := hw; exact Q_y.out x) ?_; go_simp; go_big_quiet_on)
          | (go_big_quiet_want; refine quiet_eqk (D := A) (E := A) _ rfl rfl rfl rfl HA.out HA.out ?_; simp only [decide_true, Bool.not_true]; go_simp; go_big_quiet_on)
          | go_big_quiet_step (first | (go_at_call 36; with_reducible exact Calls.ext_same (S4.out _ (HX.out _)))))
        refine wpQuiet_nil ?_
        rintro z
        go_wp2
        go_ret
        exact ⟨rfl, bt' HB.out (ext_below W_15 z) HB.out.size⟩
end Go.Proofs.Ytfmfdhcmbnabpaa
