/- PebbleAll: the walk. -/
import Derived.Test.YtfmfdhcmbnabpaaPeb6
import Derived.Test.YtfmfdhcmbnabpaaArgK
import Derived.Test.YtfmfdhcmbnabpaaArgB
import Derived.Test.YtfmfdhcmbnabpaaChn5

namespace Go.Proofs.Ytfmfdhcmbnabpaa
open Go Go.RowKit
set_option linter.unusedVariables false
set_option linter.unusedSimpArgs false
attribute [local go_sem] bmax2 bmin2 bmax bmin cell_ext frozen_ext

set_option maxHeartbeats 4000000 in
set_option maxRecDepth 100000 in
theorem PebbleAll_walk (w : World) (K : List UInt8) (n : Int) (hK : K.length = 32) (b1 : (Lit.int .u8 n).wf = true) :
    Calls Try.prog 10 #[keyV K, .int .u8 n] w fun e w' => e = .returned (.bool true) ∧ Below w.heap.size w w' := by
  unfold keyV
  obtain ⟨hn0, hn1⟩ := wf_u8 b1
  clear b1
  obtain ⟨k, hk⟩ : ∃ k : Nat, n % 40 + 1 = (k : Int) := ⟨(n % 40 + 1).toNat, by omega⟩
  have hk1 : 1 ≤ k := by omega
  have hk2 : k ≤ 40 := by omega
  have hkI : (k : Int) ≤ 40 := by omega
  have w1' : n % 40 + 1 ≤ 40 := by omega
  have hk3 : k ≤ 1024 := by omega
  have HKL := kp hK
  have c1 : Kp (∀ w', w.heap.size ≤ w'.heap.size → Calls Try.prog 29 #[.agg (cellsU8 K).toArray, .int .i64 (k : Int)] w' fun e w'' => ∃ b, e = .returned (.tuple #[.pointer (some ⟨b, 0, none⟩), .int .i64 0]) ∧ WS w.heap.size w'' b (chK K) k 0 ∧ Below w'.heap.size w' w'') := kp (fun w' h => S_New K hK k hk1 hk3 w' h)
  have cN : Kp (∀ b j w', j ≤ k → w.heap.size ≤ w'.heap.size → WS w.heap.size w' b (chK K) k j → Calls Try.prog 34 #[.pointer (some ⟨b, 0, none⟩)] w' fun e w'' => e = .returned (.tuple #[.agg (cellsU8 (chK K (k - j))).toArray, .int .i64 0]) ∧ WS w.heap.size w'' b (chK K) k (j + 1) ∧ Mv w.heap.size w' w'') := kp (fun b j w' hj hB h => S_Next h hk1 hk3 hj hB)
  have cK : Kp (∀ j w', j ≤ k → Calls Try.prog 17 #[.agg (cellsU8 K).toArray, .int .i64 (k : Int), .int .i64 (j : Int)] w' fun e w'' => e = .returned (.tuple #[.agg (cellsU8 (chK K (k - j))).toArray, .int .i64 0]) ∧ Below w'.heap.size w' w'') := kp (fun j w' hj => R_Key_good K hK (k : Int) (j : Int) (k - j) (by omega) (by omega) (by omega) (by omega) (by omega) w')
  have HF := kp (chK_length K)
  generalize chK K = F at *
  have cA : Kp (∀ b j w', WS w.heap.size w' b F k (j + 1) → Calls Try.prog 30 #[.pointer (some ⟨b, 0, none⟩)] w' fun e w'' => e = .returned (.int .i64 ((j : Int) + 1)) ∧ w' = w'') := kp (fun b j w' h => by have := S_At h; rw [Int.natCast_succ] at this; exact this)
  have cL : Kp (∀ b j w', WS w.heap.size w' b F k (j + 1) → Calls Try.prog 31 #[.pointer (some ⟨b, 0, none⟩)] w' fun e w'' => e = .returned (.int .i64 ((k : Int) - (j : Int))) ∧ Below w'.heap.size w' w'') := kp (fun b j w' h => by have := S_Left h hk3; rw [show ((k : Int) + 1 - ((j + 1 : Nat) : Int)) = (k : Int) - (j : Int) by omega] at this; exact this)
  have HZ := kp zeroK_length
  obtain ⟨ZK, hZK⟩ : ∃ ZK, zeroK = ZK := ⟨_, rfl⟩
  have n4 : Kp (∀ b w', w.heap.size ≤ w'.heap.size → WS w.heap.size w' b F k (k + 1) → Calls Try.prog 34 #[.pointer (some ⟨b, 0, none⟩)] w' fun e w'' => e = .returned (.tuple #[.agg (cellsU8 ZK).toArray, .int .i64 10]) ∧ WS w.heap.size w'' b F k (k + 1) ∧ Below w'.heap.size w' w'') := kp (fun b w' hB h => by rw [← hZK]; exact S_none h (by omega) hB)
  rw [hZK] at HZ
  clear hZK
  obtain ⟨M, hM⟩ : ∃ M, mostN k = M := ⟨_, rfl⟩
  have cM : Kp (∀ w', Calls Try.prog 33 #[.int .i64 (k : Int)] w' fun e w'' => e = .returned (.int .i64 (M : Int)) ∧ w' = w'') := kp (fun w' => by rw [← hM]; exact R_Most k hk1 hk3 w')
  have HMI : Kp (∀ b m w', WS w.heap.size w' b F k m → ∃ q : Nat, (q : Int) ≤ (M : Int) ∧ (k < m → q = 0) ∧ ∀ w'', Below w'.heap.size w' w'' → Calls Try.prog 32 #[.pointer (some ⟨b, 0, none⟩)] w'' fun e w3 => e = .returned (.int .i64 (q : Int)) ∧ w'' = w3) := kp (fun b m w' h => by
    obtain ⟨q, h1, h2, h3⟩ := S_Minds h hk1
    exact ⟨q, by omega, h2, h3⟩)
  clear hM
  have HB := kp (ba (Below.refl w.heap.size w) (.cells (cellsU8 K).toArray 23))
  have K_s := kp (Blk.new w 23 (cellsU8 K).toArray)
  clear hK
  go_enter Try.func10, Try.ntmps10
  go_wp2_with fail
  refine (pebble_awake _).mono ?_
  rintro e w_1 ⟨rfl, hb_1⟩
  have K_s := kp (K_s.out.bel hb_1)
  have HB := kp (bt' HB.out hb_1 HB.out.size)
  clear hb_1
  have L_s := ldK K HKL.out K_s.out
  go_wp2_with (first | (refine wpL_load rfl 23 _ rfl rfl L_s ?_))
  clear L_s
  refine (c1.out _ HB.out.size).mono ?_
  rintro e w_2 ⟨b_a, rfl, hs_2, hb_2⟩
  have K_s := kp (K_s.out.bel hb_2)
  have HB := kp (bt' HB.out hb_2 HB.out.size)
  have S_a := kp hs_2
  clear hs_2 hb_2
  go_wp2
  go_loopw [8] (fun i wr => ∃ j : Nat, j ≤ k + 1 ∧ i = .int .i64 (j : Int) ∧ Kp (WS w.heap.size wr b_a F k j) ∧ Kp (Blk wr w.heap.size 23 (cellsU8 K).toArray) ∧ Kp (Below w.heap.size w wr)) (fun i _ => k + 1 - (intOf i).toNat)
  case atStart => exact ⟨0, Nat.zero_le _, rfl, S_a, K_s, HB⟩
  case round =>
    clear S_a K_s HB
    obtain ⟨j, hj, rfl, S_a, K_s, HB⟩ := hrel
    by_cases hlt : j ≤ k
    · have i1 : (j : Int) ≤ (k : Int) := by omega
      have g1 : decide ((j : Int) ≤ (k : Int)) = true := decide_eq_true i1
      have e1 : IntKind.i64.wrap ((j : Int) + 1) = (j : Int) + 1 := IntWalk.i64_in _ (by omega)
      have e2 : IntKind.i64.wrap ((k : Int) - (j : Int)) = (k : Int) - (j : Int) := IntWalk.i64_in _ (by omega)
      have CN := kp (fun b w' h1 h2 => cN.out b j w' hlt h1 h2)
      have CK := kp (fun w' => cK.out j w' hlt)
      have HA := kp (HF.out (k - j))
      generalize F (k - j) = A at CN CK HA
      go_wp2_with fail
      refine (CN.out _ _ HB.out.size S_a.out).mono ?_
      rintro e w_3 ⟨rfl, hs_3, hm_3⟩
      have K_s := kp (hm_3.keep (by decide) (by decide) K_s.out)
      have HB := kp (HB.out.trans hm_3.below)
      have S_a := kp hs_3
      clear hs_3 hm_3
      have hlen_4 := key_cells _ HA.out
      have SC_4 := fun (cur : Array Value) (h : cur.size = 32) => sc_new (P := Try.prog) w_3 23 (cellsU8 A) (cellsU8_one _) cur (by rw [hlen_4]; exact h)
      have hge_x := kp HB.out.size
      have K_s := kp (K_s.out.alloc (.cells (cellsU8 A).toArray 23))
      have S_a := kp (S_a.out.bel (ba (Below.refl _ _) (.cells (cellsU8 A).toArray 23)))
      have HB := kp (ba HB.out (.cells (cellsU8 A).toArray 23))
      have K_x := kp (Blk.new w_3 23 (cellsU8 A).toArray)
      have L_s := ldK K HKL.out K_s.out
      go_wp2_with (first | (refine wpL_load rfl 23 _ rfl rfl L_s ?_))
      clear L_s
      clear SC_4 hlen_4
      generalize w_3.alloc (.cells (cellsU8 A).toArray 23) = W_4 at K_s K_x S_a HB ⊢
      generalize w_3.heap.size = b_x at K_x hge_x ⊢
      refine (CK.out _).mono ?_
      rintro e w_5 ⟨rfl, hb_5⟩
      have K_s := kp (K_s.out.bel hb_5)
      have K_x := kp (K_x.out.bel hb_5)
      have S_a := kp (S_a.out.bel hb_5)
      have HB := kp (bt' HB.out hb_5 HB.out.size)
      clear hb_5
      have hlen_6 := key_cells _ HA.out
      have SC_6 := fun (cur : Array Value) (h : cur.size = 32) => sc_new (P := Try.prog) w_5 23 (cellsU8 A) (cellsU8_one _) cur (by rw [hlen_6]; exact h)
      have hge_y := kp HB.out.size
      have K_s := kp (K_s.out.alloc (.cells (cellsU8 A).toArray 23))
      have K_x := kp (K_x.out.alloc (.cells (cellsU8 A).toArray 23))
      have S_a := kp (S_a.out.bel (ba (Below.refl _ _) (.cells (cellsU8 A).toArray 23)))
      have HB := kp (ba HB.out (.cells (cellsU8 A).toArray 23))
      have K_y := kp (Blk.new w_5 23 (cellsU8 A).toArray)
      go_upto_region 12 with (fail)
      clear SC_6 hlen_6
      generalize w_5.alloc (.cells (cellsU8 A).toArray 23) = W_6 at K_s K_x K_y S_a HB ⊢
      generalize w_5.heap.size = b_y at K_y hge_y ⊢
      obtain ⟨q, iq, _, cq⟩ := HMI.out _ _ _ S_a.out
      have CQ := kp cq
      clear cq
      have gq : decide ((M : Int) < (q : Int)) = false := decide_eq_false (by omega)
      refine wp_region_extP 29 ?_
      simp only [List.append_eq, List.cons_append, List.nil_append, List.take_succ_cons, List.take_zero, List.drop_succ_cons, List.drop_zero]
      have Q_x := kp (fun x => ldK A HA.out (K_x.out.bel (ext_below W_6 x)))
      have Q_y := kp (fun x => ldK A HA.out (K_y.out.bel (ext_below W_6 x)))
      have HX := kp (fun x => S_a.out.bel (ext_below W_6 x))
      repeat (first
        | (go_big_quiet_want; refine quiet_load _ rfl 23 _ rfl rfl (fun w hw => by obtain ⟨x, rfl⟩ := hw; exact Q_x.out x) ?_; go_simp; go_big_quiet_on)
        | (go_big_quiet_want; refine quiet_load _ rfl 23 _ rfl rfl (fun w hw => by obtain ⟨x, rfl⟩ := hw; exact Q_y.out x) ?_; go_simp; go_big_quiet_on)
        | (go_big_quiet_want; refine quiet_nek (D := A) (E := A) _ rfl rfl rfl rfl HA.out HA.out ?_; simp only [decide_true, Bool.not_true]; go_simp; go_big_quiet_on)
        | go_big_quiet_step (first | (go_at_call 30; with_reducible exact Calls.ext_same (cA.out _ _ _ (HX.out _))) | (go_at_call 31; with_reducible exact Calls.ext_of (cL.out _ _ _ (HX.out _))) | (go_at_call 32; with_reducible exact Calls.ext_same (CQ.out _ (ext_below W_6 _))) | (go_at_call 33; with_reducible exact Calls.ext_same (cM.out _))))
      refine wpQuiet_nil ?_
      rintro z
      have HB := kp (bt' HB.out (ext_below W_6 z) HB.out.size)
      have K_s := kp (K_s.out.bel (ext_below W_6 z))
      have S_a := kp (S_a.out.bel (ext_below W_6 z))
      generalize W_6.ext z = V at HB K_s S_a ⊢
      clear K_x K_y Q_x Q_y HX
      go_wp2
      go_roundw
      case measure => simp [intOf]; omega
      case rel => exact ⟨j + 1, by omega, by congr 1, S_a, K_s, HB⟩
    · obtain rfl : j = k + 1 := by omega
      have i1 : ¬ ((k + 1 : Nat) : Int) ≤ (k : Int) := by omega
      have g1 : decide (((k + 1 : Nat) : Int) ≤ (k : Int)) = false := decide_eq_false i1
      have g2 : decide ((k : Int) + 1 ≤ (k : Int)) = false := decide_eq_false (by omega)
      go_wp2_with fail
      refine (n4.out _ _ HB.out.size S_a.out).mono ?_
      rintro e w_7 ⟨rfl, hs_7, hb_7⟩
      clear hs_7
      have K_s := kp (K_s.out.bel hb_7)
      have S_a := kp (S_a.out.bel hb_7)
      have HB := kp (bt' HB.out hb_7 HB.out.size)
      clear hb_7
      have hlen_8 := key_cells _ HZ.out
      have SC_8 := fun (cur : Array Value) (h : cur.size = 32) => sc_new (P := Try.prog) w_7 23 (cellsU8 ZK) (cellsU8_one _) cur (by rw [hlen_8]; exact h)
      have hge_z := kp HB.out.size
      have K_s := kp (K_s.out.alloc (.cells (cellsU8 ZK).toArray 23))
      have S_a := kp (S_a.out.bel (ba (Below.refl _ _) (.cells (cellsU8 ZK).toArray 23)))
      have HB := kp (ba HB.out (.cells (cellsU8 ZK).toArray 23))
      have K_z := kp (Blk.new w_7 23 (cellsU8 ZK).toArray)
      go_wp2_with fail
      clear SC_8 hlen_8
      generalize w_7.alloc (.cells (cellsU8 ZK).toArray 23) = W_8 at K_s K_z S_a HB ⊢
      generalize w_7.heap.size = b_z at K_z hge_z ⊢
      obtain ⟨q, iq, hq0, cq⟩ := HMI.out _ _ _ S_a.out
      obtain rfl : q = 0 := hq0 (by omega)
      have CQ := kp cq
      clear cq
      refine (CQ.out _ (Below.refl _ _)).mono ?_
      rintro e w_9 ⟨rfl, rfl⟩
      go_wp2
      go_ret
      exact ⟨rfl, HB.out⟩
end Go.Proofs.Ytfmfdhcmbnabpaa
