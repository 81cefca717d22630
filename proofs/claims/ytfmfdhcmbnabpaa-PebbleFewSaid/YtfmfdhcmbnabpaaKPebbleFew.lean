/- PebbleFew: the walk. -/
import Derived.Test.YtfmfdhcmbnabpaaPeb6
import Derived.Test.YtfmfdhcmbnabpaaArgK
import Derived.Test.YtfmfdhcmbnabpaaArgB
import Derived.Test.YtfmfdhcmbnabpaaChn5

namespace Go.Proofs.Ytfmfdhcmbnabpaa
open Go Go.RowKit
set_option linter.unusedVariables false
set_option linter.unusedSimpArgs false
attribute [local go_sem] bmax2 bmin2 bmax bmin cell_ext frozen_ext

set_option maxHeartbeats 4000000 in
set_option maxRecDepth 100000 in
theorem PebbleFew_walk (w : World) (K : List UInt8) (n m : Int) (hK : K.length = 32) (b1 : (Lit.int .u16 n).wf = true) (b2 : (Lit.int .u16 m).wf = true) :
    Calls Try.prog 11 #[keyV K, .int .u16 n, .int .u16 m] w fun e w' => e = .returned (.bool true) ∧ Below w.heap.size w w' := by
  unfold keyV
  obtain ⟨hn0, hn1⟩ := wf_u16 b1
  clear b1
  obtain ⟨k, hk⟩ : ∃ k : Nat, n % 1024 + 1 = (k : Int) := ⟨(n % 1024 + 1).toNat, by omega⟩
  have hk1 : 1 ≤ k := by omega
  have hk2 : k ≤ 1024 := by omega
  have hkI : (k : Int) ≤ 1024 := by omega
  have w1' : n % 1024 + 1 ≤ 1024 := by omega
  have hk3 : k ≤ 1024 := by omega
  have HKL := kp hK
  have c1 : Kp (∀ w', w.heap.size ≤ w'.heap.size → Calls Try.prog 29 #[.agg (cellsU8 K).toArray, .int .i64 (k : Int)] w' fun e w'' => ∃ b, e = .returned (.tuple #[.pointer (some ⟨b, 0, none⟩), .int .i64 0]) ∧ WS w.heap.size w'' b (chK K) k 0 ∧ Below w'.heap.size w' w'') := kp (fun w' h => S_New K hK k hk1 hk3 w' h)
  obtain ⟨hm0, hm1⟩ := wf_u16 b2
  clear b2
  obtain ⟨tw, ht⟩ : ∃ tw : Nat, m.tmod (k : Int) + 1 = (tw : Int) := ⟨(m.tmod (k : Int) + 1).toNat, by have := Int.tmod_nonneg (k : Int) hm0; omega⟩
  have ht1 : 1 ≤ tw := by have := Int.tmod_nonneg (k : Int) hm0; omega
  have ht2 : tw ≤ k := by have := Int.tmod_lt_of_pos m (show 0 < (k : Int) by omega); omega
  have htI : (tw : Int) ≤ 1024 := by omega
  have ht' : 1 + m.tmod (k : Int) = (tw : Int) := by omega
  have hkne : (k : Int) ≠ 0 := by omega
  have hmk : m % (k : Int) = m.tmod (k : Int) := (Int.tmod_eq_emod_of_nonneg hm0).symm
  have e4 : wrap64 (1 + m % (k : Int)) = (tw : Int) := by rw [hmk, ht']; exact IntWalk.wrap64_in (tw : Int) (by omega)
  clear hmk
  have hkne2 : ¬ k = 0 := by omega
  have c2 : Kp (∀ b w', w.heap.size ≤ w'.heap.size → WS w.heap.size w' b (chK K) k 0 → Calls Try.prog 34 #[.pointer (some ⟨b, 0, none⟩)] w' fun e w'' => e = .returned (.tuple #[.agg (cellsU8 (chK K k)).toArray, .int .i64 0]) ∧ WS w.heap.size w'' b (chK K) k 1 ∧ Mv w.heap.size w' w'') := kp (fun b w' hB h => S_Next h hk1 hk3 (Nat.zero_le _) hB)
  have c3 : Kp (∀ b w', w.heap.size ≤ w'.heap.size → WS w.heap.size w' b (chK K) k 1 → Calls Try.prog 36 #[.pointer (some ⟨b, 0, none⟩), .int .i64 (tw : Int)] w' fun e w'' => e = .returned (.int .i64 0) ∧ WS w.heap.size w'' b (chK K) k tw ∧ Mv w.heap.size w' w'') := kp (fun b w' hB h => S_Skip (chK_length K) h hk1 hk3 ht1 ht2 hB)
  have c4 : Kp (∀ b w', w.heap.size ≤ w'.heap.size → WS w.heap.size w' b (chK K) k tw → Calls Try.prog 34 #[.pointer (some ⟨b, 0, none⟩)] w' fun e w'' => e = .returned (.tuple #[.agg (cellsU8 (chK K (k - tw))).toArray, .int .i64 0]) ∧ WS w.heap.size w'' b (chK K) k (tw + 1) ∧ Mv w.heap.size w' w'') := kp (fun b w' hB h => S_Next h hk1 hk3 ht2 hB)
  have h0 := chK_length K k
  have h1 := chK_length K (k - tw)
  generalize chK K = F at *
  have q1 : Kp (∀ b w', WS w.heap.size w' b F k (tw + 1) → Calls Try.prog 31 #[.pointer (some ⟨b, 0, none⟩)] w' fun e w'' => e = .returned (.int .i64 ((k : Int) - (tw : Int))) ∧ Below w'.heap.size w' w'') := kp (fun b w' h => by have := S_Left h hk3; rw [show ((k : Int) + 1 - ((tw + 1 : Nat) : Int)) = (k : Int) - (tw : Int) by omega] at this; exact this)
  have q2 : Kp (∀ b w', WS w.heap.size w' b F k (tw + 1) → Calls Try.prog 30 #[.pointer (some ⟨b, 0, none⟩)] w' fun e w'' => e = .returned (.int .i64 ((tw : Int) + 1)) ∧ w' = w'') := kp (fun b w' h => by have := S_At h; rw [Int.natCast_succ] at this; exact this)
  have q3 : Kp (∀ b w', WS w.heap.size w' b F k tw → Calls Try.prog 30 #[.pointer (some ⟨b, 0, none⟩)] w' fun e w'' => e = .returned (.int .i64 (tw : Int)) ∧ w' = w'') := kp (fun b w' h => S_At h)
  generalize F k = A at *
  generalize F (k - tw) = A2 at *
  have HA := kp h0
  have HA2 := kp h1
  clear h0 h1
  have e1 : IntKind.i64.wrap ((tw : Int) + 1) = (tw : Int) + 1 := IntWalk.i64_in _ (by omega)
  have e2 : IntKind.i64.wrap ((k : Int) - (tw : Int)) = (k : Int) - (tw : Int) := IntWalk.i64_in _ (by omega)
  have e3 : IntKind.i64.wrap m = m := IntWalk.i64_in _ (by omega)
  obtain ⟨M, hM⟩ : ∃ M, mostN k = M := ⟨_, rfl⟩
  have cM : Kp (∀ w', Calls Try.prog 33 #[.int .i64 (k : Int)] w' fun e w'' => e = .returned (.int .i64 (M : Int)) ∧ w' = w'') := kp (fun w' => by rw [← hM]; exact R_Most k hk1 hk3 w')
  have HMI : Kp (∀ b m w', WS w.heap.size w' b F k m → ∃ q : Nat, (q : Int) ≤ (M : Int) ∧ (k < m → q = 0) ∧ ∀ w'', Below w'.heap.size w' w'' → Calls Try.prog 32 #[.pointer (some ⟨b, 0, none⟩)] w'' fun e w3 => e = .returned (.int .i64 (q : Int)) ∧ w'' = w3) := kp (fun b m w' h => by
    obtain ⟨q, h1, h2, h3⟩ := S_Minds h hk1
    exact ⟨q, by omega, h2, h3⟩)
  clear hM
  have HB := kp (ba (Below.refl w.heap.size w) (.cells (cellsU8 K).toArray 23))
  have K_s := kp (Blk.new w 23 (cellsU8 K).toArray)
  clear hK
  go_enter Try.func11, Try.ntmps11
  go_wp2_with fail
  refine (pebble_awake _).mono ?_
  rintro e w_1 ⟨rfl, hb_1⟩
  have K_s := kp (K_s.out.bel hb_1)
  have HB := kp (bt' HB.out hb_1 HB.out.size)
  clear hb_1
  have L_s := ldK K HKL.out K_s.out
  go_wp2_with (first | (refine wpL_load rfl 23 _ rfl rfl L_s ?_))
  clear L_s
  refine (c1.out _ HB.out.size).mono ?_
  rintro e w_2 ⟨b_a, rfl, hs_2, hb_2⟩
  have K_s := kp (K_s.out.bel hb_2)
  have HB := kp (bt' HB.out hb_2 HB.out.size)
  have S_a := kp hs_2
  clear hs_2 hb_2
  go_wp2_with fail
  refine (c2.out _ _ HB.out.size S_a.out).mono ?_
  rintro e w_3 ⟨rfl, hs_3, hm_3⟩
  have K_s := kp (hm_3.keep (by decide) (by decide) K_s.out)
  have HB := kp (HB.out.trans hm_3.below)
  have S_a := kp hs_3
  clear hs_3 hm_3
  have hlen_4 := key_cells _ HA.out
  have SC_4 := fun (cur : Array Value) (h : cur.size = 32) => sc_new (P := Try.prog) w_3 23 (cellsU8 A) (cellsU8_one _) cur (by rw [hlen_4]; exact h)
  have hge_x := kp HB.out.size
  have K_s := kp (K_s.out.alloc (.cells (cellsU8 A).toArray 23))
  have S_a := kp (S_a.out.bel (ba (Below.refl _ _) (.cells (cellsU8 A).toArray 23)))
  have HB := kp (ba HB.out (.cells (cellsU8 A).toArray 23))
  have K_x := kp (Blk.new w_3 23 (cellsU8 A).toArray)
  go_wp2_with fail
  clear SC_4 hlen_4
  generalize w_3.alloc (.cells (cellsU8 A).toArray 23) = W_4 at K_s K_x S_a HB ⊢
  generalize w_3.heap.size = b_x at K_x hge_x ⊢
  obtain ⟨u1, iq1, _, cq1⟩ := HMI.out _ _ _ S_a.out
  have CQ1 := kp cq1
  clear cq1
  have gq1 : decide ((M : Int) < (u1 : Int)) = false := decide_eq_false (by omega)
  have gr1 : decide ((u1 : Int) ≤ (M : Int)) = true := decide_eq_true iq1
  refine (CQ1.out _ (Below.refl _ _)).mono ?_
  rintro e w_5 ⟨rfl, rfl⟩
  go_wp2_with fail
  refine (cM.out _).mono ?_
  rintro e w_6 ⟨rfl, rfl⟩
  go_wp2_with fail
  refine (c3.out _ _ HB.out.size S_a.out).mono ?_
  rintro e w_7 ⟨rfl, hs_7, hm_7⟩
  have K_s := kp (hm_7.keep (by decide) (by decide) K_s.out)
  have K_x := kp (hm_7.keep (by decide) (by decide) K_x.out)
  have HB := kp (HB.out.trans hm_7.below)
  have S_a := kp hs_7
  clear hs_7 hm_7
  go_wp2_with fail
  refine (q3.out _ _ S_a.out).mono ?_
  rintro e w_8 ⟨rfl, rfl⟩
  go_wp2_with fail
  obtain ⟨u2, iq2, _, cq2⟩ := HMI.out _ _ _ S_a.out
  have CQ2 := kp cq2
  clear cq2
  have gq2 : decide ((M : Int) < (u2 : Int)) = false := decide_eq_false (by omega)
  have gr2 : decide ((u2 : Int) ≤ (M : Int)) = true := decide_eq_true iq2
  refine (CQ2.out _ (Below.refl _ _)).mono ?_
  rintro e w_9 ⟨rfl, rfl⟩
  go_wp2_with fail
  refine (cM.out _).mono ?_
  rintro e w_10 ⟨rfl, rfl⟩
  go_wp2_with fail
  refine (c4.out _ _ HB.out.size S_a.out).mono ?_
  rintro e w_11 ⟨rfl, hs_11, hm_11⟩
  have K_s := kp (hm_11.keep (by decide) (by decide) K_s.out)
  have K_x := kp (hm_11.keep (by decide) (by decide) K_x.out)
  have HB := kp (HB.out.trans hm_11.below)
  have S_a := kp hs_11
  clear hs_11 hm_11
  have hlen_12 := key_cells _ HA2.out
  have SC_12 := fun (cur : Array Value) (h : cur.size = 32) => sc_new (P := Try.prog) w_11 23 (cellsU8 A2) (cellsU8_one _) cur (by rw [hlen_12]; exact h)
  have hge_y := kp HB.out.size
  have K_s := kp (K_s.out.alloc (.cells (cellsU8 A2).toArray 23))
  have K_x := kp (K_x.out.alloc (.cells (cellsU8 A2).toArray 23))
  have S_a := kp (S_a.out.bel (ba (Below.refl _ _) (.cells (cellsU8 A2).toArray 23)))
  have HB := kp (ba HB.out (.cells (cellsU8 A2).toArray 23))
  have K_y := kp (Blk.new w_11 23 (cellsU8 A2).toArray)
  go_wp2_with fail
  clear SC_12 hlen_12
  generalize w_11.alloc (.cells (cellsU8 A2).toArray 23) = W_12 at K_s K_x K_y S_a HB ⊢
  generalize w_11.heap.size = b_y at K_y hge_y ⊢
  refine (q2.out _ _ S_a.out).mono ?_
  rintro e w_13 ⟨rfl, rfl⟩
  go_wp2_with fail
  refine (q1.out _ _ S_a.out).mono ?_
  rintro e w_14 ⟨rfl, hb_14⟩
  have K_s := kp (K_s.out.bel hb_14)
  have K_x := kp (K_x.out.bel hb_14)
  have K_y := kp (K_y.out.bel hb_14)
  have S_a := kp (S_a.out.bel hb_14)
  have HB := kp (bt' HB.out hb_14 HB.out.size)
  clear hb_14
  go_wp2_with fail
  obtain ⟨u3, iq3, _, cq3⟩ := HMI.out _ _ _ S_a.out
  have CQ3 := kp cq3
  clear cq3
  have gq3 : decide ((M : Int) < (u3 : Int)) = false := decide_eq_false (by omega)
  have gr3 : decide ((u3 : Int) ≤ (M : Int)) = true := decide_eq_true iq3
  refine (CQ3.out _ (Below.refl _ _)).mono ?_
  rintro e w_15 ⟨rfl, rfl⟩
  go_wp2_with fail
  refine (cM.out _).mono ?_
  rintro e w_16 ⟨rfl, rfl⟩
  go_wp2
  go_ret
  exact ⟨rfl, HB.out⟩
end Go.Proofs.Ytfmfdhcmbnabpaa
