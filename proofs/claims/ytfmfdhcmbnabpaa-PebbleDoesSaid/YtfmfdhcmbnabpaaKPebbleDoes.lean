/- PebbleDoes: the walk. -/
import Derived.Test.YtfmfdhcmbnabpaaPeb6
import Derived.Test.YtfmfdhcmbnabpaaArgK
import Derived.Test.YtfmfdhcmbnabpaaArgB
import Derived.Test.YtfmfdhcmbnabpaaChn5
import Derived.Deep.RegionHeld3

namespace Go.Proofs.Ytfmfdhcmbnabpaa
open Go Go.RowKit
set_option linter.unusedVariables false
set_option linter.unusedSimpArgs false
attribute [local go_sem] bmax2 bmin2 bmax bmin cell_ext frozen_ext

set_option maxHeartbeats 8000000 in
set_option maxRecDepth 100000 in
theorem PebbleDoes_walk (w : World) (K : List UInt8) (n : Int) (ad : Option Addr) (c : Nat) (l : List Int) (hK : K.length = 32) (b1 : (Lit.int .i64 n).wf = true) (b2 : l.length ≤ maxLen ∧ (∀ z ∈ l, -9223372036854775808 ≤ z ∧ z ≤ 9223372036854775807) ∧ HeldN w ad l) :
    Calls Try.prog 9 #[keyV K, .int .i64 n, .slice ad l.length c] w fun e w' => e = .returned (.bool true) ∧ Below w.heap.size w w' := by
  unfold keyV
  obtain ⟨hl, hlz, HHELD⟩ := b2
  have HHELD := kp HHELD
  have HKL := kp hK
  by_cases hbad : n < 1 ∨ 1024 < n
  · have cb := kp (fun w' => PNew_bad K n hbad w')
    have HB := kp (ba (Below.refl w.heap.size w) (.cells (cellsU8 K).toArray 23))
    have K_s := kp (Blk.new w 23 (cellsU8 K).toArray)
    skip
    go_enter Try.func9, Try.ntmps9
    go_wp2_with fail
    refine (pebble_awake _).mono ?_
    rintro e w_1 ⟨rfl, hb_1⟩
    have K_s := kp (K_s.out.bel hb_1)
    have HB := kp (bt' HB.out hb_1 HB.out.size)
    clear hb_1
    have L_s := ldK K HKL.out K_s.out
    go_wp2_with (first | (refine wpL_load rfl 23 _ rfl rfl L_s ?_))
    clear L_s
    refine (cb.out _).mono ?_
    rintro e w_2 ⟨rfl, hb_2⟩
    have K_s := kp (K_s.out.bel hb_2)
    have HB := kp (bt' HB.out hb_2 HB.out.size)
    clear hb_2
    by_cases h1 : n < 1
    · have g1 : decide (n < 1) = true := decide_eq_true h1
      go_wp2
      go_ret
      exact ⟨rfl, HB.out⟩
    · have g1 : decide (n < 1) = false := decide_eq_false h1
      have g2 : decide ((1024 : Int) < n) = true := decide_eq_true (hbad.resolve_left h1)
      go_wp2
      go_ret
      exact ⟨rfl, HB.out⟩
  · obtain ⟨k, rfl⟩ : ∃ k : Nat, n = (k : Int) := ⟨n.toNat, by omega⟩
    have hk1 : 1 ≤ k := by omega
    have hk3 : k ≤ 1024 := by omega
    have hkI : (k : Int) ≤ 1024 := by omega
    have g1 : decide ((k : Int) < 1) = false := decide_eq_false (by omega)
    have g2 : decide ((1024 : Int) < (k : Int)) = false := decide_eq_false (by omega)
    have e1 : IntKind.i64.wrap ((k : Int) + 1) = (k : Int) + 1 := IntWalk.i64_in _ (by omega)
    clear hbad
    have c1 : Kp (∀ w', w.heap.size ≤ w'.heap.size → Calls Try.prog 29 #[.agg (cellsU8 K).toArray, .int .i64 (k : Int)] w' fun e w'' => ∃ b, e = .returned (.tuple #[.pointer (some ⟨b, 0, none⟩), .int .i64 0]) ∧ WS w.heap.size w'' b (chK K) k 0 ∧ Below w'.heap.size w' w'') := kp (fun w' h => S_New K hK k hk1 hk3 w' h)
    have cN : Kp (∀ b j w', j ≤ k → w.heap.size ≤ w'.heap.size → WS w.heap.size w' b (chK K) k j → Calls Try.prog 34 #[.pointer (some ⟨b, 0, none⟩)] w' fun e w'' => e = .returned (.tuple #[.agg (cellsU8 (chK K (k - j))).toArray, .int .i64 0]) ∧ WS w.heap.size w'' b (chK K) k (j + 1) ∧ Mv w.heap.size w' w'') := kp (fun b j w' hj hB h => S_Next h hk1 hk3 hj hB)
    have cR : Kp (∀ b j w', j ≤ k → RW w' b K k j → Calls Try.prog 35 #[.pointer (some ⟨b, 0, none⟩)] w' fun e w'' => e = .returned (.tuple #[.agg (cellsU8 (chK K (k - j))).toArray, .int .i64 0]) ∧ RW w'' b K k (j + 1) ∧ w'.grownBy w'' (some b)) := kp (fun b j w' hj h => RNext_some hK h hk1 hk3 hj)
    have HF := kp (chK_length K)
    generalize chK K = F at *
    have cS : Kp (∀ b j p w', j ≤ p → p ≤ k → w.heap.size ≤ w'.heap.size → WS w.heap.size w' b F k j → Calls Try.prog 36 #[.pointer (some ⟨b, 0, none⟩), .int .i64 (p : Int)] w' fun e w'' => e = .returned (.int .i64 0) ∧ WS w.heap.size w'' b F k p ∧ Mv w.heap.size w' w'') := kp (fun b j p w' h1 h2 hB h => S_Skip HF.out h hk1 hk3 h1 h2 hB)
    have cSb : Kp (∀ b (j : Nat) (z : Int) w', z < (j : Int) ∨ (k : Int) < z → WS w.heap.size w' b F k j → Calls Try.prog 36 #[.pointer (some ⟨b, 0, none⟩), .int .i64 z] w' fun e w'' => e = .returned (.int .i64 1) ∧ w' = w'') := kp (fun b j z w' hz h => S_Skip_bad h hz)
    have cA : Kp (∀ b j w', WS w.heap.size w' b F k j → Calls Try.prog 30 #[.pointer (some ⟨b, 0, none⟩)] w' fun e w'' => e = .returned (.int .i64 (j : Int)) ∧ w' = w'') := kp (fun b j w' h => S_At h)
    have cL : Kp (∀ b j w', WS w.heap.size w' b F k j → Calls Try.prog 31 #[.pointer (some ⟨b, 0, none⟩)] w' fun e w'' => e = .returned (.int .i64 ((k : Int) + 1 - (j : Int))) ∧ Below w'.heap.size w' w'') := kp (fun b j w' h => S_Left h hk3)
    have HZ := kp zeroK_length
    obtain ⟨ZK, hZK⟩ : ∃ ZK, zeroK = ZK := ⟨_, rfl⟩
    have n4 : Kp (∀ b j w', k < j → w.heap.size ≤ w'.heap.size → WS w.heap.size w' b F k j → Calls Try.prog 34 #[.pointer (some ⟨b, 0, none⟩)] w' fun e w'' => e = .returned (.tuple #[.agg (cellsU8 ZK).toArray, .int .i64 10]) ∧ WS w.heap.size w'' b F k j ∧ Below w'.heap.size w' w'') := kp (fun b j w' hj hB h => by rw [← hZK]; exact S_none h hj hB)
    have n5 : Kp (∀ b j w', k < j → RW w' b K k j → Calls Try.prog 35 #[.pointer (some ⟨b, 0, none⟩)] w' fun e w'' => e = .returned (.tuple #[.agg (cellsU8 ZK).toArray, .int .i64 10]) ∧ Below w'.heap.size w' w'') := kp (fun b j w' hj h => by rw [← hZK]; exact RNext_none hK h hj)
    rw [hZK] at HZ
    clear hZK
    obtain ⟨M, hM⟩ : ∃ M, mostN k = M := ⟨_, rfl⟩
    have cM : Kp (∀ w', Calls Try.prog 33 #[.int .i64 (k : Int)] w' fun e w'' => e = .returned (.int .i64 (M : Int)) ∧ w' = w'') := kp (fun w' => by rw [← hM]; exact R_Most k hk1 hk3 w')
    have HMI : Kp (∀ b m w', WS w.heap.size w' b F k m → ∃ q : Nat, (q : Int) ≤ (M : Int) ∧ (k < m → q = 0) ∧ ∀ w'', Below w'.heap.size w' w'' → Calls Try.prog 32 #[.pointer (some ⟨b, 0, none⟩)] w'' fun e w3 => e = .returned (.int .i64 (q : Int)) ∧ w'' = w3) := kp (fun b m w' h => by
      obtain ⟨q, h1, h2, h3⟩ := S_Minds h hk1
      exact ⟨q, by omega, h2, h3⟩)
    clear hM
    have HB := kp (ba (Below.refl w.heap.size w) (.cells (cellsU8 K).toArray 23))
    have K_s := kp (Blk.new w 23 (cellsU8 K).toArray)
    clear hK
    go_enter Try.func9, Try.ntmps9
    go_wp2_with fail
    refine (pebble_awake _).mono ?_
    rintro e w_1 ⟨rfl, hb_1⟩
    have K_s := kp (K_s.out.bel hb_1)
    have HB := kp (bt' HB.out hb_1 HB.out.size)
    clear hb_1
    have L_s := ldK K HKL.out K_s.out
    go_wp2_with (first | (refine wpL_load rfl 23 _ rfl rfl L_s ?_))
    clear L_s
    refine (c1.out _ HB.out.size).mono ?_
    rintro e w_2 ⟨b_a, rfl, hs_2, hb_2⟩
    have K_s := kp (K_s.out.bel hb_2)
    have HB := kp (bt' HB.out hb_2 HB.out.size)
    have S_a := kp hs_2
    clear hs_2 hb_2
    by_cases h40 : (40 : Int) < (k : Int)
    · have g3 : decide ((40 : Int) < (k : Int)) = true := decide_eq_true h40
      obtain ⟨q, iq, _, cq⟩ := HMI.out _ _ _ S_a.out
      have CQ := kp cq
      clear cq
      have gq : decide ((q : Int) ≤ (M : Int)) = true := decide_eq_true iq
      go_wp2_with fail
      refine (cA.out _ _ _ S_a.out).mono ?_
      rintro e w_3 ⟨rfl, rfl⟩
      go_wp2_with fail
      refine (cL.out _ _ _ S_a.out).mono ?_
      rintro e w_4 ⟨rfl, hb_4⟩
      have ez : (k : Int) + 1 - ((0 : Nat) : Int) = (k : Int) + 1 := by omega
      have HB := kp (bt' HB.out hb_4 HB.out.size)
      go_wp2_with fail
      refine (CQ.out _ hb_4).mono ?_
      rintro e w_90 ⟨rfl, rfl⟩
      go_wp2_with fail
      refine (cM.out _).mono ?_
      rintro e w_91 ⟨rfl, rfl⟩
      go_wp2
      go_ret
      exact ⟨rfl, HB.out⟩
    · have g3 : decide ((40 : Int) < (k : Int)) = false := decide_eq_false h40
      have L_s := ldK K HKL.out K_s.out
      have HRB := kp HB.out.size
      have R_r : Kp (RW _ _ K k 0) := kp (Blk.new w_2 54 (rwL K k 0).toArray)
      have S_a := kp (S_a.out.bel (ba (Below.refl _ _) (.cells (rwL K k 0).toArray 54)))
      have HB := kp (ba HB.out (.cells (rwL K k 0).toArray 54))
      obtain ⟨RL, hRL⟩ : ∃ RL, rwL K k 0 = RL := ⟨_, rfl⟩
      have HRL := kp hRL
      go_wp2_with (first | (refine wpL_load rfl 23 _ rfl rfl L_s ?_) | (refine wpL_val 62 rfl rfl (.agg RL.toArray) (exec_build (parts := #[(0, .agg (cellsU8 K).toArray), (1, .int .i64 (k : Int))]) rfl (by simp [Act.eval, Act.put]) (by rw [← HRL.out]; exact build_rw K (k : Int) HKL.out _)) ?_))
      clear L_s
      rw [hRL] at R_r S_a HB
      clear hRL
      generalize w_2.alloc (.cells RL.toArray 54) = W at R_r S_a HB ⊢
      generalize w_2.heap.size = b_r at R_r HRB ⊢
      clear HRL K_s c1
      go_loopw [10] (fun i wr => ∃ j p : Nat, j ≤ l.length ∧ j ≤ 60 ∧ i = .int .i64 (j : Int) ∧ Kp (WS w.heap.size wr b_a F k p) ∧ Kp (RW wr b_r K k p) ∧ Kp (Below w.heap.size w wr)) (fun i _ => 60 - (intOf i).toNat)
      case atStart => exact ⟨0, 0, Nat.zero_le _, Nat.zero_le _, rfl, S_a, R_r, HB⟩
      case round =>
        clear S_a R_r HB
        obtain ⟨j, m, hj, hj60, rfl, S_a, R_r, HB⟩ := hrel
        by_cases hlt : j < l.length ∧ j < 60
        · obtain ⟨hjl, hj6⟩ := hlt
          have i0 : (0 : Int) ≤ (j : Int) := by omega
          have i1 : (j : Int) < (l.length : Int) := by omega
          have i2 : (j : Int) < 60 := by omega
          have d1 : decide ((j : Int) < (l.length : Int)) = true := decide_eq_true i1
          have d2 : decide ((j : Int) < 60) = true := decide_eq_true i2
          have ej : IntKind.i64.wrap ((j : Int) + 1) = (j : Int) + 1 := IntWalk.i64_in _ (by omega)
          obtain ⟨lb, lo, rfl, hlb, hh⟩ := HHELD.out (by intro e; subst e; simp at hjl)
          have hz0 := hh j _ (List.getElem?_eq_getElem hjl)
          have hzb := hlz _ (List.getElem_mem hjl)
          clear hh
          generalize l[j] = z at hz0 hzb
          have hz := (HB.out.cell (p := ⟨lb, lo + j, none⟩) hlb).trans hz0
          have hlr : lb < wr.heap.size := Nat.lt_of_lt_of_le hlb HB.out.size
          by_cases hneg : z < 0
          · have gz : decide (z < 0) = true := decide_eq_true hneg
            by_cases hmk : m ≤ k
            · skip
              have CN := kp (fun b w' h1 h2 => cN.out b m w' hmk h1 h2)
              have CR := kp (fun b w' h => cR.out b m w' hmk h)
              have HA := kp (HF.out (k - m))
              generalize F (k - m) = A at CN CR HA
              obtain ⟨p, hp⟩ : ∃ p, m + 1 = p := ⟨_, rfl⟩
              rw [hp] at CN CR
              have hpk : p ≤ k + 1 := by omega
              clear hp
              go_wp2_with fail
              clear hz hlr
              refine (CN.out _ _ HB.out.size S_a.out).mono ?_
              rintro e w_5 ⟨rfl, hs_5, hm_5⟩
              have R_r : Kp (RW _ _ _ _ _) := kp (hm_5.keep (by decide) (by decide) R_r.out)
              have HB := kp (HB.out.trans hm_5.below)
              have S_a := kp hs_5
              clear hs_5 hm_5
              have hlen_6 := key_cells _ HA.out
              have SC_6 := fun (cur : Array Value) (h : cur.size = 32) => sc_new (P := Try.prog) w_5 23 (cellsU8 A) (cellsU8_one _) cur (by rw [hlen_6]; exact h)
              have hge_x := kp HB.out.size
              have S_a := kp (S_a.out.bel (ba (Below.refl _ _) (.cells (cellsU8 A).toArray 23)))
              have R_r := kp (R_r.out.bel (ba (Below.refl _ _) (.cells (cellsU8 A).toArray 23)))
              have HB := kp (ba HB.out (.cells (cellsU8 A).toArray 23))
              have K_x := kp (Blk.new w_5 23 (cellsU8 A).toArray)
              go_wp2_with fail
              clear SC_6 hlen_6
              generalize w_5.alloc (.cells (cellsU8 A).toArray 23) = W_6 at K_x S_a R_r HB ⊢
              generalize w_5.heap.size = b_x at K_x hge_x ⊢
              refine (CR.out _ _ R_r.out).mono ?_
              rintro e w_7 ⟨rfl, hr_7, hg_7⟩
              have K_x := kp (K_x.out.grown hg_7 (by intro e; injection e with e; exact (Blk.ne_ K_x.out R_r.out (by decide)) e))
              have S_a := kp (S_a.out.ref R_r.out hg_7)
              have R_r := kp hr_7
              have HB := kp (HB.out.grown hg_7 HB.out.size (fun k hk => by injection hk with e; have := HRB.out; omega))
              clear hr_7 hg_7
              have hlen_8 := key_cells _ HA.out
              have SC_8 := fun (cur : Array Value) (h : cur.size = 32) => sc_new (P := Try.prog) w_7 23 (cellsU8 A) (cellsU8_one _) cur (by rw [hlen_8]; exact h)
              have hge_y := kp HB.out.size
              have K_x := kp (K_x.out.alloc (.cells (cellsU8 A).toArray 23))
              have S_a := kp (S_a.out.bel (ba (Below.refl _ _) (.cells (cellsU8 A).toArray 23)))
              have R_r := kp (R_r.out.bel (ba (Below.refl _ _) (.cells (cellsU8 A).toArray 23)))
              have HB := kp (ba HB.out (.cells (cellsU8 A).toArray 23))
              have K_y := kp (Blk.new w_7 23 (cellsU8 A).toArray)
              go_upto_region 17 with (fail)
              clear SC_8 hlen_8
              generalize w_7.alloc (.cells (cellsU8 A).toArray 23) = W_8 at K_x K_y S_a R_r HB ⊢
              generalize w_7.heap.size = b_y at K_y hge_y ⊢
              refine wp_region_extP 8 ?_
              simp only [List.append_eq, List.cons_append, List.nil_append, List.take_succ_cons, List.take_zero, List.drop_succ_cons, List.drop_zero]
              have Q_x := kp (fun x => ldK A HA.out (K_x.out.bel (ext_below W_8 x)))
              have Q_y := kp (fun x => ldK A HA.out (K_y.out.bel (ext_below W_8 x)))
              repeat (first
                | (go_big_quiet_want; refine quiet_load _ rfl 23 _ rfl rfl (fun w hw => by obtain ⟨x, rfl⟩ := hw; exact Q_x.out x) ?_; go_simp; go_big_quiet_on)
                | (go_big_quiet_want; refine quiet_load _ rfl 23 _ rfl rfl (fun w hw => by obtain ⟨x, rfl⟩ := hw; exact Q_y.out x) ?_; go_simp; go_big_quiet_on)
                | (go_big_quiet_want; refine quiet_nek (D := A) (E := A) _ rfl rfl rfl rfl HA.out HA.out ?_; simp only [decide_true, Bool.not_true]; go_simp; go_big_quiet_on)
                | go_big_quiet_step (fail))
              refine wpQuiet_nil ?_
              rintro z
              have HB := kp (bt' HB.out (ext_below W_8 z) HB.out.size)
              have R_r := kp (R_r.out.bel (ext_below W_8 z))
              have S_a := kp (S_a.out.bel (ext_below W_8 z))
              clear K_x K_y Q_x Q_y
              generalize W_8.ext z = V1 at HB R_r S_a ⊢
              have hpI : (p : Int) ≤ 9223372036854775000 := by have := S_a.out.le; omega
              have hpI2 : (p : Int) ≤ (k : Int) + 1 := by have := S_a.out.le; omega
              obtain ⟨q, iq, _, cq⟩ := HMI.out _ _ _ S_a.out
              have CQ := kp cq
              clear cq
              have gq : decide ((M : Int) < (q : Int)) = false := decide_eq_false (by omega)
              have gq0 : decide ((q : Int) < 0) = false := decide_eq_false (by omega)
              have e2 : IntKind.i64.wrap ((k : Int) + 1 - (p : Int)) = (k : Int) + 1 - (p : Int) := IntWalk.i64_in _ (by omega)
              obtain ⟨rc0, rc1, rlb⟩ := R_r.out.cells HKL.out
              go_upto_region 21 with (fail)
              have HX := kp (fun x => S_a.out.bel (ext_below V1 x))
              refine wp_region_ext [0, 1, 2, 3, 4, 5, 6, 7, 8, 9, 10, 11, 12, 13, 14, 15, 16, 17, 18, 19, 20, 21, 22, 23, 24, 25, 26, 27, 28, 29] [30] (by kernel_rfl) (by kernel_rfl) ?_
              simp only [List.append_eq, List.cons_append, List.nil_append, List.map_cons, List.map_nil, List.getD_cons_succ, List.getD_cons_zero]
              repeat (first
                | go_big_quiet_step (first | (go_at_call 30; with_reducible exact Calls.ext_same (cA.out _ _ _ (HX.out _))) | (go_at_call 31; with_reducible exact Calls.ext_of (cL.out _ _ _ (HX.out _))) | (go_at_call 32; with_reducible exact Calls.ext_same (CQ.out _ (ext_below V1 _))) | (go_at_call 33; with_reducible exact Calls.ext_same (cM.out _))))
              refine wpQuiet_nil ?_
              rintro z
              have HB := kp (bt' HB.out (ext_below V1 z) HB.out.size)
              have R_r := kp (R_r.out.bel (ext_below V1 z))
              have S_a := kp (S_a.out.bel (ext_below V1 z))
              clear rc0 rc1 rlb HX
              generalize V1.ext z = V at HB R_r S_a ⊢
              go_wp2
              go_roundw
              case measure => simp [intOf]; omega
              case rel => exact ⟨j + 1, p, by omega, by omega, by congr 1, S_a, R_r, HB⟩
            · skip
              have hmk' : k < m := by omega
              go_wp2_with fail
              clear hz hlr
              refine (n4.out _ _ _ hmk' HB.out.size S_a.out).mono ?_
              rintro e w_9 ⟨rfl, hs_9, hb_9⟩
              clear hs_9
              have S_a := kp (S_a.out.bel hb_9)
              have R_r := kp (R_r.out.bel hb_9)
              have HB := kp (bt' HB.out hb_9 HB.out.size)
              clear hb_9
              have hlen_10 := key_cells _ HZ.out
              have SC_10 := fun (cur : Array Value) (h : cur.size = 32) => sc_new (P := Try.prog) w_9 23 (cellsU8 ZK) (cellsU8_one _) cur (by rw [hlen_10]; exact h)
              have hge_x := kp HB.out.size
              have S_a := kp (S_a.out.bel (ba (Below.refl _ _) (.cells (cellsU8 ZK).toArray 23)))
              have R_r := kp (R_r.out.bel (ba (Below.refl _ _) (.cells (cellsU8 ZK).toArray 23)))
              have HB := kp (ba HB.out (.cells (cellsU8 ZK).toArray 23))
              have K_x := kp (Blk.new w_9 23 (cellsU8 ZK).toArray)
              go_wp2_with fail
              clear SC_10 hlen_10
              generalize w_9.alloc (.cells (cellsU8 ZK).toArray 23) = W_10 at K_x S_a R_r HB ⊢
              generalize w_9.heap.size = b_x at K_x hge_x ⊢
              refine (n5.out _ _ _ hmk' R_r.out).mono ?_
              rintro e w_11 ⟨rfl, hb_11⟩
              have K_x := kp (K_x.out.bel hb_11)
              have S_a := kp (S_a.out.bel hb_11)
              have R_r := kp (R_r.out.bel hb_11)
              have HB := kp (bt' HB.out hb_11 HB.out.size)
              clear hb_11
              have hlen_12 := key_cells _ HZ.out
              have SC_12 := fun (cur : Array Value) (h : cur.size = 32) => sc_new (P := Try.prog) w_11 23 (cellsU8 ZK) (cellsU8_one _) cur (by rw [hlen_12]; exact h)
              have hge_y := kp HB.out.size
              have K_x := kp (K_x.out.alloc (.cells (cellsU8 ZK).toArray 23))
              have S_a := kp (S_a.out.bel (ba (Below.refl _ _) (.cells (cellsU8 ZK).toArray 23)))
              have R_r := kp (R_r.out.bel (ba (Below.refl _ _) (.cells (cellsU8 ZK).toArray 23)))
              have HB := kp (ba HB.out (.cells (cellsU8 ZK).toArray 23))
              have K_y := kp (Blk.new w_11 23 (cellsU8 ZK).toArray)
              go_upto_region 17 with (fail)
              clear SC_12 hlen_12
              generalize w_11.alloc (.cells (cellsU8 ZK).toArray 23) = W_12 at K_x K_y S_a R_r HB ⊢
              generalize w_11.heap.size = b_y at K_y hge_y ⊢
              refine wp_region_extP 8 ?_
              simp only [List.append_eq, List.cons_append, List.nil_append, List.take_succ_cons, List.take_zero, List.drop_succ_cons, List.drop_zero]
              have Q_x := kp (fun x => ldK ZK HZ.out (K_x.out.bel (ext_below W_12 x)))
              have Q_y := kp (fun x => ldK ZK HZ.out (K_y.out.bel (ext_below W_12 x)))
              repeat (first
                | (go_big_quiet_want; refine quiet_load _ rfl 23 _ rfl rfl (fun w hw => by obtain ⟨x, rfl⟩ := hw; exact Q_x.out x) ?_; go_simp; go_big_quiet_on)
                | (go_big_quiet_want; refine quiet_load _ rfl 23 _ rfl rfl (fun w hw => by obtain ⟨x, rfl⟩ := hw; exact Q_y.out x) ?_; go_simp; go_big_quiet_on)
                | (go_big_quiet_want; refine quiet_nek (D := ZK) (E := ZK) _ rfl rfl rfl rfl HZ.out HZ.out ?_; simp only [decide_true, Bool.not_true]; go_simp; go_big_quiet_on)
                | go_big_quiet_step (fail))
              refine wpQuiet_nil ?_
              rintro z
              have HB := kp (bt' HB.out (ext_below W_12 z) HB.out.size)
              have R_r := kp (R_r.out.bel (ext_below W_12 z))
              have S_a := kp (S_a.out.bel (ext_below W_12 z))
              clear K_x K_y Q_x Q_y
              generalize W_12.ext z = V1 at HB R_r S_a ⊢
              obtain ⟨p, hp⟩ : ∃ p, m = p := ⟨_, rfl⟩
              rw [hp] at S_a R_r
              clear hp
              have hpI : (p : Int) ≤ 9223372036854775000 := by have := S_a.out.le; omega
              have hpI2 : (p : Int) ≤ (k : Int) + 1 := by have := S_a.out.le; omega
              obtain ⟨q, iq, _, cq⟩ := HMI.out _ _ _ S_a.out
              have CQ := kp cq
              clear cq
              have gq : decide ((M : Int) < (q : Int)) = false := decide_eq_false (by omega)
              have gq0 : decide ((q : Int) < 0) = false := decide_eq_false (by omega)
              have e2 : IntKind.i64.wrap ((k : Int) + 1 - (p : Int)) = (k : Int) + 1 - (p : Int) := IntWalk.i64_in _ (by omega)
              obtain ⟨rc0, rc1, rlb⟩ := R_r.out.cells HKL.out
              go_upto_region 21 with (fail)
              have HX := kp (fun x => S_a.out.bel (ext_below V1 x))
              refine wp_region_ext [0, 1, 2, 3, 4, 5, 6, 7, 8, 9, 10, 11, 12, 13, 14, 15, 16, 17, 18, 19, 20, 21, 22, 23, 24, 25, 26, 27, 28, 29] [30] (by kernel_rfl) (by kernel_rfl) ?_
              simp only [List.append_eq, List.cons_append, List.nil_append, List.map_cons, List.map_nil, List.getD_cons_succ, List.getD_cons_zero]
              repeat (first
                | go_big_quiet_step (first | (go_at_call 30; with_reducible exact Calls.ext_same (cA.out _ _ _ (HX.out _))) | (go_at_call 31; with_reducible exact Calls.ext_of (cL.out _ _ _ (HX.out _))) | (go_at_call 32; with_reducible exact Calls.ext_same (CQ.out _ (ext_below V1 _))) | (go_at_call 33; with_reducible exact Calls.ext_same (cM.out _))))
              refine wpQuiet_nil ?_
              rintro z
              have HB := kp (bt' HB.out (ext_below V1 z) HB.out.size)
              have R_r := kp (R_r.out.bel (ext_below V1 z))
              have S_a := kp (S_a.out.bel (ext_below V1 z))
              clear rc0 rc1 rlb HX
              generalize V1.ext z = V at HB R_r S_a ⊢
              go_wp2
              go_roundw
              case measure => simp [intOf]; omega
              case rel => exact ⟨j + 1, p, by omega, by omega, by congr 1, S_a, R_r, HB⟩
          · have gz : decide (z < 0) = false := decide_eq_false hneg
            by_cases hgood : (m : Int) ≤ z ∧ z ≤ (k : Int)
            · skip
              obtain ⟨hg1, hg2⟩ := hgood
              obtain ⟨p, rfl⟩ : ∃ p : Nat, z = (p : Int) := ⟨z.toNat, by omega⟩
              have HBD := HB.out.drew
              have hSd := S_a.out.bel (Below.refl wr.heap.size wr).drew
              have hRd := R_r.out.bel (Below.refl wr.heap.size wr).drew
              go_wp2_with fail
              go_region_held3 (fun w' => w'.cell? ⟨lb, lo + j, none⟩ = some (.int .i64 (p : Int)))
                (first | (exact (Below.cell (p := ⟨lb, lo + j, none⟩) HBD hlb).trans hz0) | (exact (Below.cell (p := ⟨lb, lo + j, none⟩) hb5 hlb).trans hz0) | (exact (Below.cell (p := ⟨lb, lo + j, none⟩) hb6 hlb).trans hz0))
                (first
                  | (go_at_call 36; refine (cS.out _ _ _ _ (by omega) (by omega) HBD.size hSd).mono ?_; rintro e w5 ⟨rfl, hs5, hm5⟩; have hb5 := HBD.trans hm5.below; have hr5 : RW w5 b_r K k m := hm5.keep (by decide) (by decide) hRd)
                  | (go_at_call 37; refine (RSkip_good HKL.out hr5 (by omega) (by omega)).mono ?_; rintro e w6 ⟨rfl, hr6, hg6⟩; have hb6 := hb5.grown hg6 hb5.size (fun k hk => by injection hk with e; have := HRB.out; omega); have hs6 := hs5.ref hr5 hg6))
              have S_a := kp hs6
              have R_r := kp hr6
              have HB := kp hb6
              clear hs5 hm5 hb5 hr5 hs6 hr6 hb6 hg6 HBD hSd hRd hz hlr
              have hpI : (p : Int) ≤ 9223372036854775000 := by have := S_a.out.le; omega
              have hpI2 : (p : Int) ≤ (k : Int) + 1 := by have := S_a.out.le; omega
              obtain ⟨q, iq, _, cq⟩ := HMI.out _ _ _ S_a.out
              have CQ := kp cq
              clear cq
              have gq : decide ((M : Int) < (q : Int)) = false := decide_eq_false (by omega)
              have gq0 : decide ((q : Int) < 0) = false := decide_eq_false (by omega)
              have e2 : IntKind.i64.wrap ((k : Int) + 1 - (p : Int)) = (k : Int) + 1 - (p : Int) := IntWalk.i64_in _ (by omega)
              obtain ⟨rc0, rc1, rlb⟩ := R_r.out.cells HKL.out
              go_upto_region 21 with (fail)
              have HX := kp (fun x => S_a.out.bel (ext_below w6 x))
              refine wp_region_ext [0, 1, 2, 3, 4, 5, 6, 7, 8, 9, 10, 11, 12, 13, 14, 15, 16, 17, 18, 19, 20, 21, 22, 23, 24, 25, 26, 27, 28, 29] [30] (by kernel_rfl) (by kernel_rfl) ?_
              simp only [List.append_eq, List.cons_append, List.nil_append, List.map_cons, List.map_nil, List.getD_cons_succ, List.getD_cons_zero]
              repeat (first
                | go_big_quiet_step (first | (go_at_call 30; with_reducible exact Calls.ext_same (cA.out _ _ _ (HX.out _))) | (go_at_call 31; with_reducible exact Calls.ext_of (cL.out _ _ _ (HX.out _))) | (go_at_call 32; with_reducible exact Calls.ext_same (CQ.out _ (ext_below w6 _))) | (go_at_call 33; with_reducible exact Calls.ext_same (cM.out _))))
              refine wpQuiet_nil ?_
              rintro z
              have HB := kp (bt' HB.out (ext_below w6 z) HB.out.size)
              have R_r := kp (R_r.out.bel (ext_below w6 z))
              have S_a := kp (S_a.out.bel (ext_below w6 z))
              clear rc0 rc1 rlb HX
              generalize w6.ext z = V at HB R_r S_a ⊢
              go_wp2
              go_roundw
              case measure => simp [intOf]; omega
              case rel => exact ⟨j + 1, p, by omega, by omega, by congr 1, S_a, R_r, HB⟩
            · skip
              have hbd : z < (m : Int) ∨ (k : Int) < z := by omega
              have HBD := HB.out.drew
              have hSd := S_a.out.bel (Below.refl wr.heap.size wr).drew
              have hRd := R_r.out.bel (Below.refl wr.heap.size wr).drew
              go_wp2_with fail
              go_region_held3 (fun w' => w'.cell? ⟨lb, lo + j, none⟩ = some (.int .i64 z))
                (first | (exact (Below.cell (p := ⟨lb, lo + j, none⟩) HBD hlb).trans hz0) | (exact (Below.cell (p := ⟨lb, lo + j, none⟩) hb5 hlb).trans hz0) | (exact (Below.cell (p := ⟨lb, lo + j, none⟩) hb6 hlb).trans hz0))
                (first
                  | (go_at_call 36; refine (cSb.out _ _ _ _ hbd hSd).mono ?_; rintro e w5 ⟨rfl, rfl⟩; have hb5 := HBD)
                  | (go_at_call 37; refine (RSkip_bad HKL.out hRd hbd).mono ?_; rintro e w6 ⟨rfl, rfl⟩; have hb6 := HBD))
              have S_a := kp hSd
              have R_r := kp hRd
              have HB := kp HBD
              clear hb5 hb6 HBD hSd hRd hz hlr
              generalize wr.drew = V1 at S_a R_r HB ⊢
              obtain ⟨p, hp⟩ : ∃ p, m = p := ⟨_, rfl⟩
              rw [hp] at S_a R_r
              clear hp hbd
              have hpI : (p : Int) ≤ 9223372036854775000 := by have := S_a.out.le; omega
              have hpI2 : (p : Int) ≤ (k : Int) + 1 := by have := S_a.out.le; omega
              obtain ⟨q, iq, _, cq⟩ := HMI.out _ _ _ S_a.out
              have CQ := kp cq
              clear cq
              have gq : decide ((M : Int) < (q : Int)) = false := decide_eq_false (by omega)
              have gq0 : decide ((q : Int) < 0) = false := decide_eq_false (by omega)
              have e2 : IntKind.i64.wrap ((k : Int) + 1 - (p : Int)) = (k : Int) + 1 - (p : Int) := IntWalk.i64_in _ (by omega)
              obtain ⟨rc0, rc1, rlb⟩ := R_r.out.cells HKL.out
              go_upto_region 21 with (fail)
              have HX := kp (fun x => S_a.out.bel (ext_below V1 x))
              refine wp_region_ext [0, 1, 2, 3, 4, 5, 6, 7, 8, 9, 10, 11, 12, 13, 14, 15, 16, 17, 18, 19, 20, 21, 22, 23, 24, 25, 26, 27, 28, 29] [30] (by kernel_rfl) (by kernel_rfl) ?_
              simp only [List.append_eq, List.cons_append, List.nil_append, List.map_cons, List.map_nil, List.getD_cons_succ, List.getD_cons_zero]
              repeat (first
                | go_big_quiet_step (first | (go_at_call 30; with_reducible exact Calls.ext_same (cA.out _ _ _ (HX.out _))) | (go_at_call 31; with_reducible exact Calls.ext_of (cL.out _ _ _ (HX.out _))) | (go_at_call 32; with_reducible exact Calls.ext_same (CQ.out _ (ext_below V1 _))) | (go_at_call 33; with_reducible exact Calls.ext_same (cM.out _))))
              refine wpQuiet_nil ?_
              rintro z
              have HB := kp (bt' HB.out (ext_below V1 z) HB.out.size)
              have R_r := kp (R_r.out.bel (ext_below V1 z))
              have S_a := kp (S_a.out.bel (ext_below V1 z))
              clear rc0 rc1 rlb HX
              generalize V1.ext z = V at HB R_r S_a ⊢
              go_wp2
              go_roundw
              case measure => simp [intOf]; omega
              case rel => exact ⟨j + 1, p, by omega, by omega, by congr 1, S_a, R_r, HB⟩
        · have hlt2 : ¬ (j : Int) < (l.length : Int) ∨ ¬ (j : Int) < 60 := by omega
          rcases Decidable.em ((j : Int) < (l.length : Int)) with h1 | h1
          · have d1 : decide ((j : Int) < (l.length : Int)) = true := decide_eq_true h1
            have h2 : ¬ (j : Int) < 60 := by omega
            have d2 : decide ((j : Int) < 60) = false := decide_eq_false h2
            go_wp2
            go_ret
            exact ⟨rfl, HB.out⟩
          · have d1 : decide ((j : Int) < (l.length : Int)) = false := decide_eq_false h1
            go_wp2
            go_ret
            exact ⟨rfl, HB.out⟩
end Go.Proofs.Ytfmfdhcmbnabpaa
