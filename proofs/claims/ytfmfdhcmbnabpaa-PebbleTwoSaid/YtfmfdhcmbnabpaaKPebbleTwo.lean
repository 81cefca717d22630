/- PebbleTwo: the walk. -/
import Derived.Test.YtfmfdhcmbnabpaaPeb8
import Derived.Test.YtfmfdhcmbnabpaaArgK
import Derived.Test.YtfmfdhcmbnabpaaArgB
import Derived.Test.YtfmfdhcmbnabpaaChn5

namespace Go.Proofs.Ytfmfdhcmbnabpaa
open Go Go.RowKit
set_option linter.unusedVariables false
set_option linter.unusedSimpArgs false
attribute [local go_sem] bmax2 bmin2 bmax bmin cell_ext frozen_ext

set_option maxHeartbeats 8000000 in
set_option maxRecDepth 100000 in
theorem PebbleTwo_walk (w : World) (K : List UInt8) (n : Int) (ad : Option Addr) (c : Nat) (l : List Bool) (hK : K.length = 32) (b1 : (Lit.int .u8 n).wf = true) (b2 : l.length ≤ maxLen ∧ HeldB w ad l) :
    Calls Try.prog 13 #[keyV K, .int .u8 n, .slice ad l.length c] w fun e w' => e = .returned (.bool true) ∧ Below w.heap.size w w' := by
  unfold keyV
  obtain ⟨hn0, hn1⟩ := wf_u8 b1
  clear b1
  obtain ⟨k, hk⟩ : ∃ k : Nat, n % 40 + 1 = (k : Int) := ⟨(n % 40 + 1).toNat, by omega⟩
  have hk1 : 1 ≤ k := by omega
  have hk2 : k ≤ 40 := by omega
  have hkI : (k : Int) ≤ 40 := by omega
  have w1' : n % 40 + 1 ≤ 40 := by omega
  have hk3 : k ≤ 1024 := by omega
  have HKL := kp hK
  have c1 : Kp (∀ w', w.heap.size ≤ w'.heap.size → Calls Try.prog 29 #[.agg (cellsU8 K).toArray, .int .i64 (k : Int)] w' fun e w'' => ∃ b, e = .returned (.tuple #[.pointer (some ⟨b, 0, none⟩), .int .i64 0]) ∧ WS w.heap.size w'' b (chK K) k 0 ∧ Below w'.heap.size w' w'') := kp (fun w' h => S_New K hK k hk1 hk3 w' h)
  obtain ⟨hl, HHELD⟩ := b2
  have HHELD := kp HHELD
  have c2 : Kp (∀ b w', w.heap.size ≤ w'.heap.size → WS w.heap.size w' b (chK K) k 0 → Calls Try.prog 29 #[.agg (cellsU8 K).toArray, .int .i64 (k : Int)] w' fun e w'' => ∃ c, e = .returned (.tuple #[.pointer (some ⟨c, 0, none⟩), .int .i64 0]) ∧ W2 w.heap.size w'' b c (chK K) k 0 0 ∧ Below w'.heap.size w' w'') := kp (fun b w' h hw => W2_New K hK k hk1 hk3 w' h hw)
  have cA : Kp (∀ b c i j w', i ≤ k → w.heap.size ≤ w'.heap.size → W2 w.heap.size w' b c (chK K) k i j → Calls Try.prog 34 #[.pointer (some ⟨b, 0, none⟩)] w' fun e w'' => e = .returned (.tuple #[.agg (cellsU8 (chK K (k - i))).toArray, .int .i64 0]) ∧ W2 w.heap.size w'' b c (chK K) k (i + 1) j ∧ Mv w.heap.size w' w'') := kp (fun b c i j w' hi hB h => W2_Next h hk1 hk3 hi hB)
  have cB : Kp (∀ b c i j w', j ≤ k → w.heap.size ≤ w'.heap.size → W2 w.heap.size w' b c (chK K) k i j → Calls Try.prog 34 #[.pointer (some ⟨c, 0, none⟩)] w' fun e w'' => e = .returned (.tuple #[.agg (cellsU8 (chK K (k - j))).toArray, .int .i64 0]) ∧ W2 w.heap.size w'' b c (chK K) k i (j + 1) ∧ Mv w.heap.size w' w'') := kp (fun b c i j w' hj hB h => (W2_Next h.symm hk1 hk3 hj hB).mono fun e w'' ⟨h1, h2, h3⟩ => ⟨h1, h2.symm, h3⟩)
  have HF := kp (chK_length K)
  generalize chK K = F at *
  have HZ := kp zeroK_length
  obtain ⟨ZK, hZK⟩ : ∃ ZK, zeroK = ZK := ⟨_, rfl⟩
  have nA : Kp (∀ b c i j w', k < i → w.heap.size ≤ w'.heap.size → W2 w.heap.size w' b c F k i j → Calls Try.prog 34 #[.pointer (some ⟨b, 0, none⟩)] w' fun e w'' => e = .returned (.tuple #[.agg (cellsU8 ZK).toArray, .int .i64 10]) ∧ W2 w.heap.size w'' b c F k i j ∧ Below w'.heap.size w' w'') := kp (fun b c i j w' hi hB h => by rw [← hZK]; exact W2_none h hi hB)
  have nB : Kp (∀ b c i j w', k < j → w.heap.size ≤ w'.heap.size → W2 w.heap.size w' b c F k i j → Calls Try.prog 34 #[.pointer (some ⟨c, 0, none⟩)] w' fun e w'' => e = .returned (.tuple #[.agg (cellsU8 ZK).toArray, .int .i64 10]) ∧ W2 w.heap.size w'' b c F k i j ∧ Below w'.heap.size w' w'') := kp (fun b c i j w' hj hB h => by rw [← hZK]; exact (W2_none h.symm hj hB).mono fun e w'' ⟨h1, h2, h3⟩ => ⟨h1, h2.symm, h3⟩)
  have tA : Kp (∀ b c i j w', W2 w.heap.size w' b c F k i j → Calls Try.prog 30 #[.pointer (some ⟨b, 0, none⟩)] w' fun e w'' => e = .returned (.int .i64 (i : Int)) ∧ w' = w'') := kp (fun b c i j w' h => S_At h.fst)
  have tB : Kp (∀ b c i j w', W2 w.heap.size w' b c F k i j → Calls Try.prog 30 #[.pointer (some ⟨c, 0, none⟩)] w' fun e w'' => e = .returned (.int .i64 (j : Int)) ∧ w' = w'') := kp (fun b c i j w' h => S_At h.snd)
  have LE : Kp (∀ b c i j w', W2 w.heap.size w' b c F k i j → i ≤ k + 1 ∧ j ≤ k + 1) := kp (fun b c i j w' h => ⟨h.fst.le, h.snd.le⟩)
  rw [hZK] at HZ
  clear hZK
  have HB := kp (ba (Below.refl w.heap.size w) (.cells (cellsU8 K).toArray 23))
  have K_s := kp (Blk.new w 23 (cellsU8 K).toArray)
  clear hK
  go_enter Try.func13, Try.ntmps13
  go_wp2_with fail
  refine (pebble_awake _).mono ?_
  rintro e w_1 ⟨rfl, hb_1⟩
  have K_s := kp (K_s.out.bel hb_1)
  have HB := kp (bt' HB.out hb_1 HB.out.size)
  clear hb_1
  have L_s := ldK K HKL.out K_s.out
  go_wp2_with (first | (refine wpL_load rfl 23 _ rfl rfl L_s ?_))
  clear L_s
  refine (c1.out _ HB.out.size).mono ?_
  rintro e w_2 ⟨b_a, rfl, hs_2, hb_2⟩
  have K_s := kp (K_s.out.bel hb_2)
  have HB := kp (bt' HB.out hb_2 HB.out.size)
  have S_a := kp hs_2
  clear hs_2 hb_2
  have L_s := ldK K HKL.out K_s.out
  go_wp2_with (first | (refine wpL_load rfl 23 _ rfl rfl L_s ?_))
  clear L_s
  refine (c2.out _ _ HB.out.size S_a.out).mono ?_
  rintro e w_3 ⟨b_b, rfl, hs_3, hb_3⟩
  clear S_a K_s
  have HB := kp (bt' HB.out hb_3 HB.out.size)
  have S_p := kp hs_3
  clear hs_3 hb_3 c1 c2
  have T_k := kp (K2.none_ w.heap.size w_3 F k)
  go_wp2
  go_loopw [12, 13, 14] (fun vx vy i wr => ∃ (j m n : Nat) (ax ay : Option Addr) (cx cy : Nat), j ≤ l.length ∧ j ≤ 60 ∧ i = .int .i64 (j : Int) ∧ vx = .slice ax m cx ∧ vy = .slice ay n cy ∧ Kp (W2 w.heap.size wr b_a b_b F k m n) ∧ Kp (K2 w.heap.size wr F k ax m cx ay n cy) ∧ Kp (Below w.heap.size w wr)) (fun _ _ i _ => 60 - (intOf i).toNat)
  case atStart => exact ⟨0, 0, 0, none, none, 0, 0, Nat.zero_le _, Nat.zero_le _, rfl, rfl, rfl, S_p, T_k, HB⟩
  case round =>
    clear S_p T_k HB
    obtain ⟨j, m, n, ax, ay, cx, cy, hj, hj60, rfl, rfl, rfl, S_p, T_k, HB⟩ := hrel
    obtain ⟨hmk, hnk⟩ := LE.out _ _ _ _ _ S_p.out
    by_cases hlt : j < l.length ∧ j < 60
    · obtain ⟨hjl, hj6⟩ := hlt
      have i0 : (0 : Int) ≤ (j : Int) := by omega
      have i1 : (j : Int) < (l.length : Int) := by omega
      have i2 : (j : Int) < 60 := by omega
      have d1 : decide ((j : Int) < (l.length : Int)) = true := decide_eq_true i1
      have d2 : decide ((j : Int) < 60) = true := decide_eq_true i2
      have ej : IntKind.i64.wrap ((j : Int) + 1) = (j : Int) + 1 := IntWalk.i64_in _ (by omega)
      obtain ⟨lb, lo, rfl, hlb, hh⟩ := HHELD.out (by intro e; subst e; simp at hjl)
      have hz0 := hh j _ (List.getElem?_eq_getElem hjl)
      clear hh
      generalize l[j] = z at hz0
      have hz := (HB.out.cell (p := ⟨lb, lo + j, none⟩) hlb).trans hz0
      have hlr : lb < wr.heap.size := Nat.lt_of_lt_of_le hlb HB.out.size
      cases z with
      | true =>
        by_cases hk9 : m ≤ k
        · skip
          have CN := kp (fun w' h1 h2 => cA.out b_a b_b m n w' hk9 h1 h2)
          have HA := kp (HF.out (k - m))
          obtain ⟨A, hA⟩ : ∃ A, F (k - m) = A := ⟨_, rfl⟩
          rw [hA] at CN HA
          have HAA := kp hA
          clear hA
          go_wp2_with fail
          clear hz hlr
          refine (CN.out _ HB.out.size S_p.out).mono ?_
          rintro e w_4 ⟨rfl, hs_4, hm_4⟩
          have T_k := kp (T_k.out.mv hm_4)
          have HB := kp (HB.out.trans hm_4.below)
          have S_p := kp hs_4
          clear hs_4 hm_4
          have hlen_5 := key_cells _ HA.out
          have SC_5 := fun (cur : Array Value) (h : cur.size = 32) => sc_new (P := Try.prog) w_4 23 (cellsU8 A) (cellsU8_one _) cur (by rw [hlen_5]; exact h)
          have hge_x := kp HB.out.size
          have S_p := kp (S_p.out.bel (ba (Below.refl _ _) (.cells (cellsU8 A).toArray 23)))
          have T_k := kp (T_k.out.bel (ba (Below.refl _ _) (.cells (cellsU8 A).toArray 23)))
          have HB := kp (ba HB.out (.cells (cellsU8 A).toArray 23))
          have K_x := kp (Blk.new w_4 23 (cellsU8 A).toArray)
          go_upto_region 15 with (fail)
          clear SC_5 hlen_5
          generalize w_4.alloc (.cells (cellsU8 A).toArray 23) = W_5 at K_x S_p T_k HB ⊢
          generalize w_4.heap.size = b_x at K_x hge_x ⊢
          have L_x := ldK A HA.out K_x.out
          have hbl := ba (Below.refl W_5.heap.size W_5) (.cells (cellsU8 A).toArray 23)
          have hkn := Blk.new W_5 23 (cellsU8 A).toArray
          rw [← HAA.out] at hkn
          obtain ⟨g', c', Y, hr, hT, hS, hB⟩ := K2.append HF.out (T_k.out.bel hbl) (S_p.out.bel hbl) (bt' HB.out hbl HB.out.size) (by omega) (by rw [HAA.out] at hkn ⊢; exact hkn)
          have S_p := kp hS
          have T_k := kp hT
          have HB := kp hB
          clear hT hS hB hkn hbl
          go_wp2_with (first | (refine wpL_load rfl 23 _ rfl rfl L_x ?_) | (refine wpL_make 67 rfl rfl (.slice (some ⟨W_5.heap.size, 0, none⟩) 1 1) (exec_buildSlice (parts := #[(0, .agg (cellsU8 A).toArray)]) rfl (by simp [Act.eval, Act.put]) (slice_key A HA.out _)) ?_) | (refine wpL_append 68 rfl rfl _ _ 61 rfl rfl rfl hr ?_))
          clear hr L_x K_x
          go_roundw
          case measure => simp [intOf]; omega
          case rel => exact ⟨j + 1, m + 1, n, some ⟨g', 0, none⟩, ay, c', cy, by omega, by omega, by congr 1, rfl, rfl, S_p, T_k, HB⟩
        · skip
          have hk8 : k < m := by omega
          go_wp2_with fail
          clear hz hlr
          refine (nA.out _ _ _ _ _ hk8 HB.out.size S_p.out).mono ?_
          rintro e w_6 ⟨rfl, hs_6, hb_6⟩
          clear hs_6
          have S_p := kp (S_p.out.bel hb_6)
          have T_k := kp (T_k.out.bel hb_6)
          have HB := kp (bt' HB.out hb_6 HB.out.size)
          clear hb_6
          have hlen_7 := key_cells _ HZ.out
          have SC_7 := fun (cur : Array Value) (h : cur.size = 32) => sc_new (P := Try.prog) w_6 23 (cellsU8 ZK) (cellsU8_one _) cur (by rw [hlen_7]; exact h)
          have hge_x := kp HB.out.size
          have S_p := kp (S_p.out.bel (ba (Below.refl _ _) (.cells (cellsU8 ZK).toArray 23)))
          have T_k := kp (T_k.out.bel (ba (Below.refl _ _) (.cells (cellsU8 ZK).toArray 23)))
          have HB := kp (ba HB.out (.cells (cellsU8 ZK).toArray 23))
          have K_x := kp (Blk.new w_6 23 (cellsU8 ZK).toArray)
          go_wp2
          clear SC_7 hlen_7
          generalize w_6.alloc (.cells (cellsU8 ZK).toArray 23) = W_7 at K_x S_p T_k HB ⊢
          generalize w_6.heap.size = b_x at K_x hge_x ⊢
          go_roundw
          case measure => simp [intOf]; omega
          case rel => exact ⟨j + 1, m, n, ax, ay, cx, cy, by omega, by omega, by congr 1, rfl, rfl, S_p, T_k, HB⟩
      | false =>
        by_cases hk9 : n ≤ k
        · skip
          have CN := kp (fun w' h1 h2 => cB.out b_a b_b m n w' hk9 h1 h2)
          have HA := kp (HF.out (k - n))
          obtain ⟨A, hA⟩ : ∃ A, F (k - n) = A := ⟨_, rfl⟩
          rw [hA] at CN HA
          have HAA := kp hA
          clear hA
          go_wp2_with fail
          clear hz hlr
          refine (CN.out _ HB.out.size S_p.out).mono ?_
          rintro e w_8 ⟨rfl, hs_8, hm_8⟩
          have T_k := kp (T_k.out.mv hm_8)
          have HB := kp (HB.out.trans hm_8.below)
          have S_p := kp hs_8
          clear hs_8 hm_8
          have hlen_9 := key_cells _ HA.out
          have SC_9 := fun (cur : Array Value) (h : cur.size = 32) => sc_new (P := Try.prog) w_8 23 (cellsU8 A) (cellsU8_one _) cur (by rw [hlen_9]; exact h)
          have hge_x := kp HB.out.size
          have S_p := kp (S_p.out.bel (ba (Below.refl _ _) (.cells (cellsU8 A).toArray 23)))
          have T_k := kp (T_k.out.bel (ba (Below.refl _ _) (.cells (cellsU8 A).toArray 23)))
          have HB := kp (ba HB.out (.cells (cellsU8 A).toArray 23))
          have K_x := kp (Blk.new w_8 23 (cellsU8 A).toArray)
          go_upto_region 18 with (fail)
          clear SC_9 hlen_9
          generalize w_8.alloc (.cells (cellsU8 A).toArray 23) = W_9 at K_x S_p T_k HB ⊢
          generalize w_8.heap.size = b_x at K_x hge_x ⊢
          have L_x := ldK A HA.out K_x.out
          have hbl := ba (Below.refl W_9.heap.size W_9) (.cells (cellsU8 A).toArray 23)
          have hkn := Blk.new W_9 23 (cellsU8 A).toArray
          rw [← HAA.out] at hkn
          obtain ⟨g', c', Y, hr, hT, hS, hB⟩ := K2.append HF.out (T_k.out.symm.bel hbl) (S_p.out.bel hbl) (bt' HB.out hbl HB.out.size) (by omega) (by rw [HAA.out] at hkn ⊢; exact hkn)
          have S_p := kp hS
          have T_k := kp hT.symm
          have HB := kp hB
          clear hT hS hB hkn hbl
          go_wp2_with (first | (refine wpL_load rfl 23 _ rfl rfl L_x ?_) | (refine wpL_make 78 rfl rfl (.slice (some ⟨W_9.heap.size, 0, none⟩) 1 1) (exec_buildSlice (parts := #[(0, .agg (cellsU8 A).toArray)]) rfl (by simp [Act.eval, Act.put]) (slice_key A HA.out _)) ?_) | (refine wpL_append 79 rfl rfl _ _ 61 rfl rfl rfl hr ?_))
          clear hr L_x K_x
          go_roundw
          case measure => simp [intOf]; omega
          case rel => exact ⟨j + 1, m, n + 1, ax, some ⟨g', 0, none⟩, cx, c', by omega, by omega, by congr 1, rfl, rfl, S_p, T_k, HB⟩
        · skip
          have hk8 : k < n := by omega
          go_wp2_with fail
          clear hz hlr
          refine (nB.out _ _ _ _ _ hk8 HB.out.size S_p.out).mono ?_
          rintro e w_10 ⟨rfl, hs_10, hb_10⟩
          clear hs_10
          have S_p := kp (S_p.out.bel hb_10)
          have T_k := kp (T_k.out.bel hb_10)
          have HB := kp (bt' HB.out hb_10 HB.out.size)
          clear hb_10
          have hlen_11 := key_cells _ HZ.out
          have SC_11 := fun (cur : Array Value) (h : cur.size = 32) => sc_new (P := Try.prog) w_10 23 (cellsU8 ZK) (cellsU8_one _) cur (by rw [hlen_11]; exact h)
          have hge_x := kp HB.out.size
          have S_p := kp (S_p.out.bel (ba (Below.refl _ _) (.cells (cellsU8 ZK).toArray 23)))
          have T_k := kp (T_k.out.bel (ba (Below.refl _ _) (.cells (cellsU8 ZK).toArray 23)))
          have HB := kp (ba HB.out (.cells (cellsU8 ZK).toArray 23))
          have K_x := kp (Blk.new w_10 23 (cellsU8 ZK).toArray)
          go_wp2
          clear SC_11 hlen_11
          generalize w_10.alloc (.cells (cellsU8 ZK).toArray 23) = W_11 at K_x S_p T_k HB ⊢
          generalize w_10.heap.size = b_x at K_x hge_x ⊢
          go_roundw
          case measure => simp [intOf]; omega
          case rel => exact ⟨j + 1, m, n, ax, ay, cx, cy, by omega, by omega, by congr 1, rfl, rfl, S_p, T_k, HB⟩
    · clear HHELD cA cB nA nB
      rcases Decidable.em ((j : Int) < (l.length : Int)) with h1 | h1
      · have d1 : decide ((j : Int) < (l.length : Int)) = true := decide_eq_true h1
        have h2 : ¬ (j : Int) < 60 := by omega
        have d2 : decide ((j : Int) < 60) = false := decide_eq_false h2
        go_wp2
        go_loopw [19] (fun i wr => ∃ t : Nat, t ≤ m ∧ t ≤ n ∧ i = .int .i64 (t : Int) ∧ Kp (W2 w.heap.size wr b_a b_b F k m n) ∧ Kp (K2 w.heap.size wr F k ax m cx ay n cy) ∧ Kp (Below w.heap.size w wr)) (fun i _ => m - (intOf i).toNat)
        case atStart => exact ⟨0, Nat.zero_le _, Nat.zero_le _, rfl, S_p, T_k, HB⟩
        case round =>
          clear S_p T_k HB
          obtain ⟨t, htm, htn, rfl, S_p, T_k, HB⟩ := hrel
          by_cases hlt : t < m ∧ t < n
          · obtain ⟨h1, h2⟩ := hlt
            obtain ⟨gx, rfl, hgx, hmc, hcm⟩ := T_k.out.one.some_ (by omega)
            obtain ⟨gy, rfl, hgy, hnc, hcn⟩ := T_k.out.two.some_ (by omega)
            have i0 : (0 : Int) ≤ (t : Int) := by omega
            have i1 : (t : Int) < (m : Int) := by omega
            have i2 : (t : Int) < (n : Int) := by omega
            have d1 : decide ((t : Int) < (m : Int)) = true := decide_eq_true i1
            have d2 : decide ((t : Int) < (n : Int)) = true := decide_eq_true i2
            have et : IntKind.i64.wrap ((t : Int) + 1) = (t : Int) + 1 := IntWalk.i64_in _ (by omega)
            have HA := kp (HF.out (k - t))
            have QX := kp (fun x => ld_row (P := Try.prog) (w := wr.ext x) gx (t * 32) 32 23 (cellsU8 (F (k - t))) _ Try.underlying23 rfl info_key (key_cells _ (HF.out _)) (fun j v hv => (T_k.out.one.bel (ext_below wr x)).get HF.out t h1 j v hv))
            have QY := kp (fun x => ld_row (P := Try.prog) (w := wr.ext x) gy (t * 32) 32 23 (cellsU8 (F (k - t))) _ Try.underlying23 rfl info_key (key_cells _ (HF.out _)) (fun j v hv => (T_k.out.two.bel (ext_below wr x)).get HF.out t h2 j v hv))
            generalize F (k - t) = A at HA QX QY
            go_wp2
            refine wp_region_ext [0, 1, 2, 3, 4, 5, 6, 7] [8] (by kernel_rfl) (by kernel_rfl) ?_
            simp only [List.map_cons, List.map_nil, List.getD_cons_succ, List.getD_cons_zero]
            repeat (first
              | (go_big_quiet_want; refine quiet_load _ rfl 23 _ rfl rfl (fun w hw => by obtain ⟨x, rfl⟩ := hw; exact QX.out x) ?_; go_simp; go_big_quiet_on)
              | (go_big_quiet_want; refine quiet_load _ rfl 23 _ rfl rfl (fun w hw => by obtain ⟨x, rfl⟩ := hw; exact QY.out x) ?_; go_simp; go_big_quiet_on)
              | go_big_quiet_step (fail))
            refine wpQuiet_nil ?_
            rintro z
            have S_p := kp (S_p.out.bel (ext_below wr z))
            have T_k := kp (T_k.out.bel (ext_below wr z))
            have HB := kp (bt' HB.out (ext_below wr z) HB.out.size)
            clear QX QY hgx hgy
            generalize wr.ext z = V at S_p T_k HB ⊢
            go_wp2_with (refine wpL_val 100 rfl rfl (.bool false) ((exec_nek rfl rfl rfl HA.out HA.out _).trans (by simp)) ?_)
            go_roundw
            case measure => simp [intOf]; omega
            case rel => exact ⟨t + 1, by omega, by omega, by congr 1, S_p, T_k, HB⟩
          · rcases Decidable.em ((t : Int) < (m : Int)) with h1 | h1
            · have d1 : decide ((t : Int) < (m : Int)) = true := decide_eq_true h1
              have h2 : ¬ (t : Int) < (n : Int) := by omega
              have d2 : decide ((t : Int) < (n : Int)) = false := decide_eq_false h2
              go_wp2_with fail
              refine (tA.out _ _ _ _ _ S_p.out).mono ?_
              rintro e w_90 ⟨rfl, rfl⟩
              go_wp2_with fail
              refine (tB.out _ _ _ _ _ S_p.out).mono ?_
              rintro e w_91 ⟨rfl, rfl⟩
              go_wp2
              go_ret
              exact ⟨rfl, HB.out⟩
            · have d1 : decide ((t : Int) < (m : Int)) = false := decide_eq_false h1
              go_wp2_with fail
              refine (tA.out _ _ _ _ _ S_p.out).mono ?_
              rintro e w_90 ⟨rfl, rfl⟩
              go_wp2_with fail
              refine (tB.out _ _ _ _ _ S_p.out).mono ?_
              rintro e w_91 ⟨rfl, rfl⟩
              go_wp2
              go_ret
              exact ⟨rfl, HB.out⟩
      · have d1 : decide ((j : Int) < (l.length : Int)) = false := decide_eq_false h1
        go_wp2
        go_loopw [19] (fun i wr => ∃ t : Nat, t ≤ m ∧ t ≤ n ∧ i = .int .i64 (t : Int) ∧ Kp (W2 w.heap.size wr b_a b_b F k m n) ∧ Kp (K2 w.heap.size wr F k ax m cx ay n cy) ∧ Kp (Below w.heap.size w wr)) (fun i _ => m - (intOf i).toNat)
        case atStart => exact ⟨0, Nat.zero_le _, Nat.zero_le _, rfl, S_p, T_k, HB⟩
        case round =>
          clear S_p T_k HB
          obtain ⟨t, htm, htn, rfl, S_p, T_k, HB⟩ := hrel
          by_cases hlt : t < m ∧ t < n
          · obtain ⟨h1, h2⟩ := hlt
            obtain ⟨gx, rfl, hgx, hmc, hcm⟩ := T_k.out.one.some_ (by omega)
            obtain ⟨gy, rfl, hgy, hnc, hcn⟩ := T_k.out.two.some_ (by omega)
            have i0 : (0 : Int) ≤ (t : Int) := by omega
            have i1 : (t : Int) < (m : Int) := by omega
            have i2 : (t : Int) < (n : Int) := by omega
            have d1 : decide ((t : Int) < (m : Int)) = true := decide_eq_true i1
            have d2 : decide ((t : Int) < (n : Int)) = true := decide_eq_true i2
            have et : IntKind.i64.wrap ((t : Int) + 1) = (t : Int) + 1 := IntWalk.i64_in _ (by omega)
            have HA := kp (HF.out (k - t))
            have QX := kp (fun x => ld_row (P := Try.prog) (w := wr.ext x) gx (t * 32) 32 23 (cellsU8 (F (k - t))) _ Try.underlying23 rfl info_key (key_cells _ (HF.out _)) (fun j v hv => (T_k.out.one.bel (ext_below wr x)).get HF.out t h1 j v hv))
            have QY := kp (fun x => ld_row (P := Try.prog) (w := wr.ext x) gy (t * 32) 32 23 (cellsU8 (F (k - t))) _ Try.underlying23 rfl info_key (key_cells _ (HF.out _)) (fun j v hv => (T_k.out.two.bel (ext_below wr x)).get HF.out t h2 j v hv))
            generalize F (k - t) = A at HA QX QY
            go_wp2
            refine wp_region_ext [0, 1, 2, 3, 4, 5, 6, 7] [8] (by kernel_rfl) (by kernel_rfl) ?_
            simp only [List.map_cons, List.map_nil, List.getD_cons_succ, List.getD_cons_zero]
            repeat (first
              | (go_big_quiet_want; refine quiet_load _ rfl 23 _ rfl rfl (fun w hw => by obtain ⟨x, rfl⟩ := hw; exact QX.out x) ?_; go_simp; go_big_quiet_on)
              | (go_big_quiet_want; refine quiet_load _ rfl 23 _ rfl rfl (fun w hw => by obtain ⟨x, rfl⟩ := hw; exact QY.out x) ?_; go_simp; go_big_quiet_on)
              | go_big_quiet_step (fail))
            refine wpQuiet_nil ?_
            rintro z
            have S_p := kp (S_p.out.bel (ext_below wr z))
            have T_k := kp (T_k.out.bel (ext_below wr z))
            have HB := kp (bt' HB.out (ext_below wr z) HB.out.size)
            clear QX QY hgx hgy
            generalize wr.ext z = V at S_p T_k HB ⊢
            go_wp2_with (refine wpL_val 100 rfl rfl (.bool false) ((exec_nek rfl rfl rfl HA.out HA.out _).trans (by simp)) ?_)
            go_roundw
            case measure => simp [intOf]; omega
            case rel => exact ⟨t + 1, by omega, by omega, by congr 1, S_p, T_k, HB⟩
          · rcases Decidable.em ((t : Int) < (m : Int)) with h1 | h1
            · have d1 : decide ((t : Int) < (m : Int)) = true := decide_eq_true h1
              have h2 : ¬ (t : Int) < (n : Int) := by omega
              have d2 : decide ((t : Int) < (n : Int)) = false := decide_eq_false h2
              go_wp2_with fail
              refine (tA.out _ _ _ _ _ S_p.out).mono ?_
              rintro e w_90 ⟨rfl, rfl⟩
              go_wp2_with fail
              refine (tB.out _ _ _ _ _ S_p.out).mono ?_
              rintro e w_91 ⟨rfl, rfl⟩
              go_wp2
              go_ret
              exact ⟨rfl, HB.out⟩
            · have d1 : decide ((t : Int) < (m : Int)) = false := decide_eq_false h1
              go_wp2_with fail
              refine (tA.out _ _ _ _ _ S_p.out).mono ?_
              rintro e w_90 ⟨rfl, rfl⟩
              go_wp2_with fail
              refine (tB.out _ _ _ _ _ S_p.out).mono ?_
              rintro e w_91 ⟨rfl, rfl⟩
              go_wp2
              go_ret
              exact ⟨rfl, HB.out⟩
end Go.Proofs.Ytfmfdhcmbnabpaa
