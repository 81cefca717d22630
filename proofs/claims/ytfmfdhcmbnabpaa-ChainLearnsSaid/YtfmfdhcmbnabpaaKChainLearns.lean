/- ChainLearns: the walk. -/
import Derived.Test.YtfmfdhcmbnabpaaChn4
import Derived.Test.YtfmfdhcmbnabpaaChn5
import Derived.Test.YtfmfdhcmbnabpaaArgB
namespace Go.Proofs.Ytfmfdhcmbnabpaa
open Go Go.RowKit
set_option linter.unusedVariables false
set_option linter.unusedSimpArgs false
attribute [local go_sem] bmax2 bmin2 bmax bmin cell_ext frozen_ext

set_option maxHeartbeats 4000000 in
set_option maxRecDepth 100000 in
theorem ChainLearns_walk (w : World) (K : List UInt8) (n : Int) (ad : Option Addr) (c : Nat) (l : List Bool) (hK : K.length = 32) (b1 : (Lit.int .u8 n).wf = true) (b2 : l.length ≤ maxLen ∧ HeldB w ad l) :
    Calls Try.prog 5 #[keyV K, .int .u8 n, .slice ad l.length c] w fun e w' => e = .returned (.bool true) ∧ Below w.heap.size w w' := by
  unfold keyV
  obtain ⟨hn0, hn1⟩ := wf_u8 b1
  obtain ⟨hml, hheld⟩ := b2
  clear b1
  obtain ⟨k, hk⟩ : ∃ k : Nat, n % 40 + 1 = (k : Int) := ⟨(n % 40 + 1).toNat, by omega⟩
  have hk2 : 1 ≤ k ∧ k ≤ 40 := by omega
  obtain ⟨hk3, hk4⟩ := hk2
  have c1 := kp (fun w' => Known_good K hK (k : Int) k (by omega) (by omega) rfl w')
  have HKEY := kp (fun (d : Nat) (hd : d ≤ k) w' => Key_good K hK (k : Int) (d : Int) (k - d) (by omega) (by omega) (by omega) (by omega) (by omega) w')
  have HLEN := kp (fun d => chK_length K d)
  have HLRN : Kp (∀ (a i : Nat), a < i → i ≤ k → ∀ w', Calls Try.prog 23 #[.agg (mindL (chK K (k - a)) (a : Int)).toArray, .agg (cellsU8 (chK K (k - i))).toArray, .int .i64 (i : Int), .int .i64 (k : Int)] w' fun e w'' => e = .returned (.tuple #[.agg (mindL (chK K (k - i)) (i : Int)).toArray, .int .i64 0]) ∧ Below w'.heap.size w' w'') := kp (fun a i h1 h2 w' => by
    have := Learn_near (chK K (k - a)) (chK K (k - i)) (a : Int) (i : Int) (k : Int) (i - a) (chK_length _ _) (chK_length _ _) (by omega) (by omega) (by omega) (by omega) (by omega) w'
    rw [learnV_yes _ _ _ _ (by rw [chK_walk, show k - i + (i - a) = k - a by omega])] at this
    exact this)
  have HTELL : Kp (∀ (a i : Nat), i ≤ a → a ≤ k → ∀ w', Calls Try.prog 24 #[.agg (mindL (chK K (k - a)) (a : Int)).toArray, .int .i64 (i : Int)] w' fun e w'' => e = .returned (.tuple #[.agg (cellsU8 (chK K (k - i))).toArray, .int .i64 0]) ∧ Below w'.heap.size w' w'') := kp (fun a i h1 h2 w' => by
    have := Tell_good (chK K (k - a)) (a : Int) (i : Int) (chK_length _ _) (by omega) (by omega) (by omega) (a - i) (by omega) w'
    rw [chK_walk, show k - a + (a - i) = k - i by omega] at this
    exact this)
  have HTELL2 := kp (fun (a : Nat) w' => Tell_bad (chK K (k - a)) (a : Int) ((a : Int) + 1) (chK_length _ _) (by omega) w')
  have HA := kp (chK_length K k)
  have HF0 : Kp (chK K k = chK K (k - 0)) := kp rfl
  generalize chK K = F at *
  obtain ⟨A, hA⟩ : ∃ A, F k = A := ⟨_, rfl⟩
  rw [hA] at c1 HA HF0
  have HK := kp hK
  have HHELD := kp hheld
  have HB0 := kp (ba (Below.refl w.heap.size w) (.cells (cellsU8 K).toArray 23))
  have K_s0 := kp (Blk.new w 23 (cellsU8 K).toArray)
  clear hK hA hheld
  have hml2 : l.length ≤ 9223372036854775807 := hml
  clear hml
  have w1' : n % 40 + 1 ≤ 40 := by omega
  go_enter Try.func5, Try.ntmps5
  go_wp2_with fail
  refine (chain_awake _).mono ?_
  rintro e w1 ⟨rfl, hb⟩
  have HB := kp (bt' HB0.out hb HB0.out.size)
  have K_s := kp (K_s0.out.bel hb)
  clear hb
  have L_s := ldK K HK.out K_s.out
  go_wp2_with (first | (refine wpL_load rfl 23 _ rfl rfl L_s ?_))
  clear L_s
  refine (c1.out _).mono ?_
  rintro e w_1 ⟨rfl, hb_1⟩
  have hlen_1 := key_cells _ HA.out
  have SC_1 := fun (cur : Array Value) (h : cur.size = 32) => sc_new (P := Try.prog) w_1 23 (cellsU8 A) (cellsU8_one _) cur (by rw [hlen_1]; exact h)
  have K_s := kp ((K_s.out.bel hb_1).alloc (.cells (cellsU8 A).toArray 23))
  have K_n := kp (Blk.new w_1 23 (cellsU8 A).toArray)
  have hge_n := kp (bt' HB.out hb_1 HB.out.size).size
  have HB := kp (ba (bt' HB.out hb_1 HB.out.size) (.cells (cellsU8 A).toArray 23))
  clear hb_1
  go_upto_region 7 with (fail)
  clear SC_1 hlen_1
  generalize w_1.alloc (.cells (cellsU8 A).toArray 23) = W_1 at K_s K_n HB ⊢
  generalize w_1.heap.size = b_n at K_n hge_n ⊢
  have B_n := ldK A HA.out K_n.out
  have hlen_2 := mindL_length A 0 HA.out
  have SC_2 := fun (cur : Array Value) (h : cur.size = 33) => sc_new (P := Try.prog) W_1 34 (mindL A 0) (mindL_one _ _) cur (by rw [hlen_2]; exact h)
  have K_s := kp (K_s.out.alloc (.cells (mindL A 0).toArray 34))
  have K_n := kp (K_n.out.alloc (.cells (mindL A 0).toArray 34))
  have hge_m := kp HB.out.size
  have K_m := kp (Blk.new W_1 34 (mindL A 0).toArray)
  have HB := kp (ba HB.out (.cells (mindL A 0).toArray 34))
  go_wp2_with (first | (refine wpL_val 38 rfl rfl (.agg (mindL A 0).toArray) (exec_build rfl (by simp [Act.eval, Act.put]) (build_mind0 A HA.out _)) ?_) | (refine wpL_load rfl 23 _ rfl rfl B_n ?_))
  clear SC_2 hlen_2 B_n
  generalize W_1.alloc (.cells (mindL A 0).toArray 34) = W_2 at K_s K_n K_m HB ⊢
  generalize W_1.heap.size = b_m at K_m hge_m ⊢
  have hge := hge_m
  have hne : Kp (w.heap.size ≠ b_m) := kp (K_s.out.ne_ K_m.out (by decide))
  have K_m' : Kp (Blk W_2 b_m 34 (mindL (F (k - 0)) ((0 : Nat) : Int)).toArray) := kp (by rw [← HF0.out]; exact K_m.out)
  have hhi : Kp (b_m < W_2.heap.size) := kp K_m.out.lt
  clear K_m K_n c1
  go_loopw [11] (fun i wr => ∃ j a : Nat, j ≤ k ∧ a ≤ j ∧ i = .int .i64 (((j + 1 : Nat) : Int)) ∧ Kp (Blk wr w.heap.size 23 (cellsU8 K).toArray) ∧ Kp (Blk wr b_m 34 (mindL (F (k - a)) (a : Int)).toArray) ∧ Kp (Below w.heap.size w wr)) (fun i _ => ((k : Int) + 1 - intOf i).toNat)
  case atStart => exact ⟨0, 0, Nat.zero_le _, Nat.le_refl _, rfl, K_s, K_m', HB⟩
  case round =>
    clear K_s K_m' HB
    obtain ⟨j, a, hj, haj, rfl, K_s, K_m, HB⟩ := hrel
    have HH := HHELD.out.bel HB.out
    by_cases hlt : j < k
    · have i1 : ((j + 1 : Nat) : Int) ≤ (k : Int) := by omega
      have i0 : (0 : Int) ≤ ((j + 1 : Nat) : Int) := by omega
      have i9 : ((j + 1 : Nat) : Int) ≤ 41 := by omega
      have HC1 := kp (HKEY.out (j + 1) (by omega))
      have HC2 := kp (HLRN.out a (j + 1) (by omega) (by omega))
      have HX := kp (HLEN.out (k - (j + 1)))
      have HAA := kp (HLEN.out (k - a))
      have hjn := kp (show ((j + 1 : Nat) : Int) = (j : Int) + 1 by omega)
      have hjs : Kp (((j + 1 : Nat) : Int) + 1 = (((j + 1) + 1 : Nat) : Int)) := kp (by omega)
      obtain ⟨X, hX⟩ : ∃ X, F (k - (j + 1)) = X := ⟨_, rfl⟩
      have HXX := kp hX
      rw [hX] at HC1 HC2 HX
      obtain ⟨P, hP⟩ : ∃ P, F (k - a) = P := ⟨_, rfl⟩
      have HPP := kp hP
      rw [hP] at K_m HC2 HAA
      obtain ⟨jn, hjn2⟩ : ∃ jn : Nat, j + 1 = jn := ⟨_, rfl⟩
      rw [hjn2] at i1 i0 i9 HC1 HC2 hjs hX HXX ⊢
      have HJN := kp hjn2
      clear hX hjn2 hjn hP
      by_cases hin : l.length ≤ jn
      · have hin' : ((l.length : Nat) : Int) ≤ (jn : Int) := by omega
        have g1 : decide ((l.length : Int) ≤ (jn : Int)) = true := decide_eq_true hin'
        clear HH
        go_wp2
        go_roundw
        case measure => simp [intOf]; omega
        case rel => exact ⟨j + 1, a, by omega, by omega, by rw [hjs.out, HJN.out], K_s, by rw [HPP.out]; exact K_m, HB⟩
      · have hin' : ¬ ((l.length : Nat) : Int) ≤ (jn : Int) := by omega
        have g1 : decide ((l.length : Int) ≤ (jn : Int)) = false := decide_eq_false hin'
        have hjl : jn < l.length := by omega
        have hjl' : (jn : Int) < (l.length : Int) := by omega
        obtain ⟨b, o, rfl, hbw, hh⟩ := HH (by intro e; subst e; simp at hjl)
        have hs1 := hh jn _ (List.getElem?_eq_getElem hjl)
        clear hh
        generalize l[jn] = come at hs1
        cases come with
        | false =>
          go_wp2
          go_roundw
          case measure => simp [intOf]; omega
          case rel => exact ⟨j + 1, a, by omega, by omega, by rw [hjs.out, HJN.out], K_s, by rw [HPP.out]; exact K_m, HB⟩
        | true =>
          have L_s := ldK K HK.out K_s.out
          go_wp2_with (first | (refine wpL_load rfl 23 _ rfl rfl L_s ?_))
          clear L_s
          clear hs1 hbw
          refine (HC1.out _).mono ?_
          rintro e w_3 ⟨rfl, hb_3⟩
          have hlen_3 := key_cells _ HX.out
          have SC_3 := fun (cur : Array Value) (h : cur.size = 32) => sc_new (P := Try.prog) w_3 23 (cellsU8 X) (cellsU8_one _) cur (by rw [hlen_3]; exact h)
          have K_s := kp ((K_s.out.bel hb_3).alloc (.cells (cellsU8 X).toArray 23))
          have K_m := kp ((K_m.out.bel hb_3).alloc (.cells (cellsU8 X).toArray 23))
          have K_k := kp (Blk.new w_3 23 (cellsU8 X).toArray)
          have hge_k := kp (bt' HB.out hb_3 HB.out.size).size
          have HB := kp (ba (bt' HB.out hb_3 HB.out.size) (.cells (cellsU8 X).toArray 23))
          clear hb_3
          have L_m := ldM P (a : Int) HAA.out K_m.out
          have L_k := ldK X HX.out K_k.out
          go_wp2_with (first | (refine wpL_load rfl 34 _ rfl rfl L_m ?_) | (refine wpL_load rfl 23 _ rfl rfl L_k ?_))
          clear SC_3 hlen_3
          clear L_m L_k
          generalize w_3.alloc (.cells (cellsU8 X).toArray 23) = W_3 at K_s K_m K_k HB ⊢
          generalize w_3.heap.size = b_k at K_k hge_k ⊢
          refine (HC2.out _).mono ?_
          rintro e w_4 ⟨rfl, hb_4⟩
          have hlen_4 := mindL_length X (jn : Int) HX.out
          have SC_4 := fun (cur : Array Value) (h : cur.size = 33) => sc_new (P := Try.prog) w_4 34 (mindL X (jn : Int)) (mindL_one _ _) cur (by rw [hlen_4]; exact h)
          have K_s := kp ((K_s.out.bel hb_4).alloc (.cells (mindL X (jn : Int)).toArray 34))
          have K_m := kp ((K_m.out.bel hb_4).alloc (.cells (mindL X (jn : Int)).toArray 34))
          have K_k := kp ((K_k.out.bel hb_4).alloc (.cells (mindL X (jn : Int)).toArray 34))
          have K_x := kp (Blk.new w_4 34 (mindL X (jn : Int)).toArray)
          have hge_x := kp (bt' HB.out hb_4 HB.out.size).size
          have HB := kp (ba (bt' HB.out hb_4 HB.out.size) (.cells (mindL X (jn : Int)).toArray 34))
          clear hb_4
          go_upto_region 14 with (fail)
          clear SC_4 hlen_4
          generalize w_4.alloc (.cells (mindL X (jn : Int)).toArray 34) = W_4 at K_s K_m K_k K_x HB ⊢
          generalize w_4.heap.size = b_x at K_x hge_x ⊢
          have hc_x := K_x.out.atL (mindL_at X (jn : Int) HX.out)
          have hl_x := K_x.out.lt
          have Q_xk := kp (fun x => ldMK X (jn : Int) HX.out (K_x.out.bel (ext_below W_4 x)))
          refine wp_region_extP 17 ?_
          simp only [List.append_eq, List.cons_append, List.nil_append, List.take_succ_cons, List.take_zero, List.drop_succ_cons, List.drop_zero]
          have Q_k := kp (fun x => ldK X HX.out (K_k.out.bel (ext_below W_4 x)))
          repeat (first
            | (go_big_quiet_want; refine quiet_load _ rfl 23 _ rfl rfl (fun w hw => by obtain ⟨x, rfl⟩ := hw; exact Q_xk.out x) ?_; go_simp; go_big_quiet_on)
            | (go_big_quiet_want; refine quiet_load _ rfl 23 _ rfl rfl (fun w hw => by obtain ⟨x, rfl⟩ := hw; exact Q_k.out x) ?_; go_simp; go_big_quiet_on)
            | (go_big_quiet_want; refine quiet_nek (D := X) (E := X) _ rfl rfl rfl rfl HX.out HX.out ?_; simp only [decide_true, Bool.not_true]; go_simp; go_big_quiet_on)
            | go_big_quiet_step (fail))
          refine wpQuiet_nil ?_
          rintro z
          have K_s := kp (K_s.out.bel (ext_below W_4 z))
          have K_m := kp (K_m.out.bel (ext_below W_4 z))
          have K_x := kp (K_x.out.bel (ext_below W_4 z))
          have HB := kp (bt' HB.out (ext_below W_4 z) HB.out.size)
          clear hc_x hl_x Q_xk Q_k K_k
          generalize W_4.ext z = V at K_s K_m K_x HB ⊢
          have hml_ := mindL_length X (jn : Int) HX.out
          have SC := sc_all (P := Try.prog) (w := V) b_m 34 (mindL X (jn : Int)) _ K_m.out (by rw [hml_, mindL_length P (a : Int) HAA.out]) (mindL_one _ _)
          have L_x := ldM X (jn : Int) HX.out K_x.out
          have J_m := kp (K_m.out.row (mindL X (jn : Int)).toArray)
          have J_s := kp (K_s.out.rowfar (b := b_m) hne.out (mindL X (jn : Int)).toArray)
          have JB := kp (bsr HB.out hge.out HB.out.size (mindL X (jn : Int)).toArray)
          clear K_s K_m K_x HB
          generalize V.setRow b_m (mindL X (jn : Int)).toArray = V2 at SC J_m J_s JB
          go_wp2_with (refine wpL_load rfl 34 _ rfl rfl L_x ?_)
          clear SC L_x hml_
          go_roundw
          case measure => simp [intOf]; omega
          case rel => exact ⟨j + 1, jn, by omega, by rw [HJN.out]; exact Nat.le_refl _, by rw [hjs.out, HJN.out], J_s, by rw [HXX.out]; exact J_m, JB⟩
    · obtain rfl : j = k := by omega
      have i1 : ¬ ((j + 1 : Nat) : Int) ≤ (j : Int) := by omega
      have i1' : decide (((j + 1 : Nat) : Int) ≤ (j : Int)) = false := decide_eq_false i1
      have hFT := kp (fun i h => HTELL.out a i h haj)
      have HT2 := kp (HTELL2.out a)
      have HAA := kp (HLEN.out (j - a))
      obtain ⟨P, hP⟩ : ∃ P, F (j - a) = P := ⟨_, rfl⟩
      rw [hP] at K_m hFT HT2 HAA
      clear hP HH
      go_wp2
      go_loopw [16] (fun i wx => ∃ t : Nat, t ≤ a + 1 ∧ i = .int .i64 (t : Int) ∧ Kp (Blk wx w.heap.size 23 (cellsU8 K).toArray) ∧ Kp (Blk wx b_m 34 (mindL P (a : Int)).toArray) ∧ Kp (Below w.heap.size w wx)) (fun i _ => ((a : Int) + 1 - intOf i).toNat)
      case atStart => exact ⟨0, Nat.zero_le _, rfl, K_s, K_m, HB⟩
      case round =>
        clear K_s K_m HB
        obtain ⟨t, ht, rfl, K_s, K_m, HB⟩ := hrel
        have hc_m := K_m.out.atL (mindL_at P (a : Int) HAA.out)
        have hl_m := K_m.out.lt
        by_cases hlt : t ≤ a
        · have i2 : (t : Int) ≤ (a : Int) := by omega
          have i3 : (a : Int) ≤ 40 := by omega
          have HC1 := kp (HKEY.out t (by omega))
          have HC2 := kp (hFT.out t hlt)
          have HX := kp (HLEN.out (j - t))
          generalize F (j - t) = X at HC1 HC2 HX
          have L_s := ldK K HK.out K_s.out
          go_wp2_with (first | (refine wpL_load rfl 23 _ rfl rfl L_s ?_))
          clear L_s
          clear hc_m hl_m
          refine (HC1.out _).mono ?_
          rintro e w_5 ⟨rfl, hb_5⟩
          have hlen_5 := key_cells _ HX.out
          have SC_5 := fun (cur : Array Value) (h : cur.size = 32) => sc_new (P := Try.prog) w_5 23 (cellsU8 X) (cellsU8_one _) cur (by rw [hlen_5]; exact h)
          have K_s := kp ((K_s.out.bel hb_5).alloc (.cells (cellsU8 X).toArray 23))
          have K_m := kp ((K_m.out.bel hb_5).alloc (.cells (cellsU8 X).toArray 23))
          have K_k := kp (Blk.new w_5 23 (cellsU8 X).toArray)
          have hge_k := kp (bt' HB.out hb_5 HB.out.size).size
          have HB := kp (ba (bt' HB.out hb_5 HB.out.size) (.cells (cellsU8 X).toArray 23))
          clear hb_5
          have L_m := ldM P (a : Int) HAA.out K_m.out
          go_wp2_with (first | (refine wpL_load rfl 34 _ rfl rfl L_m ?_))
          clear SC_5 hlen_5
          clear L_m
          generalize w_5.alloc (.cells (cellsU8 X).toArray 23) = W_5 at K_s K_m K_k HB ⊢
          generalize w_5.heap.size = b_k at K_k hge_k ⊢
          refine (HC2.out _).mono ?_
          rintro e w_6 ⟨rfl, hb_6⟩
          have hlen_6 := key_cells _ HX.out
          have SC_6 := fun (cur : Array Value) (h : cur.size = 32) => sc_new (P := Try.prog) w_6 23 (cellsU8 X) (cellsU8_one _) cur (by rw [hlen_6]; exact h)
          have K_s := kp ((K_s.out.bel hb_6).alloc (.cells (cellsU8 X).toArray 23))
          have K_m := kp ((K_m.out.bel hb_6).alloc (.cells (cellsU8 X).toArray 23))
          have K_k := kp ((K_k.out.bel hb_6).alloc (.cells (cellsU8 X).toArray 23))
          have K_y := kp (Blk.new w_6 23 (cellsU8 X).toArray)
          have hge_y := kp (bt' HB.out hb_6 HB.out.size).size
          have HB := kp (ba (bt' HB.out hb_6 HB.out.size) (.cells (cellsU8 X).toArray 23))
          clear hb_6
          go_upto_region 22 with (fail)
          clear SC_6 hlen_6
          generalize w_6.alloc (.cells (cellsU8 X).toArray 23) = W_6 at K_s K_m K_k K_y HB ⊢
          generalize w_6.heap.size = b_y at K_y hge_y ⊢
          refine wp_region_extP 10 ?_
          simp only [List.append_eq, List.cons_append, List.nil_append, List.take_succ_cons, List.take_zero, List.drop_succ_cons, List.drop_zero]
          have Q_k := kp (fun x => ldK X HX.out (K_k.out.bel (ext_below W_6 x)))
          have Q_y := kp (fun x => ldK X HX.out (K_y.out.bel (ext_below W_6 x)))
          repeat (first
            | (go_big_quiet_want; refine quiet_load _ rfl 23 _ rfl rfl (fun w hw => by obtain ⟨x, rfl⟩ := hw; exact Q_k.out x) ?_; go_simp; go_big_quiet_on)
            | (go_big_quiet_want; refine quiet_load _ rfl 23 _ rfl rfl (fun w hw => by obtain ⟨x, rfl⟩ := hw; exact Q_y.out x) ?_; go_simp; go_big_quiet_on)
            | (go_big_quiet_want; refine quiet_nek (D := X) (E := X) _ rfl rfl rfl rfl HX.out HX.out ?_; simp only [decide_true, Bool.not_true]; go_simp; go_big_quiet_on)
            | go_big_quiet_step (fail))
          refine wpQuiet_nil ?_
          rintro z
          have K_s := kp (K_s.out.bel (ext_below W_6 z))
          have K_m := kp (K_m.out.bel (ext_below W_6 z))
          have HB := kp (bt' HB.out (ext_below W_6 z) HB.out.size)
          clear Q_k Q_y K_k K_y
          generalize W_6.ext z = V at K_s K_m HB ⊢
          go_wp2
          go_roundw
          case measure => simp [intOf]; omega
          case rel => exact ⟨t + 1, by omega, by go_num, K_s, K_m, HB⟩
        · obtain rfl : t = a + 1 := by omega
          have i2 : ¬ ((a + 1 : Nat) : Int) ≤ (a : Int) := by omega
          have i2' : decide (((a + 1 : Nat) : Int) ≤ (a : Int)) = false := decide_eq_false i2
          have i3 : (a : Int) ≤ 40 := by omega
          have i4 : (0 : Int) ≤ (a : Int) := by omega
          have L_m := ldM P (a : Int) HAA.out K_m.out
          obtain ⟨ZK, hZK⟩ : ∃ ZK, zeroK = ZK := ⟨_, rfl⟩
          have HZK : Kp (ZK.length = 32) := kp (by rw [← hZK]; rfl)
          rw [hZK] at HT2
          clear hZK
          go_wp2_with (refine wpL_load rfl 34 _ rfl rfl L_m ?_)
          clear L_m hc_m hl_m
          refine (HT2.out _).mono ?_
          rintro e w_7 ⟨rfl, hb_7⟩
          have hlen_7 := key_cells _ HZK.out
          have SC_7 := fun (cur : Array Value) (h : cur.size = 32) => sc_new (P := Try.prog) w_7 23 (cellsU8 ZK) (cellsU8_one _) cur (by rw [hlen_7]; exact h)
          have K_u := kp (Blk.new w_7 23 (cellsU8 ZK).toArray)
          have hge_u := kp (bt' HB.out hb_7 HB.out.size).size
          have HB := kp (ba (bt' HB.out hb_7 HB.out.size) (.cells (cellsU8 ZK).toArray 23))
          clear hb_7
          go_wp2_with fail
          clear SC_7 hlen_7
          generalize w_7.alloc (.cells (cellsU8 ZK).toArray 23) = W_7 at K_u HB ⊢
          generalize w_7.heap.size = b_u at K_u hge_u ⊢
          go_ret
          exact ⟨rfl, HB.out⟩
end Go.Proofs.Ytfmfdhcmbnabpaa
