/- ChainJoins: the walk. -/
import Derived.Test.YtfmfdhcmbnabpaaChn4
import Derived.Test.YtfmfdhcmbnabpaaChn5
import Derived.Test.YtfmfdhcmbnabpaaArgB
namespace Go.Proofs.Ytfmfdhcmbnabpaa
open Go Go.RowKit
set_option linter.unusedVariables false
set_option linter.unusedSimpArgs false
attribute [local go_sem] bmax2 bmin2 bmax bmin cell_ext frozen_ext

set_option maxHeartbeats 4000000 in
set_option maxRecDepth 100000 in
theorem ChainJoins_walk (w : World) (K : List UInt8) (n m : Int) (hK : K.length = 32) (b1 : (Lit.int .u8 n).wf = true) (b2 : (Lit.int .u8 m).wf = true) :
    Calls Try.prog 7 #[keyV K, .int .u8 n, .int .u8 m] w fun e w' => e = .returned (.bool true) ∧ Below w.heap.size w w' := by
  unfold keyV
  obtain ⟨hn0, hn1⟩ := wf_u8 b1
  obtain ⟨hm0, hm1⟩ := wf_u8 b2
  clear b1 b2
  obtain ⟨a, ha⟩ : ∃ a : Nat, n % 40 + 1 = (a : Int) := ⟨(n % 40 + 1).toNat, by omega⟩
  obtain ⟨b, hb_⟩ : ∃ b : Nat, m % 40 + 1 = (b : Int) := ⟨(m % 40 + 1).toNat, by omega⟩
  have ha2 : 1 ≤ a ∧ a ≤ 40 := by omega
  have hb2 : 1 ≤ b ∧ b ≤ 40 := by omega
  obtain ⟨ha3, ha4⟩ := ha2
  obtain ⟨hb3, hb4⟩ := hb2
  have c1 := kp (fun w' => Key_good K hK (a : Int) (a : Int) 0 (by omega) (by omega) (by omega) (by omega) (by omega) w')
  have c2 := kp (fun w' => Key_good K hK (b : Int) (b : Int) 0 (by omega) (by omega) (by omega) (by omega) (by omega) w')
  have HKEY := kp (fun (d : Nat) (hd : d ≤ a) w' => Key_good K hK (a : Int) (d : Int) (a - d) (by omega) (by omega) (by omega) (by omega) (by omega) w')
  have HLEN := kp (fun d => chK_length K d)
  have HSUM := kp (fun (d : Nat) w' => R_Sum_l (chK K d) (chK_length K d) w')
  have HSUC : Kp (∀ d, digest (chK K d) = chK K (d + 1)) := kp (fun d => rfl)
  have HA := kp (chK_length K 0)
  generalize chK K = F at *
  obtain ⟨A, hA⟩ : ∃ A, F 0 = A := ⟨_, rfl⟩
  rw [hA] at c1 c2 HA
  have HK := kp hK
  have HB0 := kp (ba (Below.refl w.heap.size w) (.cells (cellsU8 K).toArray 23))
  have K_s0 := kp (Blk.new w 23 (cellsU8 K).toArray)
  clear hK hA
  have w1' : n % 40 + 1 ≤ 40 := by omega
  have w2' : m % 40 + 1 ≤ 40 := by omega
  go_enter Try.func7, Try.ntmps7
  go_wp2_with fail
  refine (chain_awake _).mono ?_
  rintro e w1 ⟨rfl, hb⟩
  have HB := kp (bt' HB0.out hb HB0.out.size)
  have K_s := kp (K_s0.out.bel hb)
  clear hb
  have L_s := ldK K HK.out K_s.out
  go_wp2_with (first | (refine wpL_load rfl 23 _ rfl rfl L_s ?_))
  clear L_s
  refine (c1.out _).mono ?_
  rintro e w_1 ⟨rfl, hb_1⟩
  have hlen_1 := key_cells _ HA.out
  have SC_1 := fun (cur : Array Value) (h : cur.size = 32) => sc_new (P := Try.prog) w_1 23 (cellsU8 A) (cellsU8_one _) cur (by rw [hlen_1]; exact h)
  have K_s := kp ((K_s.out.bel hb_1).alloc (.cells (cellsU8 A).toArray 23))
  have K_x := kp (Blk.new w_1 23 (cellsU8 A).toArray)
  have hge_x := kp (bt' HB.out hb_1 HB.out.size).size
  have HB := kp (ba (bt' HB.out hb_1 HB.out.size) (.cells (cellsU8 A).toArray 23))
  clear hb_1
  have L_s := ldK K HK.out K_s.out
  go_wp2_with (first | (refine wpL_load rfl 23 _ rfl rfl L_s ?_))
  clear SC_1 hlen_1
  clear L_s
  generalize w_1.alloc (.cells (cellsU8 A).toArray 23) = W_1 at K_s K_x HB ⊢
  generalize w_1.heap.size = b_x at K_x hge_x ⊢
  refine (c2.out _).mono ?_
  rintro e w_2 ⟨rfl, hb_2⟩
  have hlen_2 := key_cells _ HA.out
  have SC_2 := fun (cur : Array Value) (h : cur.size = 32) => sc_new (P := Try.prog) w_2 23 (cellsU8 A) (cellsU8_one _) cur (by rw [hlen_2]; exact h)
  have K_s := kp ((K_s.out.bel hb_2).alloc (.cells (cellsU8 A).toArray 23))
  have K_x := kp ((K_x.out.bel hb_2).alloc (.cells (cellsU8 A).toArray 23))
  have K_y := kp (Blk.new w_2 23 (cellsU8 A).toArray)
  have hge_y := kp (bt' HB.out hb_2 HB.out.size).size
  have HB := kp (ba (bt' HB.out hb_2 HB.out.size) (.cells (cellsU8 A).toArray 23))
  clear hb_2
  go_upto_region 6 with (fail)
  clear SC_2 hlen_2
  generalize w_2.alloc (.cells (cellsU8 A).toArray 23) = W_2 at K_s K_x K_y HB ⊢
  generalize w_2.heap.size = b_y at K_y hge_y ⊢
  refine wp_region_extP 10 ?_
  simp only [List.append_eq, List.cons_append, List.nil_append, List.take_succ_cons, List.take_zero, List.drop_succ_cons, List.drop_zero]
  have Q_x := kp (fun x => ldK A HA.out (K_x.out.bel (ext_below W_2 x)))
  have Q_y := kp (fun x => ldK A HA.out (K_y.out.bel (ext_below W_2 x)))
  repeat (first
    | (go_big_quiet_want; refine quiet_load _ rfl 23 _ rfl rfl (fun w hw => by obtain ⟨x, rfl⟩ := hw; exact Q_x.out x) ?_; go_simp; go_big_quiet_on)
    | (go_big_quiet_want; refine quiet_load _ rfl 23 _ rfl rfl (fun w hw => by obtain ⟨x, rfl⟩ := hw; exact Q_y.out x) ?_; go_simp; go_big_quiet_on)
    | (go_big_quiet_want; refine quiet_nek (D := A) (E := A) _ rfl rfl rfl rfl HA.out HA.out ?_; simp only [decide_true, Bool.not_true]; go_simp; go_big_quiet_on)
    | go_big_quiet_step (fail))
  refine wpQuiet_nil ?_
  rintro z
  have HB' := kp (bt' HB.out (ext_below W_2 z) HB.out.size)
  have K_s' := kp (K_s.out.bel (ext_below W_2 z))
  generalize W_2.ext z = V at HB' K_s' ⊢
  clear HB K_s K_x K_y Q_x Q_y c1 c2
  go_wp2
  go_loopw [13] (fun i wr => ∃ j : Nat, j ≤ a ∧ i = .int .i64 (j : Int) ∧ Kp (Blk wr w.heap.size 23 (cellsU8 K).toArray) ∧ Kp (Below w.heap.size w wr)) (fun i _ => (intOf i).toNat)
  case atStart => exact ⟨a, Nat.le_refl _, rfl, K_s', HB'⟩
  case round =>
    clear K_s' HB'
    obtain ⟨j, hj, rfl, K_s, HB⟩ := hrel
    cases j with
    | zero =>
      rw [show ((0 : Nat) : Int) = 0 from rfl]
      go_wp2
      go_ret
      exact ⟨rfl, HB.out⟩
    | succ j =>
      have i1 : (0 : Int) < ((j + 1 : Nat) : Int) := by omega
      have i2 : ((j + 1 : Nat) : Int) - 1 = (j : Int) := by omega
      have i3 : ((j + 1 : Nat) : Int) ≤ 40 := by omega
      have C1 := kp (HKEY.out (j + 1) hj)
      have C2 := kp (HKEY.out j (by omega))
      have C3 := kp (HSUM.out (a - (j + 1)))
      have h1 := HSUC.out (a - (j + 1))
      rw [show a - (j + 1) + 1 = a - j by omega] at h1
      rw [h1] at C3
      have H1 := kp (HLEN.out (a - (j + 1)))
      have H2 := kp (HLEN.out (a - j))
      generalize F (a - (j + 1)) = P at C1 C3 H1
      generalize F (a - j) = R at C2 C3 H2
      clear h1
      have hjr := kp i2
      clear i2
      obtain ⟨jj, hjj⟩ : ∃ jj : Int, ((j + 1 : Nat) : Int) = jj := ⟨_, rfl⟩
      rw [hjj] at C1 i1 i3 ⊢
      have i4 : jj - 1 = (j : Int) := by omega
      clear hjj
      have L_s := ldK K HK.out K_s.out
      go_wp2_with (first | (refine wpL_load rfl 23 _ rfl rfl L_s ?_))
      clear L_s
      refine (C1.out _).mono ?_
      rintro e w_3 ⟨rfl, hb_3⟩
      have hlen_3 := key_cells _ H1.out
      have SC_3 := fun (cur : Array Value) (h : cur.size = 32) => sc_new (P := Try.prog) w_3 23 (cellsU8 P) (cellsU8_one _) cur (by rw [hlen_3]; exact h)
      have K_s := kp ((K_s.out.bel hb_3).alloc (.cells (cellsU8 P).toArray 23))
      have K_k := kp (Blk.new w_3 23 (cellsU8 P).toArray)
      have hge_k := kp (bt' HB.out hb_3 HB.out.size).size
      have HB := kp (ba (bt' HB.out hb_3 HB.out.size) (.cells (cellsU8 P).toArray 23))
      clear hb_3
      have L_s := ldK K HK.out K_s.out
      go_wp2_with (first | (refine wpL_load rfl 23 _ rfl rfl L_s ?_))
      clear SC_3 hlen_3
      clear L_s
      generalize w_3.alloc (.cells (cellsU8 P).toArray 23) = W_3 at K_s K_k HB ⊢
      generalize w_3.heap.size = b_k at K_k hge_k ⊢
      refine (C2.out _).mono ?_
      rintro e w_4 ⟨rfl, hb_4⟩
      have hlen_4 := key_cells _ H2.out
      have SC_4 := fun (cur : Array Value) (h : cur.size = 32) => sc_new (P := Try.prog) w_4 23 (cellsU8 R) (cellsU8_one _) cur (by rw [hlen_4]; exact h)
      have K_s := kp ((K_s.out.bel hb_4).alloc (.cells (cellsU8 R).toArray 23))
      have K_k := kp ((K_k.out.bel hb_4).alloc (.cells (cellsU8 R).toArray 23))
      have K_v := kp (Blk.new w_4 23 (cellsU8 R).toArray)
      have hge_v := kp (bt' HB.out hb_4 HB.out.size).size
      have HB := kp (ba (bt' HB.out hb_4 HB.out.size) (.cells (cellsU8 R).toArray 23))
      clear hb_4
      go_upto_region 13 with (fail)
      clear SC_4 hlen_4
      generalize w_4.alloc (.cells (cellsU8 R).toArray 23) = W_4 at K_s K_k K_v HB ⊢
      generalize w_4.heap.size = b_v at K_v hge_v ⊢
      refine wp_region_ext [0, 1, 2, 3, 4, 5, 6, 7, 8, 9, 10, 11] [12] (by kernel_rfl) (by kernel_rfl) ?_
      simp only [List.append_eq, List.cons_append, List.nil_append, List.map_cons, List.map_nil, List.getD_cons_succ, List.getD_cons_zero]
      have hcv := fun x => blk_str (P := Try.prog) 44 (e := 5) (dst := 9) (n := 32) (cap := 32) Try.underlying44 Try.underlying5 Try.underlying9 (K_k.out.bel (ext_below W_4 x)) H1.out
      have Q_v := kp (fun x => ldK R H2.out (K_v.out.bel (ext_below W_4 x)))
      repeat (first
        | (go_big_quiet_want; refine quiet_load _ rfl 23 _ rfl rfl (fun w hw => by obtain ⟨x, rfl⟩ := hw; exact Q_v.out x) ?_; go_simp; go_big_quiet_on)
        | (go_big_quiet_want; refine quiet_nek (D := R) (E := R) _ rfl rfl rfl rfl H2.out H2.out ?_; simp only [decide_true, Bool.not_true]; go_simp; go_big_quiet_on)
        | go_big_quiet_step (first | (go_at_call 27; with_reducible exact Calls.ext_of (C3.out _))))
      refine wpQuiet_nil ?_
      rintro z
      have HB' := kp (bt' HB.out (ext_below W_4 z) HB.out.size)
      have K_s' := kp (K_s.out.bel (ext_below W_4 z))
      clear hcv Q_v K_s K_k K_v HB
      generalize W_4.ext z = V2 at HB' K_s' ⊢
      go_wp2
      go_roundw
      case measure => simp [intOf]; omega
      case rel => exact ⟨j, by omega, rfl, K_s', HB'⟩
end Go.Proofs.Ytfmfdhcmbnabpaa
