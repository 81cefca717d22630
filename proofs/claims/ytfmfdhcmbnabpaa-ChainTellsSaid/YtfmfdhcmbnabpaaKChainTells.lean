/- ChainTells: the walk. -/
import Derived.Test.YtfmfdhcmbnabpaaChn4
import Derived.Test.YtfmfdhcmbnabpaaChn5
import Derived.Test.YtfmfdhcmbnabpaaArgB
namespace Go.Proofs.Ytfmfdhcmbnabpaa
open Go Go.RowKit
set_option linter.unusedVariables false
set_option linter.unusedSimpArgs false
attribute [local go_sem] bmax2 bmin2 bmax bmin cell_ext frozen_ext

set_option maxHeartbeats 4000000 in
set_option maxRecDepth 100000 in
theorem ChainTells_walk (w : World) (K : List UInt8) (n i : Int) (hK : K.length = 32) (b1 : (Lit.int .i64 n).wf = true) (b2 : (Lit.int .i64 i).wf = true) :
    Calls Try.prog 3 #[keyV K, .int .i64 n, .int .i64 i] w fun e w' => e = .returned (.bool true) ∧ Below w.heap.size w w' := by
  unfold keyV
  clear b1 b2
  have HK := kp hK
  have HB0 := kp (ba (Below.refl w.heap.size w) (.cells (cellsU8 K).toArray 23))
  have K_s0 := kp (Blk.new w 23 (cellsU8 K).toArray)
  by_cases hn : 40 < n ∧ n ≤ 1024
  · obtain ⟨h1, h2⟩ := hn
    go_enter Try.func3, Try.ntmps3
    go_wp2_with fail
    refine (chain_awake _).mono ?_
    rintro e w1 ⟨rfl, hb⟩
    go_wp2
    go_ret
    exact ⟨rfl, bt' HB0.out hb HB0.out.size⟩
  obtain ⟨E1, x1, hE1, c1, c2⟩ := Key_some K hK n i
  obtain ⟨E2, x2, hE2, c3, c4⟩ := Known_some K hK n
  have d1 := kp (fun w' => Tagger_any K hK w')
  have d2 : Kp (∀ w', Calls Try.prog 20 #[.agg (cellsU8 K).toArray, .string ⟨#[116, 97, 103]⟩] w' fun e w'' => e = .returned (.agg (cellsU8 (macD K tagS)).toArray) ∧ Below w'.heap.size w' w'') := kp (fun w' => R_Of K ⟨#[116, 97, 103]⟩ hK (by decide) w')
  have d3 := kp (fun w' => Next_any K hK w')
  have d4 : Kp (∀ w', Calls Try.prog 20 #[.agg (cellsU8 K).toArray, .string ⟨#[115, 101, 101, 100]⟩] w' fun e w'' => e = .returned (.agg (cellsU8 (macD K seedS)).toArray) ∧ Below w'.heap.size w' w'') := kp (fun w' => R_Of K ⟨#[115, 101, 101, 100]⟩ hK (by decide) w')
  have HM1 := kp (macD_length K tagS)
  have HM2 := kp (macD_length K seedS)
  generalize macD K tagS = M1 at d1 d2 HM1
  generalize macD K seedS = M2 at d3 d4 HM2
  have C1 := kp c1
  have C2 := kp c2
  have C3 := kp c3
  have C4 := kp c4
  have H1 := kp hE1
  have H2 := kp hE2
  clear c1 c2 c3 c4 hE1 hE2 hK
  have hcase : ¬ 40 < n ∨ (40 < n ∧ ¬ n ≤ 1024) := by omega
  clear hn
  rcases hcase with h1 | ⟨h1, h2⟩
  all_goals
    go_enter Try.func3, Try.ntmps3
    go_wp2_with fail
    refine (chain_awake _).mono ?_
    rintro e w1 ⟨rfl, hb⟩
    have HB := kp (bt' HB0.out hb HB0.out.size)
    have K_s := kp (K_s0.out.bel hb)
    clear hb
    have L_s := ldK K HK.out K_s.out
    go_wp2_with (first | (refine wpL_load rfl 23 _ rfl rfl L_s ?_))
    clear L_s
    refine (C1.out _).mono ?_
    rintro e w_1 ⟨rfl, hb_1⟩
    have hlen_1 := key_cells _ H1.out
    have SC_1 := fun (cur : Array Value) (h : cur.size = 32) => sc_new (P := Try.prog) w_1 23 (cellsU8 E1) (cellsU8_one _) cur (by rw [hlen_1]; exact h)
    have K_s := kp ((K_s.out.bel hb_1).alloc (.cells (cellsU8 E1).toArray 23))
    have K_a := kp (Blk.new w_1 23 (cellsU8 E1).toArray)
    have hge_a := kp (bt' HB.out hb_1 HB.out.size).size
    have HB := kp (ba (bt' HB.out hb_1 HB.out.size) (.cells (cellsU8 E1).toArray 23))
    clear hb_1
    have L_s := ldK K HK.out K_s.out
    go_wp2_with (first | (refine wpL_load rfl 23 _ rfl rfl L_s ?_))
    clear SC_1 hlen_1
    clear L_s
    generalize w_1.alloc (.cells (cellsU8 E1).toArray 23) = W_1 at K_s K_a HB ⊢
    generalize w_1.heap.size = b_a at K_a hge_a ⊢
    refine (C2.out _).mono ?_
    rintro e w_2 ⟨rfl, hb_2⟩
    have hlen_2 := key_cells _ H1.out
    have SC_2 := fun (cur : Array Value) (h : cur.size = 32) => sc_new (P := Try.prog) w_2 23 (cellsU8 E1) (cellsU8_one _) cur (by rw [hlen_2]; exact h)
    have K_s := kp ((K_s.out.bel hb_2).alloc (.cells (cellsU8 E1).toArray 23))
    have K_a := kp ((K_a.out.bel hb_2).alloc (.cells (cellsU8 E1).toArray 23))
    have K_b := kp (Blk.new w_2 23 (cellsU8 E1).toArray)
    have hge_b := kp (bt' HB.out hb_2 HB.out.size).size
    have HB := kp (ba (bt' HB.out hb_2 HB.out.size) (.cells (cellsU8 E1).toArray 23))
    clear hb_2
    have L_s := ldK K HK.out K_s.out
    go_wp2_with (first | (refine wpL_load rfl 23 _ rfl rfl L_s ?_))
    clear SC_2 hlen_2
    clear L_s
    generalize w_2.alloc (.cells (cellsU8 E1).toArray 23) = W_2 at K_s K_a K_b HB ⊢
    generalize w_2.heap.size = b_b at K_b hge_b ⊢
    refine (C3.out _).mono ?_
    rintro e w_3 ⟨rfl, hb_3⟩
    have hlen_3 := key_cells _ H2.out
    have SC_3 := fun (cur : Array Value) (h : cur.size = 32) => sc_new (P := Try.prog) w_3 23 (cellsU8 E2) (cellsU8_one _) cur (by rw [hlen_3]; exact h)
    have K_s := kp ((K_s.out.bel hb_3).alloc (.cells (cellsU8 E2).toArray 23))
    have K_a := kp ((K_a.out.bel hb_3).alloc (.cells (cellsU8 E2).toArray 23))
    have K_b := kp ((K_b.out.bel hb_3).alloc (.cells (cellsU8 E2).toArray 23))
    have K_c := kp (Blk.new w_3 23 (cellsU8 E2).toArray)
    have hge_c := kp (bt' HB.out hb_3 HB.out.size).size
    have HB := kp (ba (bt' HB.out hb_3 HB.out.size) (.cells (cellsU8 E2).toArray 23))
    clear hb_3
    have L_s := ldK K HK.out K_s.out
    go_wp2_with (first | (refine wpL_load rfl 23 _ rfl rfl L_s ?_))
    clear SC_3 hlen_3
    clear L_s
    generalize w_3.alloc (.cells (cellsU8 E2).toArray 23) = W_3 at K_s K_a K_b K_c HB ⊢
    generalize w_3.heap.size = b_c at K_c hge_c ⊢
    refine (C4.out _).mono ?_
    rintro e w_4 ⟨rfl, hb_4⟩
    have hlen_4 := key_cells _ H2.out
    have SC_4 := fun (cur : Array Value) (h : cur.size = 32) => sc_new (P := Try.prog) w_4 23 (cellsU8 E2) (cellsU8_one _) cur (by rw [hlen_4]; exact h)
    have K_s := kp ((K_s.out.bel hb_4).alloc (.cells (cellsU8 E2).toArray 23))
    have K_a := kp ((K_a.out.bel hb_4).alloc (.cells (cellsU8 E2).toArray 23))
    have K_b := kp ((K_b.out.bel hb_4).alloc (.cells (cellsU8 E2).toArray 23))
    have K_c := kp ((K_c.out.bel hb_4).alloc (.cells (cellsU8 E2).toArray 23))
    have K_d := kp (Blk.new w_4 23 (cellsU8 E2).toArray)
    have hge_d := kp (bt' HB.out hb_4 HB.out.size).size
    have HB := kp (ba (bt' HB.out hb_4 HB.out.size) (.cells (cellsU8 E2).toArray 23))
    clear hb_4
    go_wp2_with fail
    clear SC_4 hlen_4
    generalize w_4.alloc (.cells (cellsU8 E2).toArray 23) = W_4 at K_s K_a K_b K_c K_d HB ⊢
    generalize w_4.heap.size = b_d at K_d hge_d ⊢
    refine wp_region_ext [0, 1, 2, 3, 4, 5, 6, 7, 8, 9, 10, 11, 12, 13, 14, 15, 16, 17, 18, 19, 20, 21, 22, 23, 24, 25, 26, 27, 28, 29, 30, 31] [32] (by kernel_rfl) (by kernel_rfl) ?_
    simp only [List.append_eq, List.cons_append, List.nil_append, List.map_cons, List.map_nil, List.getD_cons_succ, List.getD_cons_zero]
    have Q_s := kp (fun x => ldK K HK.out (K_s.out.bel (ext_below W_4 x)))
    have Q_a := kp (fun x => ldK E1 H1.out (K_a.out.bel (ext_below W_4 x)))
    have Q_b := kp (fun x => ldK E1 H1.out (K_b.out.bel (ext_below W_4 x)))
    have Q_c := kp (fun x => ldK E2 H2.out (K_c.out.bel (ext_below W_4 x)))
    have Q_d := kp (fun x => ldK E2 H2.out (K_d.out.bel (ext_below W_4 x)))
    repeat (first
      | (go_big_quiet_want; refine quiet_load _ rfl 23 _ rfl rfl (fun w hw => by obtain ⟨x, rfl⟩ := hw; exact Q_s.out x) ?_; go_simp; go_big_quiet_on)
      | (go_big_quiet_want; refine quiet_load _ rfl 23 _ rfl rfl (fun w hw => by obtain ⟨x, rfl⟩ := hw; exact Q_a.out x) ?_; go_simp; go_big_quiet_on)
      | (go_big_quiet_want; refine quiet_load _ rfl 23 _ rfl rfl (fun w hw => by obtain ⟨x, rfl⟩ := hw; exact Q_b.out x) ?_; go_simp; go_big_quiet_on)
      | (go_big_quiet_want; refine quiet_load _ rfl 23 _ rfl rfl (fun w hw => by obtain ⟨x, rfl⟩ := hw; exact Q_c.out x) ?_; go_simp; go_big_quiet_on)
      | (go_big_quiet_want; refine quiet_load _ rfl 23 _ rfl rfl (fun w hw => by obtain ⟨x, rfl⟩ := hw; exact Q_d.out x) ?_; go_simp; go_big_quiet_on)
      | (go_big_quiet_want; refine quiet_eqk (D := E1) (E := E1) _ rfl rfl rfl rfl H1.out H1.out ?_; simp only [decide_true]; go_simp; go_big_quiet_on)
      | (go_big_quiet_want; refine quiet_eqk (D := E2) (E := E2) _ rfl rfl rfl rfl H2.out H2.out ?_; simp only [decide_true]; go_simp; go_big_quiet_on)
      | (go_big_quiet_want; refine quiet_eqk (D := M1) (E := M1) _ rfl rfl rfl rfl HM1.out HM1.out ?_; simp only [decide_true]; go_simp; go_big_quiet_on)
      | (go_big_quiet_want; refine quiet_eqk (D := M2) (E := M2) _ rfl rfl rfl rfl HM2.out HM2.out ?_; simp only [decide_true]; go_simp; go_big_quiet_on)
      | go_big_quiet_step (first | (go_at_call 19; with_reducible exact Calls.ext_of (d1.out _)) | (go_at_call 20; with_reducible exact Calls.ext_of (d2.out _)) | (go_at_call 21; with_reducible exact Calls.ext_of (d3.out _)) | (go_at_call 20; with_reducible exact Calls.ext_of (d4.out _))))
    refine wpQuiet_nil ?_
    rintro z
    go_wp2
    go_ret
    exact ⟨rfl, bt' HB.out (ext_below W_4 z) HB.out.size⟩
end Go.Proofs.Ytfmfdhcmbnabpaa
