/- SenderTags: the walk. -/
import Derived.Test.YtmnbnjiipnocaaaSb10
namespace Go.Proofs.Ytmnbnjiipnocaaa
open Go Go.RowKit
set_option linter.unusedVariables false
set_option linter.unusedSimpArgs false
attribute [local go_sem] bmax2 bmin2 bmax bmin cell_ext frozen_ext

set_option maxHeartbeats 8000000 in
set_option maxRecDepth 100000 in
theorem SenderTags_walk (w : World) (K : List UInt8) (iv : Int) (tx tg : ByteArray) (tl : Int) (K2 : List UInt8) (hK : K.length = 32) (b1 : K2.length = 32 ∧ (Lit.int .i64 iv).wf = true ∧ (Lit.int .i64 tl).wf = true ∧ tx.size ≤ maxLen ∧ tg.size ≤ maxLen) :
    Calls Try.prog 4 #[keyV K, .agg (pkL iv tx tg tl K2).toArray] w fun e w' => e = .returned (.bool true) ∧ Below w.heap.size w w' := by
  have hK2 := b1.1
  clear b1
  unfold keyV
  have c1 := kp (fun (ht : tx.size ≤ 1100) w' => R12_Tag K iv tx hK (by omega) w')
  have c2 := kp (fun (ht : tx.size ≤ 1100) w' => S_Tag K iv tx hK (by omega) w')
  have htl := tagD_length K iv tx
  have c3 := kp (fun (ht : tx.size ≤ 1100) (hg : tg.size ≤ 100) w' => S_Right K iv tx tg tl K2 hK hK2 (by omega) (by omega) w')
  have c4 := kp (fun (ht : tx.size ≤ 1100) w' => S_Right K iv tx (str (tagD K iv tx)) tl K2 hK hK2 (by omega) (by rw [str_size, htl]; omega) w')
  rw [decide_eq_true rfl] at c4
  have hzT : (str (tagD K iv tx)).size = 16 := by rw [str_size, htl]
  generalize str (tagD K iv tx) = TG at *
  rw [← toList_beq] at c3
  have HPL := kp (pkL_length (iv := iv) (t := tx) (g := tg) (tl := tl) hK2)
  have HPO := kp (pkL_one iv tx tg tl K2)
  have HQL := kp (pkL_length (iv := iv) (t := tx) (g := TG) (tl := tl) hK2)
  have x0' : Kp ((pkL iv tx tg tl K2)[0]? = some (.int .i64 iv)) := kp rfl
  have x1' : Kp ((pkL iv tx tg tl K2)[1]? = some (.string tx)) := kp rfl
  have x2' : Kp ((pkL iv tx tg tl K2)[2]? = some (.string tg)) := kp rfl
  have hset : Kp ((pkL iv tx tg tl K2).set 2 (.string TG) = pkL iv tx TG tl K2) := kp rfl
  generalize pkL iv tx tg tl K2 = P1 at *
  generalize pkL iv tx TG tl K2 = P2 at *
  have HKL := kp hK
  have K_s := kp ((Blk.new w 23 (cellsU8 K).toArray).alloc (.cells P1.toArray 44))
  have K_p := kp (Blk.new (w.alloc (.cells (cellsU8 K).toArray 23)) 44 P1.toArray)
  have HB := kp (ba (ba (Below.refl w.heap.size w) (.cells (cellsU8 K).toArray 23)) (.cells P1.toArray 44))
  rw [size_all] at K_p
  clear hK hK2 htl
  go_enter Try.func4, Try.ntmps4
  go_upto_region 1 with (fail)
  change Code.wp _ _ _ _ ((w.alloc (.cells (cellsU8 K).toArray 23)).alloc (.cells P1.toArray 44))
  generalize (w.alloc (.cells (cellsU8 K).toArray 23)).alloc (.cells P1.toArray 44) = W at K_s K_p HB ⊢
  go_wp2_with fail
  refine (sender_awake _).mono ?_
  rintro e w_1 ⟨rfl, hb_1⟩
  have K_s := kp (K_s.out.bel hb_1)
  have K_p := kp (K_p.out.bel hb_1)
  have HB := kp (bt' HB.out hb_1 HB.out.size)
  clear hb_1
  have x1 := K_p.out.atL x1'.out
  have x2 := K_p.out.atL x2'.out
  have lp := K_p.out.lt
  by_cases h1 : 1100 < tx.size
  · have i1 : (1100 : Int) < (tx.size : Int) := by omega
    have d1 : decide ((1100 : Int) < (tx.size : Int)) = true := decide_eq_true i1
    clear x2
    go_wp2
    go_ret
    exact ⟨rfl, HB.out⟩
  have i1 : ¬ (1100 : Int) < (tx.size : Int) := by omega
  have d1 : decide ((1100 : Int) < (tx.size : Int)) = false := decide_eq_false i1
  by_cases h2 : 100 < tg.size
  · have i2 : (100 : Int) < (tg.size : Int) := by omega
    have d2 : decide ((100 : Int) < (tg.size : Int)) = true := decide_eq_true i2
    go_wp2
    go_ret
    exact ⟨rfl, HB.out⟩
  have i2 : ¬ (100 : Int) < (tg.size : Int) := by omega
  have d2 : decide ((100 : Int) < (tg.size : Int)) = false := decide_eq_false i2
  have c1 := kp (c1.out (by omega))
  have c2 := kp (c2.out (by omega))
  have c3 := kp (c3.out (by omega) (by omega))
  have c4 := kp (c4.out (by omega))
  have x0 := K_p.out.atL x0'.out
  have L_s := ldK K HKL.out K_s.out
  go_wp2_with (refine wpL_load rfl 23 _ rfl rfl L_s ?_)
  clear L_s x0 x1 x2 lp d1 d2
  refine (c1.out _).mono ?_
  rintro e w_2 ⟨rfl, hb_2⟩
  have K_s := kp (K_s.out.bel hb_2)
  have K_p := kp (K_p.out.bel hb_2)
  have HB := kp (bt' HB.out hb_2 HB.out.size)
  clear hb_2
  have L_p := ld_all (P := Try.prog) (w.heap.size + 1) 36 44 44 P1 _ Try.underlying44 rfl info_pk HPL.out K_p.out
  have hq1 := K_p.out.lt
  have hlen_3 := HPL.out
  have SC_3 := fun (cur : Array Value) (h : cur.size = 36) => sc_new (P := Try.prog) w_2 44 P1 (HPO.out) cur (by rw [hlen_3]; exact h)
  have hge_q := kp HB.out.size
  have K_s := kp (K_s.out.alloc (.cells P1.toArray 44))
  have K_p := kp (K_p.out.alloc (.cells P1.toArray 44))
  have HB := kp (ba HB.out (.cells P1.toArray 44))
  have K_q := kp (Blk.new w_2 44 P1.toArray)
  go_upto_region 7 with (refine wpL_load rfl 44 _ rfl rfl L_p ?_)
  clear SC_3 hlen_3
  have HNE := kp (Nat.ne_of_lt hq1)
  clear hq1
  generalize w_2.alloc (.cells P1.toArray 44) = W_3 at K_s K_p K_q HB ⊢
  generalize w_2.heap.size = b_q at K_q hge_q HNE ⊢
  clear L_p
  have f2 := K_q.out.frozen 2
  have hlq := K_q.out.lt
  have hbq := hge_q.out
  have K_q2 := kp (K_q.out.setL 2 (.string TG))
  rw [hset.out] at K_q2
  have hsn : w.heap.size ≠ b_q := fun e => by
    have := K_s.out
    rw [e] at this
    exact Blk.ne_ this K_q.out (by decide) rfl
  have hpn : w.heap.size + 1 ≠ b_q := HNE.out
  have K_s2 := kp (K_s.out.far (p := ⟨b_q, 2, none⟩) hsn (.string TG))
  have K_p2 := kp (K_p.out.far (p := ⟨b_q, 2, none⟩) hpn (.string TG))
  have HB2 := kp (bsc HB.out (p := ⟨b_q, 2, none⟩) hbq (.string TG))
  have xq2 : ∃ u, W_3.cell? ⟨b_q, 2, none⟩ = some u := ⟨_, K_q.out.atL x2'.out⟩
  obtain ⟨u, xq2⟩ := xq2
  go_upto_region 8 with (fail)
  clear f2 hlq hbq xq2 K_q K_s K_p HB hsn hpn
  generalize W_3.setCell ⟨b_q, 2, none⟩ (.string TG) = V at K_q2 K_s2 K_p2 HB2 ⊢
  have x0 := K_p2.out.atL x0'.out
  have x1 := K_p2.out.atL x1'.out
  have x2 := K_p2.out.atL x2'.out
  have lp := K_p2.out.lt
  refine wp_region_ext [0, 1, 2, 3, 4, 5, 6, 7, 8, 9, 10, 11, 12, 13, 14, 15, 16, 17, 18, 19, 20, 21, 22, 23, 24, 25, 26, 27] [28] (by kernel_rfl) (by kernel_rfl) ?_
  simp only [List.append_eq, List.cons_append, List.nil_append, List.map_cons, List.map_nil, List.getD_cons_succ, List.getD_cons_zero]
  have Q_s := kp (fun x => ldK K HKL.out (K_s2.out.bel (ext_below V x)))
  have Q_p := kp (fun x => ld_all (P := Try.prog) (w.heap.size + 1) 36 44 44 P1 _ Try.underlying44 rfl info_pk HPL.out (K_p2.out.bel (ext_below V x)))
  have Q_q := kp (fun x => ld_all (P := Try.prog) b_q 36 44 44 P2 _ Try.underlying44 rfl info_pk HQL.out (K_q2.out.bel (ext_below V x)))
  repeat (first
    | (go_big_quiet_want; refine quiet_load _ rfl 23 _ rfl rfl (fun w hw => by obtain ⟨x, rfl⟩ := hw; exact Q_s.out x) ?_; go_simp; go_big_quiet_on)
    | (go_big_quiet_want; refine quiet_load _ rfl 44 _ rfl rfl (fun w hw => by obtain ⟨x, rfl⟩ := hw; exact Q_p.out x) ?_; go_simp; go_big_quiet_on)
    | (go_big_quiet_want; refine quiet_load _ rfl 44 _ rfl rfl (fun w hw => by obtain ⟨x, rfl⟩ := hw; exact Q_q.out x) ?_; go_simp; go_big_quiet_on)
    | go_big_quiet_step (first | (go_at_call 21; with_reducible exact Calls.ext_of (c2.out _)) | (go_at_call 22; with_reducible exact Calls.ext_of (c3.out _)) | (go_at_call 22; with_reducible exact Calls.ext_of (c4.out _))))
  refine wpQuiet_nil ?_
  rintro z
  have HB4 := kp (bt' HB2.out (ext_below V z) HB2.out.size)
  clear x0 x1 x2 lp
  generalize V.ext z = V5 at HB4 ⊢
  go_wp2
  go_ret
  exact ⟨by simp, HB4.out⟩
end Go.Proofs.Ytmnbnjiipnocaaa
