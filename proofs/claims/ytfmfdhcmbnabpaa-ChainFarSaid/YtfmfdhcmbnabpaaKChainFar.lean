/- ChainFar: the walk. -/
import Derived.Test.YtfmfdhcmbnabpaaChn4
import Derived.Test.YtfmfdhcmbnabpaaChn5
import Derived.Test.YtfmfdhcmbnabpaaArgB
namespace Go.Proofs.Ytfmfdhcmbnabpaa
open Go Go.RowKit
set_option linter.unusedVariables false
set_option linter.unusedSimpArgs false
attribute [local go_sem] bmax2 bmin2 bmax bmin cell_ext frozen_ext

set_option maxHeartbeats 4000000 in
set_option maxRecDepth 100000 in
theorem ChainFar_walk (w : World) (K k : List UInt8) (p q r : Int) (hK : K.length = 32) (hk : k.length = 32) (b2 : (Lit.int .u16 p).wf = true) (b3 : (Lit.int .u8 q).wf = true) (b4 : (Lit.int .u8 r).wf = true) :
    Calls Try.prog 6 #[keyV K, keyV k, .int .u16 p, .int .u8 q, .int .u8 r] w fun e w' => e = .returned (.bool true) ∧ Below w.heap.size w w' := by
  unfold keyV
  obtain ⟨hp0, hp1⟩ := wf_u16 b2
  obtain ⟨hq0, hq1⟩ := wf_u8 b3
  obtain ⟨hr0, hr1⟩ := wf_u8 b4
  clear b2 b3 b4
  obtain ⟨Q, hQ⟩ : ∃ Q : Nat, q % 40 = (Q : Int) := ⟨(q % 40).toNat, by omega⟩
  obtain ⟨R, hR⟩ : ∃ R : Nat, r % 40 = (R : Int) := ⟨(r % 40).toNat, by omega⟩
  have hQ4 : (Q : Int) < 40 := by omega
  have hR4 : (R : Int) < 40 := by omega
  have hcase : ((R : Int) < (Q : Int) + 1 ∧ ∀ w', Calls Try.prog 22 #[.agg (cellsU8 K).toArray, .int .i64 p, .agg (cellsU8 k).toArray, .int .i64 (p + ((Q : Int) + 1)), .int .i64 (R : Int)] w' fun e w'' => e = .returned (.int .i64 16) ∧ Below w'.heap.size w' w'') ∨
      (¬ (R : Int) < (Q : Int) + 1 ∧ ∀ w', Calls Try.prog 22 #[.agg (cellsU8 K).toArray, .int .i64 p, .agg (cellsU8 k).toArray, .int .i64 (p + ((Q : Int) + 1)), .int .i64 (R : Int)] w' fun e w'' => e = .returned (.int .i64 0) ∧ Below w'.heap.size w' w'') ∨
      (¬ (R : Int) < (Q : Int) + 1 ∧ ∀ w', Calls Try.prog 22 #[.agg (cellsU8 K).toArray, .int .i64 p, .agg (cellsU8 k).toArray, .int .i64 (p + ((Q : Int) + 1)), .int .i64 (R : Int)] w' fun e w'' => e = .returned (.int .i64 13) ∧ Below w'.heap.size w' w'') := by
    by_cases h : (R : Int) < (Q : Int) + 1
    · exact Or.inl ⟨h, fun w' => Check_far K k p _ _ hK hk (by omega) (by omega) (by omega) (by omega) w'⟩
    · refine Or.inr ?_
      by_cases he : walkD k (Q + 1) = K
      · refine Or.inl ⟨h, fun w' => ?_⟩
        have := Check_near K k p (p + ((Q : Int) + 1)) (R : Int) (Q + 1) hK hk (by omega) (by omega) (by omega) (by omega) (by omega) w'
        rw [show learnE K (walkD k (Q + 1)) = 0 from if_pos he] at this
        exact this
      · refine Or.inr ⟨h, fun w' => ?_⟩
        have := Check_near K k p (p + ((Q : Int) + 1)) (R : Int) (Q + 1) hK hk (by omega) (by omega) (by omega) (by omega) (by omega) w'
        rw [show learnE K (walkD k (Q + 1)) = 13 from if_neg he] at this
        exact this
  have c2 := kp (fun w' => Check_far K k p (p + 1024 + ((Q : Int) + 1)) 1073741824 hK hk (by omega) (by omega) (by omega) (by omega) w')
  have HK := kp hK
  have HKK := kp hk
  have HB0 := kp (ba (ba (Below.refl w.heap.size w) (.cells (cellsU8 K).toArray 23)) (.cells (cellsU8 k).toArray 23))
  have K_s0 := kp ((Blk.new w 23 (cellsU8 K).toArray).alloc (.cells (cellsU8 k).toArray 23))
  have K_t0 := kp (Blk.new (w.alloc (.cells (cellsU8 K).toArray 23)) 23 (cellsU8 k).toArray)
  rw [size_all] at K_t0
  clear hK hk
  have s1 : (Q : Int) + 1 ≤ 40 := by omega
  have s2 : p + ((Q : Int) + 1) ≤ 70000 := by omega
  have s3 : 0 ≤ p + ((Q : Int) + 1) := by omega
  rcases hcase with ⟨h1, c1⟩ | ⟨h1, c1⟩ | ⟨h1, c1⟩
  all_goals
    have C1 := kp c1
    clear c1
    first | (have g1 := decide_eq_false h1) | (have g1 := decide_eq_true h1)
    go_enter Try.func6, Try.ntmps6
    go_wp2_with fail
    refine (chain_awake _).mono ?_
    rintro e w1 ⟨rfl, hb⟩
    have HB := kp (bt' HB0.out hb HB0.out.size)
    have K_s := kp (K_s0.out.bel hb)
    have K_t := kp (K_t0.out.bel hb)
    clear hb
    have L_s := ldK K HK.out K_s.out
    have L_t := ldK k HKK.out K_t.out
    go_wp2_with (first | (refine wpL_load rfl 23 _ rfl rfl L_s ?_) | (refine wpL_load rfl 23 _ rfl rfl L_t ?_))
    clear L_s L_t
    refine (C1.out _).mono ?_
    rintro e w_1 ⟨rfl, hb_1⟩
    have K_s := kp (K_s.out.bel hb_1)
    have K_t := kp (K_t.out.bel hb_1)
    have HB := kp (bt' HB.out hb_1 HB.out.size)
    clear hb_1
    go_upto_region 5 with (fail)
    refine wp_region_extP 31 ?_
    simp only [List.append_eq, List.cons_append, List.nil_append, List.take_succ_cons, List.take_zero, List.drop_succ_cons, List.drop_zero]
    have hw1 : IntKind.i64.wrap (p + 1024) = p + 1024 := IntWalk.i64_in _ (by omega)
    have hw2 : IntKind.i64.wrap (p + 1024 + ((Q : Int) + 1)) = p + 1024 + ((Q : Int) + 1) := IntWalk.i64_in _ (by omega)
    have Q_s := kp (fun x => ldK K HK.out (K_s.out.bel (ext_below w_1 x)))
    have Q_t := kp (fun x => ldK k HKK.out (K_t.out.bel (ext_below w_1 x)))
    repeat (first
      | (go_big_quiet_want; refine quiet_load _ rfl 23 _ rfl rfl (fun w hw => by obtain ⟨x, rfl⟩ := hw; exact Q_s.out x) ?_; go_simp; go_big_quiet_on)
      | (go_big_quiet_want; refine quiet_load _ rfl 23 _ rfl rfl (fun w hw => by obtain ⟨x, rfl⟩ := hw; exact Q_t.out x) ?_; go_simp; go_big_quiet_on)
      | go_big_quiet_step (first | (go_at_call 22; with_reducible exact Calls.ext_of (c2.out _))))
    refine wpQuiet_nil ?_
    rintro z
    go_wp2
    go_ret
    exact ⟨rfl, bt' HB.out (ext_below w_1 z) HB.out.size⟩
end Go.Proofs.Ytfmfdhcmbnabpaa
