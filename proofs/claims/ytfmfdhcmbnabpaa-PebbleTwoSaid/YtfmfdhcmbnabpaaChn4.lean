/- chain: what the document fixes. -/
import Derived.Test.YtfmfdhcmbnabpaaRChn
namespace Go.Proofs.Ytfmfdhcmbnabpaa
open Go Go.RowKit
set_option linter.unusedVariables false
set_option linter.unusedSimpArgs false
attribute [local go_sem] bmax2 bmin2 bmax bmin cell_ext frozen_ext

def oneK : List UInt8 := 1 :: List.replicate 31 0
theorem oneK_length : oneK.length = 32 := rfl
theorem one_far : walkD (chK oneK 6) 2 ≠ chK oneK 6 := by decide +kernel
theorem learnV_yes (K k P : List UInt8) (i : Int) (h : P = K) : learnV K k P i = .tuple #[.agg (mindL k i).toArray, .int .i64 0] := if_pos h
--AWAKE
set_option maxRecDepth 100000 in
theorem build_mind0 (K : List UInt8) (h : K.length = 32) (W : World) : (Instr.build 34 #[(0, .agg (cellsU8 K).toArray)]).run Try.prog W = .ok (.agg (mindL K 0).toArray) W := by
  obtain ⟨f, rfl⟩ := list32 K h
  exact run_build W 34 _ _ (by kernel_rfl)

set_option maxHeartbeats 4000000 in
set_option maxRecDepth 100000 in
theorem chain_awake (w : World) : Calls Try.prog 15 #[] w fun e w' => e = .returned (.bool true) ∧ Below w.heap.size w w' := by
  have c1 := kp (fun w' => Key_good oneK oneK_length 9 3 6 (by decide) (by decide) (by decide) (by decide) (by decide) w')
  have c2 := kp (fun w' => Key_good oneK oneK_length 9 5 4 (by decide) (by decide) (by decide) (by decide) (by decide) w')
  have c3 := kp (fun w' => Key_bad oneK oneK_length 9 10 (by decide) w')
  have c4 := kp (fun w' => Known_good oneK oneK_length 9 9 (by decide) (by decide) (by decide) w')
  have hA := chK_length oneK 6
  have hB := chK_length oneK 4
  have hK := chK_length oneK 9
  have e1 := chK_walk oneK 4 5
  have e2 := chK_walk oneK 4 2
  have e3 := chK_walk oneK 6 3
  have e4 := one_far
  generalize chK oneK 6 = A at *
  generalize chK oneK 4 = B at *
  generalize chK oneK 9 = C at *
  have c5 : Kp (∀ w', Calls Try.prog 23 #[.agg (mindL C 0).toArray, .agg (cellsU8 B).toArray, .int .i64 5, .int .i64 9] w' fun e w'' => e = .returned (.tuple #[.agg (mindL B 5).toArray, .int .i64 0]) ∧ Below w'.heap.size w' w'') := kp (fun w' => by
    have := Learn_near C B 0 5 9 5 hK hB (by decide) (by decide) (by decide) (by decide) (by decide) w'
    rw [learnV_yes _ _ _ _ e1] at this
    exact this)
  have c6 : Kp (∀ w', Calls Try.prog 24 #[.agg (mindL B 5).toArray, .int .i64 3] w' fun e w'' => e = .returned (.tuple #[.agg (cellsU8 A).toArray, .int .i64 0]) ∧ Below w'.heap.size w' w'') := kp (fun w' => by
    have := Tell_good B 5 3 hB (by decide) (by decide) (by decide) 2 (by decide) w'
    rw [e2] at this
    exact this)
  have d1 : Kp (∀ w', Calls Try.prog 38 #[.agg (cellsU8 B).toArray, .int .i64 2] w' fun e w'' => e = .returned (.agg (cellsU8 A).toArray) ∧ Below w'.heap.size w' w'') := kp (fun w' => by
    have := R_Walk B hB 2 2 (by decide) w'
    rw [e2] at this
    exact this)
  have d2 : Kp (∀ w', Calls Try.prog 38 #[.agg (cellsU8 A).toArray, .int .i64 3] w' fun e w'' => e = .returned (.agg (cellsU8 C).toArray) ∧ Below w'.heap.size w' w'') := kp (fun w' => by
    have := R_Walk A hA 3 3 (by decide) w'
    rw [e3] at this
    exact this)
  have d3 : Kp (∀ w', Calls Try.prog 22 #[.agg (cellsU8 A).toArray, .int .i64 3, .agg (cellsU8 B).toArray, .int .i64 5, .int .i64 4] w' fun e w'' => e = .returned (.int .i64 0) ∧ Below w'.heap.size w' w'') := kp (fun w' => by
    have := Check_near A B 3 5 4 2 hA hB (by decide) (by decide) (by decide) (by decide) (by decide) w'
    rw [show learnE A (walkD B 2) = 0 from if_pos e2] at this
    exact this)
  have d4 := kp (fun w' => Check_far A B 3 5 1 hA hB (by decide) (by decide) (by decide) (by decide) w')
  have d5 : Kp (∀ w', Calls Try.prog 22 #[.agg (cellsU8 A).toArray, .int .i64 3, .agg (cellsU8 A).toArray, .int .i64 5, .int .i64 4] w' fun e w'' => e = .returned (.int .i64 13) ∧ Below w'.heap.size w' w'') := kp (fun w' => by
    have := Check_near A A 3 5 4 2 hA hA (by decide) (by decide) (by decide) (by decide) (by decide) w'
    rw [show learnE A (walkD A 2) = 13 from if_neg e4] at this
    exact this)
  have d6 := kp (fun w' => Check_arg A A 3 3 4 hA hA (by decide) w')
  have d7 := kp (fun w' => Tagger_any A hA w')
  have d8 : Kp (∀ w', Calls Try.prog 20 #[.agg (cellsU8 A).toArray, .string ⟨#[116, 97, 103]⟩] w' fun e w'' => e = .returned (.agg (cellsU8 (macD A tagS)).toArray) ∧ Below w'.heap.size w' w'') := kp (fun w' => R_Of A ⟨#[116, 97, 103]⟩ hA (by decide) w')
  have d9 := kp (fun w' => Next_any oneK oneK_length w')
  have d10 : Kp (∀ w', Calls Try.prog 20 #[.agg (cellsU8 oneK).toArray, .string ⟨#[115, 101, 101, 100]⟩] w' fun e w'' => e = .returned (.agg (cellsU8 (macD oneK seedS)).toArray) ∧ Below w'.heap.size w' w'') := kp (fun w' => R_Of oneK ⟨#[115, 101, 101, 100]⟩ oneK_length (by decide) w')
  have HM1 := kp (macD_length A tagS)
  have HM2 := kp (macD_length oneK seedS)
  have HO := kp oneK_length
  have HZK := kp zeroK_length
  generalize macD A tagS = M1 at d7 d8 HM1
  generalize macD oneK seedS = M2 at d9 d10 HM2
  obtain ⟨S, hS⟩ : ∃ S, oneK = S := ⟨_, rfl⟩
  rw [hS] at c1 c2 c3 c4 d9 d10 HO
  have HSS := kp hS
  obtain ⟨ZK, hZK⟩ : ∃ ZK, zeroK = ZK := ⟨_, rfl⟩
  rw [hZK] at c3 HZK
  have HA := kp hA
  have HB' := kp hB
  have HC := kp hK
  clear hA hB hK e1 e2 e3 e4 hS hZK
  have hlo := key_cells _ HO.out
  have SC0 := fun (cur : Array Value) (h : cur.size = 32) => sc_new (P := Try.prog) w 23 (cellsU8 S) (cellsU8_one _) cur (by rw [hlo]; exact h)
  have K_s := kp (Blk.new w 23 (cellsU8 S).toArray)
  have HB := kp (ba (Below.refl w.heap.size w) (.cells (cellsU8 S).toArray 23))
  have L_s := ldK S HO.out K_s.out
  go_enter Try.func15, Try.ntmps15
  go_wp2_with (first | (refine wpL_val 14 rfl rfl (.agg (cellsU8 S).toArray) (by rw [← HSS.out]; kernel_rfl) ?_) | (refine wpL_load rfl 23 _ rfl rfl L_s ?_))
  clear SC0 hlo L_s
  generalize w.alloc (.cells (cellsU8 S).toArray 23) = W_0 at K_s HB ⊢
  refine (c1.out _).mono ?_
  rintro e w_1 ⟨rfl, hb_1⟩
  have hlen_1 := key_cells _ HA.out
  have SC_1 := fun (cur : Array Value) (h : cur.size = 32) => sc_new (P := Try.prog) w_1 23 (cellsU8 A) (cellsU8_one _) cur (by rw [hlen_1]; exact h)
  have K_s := kp ((K_s.out.bel hb_1).alloc (.cells (cellsU8 A).toArray 23))
  have K_a := kp (Blk.new w_1 23 (cellsU8 A).toArray)
  have HB := kp (ba (bt' HB.out hb_1 HB.out.size) (.cells (cellsU8 A).toArray 23))
  clear hb_1
  have L_s := ldK S HO.out K_s.out
  go_wp2_with (first | (refine wpL_load rfl 23 _ rfl rfl L_s ?_))
  clear SC_1 hlen_1
  clear L_s
  generalize w_1.alloc (.cells (cellsU8 A).toArray 23) = W_1 at K_s K_a HB ⊢
  generalize w_1.heap.size = b_a at K_a ⊢
  refine (c2.out _).mono ?_
  rintro e w_2 ⟨rfl, hb_2⟩
  have hlen_2 := key_cells _ HB'.out
  have SC_2 := fun (cur : Array Value) (h : cur.size = 32) => sc_new (P := Try.prog) w_2 23 (cellsU8 B) (cellsU8_one _) cur (by rw [hlen_2]; exact h)
  have K_s := kp ((K_s.out.bel hb_2).alloc (.cells (cellsU8 B).toArray 23))
  have K_a := kp ((K_a.out.bel hb_2).alloc (.cells (cellsU8 B).toArray 23))
  have K_b := kp (Blk.new w_2 23 (cellsU8 B).toArray)
  have HB := kp (ba (bt' HB.out hb_2 HB.out.size) (.cells (cellsU8 B).toArray 23))
  clear hb_2
  have L_s := ldK S HO.out K_s.out
  go_wp2_with (first | (refine wpL_load rfl 23 _ rfl rfl L_s ?_))
  clear SC_2 hlen_2
  clear L_s
  generalize w_2.alloc (.cells (cellsU8 B).toArray 23) = W_2 at K_s K_a K_b HB ⊢
  generalize w_2.heap.size = b_b at K_b ⊢
  refine (c3.out _).mono ?_
  rintro e w_3 ⟨rfl, hb_3⟩
  have hlen_3 := key_cells _ HZK.out
  have SC_3 := fun (cur : Array Value) (h : cur.size = 32) => sc_new (P := Try.prog) w_3 23 (cellsU8 ZK) (cellsU8_one _) cur (by rw [hlen_3]; exact h)
  have K_s := kp ((K_s.out.bel hb_3).alloc (.cells (cellsU8 ZK).toArray 23))
  have K_a := kp ((K_a.out.bel hb_3).alloc (.cells (cellsU8 ZK).toArray 23))
  have K_b := kp ((K_b.out.bel hb_3).alloc (.cells (cellsU8 ZK).toArray 23))
  have K_z := kp (Blk.new w_3 23 (cellsU8 ZK).toArray)
  have HB := kp (ba (bt' HB.out hb_3 HB.out.size) (.cells (cellsU8 ZK).toArray 23))
  clear hb_3
  have L_s := ldK S HO.out K_s.out
  go_wp2_with (first | (refine wpL_load rfl 23 _ rfl rfl L_s ?_))
  clear SC_3 hlen_3
  clear L_s
  generalize w_3.alloc (.cells (cellsU8 ZK).toArray 23) = W_3 at K_s K_a K_b K_z HB ⊢
  generalize w_3.heap.size = b_z at K_z ⊢
  refine (c4.out _).mono ?_
  rintro e w_4 ⟨rfl, hb_4⟩
  have hlen_4 := key_cells _ HC.out
  have SC_4 := fun (cur : Array Value) (h : cur.size = 32) => sc_new (P := Try.prog) w_4 23 (cellsU8 C) (cellsU8_one _) cur (by rw [hlen_4]; exact h)
  have K_s := kp ((K_s.out.bel hb_4).alloc (.cells (cellsU8 C).toArray 23))
  have K_a := kp ((K_a.out.bel hb_4).alloc (.cells (cellsU8 C).toArray 23))
  have K_b := kp ((K_b.out.bel hb_4).alloc (.cells (cellsU8 C).toArray 23))
  have K_z := kp ((K_z.out.bel hb_4).alloc (.cells (cellsU8 C).toArray 23))
  have K_k := kp (Blk.new w_4 23 (cellsU8 C).toArray)
  have HB := kp (ba (bt' HB.out hb_4 HB.out.size) (.cells (cellsU8 C).toArray 23))
  clear hb_4
  have L_k := ldK C HC.out K_k.out
  have L_b := ldK B HB'.out K_b.out
  go_wp2_with (first | (refine wpL_load rfl 23 _ rfl rfl L_k ?_) | (refine wpL_load rfl 23 _ rfl rfl L_b ?_) | (refine wpL_val 37 rfl rfl (.agg (mindL C 0).toArray) (exec_build rfl (by simp [Act.eval, Act.put]) (build_mind0 C HC.out _)) ?_))
  clear SC_4 hlen_4
  clear L_k L_b
  generalize w_4.alloc (.cells (cellsU8 C).toArray 23) = W_4 at K_s K_a K_b K_z K_k HB ⊢
  generalize w_4.heap.size = b_k at K_k ⊢
  refine (c5.out _).mono ?_
  rintro e w_5 ⟨rfl, hb_5⟩
  have hlen_5 := mindL_length B 5 HB'.out
  have SC_5 := fun (cur : Array Value) (h : cur.size = 33) => sc_new (P := Try.prog) w_5 34 (mindL B 5) (mindL_one _ _) cur (by rw [hlen_5]; exact h)
  have K_s := kp ((K_s.out.bel hb_5).alloc (.cells (mindL B 5).toArray 34))
  have K_a := kp ((K_a.out.bel hb_5).alloc (.cells (mindL B 5).toArray 34))
  have K_b := kp ((K_b.out.bel hb_5).alloc (.cells (mindL B 5).toArray 34))
  have K_z := kp ((K_z.out.bel hb_5).alloc (.cells (mindL B 5).toArray 34))
  have K_k := kp ((K_k.out.bel hb_5).alloc (.cells (mindL B 5).toArray 34))
  have K_m := kp (Blk.new w_5 34 (mindL B 5).toArray)
  have HB := kp (ba (bt' HB.out hb_5 HB.out.size) (.cells (mindL B 5).toArray 34))
  clear hb_5
  have L_m := ldM B 5 HB'.out K_m.out
  go_wp2_with (first | (refine wpL_load rfl 34 _ rfl rfl L_m ?_))
  clear SC_5 hlen_5
  clear L_m
  generalize w_5.alloc (.cells (mindL B 5).toArray 34) = W_5 at K_s K_a K_b K_z K_k K_m HB ⊢
  generalize w_5.heap.size = b_m at K_m ⊢
  refine (c6.out _).mono ?_
  rintro e w_6 ⟨rfl, hb_6⟩
  have hlen_6 := key_cells _ HA.out
  have SC_6 := fun (cur : Array Value) (h : cur.size = 32) => sc_new (P := Try.prog) w_6 23 (cellsU8 A) (cellsU8_one _) cur (by rw [hlen_6]; exact h)
  have K_s := kp ((K_s.out.bel hb_6).alloc (.cells (cellsU8 A).toArray 23))
  have K_a := kp ((K_a.out.bel hb_6).alloc (.cells (cellsU8 A).toArray 23))
  have K_b := kp ((K_b.out.bel hb_6).alloc (.cells (cellsU8 A).toArray 23))
  have K_z := kp ((K_z.out.bel hb_6).alloc (.cells (cellsU8 A).toArray 23))
  have K_k := kp ((K_k.out.bel hb_6).alloc (.cells (cellsU8 A).toArray 23))
  have K_m := kp ((K_m.out.bel hb_6).alloc (.cells (cellsU8 A).toArray 23))
  have K_t := kp (Blk.new w_6 23 (cellsU8 A).toArray)
  have HB := kp (ba (bt' HB.out hb_6 HB.out.size) (.cells (cellsU8 A).toArray 23))
  clear hb_6
  go_wp2_with fail
  clear SC_6 hlen_6
  generalize w_6.alloc (.cells (cellsU8 A).toArray 23) = W at K_s K_a K_b K_z K_k K_m K_t HB ⊢
  generalize w_6.heap.size = b_t at K_t ⊢
  have Q_s := kp (fun x => ldK S HO.out (K_s.out.bel (ext_below W x)))
  have Q_a := kp (fun x => ldK A HA.out (K_a.out.bel (ext_below W x)))
  have Q_b := kp (fun x => ldK B HB'.out (K_b.out.bel (ext_below W x)))
  have Q_k := kp (fun x => ldK C HC.out (K_k.out.bel (ext_below W x)))
  have Q_m := kp (fun x => ldM B 5 HB'.out (K_m.out.bel (ext_below W x)))
  have Q_t := kp (fun x => ldK A HA.out (K_t.out.bel (ext_below W x)))
  refine wp_region_ext [0, 1, 2, 3, 4, 5, 6, 7, 8, 9, 10, 11, 12, 13, 14, 15, 16, 17, 18, 19, 20, 21, 22, 23, 24, 25, 26, 27, 28, 29, 30, 31, 32, 33, 34, 35, 36, 37, 38, 39, 40, 41, 42, 43, 44, 45, 46, 47, 48, 49, 50, 51, 52, 53, 54, 55, 56, 57, 58, 59, 60, 61, 62, 63, 64, 65, 66, 67, 68, 69, 70, 71, 72, 73, 74, 75, 76, 77, 78, 79, 80, 81, 82, 83, 84] [85] (by kernel_rfl) (by kernel_rfl) ?_
  simp only [List.append_eq, List.cons_append, List.nil_append, List.map_cons, List.map_nil, List.getD_cons_succ, List.getD_cons_zero]
  repeat (first
    | (go_big_quiet_want; refine quiet_load _ rfl 23 _ rfl rfl (fun w hw => by obtain ⟨x, rfl⟩ := hw; exact Q_s.out x) ?_; go_simp; go_big_quiet_on)
    | (go_big_quiet_want; refine quiet_load _ rfl 23 _ rfl rfl (fun w hw => by obtain ⟨x, rfl⟩ := hw; exact Q_a.out x) ?_; go_simp; go_big_quiet_on)
    | (go_big_quiet_want; refine quiet_load _ rfl 23 _ rfl rfl (fun w hw => by obtain ⟨x, rfl⟩ := hw; exact Q_b.out x) ?_; go_simp; go_big_quiet_on)
    | (go_big_quiet_want; refine quiet_load _ rfl 23 _ rfl rfl (fun w hw => by obtain ⟨x, rfl⟩ := hw; exact Q_k.out x) ?_; go_simp; go_big_quiet_on)
    | (go_big_quiet_want; refine quiet_load _ rfl 34 _ rfl rfl (fun w hw => by obtain ⟨x, rfl⟩ := hw; exact Q_m.out x) ?_; go_simp; go_big_quiet_on)
    | (go_big_quiet_want; refine quiet_load _ rfl 23 _ rfl rfl (fun w hw => by obtain ⟨x, rfl⟩ := hw; exact Q_t.out x) ?_; go_simp; go_big_quiet_on)
    | (go_big_quiet_want; refine quiet_val 100 rfl (.agg (mindL B 5).toArray) (fun w _ => exec_build rfl (by simp [Act.eval, Act.put]) (build_mind B 5 HB'.out w)) ?_; go_simp; go_big_quiet_on)
    | (go_big_quiet_want; refine quiet_eqm (K := B) (K' := B) _ rfl rfl rfl rfl HB'.out HB'.out ?_; simp only [decide_true, and_self]; go_simp; go_big_quiet_on)
    | (go_big_quiet_want; refine quiet_eqk (D := A) (E := A) _ rfl rfl rfl rfl HA.out HA.out ?_; simp only [decide_true]; go_simp; go_big_quiet_on)
    | (go_big_quiet_want; refine quiet_eqk (D := C) (E := C) _ rfl rfl rfl rfl HC.out HC.out ?_; simp only [decide_true]; go_simp; go_big_quiet_on)
    | (go_big_quiet_want; refine quiet_eqk (D := M1) (E := M1) _ rfl rfl rfl rfl HM1.out HM1.out ?_; simp only [decide_true]; go_simp; go_big_quiet_on)
    | (go_big_quiet_want; refine quiet_eqk (D := M2) (E := M2) _ rfl rfl rfl rfl HM2.out HM2.out ?_; simp only [decide_true]; go_simp; go_big_quiet_on)
    | go_big_quiet_step (first | (go_at_call 38; with_reducible exact Calls.ext_of (d1.out _)) | (go_at_call 38; with_reducible exact Calls.ext_of (d2.out _)) | (go_at_call 22; with_reducible exact Calls.ext_of (d3.out _)) | (go_at_call 22; with_reducible exact Calls.ext_of (d4.out _)) | (go_at_call 22; with_reducible exact Calls.ext_of (d5.out _)) | (go_at_call 22; with_reducible exact Calls.ext_of (d6.out _)) | (go_at_call 19; with_reducible exact Calls.ext_of (d7.out _)) | (go_at_call 20; with_reducible exact Calls.ext_of (d8.out _)) | (go_at_call 21; with_reducible exact Calls.ext_of (d9.out _)) | (go_at_call 20; with_reducible exact Calls.ext_of (d10.out _))))
  refine wpQuiet_nil ?_
  rintro z
  go_wp2
  go_ret
  exact ⟨rfl, bt' HB.out (ext_below W z) HB.out.size⟩
end Go.Proofs.Ytfmfdhcmbnabpaa
