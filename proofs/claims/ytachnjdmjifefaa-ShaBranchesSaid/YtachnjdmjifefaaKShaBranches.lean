/- ShaBranches: the walk. -/
import Derived.Test.YtachnjdmjifefaaSha6
namespace Go.Proofs.Ytachnjdmjifefaa
open Go Go.RowKit
set_option linter.unusedVariables false
set_option linter.unusedSimpArgs false
attribute [local go_sem] bmax2 bmin2 bmax bmin cell_ext frozen_ext

set_option maxHeartbeats 4000000 in
set_option maxRecDepth 100000 in
theorem ShaBranches_walk (a b c : ByteArray) (wa : a.size ≤ maxLen) (wb : b.size ≤ maxLen) (wc : c.size ≤ maxLen) (w : World) :
    Calls Try.prog 6 #[.string a, .string b, .string c] w fun e w' => e = .returned (.bool true) ∧ Below w.heap.size w w' := by
  clear wa wb wc
  by_cases h1 : (512 : Int) < (a.size : Int)
  · go_enter Try.func6, Try.ntmps6
    go_wp2_with fail
    refine (sha_awake w).mono ?_
    rintro e w' ⟨rfl, hb⟩
    go_wp2
    go_ret
    exact ⟨rfl, hb⟩
  have g1 : decide ((512 : Int) < (a.size : Int)) = false := decide_eq_false h1
  by_cases h2 : (512 : Int) < (b.size : Int)
  · go_enter Try.func6, Try.ntmps6
    go_wp2_with fail
    refine (sha_awake w).mono ?_
    rintro e w' ⟨rfl, hb⟩
    go_wp2
    go_ret
    exact ⟨rfl, hb⟩
  have g2 : decide ((512 : Int) < (b.size : Int)) = false := decide_eq_false h2
  by_cases h3 : (512 : Int) < (c.size : Int)
  · go_enter Try.func6, Try.ntmps6
    go_wp2_with fail
    refine (sha_awake w).mono ?_
    rintro e w' ⟨rfl, hb⟩
    go_wp2
    go_ret
    exact ⟨rfl, hb⟩
  have g3 : decide ((512 : Int) < (c.size : Int)) = false := decide_eq_false h3
  have ha : a.size ≤ 512 := by omega
  have hb : b.size ≤ 512 := by omega
  have hc : c.size ≤ 512 := by omega
  have la : (bs a).length ≤ 512 := ha
  have lb : (bs b).length ≤ 512 := hb
  have lc : (bs c).length ≤ 512 := hc
  have LA := kp la
  have LB := kp lb
  have LC := kp lc
  clear la lb lc
  have m1 : Kp (∀ w', Calls Try.prog 24 #[.agg (stLm []).toArray, .string a] w' fun e w'' => e = .returned (.agg (stLm (bs a)).toArray) ∧ Below w'.heap.size w' w'') := kp (fun w' => More_st [] a (by simp; omega) w')
  have m2 : Kp (∀ w', Calls Try.prog 24 #[.agg (stLm (bs a)).toArray, .string b] w' fun e w'' => e = .returned (.agg (stLm (bs a ++ bs b)).toArray) ∧ Below w'.heap.size w' w'') := kp (fun w' => More_st _ b (by have := LA.out; omega) w')
  have m3 : Kp (∀ w', Calls Try.prog 24 #[.agg (stLm (bs a)).toArray, .string c] w' fun e w'' => e = .returned (.agg (stLm (bs a ++ bs c)).toArray) ∧ Below w'.heap.size w' w'') := kp (fun w' => More_st _ c (by have := LA.out; omega) w')
  have m4 : Kp (∀ w', Calls Try.prog 24 #[.agg (stLm (bs a ++ bs b)).toArray, .string c] w' fun e w'' => e = .returned (.agg (stLm (bs a ++ (bs b ++ bs c))).toArray) ∧ Below w'.heap.size w' w'') := kp (by rw [← List.append_assoc]; exact fun w' => More_st _ c (by have := LA.out; have := LB.out; rw [List.length_append]; omega) w')
  have k1 : Kp (∀ w', Calls Try.prog 26 #[.agg (stLm (bs a)).toArray] w' fun e w'' => e = .returned (.agg (cellsU8 (digest (bs a))).toArray) ∧ Below w'.heap.size w' w'') := kp (fun w' => Key_st _ (by have := LA.out; omega) w')
  have k2 : Kp (∀ w', Calls Try.prog 26 #[.agg (stLm (bs a ++ bs b)).toArray] w' fun e w'' => e = .returned (.agg (cellsU8 (digest (bs a ++ bs b))).toArray) ∧ Below w'.heap.size w' w'') := kp (fun w' => Key_st _ (by have := LA.out; have := LB.out; rw [List.length_append]; omega) w')
  have k3 : Kp (∀ w', Calls Try.prog 26 #[.agg (stLm (bs a ++ bs c)).toArray] w' fun e w'' => e = .returned (.agg (cellsU8 (digest (bs a ++ bs c))).toArray) ∧ Below w'.heap.size w' w'') := kp (fun w' => Key_st _ (by have := LA.out; have := LC.out; rw [List.length_append]; omega) w')
  have k4 : Kp (∀ w', Calls Try.prog 26 #[.agg (stLm (bs a ++ (bs b ++ bs c))).toArray] w' fun e w'' => e = .returned (.agg (cellsU8 (digest (bs a ++ (bs b ++ bs c)))).toArray) ∧ Below w'.heap.size w' w'') := kp (fun w' => Key_st _ (by have := LA.out; have := LB.out; have := LC.out; rw [List.length_append, List.length_append]; omega) w')
  have zab : (a ++ b).size ≤ 1024 := by rw [← size_bs, bs_append, List.length_append]; have := LA.out; have := LB.out; omega
  have zac : (a ++ c).size ≤ 1024 := by rw [← size_bs, bs_append, List.length_append]; have := LA.out; have := LC.out; omega
  have zabc : (a ++ b ++ c).size ≤ 1536 := by rw [← size_bs, bs_append, bs_append, List.length_append, List.length_append]; have := LA.out; have := LB.out; have := LC.out; omega
  have s1 : Kp (∀ w', Calls Try.prog 17 #[.string a] w' fun e w'' => e = .returned (.agg (cellsU8 (digest (bs a))).toArray) ∧ Below w'.heap.size w' w'') := kp (fun w' => Sum_st a (by omega) w')
  have s2 : Kp (∀ w', Calls Try.prog 17 #[.string (a ++ b)] w' fun e w'' => e = .returned (.agg (cellsU8 (digest (bs a ++ bs b))).toArray) ∧ Below w'.heap.size w' w'') := kp (by rw [← bs_append]; exact fun w' => Sum_st _ (by omega) w')
  have s3 : Kp (∀ w', Calls Try.prog 17 #[.string (a ++ c)] w' fun e w'' => e = .returned (.agg (cellsU8 (digest (bs a ++ bs c))).toArray) ∧ Below w'.heap.size w' w'') := kp (by rw [← bs_append]; exact fun w' => Sum_st _ (by omega) w')
  have s4 : Kp (∀ w', Calls Try.prog 17 #[.string (a ++ b ++ c)] w' fun e w'' => e = .returned (.agg (cellsU8 (digest (bs a ++ (bs b ++ bs c)))).toArray) ∧ Below w'.heap.size w' w'') := kp (by rw [← List.append_assoc, ← bs_append, ← bs_append]; exact fun w' => Sum_st _ (by omega) w')
  have e1 := eq_dig
  have gk := guard_key
  go_enter Try.func6, Try.ntmps6
  go_wp2_with fail
  refine (sha_awake w).mono ?_
  rintro e w1 ⟨rfl, hb1⟩
  have HB1 := kp hb1
  clear hb1
  go_wp2_with fail
  refine (New_st _).mono ?_
  rintro e w2 ⟨rfl, hb2⟩
  have HB2 := kp (bt' HB1.out hb2 HB1.out.size)
  clear hb2
  go_wp2_with fail
  refine (m1.out _).mono ?_
  rintro e w3 ⟨rfl, hb3⟩
  have SC := fun (cur : Array Value) (h : cur.size = 11) => sc_new (P := Try.prog) w3 34 (stLm (bs a)) (stLm_one _) cur h
  have hl11 := stLm_len (bs a)
  have K1 := kp (Blk.new w3 34 (stLm (bs a)).toArray)
  have HB3 := kp (ba (bt' HB2.out hb3 HB2.out.size) (.cells (stLm (bs a)).toArray 34))
  have hw3 := kp (bt' HB2.out hb3 HB2.out.size).size
  clear hb3 HB1 HB2
  go_wp2_with fail
  clear SC
  generalize (w3.alloc (.cells (stLm (bs a)).toArray 34)) = W at K1 HB3 ⊢
  have hW7 : w.heap.size ≤ w3.heap.size := hw3.out
  clear hw3
  generalize w3.heap.size = b7 at K1 hW7 ⊢
  refine wp_region_mkE [0, 1, 2, 3, 4, 5] [6, 7] [8, 9] 77 (fun _ => VA W.heap.size 34 (stL ⟨0, 0, 0, 0, 0, 0, 0, 0⟩ ⟨#[]⟩ 0 false).toArray) (· ≠ ·) (by kernel_rfl) (by kernel_rfl) rfl (fun i v W W' h hb => h.mono hb) ?_
  apply Exists.intro
  refine ⟨fun X hX => ?_, ?_, ?_⟩
  · have LS := kp (fun x => ldS (bs a) ((K1.out.bel hX).bel (ext_below X x)))
    simp only [List.map_cons, List.map_nil, List.getD_cons_succ, List.getD_cons_zero]
    repeat (first
      | (go_big_quiet_want; refine quiet_load _ rfl 34 _ rfl rfl (fun w hw => by obtain ⟨x, rfl⟩ := hw; exact LS.out x) ?_; go_simp; go_big_quiet_on)
      | go_big_quiet_step (first | (go_at_call 24; with_reducible exact Calls.ext_of (m2.out _)) | (go_at_call 24; with_reducible exact Calls.ext_of (m3.out _))))
    exact wpQuiet_nil rfl
  · exact ⟨mk_alloc rfl (fun W => by kernel_rfl) (fun j u W h => h.ne), mk_alloc rfl (fun W => by kernel_rfl) (fun j u W h => h.ne), trivial⟩
  intro v8 _ v9 hne
  simp only [List.map_cons, List.map_nil, List.getD_cons_succ, List.getD_cons_zero, TailX]
  rintro X hX ⟨⟨_, b8, rfl, hb8, hk8⟩, b9, rfl, hb9, hk9⟩
  have h89 : b8 ≠ b9 := fun e => hne (.pointer (some ⟨b8, 0, none⟩)) (by simp) (by rw [e])
  have h7 : b7 < W.heap.size := K1.out.lt
  have J7 := ((K1.out.bel hX).rowfar (b := b8) (by omega) (stLm (bs a ++ bs b)).toArray).rowfar (b := b9) (by omega) (stLm (bs a ++ bs c)).toArray
  have J8 := (hk8.row (stLm (bs a ++ bs b)).toArray).rowfar (b := b9) h89 (stLm (bs a ++ bs c)).toArray
  have hk9' := hk9.rowfar (b := b8) (Ne.symm h89) (stLm (bs a ++ bs b)).toArray
  have J9 := hk9'.row (stLm (bs a ++ bs c)).toArray
  have SC1 := sc_all (P := Try.prog) (w := X) b8 34 (stLm (bs a ++ bs b)) _ hk8 rfl (stLm_one _)
  have SC2 := sc_all (P := Try.prog) b9 34 (stLm (bs a ++ bs c)) _ hk9' rfl (stLm_one _)
  have l1 := stLm_len (bs a ++ bs b)
  have l2 := stLm_len (bs a ++ bs c)
  have HBX := bt' HB3.out hX HB3.out.size
  have HBY := kp (bsr (bsr HBX (b := b8) (by omega) HBX.size (stLm (bs a ++ bs b)).toArray) (b := b9) (by omega) (by rw [size_setRow]; exact HBX.size) (stLm (bs a ++ bs c)).toArray)
  have HJ7 := kp J7
  have HJ8 := kp J8
  have HJ9 := kp J9
  clear J7 J8 J9 hk8 hk9 hk9' hX hb8 hb9 hne h89 HBX HB3 K1
  generalize X.setRow b8 (stLm (bs a ++ bs b)).toArray = Y1 at *
  generalize Y1.setRow b9 (stLm (bs a ++ bs c)).toArray = Y at *
  go_upto_region 7 with (fail)
  clear SC1 SC2
  have L7 := kp (fun x => ldS (bs a) (HJ7.out.bel (ext_below Y x)))
  have L8 := kp (fun x => ldS (bs a ++ bs b) (HJ8.out.bel (ext_below Y x)))
  have L9 := kp (fun x => ldS (bs a ++ bs c) (HJ9.out.bel (ext_below Y x)))
  refine wp_region_extP 43 ?_
  simp only [List.take_succ_cons, List.take_zero, List.drop_succ_cons, List.drop_zero]
  repeat (first
    | (go_big_quiet_want; refine quiet_load _ rfl 34 (.tmp 7) rfl rfl (fun w hw => by obtain ⟨x, rfl⟩ := hw; exact L7.out x) ?_; go_simp; go_big_quiet_on)
    | (go_big_quiet_want; refine quiet_load _ rfl 34 (.tmp 8) rfl rfl (fun w hw => by obtain ⟨x, rfl⟩ := hw; exact L8.out x) ?_; go_simp; go_big_quiet_on)
    | (go_big_quiet_want; refine quiet_load _ rfl 34 (.tmp 9) rfl rfl (fun w hw => by obtain ⟨x, rfl⟩ := hw; exact L9.out x) ?_; go_simp; go_big_quiet_on)
    | go_big_quiet_step (first | (go_at_call 26; with_reducible exact Calls.ext_of (k1.out _)) | (go_at_call 26; with_reducible exact Calls.ext_of (k2.out _)) | (go_at_call 26; with_reducible exact Calls.ext_of (k3.out _)) | (go_at_call 26; with_reducible exact Calls.ext_of (k4.out _)) | (go_at_call 17; with_reducible exact Calls.ext_of (s1.out _)) | (go_at_call 17; with_reducible exact Calls.ext_of (s2.out _)) | (go_at_call 17; with_reducible exact Calls.ext_of (s3.out _)) | (go_at_call 17; with_reducible exact Calls.ext_of (s4.out _)) | (go_at_call 24; with_reducible exact Calls.ext_of (m4.out _))))
  refine wpQuiet_nil ?_
  rintro z
  go_wp2
  go_ret
  exact ⟨rfl, bt' HBY.out (ext_below Y z) HBY.out.size⟩
end Go.Proofs.Ytachnjdmjifefaa
