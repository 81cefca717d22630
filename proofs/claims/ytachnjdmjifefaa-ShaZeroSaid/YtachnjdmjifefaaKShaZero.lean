/- ShaZero: the walk. -/
import Derived.Test.YtachnjdmjifefaaSha6
namespace Go.Proofs.Ytachnjdmjifefaa
open Go Go.RowKit
set_option linter.unusedVariables false
set_option linter.unusedSimpArgs false
attribute [local go_sem] bmax2 bmin2 bmax bmin cell_ext frozen_ext

set_option maxHeartbeats 4000000 in
set_option maxRecDepth 100000 in
theorem ShaZero_walk (s : ByteArray) (ws : s.size ≤ maxLen) (w : World) :
    Calls Try.prog 9 #[.string s] w fun e w' => e = .returned (.bool true) ∧ Below w.heap.size w w' := by
  clear ws
  by_cases hla : (1024 : Int) < (s.size : Int)
  · go_enter Try.func9, Try.ntmps9
    go_wp2_with fail
    refine (sha_awake w).mono ?_
    rintro e w' ⟨rfl, hb⟩
    go_wp2
    go_ret
    exact ⟨rfl, hb⟩
  have hs : s.size ≤ 1024 := by omega
  have c1 : Kp (∀ w', Calls Try.prog 26 #[.agg (stL ⟨0, 0, 0, 0, 0, 0, 0, 0⟩ ⟨#[]⟩ 0 false).toArray] w' fun e w'' => e = .returned (.agg (cellsU8 (digest [])).toArray) ∧ Below w'.heap.size w' w'') := kp (fun w' => Key_any [] _ [] _ false (Or.inr ⟨rfl, rfl⟩) rfl (by decide) w')
  have c2 : Kp (∀ w', Calls Try.prog 17 #[.string ⟨#[]⟩] w' fun e w'' => e = .returned (.agg (cellsU8 (digest [])).toArray) ∧ Below w'.heap.size w' w'') := kp (fun w' => Sum_st ⟨#[]⟩ (by decide) w')
  have c3 : Kp (∀ w', Calls Try.prog 24 #[.agg (stL ⟨0, 0, 0, 0, 0, 0, 0, 0⟩ ⟨#[]⟩ 0 false).toArray, .string s] w' fun e w'' => e = .returned (.agg (stLm (bs s)).toArray) ∧ Below w'.heap.size w' w'') := kp (fun w' => More_any [] (bs s) _ [] _ false (Or.inr ⟨rfl, rfl⟩) (by rw [size_bs]; simp; omega) w')
  have c4 : Kp (∀ w', Calls Try.prog 26 #[.agg (stLm (bs s)).toArray] w' fun e w'' => e = .returned (.agg (cellsU8 (digest (bs s))).toArray) ∧ Below w'.heap.size w' w'') := kp (fun w' => Key_st (bs s) (by rw [size_bs]; omega) w')
  have c5 : Kp (∀ w', Calls Try.prog 17 #[.string s] w' fun e w'' => e = .returned (.agg (cellsU8 (digest (bs s))).toArray) ∧ Below w'.heap.size w' w'') := kp (fun w' => Sum_st s (by omega) w')
  have c6 : Kp (∀ w', Calls Try.prog 24 #[.agg (stLm []).toArray, .string ⟨#[]⟩] w' fun e w'' => e = .returned (.agg (stLm []).toArray) ∧ Below w'.heap.size w' w'') := kp (fun w' => More_st [] ⟨#[]⟩ (by decide) w')
  have c7 : Kp (∀ w', Calls Try.prog 24 #[.agg (stLm []).toArray, .string s] w' fun e w'' => e = .returned (.agg (stLm (bs s)).toArray) ∧ Below w'.heap.size w' w'') := kp (fun w' => More_st [] s (by simp; omega) w')
  have c8 : Kp (∀ w', Calls Try.prog 25 #[.agg (stL ⟨0, 0, 0, 0, 0, 0, 0, 0⟩ ⟨#[]⟩ 0 false).toArray] w' fun e w'' => e = .returned (.int .i64 0) ∧ Below w'.heap.size w' w'') := kp (fun w' => Size_any _ _ _ false w')
  have e1 := eq_dig
  have g1 := guard_key
  go_enter Try.func9, Try.ntmps9
  go_wp2_with fail
  refine (sha_awake w).mono ?_
  rintro e w1 ⟨rfl, hb⟩
  have K1 := kp (Blk.new w1 34 (stL ⟨0, 0, 0, 0, 0, 0, 0, 0⟩ ⟨#[]⟩ 0 false).toArray)
  have HB := kp (ba hb (.cells (stL ⟨0, 0, 0, 0, 0, 0, 0, 0⟩ ⟨#[]⟩ 0 false).toArray 34))
  clear hb
  go_upto_region 6 with (fail)
  change Code.wp _ _ _ _ (w1.alloc (.cells (stL ⟨0, 0, 0, 0, 0, 0, 0, 0⟩ ⟨#[]⟩ 0 false).toArray 34))
  generalize w1.alloc (.cells (stL ⟨0, 0, 0, 0, 0, 0, 0, 0⟩ ⟨#[]⟩ 0 false).toArray 34) = W at K1 HB ⊢
  generalize w1.heap.size = b1 at K1 ⊢
  obtain ⟨CS, hCS⟩ : ∃ CS, stL ⟨0, 0, 0, 0, 0, 0, 0, 0⟩ ⟨#[]⟩ 0 false = CS := ⟨_, rfl⟩
  have hl11 : CS.length = 11 := by rw [← hCS]; rfl
  rw [hCS] at K1 c1 c3 c8
  have LS := kp (fun x => ld_all (P := Try.prog) (w := W.ext x) b1 11 34 _ CS _ Try.underlying34 rfl info_st hl11 (K1.out.bel (ext_below W x)))
  clear hCS hl11
  refine wp_region_extP 28 ?_
  simp only [List.take_succ_cons, List.take_zero, List.drop_succ_cons, List.drop_zero]
  repeat (first
    | (go_big_quiet_want; refine quiet_load _ rfl 34 _ rfl rfl (fun w hw => by obtain ⟨x, rfl⟩ := hw; exact LS.out x) ?_; go_simp; go_big_quiet_on)
    | go_big_quiet_step (first | (go_at_call 23; with_reducible exact Calls.ext_of (New_st _)) | (go_at_call 26; with_reducible exact Calls.ext_of (c1.out _)) | (go_at_call 26; with_reducible exact Calls.ext_of (c4.out _)) | (go_at_call 17; with_reducible exact Calls.ext_of (c2.out _)) | (go_at_call 17; with_reducible exact Calls.ext_of (c5.out _)) | (go_at_call 24; with_reducible exact Calls.ext_of (c3.out _)) | (go_at_call 24; with_reducible exact Calls.ext_of (c6.out _)) | (go_at_call 24; with_reducible exact Calls.ext_of (c7.out _)) | (go_at_call 25; with_reducible exact Calls.ext_of (c8.out _))))
  refine wpQuiet_nil ?_
  rintro z
  go_wp2
  go_ret
  exact ⟨rfl, bt' HB.out (ext_below W z) HB.out.size⟩
end Go.Proofs.Ytachnjdmjifefaa
