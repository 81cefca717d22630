/- ShaWalks: the walk. -/
import Derived.Test.YtachnjdmjifefaaRSha4
namespace Go.Proofs.Ytachnjdmjifefaa
open Go Go.RowKit
set_option linter.unusedVariables false
set_option linter.unusedSimpArgs false
attribute [local go_sem] bmax2 bmin2 bmax bmin cell_ext frozen_ext

set_option maxHeartbeats 4000000 in
set_option maxRecDepth 100000 in
theorem ShaWalks_walk (w : World) (K : List UInt8) (n : Int) (hK : K.length = 32) (wn : (Lit.int .i64 n).wf = true) :
    Calls Try.prog 4 #[keyV K, .int .i64 n] w fun e w' => e = .returned (.bool true) ∧ Below w.heap.size w w' := by
  clear wn
  unfold keyV
  by_cases hn : n > 20
  · go_enter Try.func4, Try.ntmps4
    go_wp2_with fail
    refine (sha_awake _).mono ?_
    rintro e w3 ⟨rfl, hb⟩
    go_wp2
    go_ret
    exact ⟨rfl, bt' (ba (Below.refl w.heap.size w) _) hb (by simp)⟩
  · obtain ⟨N, hN⟩ : ∃ N : Nat, min (max n 0) 4096 = (N : Int) := ⟨(min (max n 0) 4096).toNat, by omega⟩
    have c1 := kp (fun w' => Walk_st K hK n N hN w')
    have c2 := kp (fun w' => R_Walk K hK n N hN w')
    have hl := walkD_length K hK N
    have e1 := eq_same _ hl
    generalize walkD K N = P at c1 c2 e1
    have g1 := guard_key
    have HK := kp hK
    clear hl hK hN
    go_enter Try.func4, Try.ntmps4
    go_wp2_with fail
    refine (sha_awake _).mono ?_
    rintro e w3 ⟨rfl, hb⟩
    have K1 := kp ((Blk.new w 24 (cellsU8 K).toArray).bel hb)
    have HB := kp (bt' (ba (Below.refl w.heap.size w) _) hb (by simp))
    clear hb
    go_wp2
    have LK := kp (fun x => ldK K HK.out (K1.out.bel (ext_below w3 x)))
    refine wp_region_ext [0, 1, 2, 3, 4, 5, 6] [7] (by kernel_rfl) (by kernel_rfl) ?_
    simp only [List.map_cons, List.map_nil, List.getD_cons_succ, List.getD_cons_zero]
    repeat (first
      | (go_big_quiet_want; refine quiet_load _ rfl 24 _ rfl rfl (fun w hw => by obtain ⟨x, rfl⟩ := hw; exact LK.out x) ?_; go_simp; go_big_quiet_on)
      | go_big_quiet_step (first | (go_at_call 21; with_reducible exact Calls.ext_of (c1.out _)) | (go_at_call 22; with_reducible exact Calls.ext_of (c2.out _))))
    refine wpQuiet_nil ?_
    rintro z
    go_wp2
    go_ret
    exact ⟨rfl, bt' HB.out (ext_below w3 z) HB.out.size⟩
end Go.Proofs.Ytachnjdmjifefaa
