/- ShaTells: the walk. -/
import Derived.Test.YtachnjdmjifefaaRSha4
namespace Go.Proofs.Ytachnjdmjifefaa
open Go Go.RowKit
set_option linter.unusedVariables false
set_option linter.unusedSimpArgs false
attribute [local go_sem] bmax2 bmin2 bmax bmin cell_ext frozen_ext

set_option maxHeartbeats 4000000 in
set_option maxRecDepth 100000 in
theorem ShaTells_walk (t : ByteArray) (ht : t.size ≤ maxLen) (w : World) :
    Calls Try.prog 3 #[.string t] w fun e w' => e = .returned (.bool true) ∧ Below w.heap.size w w' := by
  clear ht
  by_cases hn : t.size > 1024
  · go_enter Try.func3, Try.ntmps3
    go_wp2_with fail
    refine (sha_awake _).mono ?_
    rintro e w3 ⟨rfl, hb⟩
    go_wp2
    go_ret
    exact ⟨rfl, hb⟩
  · have c1 := kp (fun w' => Sum_st t (by omega) w')
    have c2 := kp (fun w' => R_Sum_st t (by omega) w')
    have hl := digest_length (bs t)
    generalize digest (bs t) = D at c1 c2 hl
    have c3 := kp (fun w' => Hex_st D hl w')
    have c4 := kp (fun w' => R_Hex D hl w')
    generalize str (hexL D) = X at c3 c4
    have e1 := eq_same _ hl
    have g1 := guard_key
    have hcl := key_cells D hl
    have HL := kp hl
    clear hl
    go_enter Try.func3, Try.ntmps3
    go_wp2_with fail
    refine (sha_awake _).mono ?_
    rintro e w3 ⟨rfl, hb⟩
    go_wp2_with fail
    refine (c1.out _).mono ?_
    rintro e w4 ⟨rfl, hb4⟩
    have SC := fun (cur : Array Value) (h : cur.size = 32) => sc_new (P := Try.prog) w4 24 (cellsU8 D) (cellsU8_one _) cur (by rw [hcl]; exact h)
    have K1 := kp (Blk.new w4 24 (cellsU8 D).toArray)
    have HB := kp (ba (bt' hb hb4 hb.size) (.cells (cellsU8 D).toArray 24))
    clear hb hb4
    go_wp2
    clear SC
    generalize (w4.alloc (.cells (cellsU8 D).toArray 24)) = W at K1 HB ⊢
    generalize w4.heap.size = b at K1 ⊢
    have LK := kp (fun x => ldK D HL.out (K1.out.bel (ext_below W x)))
    refine wp_region_ext [0, 1, 2, 3, 4, 5, 6, 7, 8, 9, 10] [11] (by kernel_rfl) (by kernel_rfl) ?_
    simp only [List.map_cons, List.map_nil, List.getD_cons_succ, List.getD_cons_zero]
    repeat (first
      | (go_big_quiet_want; refine quiet_load _ rfl 24 _ rfl rfl (fun w hw => by obtain ⟨x, rfl⟩ := hw; exact LK.out x) ?_; go_simp; go_big_quiet_on)
      | go_big_quiet_step (first | (go_at_call 18; with_reducible exact Calls.ext_of (c2.out _)) | (go_at_call 19; with_reducible exact Calls.ext_of (c3.out _)) | (go_at_call 20; with_reducible exact Calls.ext_of (c4.out _))))
    refine wpQuiet_nil ?_
    rintro z
    go_wp2
    go_ret
    exact ⟨rfl, bt' HB.out (ext_below W z) HB.out.size⟩
end Go.Proofs.Ytachnjdmjifefaa
