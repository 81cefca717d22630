/- MacTells: the walk. -/
import Derived.Test.YtachnjdmjifefaaMac4
import Derived.Test.YtachnjdmjifefaaMac5
import Derived.Test.YtachnjdmjifefaaEq2
namespace Go.Proofs.Ytachnjdmjifefaa
open Go Go.RowKit
set_option linter.unusedVariables false
set_option linter.unusedSimpArgs false
attribute [local go_sem] bmax2 bmin2 bmax bmin cell_ext frozen_ext

set_option maxHeartbeats 4000000 in
set_option maxRecDepth 100000 in
theorem MacTells_walk (w : World) (a0 a1 a2 : ByteArray) (K : List UInt8) (n : Int) (b0 : a0.size ≤ maxLen) (b1 : a1.size ≤ maxLen) (b2 : a2.size ≤ maxLen) (hK : K.length = 32) (wn : (Lit.int .i64 n).wf = true) :
    Calls Try.prog 10 #[.string a0, .string a1, .string a2, keyV K, .int .i64 n] w fun e w' => e = .returned (.bool true) ∧ Below w.heap.size w w' := by
  clear b0 b1 b2 wn
  unfold keyV
  cases hl : largeB [a0, a1, a2] with
  | true =>
    go_enter Try.func10, Try.ntmps10
    go_wp2_with fail
    refine (mac_awake _).mono ?_
    rintro e w1 ⟨rfl, hb⟩
    have HB := kp (bt' (ba (Below.refl w.heap.size w) (.cells (cellsU8 K).toArray 24)) hb (by simp))
    clear hb
    go_wp2_with fail
    refine (large_any (some ⟨w1.heap.size, 0, none⟩) 3 [a0, a1, a2] _ (by unfold maxLen; simp) (HeldT.lit w1 _ [a0, a1, a2])).mono ?_
    rintro e w' ⟨rfl, rfl⟩
    go_wp2
    go_ret
    exact ⟨rfl, ba HB.out _⟩
  | false =>
    have hsz := largeB_false hl
    have za0 := hsz a0 (by simp)
    have za1 := hsz a1 (by simp)
    have za2 := hsz a2 (by simp)
    clear hsz
    obtain ⟨N, hN⟩ : ∃ N : Nat, min (max n 0) 32 = (N : Int) := ⟨(min (max n 0) 32).toNat, by omega⟩
    have c1 := kp (fun w' => Tag_any a0 a1 (by omega) (by omega) w')
    have c2 := kp (fun w' => R_Tag a0 a1 (by omega) (by omega) w')
    have c3 := kp (fun w' => Of_any K a1 hK (by omega) w')
    have c4 := kp (fun w' => R_Of K a1 hK (by omega) w')
    have c5 := kp (fun w' => Short_any a0 a1 n N hN (by omega) (by omega) w')
    have c6 := kp (fun w' => R_Short a0 a1 n N hN (by omega) (by omega) w')
    have c7 := kp (fun w' => Right_any a0 a1 a2 (by omega) (by omega) (by omega) w')
    have c8 := kp (fun w' => R_Right a0 a1 a2 (by omega) (by omega) (by omega) w')
    have e1 := eq_same _ (macD_length (bs a0) (bs a1))
    have e2 := eq_same _ (macD_length K (bs a1))
    generalize str ((macD (bs a0) (bs a1)).take N) = X at c5 c6
    generalize rightB (bs a0) (bs a1) (bs a2) = R at c7 c8
    generalize macD (bs a0) (bs a1) = E at c1 c2 e1
    generalize macD K (bs a1) = F at c3 c4 e2
    have g1 := guard_key
    have HK := kp hK
    clear hK hN
    go_enter Try.func10, Try.ntmps10
    go_wp2_with fail
    refine (mac_awake _).mono ?_
    rintro e w1 ⟨rfl, hb⟩
    have HB := kp (bt' (ba (Below.refl w.heap.size w) (.cells (cellsU8 K).toArray 24)) hb (by simp))
    have K1 := kp ((Blk.new w 24 (cellsU8 K).toArray).bel hb)
    clear hb
    go_wp2_with fail
    refine (large_any (some ⟨w1.heap.size, 0, none⟩) 3 [a0, a1, a2] _ (by unfold maxLen; simp) (HeldT.lit w1 _ [a0, a1, a2])).mono ?_
    rintro e w' ⟨rfl, rfl⟩
    have HB2 := kp (ba HB.out (.cells (List.map Value.string [a0, a1, a2]).toArray 9))
    have K2 := kp (K1.out.alloc (.cells (List.map Value.string [a0, a1, a2]).toArray 9))
    clear K1
    clear HB
    go_wp2
    change Code.wp _ _ _ _ (w1.alloc (.cells (List.map Value.string [a0, a1, a2]).toArray 9))
    generalize w1.alloc (.cells (List.map Value.string [a0, a1, a2]).toArray 9) = W at HB2 K2 ⊢
    have LK := kp (fun x => ldK K HK.out (K2.out.bel (ext_below W x)))
    refine wp_region_ext [0, 1, 2, 3, 4, 5, 6, 7, 8, 9, 10, 11, 12, 13, 14, 15, 16, 17, 18, 19, 20, 21, 22, 23, 24, 25, 26, 27, 28, 29, 30, 31, 32, 33, 34, 35, 36, 37] [38] (by kernel_rfl) (by kernel_rfl) ?_
    simp only [List.map_cons, List.map_nil, List.getD_cons_succ, List.getD_cons_zero]
    repeat (first
      | (go_big_quiet_want; refine quiet_load _ rfl 24 _ rfl rfl (fun w hw => by obtain ⟨x, rfl⟩ := hw; exact LK.out x) ?_; go_simp; go_big_quiet_on)
      | go_big_quiet_step (first | (go_at_call 29; with_reducible exact Calls.ext_of (c1.out _)) | (go_at_call 30; with_reducible exact Calls.ext_of (c2.out _)) | (go_at_call 31; with_reducible exact Calls.ext_of (c3.out _)) | (go_at_call 32; with_reducible exact Calls.ext_of (c4.out _)) | (go_at_call 33; with_reducible exact Calls.ext_of (c5.out _)) | (go_at_call 34; with_reducible exact Calls.ext_of (c6.out _)) | (go_at_call 35; with_reducible exact Calls.ext_of (c7.out _)) | (go_at_call 36; with_reducible exact Calls.ext_of (c8.out _))))
    refine wpQuiet_nil ?_
    rintro z
    go_wp2
    go_ret
    exact ⟨rfl, bt' HB2.out (ext_below W z) HB2.out.size⟩
end Go.Proofs.Ytachnjdmjifefaa
