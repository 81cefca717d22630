/- MacPads: the walk. -/
import Derived.Test.YtachnjdmjifefaaMac4
import Derived.Test.YtachnjdmjifefaaMac5
import Derived.Test.YtachnjdmjifefaaEq2
namespace Go.Proofs.Ytachnjdmjifefaa
open Go Go.RowKit
set_option linter.unusedVariables false
set_option linter.unusedSimpArgs false
attribute [local go_sem] bmax2 bmin2 bmax bmin cell_ext frozen_ext

set_option maxHeartbeats 4000000 in
set_option maxRecDepth 100000 in
theorem MacPads_walk (a0 a1 : ByteArray) (b0 : a0.size ≤ maxLen) (b1 : a1.size ≤ maxLen) (w : World) :
    Calls Try.prog 13 #[.string a0, .string a1] w fun e w' => e = .returned (.bool true) ∧ Below w.heap.size w w' := by
  clear b0 b1
  cases hl : largeB [a0, a1] with
  | true =>
    go_enter Try.func13, Try.ntmps13
    go_wp2_with fail
    refine (mac_awake _).mono ?_
    rintro e w1 ⟨rfl, hb⟩
    have HB := kp hb
    clear hb
    go_wp2_with fail
    refine (large_any (some ⟨w1.heap.size, 0, none⟩) 2 [a0, a1] _ (by unfold maxLen; simp) (HeldT.lit w1 _ [a0, a1])).mono ?_
    rintro e w' ⟨rfl, rfl⟩
    go_wp2
    go_ret
    exact ⟨rfl, ba HB.out _⟩
  | false =>
    have hsz := largeB_false hl
    have za0 := hsz a0 (by simp)
    have za1 := hsz a1 (by simp)
    clear hsz
    have c1 := kp (fun w' => Tag_any a0 a1 (by omega) (by omega) w')
    have hel := macD_length (bs a0) (bs a1)
    have e1 := eq_same _ hel
    have hcl := key_cells _ hel
    have HEL := kp hel
    have c2 : Kp (a0.size < 64 → ∀ w', Calls Try.prog 29 #[.string (a0 ++ ⟨#[0]⟩), .string a1] w' fun e w'' => e = .returned (.agg (cellsU8 (macD (bs a0) (bs a1))).toArray) ∧ Below w'.heap.size w' w'') := kp (fun h w' => by
      have := Tag_any (a0 ++ ⟨#[0]⟩) a1 (by rw [ByteArray.size_append]; show _ + 1 ≤ _; omega) (by omega) w'
      rw [bs_append, show bs ⟨#[0]⟩ = [0] from rfl, macD_snoc (k := bs a0) (by rw [size_bs]; exact h)] at this
      exact this)
    have c3 : Kp (64 < a0.size → ∀ w', Calls Try.prog 29 #[.string (str (digest (bs a0))), .string a1] w' fun e w'' => e = .returned (.agg (cellsU8 (macD (bs a0) (bs a1))).toArray) ∧ Below w'.heap.size w' w'') := kp (fun h w' => by
      have := Tag_any (str (digest (bs a0))) a1 (by rw [str_size, digest_length]; omega) (by omega) w'
      rw [bs_str, macD_dig (k := bs a0) (by rw [size_bs]; exact h)] at this
      exact this)
    have c4 := kp (fun w' => R_Sum_st a0 (by omega) w')
    have hdl := digest_length (bs a0)
    have HDL := kp hdl
    have hcl2 := key_cells _ hdl
    generalize macD (bs a0) (bs a1) = E at *
    generalize digest (bs a0) = D at *
    have g1 := guard_key
    have hs0 : (⟨#[0]⟩ : ByteArray).size ≤ 1 := by decide
    clear hel hdl
    go_enter Try.func13, Try.ntmps13
    go_wp2_with fail
    refine (mac_awake _).mono ?_
    rintro e w1 ⟨rfl, hb⟩
    have HB := kp hb
    clear hb
    go_wp2_with fail
    refine (large_any (some ⟨w1.heap.size, 0, none⟩) 2 [a0, a1] _ (by unfold maxLen; simp) (HeldT.lit w1 _ [a0, a1])).mono ?_
    rintro e w' ⟨rfl, rfl⟩
    have HB2 := kp (ba HB.out (.cells (List.map Value.string [a0, a1]).toArray 9))
    clear HB
    generalize w1.alloc (.cells (List.map Value.string [a0, a1]).toArray 9) = W at HB2
    rcases Nat.lt_trichotomy a0.size 64 with h | h | h
    · have h1 : (a0.size : Int) < 64 := by omega
      go_wp2_with fail
      refine (c1.out _).mono ?_
      rintro e w3 ⟨rfl, hb3⟩
      have SC := fun (cur : Array Value) (h : cur.size = 32) => sc_new (P := Try.prog) w3 24 (cellsU8 E) (cellsU8_one _) cur (by rw [hcl]; exact h)
      have K3 := kp (Blk.new w3 24 (cellsU8 E).toArray)
      have HB3 := kp (ba (bt' HB2.out hb3 HB2.out.size) (.cells (cellsU8 E).toArray 24))
      clear hb3
      go_wp2_with fail
      clear SC
      generalize w3.alloc (.cells (cellsU8 E).toArray 24) = W3 at K3 HB3 ⊢
      have LK := kp (fun x => ldK E HEL.out (K3.out.bel (ext_below W3 x)))
      have hsz0 : (a0 ++ (⟨#[0]⟩ : ByteArray)).size ≤ 400 := by rw [ByteArray.size_append]; show _ + 1 ≤ _; omega
      refine wp_region_ext [0, 1, 2, 3, 4, 5] [6] (by kernel_rfl) (by kernel_rfl) ?_
      simp only [List.map_cons, List.map_nil, List.getD_cons_succ, List.getD_cons_zero]
      repeat (first
        | (go_big_quiet_want; refine quiet_load _ rfl 24 _ rfl rfl (fun w hw => by obtain ⟨x, rfl⟩ := hw; exact LK.out x) ?_; go_simp; go_big_quiet_on)
        | go_big_quiet_step ((go_at_call 29; with_reducible exact Calls.ext_of (c2.out h _))))
      refine wpQuiet_nil ?_
      rintro z
      go_wp2
      go_ret
      exact ⟨rfl, bt' HB3.out (ext_below W3 z) HB3.out.size⟩
    · have h1 : ¬ (a0.size : Int) < 64 := by omega
      have h2 : ¬ (64 : Int) < (a0.size : Int) := by omega
      go_wp2_with fail
      refine (c1.out _).mono ?_
      rintro e w3 ⟨rfl, hb3⟩
      have SC := fun (cur : Array Value) (h : cur.size = 32) => sc_new (P := Try.prog) w3 24 (cellsU8 E) (cellsU8_one _) cur (by rw [hcl]; exact h)
      have K3 := kp (Blk.new w3 24 (cellsU8 E).toArray)
      have HB3 := kp (ba (bt' HB2.out hb3 HB2.out.size) (.cells (cellsU8 E).toArray 24))
      clear hb3
      clear h
      go_wp2
      go_ret
      exact ⟨rfl, HB3.out⟩
    · have h1 : ¬ (a0.size : Int) < 64 := by omega
      have h2 : (64 : Int) < (a0.size : Int) := by omega
      go_wp2_with fail
      refine (c1.out _).mono ?_
      rintro e w3 ⟨rfl, hb3⟩
      have SC := fun (cur : Array Value) (h : cur.size = 32) => sc_new (P := Try.prog) w3 24 (cellsU8 E) (cellsU8_one _) cur (by rw [hcl]; exact h)
      have K3 := kp (Blk.new w3 24 (cellsU8 E).toArray)
      have HB3 := kp (ba (bt' HB2.out hb3 HB2.out.size) (.cells (cellsU8 E).toArray 24))
      clear hb3
      go_wp2_with fail
      clear SC
      generalize w3.alloc (.cells (cellsU8 E).toArray 24) = W3 at K3 HB3
      generalize w3.heap.size = b3 at K3 ⊢
      refine (c4.out _).mono ?_
      rintro e w4 ⟨rfl, hb4⟩
      have SC := fun (cur : Array Value) (h : cur.size = 32) => sc_new (P := Try.prog) w4 24 (cellsU8 D) (cellsU8_one _) cur (by rw [hcl2]; exact h)
      have K4 := kp ((K3.out.bel hb4).alloc (.cells (cellsU8 D).toArray 24))
      have K5 := kp (Blk.new w4 24 (cellsU8 D).toArray)
      have HB4 := kp (ba (bt' HB3.out hb4 HB3.out.size) (.cells (cellsU8 D).toArray 24))
      clear hb4 K3
      go_wp2_with fail
      clear SC
      generalize w4.alloc (.cells (cellsU8 D).toArray 24) = W4 at K4 K5 HB4 ⊢
      generalize w4.heap.size = b4 at K5 ⊢
      have LK := kp (fun x => ldK E HEL.out (K4.out.bel (ext_below W4 x)))
      have hcv := fun x => blk_str (P := Try.prog) 42 (e := 5) (dst := 9) (n := 32) (cap := 32) Try.underlying42 Try.underlying5 Try.underlying9 (K5.out.bel (ext_below W4 x)) HDL.out
      refine wp_region_ext [0, 1, 2, 3, 4, 5] [6] (by kernel_rfl) (by kernel_rfl) ?_
      simp only [List.map_cons, List.map_nil, List.getD_cons_succ, List.getD_cons_zero]
      repeat (first
        | (go_big_quiet_want; refine quiet_load _ rfl 24 _ rfl rfl (fun w hw => by obtain ⟨x, rfl⟩ := hw; exact LK.out x) ?_; go_simp; go_big_quiet_on)
        | go_big_quiet_step ((go_at_call 29; with_reducible exact Calls.ext_of (c3.out h _))))
      refine wpQuiet_nil ?_
      rintro z
      go_wp2
      go_ret
      exact ⟨rfl, bt' HB4.out (ext_below W4 z) HB4.out.size⟩
end Go.Proofs.Ytachnjdmjifefaa
