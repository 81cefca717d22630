/- MacNames: the walk. -/
import Derived.Test.YtachnjdmjifefaaMac4
import Derived.Test.YtachnjdmjifefaaMac5
import Derived.Test.YtachnjdmjifefaaEq2
namespace Go.Proofs.Ytachnjdmjifefaa
open Go Go.RowKit
set_option linter.unusedVariables false
set_option linter.unusedSimpArgs false
attribute [local go_sem] bmax2 bmin2 bmax bmin cell_ext frozen_ext

set_option maxHeartbeats 4000000 in
set_option maxRecDepth 100000 in
theorem MacNames_walk (w : World) (K : List UInt8) (a0 a1 : ByteArray) (hK : K.length = 32) (b0 : a0.size ≤ maxLen) (b1 : a1.size ≤ maxLen) :
    Calls Try.prog 14 #[keyV K, .string a0, .string a1] w fun e w' => e = .returned (.bool true) ∧ Below w.heap.size w w' := by
  clear b0 b1
  unfold keyV
  cases hl : largeB [a0, a1] with
  | true =>
    go_enter Try.func14, Try.ntmps14
    go_wp2_with fail
    refine (mac_awake _).mono ?_
    rintro e w1 ⟨rfl, hb⟩
    have HB := kp (bt' (ba (Below.refl w.heap.size w) (.cells (cellsU8 K).toArray 24)) hb (by simp))
    clear hb
    go_wp2_with fail
    refine (large_any (some ⟨w1.heap.size, 0, none⟩) 2 [a0, a1] _ (by unfold maxLen; simp) (HeldT.lit w1 _ [a0, a1])).mono ?_
    rintro e w' ⟨rfl, rfl⟩
    go_wp2
    go_ret
    exact ⟨rfl, ba HB.out _⟩
  | false =>
    have hsz := largeB_false hl
    have za0 := hsz a0 (by simp)
    have za1 := hsz a1 (by simp)
    clear hsz
    have c1 := kp (fun w' => Of_any K a0 hK (by omega) w')
    have hel := macD_length K (bs a0)
    have c2 : Kp (∀ w', Calls Try.prog 33 #[.string (str K), .string a0, .int .i64 32] w' fun e w'' => e = .returned (.string (str (macD K (bs a0)))) ∧ Below w'.heap.size w' w'') := kp (fun w' => by
      have := Short_any (str K) a0 32 32 (by decide) (by rw [str_size]; omega) (by omega) w'
      rw [bs_str, List.take_of_length_le (by rw [hel]; omega)] at this
      exact this)
    have hcl := key_cells _ hel
    have HEL := kp hel
    generalize macD K (bs a0) = E at *
    obtain ⟨S, hS⟩ : ∃ S, str E = S := ⟨_, rfl⟩
    have HSE := kp hS
    have c3 := kp (fun w' => Of_any E a1 hel (by omega) w')
    have c4 := kp (fun w' => Tag_any (str E) a1 (by rw [str_size]; omega) (by omega) w')
    rw [bs_str, hS] at c4
    rw [hS] at c2
    clear hS
    have hfl := kp (macD_length E (bs a1))
    generalize macD E (bs a1) = F at c3 c4 hfl
    have HK := kp hK
    clear hel hK
    go_enter Try.func14, Try.ntmps14
    go_wp2_with fail
    refine (mac_awake _).mono ?_
    rintro e w1 ⟨rfl, hb⟩
    have HB := kp (bt' (ba (Below.refl w.heap.size w) (.cells (cellsU8 K).toArray 24)) hb (by simp))
    have K1 := kp ((Blk.new w 24 (cellsU8 K).toArray).bel hb)
    clear hb
    go_wp2_with fail
    refine (large_any (some ⟨w1.heap.size, 0, none⟩) 2 [a0, a1] _ (by unfold maxLen; simp) (HeldT.lit w1 _ [a0, a1])).mono ?_
    rintro e w' ⟨rfl, rfl⟩
    have HB2 := kp (ba HB.out (.cells (List.map Value.string [a0, a1]).toArray 9))
    have K2 := kp (K1.out.alloc (.cells (List.map Value.string [a0, a1]).toArray 9))
    clear K1
    clear HB
    generalize w1.alloc (.cells (List.map Value.string [a0, a1]).toArray 9) = W at HB2 K2
    have LD := ldK K HK.out K2.out
    go_wp2_with (refine wpL_load rfl 24 _ rfl rfl LD ?_)
    clear LD
    refine (c1.out _).mono ?_
    rintro e w3 ⟨rfl, hb3⟩
    have SC := fun (cur : Array Value) (h : cur.size = 32) => sc_new (P := Try.prog) w3 24 (cellsU8 E) (cellsU8_one _) cur (by rw [hcl]; exact h)
    have K3 := kp (Blk.new w3 24 (cellsU8 E).toArray)
    have K4 := kp ((K2.out.bel hb3).alloc (.cells (cellsU8 E).toArray 24))
    have HB3 := kp (ba (bt' HB2.out hb3 HB2.out.size) (.cells (cellsU8 E).toArray 24))
    clear hb3 K2
    have hcv := blk_str (P := Try.prog) 42 (e := 5) (dst := 9) (n := 32) (cap := 32) Try.underlying42 Try.underlying5 Try.underlying9 K4.out HK.out
    go_wp2_with fail
    clear SC hcv
    generalize w3.alloc (.cells (cellsU8 E).toArray 24) = W3 at K3 K4 HB3
    generalize w3.heap.size = b3 at K3 ⊢
    refine (c2.out _).mono ?_
    rintro e w4 ⟨rfl, hb4⟩
    have K5 := kp (K3.out.bel hb4)
    have HB4 := kp (bt' HB3.out hb4 HB3.out.size)
    clear hb4 K3 K4
    go_upto_region 7 with (fail)
    have LK := kp (fun x => ldK E HEL.out (K5.out.bel (ext_below w4 x)))
    have hcv := fun x => blk_str (P := Try.prog) 42 (e := 5) (dst := 9) (n := 32) (cap := 32) Try.underlying42 Try.underlying5 Try.underlying9 (K5.out.bel (ext_below w4 x)) HEL.out
    rw [HSE.out] at hcv
    refine wp_region_extP 13 ?_
    simp only [List.take_succ_cons, List.take_zero, List.drop_succ_cons, List.drop_zero]
    repeat (first
      | (go_big_quiet_want; refine quiet_load _ rfl 24 _ rfl rfl (fun w hw => by obtain ⟨x, rfl⟩ := hw; exact LK.out x) ?_; go_simp; go_big_quiet_on)
      | (go_big_quiet_want; refine quiet_eqk (D := F) (E := F) _ rfl rfl rfl rfl hfl.out hfl.out ?_; simp only [decide_true]; go_simp; go_big_quiet_on)
      | go_big_quiet_step (first | (go_at_call 31; with_reducible exact Calls.ext_of (c3.out _)) | (go_at_call 29; with_reducible exact Calls.ext_of (c4.out _))))
    refine wpQuiet_nil ?_
    rintro z
    go_wp2
    go_ret
    exact ⟨rfl, bt' HB4.out (ext_below w4 z) HB4.out.size⟩
end Go.Proofs.Ytachnjdmjifefaa
