/- ShaAdds: the walk. -/
import Derived.Test.YtachnjdmjifefaaSha6
namespace Go.Proofs.Ytachnjdmjifefaa
open Go Go.RowKit
set_option linter.unusedVariables false
set_option linter.unusedSimpArgs false
attribute [local go_sem] bmax2 bmin2 bmax bmin cell_ext frozen_ext

set_option maxHeartbeats 4000000 in
set_option maxRecDepth 100000 in
theorem ShaAdds_walk (w : World) (K : List UInt8) (a b : Int) (hK : K.length = 32) (wa : (Lit.int .u8 a).wf = true) (wb : (Lit.int .u8 b).wf = true) :
    Calls Try.prog 7 #[keyV K, .int .u8 a, .int .u8 b] w fun e w' => e = .returned (.bool true) ∧ Below w.heap.size w w' := by
  have ha := wf_u8 wa
  have hb := wf_u8 wb
  clear wa wb
  obtain ⟨X, hX⟩ : ∃ X : Nat, a % 20 = (X : Int) := ⟨(a % 20).toNat, by omega⟩
  obtain ⟨Y, hY⟩ : ∃ Y : Nat, b % 20 = (Y : Int) := ⟨(b % 20).toNat, by omega⟩
  obtain ⟨ha1, ha2⟩ := ha
  obtain ⟨hb1, hb2⟩ := hb
  have hX2 : (X : Int) < 20 := by omega
  have hY2 : (Y : Int) < 20 := by omega
  have hlY := walkD_length K hK X
  have hlZ := walkD_length K hK (X + Y)
  have c1 : Kp (∀ w', Calls Try.prog 21 #[.agg (cellsU8 K).toArray, .int .i64 X] w' fun e w'' => e = .returned (.agg (cellsU8 (walkD K X)).toArray) ∧ Below w'.heap.size w' w'') := kp (fun w' => Walk_st K hK X X (by omega) w')
  have c2 : Kp (∀ w', Calls Try.prog 21 #[.agg (cellsU8 (walkD K X)).toArray, .int .i64 Y] w' fun e w'' => e = .returned (.agg (cellsU8 (walkD K (X + Y))).toArray) ∧ Below w'.heap.size w' w'') := kp (by rw [← walkD_add]; exact fun w' => Walk_st _ hlY Y Y (by omega) w')
  have c3 : Kp (∀ w', Calls Try.prog 21 #[.agg (cellsU8 K).toArray, .int .i64 ((X : Int) + (Y : Int))] w' fun e w'' => e = .returned (.agg (cellsU8 (walkD K (X + Y))).toArray) ∧ Below w'.heap.size w' w'') := kp (fun w' => Walk_st K hK _ (X + Y) (by omega) w')
  have c4 : Kp (∀ w', Calls Try.prog 21 #[.agg (cellsU8 K).toArray, .int .i64 (-(X : Int))] w' fun e w'' => e = .returned (.agg (cellsU8 K).toArray) ∧ Below w'.heap.size w' w'') := kp (fun w' => Walk_st K hK _ 0 (by omega) w')
  have e1 := eq_same _ hlZ
  have e2 := eq_same K hK
  have g1 := guard_key
  have HK := kp hK
  obtain ⟨P, hP⟩ : ∃ P, walkD K X = P := ⟨_, rfl⟩
  obtain ⟨R, hR⟩ : ∃ R, walkD K (X + Y) = R := ⟨_, rfl⟩
  rw [hP] at c1 c2
  rw [hR] at c2 c3 e1
  have w1 : IntKind.i64.wrap ((X : Int) + (Y : Int)) = (X : Int) + (Y : Int) := IntWalk.i64_in _ (by omega)
  have w2 : IntKind.i64.wrap (-(X : Int)) = -(X : Int) := IntWalk.i64_in _ (by omega)
  clear hlY hlZ hK hP hR
  unfold keyV
  go_enter Try.func7, Try.ntmps7
  go_wp2_with fail
  refine (sha_awake _).mono ?_
  rintro e w3 ⟨rfl, hb⟩
  have K1 := kp ((Blk.new w 24 (cellsU8 K).toArray).bel hb)
  have HB := kp (bt' (ba (Below.refl w.heap.size w) _) hb (by simp))
  clear hb
  go_wp2
  have LK := kp (fun x => ldK K HK.out (K1.out.bel (ext_below w3 x)))
  refine wp_region_ext [0, 1, 2, 3, 4, 5, 6, 7, 8, 9, 10, 11, 12, 13, 14, 15, 16, 17, 18] [19] (by kernel_rfl) (by kernel_rfl) ?_
  simp only [List.map_cons, List.map_nil, List.getD_cons_succ, List.getD_cons_zero]
  repeat (first
    | (go_big_quiet_want; refine quiet_load _ rfl 24 _ rfl rfl (fun w hw => by obtain ⟨x, rfl⟩ := hw; exact LK.out x) ?_; go_simp; go_big_quiet_on)
    | go_big_quiet_step (first | (go_at_call 21; with_reducible exact Calls.ext_of (c1.out _)) | (go_at_call 21; with_reducible exact Calls.ext_of (c2.out _)) | (go_at_call 21; with_reducible exact Calls.ext_of (c3.out _)) | (go_at_call 21; with_reducible exact Calls.ext_of (c4.out _))))
  refine wpQuiet_nil ?_
  rintro z
  go_wp2
  go_ret
  exact ⟨rfl, bt' HB.out (ext_below w3 z) HB.out.size⟩
end Go.Proofs.Ytachnjdmjifefaa
