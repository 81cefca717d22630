/- sha: what the document fixes. -/
import Derived.Test.YtachnjdmjifefaaSha5
import Derived.Test.YtachnjdmjifefaaEq
namespace Go.Proofs.Ytachnjdmjifefaa
open Go Go.RowKit
set_option linter.unusedVariables false
set_option linter.unusedSimpArgs false
attribute [local go_sem] bmax2 bmin2 bmax bmin cell_ext frozen_ext

/-- a state behind a text -/
def stLm (m : List UInt8) : List Value := stL (hOf m) (str (restOf m)) (m.length : Int) true
def keyC (k : List UInt8) : List Value := cellsU8 k
theorem stLm_len (m : List UInt8) : (stLm m).length = 11 := rfl
theorem stLm_one (m : List UInt8) : ∀ x ∈ stLm m, x.oneCell' = true := stL_one _ _ _ _
theorem New_st (w : World) : Calls Try.prog 23 #[] w fun e w' => e = .returned (.agg (stLm []).toArray) ∧ Below w.heap.size w w' := New_any w
theorem More_st (m : List UInt8) (t : ByteArray) (h : m.length + t.size ≤ 1099511627776) (w : World) : Calls Try.prog 24 #[.agg (stLm m).toArray, .string t] w fun e w' => e = .returned (.agg (stLm (m ++ bs t)).toArray) ∧ Below w.heap.size w w' :=
  More_any m (bs t) _ _ _ true (Or.inl ⟨rfl, rfl, rfl, rfl⟩) h w
theorem Key_st (m : List UInt8) (h : m.length ≤ 549755813888) (w : World) : Calls Try.prog 26 #[.agg (stLm m).toArray] w fun e w' => e = .returned (.agg (cellsU8 (digest m)).toArray) ∧ Below w.heap.size w w' :=
  Key_any m _ _ _ true (Or.inl ⟨rfl, rfl, rfl, rfl⟩) rfl h w
theorem Size_st (m : List UInt8) (w : World) : Calls Try.prog 25 #[.agg (stLm m).toArray] w fun e w' => e = .returned (.int .i64 (m.length : Int)) ∧ Below w.heap.size w w' := Size_any _ _ _ true w
theorem Sum_st (t : ByteArray) (h : t.size ≤ 549755813888) (w : World) : Calls Try.prog 17 #[.string t] w fun e w' => e = .returned (.agg (cellsU8 (digest (bs t))).toArray) ∧ Below w.heap.size w w' := Sum_any (bs t) h w
theorem Walk_st (K : List UInt8) (hK : K.length = 32) (n : Int) (N : Nat) (hN : min (max n 0) 4096 = (N : Int)) (w : World) : Calls Try.prog 21 #[.agg (cellsU8 K).toArray, .int .i64 n] w fun e w' => e = .returned (.agg (cellsU8 (walkD K N)).toArray) ∧ Below w.heap.size w w' := Walk_any K hK n N hN w
theorem Hex_st (K : List UInt8) (hK : K.length = 32) (w : World) : Calls Try.prog 19 #[.agg (cellsU8 K).toArray] w fun e w' => e = .returned (.string (str (hexL K))) ∧ Below w.heap.size w w' := Hex_any K hK w
theorem eq_same (D : List UInt8) (hD : D.length = 32) (w : World) : (Op.equalIn 10000 24 (.agg (cellsU8 D).toArray) (.agg (cellsU8 D).toArray)).run Try.prog w = .ok true w := by rw [eq_key D D hD hD]; simp
theorem eq_dig (m : List UInt8) (w : World) : (Op.equalIn 10000 24 (.agg (cellsU8 (digest m)).toArray) (.agg (cellsU8 (digest m)).toArray)).run Try.prog w = .ok true w := eq_same _ (digest_length m) w
theorem bs_append (a b : ByteArray) : bs (a ++ b) = bs a ++ bs b := by rw [bs, ByteArray.data_append, Array.toList_append]
theorem ldK (K : List UInt8) (hK : K.length = 32) {w : World} {b : Nat} (h : Blk w b 24 (cellsU8 K).toArray) : (Instr.loadAt 24 (.pointer (some ⟨b, 0, none⟩))).run Try.prog w = .ok (.agg (cellsU8 K).toArray) w :=
  ld_all b 32 24 _ (cellsU8 K) _ Try.underlying24 rfl info_key (key_cells K hK) h
theorem ldS (m : List UInt8) {w : World} {b : Nat} (h : Blk w b 34 (stLm m).toArray) : (Instr.loadAt 34 (.pointer (some ⟨b, 0, none⟩))).run Try.prog w = .ok (.agg (stLm m).toArray) w :=
  ld_all b 11 34 _ (stLm m) _ Try.underlying34 rfl info_st rfl h

theorem digest_abc : hexL (digest [97, 98, 99]) = [98, 97, 55, 56, 49, 54, 98, 102, 56, 102, 48, 49, 99, 102, 101, 97, 52, 49, 52, 49, 52, 48, 100, 101, 53, 100, 97, 101, 50, 50, 50, 51, 98, 48, 48, 51, 54, 49, 97, 51, 57, 54, 49, 55, 55, 97, 57, 99, 98, 52, 49, 48, 102, 102, 54, 49, 102, 50, 48, 48, 49, 53, 97, 100] := by decide +kernel

theorem stA_eq (v : V8) (R : ByteArray) (n : Int) (b : Bool) : stA v R n b = .agg (stL v R n b).toArray := rfl

set_option maxHeartbeats 4000000 in
set_option maxRecDepth 100000 in
theorem sha_awake (w : World) : Calls Try.prog 16 #[] w fun e w' => e = .returned (.bool true) ∧ Below w.heap.size w w' := by
  have c1 := kp (fun w' => Sum_any [97, 98, 99] (by decide) w')
  have c2 := kp (fun w' => More_any [] [97] h0V [] 0 true (Or.inl ⟨rfl, rfl, rfl, rfl⟩) (by decide) w')
  have hx := kp digest_abc
  have hdl := digest_length [97, 98, 99]
  obtain ⟨D, hD⟩ : ∃ D, digest [97, 98, 99] = D := ⟨_, rfl⟩
  have hcl := key_cells _ hdl
  rw [hD] at c1 hx hcl
  have HD := kp hD
  have HDL := kp hdl
  clear hD hdl
  unfold keyV at c1
  have HCL := kp hcl
  clear hcl
  obtain ⟨CS, hCS⟩ : ∃ CS, stL (hOf ([] ++ [97])) (str (restOf ([] ++ [97]))) (([] ++ [97] : List UInt8).length : Int) true = CS := ⟨_, rfl⟩
  have hl11 : CS.length = 11 := by rw [← hCS]; rfl
  have h1c := kp (show ∀ x ∈ CS, x.oneCell' = true by rw [← hCS]; exact stL_one _ _ _ _)
  have HCS := kp hCS
  have c2' : Kp (∀ w', Calls Try.prog 24 #[stA h0V (str []) 0 true, .string (str [97])] w' fun e w'' => e = .returned (.agg CS.toArray) ∧ Below w'.heap.size w' w'') := kp (by rw [← hCS]; exact c2.out)
  clear hCS c2
  go_enter Try.func16, Try.ntmps16
  go_wp2_with fail
  refine (c1.out _).mono ?_
  rintro e w1 ⟨rfl, hb1⟩
  have SC := fun (cur : Array Value) (h : cur.size = 32) => sc_new (P := Try.prog) w1 24 (cellsU8 D) (cellsU8_one _) cur (by rw [HCL.out]; exact h)
  have hcl := HCL.out
  go_wp2_with fail
  refine (New_any _).mono ?_
  rintro e w2 ⟨rfl, hb2⟩
  clear SC
  go_wp2_with fail
  refine (c2'.out _).mono ?_
  rintro e w3 ⟨rfl, hb3⟩
  have SC := fun (cur : Array Value) (h : cur.size = 11) => sc_new (P := Try.prog) w3 34 CS h1c.out cur (by rw [hl11]; exact h)
  have K1 := kp ((((Blk.new w1 24 (cellsU8 D).toArray).bel hb2).bel hb3).alloc (.cells CS.toArray 34))
  have K2 := kp (Blk.new w3 34 CS.toArray)
  have HB := kp (ba (bt' (bt' (bt' (Below.refl w.heap.size w) hb1 (Nat.le_refl _)) ((ba (Below.refl w1.heap.size w1) _).trans (hb2.mono (by simp))) hb1.size) hb3 (by have := hb1.size; have := hb2.size; simp at this; omega)) (.cells CS.toArray 34))
  go_wp2_with fail
  clear SC hb1 hb2 hb3
  generalize (w3.alloc (.cells CS.toArray 34)) = W at K1 K2 HB ⊢
  generalize w1.heap.size = b1 at K1 ⊢
  generalize w3.heap.size = b2 at K2 ⊢
  have LK := kp (fun x => ld_all (P := Try.prog) (w := W.ext x) b1 32 24 _ (cellsU8 D) _ Try.underlying24 rfl info_key hcl (K1.out.bel (ext_below W x)))
  have LS := kp (fun x => ld_all (P := Try.prog) (w := W.ext x) b2 11 34 _ CS _ Try.underlying34 rfl info_st hl11 (K2.out.bel (ext_below W x)))
  have d1 := kp (fun w' => Hex_any D (by rw [← HD.out]; exact HDL.out) w')
  obtain ⟨X, hX⟩ : ∃ X, str (hexL D) = X := ⟨_, rfl⟩
  rw [hX] at d1
  unfold keyV at d1
  have e3 : (X.toList == [98, 97, 55, 56, 49, 54, 98, 102, 56, 102, 48, 49, 99, 102, 101, 97, 52, 49, 52, 49, 52, 48, 100, 101, 53, 100, 97, 101, 50, 50, 50, 51, 98, 48, 48, 51, 54, 49, 97, 51, 57, 54, 49, 55, 55, 97, 57, 99, 98, 52, 49, 48, 102, 102, 54, 49, 102, 50, 48, 48, 49, 53, 97, 100]) = true := by rw [← hX, hx.out, toList_bs]; rfl
  clear hX
  obtain ⟨CS2, hCS2⟩ : ∃ CS2, stL (hOf ([97] ++ [98, 99])) (str (restOf ([97] ++ [98, 99]))) (([97] ++ [98, 99] : List UInt8).length : Int) true = CS2 := ⟨_, rfl⟩
  obtain ⟨CS3, hCS3⟩ : ∃ CS3, stL (hOf ([97] ++ [120])) (str (restOf ([97] ++ [120]))) (([97] ++ [120] : List UInt8).length : Int) true = CS3 := ⟨_, rfl⟩
  have d2 : Kp (∀ w', Calls Try.prog 24 #[.agg CS.toArray, .string ⟨#[98, 99]⟩] w' fun e w'' => e = .returned (.agg CS2.toArray) ∧ Below w'.heap.size w' w'') := kp (by
    rw [← hCS2, ← HCS.out]; exact fun w' => More_any [97] [98, 99] _ _ _ true (Or.inl ⟨rfl, rfl, rfl, rfl⟩) (by decide) w')
  have d3 : Kp (∀ w', Calls Try.prog 26 #[.agg CS2.toArray] w' fun e w'' => e = .returned (.agg (cellsU8 D).toArray) ∧ Below w'.heap.size w' w'') := kp (by
    rw [← hCS2, ← HD.out]; exact fun w' => Key_any [97, 98, 99] _ _ _ true (Or.inl ⟨rfl, rfl, rfl, rfl⟩) rfl (by decide) w')
  have d4 : Kp (∀ w', Calls Try.prog 25 #[.agg CS.toArray] w' fun e w'' => e = .returned (.int .i64 1) ∧ Below w'.heap.size w' w'') := kp (by
    rw [← HCS.out]; exact fun w' => Size_any _ _ _ true w')
  have d5 : Kp (∀ w', Calls Try.prog 24 #[.agg CS.toArray, .string ⟨#[120]⟩] w' fun e w'' => e = .returned (.agg CS3.toArray) ∧ Below w'.heap.size w' w'') := kp (by
    rw [← hCS3, ← HCS.out]; exact fun w' => More_any [97] [120] _ _ _ true (Or.inl ⟨rfl, rfl, rfl, rfl⟩) (by decide) w')
  have d6 : Kp (∀ w', Calls Try.prog 25 #[.agg CS3.toArray] w' fun e w'' => e = .returned (.int .i64 2) ∧ Below w'.heap.size w' w'') := kp (by
    rw [← hCS3]; exact fun w' => Size_any _ _ _ true w')
  have hDl : D.length = 32 := by rw [← HD.out]; exact HDL.out
  have d7 : Kp (∀ w', Calls Try.prog 21 #[.agg (cellsU8 D).toArray, .int .i64 0] w' fun e w'' => e = .returned (.agg (cellsU8 D).toArray) ∧ Below w'.heap.size w' w'') := kp (fun w' => Walk_any D hDl 0 0 (by decide) w')
  have d8 : Kp (∀ w', Calls Try.prog 21 #[.agg (cellsU8 D).toArray, .int .i64 1] w' fun e w'' => e = .returned (.agg (cellsU8 (digest D)).toArray) ∧ Below w'.heap.size w' w'') := kp (fun w' => Walk_any D hDl 1 1 (by decide) w')
  have d9 : Kp (∀ w', Calls Try.prog 17 #[.string (str D)] w' fun e w'' => e = .returned (.agg (cellsU8 (digest D)).toArray) ∧ Below w'.heap.size w' w'') := kp (fun w' => Sum_any D (by rw [hDl]; decide) w')
  have hdE := digest_length D
  obtain ⟨E, hE⟩ : ∃ E, digest D = E := ⟨_, rfl⟩
  rw [hE] at d8 d9 hdE
  have e1 : ∀ W : World, (Op.equalIn 10000 24 (.agg (cellsU8 D).toArray) (.agg (cellsU8 D).toArray)).run Try.prog W = .ok true W := fun W => by rw [eq_key D D hDl hDl]; simp
  have e2 : ∀ W : World, (Op.equalIn 10000 24 (.agg (cellsU8 E).toArray) (.agg (cellsU8 E).toArray)).run Try.prog W = .ok true W := fun W => by rw [eq_key E E hdE hdE]; simp
  have g1 := guard_key
  have HCV := kp (fun x => blk_str (P := Try.prog) 42 (e := 5) (dst := 9) (n := 32) (cap := 32) Try.underlying42 Try.underlying5 Try.underlying9 (K1.out.bel (ext_below W x)) hDl)
  have hcv := HCV.out
  have HDl := kp hDl
  clear hCS2 hCS3 hDl hdE hE hcl hl11
  refine wp_region_ext [0, 1, 2, 3, 4, 5, 6, 7, 8, 9, 10, 11, 12, 13, 14, 15, 16, 17, 18, 19, 20, 21, 22, 23, 24, 25, 26, 27, 28, 29, 30, 31, 32, 33, 34] [35] (by kernel_rfl) (by kernel_rfl) ?_
  simp only [List.map_cons, List.map_nil, List.getD_cons_succ, List.getD_cons_zero]
  repeat (first
    | (go_big_quiet_want; refine quiet_load _ rfl 24 _ rfl rfl (fun w hw => by obtain ⟨x, rfl⟩ := hw; exact LK.out x) ?_; go_simp; go_big_quiet_on)
    | (go_big_quiet_want; refine quiet_load _ rfl 34 _ rfl rfl (fun w hw => by obtain ⟨x, rfl⟩ := hw; exact LS.out x) ?_; go_simp; go_big_quiet_on)
    | go_big_quiet_step (first | (go_at_call 19; with_reducible exact Calls.ext_of (d1.out _)) | (go_at_call 26; with_reducible exact Calls.ext_of (d3.out _)) | (go_at_call 17; with_reducible exact Calls.ext_of (d9.out _)) | (go_at_call 24; with_reducible exact Calls.ext_of (d2.out _)) | (go_at_call 24; with_reducible exact Calls.ext_of (d5.out _)) | (go_at_call 25; with_reducible exact Calls.ext_of (d4.out _)) | (go_at_call 25; with_reducible exact Calls.ext_of (d6.out _)) | (go_at_call 21; with_reducible exact Calls.ext_of (d7.out _)) | (go_at_call 21; with_reducible exact Calls.ext_of (d8.out _))))
  refine wpQuiet_nil ?_
  rintro z
  go_wp2
  go_ret
  exact ⟨rfl, bt' HB.out (ext_below W z) HB.out.size⟩
end Go.Proofs.Ytachnjdmjifefaa
