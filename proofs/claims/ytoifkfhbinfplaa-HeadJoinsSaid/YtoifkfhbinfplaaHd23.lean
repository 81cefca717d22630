/- head: awake. Printed by genhd23.py. -/
import Derived.Test.YtoifkfhbinfplaaHd22
namespace Go.Proofs.Ytoifkfhbinfplaa
open Go Go.RowKit
set_option linter.unusedVariables false
set_option linter.unusedSimpArgs false
attribute [local go_sem] bmax2 bmin2 bmax bmin cell_ext frozen_ext

theorem cells_one (h : Hd) : ∀ v ∈ h.cells, v.oneCell' = true := by intro v hv; simp [Hd.cells] at hv; rcases hv with rfl | rfl | rfl | rfl | rfl | rfl | rfl | rfl | rfl | rfl | rfl | rfl | rfl <;> rfl
set_option maxRecDepth 100000 in
theorem build_A (W : World) : (Instr.build 26 #[(1, .int .i64 4), (2, .int .i64 5), (4, .int .i64 (-6)), (12, .int .u64 1)]).run Try.prog W = .ok (.agg hA.cells.toArray) W := by
  exact run_build W 26 _ _ (by kernel_rfl)
set_option maxRecDepth 100000 in
theorem slice_two (k k' : Int) (d d' : ByteArray) (W : World) : (Instr.buildSlice 35 2 #[(0, .agg #[.int .i64 k, .string d]), (1, .agg #[.int .i64 k', .string d'])]).run Try.prog W = .ok (.slice (some ⟨W.heap.size, 0, none⟩) 2 2) (W.alloc (.cells #[.int .i64 k, .string d, .int .i64 k', .string d'] 48)) := by
  kernel_rfl
theorem ReadP.get {w w' : World} {h : Hd} {l : List Fd} {er : Int} {e : Ending} (hr : ReadP w h l er e w') : ∃ ad c, e = .returned (.tuple #[.agg h.cells.toArray, .slice ad l.length c, .int .i64 er]) ∧ FS w' ad l ∧ Below w.heap.size w w' := by
  obtain ⟨⟨ad, c, he, hf⟩, hb⟩ := hr
  exact ⟨ad, c, he, hf, hb⟩
theorem new_head {P : Program} {T : TypeId} {W : World} {Z V : List Value} (hz : Z.length = 13) (hv : V.length = 13) (h1 : ∀ v ∈ V, v.oneCell' = true) :
    ∃ Y, Below W.heap.size W Y ∧ Blk Y W.heap.size T V.toArray ∧ (storeCells ⟨W.heap.size, 0, none⟩ V).run P (W.alloc (.cells Z.toArray T)) = .ok () Y := by
  have hX := Blk.new W T Z.toArray
  refine ⟨(W.alloc (.cells Z.toArray T)).setRow W.heap.size V.toArray, ?_, hX.row V.toArray, sc_all W.heap.size T V _ hX (by rw [hv, hz]) h1⟩
  have h0 := ba (Below.refl W.heap.size W) (.cells Z.toArray T)
  exact bsr h0 (Nat.le_refl _) h0.size V.toArray
theorem sA_at (i : Nat) (h : i < (str sA).size) (v : UInt8) (hv : sA[i]? = some v) : (str sA)[i] = v := by
  have h1 : sA[i]? = some ((str sA)[i]) := by
    have : i < sA.length := h
    rw [List.getElem?_eq_getElem this]
    rfl
  rw [h1] at hv
  exact Option.some.inj hv
set_option maxHeartbeats 8000000 in
set_option maxRecDepth 100000 in
theorem head_awake (w : World) : Calls Try.prog 11 #[] w fun e w' => e = .returned (.bool true) ∧ Below w.heap.size w w' := by
  have cP : Kp (∀ w', Calls Try.prog 12 #[.agg hA.cells.toArray] w' fun e w'' => e = .returned (.tuple #[.string (str sA), .int .i64 0]) ∧ Below w'.heap.size w' w'') := kp (fun w' => by
    have h := M_Put hA hA_ok w'
    rw [hA_may, show hA.put = sA by unfold Hd.put; rw [hA_may, if_pos rfl, hA_bytes]] at h
    exact h)
  have cP0 : Kp (∀ w', Calls Try.prog 12 #[.agg zeroH.cells.toArray] w' fun e w'' => e = .returned (.tuple #[.string (str []), .int .i64 2]) ∧ Below w'.heap.size w' w'') := kp (fun w' => Put_bad zeroH zero_may w')
  have cT : Kp (∀ w', Calls Try.prog 14 #[.string (str sA)] w' fun e w'' => e = .returned (.tuple #[.agg hA.cells.toArray, .int .i64 0]) ∧ Below w'.heap.size w' w'') := kp (fun w' => by
    have h := M_Take_any (str sA) (by rw [str_size]; decide) w'
    rw [take_A] at h
    exact h)
  have cTx : Kp (∀ w', Calls Try.prog 14 #[.string ⟨#[120]⟩] w' fun e w'' => e = .returned (.tuple #[.agg zeroH.cells.toArray, .int .i64 5]) ∧ Below w'.heap.size w' w'') := kp (fun w' => by
    have h := M_Take_any (str [120]) (by rw [str_size]; decide) w'
    rw [take_x] at h
    exact h)
  have cW : Kp (∀ ad c w', FS w' ad lA → Calls Try.prog 21 #[.agg hA.cells.toArray, .slice ad 2 c] w' fun e w'' => e = .returned (.tuple #[.string (str (sA ++ tA)), .int .i64 0]) ∧ Below w'.heap.size w' w'') := kp (fun ad c w' hf => by
    have h := M_Write hA hA_ok ad c lA w' (by rw [lA_body]; decide) hf
    rw [write_A] at h
    exact h)
  have cR : Kp (∀ w', Calls Try.prog 19 #[.string (str (sA ++ tA))] w' fun e w'' => ∃ ad c, e = .returned (.tuple #[.agg hA.cells.toArray, .slice ad 2 c, .int .i64 0]) ∧ FS w'' ad lA ∧ Below w'.heap.size w' w'') := kp (fun w' => by
    have h := M_Read (str (sA ++ tA)) (by rw [str_size]; decide) w'
    rw [read_A] at h
    exact h.mono fun e w'' hr => hr.get)
  have cRx : Kp (∀ w', Calls Try.prog 19 #[.string (str (sA ++ tA) ++ ⟨#[120]⟩)] w' fun e w'' => ∃ ad c, e = .returned (.tuple #[.agg zeroH.cells.toArray, .slice ad 0 c, .int .i64 2]) ∧ FS w'' ad [] ∧ Below w'.heap.size w' w'') := kp (fun w' => by
    have h := M_Read (str (sA ++ tA) ++ ⟨#[120]⟩) (by rw [ByteArray.size_append, str_size]; decide) w'
    rw [read_Ax] at h
    exact h.mono fun e w'' hr => hr.get)
  have cF7 : Kp (∀ ad c w', FS w' ad lA → Calls Try.prog 24 #[.slice ad 2 c, .int .i64 7] w' fun e w'' => e = .returned (.tuple #[.string (str []), .bool true]) ∧ Below w'.heap.size w' w'') := kp (fun ad c w' hf => by
    have h := M_Find ad c lA 7 w' (by decide) hf
    rw [find_7] at h
    exact h)
  have cF8 : Kp (∀ ad c w', FS w' ad lA → Calls Try.prog 24 #[.slice ad 2 c, .int .i64 8] w' fun e w'' => e = .returned (.tuple #[.string (str []), .bool false]) ∧ Below w'.heap.size w' w'') := kp (fun ad c w' hf => by
    have h := M_Find ad c lA 8 w' (by decide) hf
    rw [find_8] at h
    exact h)
  have cS : Kp (∀ ad c ad2 c2 w', FS w' ad lA → FS w' ad2 lA → Calls Try.prog 23 #[.slice ad 2 c, .slice ad2 2 c2] w' fun e w'' => e = .returned (.bool true) ∧ Below w'.heap.size w' w'') := kp (fun ad c ad2 c2 w' hf hg => by
    have h := R_Same ad c lA ad2 c2 lA w' (by decide) (by decide) hf hg
    rw [sameF_self] at h
    exact h)
  have cM : Kp (∀ w', Calls Try.prog 16 #[.agg hA.cells.toArray] w' fun e w'' => e = .returned (.bool true) ∧ Below w'.heap.size w' w'') := kp (fun w' => by
    have h := M_May hA w'
    rw [hA_may] at h
    exact h)
  have HBA := kp build_A
  have HZL : Kp (zeroH.cells.length = 13) := kp rfl
  have HZO := kp zero_one
  have HBZ := kp build_zero
  have HNL : Kp (hA.cells.length = 13) := kp rfl
  have HNO := kp (cells_one hA)
  have EQ : Kp (∀ (o : Oper) (a : Act) (x y : Operand) (t' : TypeId) (w' : World), o.op = .binOp .eql 26 x y t' → a.eval x = .agg hA.cells.toArray → a.eval y = .agg hA.cells.toArray → (execOp a.eval o).run Try.prog w' = .ok (.value (.bool true)) w') := kp (fun o a x y t' w' ho hx hy => by rw [exec_eqh ho hx hy w', Hd.eqb_self])
  have zU : (str (sA ++ tA)).size = 64 := rfl
  have gE : (str []).toList = [] := by rw [toList_bs]; rfl
  have gT : ((str (sA ++ tA)).extract 48 64).toList = [1, 2, 0, 9, 97, 98, 99, 100, 101, 0, 0, 0, 0, 7, 0, 4] := by rw [toList_bs, bs_extract, bs_str]; rfl
  have HFA := kp (show lA = [⟨258, str [97, 98, 99, 100, 101]⟩, ⟨7, str []⟩] from rfl)
  generalize lA = LA at *
  obtain ⟨Z, hZ⟩ : ∃ Z, zeroH.cells = Z := ⟨_, rfl⟩
  have HZZ := kp hZ
  rw [hZ] at HZL HZO HBZ cP0 cTx cRx
  obtain ⟨N, hN⟩ : ∃ N, hA.cells = N := ⟨_, rfl⟩
  rw [hN] at HNL HNO HBA cP cT cW cR cM EQ
  clear hZ hN
  obtain ⟨S, hS, zS, f0, f2, f47⟩ : ∃ S : ByteArray, str sA = S ∧ S.size = 48 ∧ (∀ h : 0 < S.size, S[0] = 37) ∧ (∀ h : 2 < S.size, S[2] = 250) ∧ (∀ h : 47 < S.size, S[47] = 1) := ⟨str sA, rfl, rfl, fun h => sA_at 0 h 37 rfl, fun h => sA_at 2 h 250 rfl, fun h => sA_at 47 h 1 rfl⟩
  obtain ⟨U, hU⟩ : ∃ U, str (sA ++ tA) = U := ⟨_, rfl⟩
  rw [hU] at cW cR cRx zU gT
  rw [hS] at cP cT
  have b0 : (S[0]'(by omega)).toNat = 37 := by rw [f0]; rfl
  have b2 : (S[2]'(by omega)).toNat = 250 := by rw [f2]; rfl
  have b47 : (S[47]'(by omega)).toNat = 1 := by rw [f47]; rfl
  clear hS hU
  have hzl := HZL.out
  have hnl := HNL.out
  have HB := kp (Below.refl w.heap.size w)
  go_enter Try.func11, Try.ntmps11
  obtain ⟨Y1, hb_y, hk_y, SCY⟩ := new_head (P := Try.prog) (T := 26) (W := w) hzl hnl HNO.out
  have HLT1 := kp hk_y.lt
  go_upto_region 2 with (first | (refine wpL_val 23 rfl rfl (.agg N.toArray) (exec_build (parts := #[(1, .int .i64 4), (2, .int .i64 5), (4, .int .i64 (-6)), (12, .int .u64 1)]) rfl (by simp [Act.eval, Act.put]) (HBA.out _)) ?_) | (refine wpL_make 1 rfl rfl (.pointer (some ⟨w.heap.size, 0, none⟩)) (w' := w.alloc (.cells Z.toArray 26)) (by rw [← HZZ.out]; kernel_rfl) ?_))
  have HB := kp (bt' HB.out hb_y HB.out.size)
  have H1 := kp hk_y
  clear SCY hb_y hk_y
  have LD := ld_all (P := Try.prog) w.heap.size 13 26 26 N _ Try.underlying26 rfl info_head hnl H1.out
  go_wp2_with (refine wpL_load rfl 26 _ rfl rfl LD ?_)
  clear LD
  refine (cP.out _).mono ?_
  rintro e w_2 ⟨rfl, hb_c⟩
  have HB := kp (bt' HB.out hb_c HB.out.size)
  have H1 := kp (H1.out.bel hb_c)
  clear hb_c
  go_wp2_with fail
  refine (cT.out _).mono ?_
  rintro e w_3 ⟨rfl, hb_c⟩
  have HB := kp (bt' HB.out hb_c HB.out.size)
  have H1 := kp (H1.out.bel hb_c)
  clear hb_c
  obtain ⟨Y4, hb_y, hk_y, SCY⟩ := new_head (P := Try.prog) (T := 26) (W := w_3) hzl hnl HNO.out
  have HLT4 := kp hk_y.lt
  go_upto_region 4 with (first | (refine wpL_make 4 rfl rfl (.pointer (some ⟨w_3.heap.size, 0, none⟩)) (w' := w_3.alloc (.cells Z.toArray 26)) (by rw [← HZZ.out]; kernel_rfl) ?_))
  have HB := kp (bt' HB.out hb_y HB.out.size)
  have H1 := kp (H1.out.bel hb_y)
  have H4 := kp hk_y
  clear SCY hb_y hk_y
  go_wp2_with fail
  refine (cTx.out _).mono ?_
  rintro e w_4 ⟨rfl, hb_c⟩
  have HB := kp (bt' HB.out hb_c HB.out.size)
  have H1 := kp (H1.out.bel hb_c)
  have H4 := kp (H4.out.bel hb_c)
  clear hb_c
  obtain ⟨Y6, hb_y, hk_y, SCY⟩ := new_head (P := Try.prog) (T := 26) (W := w_4) hzl hzl HZO.out
  have HLT6 := kp hk_y.lt
  go_upto_region 5 with (first | (refine wpL_make 6 rfl rfl (.pointer (some ⟨w_4.heap.size, 0, none⟩)) (w' := w_4.alloc (.cells Z.toArray 26)) (by rw [← HZZ.out]; kernel_rfl) ?_))
  have HB := kp (bt' HB.out hb_y HB.out.size)
  have H1 := kp (H1.out.bel hb_y)
  have H4 := kp (H4.out.bel hb_y)
  have H6 := kp hk_y
  clear SCY hb_y hk_y
  go_wp2_with (refine wpL_val 39 rfl rfl (.agg Z.toArray) (exec_build (parts := #[]) rfl (by simp) (HBZ.out _)) ?_)
  refine (cP0.out _).mono ?_
  rintro e w_5 ⟨rfl, hb_c⟩
  have HB := kp (bt' HB.out hb_c HB.out.size)
  have H1 := kp (H1.out.bel hb_c)
  have H4 := kp (H4.out.bel hb_c)
  have H6 := kp (H6.out.bel hb_c)
  clear hb_c
  have hbl := ba (Below.refl w_5.heap.size w_5) (.cells #[.int .i64 258, .string (str [97, 98, 99, 100, 101]), .int .i64 7, .string (str [])] 48)
  have hkn := Blk.new w_5 48 #[.int .i64 258, .string (str [97, 98, 99, 100, 101]), .int .i64 7, .string (str [])]
  have hfs : FS (w_5.alloc (.cells #[.int .i64 258, .string (str [97, 98, 99, 100, 101]), .int .i64 7, .string (str [])] 48)) (some ⟨w_5.heap.size, 0, none⟩) LA := fun _ => ⟨w_5.heap.size, 0, rfl, hkn.lt, by
    rw [HFA.out]
    intro i f hf
    match i, hf with
    | 0, hf => simp only [List.getElem?_cons_zero, Option.some.injEq] at hf; subst hf; exact ⟨hkn.at rfl, hkn.at rfl⟩
    | 1, hf => simp only [List.getElem?_cons_zero, List.getElem?_cons_succ, Option.some.injEq] at hf; subst hf; exact ⟨hkn.at rfl, hkn.at rfl⟩
    | i + 2, hf => simp at hf⟩
  have HB := kp (bt' HB.out hbl HB.out.size)
  have H1 := kp (H1.out.bel hbl)
  have H4 := kp (H4.out.bel hbl)
  have H6 := kp (H6.out.bel hbl)
  have F10 := kp hfs
  clear hbl hkn hfs
  go_upto_region 7 with (refine wpL_make 45 rfl rfl (.slice (some ⟨w_5.heap.size, 0, none⟩) 2 2) (exec_buildSlice (parts := #[(0, .agg #[.int .i64 258, .string (str [97, 98, 99, 100, 101])]), (1, .agg #[.int .i64 7, .string (str [])])]) rfl (by simp [Act.eval, Act.put]; exact ⟨rfl, rfl⟩) (slice_two _ _ _ _ _)) ?_)
  generalize w_5.alloc (.cells #[.int .i64 258, .string (str [97, 98, 99, 100, 101]), .int .i64 7, .string (str [])] 48) = w_6 at *
  generalize w_5.heap.size = g10 at *
  have LD := ld_all (P := Try.prog) w.heap.size 13 26 26 N _ Try.underlying26 rfl info_head hnl H1.out
  go_wp2_with (refine wpL_load rfl 26 _ rfl rfl LD ?_)
  clear LD
  refine (cW.out _ _ _ F10.out).mono ?_
  rintro e w_7 ⟨rfl, hb_c⟩
  have HB := kp (bt' HB.out hb_c HB.out.size)
  have H1 := kp (H1.out.bel hb_c)
  have H4 := kp (H4.out.bel hb_c)
  have H6 := kp (H6.out.bel hb_c)
  have F10 := kp (F10.out.bel hb_c)
  clear hb_c
  go_wp2_with fail
  refine (cR.out _).mono ?_
  rintro e w_8 ⟨ad14, c14, rfl, hf14, hb_c⟩
  have HB := kp (bt' HB.out hb_c HB.out.size)
  have H1 := kp (H1.out.bel hb_c)
  have H4 := kp (H4.out.bel hb_c)
  have H6 := kp (H6.out.bel hb_c)
  have F10 := kp (F10.out.bel hb_c)
  clear hb_c
  have F14 := kp hf14
  clear hf14
  obtain ⟨Y13, hb_y, hk_y, SCY⟩ := new_head (P := Try.prog) (T := 26) (W := w_8) hzl hnl HNO.out
  have HLT13 := kp hk_y.lt
  go_upto_region 9 with (first | (refine wpL_make 13 rfl rfl (.pointer (some ⟨w_8.heap.size, 0, none⟩)) (w' := w_8.alloc (.cells Z.toArray 26)) (by rw [← HZZ.out]; kernel_rfl) ?_))
  have HB := kp (bt' HB.out hb_y HB.out.size)
  have H1 := kp (H1.out.bel hb_y)
  have H4 := kp (H4.out.bel hb_y)
  have H6 := kp (H6.out.bel hb_y)
  have F10 := kp (F10.out.bel hb_y)
  have F14 := kp (F14.out.bel hb_y)
  have H13 := kp hk_y
  clear SCY hb_y hk_y
  go_wp2_with fail
  refine (cRx.out _).mono ?_
  rintro e w_9 ⟨ad17, c17, rfl, hf17, hb_c⟩
  clear hf17
  have HB := kp (bt' HB.out hb_c HB.out.size)
  have H1 := kp (H1.out.bel hb_c)
  have H4 := kp (H4.out.bel hb_c)
  have H6 := kp (H6.out.bel hb_c)
  have H13 := kp (H13.out.bel hb_c)
  have F10 := kp (F10.out.bel hb_c)
  have F14 := kp (F14.out.bel hb_c)
  clear hb_c
  obtain ⟨Y16, hb_y, hk_y, SCY⟩ := new_head (P := Try.prog) (T := 26) (W := w_9) hzl hzl HZO.out
  have HLT16 := kp hk_y.lt
  go_upto_region 10 with (first | (refine wpL_make 16 rfl rfl (.pointer (some ⟨w_9.heap.size, 0, none⟩)) (w' := w_9.alloc (.cells Z.toArray 26)) (by rw [← HZZ.out]; kernel_rfl) ?_))
  have HB := kp (bt' HB.out hb_y HB.out.size)
  have H1 := kp (H1.out.bel hb_y)
  have H4 := kp (H4.out.bel hb_y)
  have H6 := kp (H6.out.bel hb_y)
  have H13 := kp (H13.out.bel hb_y)
  have F10 := kp (F10.out.bel hb_y)
  have F14 := kp (F14.out.bel hb_y)
  have H16 := kp hk_y
  clear SCY hb_y hk_y
  go_wp2_with fail
  refine (cF7.out _ _ _ F14.out).mono ?_
  rintro e w_10 ⟨rfl, hb_c⟩
  have HB := kp (bt' HB.out hb_c HB.out.size)
  have H1 := kp (H1.out.bel hb_c)
  have H4 := kp (H4.out.bel hb_c)
  have H6 := kp (H6.out.bel hb_c)
  have H13 := kp (H13.out.bel hb_c)
  have H16 := kp (H16.out.bel hb_c)
  have F10 := kp (F10.out.bel hb_c)
  have F14 := kp (F14.out.bel hb_c)
  clear hb_c
  go_wp2_with fail
  refine (cF8.out _ _ _ F14.out).mono ?_
  rintro e w_11 ⟨rfl, hb_c⟩
  have HB := kp (bt' HB.out hb_c HB.out.size)
  have H1 := kp (H1.out.bel hb_c)
  have H4 := kp (H4.out.bel hb_c)
  have H6 := kp (H6.out.bel hb_c)
  have H13 := kp (H13.out.bel hb_c)
  have H16 := kp (H16.out.bel hb_c)
  have F10 := kp (F10.out.bel hb_c)
  have F14 := kp (F14.out.bel hb_c)
  clear hb_c
  go_upto_region 12 with (fail)
  have L1 := kp (fun x => ld_all (P := Try.prog) w.heap.size 13 26 26 N _ Try.underlying26 rfl info_head hnl (H1.out.bel (ext_below w_11 x)))
  have L4 := kp (fun x => ld_all (P := Try.prog) w_3.heap.size 13 26 26 N _ Try.underlying26 rfl info_head hnl (H4.out.bel (ext_below w_11 x)))
  have L13 := kp (fun x => ld_all (P := Try.prog) w_8.heap.size 13 26 26 N _ Try.underlying26 rfl info_head hnl (H13.out.bel (ext_below w_11 x)))
  have CSX := kp (fun x => cS.out ad14 c14 (some ⟨g10, 0, none⟩) 2 (w_11.ext x) (F14.out.bel (ext_below w_11 x)) (F10.out.bel (ext_below w_11 x)))
  refine wp_region_extP 86 ?_
  simp only [List.append_eq, List.cons_append, List.nil_append, List.take_succ_cons, List.take_zero, List.drop_succ_cons, List.drop_zero]
  repeat (first
    | (go_big_quiet_want; refine quiet_load _ rfl 26 _ rfl rfl (fun w' hw => by obtain ⟨x, rfl⟩ := hw; exact L1.out x) ?_; go_simp; go_big_quiet_on)
    | (go_big_quiet_want; refine quiet_load _ rfl 26 _ rfl rfl (fun w' hw => by obtain ⟨x, rfl⟩ := hw; exact L4.out x) ?_; go_simp; go_big_quiet_on)
    | (go_big_quiet_want; refine quiet_load _ rfl 26 _ rfl rfl (fun w' hw => by obtain ⟨x, rfl⟩ := hw; exact L13.out x) ?_; go_simp; go_big_quiet_on)
    | (go_big_quiet_want; refine quiet_val _ rfl (.bool true) (fun w' _ => EQ.out _ _ _ _ _ w' rfl rfl rfl) ?_; go_simp; go_big_quiet_on)
    | go_big_quiet_step (first
      | (go_at_call 23; with_reducible exact Calls.ext_of (CSX.out _))
      | (go_at_call 16; with_reducible exact Calls.ext_of (cM.out _))))
  refine wpQuiet_nil ?_
  rintro z
  have HB := kp (bt' HB.out (ext_below w_11 z) HB.out.size)
  go_wp2
  go_ret
  exact ⟨rfl, HB.out⟩
end Go.Proofs.Ytoifkfhbinfplaa
