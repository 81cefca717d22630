/- the reference's Put. -/
import Derived.Test.YtoifkfhbinfplaaHd4
namespace Go.Proofs.Ytoifkfhbinfplaa
open Go Go.RowKit
set_option linter.unusedVariables false
set_option linter.unusedSimpArgs false
attribute [local go_sem] bmax2 bmin2 bmax bmin cell_ext frozen_ext

theorem str_app (a b : List UInt8) : str a ++ str b = str (a ++ b) := by
  apply bs_inj
  rw [bs_str, bs, ByteArray.data_append, Array.toList_append]
  simp [str]

set_option maxHeartbeats 1000000 in
set_option maxRecDepth 100000 in
theorem R_Put_bad (h : Hd) (hm : h.may = false) (w : World) : Calls Try.prog 13 #[.agg h.cells.toArray] w fun e w' => e = .returned (.tuple #[.string (str []), .int .i64 2]) ∧ Below w.heap.size w w' := by
  have cM : Kp (∀ w', Calls Try.prog 17 #[.agg h.cells.toArray] w' fun e w'' => e = .returned (.bool false) ∧ Below w'.heap.size w' w'') := kp (fun w' => by rw [← hm]; exact R_May h w')
  have HL := h.length
  have HB := kp (ba (Below.refl w.heap.size w) (.cells h.cells.toArray 26))
  have HN := kp (Blk.new w 26 h.cells.toArray)
  generalize h.cells = L at *
  have L1 := ld_all (P := Try.prog) w.heap.size 13 26 26 L _ Try.underlying26 rfl info_head HL HN.out
  go_enter Try.func13, Try.ntmps13
  go_wp2_with (refine wpL_load rfl 26 _ rfl rfl L1 ?_)
  refine (cM.out _).mono ?_
  rintro e w1 ⟨rfl, hb1⟩
  have HB := kp (bt' HB.out hb1 HB.out.size)
  go_wp2
  go_ret2
  exact ⟨rfl, HB.out⟩
set_option maxHeartbeats 4000000 in
set_option maxRecDepth 100000 in
theorem R_Put_good (h : Hd) (hm : h.may = true) (hok : h.ok) (w : World) : Calls Try.prog 13 #[.agg h.cells.toArray] w fun e w' => e = .returned (.tuple #[.string (str h.bytes), .int .i64 0]) ∧ Below w.heap.size w w' := by
  have cM : Kp (∀ w', Calls Try.prog 17 #[.agg h.cells.toArray] w' fun e w'' => e = .returned (.bool true) ∧ Below w'.heap.size w' w'') := kp (fun w' => by rw [← hm]; exact R_May h w')
  have HL := h.length
  have HB := kp (ba (Below.refl w.heap.size w) (.cells h.cells.toArray 26))
  have HN := kp (Blk.new w 26 h.cells.toArray)
  have HC := kp (show h.cells = [.int .i64 h.a, .int .i64 h.b, .int .i64 h.c, .int .i64 h.d, .int .i64 h.e, .int .i64 h.f, .int .u32 (h.g : Int), .int .u32 (h.h : Int), .int .u32 (h.i : Int), .int .u64 (h.j : Int), .int .u64 (h.k : Int), .int .u64 (h.l : Int), .int .u64 (h.m : Int)] from rfl)
  obtain ⟨ba0, ba1, bb, bc0, bc1, bd0, bd1, be0, be1, bf0, bf1⟩ := may_bounds hm
  have HBY := kp (show h.bytes = h.first ++ h.words ++ h.stamps from rfl)
  obtain ⟨BY, hBY⟩ : ∃ BY, h.bytes = BY := ⟨_, rfl⟩
  rw [hBY] at HBY ⊢
  clear hBY
  obtain ⟨L, hL⟩ : ∃ L, h.cells = L := ⟨_, rfl⟩
  rw [hL] at cM HL HB HN HC ⊢
  clear hL
  have L1 := ld_all (P := Try.prog) w.heap.size 13 26 26 L _ Try.underlying26 rfl info_head HL HN.out
  go_enter Try.func13, Try.ntmps13
  go_wp2_with (refine wpL_load rfl 26 _ rfl rfl L1 ?_)
  refine (cM.out _).mono ?_
  rintro e w1 ⟨rfl, hb1⟩
  have HB := kp (bt' HB.out hb1 HB.out.size)
  have HN := kp (HN.out.bel hb1)
  clear L1 hb1 cM
  have q0 := HN.out.atL (show L[0]? = some (.int .i64 h.a) by rw [HC.out]; rfl)
  have q1 := HN.out.atL (show L[1]? = some (.int .i64 h.b) by rw [HC.out]; rfl)
  have q2 := HN.out.atL (show L[2]? = some (.int .i64 h.c) by rw [HC.out]; rfl)
  have q3 := HN.out.atL (show L[3]? = some (.int .i64 h.d) by rw [HC.out]; rfl)
  have q4 := HN.out.atL (show L[4]? = some (.int .i64 h.e) by rw [HC.out]; rfl)
  have q5 := HN.out.atL (show L[5]? = some (.int .i64 h.f) by rw [HC.out]; rfl)
  have hlb := HN.out.lt
  rw [bb] at q1
  have HFI := kp (show h.first = [u8 (64 * h.a + 32 + h.c), u8 h.d, u8 h.e, u8 h.f] by unfold Hd.first; rw [bb, show 64 * h.a + 8 * 4 + h.c = 64 * h.a + 32 + h.c by omega])
  have EC : Kp ((#[.int .u8 (64 * h.a + 32 + h.c), .int .u8 h.d, .int .u8 (h.e % 256), .int .u8 (h.f % 256)] : Array Value) = (cellsU8 h.first).toArray) := kp (by
    rw [HFI.out]
    simp only [cellsU8, List.map_cons, List.map_nil, u8_int]
    rw [show (64 * h.a + 32 + h.c) % 256 = 64 * h.a + 32 + h.c by omega, show h.d % 256 = h.d by omega])
  have HLF : Kp (h.first.length = 4) := kp (by rw [HFI.out]; rfl)
  have hcv := blk_str (P := Try.prog) 53 (e := 5) (dst := 9) (n := 4) (cap := 4) Try.underlying53 Try.underlying5 Try.underlying9 (Blk.new w1 5 (cellsU8 h.first).toArray) HLF.out
  rw [← EC.out] at hcv
  go_wp2_with fail
  have HB := kp (ba HB.out (.cells #[.int .u8 (64 * h.a + 32 + h.c), .int .u8 h.d, .int .u8 (h.e % 256), .int .u8 (h.f % 256)] 5))
  have HN := kp (HN.out.alloc (.cells #[.int .u8 (64 * h.a + 32 + h.c), .int .u8 h.d, .int .u8 (h.e % 256), .int .u8 (h.f % 256)] 5))
  clear hcv q0 q1 q2 q3 q4 q5 hlb
  generalize w1.alloc (.cells #[.int .u8 (64 * h.a + 32 + h.c), .int .u8 h.d, .int .u8 (h.e % 256), .int .u8 (h.f % 256)] 5) = W at HB HN ⊢
  have HWD := kp (show h.words = putL h.g 4 ++ putL h.h 4 ++ putL h.i 4 from rfl)
  have HST := kp (show h.stamps = putL h.j 8 ++ putL h.k 8 ++ putL h.l 8 ++ putL h.m 8 from rfl)
  obtain ⟨tF, htF⟩ : ∃ t, str h.first = t := ⟨_, rfl⟩
  have zF : tF.size = 4 := by rw [← htF, str_size]; exact HLF.out
  have kF := kp htF
  rw [htF]
  clear htF
  have cP0 : Kp (∀ w', Calls Try.prog 31 #[.int .u64 (h.g : Int), .int .i64 4] w' fun e w'' => e = .returned (.string (str (putL h.g 4))) ∧ Below w'.heap.size w' w'') := kp (fun w' => ref01_Put_mid h.g 4 w' (by have := hok.g; unfold U64; omega) (by decide) 4 (by decide))
  have lP0 := length_putL h.g 4
  have bP0 := hok.g
  have qP0 := HN.out.atL (show L[6]? = some (.int .u32 (h.g : Int)) by rw [HC.out]; rfl)
  generalize putL h.g 4 = P0 at cP0 lP0 HWD
  obtain ⟨tP0, htP0⟩ : ∃ t, str P0 = t := ⟨_, rfl⟩
  have zP0 : tP0.size = 4 := by rw [← htP0, str_size]; exact lP0
  have kP0 := kp htP0
  rw [htP0] at cP0
  clear htP0
  have cP1 : Kp (∀ w', Calls Try.prog 31 #[.int .u64 (h.h : Int), .int .i64 4] w' fun e w'' => e = .returned (.string (str (putL h.h 4))) ∧ Below w'.heap.size w' w'') := kp (fun w' => ref01_Put_mid h.h 4 w' (by have := hok.h; unfold U64; omega) (by decide) 4 (by decide))
  have lP1 := length_putL h.h 4
  have bP1 := hok.h
  have qP1 := HN.out.atL (show L[7]? = some (.int .u32 (h.h : Int)) by rw [HC.out]; rfl)
  generalize putL h.h 4 = P1 at cP1 lP1 HWD
  obtain ⟨tP1, htP1⟩ : ∃ t, str P1 = t := ⟨_, rfl⟩
  have zP1 : tP1.size = 4 := by rw [← htP1, str_size]; exact lP1
  have kP1 := kp htP1
  rw [htP1] at cP1
  clear htP1
  have cP2 : Kp (∀ w', Calls Try.prog 31 #[.int .u64 (h.i : Int), .int .i64 4] w' fun e w'' => e = .returned (.string (str (putL h.i 4))) ∧ Below w'.heap.size w' w'') := kp (fun w' => ref01_Put_mid h.i 4 w' (by have := hok.i; unfold U64; omega) (by decide) 4 (by decide))
  have lP2 := length_putL h.i 4
  have bP2 := hok.i
  have qP2 := HN.out.atL (show L[8]? = some (.int .u32 (h.i : Int)) by rw [HC.out]; rfl)
  generalize putL h.i 4 = P2 at cP2 lP2 HWD
  obtain ⟨tP2, htP2⟩ : ∃ t, str P2 = t := ⟨_, rfl⟩
  have zP2 : tP2.size = 4 := by rw [← htP2, str_size]; exact lP2
  have kP2 := kp htP2
  rw [htP2] at cP2
  clear htP2
  have hlb := HN.out.lt
  refine wp_region_ext [0, 1, 2, 3, 4, 5, 6, 7, 8, 9, 10, 11, 12, 13, 14, 15] [16] (by kernel_rfl) (by kernel_rfl) ?_
  simp only [List.append_eq, List.cons_append, List.nil_append, List.map_cons, List.map_nil, List.getD_cons_succ, List.getD_cons_zero]
  repeat (go_big_quiet_step ((go_at_call 31; first | (with_reducible exact Calls.ext_of (cP0.out _)) | (with_reducible exact Calls.ext_of (cP1.out _)) | (with_reducible exact Calls.ext_of (cP2.out _)))))
  refine wpQuiet_nil ?_
  rintro z
  have HB := kp (bt' HB.out (ext_below W z) HB.out.size)
  have HN := kp (HN.out.bel (ext_below W z))
  generalize W.ext z = V at HB HN ⊢
  clear hlb qP0 qP1 qP2
  go_wp2_with fail
  generalize hQ : tF ++ _ = tQ
  have zQ : tQ.size = 16 := by rw [← hQ]; simp [zF, zP0, zP1, zP2]
  have kQ := kp hQ
  clear hQ
  have cS0 : Kp (∀ w', Calls Try.prog 31 #[.int .u64 (h.j : Int), .int .i64 8] w' fun e w'' => e = .returned (.string (str (putL h.j 8))) ∧ Below w'.heap.size w' w'') := kp (fun w' => ref01_Put_mid h.j 8 w' (by have := hok.j; unfold U64; omega) (by decide) 8 (by decide))
  have lS0 := length_putL h.j 8
  have bS0 := hok.j
  have qS0 := HN.out.atL (show L[9]? = some (.int .u64 (h.j : Int)) by rw [HC.out]; rfl)
  generalize putL h.j 8 = S0 at cS0 lS0 HST
  obtain ⟨tS0, htS0⟩ : ∃ t, str S0 = t := ⟨_, rfl⟩
  have zS0 : tS0.size = 8 := by rw [← htS0, str_size]; exact lS0
  have kS0 := kp htS0
  rw [htS0] at cS0
  clear htS0
  have cS1 : Kp (∀ w', Calls Try.prog 31 #[.int .u64 (h.k : Int), .int .i64 8] w' fun e w'' => e = .returned (.string (str (putL h.k 8))) ∧ Below w'.heap.size w' w'') := kp (fun w' => ref01_Put_mid h.k 8 w' (by have := hok.k; unfold U64; omega) (by decide) 8 (by decide))
  have lS1 := length_putL h.k 8
  have bS1 := hok.k
  have qS1 := HN.out.atL (show L[10]? = some (.int .u64 (h.k : Int)) by rw [HC.out]; rfl)
  generalize putL h.k 8 = S1 at cS1 lS1 HST
  obtain ⟨tS1, htS1⟩ : ∃ t, str S1 = t := ⟨_, rfl⟩
  have zS1 : tS1.size = 8 := by rw [← htS1, str_size]; exact lS1
  have kS1 := kp htS1
  rw [htS1] at cS1
  clear htS1
  have cS2 : Kp (∀ w', Calls Try.prog 31 #[.int .u64 (h.l : Int), .int .i64 8] w' fun e w'' => e = .returned (.string (str (putL h.l 8))) ∧ Below w'.heap.size w' w'') := kp (fun w' => ref01_Put_mid h.l 8 w' (by have := hok.l; unfold U64; omega) (by decide) 8 (by decide))
  have lS2 := length_putL h.l 8
  have bS2 := hok.l
  have qS2 := HN.out.atL (show L[11]? = some (.int .u64 (h.l : Int)) by rw [HC.out]; rfl)
  generalize putL h.l 8 = S2 at cS2 lS2 HST
  obtain ⟨tS2, htS2⟩ : ∃ t, str S2 = t := ⟨_, rfl⟩
  have zS2 : tS2.size = 8 := by rw [← htS2, str_size]; exact lS2
  have kS2 := kp htS2
  rw [htS2] at cS2
  clear htS2
  have cS3 : Kp (∀ w', Calls Try.prog 31 #[.int .u64 (h.m : Int), .int .i64 8] w' fun e w'' => e = .returned (.string (str (putL h.m 8))) ∧ Below w'.heap.size w' w'') := kp (fun w' => ref01_Put_mid h.m 8 w' (by have := hok.m; unfold U64; omega) (by decide) 8 (by decide))
  have lS3 := length_putL h.m 8
  have bS3 := hok.m
  have qS3 := HN.out.atL (show L[12]? = some (.int .u64 (h.m : Int)) by rw [HC.out]; rfl)
  generalize putL h.m 8 = S3 at cS3 lS3 HST
  obtain ⟨tS3, htS3⟩ : ∃ t, str S3 = t := ⟨_, rfl⟩
  have zS3 : tS3.size = 8 := by rw [← htS3, str_size]; exact lS3
  have kS3 := kp htS3
  rw [htS3] at cS3
  clear htS3
  have hlb := HN.out.lt
  refine wp_region_ext [0, 1, 2, 3, 4, 5, 6, 7, 8, 9, 10, 11, 12, 13, 14, 15, 16] [17, 18] (by kernel_rfl) (by kernel_rfl) ?_
  simp only [List.append_eq, List.cons_append, List.nil_append, List.map_cons, List.map_nil, List.getD_cons_succ, List.getD_cons_zero]
  repeat (go_big_quiet_step ((go_at_call 31; first | (with_reducible exact Calls.ext_of (cS0.out _)) | (with_reducible exact Calls.ext_of (cS1.out _)) | (with_reducible exact Calls.ext_of (cS2.out _)) | (with_reducible exact Calls.ext_of (cS3.out _)))))
  refine wpQuiet_nil ?_
  rintro z
  have HB := kp (bt' HB.out (ext_below V z) HB.out.size)
  have HN := kp (HN.out.bel (ext_below V z))
  have HE : Kp (tQ ++ tS0 ++ tS1 ++ tS2 ++ tS3 = str BY) := kp (by
    rw [HBY.out, HWD.out, HST.out, ← kQ.out, ← kF.out, ← kP0.out, ← kP1.out, ← kP2.out, ← kS0.out, ← kS1.out, ← kS2.out, ← kS3.out]
    simp only [str_app, List.append_assoc])
  clear hlb qS0 qS1 qS2 qS3
  go_wp2
  go_ret2
  exact ⟨by simp only [Array.getD, ← HE.out]; rfl, HB.out⟩
end Go.Proofs.Ytoifkfhbinfplaa
