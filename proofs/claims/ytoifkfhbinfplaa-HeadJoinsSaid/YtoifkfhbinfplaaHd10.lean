/- head: the reference's Take. Printed by genhd10.py. -/
import Derived.Test.YtoifkfhbinfplaaHd9
import Derived.Test.YtoifkfhbinfplaaHd7
namespace Go.Proofs.Ytoifkfhbinfplaa
open Go Go.RowKit
set_option linter.unusedVariables false
set_option linter.unusedSimpArgs false
attribute [local go_sem] bmax2 bmin2 bmax bmin cell_ext frozen_ext

theorem sgn_int (c : Nat) : (if 127 < (c : Int) then (c : Int) - 256 else (c : Int)) = sgn c := by
  unfold sgn
  split <;> split <;> omega
theorem sgn_in (c : Nat) (h : c < 256) : -128 ≤ sgn c ∧ sgn c ≤ 127 := by
  unfold sgn
  split <;> omega
theorem byt_lt (s : ByteArray) (i : Nat) : byt s i < 256 := UInt8.toNat_lt _
theorem hdOf_may (s : ByteArray) : (hdOf s).may = decide ((byt s 0 : Int) / 8 % 8 = 4) := by
  have h0 := byt_lt s 0
  have h1 := byt_lt s 1
  have h2 := sgn_in _ (byt_lt s 2)
  have h3 := sgn_in _ (byt_lt s 3)
  unfold hdOf Hd.may inB
  simp only
  generalize byt s 0 = c0 at *
  generalize byt s 1 = c1 at *
  generalize sgn (byt s 2) = z2 at *
  generalize sgn (byt s 3) = z3 at *
  rw [decide_eq_true (show (0:Int) ≤ (c0 : Int) / 64 by omega), decide_eq_true (show (c0 : Int) / 64 ≤ 3 by omega), decide_eq_true (show (0:Int) ≤ (c0 : Int) % 8 by omega), decide_eq_true (show (c0 : Int) % 8 ≤ 7 by omega), decide_eq_true (show (0:Int) ≤ (c1 : Int) by omega), decide_eq_true (show (c1 : Int) ≤ 255 by omega), decide_eq_true h2.1, decide_eq_true h2.2, decide_eq_true h3.1, decide_eq_true h3.2]
  simp only [Bool.and_true, Bool.true_and]
theorem hdOf_ok (s : ByteArray) : (hdOf s).ok := by
  have key : ∀ a b : Nat, b ≤ a + 4 → takeN (bs (s.extract a b)) < 4294967296 := fun a b h => by
    have h1 := takeN_lt (bs (s.extract a b))
    have h2 : (bs (s.extract a b)).length ≤ 4 := by rw [size_bs, ByteArray.size_extract]; omega
    have h3 : 256 ^ (bs (s.extract a b)).length ≤ 256 ^ 4 := Nat.pow_le_pow_right (by decide) h2
    have h4 : 256 ^ 4 = 4294967296 := by decide
    omega
  have key8 : ∀ a b : Nat, b ≤ a + 8 → takeN (bs (s.extract a b)) < 18446744073709551616 := fun a b h => takeN_lt64 _ (by rw [size_bs, ByteArray.size_extract]; omega)
  exact ⟨key _ _ (by omega), key _ _ (by omega), key _ _ (by omega), key8 _ _ (by omega), key8 _ _ (by omega), key8 _ _ (by omega), key8 _ _ (by omega)⟩
theorem hdOf_eq2 (s : ByteArray) : hdOf s = ⟨(byt s 0 : Int) / 64, (byt s 0 : Int) / 8 % 8, (byt s 0 : Int) % 8, (byt s 1 : Int), sgn (byt s 2), sgn (byt s 3), takeN (bs (s.extract 4 8)), takeN (bs (s.extract 8 12)), takeN (bs (s.extract 12 16)), takeN (bs (s.extract 16 24)), takeN (bs (s.extract 24 32)), takeN (bs (s.extract 32 40)), takeN (bs (s.extract 40 48))⟩ := rfl
set_option maxRecDepth 100000 in
theorem build_all (a b c d e f g h i j k l m : Int) (W : World) : (Instr.build 26 #[(0, .int .i64 a), (1, .int .i64 b), (2, .int .i64 c), (3, .int .i64 d), (4, .int .i64 e), (5, .int .i64 f), (6, .int .u32 g), (7, .int .u32 h), (8, .int .u32 i), (9, .int .u64 j), (10, .int .u64 k), (11, .int .u64 l), (12, .int .u64 m)]).run Try.prog W = .ok (.agg #[.int .i64 a, .int .i64 b, .int .i64 c, .int .i64 d, .int .i64 e, .int .i64 f, .int .u32 g, .int .u32 h, .int .u32 i, .int .u64 j, .int .u64 k, .int .u64 l, .int .u64 m]) W := by
  exact run_build W 26 _ _ (by kernel_rfl)
set_option maxHeartbeats 1000000 in
set_option maxRecDepth 100000 in
theorem R_Take_size (s : ByteArray) (hs : s.size ≠ 48) (hs2 : s.size ≤ 1099511627776) (w : World) : Calls Try.prog 15 #[.string s] w fun e w' => e = .returned (.tuple #[.agg zeroH.cells.toArray, .int .i64 5]) ∧ Below w.heap.size w w' := by
  have HB := kp (ba (Below.refl w.heap.size w) (.cells zeroH.cells.toArray 26))
  have HN := kp (Blk.new w 26 zeroH.cells.toArray)
  have HZL : Kp (zeroH.cells.length = 13) := kp rfl
  have HZO := kp zero_one
  have HBZ := kp build_zero
  have g : ((s.size : Int) == 48) = false := by simp; omega
  have g2 : ¬ (s.size : Int) = 48 := by omega
  obtain ⟨Z, hZ⟩ : ∃ Z, zeroH.cells = Z := ⟨_, rfl⟩
  have HZZ := kp hZ
  rw [hZ] at HZL HZO HBZ ⊢
  go_enter Try.func15, Try.ntmps15
  go_upto_region 1 with (fail)
  generalize hW : w.alloc _ = W
  have HB : Kp (Below w.heap.size w W) := kp (by rw [← hW]; exact HB.out)
  have HN : Kp (Blk W w.heap.size 26 Z.toArray) := kp (by rw [← hW, ← hZ]; exact HN.out)
  clear hW hZ
  have hzl := HZL.out
  have SC := sc_all (P := Try.prog) (w := W) w.heap.size 26 Z _ HN.out rfl HZO.out
  have HR := kp (HN.out.row Z.toArray)
  have HBE := kp (bsr HB.out (b := w.heap.size) (Nat.le_refl _) HB.out.size Z.toArray)
  go_wp2_with (refine wpL_val 8 rfl rfl (.agg Z.toArray) (exec_build (parts := #[]) rfl (by simp) (HBZ.out _)) ?_)
  refine bodyPost_ret (v := .tuple #[.agg Z.toArray, .int .i64 5]) ?_ rfl ⟨rfl, HBE.out⟩
  exact res2 Try.results15 w.heap.size 13 _ Z _ Try.underlying26 rfl info_head hzl HR.out _ rfl _ rfl
set_option maxHeartbeats 4000000 in
set_option maxRecDepth 100000 in
theorem R_Take_48 (s : ByteArray) (hs : s.size = 48) (w : World) : Calls Try.prog 15 #[.string s] w fun e w' => e = .returned (.tuple #[.agg (if (hdOf s).may then (hdOf s).cells else zeroH.cells).toArray, .int .i64 (if (hdOf s).may then 0 else 2)]) ∧ Below w.heap.size w w' := by
  rw [hdOf_may, hdOf_eq2]
  have HB := kp (ba (Below.refl w.heap.size w) (.cells zeroH.cells.toArray 26))
  have HN := kp (Blk.new w 26 zeroH.cells.toArray)
  have HZL : Kp (zeroH.cells.length = 13) := kp rfl
  have HZO := kp zero_one
  have HBZ := kp build_zero
  obtain ⟨Z, hZ⟩ : ∃ Z, zeroH.cells = Z := ⟨_, rfl⟩
  have HZZ := kp hZ
  rw [hZ] at HZL HZO HBZ ⊢
  rw [byt_eq s 0 (by omega), byt_eq s 1 (by omega), byt_eq s 2 (by omega), byt_eq s 3 (by omega)]
  obtain ⟨c0, hc0⟩ : ∃ c : Nat, (s[0]'(by omega)).toNat = c := ⟨_, rfl⟩
  obtain ⟨c1, hc1⟩ : ∃ c : Nat, (s[1]'(by omega)).toNat = c := ⟨_, rfl⟩
  obtain ⟨c2, hc2⟩ : ∃ c : Nat, (s[2]'(by omega)).toNat = c := ⟨_, rfl⟩
  obtain ⟨c3, hc3⟩ : ∃ c : Nat, (s[3]'(by omega)).toNat = c := ⟨_, rfl⟩
  rw [hc0, hc1, hc2, hc3]
  have b0 : c0 < 256 := by rw [← hc0]; exact UInt8.toNat_lt _
  have b1 : c1 < 256 := by rw [← hc1]; exact UInt8.toNat_lt _
  have b2 : c2 < 256 := by rw [← hc2]; exact UInt8.toNat_lt _
  have b3 : c3 < 256 := by rw [← hc3]; exact UInt8.toNat_lt _
  have i0 : (c0 : Int) ≤ 255 := by omega
  have i1 : (c1 : Int) ≤ 255 := by omega
  have i2 : (c2 : Int) ≤ 255 := by omega
  have i3 : (c3 : Int) ≤ 255 := by omega
  have cB2 : Kp (∀ w', Calls Try.prog 33 #[.int .u8 (c2 : Int)] w' fun e w'' => e = .returned (.int .i64 (sgn c2)) ∧ w' = w'') := kp (fun w' => by rw [← sgn_int]; exact R_below _ (by omega) (by omega) w')
  generalize sgn c2 = z2 at cB2 ⊢
  have cB3 : Kp (∀ w', Calls Try.prog 33 #[.int .u8 (c3 : Int)] w' fun e w'' => e = .returned (.int .i64 (sgn c3)) ∧ w' = w'') := kp (fun w' => by rw [← sgn_int]; exact R_below _ (by omega) (by omega) w')
  generalize sgn c3 = z3 at cB3 ⊢
  have cQ0 : Kp (∀ w', Calls Try.prog 34 #[.string s, .int .i64 4, .int .i64 4] w' fun e w'' => e = .returned (.int .u64 (takeN (bs (s.extract 4 8)) : Int)) ∧ w' = w'') := kp (fun w' => R_num s 4 4 (by omega) (by decide) (by omega) w')
  have yl0 : (bs (s.extract 4 8)).length = 4 := by rw [size_bs]; simp; omega
  have y0 : takeN (bs (s.extract 4 8)) < 4294967296 := Nat.lt_of_lt_of_le (takeN_lt _) (by rw [yl0]; decide)
  clear yl0
  generalize takeN (bs (s.extract 4 8)) = x0 at cQ0 y0 ⊢
  have cQ1 : Kp (∀ w', Calls Try.prog 34 #[.string s, .int .i64 8, .int .i64 4] w' fun e w'' => e = .returned (.int .u64 (takeN (bs (s.extract 8 12)) : Int)) ∧ w' = w'') := kp (fun w' => R_num s 8 4 (by omega) (by decide) (by omega) w')
  have yl1 : (bs (s.extract 8 12)).length = 4 := by rw [size_bs]; simp; omega
  have y1 : takeN (bs (s.extract 8 12)) < 4294967296 := Nat.lt_of_lt_of_le (takeN_lt _) (by rw [yl1]; decide)
  clear yl1
  generalize takeN (bs (s.extract 8 12)) = x1 at cQ1 y1 ⊢
  have cQ2 : Kp (∀ w', Calls Try.prog 34 #[.string s, .int .i64 12, .int .i64 4] w' fun e w'' => e = .returned (.int .u64 (takeN (bs (s.extract 12 16)) : Int)) ∧ w' = w'') := kp (fun w' => R_num s 12 4 (by omega) (by decide) (by omega) w')
  have yl2 : (bs (s.extract 12 16)).length = 4 := by rw [size_bs]; simp; omega
  have y2 : takeN (bs (s.extract 12 16)) < 4294967296 := Nat.lt_of_lt_of_le (takeN_lt _) (by rw [yl2]; decide)
  clear yl2
  generalize takeN (bs (s.extract 12 16)) = x2 at cQ2 y2 ⊢
  have cQ3 : Kp (∀ w', Calls Try.prog 34 #[.string s, .int .i64 16, .int .i64 8] w' fun e w'' => e = .returned (.int .u64 (takeN (bs (s.extract 16 24)) : Int)) ∧ w' = w'') := kp (fun w' => R_num s 16 8 (by omega) (by decide) (by omega) w')
  have yl3 : (bs (s.extract 16 24)).length = 8 := by rw [size_bs]; simp; omega
  have y3 : takeN (bs (s.extract 16 24)) < 18446744073709551616 := Nat.lt_of_lt_of_le (takeN_lt _) (by rw [yl3]; decide)
  clear yl3
  generalize takeN (bs (s.extract 16 24)) = x3 at cQ3 y3 ⊢
  have cQ4 : Kp (∀ w', Calls Try.prog 34 #[.string s, .int .i64 24, .int .i64 8] w' fun e w'' => e = .returned (.int .u64 (takeN (bs (s.extract 24 32)) : Int)) ∧ w' = w'') := kp (fun w' => R_num s 24 8 (by omega) (by decide) (by omega) w')
  have yl4 : (bs (s.extract 24 32)).length = 8 := by rw [size_bs]; simp; omega
  have y4 : takeN (bs (s.extract 24 32)) < 18446744073709551616 := Nat.lt_of_lt_of_le (takeN_lt _) (by rw [yl4]; decide)
  clear yl4
  generalize takeN (bs (s.extract 24 32)) = x4 at cQ4 y4 ⊢
  have cQ5 : Kp (∀ w', Calls Try.prog 34 #[.string s, .int .i64 32, .int .i64 8] w' fun e w'' => e = .returned (.int .u64 (takeN (bs (s.extract 32 40)) : Int)) ∧ w' = w'') := kp (fun w' => R_num s 32 8 (by omega) (by decide) (by omega) w')
  have yl5 : (bs (s.extract 32 40)).length = 8 := by rw [size_bs]; simp; omega
  have y5 : takeN (bs (s.extract 32 40)) < 18446744073709551616 := Nat.lt_of_lt_of_le (takeN_lt _) (by rw [yl5]; decide)
  clear yl5
  generalize takeN (bs (s.extract 32 40)) = x5 at cQ5 y5 ⊢
  have cQ6 : Kp (∀ w', Calls Try.prog 34 #[.string s, .int .i64 40, .int .i64 8] w' fun e w'' => e = .returned (.int .u64 (takeN (bs (s.extract 40 48)) : Int)) ∧ w' = w'') := kp (fun w' => R_num s 40 8 (by omega) (by decide) (by omega) w')
  have yl6 : (bs (s.extract 40 48)).length = 8 := by rw [size_bs]; simp; omega
  have y6 : takeN (bs (s.extract 40 48)) < 18446744073709551616 := Nat.lt_of_lt_of_le (takeN_lt _) (by rw [yl6]; decide)
  clear yl6
  generalize takeN (bs (s.extract 40 48)) = x6 at cQ6 y6 ⊢
  obtain ⟨N, hN⟩ : ∃ N, Hd.cells ⟨(c0 : Int) / 64, (c0 : Int) / 8 % 8, (c0 : Int) % 8, (c1 : Int), z2, z3, x0, x1, x2, x3, x4, x5, x6⟩ = N := ⟨_, rfl⟩
  rw [hN]
  have HQ : Kp (N[1]? = some (.int .i64 ((c0 : Int) / 8 % 8))) := kp (by rw [← hN]; rfl)
  have HL : Kp (N.length = 13) := kp (by rw [← hN]; rfl)
  have HN1 : Kp (∀ v ∈ N, v.oneCell' = true) := kp (by rw [← hN]; intro v hv; simp [Hd.cells] at hv; rcases hv with rfl | rfl | rfl | rfl | rfl | rfl | rfl | rfl | rfl | rfl | rfl | rfl | rfl <;> rfl)
  have HBS : Kp (∀ w', (Instr.build 26 #[(0, .int .i64 ((c0 : Int) / 64)), (1, .int .i64 ((c0 : Int) / 8 % 8)), (2, .int .i64 ((c0 : Int) % 8)), (3, .int .i64 (c1 : Int)), (4, .int .i64 z2), (5, .int .i64 z3), (6, .int .u32 (x0 : Int)), (7, .int .u32 (x1 : Int)), (8, .int .u32 (x2 : Int)), (9, .int .u64 (x3 : Int)), (10, .int .u64 (x4 : Int)), (11, .int .u64 (x5 : Int)), (12, .int .u64 (x6 : Int))]).run Try.prog w' = .ok (.agg N.toArray) w') := kp (fun w' => by rw [← hN]; exact build_all _ _ _ _ _ _ _ _ _ _ _ _ _ w')
  clear hN
  obtain ⟨R, hR⟩ : ∃ R, (if decide ((c0 : Int) / 8 % 8 = 4) = true then N else Z) = R := ⟨_, rfl⟩
  obtain ⟨E, hE⟩ : ∃ E : Int, (if decide ((c0 : Int) / 8 % 8 = 4) = true then (0 : Int) else 2) = E := ⟨_, rfl⟩
  rw [hR, hE]
  have hR := kp hR
  have hE := kp hE
  go_enter Try.func15, Try.ntmps15
  go_upto_region 1 with (fail)
  generalize hW : w.alloc _ = W
  have HB : Kp (Below w.heap.size w W) := kp (by rw [← hW]; exact HB.out)
  have HN : Kp (Blk W w.heap.size 26 Z.toArray) := kp (by rw [← hW, ← hZ]; exact HN.out)
  clear hW hZ
  go_upto_region 3 with (fail)
  refine wp_region_mkE [0, 1, 2, 3, 4, 5, 6, 7, 8, 9, 10, 11, 12, 13, 14, 15, 16, 17, 18, 19, 20, 21, 22, 23, 24, 25, 26, 27, 28, 29, 30, 31, 32, 33, 34, 35, 36, 37, 38, 39] [40] [41] 54 (fun _ => VA W.heap.size 26 Z.toArray) (· ≠ ·) (by kernel_rfl) (by kernel_rfl) rfl (fun i v W W' h hb => h.mono hb) ?_
  apply Exists.intro
  refine ⟨fun X hX => ?_, ?_, ?_⟩
  · simp only [List.append_eq, List.cons_append, List.nil_append, List.map_cons, List.map_nil, List.getD_cons_succ, List.getD_cons_zero]
    repeat (first
      | (go_big_quiet_want; refine quiet_val 48 rfl (.agg N.toArray) (fun w _ => exec_build (parts := #[(0, .int .i64 ((c0 : Int) / 64)), (1, .int .i64 ((c0 : Int) / 8 % 8)), (2, .int .i64 ((c0 : Int) % 8)), (3, .int .i64 (c1 : Int)), (4, .int .i64 z2), (5, .int .i64 z3), (6, .int .u32 (x0 : Int)), (7, .int .u32 (x1 : Int)), (8, .int .u32 (x2 : Int)), (9, .int .u64 (x3 : Int)), (10, .int .u64 (x4 : Int)), (11, .int .u64 (x5 : Int)), (12, .int .u64 (x6 : Int))]) rfl (by simp [Act.eval, Act.put]) (HBS.out w)) ?_; go_simp; go_big_quiet_on)
      | go_big_quiet_step (first
        | (go_at_call 33; first | (with_reducible exact Calls.ext_same (cB2.out _)) | (with_reducible exact Calls.ext_same (cB3.out _)))
        | (go_at_call 34; first | (with_reducible exact Calls.ext_same (cQ0.out _)) | (with_reducible exact Calls.ext_same (cQ1.out _)) | (with_reducible exact Calls.ext_same (cQ2.out _)) | (with_reducible exact Calls.ext_same (cQ3.out _)) | (with_reducible exact Calls.ext_same (cQ4.out _)) | (with_reducible exact Calls.ext_same (cQ5.out _)) | (with_reducible exact Calls.ext_same (cQ6.out _)))))
    exact wpQuiet_nil rfl
  · exact ⟨mk_alloc rfl (fun W => by rw [← HZZ.out]; kernel_rfl) (fun j u W h => h.ne), trivial⟩
  · intro ev _
    simp only [List.append_eq, List.cons_append, List.nil_append, List.map_cons, List.map_nil, List.getD_cons_succ, List.getD_cons_zero, TailX]
    rintro X hX ⟨_, bn, rfl, hbn, hkn⟩
    have hlt : w.heap.size < bn := Nat.lt_of_lt_of_le HN.out.lt hbn
    have HLT := kp hlt
    have HN := kp (HN.out.bel hX)
    have HB := kp (bt' HB.out hX HB.out.size)
    have hnl := HL.out
    have hzl := HZL.out
    have SC1 := sc_all (P := Try.prog) (w := X) bn 26 N _ hkn (by rw [hnl, hzl]) HN1.out
    have HB := kp (bsr HB.out (b := bn) (Nat.le_of_lt hlt) HB.out.size N.toArray)
    have H4 := kp (hkn.row N.toArray)
    have HN := kp (HN.out.rowfar (b := bn) (by omega) N.toArray)
    have q := H4.out.atL HQ.out
    have hlb := H4.out.lt
    clear hkn hX
    by_cases hp : (c0 : Int) / 8 % 8 = 4
    · have g := decide_eq_true hp
      have hR := hR.out
      have hE := hE.out
      rw [if_pos g] at hR hE
      subst hR hE
      rw [hp] at q
      go_upto_region 6 with (fail)
      clear SC1
      generalize X.setRow bn _ = Y at *
      have L7 := ld_all (P := Try.prog) bn 13 26 26 N _ Try.underlying26 rfl info_head hnl H4.out
      have SC := sc_all (P := Try.prog) (w := Y) w.heap.size 26 N _ HN.out (by rw [hnl, hzl]) HN1.out
      have HR := kp (HN.out.row N.toArray)
      have HBE := kp (bsr HB.out (b := w.heap.size) (Nat.le_refl _) HB.out.size N.toArray)
      go_wp2_with (refine wpL_load rfl 26 _ rfl rfl L7 ?_)
      refine bodyPost_ret (v := .tuple #[.agg N.toArray, .int .i64 0]) ?_ rfl ?_
      · exact res2 Try.results15 w.heap.size 13 _ N _ Try.underlying26 rfl info_head hnl HR.out _ rfl _ rfl
      · exact ⟨rfl, HBE.out⟩
    · have g := decide_eq_false hp
      have hR := hR.out
      have hE := hE.out
      rw [if_neg (by simp [hp])] at hR hE
      subst hR hE
      have g2 : ((c0 : Int) / 8 % 8 == 4) = false := by simp [hp]
      go_upto_region 5 with (fail)
      clear SC1
      generalize X.setRow bn _ = Y at *
      have SC := sc_all (P := Try.prog) (w := Y) w.heap.size 26 Z _ HN.out rfl HZO.out
      have HR := kp (HN.out.row Z.toArray)
      have HBE := kp (bsr HB.out (b := w.heap.size) (Nat.le_refl _) HB.out.size Z.toArray)
      go_wp2_with (refine wpL_val 52 rfl rfl (.agg Z.toArray) (exec_build (parts := #[]) rfl (by simp) (HBZ.out _)) ?_)
      refine bodyPost_ret (v := .tuple #[.agg Z.toArray, .int .i64 2]) ?_ rfl ?_
      · exact res2 Try.results15 w.heap.size 13 _ Z _ Try.underlying26 rfl info_head hzl HR.out _ rfl _ rfl
      · exact ⟨rfl, HBE.out⟩
end Go.Proofs.Ytoifkfhbinfplaa
