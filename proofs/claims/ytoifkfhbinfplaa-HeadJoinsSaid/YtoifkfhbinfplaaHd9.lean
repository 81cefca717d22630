/- head: Take of 48 bytes. Printed by genhd9.py from GEN on. -/
import Derived.Test.YtoifkfhbinfplaaHd8
import Derived.Test.YtoifkfhbinfplaaReg
namespace Go.Proofs.Ytoifkfhbinfplaa
open Go Go.RowKit
set_option linter.unusedVariables false
set_option linter.unusedSimpArgs false
attribute [local go_sem] bmax2 bmin2 bmax bmin cell_ext frozen_ext

set_option maxRecDepth 100000 in
theorem build_six (a b c d e f : Int) (W : World) : (Instr.build 26 #[(0, .int .i64 a), (1, .int .i64 b), (2, .int .i64 c), (3, .int .i64 d), (4, .int .i64 e), (5, .int .i64 f)]).run Try.prog W = .ok (.agg (Hd.cells ⟨a, b, c, d, e, f, 0, 0, 0, 0, 0, 0, 0⟩).toArray) W := by
  exact run_build W 26 _ _ (by kernel_rfl)
theorem i8_all : ∀ c : Fin 256, IntKind.i8.wrap ((c.val : Nat) : Int) = if 127 < c.val then ((c.val : Nat) : Int) - 256 else ((c.val : Nat) : Int) := by decide +kernel
theorem i8_wrap (c : Nat) (h : c < 256) : IntKind.i8.wrap (c : Int) = if 127 < c then (c : Int) - 256 else (c : Int) := i8_all ⟨c, h⟩
def byt (s : ByteArray) (i : Nat) : Nat := ((bs s).getD i 0).toNat
def sgn (c : Nat) : Int := if 127 < c then (c : Int) - 256 else (c : Int)
/-- the head of 48 bytes -/
def hdOf (s : ByteArray) : Hd := ⟨(byt s 0 : Int) / 64, (byt s 0 : Int) / 8 % 8, (byt s 0 : Int) % 8, (byt s 1 : Int), sgn (byt s 2), sgn (byt s 3), takeN (bs (s.extract 4 8)), takeN (bs (s.extract 8 12)), takeN (bs (s.extract 12 16)), takeN (bs (s.extract 16 24)), takeN (bs (s.extract 24 32)), takeN (bs (s.extract 32 40)), takeN (bs (s.extract 40 48))⟩
theorem byt_eq (s : ByteArray) (i : Nat) (h : i < s.size) : byt s i = s[i].toNat := by
  unfold byt
  have hl : i < (bs s).length := h
  rw [List.getD, List.getElem?_eq_getElem hl]
  rfl
theorem hdOf_eq (s : ByteArray) (hs : s.size = 48) : hdOf s = ⟨((s[0]'(by omega)).toNat : Int) / 64, ((s[0]'(by omega)).toNat : Int) / 8 % 8, ((s[0]'(by omega)).toNat : Int) % 8, ((s[1]'(by omega)).toNat : Int), IntKind.i8.wrap ((s[2]'(by omega)).toNat : Int), IntKind.i8.wrap ((s[3]'(by omega)).toNat : Int), takeN (bs (s.extract 4 8)), takeN (bs (s.extract 8 12)), takeN (bs (s.extract 12 16)), takeN (bs (s.extract 16 24)), takeN (bs (s.extract 24 32)), takeN (bs (s.extract 32 40)), takeN (bs (s.extract 40 48))⟩ := by
  unfold hdOf sgn
  rw [byt_eq s 0 (by omega), byt_eq s 1 (by omega), byt_eq s 2 (by omega), byt_eq s 3 (by omega), i8_wrap _ (UInt8.toNat_lt _), i8_wrap _ (UInt8.toNat_lt _)]
-- GEN
set_option maxHeartbeats 4000000 in
set_option maxRecDepth 100000 in
theorem Take_48 (s : ByteArray) (hs : s.size = 48) (w : World) : Calls Try.prog 14 #[.string s] w fun e w' => e = .returned (.tuple #[.agg (if (hdOf s).may then (hdOf s).cells else zeroH.cells).toArray, .int .i64 (if (hdOf s).may then 0 else 2)]) ∧ Below w.heap.size w w' := by
  rw [hdOf_eq s hs]
  have HB := kp (ba (Below.refl w.heap.size w) (.cells zeroH.cells.toArray 26))
  have HN := kp (Blk.new w 26 zeroH.cells.toArray)
  have HZL : Kp (zeroH.cells.length = 13) := kp rfl
  have HZO := kp zero_one
  have HBZ := kp build_zero
  obtain ⟨Z, hZ⟩ : ∃ Z, zeroH.cells = Z := ⟨_, rfl⟩
  have HZZ := kp hZ
  rw [hZ] at HZL HZO HBZ ⊢
  obtain ⟨c0, hc0⟩ : ∃ c : Nat, (s[0]'(by omega)).toNat = c := ⟨_, rfl⟩
  obtain ⟨c1, hc1⟩ : ∃ c : Nat, (s[1]'(by omega)).toNat = c := ⟨_, rfl⟩
  obtain ⟨c2, hc2⟩ : ∃ c : Nat, (s[2]'(by omega)).toNat = c := ⟨_, rfl⟩
  obtain ⟨c3, hc3⟩ : ∃ c : Nat, (s[3]'(by omega)).toNat = c := ⟨_, rfl⟩
  rw [hc0, hc1, hc2, hc3]
  have b0 : c0 < 256 := by rw [← hc0]; exact UInt8.toNat_lt _
  have b1 : c1 < 256 := by rw [← hc1]; exact UInt8.toNat_lt _
  have b2 : c2 < 256 := by rw [← hc2]; exact UInt8.toNat_lt _
  have b3 : c3 < 256 := by rw [← hc3]; exact UInt8.toNat_lt _
  have i0 : (c0 : Int) ≤ 255 := by omega
  have i1 : (c1 : Int) ≤ 255 := by omega
  have i2 : (c2 : Int) ≤ 255 := by omega
  have i3 : (c3 : Int) ≤ 255 := by omega
  have o1 : bits BinOp.and IntKind.u8 ((c0 : Int) / 8) 7 = (c0 : Int) / 8 % 8 := by have := (and7 ⟨c0, b0⟩).1; simp only at this; rw [show (c0 : Int) / 8 = ((c0 / 8 : Nat) : Int) by omega, this]; omega
  have o2 : bits BinOp.and IntKind.u8 (c0 : Int) 7 = (c0 : Int) % 8 := by have := (and7 ⟨c0, b0⟩).2; simp only at this; rw [this]; omega
  obtain ⟨z2, hz2⟩ : ∃ z, IntKind.i8.wrap (c2 : Int) = z := ⟨_, rfl⟩
  obtain ⟨z3, hz3⟩ : ∃ z, IntKind.i8.wrap (c3 : Int) = z := ⟨_, rfl⟩
  have z2b : -128 ≤ z2 ∧ z2 ≤ 127 := by rw [← hz2, i8_wrap c2 b2]; split <;> omega
  have z3b : -128 ≤ z3 ∧ z3 ≤ 127 := by rw [← hz3, i8_wrap c3 b3]; split <;> omega
  rw [hz2, hz3]
  obtain ⟨z2l, z2h⟩ := z2b
  obtain ⟨z3l, z3h⟩ := z3b
  have cQ0 : Kp (∀ w', Calls Try.prog 32 #[.string (s.extract 4 8)] w' fun e w'' => e = .returned (.int .u64 (takeN (bs (s.extract 4 8)) : Int)) ∧ w' = w'') := kp (fun w' => M_number _ (by simp; omega) w')
  have yl0 : (bs (s.extract 4 8)).length = 4 := by rw [size_bs]; simp; omega
  have y0 : takeN (bs (s.extract 4 8)) < 4294967296 := Nat.lt_of_lt_of_le (takeN_lt _) (by rw [yl0]; decide)
  clear yl0
  generalize takeN (bs (s.extract 4 8)) = x0 at cQ0 y0 ⊢
  have cQ1 : Kp (∀ w', Calls Try.prog 32 #[.string (s.extract 8 12)] w' fun e w'' => e = .returned (.int .u64 (takeN (bs (s.extract 8 12)) : Int)) ∧ w' = w'') := kp (fun w' => M_number _ (by simp; omega) w')
  have yl1 : (bs (s.extract 8 12)).length = 4 := by rw [size_bs]; simp; omega
  have y1 : takeN (bs (s.extract 8 12)) < 4294967296 := Nat.lt_of_lt_of_le (takeN_lt _) (by rw [yl1]; decide)
  clear yl1
  generalize takeN (bs (s.extract 8 12)) = x1 at cQ1 y1 ⊢
  have cQ2 : Kp (∀ w', Calls Try.prog 32 #[.string (s.extract 12 16)] w' fun e w'' => e = .returned (.int .u64 (takeN (bs (s.extract 12 16)) : Int)) ∧ w' = w'') := kp (fun w' => M_number _ (by simp; omega) w')
  have yl2 : (bs (s.extract 12 16)).length = 4 := by rw [size_bs]; simp; omega
  have y2 : takeN (bs (s.extract 12 16)) < 4294967296 := Nat.lt_of_lt_of_le (takeN_lt _) (by rw [yl2]; decide)
  clear yl2
  generalize takeN (bs (s.extract 12 16)) = x2 at cQ2 y2 ⊢
  have cQ3 : Kp (∀ w', Calls Try.prog 32 #[.string (s.extract 16 24)] w' fun e w'' => e = .returned (.int .u64 (takeN (bs (s.extract 16 24)) : Int)) ∧ w' = w'') := kp (fun w' => M_number _ (by simp; omega) w')
  have yl3 : (bs (s.extract 16 24)).length = 8 := by rw [size_bs]; simp; omega
  have y3 : takeN (bs (s.extract 16 24)) < 18446744073709551616 := Nat.lt_of_lt_of_le (takeN_lt _) (by rw [yl3]; decide)
  clear yl3
  generalize takeN (bs (s.extract 16 24)) = x3 at cQ3 y3 ⊢
  have cQ4 : Kp (∀ w', Calls Try.prog 32 #[.string (s.extract 24 32)] w' fun e w'' => e = .returned (.int .u64 (takeN (bs (s.extract 24 32)) : Int)) ∧ w' = w'') := kp (fun w' => M_number _ (by simp; omega) w')
  have yl4 : (bs (s.extract 24 32)).length = 8 := by rw [size_bs]; simp; omega
  have y4 : takeN (bs (s.extract 24 32)) < 18446744073709551616 := Nat.lt_of_lt_of_le (takeN_lt _) (by rw [yl4]; decide)
  clear yl4
  generalize takeN (bs (s.extract 24 32)) = x4 at cQ4 y4 ⊢
  have cQ5 : Kp (∀ w', Calls Try.prog 32 #[.string (s.extract 32 40)] w' fun e w'' => e = .returned (.int .u64 (takeN (bs (s.extract 32 40)) : Int)) ∧ w' = w'') := kp (fun w' => M_number _ (by simp; omega) w')
  have yl5 : (bs (s.extract 32 40)).length = 8 := by rw [size_bs]; simp; omega
  have y5 : takeN (bs (s.extract 32 40)) < 18446744073709551616 := Nat.lt_of_lt_of_le (takeN_lt _) (by rw [yl5]; decide)
  clear yl5
  generalize takeN (bs (s.extract 32 40)) = x5 at cQ5 y5 ⊢
  have cQ6 : Kp (∀ w', Calls Try.prog 32 #[.string (s.extract 40 48)] w' fun e w'' => e = .returned (.int .u64 (takeN (bs (s.extract 40 48)) : Int)) ∧ w' = w'') := kp (fun w' => M_number _ (by simp; omega) w')
  have yl6 : (bs (s.extract 40 48)).length = 8 := by rw [size_bs]; simp; omega
  have y6 : takeN (bs (s.extract 40 48)) < 18446744073709551616 := Nat.lt_of_lt_of_le (takeN_lt _) (by rw [yl6]; decide)
  clear yl6
  generalize takeN (bs (s.extract 40 48)) = x6 at cQ6 y6 ⊢
  obtain ⟨N0, hN0⟩ : ∃ N, Hd.cells ⟨(c0 : Int) / 64, (c0 : Int) / 8 % 8, (c0 : Int) % 8, (c1 : Int), z2, z3, 0, 0, 0, 0, 0, 0, 0⟩ = N := ⟨_, rfl⟩
  obtain ⟨N1, hN1⟩ : ∃ N, Hd.cells ⟨(c0 : Int) / 64, (c0 : Int) / 8 % 8, (c0 : Int) % 8, (c1 : Int), z2, z3, x0, 0, 0, 0, 0, 0, 0⟩ = N := ⟨_, rfl⟩
  obtain ⟨N2, hN2⟩ : ∃ N, Hd.cells ⟨(c0 : Int) / 64, (c0 : Int) / 8 % 8, (c0 : Int) % 8, (c1 : Int), z2, z3, x0, x1, 0, 0, 0, 0, 0⟩ = N := ⟨_, rfl⟩
  obtain ⟨N3, hN3⟩ : ∃ N, Hd.cells ⟨(c0 : Int) / 64, (c0 : Int) / 8 % 8, (c0 : Int) % 8, (c1 : Int), z2, z3, x0, x1, x2, 0, 0, 0, 0⟩ = N := ⟨_, rfl⟩
  obtain ⟨N4, hN4⟩ : ∃ N, Hd.cells ⟨(c0 : Int) / 64, (c0 : Int) / 8 % 8, (c0 : Int) % 8, (c1 : Int), z2, z3, x0, x1, x2, x3, 0, 0, 0⟩ = N := ⟨_, rfl⟩
  obtain ⟨N5, hN5⟩ : ∃ N, Hd.cells ⟨(c0 : Int) / 64, (c0 : Int) / 8 % 8, (c0 : Int) % 8, (c1 : Int), z2, z3, x0, x1, x2, x3, x4, 0, 0⟩ = N := ⟨_, rfl⟩
  obtain ⟨N6, hN6⟩ : ∃ N, Hd.cells ⟨(c0 : Int) / 64, (c0 : Int) / 8 % 8, (c0 : Int) % 8, (c1 : Int), z2, z3, x0, x1, x2, x3, x4, x5, 0⟩ = N := ⟨_, rfl⟩
  obtain ⟨N7, hN7⟩ : ∃ N, Hd.cells ⟨(c0 : Int) / 64, (c0 : Int) / 8 % 8, (c0 : Int) % 8, (c1 : Int), z2, z3, x0, x1, x2, x3, x4, x5, x6⟩ = N := ⟨_, rfl⟩
  have HS0 : Kp (N0.set 6 (.int .u32 (x0 : Int)) = N1) := kp (by rw [← hN0, ← hN1]; rfl)
  have HQ0 : Kp (N0[6]? = some (.int .u32 0)) := kp (by rw [← hN0]; rfl)
  have HS1 : Kp (N1.set 7 (.int .u32 (x1 : Int)) = N2) := kp (by rw [← hN1, ← hN2]; rfl)
  have HQ1 : Kp (N1[7]? = some (.int .u32 0)) := kp (by rw [← hN1]; rfl)
  have HS2 : Kp (N2.set 8 (.int .u32 (x2 : Int)) = N3) := kp (by rw [← hN2, ← hN3]; rfl)
  have HQ2 : Kp (N2[8]? = some (.int .u32 0)) := kp (by rw [← hN2]; rfl)
  have HS3 : Kp (N3.set 9 (.int .u64 (x3 : Int)) = N4) := kp (by rw [← hN3, ← hN4]; rfl)
  have HQ3 : Kp (N3[9]? = some (.int .u64 0)) := kp (by rw [← hN3]; rfl)
  have HS4 : Kp (N4.set 10 (.int .u64 (x4 : Int)) = N5) := kp (by rw [← hN4, ← hN5]; rfl)
  have HQ4 : Kp (N4[10]? = some (.int .u64 0)) := kp (by rw [← hN4]; rfl)
  have HS5 : Kp (N5.set 11 (.int .u64 (x5 : Int)) = N6) := kp (by rw [← hN5, ← hN6]; rfl)
  have HQ5 : Kp (N5[11]? = some (.int .u64 0)) := kp (by rw [← hN5]; rfl)
  have HS6 : Kp (N6.set 12 (.int .u64 (x6 : Int)) = N7) := kp (by rw [← hN6, ← hN7]; rfl)
  have HQ6 : Kp (N6[12]? = some (.int .u64 0)) := kp (by rw [← hN6]; rfl)
  have HL0 : Kp (N0.length = 13) := kp (by rw [← hN0]; rfl)
  have HL1 : Kp (N1.length = 13) := kp (by rw [← hN1]; rfl)
  have HL2 : Kp (N2.length = 13) := kp (by rw [← hN2]; rfl)
  have HL3 : Kp (N3.length = 13) := kp (by rw [← hN3]; rfl)
  have HL4 : Kp (N4.length = 13) := kp (by rw [← hN4]; rfl)
  have HL5 : Kp (N5.length = 13) := kp (by rw [← hN5]; rfl)
  have HL6 : Kp (N6.length = 13) := kp (by rw [← hN6]; rfl)
  have HL7 : Kp (N7.length = 13) := kp (by rw [← hN7]; rfl)
  have hmay : Hd.may ⟨(c0 : Int) / 64, (c0 : Int) / 8 % 8, (c0 : Int) % 8, (c1 : Int), z2, z3, x0, x1, x2, x3, x4, x5, x6⟩ = Hd.may ⟨(c0 : Int) / 64, (c0 : Int) / 8 % 8, (c0 : Int) % 8, (c1 : Int), z2, z3, 0, 0, 0, 0, 0, 0, 0⟩ := rfl
  rw [hmay, hN7]
  have HNN := kp hN0
  have hn1 : ∀ v ∈ N0, v.oneCell' = true := by rw [← HNN.out]; intro v hv; simp [Hd.cells] at hv; rcases hv with rfl | rfl | rfl | rfl | rfl | rfl | rfl | rfl | rfl | rfl | rfl | rfl | rfl <;> rfl
  have HN1 := kp hn1
  have HN7 : Kp (∀ v ∈ N7, v.oneCell' = true) := kp (by rw [← hN7]; intro v hv; simp [Hd.cells] at hv; rcases hv with rfl | rfl | rfl | rfl | rfl | rfl | rfl | rfl | rfl | rfl | rfl | rfl | rfl <;> rfl)
  clear hn1 hmay
  clear hN0 hN1 hN2 hN3 hN4 hN5 hN6 hN7
  have cM : Kp (∀ w', Calls Try.prog 16 #[.agg N0.toArray] w' fun e w'' => e = .returned (.bool (Hd.may ⟨(c0 : Int) / 64, (c0 : Int) / 8 % 8, (c0 : Int) % 8, (c1 : Int), z2, z3, 0, 0, 0, 0, 0, 0, 0⟩)) ∧ Below w'.heap.size w' w'') := kp (fun w' => by rw [← HNN.out]; exact M_May _ w')
  have HBS : Kp (∀ w', (Instr.build 26 #[(0, .int .i64 ((c0 : Int) / 64)), (1, .int .i64 ((c0 : Int) / 8 % 8)), (2, .int .i64 ((c0 : Int) % 8)), (3, .int .i64 (c1 : Int)), (4, .int .i64 z2), (5, .int .i64 z3)]).run Try.prog w' = .ok (.agg N0.toArray) w') := kp (fun w' => by rw [← HNN.out]; exact build_six _ _ _ _ _ _ w')
  obtain ⟨p, hp⟩ : ∃ p, Hd.may ⟨(c0 : Int) / 64, (c0 : Int) / 8 % 8, (c0 : Int) % 8, (c1 : Int), z2, z3, 0, 0, 0, 0, 0, 0, 0⟩ = p := ⟨_, rfl⟩
  rw [hp] at cM ⊢
  clear hp HNN
  go_enter Try.func14, Try.ntmps14
  go_upto_region 1 with (fail)
  generalize hW : w.alloc _ = W
  have HB : Kp (Below w.heap.size w W) := kp (by rw [← hW]; exact HB.out)
  have HN : Kp (Blk W w.heap.size 26 Z.toArray) := kp (by rw [← hW, ← hZ]; exact HN.out)
  clear hW hZ
  go_upto_region 3 with (fail)
  refine wp_region_mkE [0, 1, 2, 3, 4, 5, 6, 7, 8, 9, 10, 11, 12, 13, 14, 15, 16, 17, 18, 19, 20, 21, 22, 23, 24] [25] [26] 78 (fun _ => VA W.heap.size 26 Z.toArray) (· ≠ ·) (by kernel_rfl) (by kernel_rfl) rfl (fun i v W W' h hb => h.mono hb) ?_
  apply Exists.intro
  refine ⟨fun X hX => ?_, ?_, ?_⟩
  · simp only [List.append_eq, List.cons_append, List.nil_append, List.map_cons, List.map_nil, List.getD_cons_succ, List.getD_cons_zero]
    repeat (first
      | (go_big_quiet_want; refine quiet_val 37 rfl (.agg N0.toArray) (fun w _ => exec_build (parts := #[(0, .int .i64 ((c0 : Int) / 64)), (1, .int .i64 ((c0 : Int) / 8 % 8)), (2, .int .i64 ((c0 : Int) % 8)), (3, .int .i64 (c1 : Int)), (4, .int .i64 z2), (5, .int .i64 z3)]) rfl (by simp [Act.eval, Act.put]) (HBS.out w)) ?_; go_simp; go_big_quiet_on)
      | go_big_quiet_step (fail))
    exact wpQuiet_nil rfl
  · exact ⟨mk_alloc rfl (fun W => by rw [← HZZ.out]; kernel_rfl) (fun j u W h => h.ne), trivial⟩
  · intro ev _
    simp only [List.append_eq, List.cons_append, List.nil_append, List.map_cons, List.map_nil, List.getD_cons_succ, List.getD_cons_zero, TailX]
    rintro X hX ⟨_, bn, rfl, hbn, hkn⟩
    have hlt : w.heap.size < bn := Nat.lt_of_lt_of_le HN.out.lt hbn
    have HLT := kp hlt
    have HN := kp (HN.out.bel hX)
    have HB := kp (bt' HB.out hX HB.out.size)
    have hnl := HL0.out
    have hzl := HZL.out
    have SC1 := sc_all (P := Try.prog) (w := X) bn 26 N0 _ hkn (by rw [hnl, hzl]) HN1.out
    have HB1 := kp (bsr HB.out (b := bn) (Nat.le_of_lt hlt) HB.out.size N0.toArray)
    have H4 := kp (hkn.row N0.toArray)
    have HNX := kp (HN.out.rowfar (b := bn) (by omega) N0.toArray)
    have L4 := ld_all (P := Try.prog) bn 13 26 26 N0 _ Try.underlying26 rfl info_head hnl H4.out
    clear hkn hX
    go_wp2_with (refine wpL_load rfl 26 _ rfl rfl L4 ?_)
    refine (cM.out _).mono ?_
    rintro e w1 ⟨rfl, hb1⟩
    clear L4 SC1
    have HN := kp (HNX.out.bel hb1)
    have H4 := kp (H4.out.bel hb1)
    have HB := kp (bt' HB1.out hb1 HB1.out.size)
    clear hb1 HNX HB1
    cases p with
    | false =>
      have SC := sc_all (P := Try.prog) (w := w1) w.heap.size 26 Z _ HN.out rfl HZO.out
      have HR := kp (HN.out.row Z.toArray)
      have HBE := kp (bsr HB.out (b := w.heap.size) (Nat.le_refl _) HB.out.size Z.toArray)
      go_wp2_with (refine wpL_val 41 rfl rfl (.agg Z.toArray) (exec_build (parts := #[]) rfl (by simp) (HBZ.out _)) ?_)
      refine bodyPost_ret (v := .tuple #[.agg Z.toArray, .int .i64 2]) ?_ rfl ?_
      · exact res2 Try.results14 w.heap.size 13 _ Z _ Try.underlying26 rfl info_head hzl HR.out _ rfl _ rfl
      · exact ⟨rfl, HBE.out⟩
    | true =>
      go_wp2_with fail
      refine (M_words H4.out (by simp [HL0.out])).mono ?_
      rintro e v0 ⟨rfl, hb2⟩
      have HN := kp (HN.out.bel hb2)
      have H4 := kp (H4.out.bel hb2)
      have HB := kp (bt' HB.out hb2 HB.out.size)
      clear hb2
      go_wp2
      go_loopw [43] (fun i wr => ∃ j : Nat, j ≤ 3 ∧ i = .int .i64 (j : Int) ∧ Kp (Blk wr bn 26 (([N0, N1, N2, N3] : List (List Value)).getD j []).toArray) ∧ Kp (Blk wr w.heap.size 26 Z.toArray) ∧ Kp (Below w.heap.size w wr)) (fun i _ => 3 - (intOf i).toNat)
      case atStart => exact ⟨0, by omega, rfl, H4, HN, HB⟩
      case round =>
        clear H4 HN HB
        obtain ⟨j, hj, rfl, H4, HN, HB⟩ := hrel
        match j, hj with
        | 0, _ =>
          have H4 : Kp (Blk wr bn 26 N0.toArray) := kp H4.out
          have q := H4.out.atL HQ0.out
          have qf := H4.out.frozen 6
          have hlb := H4.out.lt
          have hlc := HN.out.lt
          have yy := y0
          have HBX := kp (bsc HB.out (p := ⟨bn, 6, none⟩) (Nat.le_of_lt HLT.out) (.int .u32 (x0 : Int)))
          have H4X : Kp (Blk (wr.setCell ⟨bn, 6, none⟩ (.int .u32 (x0 : Int))) bn 26 N1.toArray) := kp (by rw [← HS0.out]; exact H4.out.setL 6 _)
          have HNX := kp (HN.out.far (p := ⟨bn, 6, none⟩) (Nat.ne_of_lt HLT.out) (.int .u32 (x0 : Int)))
          go_wp2_with (refine wpL_val 46 rfl rfl (.pointer (some ⟨bn, 6, none⟩)) (exec_index rfl rfl rfl (ixw _ _ _ _).1) ?_)
          clear q
          have q := H4.out.atL HQ0.out
          refine (cQ0.out _).mono ?_
          rintro e w3 ⟨rfl, rfl⟩
          go_wp2
          go_roundw
          case measure => simp [intOf]
          case rel => exact ⟨1, by omega, rfl, H4X, HNX, HBX⟩
        | 1, _ =>
          have H4 : Kp (Blk wr bn 26 N1.toArray) := kp H4.out
          have q := H4.out.atL HQ1.out
          have qf := H4.out.frozen 7
          have hlb := H4.out.lt
          have hlc := HN.out.lt
          have yy := y1
          have HBX := kp (bsc HB.out (p := ⟨bn, 7, none⟩) (Nat.le_of_lt HLT.out) (.int .u32 (x1 : Int)))
          have H4X : Kp (Blk (wr.setCell ⟨bn, 7, none⟩ (.int .u32 (x1 : Int))) bn 26 N2.toArray) := kp (by rw [← HS1.out]; exact H4.out.setL 7 _)
          have HNX := kp (HN.out.far (p := ⟨bn, 7, none⟩) (Nat.ne_of_lt HLT.out) (.int .u32 (x1 : Int)))
          go_wp2_with (refine wpL_val 46 rfl rfl (.pointer (some ⟨bn, 7, none⟩)) (exec_index rfl rfl rfl (ixw _ _ _ _).2.1) ?_)
          clear q
          have q := H4.out.atL HQ1.out
          refine (cQ1.out _).mono ?_
          rintro e w3 ⟨rfl, rfl⟩
          go_wp2
          go_roundw
          case measure => simp [intOf]
          case rel => exact ⟨2, by omega, rfl, H4X, HNX, HBX⟩
        | 2, _ =>
          have H4 : Kp (Blk wr bn 26 N2.toArray) := kp H4.out
          have q := H4.out.atL HQ2.out
          have qf := H4.out.frozen 8
          have hlb := H4.out.lt
          have hlc := HN.out.lt
          have yy := y2
          have HBX := kp (bsc HB.out (p := ⟨bn, 8, none⟩) (Nat.le_of_lt HLT.out) (.int .u32 (x2 : Int)))
          have H4X : Kp (Blk (wr.setCell ⟨bn, 8, none⟩ (.int .u32 (x2 : Int))) bn 26 N3.toArray) := kp (by rw [← HS2.out]; exact H4.out.setL 8 _)
          have HNX := kp (HN.out.far (p := ⟨bn, 8, none⟩) (Nat.ne_of_lt HLT.out) (.int .u32 (x2 : Int)))
          go_wp2_with (refine wpL_val 46 rfl rfl (.pointer (some ⟨bn, 8, none⟩)) (exec_index rfl rfl rfl (ixw _ _ _ _).2.2) ?_)
          clear q
          have q := H4.out.atL HQ2.out
          refine (cQ2.out _).mono ?_
          rintro e w3 ⟨rfl, rfl⟩
          go_wp2
          go_roundw
          case measure => simp [intOf]
          case rel => exact ⟨3, by omega, rfl, H4X, HNX, HBX⟩
        | 3, _ =>
          have H4 : Kp (Blk wr bn 26 N3.toArray) := kp H4.out
          go_wp2_with fail
          refine (M_stamps H4.out (by simp [HL3.out])).mono ?_
          rintro e v3 ⟨rfl, hb2⟩
          have HN := kp (HN.out.bel hb2)
          have H4 := kp (H4.out.bel hb2)
          have HB := kp (bt' HB.out hb2 HB.out.size)
          clear hb2
          go_wp2
          go_loopw [61] (fun i wr => ∃ j : Nat, j ≤ 4 ∧ i = .int .i64 (j : Int) ∧ Kp (Blk wr bn 26 (([N3, N4, N5, N6, N7] : List (List Value)).getD j []).toArray) ∧ Kp (Blk wr w.heap.size 26 Z.toArray) ∧ Kp (Below w.heap.size w wr)) (fun i _ => 4 - (intOf i).toNat)
          case atStart => exact ⟨0, by omega, rfl, H4, HN, HB⟩
          case round =>
            clear H4 HN HB
            obtain ⟨j, hj, rfl, H4, HN, HB⟩ := hrel
            match j, hj with
            | 0, _ =>
              have H4 : Kp (Blk wr bn 26 N3.toArray) := kp H4.out
              have q := H4.out.atL HQ3.out
              have qf := H4.out.frozen 9
              have hlb := H4.out.lt
              have hlc := HN.out.lt
              have yy := y3
              have HBX := kp (bsc HB.out (p := ⟨bn, 9, none⟩) (Nat.le_of_lt HLT.out) (.int .u64 (x3 : Int)))
              have H4X : Kp (Blk (wr.setCell ⟨bn, 9, none⟩ (.int .u64 (x3 : Int))) bn 26 N4.toArray) := kp (by rw [← HS3.out]; exact H4.out.setL 9 _)
              have HNX := kp (HN.out.far (p := ⟨bn, 9, none⟩) (Nat.ne_of_lt HLT.out) (.int .u64 (x3 : Int)))
              go_wp2_with (refine wpL_val 64 rfl rfl (.pointer (some ⟨bn, 9, none⟩)) (exec_index rfl rfl rfl (ixs _ _ _ _ _).1) ?_)
              clear q
              have q := H4.out.atL HQ3.out
              refine (cQ3.out _).mono ?_
              rintro e w3 ⟨rfl, rfl⟩
              go_wp2
              go_roundw
              case measure => simp [intOf]
              case rel => exact ⟨1, by omega, rfl, H4X, HNX, HBX⟩
            | 1, _ =>
              have H4 : Kp (Blk wr bn 26 N4.toArray) := kp H4.out
              have q := H4.out.atL HQ4.out
              have qf := H4.out.frozen 10
              have hlb := H4.out.lt
              have hlc := HN.out.lt
              have yy := y4
              have HBX := kp (bsc HB.out (p := ⟨bn, 10, none⟩) (Nat.le_of_lt HLT.out) (.int .u64 (x4 : Int)))
              have H4X : Kp (Blk (wr.setCell ⟨bn, 10, none⟩ (.int .u64 (x4 : Int))) bn 26 N5.toArray) := kp (by rw [← HS4.out]; exact H4.out.setL 10 _)
              have HNX := kp (HN.out.far (p := ⟨bn, 10, none⟩) (Nat.ne_of_lt HLT.out) (.int .u64 (x4 : Int)))
              go_wp2_with (refine wpL_val 64 rfl rfl (.pointer (some ⟨bn, 10, none⟩)) (exec_index rfl rfl rfl (ixs _ _ _ _ _).2.1) ?_)
              clear q
              have q := H4.out.atL HQ4.out
              refine (cQ4.out _).mono ?_
              rintro e w3 ⟨rfl, rfl⟩
              go_wp2
              go_roundw
              case measure => simp [intOf]
              case rel => exact ⟨2, by omega, rfl, H4X, HNX, HBX⟩
            | 2, _ =>
              have H4 : Kp (Blk wr bn 26 N5.toArray) := kp H4.out
              have q := H4.out.atL HQ5.out
              have qf := H4.out.frozen 11
              have hlb := H4.out.lt
              have hlc := HN.out.lt
              have yy := y5
              have HBX := kp (bsc HB.out (p := ⟨bn, 11, none⟩) (Nat.le_of_lt HLT.out) (.int .u64 (x5 : Int)))
              have H4X : Kp (Blk (wr.setCell ⟨bn, 11, none⟩ (.int .u64 (x5 : Int))) bn 26 N6.toArray) := kp (by rw [← HS5.out]; exact H4.out.setL 11 _)
              have HNX := kp (HN.out.far (p := ⟨bn, 11, none⟩) (Nat.ne_of_lt HLT.out) (.int .u64 (x5 : Int)))
              go_wp2_with (refine wpL_val 64 rfl rfl (.pointer (some ⟨bn, 11, none⟩)) (exec_index rfl rfl rfl (ixs _ _ _ _ _).2.2.1) ?_)
              clear q
              have q := H4.out.atL HQ5.out
              refine (cQ5.out _).mono ?_
              rintro e w3 ⟨rfl, rfl⟩
              go_wp2
              go_roundw
              case measure => simp [intOf]
              case rel => exact ⟨3, by omega, rfl, H4X, HNX, HBX⟩
            | 3, _ =>
              have H4 : Kp (Blk wr bn 26 N6.toArray) := kp H4.out
              have q := H4.out.atL HQ6.out
              have qf := H4.out.frozen 12
              have hlb := H4.out.lt
              have hlc := HN.out.lt
              have yy := y6
              have HBX := kp (bsc HB.out (p := ⟨bn, 12, none⟩) (Nat.le_of_lt HLT.out) (.int .u64 (x6 : Int)))
              have H4X : Kp (Blk (wr.setCell ⟨bn, 12, none⟩ (.int .u64 (x6 : Int))) bn 26 N7.toArray) := kp (by rw [← HS6.out]; exact H4.out.setL 12 _)
              have HNX := kp (HN.out.far (p := ⟨bn, 12, none⟩) (Nat.ne_of_lt HLT.out) (.int .u64 (x6 : Int)))
              go_wp2_with (refine wpL_val 64 rfl rfl (.pointer (some ⟨bn, 12, none⟩)) (exec_index rfl rfl rfl (ixs _ _ _ _ _).2.2.2) ?_)
              clear q
              have q := H4.out.atL HQ6.out
              refine (cQ6.out _).mono ?_
              rintro e w3 ⟨rfl, rfl⟩
              go_wp2
              go_roundw
              case measure => simp [intOf]
              case rel => exact ⟨4, by omega, rfl, H4X, HNX, HBX⟩
            | 4, _ =>
              have H4 : Kp (Blk wr bn 26 N7.toArray) := kp H4.out
              have L7 := ld_all (P := Try.prog) bn 13 26 26 N7 _ Try.underlying26 rfl info_head HL7.out H4.out
              have SC := sc_all (P := Try.prog) (w := wr) w.heap.size 26 N7 _ HN.out (by rw [HL7.out, HZL.out]) HN7.out
              have HR := kp (HN.out.row N7.toArray)
              have HBE := kp (bsr HB.out (b := w.heap.size) (Nat.le_refl _) HB.out.size N7.toArray)
              have hnl7 := HL7.out
              go_wp2_with (refine wpL_load rfl 26 _ rfl rfl L7 ?_)
              refine bodyPost_ret (v := .tuple #[.agg N7.toArray, .int .i64 0]) ?_ rfl ?_
              · exact res2 Try.results14 w.heap.size 13 _ N7 _ Try.underlying26 rfl info_head hnl7 HR.out _ rfl _ rfl
              · exact ⟨rfl, HBE.out⟩
end Go.Proofs.Ytoifkfhbinfplaa
