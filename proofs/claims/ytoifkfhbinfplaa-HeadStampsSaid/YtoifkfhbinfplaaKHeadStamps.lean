/- HeadStamps: the walk. Printed by genkhs.py. -/
import Derived.Test.YtoifkfhbinfplaaHd23
import Derived.Test.YtoifkfhbinfplaaArgH
namespace Go.Proofs.Ytoifkfhbinfplaa
open Go Go.RowKit
set_option linter.unusedVariables false
set_option linter.unusedSimpArgs false
attribute [local go_sem] bmax2 bmin2 bmax bmin cell_ext frozen_ext

theorem str_take (X Y : List UInt8) (n : Nat) (h : X.length = n) : (str (X ++ Y)).extract 0 n = str X := by
  apply bs_inj
  rw [bs_extract, bs_str, bs_str, List.drop_zero, Nat.sub_zero, ← h, List.take_left]
theorem str_drop (X Y : List UInt8) (n m : Nat) (h : X.length = n) (hm : m = (X ++ Y).length) : (str (X ++ Y)).extract n m = str Y := by
  apply bs_inj
  rw [bs_extract, bs_str, bs_str, ← h, List.drop_left, List.take_of_length_le]
  rw [hm, List.length_append]
  omega
def Hd.head16 (h : Hd) : List UInt8 := h.first ++ h.words
theorem Hd.head16_len (h : Hd) : h.head16.length = 16 := by
  unfold Hd.head16 Hd.first Hd.words
  simp only [List.length_append, length_putL, List.length_cons, List.length_nil]
theorem stamp0 (h : Hd) (n : Nat) : ∃ X Y : List UInt8, X.length = 16 ∧ Y.length = 24 ∧ h.bytes = X ++ (putL h.j 8 ++ Y) ∧ Hd.bytes { h with j := n } = X ++ (putL n 8 ++ Y) := by
  refine ⟨h.head16, putL h.k 8 ++ putL h.l 8 ++ putL h.m 8, ?_, ?_, ?_, ?_⟩
  · simp only [List.length_append, length_putL, Hd.head16_len]
  · simp only [List.length_append, length_putL, List.length_nil]
  · unfold Hd.bytes Hd.stamps Hd.head16
    simp only [List.append_assoc, List.append_nil]
  · unfold Hd.bytes Hd.stamps Hd.head16 Hd.first Hd.words
    simp only [List.append_assoc, List.append_nil]
theorem stamp1 (h : Hd) (n : Nat) : ∃ X Y : List UInt8, X.length = 24 ∧ Y.length = 16 ∧ h.bytes = X ++ (putL h.k 8 ++ Y) ∧ Hd.bytes { h with k := n } = X ++ (putL n 8 ++ Y) := by
  refine ⟨h.head16 ++ putL h.j 8, putL h.l 8 ++ putL h.m 8, ?_, ?_, ?_, ?_⟩
  · simp only [List.length_append, length_putL, Hd.head16_len]
  · simp only [List.length_append, length_putL, List.length_nil]
  · unfold Hd.bytes Hd.stamps Hd.head16
    simp only [List.append_assoc, List.append_nil]
  · unfold Hd.bytes Hd.stamps Hd.head16 Hd.first Hd.words
    simp only [List.append_assoc, List.append_nil]
theorem stamp2 (h : Hd) (n : Nat) : ∃ X Y : List UInt8, X.length = 32 ∧ Y.length = 8 ∧ h.bytes = X ++ (putL h.l 8 ++ Y) ∧ Hd.bytes { h with l := n } = X ++ (putL n 8 ++ Y) := by
  refine ⟨h.head16 ++ putL h.j 8 ++ putL h.k 8, putL h.m 8, ?_, ?_, ?_, ?_⟩
  · simp only [List.length_append, length_putL, Hd.head16_len]
  · simp only [List.length_append, length_putL, List.length_nil]
  · unfold Hd.bytes Hd.stamps Hd.head16
    simp only [List.append_assoc, List.append_nil]
  · unfold Hd.bytes Hd.stamps Hd.head16 Hd.first Hd.words
    simp only [List.append_assoc, List.append_nil]
theorem stamp3 (h : Hd) (n : Nat) : ∃ X Y : List UInt8, X.length = 40 ∧ Y.length = 0 ∧ h.bytes = X ++ (putL h.m 8 ++ Y) ∧ Hd.bytes { h with m := n } = X ++ (putL n 8 ++ Y) := by
  refine ⟨h.head16 ++ putL h.j 8 ++ putL h.k 8 ++ putL h.l 8, [], ?_, ?_, ?_, ?_⟩
  · simp only [List.length_append, length_putL, Hd.head16_len]
  · simp only [List.length_append, length_putL, List.length_nil]
  · unfold Hd.bytes Hd.stamps Hd.head16
    simp only [List.append_assoc, List.append_nil]
  · unfold Hd.bytes Hd.stamps Hd.head16 Hd.first Hd.words
    simp only [List.append_assoc, List.append_nil]
set_option maxHeartbeats 4000000 in
set_option maxRecDepth 100000 in
theorem HeadStamps_walk (w : World) (h : Hd) (a1 : Int) (n : Nat) (hok : h.ok) (b1 : (Lit.int .u8 a1).wf = true) (hn : n < 18446744073709551616) :
    Calls Try.prog 10 #[.agg h.cells.toArray, .int .u8 a1, .int .u64 (n : Int)] w fun e w' => e = .returned (.bool true) ∧ Below w.heap.size w w' := by
  have hw8 := wf_u8 b1
  clear b1
  have HL := h.length
  have HB := kp (ba (Below.refl w.heap.size w) (.cells h.cells.toArray 26))
  have HN := kp (Blk.new w 26 h.cells.toArray)
  have cP : Kp (∀ w', Calls Try.prog 12 #[.agg h.cells.toArray] w' fun e w'' => e = .returned (.tuple #[.string (str h.put), .int .i64 (eB h.may)]) ∧ Below w'.heap.size w' w'') := kp (fun w' => M_Put h hok w')
  cases hm : h.may with
  | false =>
    rw [hm] at cP
    have cP : Kp (∀ w', Calls Try.prog 12 #[.agg h.cells.toArray] w' fun e w'' => e = .returned (.tuple #[.string (str h.put), .int .i64 2]) ∧ Below w'.heap.size w' w'') := cP
    generalize h.cells = L at *
    generalize str h.put = PS at *
    go_enter Try.func10, Try.ntmps10
    go_wp2_with fail
    refine (head_awake _).mono ?_
    rintro e w1 ⟨rfl, hb⟩
    have HN := kp (HN.out.bel hb)
    have HB := kp (bt' HB.out hb HB.out.size)
    clear hb
    have L1 := ld_all (P := Try.prog) w.heap.size 13 26 26 L _ Try.underlying26 rfl info_head HL HN.out
    go_wp2_with (refine wpL_load rfl 26 _ rfl rfl L1 ?_)
    refine (cP.out _).mono ?_
    rintro e w2 ⟨rfl, hb⟩
    have HB := kp (bt' HB.out hb HB.out.size)
    clear hb L1
    go_wp2
    go_ret
    exact ⟨rfl, HB.out⟩
  | true =>
    have hput : h.put = h.bytes := by unfold Hd.put; rw [hm, if_pos rfl]
    rw [hm, hput] at cP
    have cP : Kp (∀ w', Calls Try.prog 12 #[.agg h.cells.toArray] w' fun e w'' => e = .returned (.tuple #[.string (str h.bytes), .int .i64 0]) ∧ Below w'.heap.size w' w'') := cP
    have hk4 : a1 % 4 = 0 ∨ a1 % 4 = 1 ∨ a1 % 4 = 2 ∨ a1 % 4 = 3 := by omega
    rcases hk4 with hk | hk | hk | hk
    · obtain ⟨X, Y, hX, hY, e1, e2⟩ := stamp0 h n
      have hm2 : Hd.may { h with j := n } = true := hm
      have hok2 : Hd.ok { h with j := n } := by
        obtain ⟨o1, o2, o3, o4, o5, o6, o7⟩ := hok
        constructor <;> first | exact hn | assumption
      have cP2 : Kp (∀ w', Calls Try.prog 12 #[.agg (Hd.cells { h with j := n }).toArray] w' fun e w'' => e = .returned (.tuple #[.string (str (X ++ (putL n 8 ++ Y))), .int .i64 0]) ∧ Below w'.heap.size w' w'') := kp (fun w' => by
        have hc := M_Put { h with j := n } hok2 w'
        rw [hm2, show Hd.put { h with j := n } = X ++ (putL n 8 ++ Y) by unfold Hd.put; rw [hm2, if_pos rfl, e2]] at hc
        exact hc)
      rw [e1] at cP
      have HSET : Kp (h.cells.set 9 (.int .u64 (n : Int)) = Hd.cells { h with j := n }) := kp rfl
      have HCQ : Kp (h.cells[9]? = some (.int .u64 (h.j : Int))) := kp rfl
      have HL2 : Kp ((Hd.cells { h with j := n }).length = 13) := kp rfl
      generalize Hd.cells { h with j := n } = L2 at *
      generalize h.cells = L at *
      have lp1 := length_putL h.j 8
      have lp2 := length_putL n 8
      have t1 : (str (X ++ (putL h.j 8 ++ Y))).extract 0 16 = str X := str_take _ _ _ hX
      have t2 : (str (X ++ (putL n 8 ++ Y))).extract 0 16 = str X := str_take _ _ _ hX
      have t3 : (str (X ++ (putL h.j 8 ++ Y))).extract 24 48 = str Y := by rw [← List.append_assoc]; exact str_drop _ _ _ _ (by rw [List.length_append, hX, lp1]) (by simp only [List.length_append, hX, hY, lp1])
      have t4 : (str (X ++ (putL n 8 ++ Y))).extract 24 48 = str Y := by rw [← List.append_assoc]; exact str_drop _ _ _ _ (by rw [List.length_append, hX, lp2]) (by simp only [List.length_append, hX, hY, lp2])
      have z1 : (str (X ++ (putL h.j 8 ++ Y))).size = 48 := by rw [str_size]; simp only [List.length_append, hX, hY, lp1]
      have z2 : (str (X ++ (putL n 8 ++ Y))).size = 48 := by rw [str_size]; simp only [List.length_append, hX, hY, lp2]
      generalize str (X ++ (putL h.j 8 ++ Y)) = S1 at *
      generalize str (X ++ (putL n 8 ++ Y)) = S2 at *
      generalize str X = TX at *
      generalize str Y = TY at *
      clear lp1 lp2 e1 e2
      go_enter Try.func10, Try.ntmps10
      go_wp2_with fail
      refine (head_awake _).mono ?_
      rintro e w1 ⟨rfl, hb⟩
      have HN := kp (HN.out.bel hb)
      have HB := kp (bt' HB.out hb HB.out.size)
      clear hb
      have L1 := ld_all (P := Try.prog) w.heap.size 13 26 26 L _ Try.underlying26 rfl info_head HL HN.out
      go_wp2_with (refine wpL_load rfl 26 _ rfl rfl L1 ?_)
      refine (cP.out _).mono ?_
      rintro e w2 ⟨rfl, hb⟩
      have HN := kp (HN.out.bel hb)
      have HB := kp (bt' HB.out hb HB.out.size)
      clear hb L1
      have q := HN.out.atL HCQ.out
      have qf := HN.out.frozen 9
      have HN2 : Kp (Blk (w2.setCell ⟨w.heap.size, 9, none⟩ (.int .u64 (n : Int))) w.heap.size 26 L2.toArray) := kp (by rw [← HSET.out]; exact HN.out.setL 9 _)
      have HB := kp (bsc HB.out (p := ⟨w.heap.size, 9, none⟩) (Nat.le_refl _) (.int .u64 (n : Int)))
      have hlb := HN.out.lt
      go_upto_region 15 with (fail)
      clear q qf hlb
      generalize w2.setCell ⟨w.heap.size, 9, none⟩ (.int .u64 (n : Int)) = V at HN2 HB ⊢
      have hl2 := HL2.out
      have L2_ := ld_all (P := Try.prog) w.heap.size 13 26 26 L2 _ Try.underlying26 rfl info_head hl2 HN2.out
      go_wp2_with (refine wpL_load rfl 26 _ rfl rfl L2_ ?_)
      refine (cP2.out _).mono ?_
      rintro e w3 ⟨rfl, hb⟩
      have HB := kp (bt' HB.out hb HB.out.size)
      clear hb L2_
      go_upto_region 17 with (fail)
      refine wp_region_ext [0, 1, 2, 3, 4, 5, 6, 7, 8, 9, 10, 11, 12, 13, 14, 15, 16, 17, 18, 19, 20, 21, 22, 23, 24, 25, 26, 27, 28, 29, 30, 31] [32] (by kernel_rfl) (by kernel_rfl) ?_
      simp only [List.append_eq, List.cons_append, List.nil_append, List.map_cons, List.map_nil, List.getD_cons_succ, List.getD_cons_zero]
      repeat (go_big_quiet_step (fail))
      refine wpQuiet_nil ?_
      rintro z
      have HB := kp (bt' HB.out (ext_below w3 z) HB.out.size)
      go_wp2
      go_ret
      exact ⟨rfl, HB.out⟩
    · obtain ⟨X, Y, hX, hY, e1, e2⟩ := stamp1 h n
      have hm2 : Hd.may { h with k := n } = true := hm
      have hok2 : Hd.ok { h with k := n } := by
        obtain ⟨o1, o2, o3, o4, o5, o6, o7⟩ := hok
        constructor <;> first | exact hn | assumption
      have cP2 : Kp (∀ w', Calls Try.prog 12 #[.agg (Hd.cells { h with k := n }).toArray] w' fun e w'' => e = .returned (.tuple #[.string (str (X ++ (putL n 8 ++ Y))), .int .i64 0]) ∧ Below w'.heap.size w' w'') := kp (fun w' => by
        have hc := M_Put { h with k := n } hok2 w'
        rw [hm2, show Hd.put { h with k := n } = X ++ (putL n 8 ++ Y) by unfold Hd.put; rw [hm2, if_pos rfl, e2]] at hc
        exact hc)
      rw [e1] at cP
      have HSET : Kp (h.cells.set 10 (.int .u64 (n : Int)) = Hd.cells { h with k := n }) := kp rfl
      have HCQ : Kp (h.cells[10]? = some (.int .u64 (h.k : Int))) := kp rfl
      have HL2 : Kp ((Hd.cells { h with k := n }).length = 13) := kp rfl
      generalize Hd.cells { h with k := n } = L2 at *
      generalize h.cells = L at *
      have lp1 := length_putL h.k 8
      have lp2 := length_putL n 8
      have t1 : (str (X ++ (putL h.k 8 ++ Y))).extract 0 24 = str X := str_take _ _ _ hX
      have t2 : (str (X ++ (putL n 8 ++ Y))).extract 0 24 = str X := str_take _ _ _ hX
      have t3 : (str (X ++ (putL h.k 8 ++ Y))).extract 32 48 = str Y := by rw [← List.append_assoc]; exact str_drop _ _ _ _ (by rw [List.length_append, hX, lp1]) (by simp only [List.length_append, hX, hY, lp1])
      have t4 : (str (X ++ (putL n 8 ++ Y))).extract 32 48 = str Y := by rw [← List.append_assoc]; exact str_drop _ _ _ _ (by rw [List.length_append, hX, lp2]) (by simp only [List.length_append, hX, hY, lp2])
      have z1 : (str (X ++ (putL h.k 8 ++ Y))).size = 48 := by rw [str_size]; simp only [List.length_append, hX, hY, lp1]
      have z2 : (str (X ++ (putL n 8 ++ Y))).size = 48 := by rw [str_size]; simp only [List.length_append, hX, hY, lp2]
      generalize str (X ++ (putL h.k 8 ++ Y)) = S1 at *
      generalize str (X ++ (putL n 8 ++ Y)) = S2 at *
      generalize str X = TX at *
      generalize str Y = TY at *
      clear lp1 lp2 e1 e2
      go_enter Try.func10, Try.ntmps10
      go_wp2_with fail
      refine (head_awake _).mono ?_
      rintro e w1 ⟨rfl, hb⟩
      have HN := kp (HN.out.bel hb)
      have HB := kp (bt' HB.out hb HB.out.size)
      clear hb
      have L1 := ld_all (P := Try.prog) w.heap.size 13 26 26 L _ Try.underlying26 rfl info_head HL HN.out
      go_wp2_with (refine wpL_load rfl 26 _ rfl rfl L1 ?_)
      refine (cP.out _).mono ?_
      rintro e w2 ⟨rfl, hb⟩
      have HN := kp (HN.out.bel hb)
      have HB := kp (bt' HB.out hb HB.out.size)
      clear hb L1
      have q := HN.out.atL HCQ.out
      have qf := HN.out.frozen 10
      have HN2 : Kp (Blk (w2.setCell ⟨w.heap.size, 10, none⟩ (.int .u64 (n : Int))) w.heap.size 26 L2.toArray) := kp (by rw [← HSET.out]; exact HN.out.setL 10 _)
      have HB := kp (bsc HB.out (p := ⟨w.heap.size, 10, none⟩) (Nat.le_refl _) (.int .u64 (n : Int)))
      have hlb := HN.out.lt
      go_upto_region 15 with (fail)
      clear q qf hlb
      generalize w2.setCell ⟨w.heap.size, 10, none⟩ (.int .u64 (n : Int)) = V at HN2 HB ⊢
      have hl2 := HL2.out
      have L2_ := ld_all (P := Try.prog) w.heap.size 13 26 26 L2 _ Try.underlying26 rfl info_head hl2 HN2.out
      go_wp2_with (refine wpL_load rfl 26 _ rfl rfl L2_ ?_)
      refine (cP2.out _).mono ?_
      rintro e w3 ⟨rfl, hb⟩
      have HB := kp (bt' HB.out hb HB.out.size)
      clear hb L2_
      go_upto_region 17 with (fail)
      refine wp_region_ext [0, 1, 2, 3, 4, 5, 6, 7, 8, 9, 10, 11, 12, 13, 14, 15, 16, 17, 18, 19, 20, 21, 22, 23, 24, 25, 26, 27, 28, 29, 30, 31] [32] (by kernel_rfl) (by kernel_rfl) ?_
      simp only [List.append_eq, List.cons_append, List.nil_append, List.map_cons, List.map_nil, List.getD_cons_succ, List.getD_cons_zero]
      repeat (go_big_quiet_step (fail))
      refine wpQuiet_nil ?_
      rintro z
      have HB := kp (bt' HB.out (ext_below w3 z) HB.out.size)
      go_wp2
      go_ret
      exact ⟨rfl, HB.out⟩
    · obtain ⟨X, Y, hX, hY, e1, e2⟩ := stamp2 h n
      have hm2 : Hd.may { h with l := n } = true := hm
      have hok2 : Hd.ok { h with l := n } := by
        obtain ⟨o1, o2, o3, o4, o5, o6, o7⟩ := hok
        constructor <;> first | exact hn | assumption
      have cP2 : Kp (∀ w', Calls Try.prog 12 #[.agg (Hd.cells { h with l := n }).toArray] w' fun e w'' => e = .returned (.tuple #[.string (str (X ++ (putL n 8 ++ Y))), .int .i64 0]) ∧ Below w'.heap.size w' w'') := kp (fun w' => by
        have hc := M_Put { h with l := n } hok2 w'
        rw [hm2, show Hd.put { h with l := n } = X ++ (putL n 8 ++ Y) by unfold Hd.put; rw [hm2, if_pos rfl, e2]] at hc
        exact hc)
      rw [e1] at cP
      have HSET : Kp (h.cells.set 11 (.int .u64 (n : Int)) = Hd.cells { h with l := n }) := kp rfl
      have HCQ : Kp (h.cells[11]? = some (.int .u64 (h.l : Int))) := kp rfl
      have HL2 : Kp ((Hd.cells { h with l := n }).length = 13) := kp rfl
      generalize Hd.cells { h with l := n } = L2 at *
      generalize h.cells = L at *
      have lp1 := length_putL h.l 8
      have lp2 := length_putL n 8
      have t1 : (str (X ++ (putL h.l 8 ++ Y))).extract 0 32 = str X := str_take _ _ _ hX
      have t2 : (str (X ++ (putL n 8 ++ Y))).extract 0 32 = str X := str_take _ _ _ hX
      have t3 : (str (X ++ (putL h.l 8 ++ Y))).extract 40 48 = str Y := by rw [← List.append_assoc]; exact str_drop _ _ _ _ (by rw [List.length_append, hX, lp1]) (by simp only [List.length_append, hX, hY, lp1])
      have t4 : (str (X ++ (putL n 8 ++ Y))).extract 40 48 = str Y := by rw [← List.append_assoc]; exact str_drop _ _ _ _ (by rw [List.length_append, hX, lp2]) (by simp only [List.length_append, hX, hY, lp2])
      have z1 : (str (X ++ (putL h.l 8 ++ Y))).size = 48 := by rw [str_size]; simp only [List.length_append, hX, hY, lp1]
      have z2 : (str (X ++ (putL n 8 ++ Y))).size = 48 := by rw [str_size]; simp only [List.length_append, hX, hY, lp2]
      generalize str (X ++ (putL h.l 8 ++ Y)) = S1 at *
      generalize str (X ++ (putL n 8 ++ Y)) = S2 at *
      generalize str X = TX at *
      generalize str Y = TY at *
      clear lp1 lp2 e1 e2
      go_enter Try.func10, Try.ntmps10
      go_wp2_with fail
      refine (head_awake _).mono ?_
      rintro e w1 ⟨rfl, hb⟩
      have HN := kp (HN.out.bel hb)
      have HB := kp (bt' HB.out hb HB.out.size)
      clear hb
      have L1 := ld_all (P := Try.prog) w.heap.size 13 26 26 L _ Try.underlying26 rfl info_head HL HN.out
      go_wp2_with (refine wpL_load rfl 26 _ rfl rfl L1 ?_)
      refine (cP.out _).mono ?_
      rintro e w2 ⟨rfl, hb⟩
      have HN := kp (HN.out.bel hb)
      have HB := kp (bt' HB.out hb HB.out.size)
      clear hb L1
      have q := HN.out.atL HCQ.out
      have qf := HN.out.frozen 11
      have HN2 : Kp (Blk (w2.setCell ⟨w.heap.size, 11, none⟩ (.int .u64 (n : Int))) w.heap.size 26 L2.toArray) := kp (by rw [← HSET.out]; exact HN.out.setL 11 _)
      have HB := kp (bsc HB.out (p := ⟨w.heap.size, 11, none⟩) (Nat.le_refl _) (.int .u64 (n : Int)))
      have hlb := HN.out.lt
      go_upto_region 15 with (fail)
      clear q qf hlb
      generalize w2.setCell ⟨w.heap.size, 11, none⟩ (.int .u64 (n : Int)) = V at HN2 HB ⊢
      have hl2 := HL2.out
      have L2_ := ld_all (P := Try.prog) w.heap.size 13 26 26 L2 _ Try.underlying26 rfl info_head hl2 HN2.out
      go_wp2_with (refine wpL_load rfl 26 _ rfl rfl L2_ ?_)
      refine (cP2.out _).mono ?_
      rintro e w3 ⟨rfl, hb⟩
      have HB := kp (bt' HB.out hb HB.out.size)
      clear hb L2_
      go_upto_region 17 with (fail)
      refine wp_region_ext [0, 1, 2, 3, 4, 5, 6, 7, 8, 9, 10, 11, 12, 13, 14, 15, 16, 17, 18, 19, 20, 21, 22, 23, 24, 25, 26, 27, 28, 29, 30, 31] [32] (by kernel_rfl) (by kernel_rfl) ?_
      simp only [List.append_eq, List.cons_append, List.nil_append, List.map_cons, List.map_nil, List.getD_cons_succ, List.getD_cons_zero]
      repeat (go_big_quiet_step (fail))
      refine wpQuiet_nil ?_
      rintro z
      have HB := kp (bt' HB.out (ext_below w3 z) HB.out.size)
      go_wp2
      go_ret
      exact ⟨rfl, HB.out⟩
    · obtain ⟨X, Y, hX, hY, e1, e2⟩ := stamp3 h n
      have hm2 : Hd.may { h with m := n } = true := hm
      have hok2 : Hd.ok { h with m := n } := by
        obtain ⟨o1, o2, o3, o4, o5, o6, o7⟩ := hok
        constructor <;> first | exact hn | assumption
      have cP2 : Kp (∀ w', Calls Try.prog 12 #[.agg (Hd.cells { h with m := n }).toArray] w' fun e w'' => e = .returned (.tuple #[.string (str (X ++ (putL n 8 ++ Y))), .int .i64 0]) ∧ Below w'.heap.size w' w'') := kp (fun w' => by
        have hc := M_Put { h with m := n } hok2 w'
        rw [hm2, show Hd.put { h with m := n } = X ++ (putL n 8 ++ Y) by unfold Hd.put; rw [hm2, if_pos rfl, e2]] at hc
        exact hc)
      rw [e1] at cP
      have HSET : Kp (h.cells.set 12 (.int .u64 (n : Int)) = Hd.cells { h with m := n }) := kp rfl
      have HCQ : Kp (h.cells[12]? = some (.int .u64 (h.m : Int))) := kp rfl
      have HL2 : Kp ((Hd.cells { h with m := n }).length = 13) := kp rfl
      generalize Hd.cells { h with m := n } = L2 at *
      generalize h.cells = L at *
      have lp1 := length_putL h.m 8
      have lp2 := length_putL n 8
      have t1 : (str (X ++ (putL h.m 8 ++ Y))).extract 0 40 = str X := str_take _ _ _ hX
      have t2 : (str (X ++ (putL n 8 ++ Y))).extract 0 40 = str X := str_take _ _ _ hX
      have t3 : (str (X ++ (putL h.m 8 ++ Y))).extract 48 48 = str Y := by rw [← List.append_assoc]; exact str_drop _ _ _ _ (by rw [List.length_append, hX, lp1]) (by simp only [List.length_append, hX, hY, lp1])
      have t4 : (str (X ++ (putL n 8 ++ Y))).extract 48 48 = str Y := by rw [← List.append_assoc]; exact str_drop _ _ _ _ (by rw [List.length_append, hX, lp2]) (by simp only [List.length_append, hX, hY, lp2])
      have z1 : (str (X ++ (putL h.m 8 ++ Y))).size = 48 := by rw [str_size]; simp only [List.length_append, hX, hY, lp1]
      have z2 : (str (X ++ (putL n 8 ++ Y))).size = 48 := by rw [str_size]; simp only [List.length_append, hX, hY, lp2]
      generalize str (X ++ (putL h.m 8 ++ Y)) = S1 at *
      generalize str (X ++ (putL n 8 ++ Y)) = S2 at *
      generalize str X = TX at *
      generalize str Y = TY at *
      clear lp1 lp2 e1 e2
      go_enter Try.func10, Try.ntmps10
      go_wp2_with fail
      refine (head_awake _).mono ?_
      rintro e w1 ⟨rfl, hb⟩
      have HN := kp (HN.out.bel hb)
      have HB := kp (bt' HB.out hb HB.out.size)
      clear hb
      have L1 := ld_all (P := Try.prog) w.heap.size 13 26 26 L _ Try.underlying26 rfl info_head HL HN.out
      go_wp2_with (refine wpL_load rfl 26 _ rfl rfl L1 ?_)
      refine (cP.out _).mono ?_
      rintro e w2 ⟨rfl, hb⟩
      have HN := kp (HN.out.bel hb)
      have HB := kp (bt' HB.out hb HB.out.size)
      clear hb L1
      have q := HN.out.atL HCQ.out
      have qf := HN.out.frozen 12
      have HN2 : Kp (Blk (w2.setCell ⟨w.heap.size, 12, none⟩ (.int .u64 (n : Int))) w.heap.size 26 L2.toArray) := kp (by rw [← HSET.out]; exact HN.out.setL 12 _)
      have HB := kp (bsc HB.out (p := ⟨w.heap.size, 12, none⟩) (Nat.le_refl _) (.int .u64 (n : Int)))
      have hlb := HN.out.lt
      go_upto_region 15 with (fail)
      clear q qf hlb
      generalize w2.setCell ⟨w.heap.size, 12, none⟩ (.int .u64 (n : Int)) = V at HN2 HB ⊢
      have hl2 := HL2.out
      have L2_ := ld_all (P := Try.prog) w.heap.size 13 26 26 L2 _ Try.underlying26 rfl info_head hl2 HN2.out
      go_wp2_with (refine wpL_load rfl 26 _ rfl rfl L2_ ?_)
      refine (cP2.out _).mono ?_
      rintro e w3 ⟨rfl, hb⟩
      have HB := kp (bt' HB.out hb HB.out.size)
      clear hb L2_
      go_upto_region 17 with (fail)
      refine wp_region_ext [0, 1, 2, 3, 4, 5, 6, 7, 8, 9, 10, 11, 12, 13, 14, 15, 16, 17, 18, 19, 20, 21, 22, 23, 24, 25, 26, 27, 28, 29, 30, 31] [32] (by kernel_rfl) (by kernel_rfl) ?_
      simp only [List.append_eq, List.cons_append, List.nil_append, List.map_cons, List.map_nil, List.getD_cons_succ, List.getD_cons_zero]
      repeat (go_big_quiet_step (fail))
      refine wpQuiet_nil ?_
      rintro z
      have HB := kp (bt' HB.out (ext_below w3 z) HB.out.size)
      go_wp2
      go_ret
      exact ⟨rfl, HB.out⟩
end Go.Proofs.Ytoifkfhbinfplaa
