/- HeadPuts: the walk. Printed by genkhp.py. -/
import Derived.Test.YtoifkfhbinfplaaHd23
import Derived.Test.YtoifkfhbinfplaaArgH
namespace Go.Proofs.Ytoifkfhbinfplaa
open Go Go.RowKit
set_option linter.unusedVariables false
set_option linter.unusedSimpArgs false
attribute [local go_sem] bmax2 bmin2 bmax bmin cell_ext frozen_ext
set_option maxHeartbeats 4000000 in
set_option maxRecDepth 100000 in
theorem HeadPuts_walk (w : World) (h : Hd) (s : ByteArray) (hok : h.ok) (b1 : s.size ≤ maxLen) :
    Calls Try.prog 3 #[.agg h.cells.toArray, .string s] w fun e w' => e = .returned (.bool true) ∧ Below w.heap.size w w' := by
  unfold maxLen at b1
  have HB := kp (ba (Below.refl w.heap.size w) (.cells h.cells.toArray 26))
  have H2 := kp (Blk.new w 26 h.cells.toArray)
  by_cases hs : 2048 < s.size
  · have g : decide ((2048 : Int) < (s.size : Int)) = true := by simp; omega
    generalize h.cells = L at *
    go_enter Try.func3, Try.ntmps3
    go_wp2_with fail
    refine (head_awake _).mono ?_
    rintro e w1 ⟨rfl, hb⟩
    have HB := kp (bt' HB.out hb HB.out.size)
    clear hb
    go_wp2
    go_ret
    exact ⟨rfl, HB.out⟩
  have g : decide ((2048 : Int) < (s.size : Int)) = false := by simp; omega
  have cP : Kp (∀ w', Calls Try.prog 12 #[.agg h.cells.toArray] w' fun e w'' => e = .returned (.tuple #[.string (str h.put), .int .i64 (eB h.may)]) ∧ Below w'.heap.size w' w'') := kp (fun w' => M_Put h hok w')
  have cQ : Kp (∀ w', Calls Try.prog 13 #[.agg h.cells.toArray] w' fun e w'' => e = .returned (.tuple #[.string (str h.put), .int .i64 (eB h.may)]) ∧ Below w'.heap.size w' w'') := kp (fun w' => R_Put h hok w')
  have cM : Kp (∀ w', Calls Try.prog 16 #[.agg h.cells.toArray] w' fun e w'' => e = .returned (.bool h.may) ∧ Below w'.heap.size w' w'') := kp (fun w' => M_May h w')
  have cN : Kp (∀ w', Calls Try.prog 17 #[.agg h.cells.toArray] w' fun e w'' => e = .returned (.bool h.may) ∧ Below w'.heap.size w' w'') := kp (fun w' => R_May h w')
  have cT := kp (fun w' => M_Take_any s (by omega) w')
  have cU := kp (fun w' => R_Take_any s (by omega) w')
  generalize (takeH s).1 = hx at *
  generalize (takeH s).2 = er at *
  generalize h.may = mb at *
  generalize eB mb = eb at *
  generalize str h.put = PS at *
  have HL := h.length
  generalize h.cells = L at *
  have EQ : Kp (∀ (o : Oper) (a : Act) (x y : Operand) (t' : TypeId) (w' : World), o.op = .binOp .eql 26 x y t' → a.eval x = .agg hx.cells.toArray → a.eval y = .agg hx.cells.toArray → (execOp a.eval o).run Try.prog w' = .ok (.value (.bool true)) w') := kp (fun o a x y t' w' ho hx hy => by rw [exec_eqh ho hx hy w', Hd.eqb_self] <;> rfl)
  have hXl := hx.length
  have HXO := kp (cells_one hx)
  generalize hx.cells = X at *
  have HZL : Kp (zeroH.cells.length = 13) := kp rfl
  have HZO := kp zero_one
  have HBZ := kp build_zero
  obtain ⟨Z, hZ⟩ : ∃ Z, zeroH.cells = Z := ⟨_, rfl⟩
  have HZZ := kp hZ
  rw [hZ] at HZL HZO HBZ
  clear hZ
  have hzl := HZL.out
  go_enter Try.func3, Try.ntmps3
  go_wp2_with fail
  refine (head_awake _).mono ?_
  rintro e w_1 ⟨rfl, hb_c⟩
  have HB := kp (bt' HB.out hb_c HB.out.size)
  have H2 := kp (H2.out.bel hb_c)
  clear hb_c
  have LD := ld_all (P := Try.prog) w.heap.size 13 26 26 L _ Try.underlying26 rfl info_head HL H2.out
  go_wp2_with (refine wpL_load rfl 26 _ rfl rfl LD ?_)
  clear LD
  refine (cP.out _).mono ?_
  rintro e w_2 ⟨rfl, hb_c⟩
  have HB := kp (bt' HB.out hb_c HB.out.size)
  have H2 := kp (H2.out.bel hb_c)
  clear hb_c
  have LD := ld_all (P := Try.prog) w.heap.size 13 26 26 L _ Try.underlying26 rfl info_head HL H2.out
  go_wp2_with (refine wpL_load rfl 26 _ rfl rfl LD ?_)
  clear LD
  refine (cQ.out _).mono ?_
  rintro e w_3 ⟨rfl, hb_c⟩
  have HB := kp (bt' HB.out hb_c HB.out.size)
  have H2 := kp (H2.out.bel hb_c)
  clear hb_c
  go_wp2_with fail
  refine (cT.out _).mono ?_
  rintro e w_4 ⟨rfl, hb_c⟩
  have HB := kp (bt' HB.out hb_c HB.out.size)
  have H2 := kp (H2.out.bel hb_c)
  clear hb_c
  obtain ⟨Y9, hb_y, hk_y, SCY⟩ := new_head (P := Try.prog) (T := 26) (W := w_4) hzl hXl HXO.out
  have HLT9 := kp hk_y.lt
  go_upto_region 8 with (first | (refine wpL_make 9 rfl rfl (.pointer (some ⟨w_4.heap.size, 0, none⟩)) (w' := w_4.alloc (.cells Z.toArray 26)) (by rw [← HZZ.out]; kernel_rfl) ?_))
  have HB := kp (bt' HB.out hb_y HB.out.size)
  have H2 := kp (H2.out.bel hb_y)
  have H9 := kp hk_y
  clear SCY hb_y hk_y
  go_wp2_with fail
  refine (cU.out _).mono ?_
  rintro e w_5 ⟨rfl, hb_c⟩
  have HB := kp (bt' HB.out hb_c HB.out.size)
  have H2 := kp (H2.out.bel hb_c)
  have H9 := kp (H9.out.bel hb_c)
  clear hb_c
  obtain ⟨Y11, hb_y, hk_y, SCY⟩ := new_head (P := Try.prog) (T := 26) (W := w_5) hzl hXl HXO.out
  have HLT11 := kp hk_y.lt
  go_upto_region 9 with (first | (refine wpL_make 11 rfl rfl (.pointer (some ⟨w_5.heap.size, 0, none⟩)) (w' := w_5.alloc (.cells Z.toArray 26)) (by rw [← HZZ.out]; kernel_rfl) ?_))
  have HB := kp (bt' HB.out hb_y HB.out.size)
  have H2 := kp (H2.out.bel hb_y)
  have H9 := kp (H9.out.bel hb_y)
  have H11 := kp hk_y
  clear SCY hb_y hk_y
  have L2 := kp (fun x => ld_all (P := Try.prog) w.heap.size 13 26 26 L _ Try.underlying26 rfl info_head HL (H2.out.bel (ext_below Y11 x)))
  have L9 := kp (fun x => ld_all (P := Try.prog) w_4.heap.size 13 26 26 X _ Try.underlying26 rfl info_head hXl (H9.out.bel (ext_below Y11 x)))
  have L11 := kp (fun x => ld_all (P := Try.prog) w_5.heap.size 13 26 26 X _ Try.underlying26 rfl info_head hXl (H11.out.bel (ext_below Y11 x)))
  refine wp_region_ext [0, 1, 2, 3, 4, 5, 6, 7, 8, 9, 10, 11, 12, 13, 14, 15, 16, 17, 18, 19, 20, 21, 22, 23, 24] [25] (by kernel_rfl) (by kernel_rfl) ?_
  simp only [List.append_eq, List.cons_append, List.nil_append, List.map_cons, List.map_nil, List.getD_cons_succ, List.getD_cons_zero]
  repeat (first
    | (go_big_quiet_want; refine quiet_load _ rfl 26 _ rfl rfl (fun w' hw => by obtain ⟨x, rfl⟩ := hw; exact L2.out x) ?_; go_simp; go_big_quiet_on)
    | (go_big_quiet_want; refine quiet_load _ rfl 26 _ rfl rfl (fun w' hw => by obtain ⟨x, rfl⟩ := hw; exact L9.out x) ?_; go_simp; go_big_quiet_on)
    | (go_big_quiet_want; refine quiet_load _ rfl 26 _ rfl rfl (fun w' hw => by obtain ⟨x, rfl⟩ := hw; exact L11.out x) ?_; go_simp; go_big_quiet_on)
    | (go_big_quiet_want; refine quiet_val _ rfl (.bool true) (fun w' _ => EQ.out _ _ _ _ _ w' rfl rfl rfl) ?_; go_simp; go_big_quiet_on)
    | go_big_quiet_step (first
      | (go_at_call 16; with_reducible exact Calls.ext_of (cM.out _))
      | (go_at_call 17; with_reducible exact Calls.ext_of (cN.out _))))
  refine wpQuiet_nil ?_
  rintro z
  have HB := kp (bt' HB.out (ext_below Y11 z) HB.out.size)
  go_wp2
  go_ret
  exact ⟨rfl, HB.out⟩
end Go.Proofs.Ytoifkfhbinfplaa
