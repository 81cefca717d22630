/- HeadReads: the walk. Printed by genkhu.py. -/
import Derived.Test.YtoifkfhbinfplaaHd23
import Derived.Test.YtoifkfhbinfplaaArgU
import Derived.Test.YtoifkfhbinfplaaHd24
namespace Go.Proofs.Ytoifkfhbinfplaa
open Go Go.RowKit
set_option linter.unusedVariables false
set_option linter.unusedSimpArgs false
attribute [local go_sem] bmax2 bmin2 bmax bmin cell_ext frozen_ext
set_option maxHeartbeats 8000000 in
set_option maxRecDepth 100000 in
theorem HeadReads_walk (w : World) (s : ByteArray) (h : Hd) (ad : Option Addr) (c : Nat) (l : List Fd) (b1 : s.size ≤ maxLen) (hok : h.ok) (hb : l.length ≤ maxLen ∧ l.length ≤ c ∧ c ≤ maxLen ∧ (∀ f ∈ l, wfF f) ∧ FS w ad l) (hu1 : l.length ≤ 1048576) (hu2 : ∀ f ∈ l, f.d.size ≤ 1048576) :
    Calls Try.prog 4 #[.string s, .agg h.cells.toArray, .slice ad l.length c] w fun e w' => e = .returned (.bool true) ∧ Below w.heap.size w w' := by
  obtain ⟨hl, _, _, _, hs⟩ := hb
  unfold maxLen at hl b1
  have HB := kp (ba (Below.refl w.heap.size w) (.cells h.cells.toArray 26))
  have H4 := kp (Blk.new w 26 h.cells.toArray)
  have F0 := kp (hs.bel HB.out)
  clear hs
  have cG : Kp (∀ w', FS w' ad l → Calls Try.prog 18 #[.slice ad l.length c] w' fun e w'' => e = .returned (.bool (decide (2048 < wsumF l))) ∧ w' = w'') := kp (fun w' hf => L_large ad c l w' (by unfold maxLen; omega) (fun f hf => Nat.le_trans (hu2 f hf) (by unfold maxLen; omega)) hf)
  by_cases hs : 2048 < s.size
  · have g : decide ((2048 : Int) < (s.size : Int)) = true := by simp; omega
    generalize h.cells = L at *
    go_enter Try.func4, Try.ntmps4
    go_wp2_with fail
    refine (head_awake _).mono ?_
    rintro e w1 ⟨rfl, hb⟩
    have HB := kp (bt' HB.out hb HB.out.size)
    clear hb
    go_wp2
    go_ret
    exact ⟨rfl, HB.out⟩
  have g : decide ((2048 : Int) < (s.size : Int)) = false := by simp; omega
  by_cases hlg : 2048 < wsumF l
  · rw [decide_eq_true hlg] at cG
    generalize h.cells = L at *
    go_enter Try.func4, Try.ntmps4
    go_wp2_with fail
    refine (head_awake _).mono ?_
    rintro e w1 ⟨rfl, hb⟩
    have HB := kp (bt' HB.out hb HB.out.size)
    have F0 := kp (F0.out.bel hb)
    clear hb
    go_wp2_with fail
    refine (cG.out _ F0.out).mono ?_
    rintro e w2 ⟨rfl, rfl⟩
    go_wp2
    go_ret
    exact ⟨rfl, HB.out⟩
  rw [decide_eq_false hlg] at cG
  have hbl := large_false l hu1 hu2 hlg
  clear hlg
  have cR : Kp (∀ w', Calls Try.prog 19 #[.string s] w' fun e w'' => ∃ ad c, e = .returned (.tuple #[.agg (readL s).1.cells.toArray, .slice ad (readL s).2.1.length c, .int .i64 (readL s).2.2]) ∧ FS w'' ad (readL s).2.1 ∧ Below w'.heap.size w' w'') := kp (fun w' => (M_Read s (by omega) w').mono fun e w'' hr => hr.get)
  have cQ : Kp (∀ w', Calls Try.prog 20 #[.string s] w' fun e w'' => ∃ ad c, e = .returned (.tuple #[.agg (readL s).1.cells.toArray, .slice ad (readL s).2.1.length c, .int .i64 (readL s).2.2]) ∧ FS w'' ad (readL s).2.1 ∧ Below w'.heap.size w' w'') := kp (fun w' => (R_Read s (by omega) w').mono fun e w'' hr => hr.get)
  have hml : (readL s).2.1.length ≤ 16 := by
    rcases readL_cases s with ⟨h', m, e1, _, _, _, e2, _⟩ | ⟨er, e1, _⟩
    · rw [e1]; exact e2
    · rw [e1]; exact Nat.zero_le _
  have cW : Kp (∀ w', FS w' ad l → Calls Try.prog 21 #[.agg h.cells.toArray, .slice ad l.length c] w' fun e w'' => e = .returned (.tuple #[.string (str (writeL h l).1), .int .i64 (writeL h l).2]) ∧ Below w'.heap.size w' w'') := kp (fun w' hf => M_Write h hok ad c l w' (by omega) hf)
  have cV : Kp (∀ w', FS w' ad l → Calls Try.prog 22 #[.agg h.cells.toArray, .slice ad l.length c] w' fun e w'' => e = .returned (.tuple #[.string (str (writeL h l).1), .int .i64 (writeL h l).2]) ∧ Below w'.heap.size w' w'') := kp (fun w' hf => R_Write h hok ad c l w' (by omega) hf)
  generalize str (writeL h l).1 = TW at *
  generalize (writeL h l).2 = eW at *
  generalize (readL s).1 = hx at *
  generalize (readL s).2.1 = ml at *
  generalize (readL s).2.2 = er at *
  have cS : Kp (∀ ad c ad2 c2 w', FS w' ad ml → FS w' ad2 ml → Calls Try.prog 23 #[.slice ad ml.length c, .slice ad2 ml.length c2] w' fun e w'' => e = .returned (.bool true) ∧ Below w'.heap.size w' w'') := kp (fun ad c ad2 c2 w' hf hg => by
    have h := R_Same ad c ml ad2 c2 ml w' (by unfold maxLen; omega) (by unfold maxLen; omega) hf hg
    rw [sameF_self] at h
    exact h)
  have HL := h.length
  generalize h.cells = L at *
  have EQ : Kp (∀ (o : Oper) (a : Act) (x y : Operand) (t' : TypeId) (w' : World), o.op = .binOp .eql 26 x y t' → a.eval x = .agg hx.cells.toArray → a.eval y = .agg hx.cells.toArray → (execOp a.eval o).run Try.prog w' = .ok (.value (.bool true)) w') := kp (fun o a x y t' w' ho hx hy => by rw [exec_eqh ho hx hy w', Hd.eqb_self] <;> rfl)
  have hXl := hx.length
  have HXO := kp (cells_one hx)
  generalize hx.cells = X at *
  have HZL : Kp (zeroH.cells.length = 13) := kp rfl
  have HZO := kp zero_one
  have HBZ := kp build_zero
  obtain ⟨Z, hZ⟩ : ∃ Z, zeroH.cells = Z := ⟨_, rfl⟩
  have HZZ := kp hZ
  rw [hZ] at HZL HZO HBZ
  clear hZ
  have hzl := HZL.out
  go_enter Try.func4, Try.ntmps4
  go_wp2_with fail
  refine (head_awake _).mono ?_
  rintro e w_1 ⟨rfl, hb_c⟩
  have HB := kp (bt' HB.out hb_c HB.out.size)
  have H4 := kp (H4.out.bel hb_c)
  have F0 := kp (F0.out.bel hb_c)
  clear hb_c
  go_wp2_with fail
  refine (cG.out _ F0.out).mono ?_
  rintro e w_2 ⟨rfl, rfl⟩
  go_wp2_with fail
  refine (cR.out _).mono ?_
  rintro e w_3 ⟨ad8, c8, rfl, hf8, hb_c⟩
  have F8 := kp hf8
  clear hf8
  have HB := kp (bt' HB.out hb_c HB.out.size)
  have H4 := kp (H4.out.bel hb_c)
  have F0 := kp (F0.out.bel hb_c)
  clear hb_c
  obtain ⟨Y7, hb_y, hk_y, SCY⟩ := new_head (P := Try.prog) (T := 26) (W := w_3) hzl hXl HXO.out
  have HLT7 := kp hk_y.lt
  go_upto_region 6 with (first | (refine wpL_make 7 rfl rfl (.pointer (some ⟨w_3.heap.size, 0, none⟩)) (w' := w_3.alloc (.cells Z.toArray 26)) (by rw [← HZZ.out]; kernel_rfl) ?_))
  have HB := kp (bt' HB.out hb_y HB.out.size)
  have H4 := kp (H4.out.bel hb_y)
  have F0 := kp (F0.out.bel hb_y)
  have F8 := kp (F8.out.bel hb_y)
  have H7 := kp hk_y
  clear SCY hb_y hk_y
  go_wp2_with fail
  refine (cQ.out _).mono ?_
  rintro e w_4 ⟨ad11, c11, rfl, hf11, hb_c⟩
  have F11 := kp hf11
  clear hf11
  have HB := kp (bt' HB.out hb_c HB.out.size)
  have H4 := kp (H4.out.bel hb_c)
  have H7 := kp (H7.out.bel hb_c)
  have F0 := kp (F0.out.bel hb_c)
  have F8 := kp (F8.out.bel hb_c)
  clear hb_c
  obtain ⟨Y10, hb_y, hk_y, SCY⟩ := new_head (P := Try.prog) (T := 26) (W := w_4) hzl hXl HXO.out
  have HLT10 := kp hk_y.lt
  go_upto_region 7 with (first | (refine wpL_make 10 rfl rfl (.pointer (some ⟨w_4.heap.size, 0, none⟩)) (w' := w_4.alloc (.cells Z.toArray 26)) (by rw [← HZZ.out]; kernel_rfl) ?_))
  have HB := kp (bt' HB.out hb_y HB.out.size)
  have H4 := kp (H4.out.bel hb_y)
  have H7 := kp (H7.out.bel hb_y)
  have F0 := kp (F0.out.bel hb_y)
  have F8 := kp (F8.out.bel hb_y)
  have F11 := kp (F11.out.bel hb_y)
  have H10 := kp hk_y
  clear SCY hb_y hk_y
  have LD := ld_all (P := Try.prog) w.heap.size 13 26 26 L _ Try.underlying26 rfl info_head HL H4.out
  go_wp2_with (refine wpL_load rfl 26 _ rfl rfl LD ?_)
  clear LD
  refine (cW.out _ F0.out).mono ?_
  rintro e w_5 ⟨rfl, hb_c⟩
  have HB := kp (bt' HB.out hb_c HB.out.size)
  have H4 := kp (H4.out.bel hb_c)
  have H7 := kp (H7.out.bel hb_c)
  have H10 := kp (H10.out.bel hb_c)
  have F0 := kp (F0.out.bel hb_c)
  have F8 := kp (F8.out.bel hb_c)
  have F11 := kp (F11.out.bel hb_c)
  clear hb_c
  have LD := ld_all (P := Try.prog) w.heap.size 13 26 26 L _ Try.underlying26 rfl info_head HL H4.out
  go_wp2_with (refine wpL_load rfl 26 _ rfl rfl LD ?_)
  clear LD
  refine (cV.out _ F0.out).mono ?_
  rintro e w_6 ⟨rfl, hb_c⟩
  have HB := kp (bt' HB.out hb_c HB.out.size)
  have H4 := kp (H4.out.bel hb_c)
  have H7 := kp (H7.out.bel hb_c)
  have H10 := kp (H10.out.bel hb_c)
  have F0 := kp (F0.out.bel hb_c)
  have F8 := kp (F8.out.bel hb_c)
  have F11 := kp (F11.out.bel hb_c)
  clear hb_c
  go_upto_region 9 with (fail)
  have CSX := kp (fun x => cS.out ad8 c8 ad11 c11 (w_6.ext x) (F8.out.bel (ext_below w_6 x)) (F11.out.bel (ext_below w_6 x)))
  have L7 := kp (fun x => ld_all (P := Try.prog) w_3.heap.size 13 26 26 X _ Try.underlying26 rfl info_head hXl (H7.out.bel (ext_below w_6 x)))
  have L10 := kp (fun x => ld_all (P := Try.prog) w_4.heap.size 13 26 26 X _ Try.underlying26 rfl info_head hXl (H10.out.bel (ext_below w_6 x)))
  refine wp_region_extP 23 ?_
  simp only [List.append_eq, List.cons_append, List.nil_append, List.take_succ_cons, List.take_zero, List.drop_succ_cons, List.drop_zero]
  repeat (first
    | (go_big_quiet_want; refine quiet_load _ rfl 26 _ rfl rfl (fun w' hw => by obtain ⟨x, rfl⟩ := hw; exact L7.out x) ?_; go_simp; go_big_quiet_on)
    | (go_big_quiet_want; refine quiet_load _ rfl 26 _ rfl rfl (fun w' hw => by obtain ⟨x, rfl⟩ := hw; exact L10.out x) ?_; go_simp; go_big_quiet_on)
    | (go_big_quiet_want; refine quiet_val _ rfl (.bool true) (fun w' _ => EQ.out _ _ _ _ _ w' rfl rfl rfl) ?_; go_simp; go_big_quiet_on)
    | go_big_quiet_step ((go_at_call 23; with_reducible exact Calls.ext_of (CSX.out _))))
  refine wpQuiet_nil ?_
  rintro z
  have HB := kp (bt' HB.out (ext_below w_6 z) HB.out.size)
  go_wp2
  go_ret
  exact ⟨rfl, HB.out⟩
end Go.Proofs.Ytoifkfhbinfplaa
