/- HeadBack: the walk. Printed by genkhp.py. -/
import Derived.Test.YtoifkfhbinfplaaHd23
import Derived.Test.YtoifkfhbinfplaaArgH
namespace Go.Proofs.Ytoifkfhbinfplaa
open Go Go.RowKit
set_option linter.unusedVariables false
set_option linter.unusedSimpArgs false
attribute [local go_sem] bmax2 bmin2 bmax bmin cell_ext frozen_ext
theorem takeH_cases (s : ByteArray) : (s.size = 48 ∧ (hdOf s).may = true ∧ takeH s = (hdOf s, 0)) ∨ (∃ er, er ≠ 0 ∧ takeH s = (zeroH, er)) := by
  unfold takeH
  split
  · rename_i h
    split
    · rename_i h2; exact Or.inl ⟨h, h2, rfl⟩
    · exact Or.inr ⟨2, by decide, rfl⟩
  · exact Or.inr ⟨5, by decide, rfl⟩
theorem takeH_bytes (h : Hd) (hm : h.may = true) (hok : h.ok) : takeH (str h.bytes) = (h, 0) := by
  unfold takeH
  rw [if_pos (by rw [str_size, h.bytes_len]), hdOf_bytes h hm hok, if_pos hm]
theorem put_hdOf (s : ByteArray) (hs : s.size = 48) (hm : (hdOf s).may = true) : str (hdOf s).put = s := by
  unfold Hd.put
  rw [if_pos hm, bytes_hdOf s hs, str_bs]
set_option maxHeartbeats 8000000 in
set_option maxRecDepth 100000 in
theorem HeadBack_walk (w : World) (h : Hd) (s : ByteArray) (hok : h.ok) (b1 : s.size ≤ maxLen) :
    Calls Try.prog 5 #[.agg h.cells.toArray, .string s] w fun e w' => e = .returned (.bool true) ∧ Below w.heap.size w w' := by
  unfold maxLen at b1
  have HB := kp (ba (Below.refl w.heap.size w) (.cells h.cells.toArray 26))
  have H2 := kp (Blk.new w 26 h.cells.toArray)
  by_cases hs : 2048 < s.size
  · have g : decide ((2048 : Int) < (s.size : Int)) = true := by simp; omega
    generalize h.cells = L at *
    go_enter Try.func5, Try.ntmps5
    go_wp2_with fail
    refine (head_awake _).mono ?_
    rintro e w1 ⟨rfl, hb⟩
    have HB := kp (bt' HB.out hb HB.out.size)
    clear hb
    go_wp2
    go_ret
    exact ⟨rfl, HB.out⟩
  have g : decide ((2048 : Int) < (s.size : Int)) = false := by simp; omega
  have gE : (str []).toList = [] := by rw [toList_bs]; rfl
  have HZL : Kp (zeroH.cells.length = 13) := kp rfl
  have HZO := kp zero_one
  have HBZ := kp build_zero
  obtain ⟨Z, hZ⟩ : ∃ Z, zeroH.cells = Z := ⟨_, rfl⟩
  have HZZ := kp hZ
  rw [hZ] at HZL HZO HBZ
  clear hZ
  have hzl := HZL.out
  have HL := h.length
  have HLO := kp (cells_one h)
  have hLl := HL
  have cS : Kp (∀ w', Calls Try.prog 14 #[.string s] w' fun e w'' => e = .returned (.tuple #[.agg (takeH s).1.cells.toArray, .int .i64 (takeH s).2]) ∧ Below w'.heap.size w' w'') := kp (fun w' => M_Take_any s (by omega) w')
  have HTC := kp (takeH_cases s)
  have cM : Kp (∀ w', Calls Try.prog 16 #[.agg h.cells.toArray] w' fun e w'' => e = .returned (.bool h.may) ∧ Below w'.heap.size w' w'') := kp (fun w' => M_May h w')
  have EQ : Kp (∀ (o : Oper) (a : Act) (x y : Operand) (t' : TypeId) (w' : World), o.op = .binOp .neq 26 x y t' → a.eval x = .agg h.cells.toArray → a.eval y = .agg h.cells.toArray → (execOp a.eval o).run Try.prog w' = .ok (.value (.bool false)) w') := kp (fun o a x y t' w' ho hx hy => by rw [exec_neh ho hx hy w', Hd.eqb_self] <;> rfl)
  cases hm : h.may with
  | true =>
    have cP : Kp (∀ w', Calls Try.prog 12 #[.agg h.cells.toArray] w' fun e w'' => e = .returned (.tuple #[.string (str h.bytes), .int .i64 0]) ∧ Below w'.heap.size w' w'') := kp (fun w' => Put_good h hm hok w')
    have cT : Kp (∀ w', Calls Try.prog 14 #[.string (str h.bytes)] w' fun e w'' => e = .returned (.tuple #[.agg h.cells.toArray, .int .i64 0]) ∧ Below w'.heap.size w' w'') := kp (fun w' => by
      have hc := M_Take_any (str h.bytes) (by rw [str_size, h.bytes_len]; decide) w'
      rw [takeH_bytes h hm hok] at hc
      exact hc)
    have zT : (str h.bytes).size = 48 := by rw [str_size, h.bytes_len]
    rw [hm] at cM
    generalize str h.bytes = T at *
    generalize h.cells = L at *
    go_enter Try.func5, Try.ntmps5
    go_wp2_with fail
    refine (head_awake _).mono ?_
    rintro e w_1 ⟨rfl, hb_c⟩
    have HB := kp (bt' HB.out hb_c HB.out.size)
    have H2 := kp (H2.out.bel hb_c)
    clear hb_c
    have LD := ld_all (P := Try.prog) w.heap.size 13 26 26 L _ Try.underlying26 rfl info_head HL H2.out
    go_wp2_with (refine wpL_load rfl 26 _ rfl rfl LD ?_)
    clear LD
    refine (cP.out _).mono ?_
    rintro e w_2 ⟨rfl, hb_c⟩
    have HB := kp (bt' HB.out hb_c HB.out.size)
    have H2 := kp (H2.out.bel hb_c)
    clear hb_c
    go_wp2_with fail
    refine (cT.out _).mono ?_
    rintro e w_3 ⟨rfl, hb_c⟩
    have HB := kp (bt' HB.out hb_c HB.out.size)
    have H2 := kp (H2.out.bel hb_c)
    clear hb_c
    obtain ⟨Y7, hb_y, hk_y, SCY⟩ := new_head (P := Try.prog) (T := 26) (W := w_3) hzl hLl HLO.out
    have HLT7 := kp hk_y.lt
    go_upto_region 8 with (first | (refine wpL_make 7 rfl rfl (.pointer (some ⟨w_3.heap.size, 0, none⟩)) (w' := w_3.alloc (.cells Z.toArray 26)) (by rw [← HZZ.out]; kernel_rfl) ?_))
    have HB := kp (bt' HB.out hb_y HB.out.size)
    have H2 := kp (H2.out.bel hb_y)
    have H7 := kp hk_y
    clear SCY hb_y hk_y
    have L2 := kp (fun x => ld_all (P := Try.prog) w.heap.size 13 26 26 L _ Try.underlying26 rfl info_head HL (H2.out.bel (ext_below Y7 x)))
    have L7 := kp (fun x => ld_all (P := Try.prog) w_3.heap.size 13 26 26 L _ Try.underlying26 rfl info_head HL (H7.out.bel (ext_below Y7 x)))
    refine wp_region_extP 16 ?_
    simp only [List.append_eq, List.cons_append, List.nil_append, List.take_succ_cons, List.take_zero, List.drop_succ_cons, List.drop_zero]
    repeat (first
      | (go_big_quiet_want; refine quiet_load _ rfl 26 _ rfl rfl (fun w' hw => by obtain ⟨x, rfl⟩ := hw; exact L2.out x) ?_; go_simp; go_big_quiet_on)
      | (go_big_quiet_want; refine quiet_load _ rfl 26 _ rfl rfl (fun w' hw => by obtain ⟨x, rfl⟩ := hw; exact L7.out x) ?_; go_simp; go_big_quiet_on)
      | (go_big_quiet_want; refine quiet_val _ rfl (.bool false) (fun w' _ => EQ.out _ _ _ _ _ w' rfl rfl rfl) ?_; go_simp; go_big_quiet_on)
      | go_big_quiet_step ((go_at_call 16; with_reducible exact Calls.ext_of (cM.out _))))
    refine wpQuiet_nil ?_
    rintro z
    have HB := kp (bt' HB.out (ext_below Y7 z) HB.out.size)
    rcases HTC.out with ⟨h1, h2, h3⟩ | ⟨er, h1, h3⟩
    · rw [h3] at cS
      have cX : Kp (∀ w', Calls Try.prog 12 #[.agg (hdOf s).cells.toArray] w' fun e w'' => e = .returned (.tuple #[.string s, .int .i64 0]) ∧ Below w'.heap.size w' w'') := kp (fun w' => by
        have hc := M_Put (hdOf s) (hdOf_ok s) w'
        rw [h2, put_hdOf s h1 h2] at hc
        exact hc)
      have hXl := (hdOf s).length
      have HXO := kp (cells_one (hdOf s))
      simp only at cS
      generalize (hdOf s).cells = X at *
      clear h1 h2 h3
      go_wp2_with fail
      refine (cS.out _).mono ?_
      rintro e w_11 ⟨rfl, hb_c⟩
      have HB := kp (bt' HB.out hb_c HB.out.size)
      clear hb_c
      obtain ⟨Y9, hb_y, hk_y, SCY⟩ := new_head (P := Try.prog) (T := 26) (W := w_11) hzl hXl HXO.out
      have HLT9 := kp hk_y.lt
      go_upto_region 13 with (first | (refine wpL_make 9 rfl rfl (.pointer (some ⟨w_11.heap.size, 0, none⟩)) (w' := w_11.alloc (.cells Z.toArray 26)) (by rw [← HZZ.out]; kernel_rfl) ?_))
      have HB := kp (bt' HB.out hb_y HB.out.size)
      have H9 := kp hk_y
      clear SCY hb_y hk_y
      have LD := ld_all (P := Try.prog) w_11.heap.size 13 26 26 X _ Try.underlying26 rfl info_head hXl H9.out
      go_wp2_with (refine wpL_load rfl 26 _ rfl rfl LD ?_)
      clear LD
      refine (cX.out _).mono ?_
      rintro e w_12 ⟨rfl, hb_c⟩
      have HB := kp (bt' HB.out hb_c HB.out.size)
      clear hb_c
      go_wp2
      go_ret
      exact ⟨rfl, HB.out⟩
    · rw [h3] at cS
      have ge : (er == 0) = false := by simp [h1]
      have EQZ : Kp (∀ (o : Oper) (a : Act) (x y : Operand) (t' : TypeId) (w' : World), o.op = .binOp .eql 26 x y t' → a.eval x = .agg zeroH.cells.toArray → a.eval y = .agg zeroH.cells.toArray → (execOp a.eval o).run Try.prog w' = .ok (.value (.bool true)) w') := kp (fun o a x y t' w' ho hx hy => by rw [exec_eqh ho hx hy w', Hd.eqb_self] <;> rfl)
      simp only at cS
      rw [HZZ.out] at cS EQZ
      clear h1 h3
      go_wp2_with fail
      refine (cS.out _).mono ?_
      rintro e w_11 ⟨rfl, hb_c⟩
      have HB := kp (bt' HB.out hb_c HB.out.size)
      clear hb_c
      have hZl := hzl
      obtain ⟨Y9, hb_y, hk_y, SCY⟩ := new_head (P := Try.prog) (T := 26) (W := w_11) hzl hZl HZO.out
      have HLT9 := kp hk_y.lt
      go_upto_region 13 with (first | (refine wpL_make 9 rfl rfl (.pointer (some ⟨w_11.heap.size, 0, none⟩)) (w' := w_11.alloc (.cells Z.toArray 26)) (by rw [← HZZ.out]; kernel_rfl) ?_))
      have HB := kp (bt' HB.out hb_y HB.out.size)
      have H9 := kp hk_y
      clear SCY hb_y hk_y
      have LD := ld_all (P := Try.prog) w_11.heap.size 13 26 26 Z _ Try.underlying26 rfl info_head hzl H9.out
      go_wp2_with (first | (refine wpL_load rfl 26 _ rfl rfl LD ?_) | (refine wpL_val 61 rfl rfl (.agg Z.toArray) (exec_build (parts := #[]) rfl (by simp) (HBZ.out _)) ?_) | (refine wpL_val 62 rfl rfl (.bool true) (EQZ.out _ _ _ _ _ _ rfl rfl rfl) ?_))
      go_ret
      exact ⟨rfl, HB.out⟩
  | false =>
    have cP : Kp (∀ w', Calls Try.prog 12 #[.agg h.cells.toArray] w' fun e w'' => e = .returned (.tuple #[.string (str []), .int .i64 2]) ∧ Below w'.heap.size w' w'') := kp (fun w' => Put_bad h hm w')
    rw [hm] at cM
    generalize h.cells = L at *
    go_enter Try.func5, Try.ntmps5
    go_wp2_with fail
    refine (head_awake _).mono ?_
    rintro e w_1 ⟨rfl, hb_c⟩
    have HB := kp (bt' HB.out hb_c HB.out.size)
    have H2 := kp (H2.out.bel hb_c)
    clear hb_c
    have LD := ld_all (P := Try.prog) w.heap.size 13 26 26 L _ Try.underlying26 rfl info_head HL H2.out
    go_wp2_with (refine wpL_load rfl 26 _ rfl rfl LD ?_)
    clear LD
    refine (cP.out _).mono ?_
    rintro e w_2 ⟨rfl, hb_c⟩
    have HB := kp (bt' HB.out hb_c HB.out.size)
    have H2 := kp (H2.out.bel hb_c)
    clear hb_c
    go_upto_region 10 with (fail)
    have L2 := kp (fun x => ld_all (P := Try.prog) w.heap.size 13 26 26 L _ Try.underlying26 rfl info_head HL (H2.out.bel (ext_below w_2 x)))
    refine wp_region_extP 5 ?_
    simp only [List.append_eq, List.cons_append, List.nil_append, List.take_succ_cons, List.take_zero, List.drop_succ_cons, List.drop_zero]
    repeat (first
      | (go_big_quiet_want; refine quiet_load _ rfl 26 _ rfl rfl (fun w' hw => by obtain ⟨x, rfl⟩ := hw; exact L2.out x) ?_; go_simp; go_big_quiet_on)
      | go_big_quiet_step ((go_at_call 16; with_reducible exact Calls.ext_of (cM.out _))))
    refine wpQuiet_nil ?_
    rintro z
    have HB := kp (bt' HB.out (ext_below w_2 z) HB.out.size)
    rcases HTC.out with ⟨h1, h2, h3⟩ | ⟨er, h1, h3⟩
    · rw [h3] at cS
      have cX : Kp (∀ w', Calls Try.prog 12 #[.agg (hdOf s).cells.toArray] w' fun e w'' => e = .returned (.tuple #[.string s, .int .i64 0]) ∧ Below w'.heap.size w' w'') := kp (fun w' => by
        have hc := M_Put (hdOf s) (hdOf_ok s) w'
        rw [h2, put_hdOf s h1 h2] at hc
        exact hc)
      have hXl := (hdOf s).length
      have HXO := kp (cells_one (hdOf s))
      simp only at cS
      generalize (hdOf s).cells = X at *
      clear h1 h2 h3
      go_wp2_with fail
      refine (cS.out _).mono ?_
      rintro e w_11 ⟨rfl, hb_c⟩
      have HB := kp (bt' HB.out hb_c HB.out.size)
      clear hb_c
      obtain ⟨Y9, hb_y, hk_y, SCY⟩ := new_head (P := Try.prog) (T := 26) (W := w_11) hzl hXl HXO.out
      have HLT9 := kp hk_y.lt
      go_upto_region 13 with (first | (refine wpL_make 9 rfl rfl (.pointer (some ⟨w_11.heap.size, 0, none⟩)) (w' := w_11.alloc (.cells Z.toArray 26)) (by rw [← HZZ.out]; kernel_rfl) ?_))
      have HB := kp (bt' HB.out hb_y HB.out.size)
      have H9 := kp hk_y
      clear SCY hb_y hk_y
      have LD := ld_all (P := Try.prog) w_11.heap.size 13 26 26 X _ Try.underlying26 rfl info_head hXl H9.out
      go_wp2_with (refine wpL_load rfl 26 _ rfl rfl LD ?_)
      clear LD
      refine (cX.out _).mono ?_
      rintro e w_12 ⟨rfl, hb_c⟩
      have HB := kp (bt' HB.out hb_c HB.out.size)
      clear hb_c
      go_wp2
      go_ret
      exact ⟨rfl, HB.out⟩
    · rw [h3] at cS
      have ge : (er == 0) = false := by simp [h1]
      have EQZ : Kp (∀ (o : Oper) (a : Act) (x y : Operand) (t' : TypeId) (w' : World), o.op = .binOp .eql 26 x y t' → a.eval x = .agg zeroH.cells.toArray → a.eval y = .agg zeroH.cells.toArray → (execOp a.eval o).run Try.prog w' = .ok (.value (.bool true)) w') := kp (fun o a x y t' w' ho hx hy => by rw [exec_eqh ho hx hy w', Hd.eqb_self] <;> rfl)
      simp only at cS
      rw [HZZ.out] at cS EQZ
      clear h1 h3
      go_wp2_with fail
      refine (cS.out _).mono ?_
      rintro e w_11 ⟨rfl, hb_c⟩
      have HB := kp (bt' HB.out hb_c HB.out.size)
      clear hb_c
      have hZl := hzl
      obtain ⟨Y9, hb_y, hk_y, SCY⟩ := new_head (P := Try.prog) (T := 26) (W := w_11) hzl hZl HZO.out
      have HLT9 := kp hk_y.lt
      go_upto_region 13 with (first | (refine wpL_make 9 rfl rfl (.pointer (some ⟨w_11.heap.size, 0, none⟩)) (w' := w_11.alloc (.cells Z.toArray 26)) (by rw [← HZZ.out]; kernel_rfl) ?_))
      have HB := kp (bt' HB.out hb_y HB.out.size)
      have H9 := kp hk_y
      clear SCY hb_y hk_y
      have LD := ld_all (P := Try.prog) w_11.heap.size 13 26 26 Z _ Try.underlying26 rfl info_head hzl H9.out
      go_wp2_with (first | (refine wpL_load rfl 26 _ rfl rfl LD ?_) | (refine wpL_val 61 rfl rfl (.agg Z.toArray) (exec_build (parts := #[]) rfl (by simp) (HBZ.out _)) ?_) | (refine wpL_val 62 rfl rfl (.bool true) (EQZ.out _ _ _ _ _ _ rfl rfl rfl) ?_))
      go_ret
      exact ⟨rfl, HB.out⟩
end Go.Proofs.Ytoifkfhbinfplaa
