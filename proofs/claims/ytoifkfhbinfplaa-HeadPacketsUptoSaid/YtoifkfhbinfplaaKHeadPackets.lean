/- HeadPackets: the walk. Printed by genkhu.py. -/
import Derived.Test.YtoifkfhbinfplaaHd23
import Derived.Test.YtoifkfhbinfplaaArgU
import Derived.Test.YtoifkfhbinfplaaHd24
namespace Go.Proofs.Ytoifkfhbinfplaa
open Go Go.RowKit
set_option linter.unusedVariables false
set_option linter.unusedSimpArgs false
attribute [local go_sem] bmax2 bmin2 bmax bmin cell_ext frozen_ext
set_option maxHeartbeats 8000000 in
set_option maxRecDepth 100000 in
theorem HeadPackets_walk (w : World) (h : Hd) (ad : Option Addr) (c : Nat) (l : List Fd) (s : ByteArray) (hok : h.ok) (hb : l.length ≤ maxLen ∧ l.length ≤ c ∧ c ≤ maxLen ∧ (∀ f ∈ l, wfF f) ∧ FS w ad l) (b1 : s.size ≤ maxLen) (hu1 : l.length ≤ 1048576) (hu2 : ∀ f ∈ l, f.d.size ≤ 1048576) :
    Calls Try.prog 6 #[.agg h.cells.toArray, .slice ad l.length c, .string s] w fun e w' => e = .returned (.bool true) ∧ Below w.heap.size w w' := by
  obtain ⟨hl, _, _, _, hs⟩ := hb
  unfold maxLen at hl b1
  have HB := kp (ba (Below.refl w.heap.size w) (.cells h.cells.toArray 26))
  have H3 := kp (Blk.new w 26 h.cells.toArray)
  have F0 := kp (hs.bel HB.out)
  clear hs
  have cG : Kp (∀ w', FS w' ad l → Calls Try.prog 18 #[.slice ad l.length c] w' fun e w'' => e = .returned (.bool (decide (2048 < wsumF l))) ∧ w' = w'') := kp (fun w' hf => L_large ad c l w' (by unfold maxLen; omega) (fun f hf => Nat.le_trans (hu2 f hf) (by unfold maxLen; omega)) hf)
  by_cases hs : 2048 < s.size
  · have g : decide ((2048 : Int) < (s.size : Int)) = true := by simp; omega
    generalize h.cells = L at *
    go_enter Try.func6, Try.ntmps6
    go_wp2_with fail
    refine (head_awake _).mono ?_
    rintro e w1 ⟨rfl, hb⟩
    have HB := kp (bt' HB.out hb HB.out.size)
    clear hb
    go_wp2
    go_ret
    exact ⟨rfl, HB.out⟩
  have g : decide ((2048 : Int) < (s.size : Int)) = false := by simp; omega
  by_cases hlg : 2048 < wsumF l
  · rw [decide_eq_true hlg] at cG
    generalize h.cells = L at *
    go_enter Try.func6, Try.ntmps6
    go_wp2_with fail
    refine (head_awake _).mono ?_
    rintro e w1 ⟨rfl, hb⟩
    have HB := kp (bt' HB.out hb HB.out.size)
    have F0 := kp (F0.out.bel hb)
    clear hb
    go_wp2_with fail
    refine (cG.out _ F0.out).mono ?_
    rintro e w2 ⟨rfl, rfl⟩
    go_wp2
    go_ret
    exact ⟨rfl, HB.out⟩
  rw [decide_eq_false hlg] at cG
  have hbl := large_false l hu1 hu2 hlg
  clear hlg
  have gE : (str []).toList = [] := by rw [toList_bs]; rfl
  have HZL : Kp (zeroH.cells.length = 13) := kp rfl
  have HZO := kp zero_one
  have HBZ := kp build_zero
  obtain ⟨Z, hZ⟩ : ∃ Z, zeroH.cells = Z := ⟨_, rfl⟩
  have HZZ := kp hZ
  rw [hZ] at HZL HZO HBZ
  clear hZ
  have hzl := HZL.out
  have HL := h.length
  have HLO := kp (cells_one h)
  have hLl := HL
  have cW : Kp (∀ w', FS w' ad l → Calls Try.prog 21 #[.agg h.cells.toArray, .slice ad l.length c] w' fun e w'' => e = .returned (.tuple #[.string (str (writeL h l).1), .int .i64 (writeL h l).2]) ∧ Below w'.heap.size w' w'') := kp (fun w' hf => M_Write h hok ad c l w' (by omega) hf)
  have cR : Kp (∀ w', Calls Try.prog 19 #[.string s] w' fun e w'' => ∃ ad c, e = .returned (.tuple #[.agg (readL s).1.cells.toArray, .slice ad (readL s).2.1.length c, .int .i64 (readL s).2.2]) ∧ FS w'' ad (readL s).2.1 ∧ Below w'.heap.size w' w'') := kp (fun w' => (M_Read s (by omega) w').mono fun e w'' hr => hr.get)
  have HRC := kp (readL_cases s)
  have EQ : Kp (∀ (o : Oper) (a : Act) (x y : Operand) (t' : TypeId) (w' : World), o.op = .binOp .neq 26 x y t' → a.eval x = .agg h.cells.toArray → a.eval y = .agg h.cells.toArray → (execOp a.eval o).run Try.prog w' = .ok (.value (.bool false)) w') := kp (fun o a x y t' w' ho hx hy => by rw [exec_neh ho hx hy w', Hd.eqb_self] <;> rfl)
  by_cases hw0 : (writeL h l).2 = 0
  · obtain ⟨hm, hr, hl16, hwl⟩ := writeL_ok h l hw0
    rw [hwl] at cW
    simp only at cW
    have zT : (str (h.bytes ++ bodyL l)).size = 48 + (bodyL l).length := by rw [str_size, List.length_append, h.bytes_len]
    have h4 : ((str (h.bytes ++ bodyL l)).size : Int) % 4 = 0 := by
      have := body4 l
      rw [zT]; omega
    have cT : Kp (∀ w', Calls Try.prog 19 #[.string (str (h.bytes ++ bodyL l))] w' fun e w'' => ∃ ad c, e = .returned (.tuple #[.agg h.cells.toArray, .slice ad l.length c, .int .i64 0]) ∧ FS w'' ad l ∧ Below w'.heap.size w' w'') := kp (fun w' => by
      have hc := M_Read (str (h.bytes ++ bodyL l)) (by rw [zT]; omega) w'
      rw [read_write h l hm hok hr hl16] at hc
      exact hc.mono fun e w'' hr => hr.get)
    have cS : Kp (∀ ad2 c2 w', FS w' ad2 l → FS w' ad l → Calls Try.prog 23 #[.slice ad2 l.length c2, .slice ad l.length c] w' fun e w'' => e = .returned (.bool true) ∧ Below w'.heap.size w' w'') := kp (fun ad2 c2 w' hf hg => by
      have h := R_Same ad2 c2 l ad c l w' (by unfold maxLen; omega) (by unfold maxLen; omega) hf hg
      rw [sameF_self] at h
      exact h)
    clear hw0 hwl
    have zT2 := kp zT
    clear zT
    generalize str (h.bytes ++ bodyL l) = T at *
    generalize h.cells = L at *
    go_enter Try.func6, Try.ntmps6
    go_wp2_with fail
    refine (head_awake _).mono ?_
    rintro e w_1 ⟨rfl, hb_c⟩
    have HB := kp (bt' HB.out hb_c HB.out.size)
    have H3 := kp (H3.out.bel hb_c)
    have F0 := kp (F0.out.bel hb_c)
    clear hb_c
    go_wp2_with fail
    refine (cG.out _ F0.out).mono ?_
    rintro e w_2 ⟨rfl, rfl⟩
    have LD := ld_all (P := Try.prog) w.heap.size 13 26 26 L _ Try.underlying26 rfl info_head HL H3.out
    go_wp2_with (refine wpL_load rfl 26 _ rfl rfl LD ?_)
    clear LD
    refine (cW.out _ F0.out).mono ?_
    rintro e w_3 ⟨rfl, hb_c⟩
    have HB := kp (bt' HB.out hb_c HB.out.size)
    have H3 := kp (H3.out.bel hb_c)
    have F0 := kp (F0.out.bel hb_c)
    clear hb_c
    go_wp2_with fail
    refine (cT.out _).mono ?_
    rintro e w_4 ⟨ad10, c10, rfl, hf10, hb_c⟩
    have F10 := kp hf10
    clear hf10
    have HB := kp (bt' HB.out hb_c HB.out.size)
    have H3 := kp (H3.out.bel hb_c)
    have F0 := kp (F0.out.bel hb_c)
    clear hb_c
    obtain ⟨Y9, hb_y, hk_y, SCY⟩ := new_head (P := Try.prog) (T := 26) (W := w_4) hzl hLl HLO.out
    have HLT9 := kp hk_y.lt
    go_upto_region 8 with (first | (refine wpL_make 9 rfl rfl (.pointer (some ⟨w_4.heap.size, 0, none⟩)) (w' := w_4.alloc (.cells Z.toArray 26)) (by rw [← HZZ.out]; kernel_rfl) ?_))
    have HB := kp (bt' HB.out hb_y HB.out.size)
    have H3 := kp (H3.out.bel hb_y)
    have F0 := kp (F0.out.bel hb_y)
    have F10 := kp (F10.out.bel hb_y)
    have H9 := kp hk_y
    clear SCY hb_y hk_y
    have CSX := kp (fun x => cS.out ad10 c10 (Y9.ext x) (F10.out.bel (ext_below Y9 x)) (F0.out.bel (ext_below Y9 x)))
    have L3 := kp (fun x => ld_all (P := Try.prog) w.heap.size 13 26 26 L _ Try.underlying26 rfl info_head HL (H3.out.bel (ext_below Y9 x)))
    have L9 := kp (fun x => ld_all (P := Try.prog) w_4.heap.size 13 26 26 L _ Try.underlying26 rfl info_head HL (H9.out.bel (ext_below Y9 x)))
    refine wp_region_extP 18 ?_
    simp only [List.append_eq, List.cons_append, List.nil_append, List.take_succ_cons, List.take_zero, List.drop_succ_cons, List.drop_zero]
    repeat (first
      | (go_big_quiet_want; refine quiet_load _ rfl 26 _ rfl rfl (fun w' hw => by obtain ⟨x, rfl⟩ := hw; exact L3.out x) ?_; go_simp; go_big_quiet_on)
      | (go_big_quiet_want; refine quiet_load _ rfl 26 _ rfl rfl (fun w' hw => by obtain ⟨x, rfl⟩ := hw; exact L9.out x) ?_; go_simp; go_big_quiet_on)
      | (go_big_quiet_want; refine quiet_val _ rfl (.bool false) (fun w' _ => EQ.out _ _ _ _ _ w' rfl rfl rfl) ?_; go_simp; go_big_quiet_on)
      | go_big_quiet_step ((go_at_call 23; with_reducible exact Calls.ext_of (CSX.out _))))
    refine wpQuiet_nil ?_
    rintro z
    have HB := kp (bt' HB.out (ext_below Y9 z) HB.out.size)
    rcases HRC.out with ⟨h', m, e1, h2, h3, h4, h5, h6, h7, h8⟩ | ⟨er, e1, h1, h2⟩
    · rw [e1] at cR
      simp only at cR
      have hmb : (bodyL m).length ≤ 1048576 := by
        have := congrArg List.length h6
        rw [size_bs, List.length_append] at this
        omega
      have cX : Kp (∀ ad c w', FS w' ad m → Calls Try.prog 21 #[.agg h'.cells.toArray, .slice ad m.length c] w' fun e w'' => e = .returned (.tuple #[.string s, .int .i64 0]) ∧ Below w'.heap.size w' w'') := kp (fun ad c w' hf => by
        have hc := M_Write h' h3 ad c m w' hmb hf
        rw [writeL_of h' m h2 h4 h5] at hc
        simp only at hc
        rw [← h6, str_bs] at hc
        exact hc)
      have hXl := h'.length
      have HXO := kp (cells_one h')
      clear h6 h7 h2
      generalize h'.cells = X at *
      go_wp2_with fail
      refine (cR.out _).mono ?_
      rintro e w_11 ⟨ad13, c13, rfl, hf13, hb_c⟩
      have F13 := kp hf13
      clear hf13
      have HB := kp (bt' HB.out hb_c HB.out.size)
      clear hb_c
      obtain ⟨Y12, hb_y, hk_y, SCY⟩ := new_head (P := Try.prog) (T := 26) (W := w_11) hzl hXl HXO.out
      have HLT12 := kp hk_y.lt
      go_upto_region 13 with (first | (refine wpL_make 12 rfl rfl (.pointer (some ⟨w_11.heap.size, 0, none⟩)) (w' := w_11.alloc (.cells Z.toArray 26)) (by rw [← HZZ.out]; kernel_rfl) ?_))
      have HB := kp (bt' HB.out hb_y HB.out.size)
      have F13 := kp (F13.out.bel hb_y)
      have H12 := kp hk_y
      clear SCY hb_y hk_y
      have LD := ld_all (P := Try.prog) w_11.heap.size 13 26 26 X _ Try.underlying26 rfl info_head hXl H12.out
      go_wp2_with (refine wpL_load rfl 26 _ rfl rfl LD ?_)
      clear LD
      refine (cX.out _ _ _ F13.out).mono ?_
      rintro e w_12 ⟨rfl, hb_c⟩
      have HB := kp (bt' HB.out hb_c HB.out.size)
      clear hb_c
      go_wp2
      go_ret
      exact ⟨rfl, HB.out⟩
    · rw [e1] at cR
      simp only [List.length_nil] at cR
      have ge : (er == 0) = false := by simp [h1]
      have EQZ : Kp (∀ (o : Oper) (a : Act) (x y : Operand) (t' : TypeId) (w' : World), o.op = .binOp .eql 26 x y t' → a.eval x = .agg zeroH.cells.toArray → a.eval y = .agg zeroH.cells.toArray → (execOp a.eval o).run Try.prog w' = .ok (.value (.bool true)) w') := kp (fun o a x y t' w' ho hx hy => by rw [exec_eqh ho hx hy w', Hd.eqb_self] <;> rfl)
      rw [HZZ.out] at cR EQZ
      have hZl := hzl
      clear h1 h2 e1
      go_wp2_with fail
      refine (cR.out _).mono ?_
      rintro e w_11 ⟨ad13, c13, rfl, hf13, hb_c⟩
      clear hf13
      have HB := kp (bt' HB.out hb_c HB.out.size)
      clear hb_c
      obtain ⟨Y12, hb_y, hk_y, SCY⟩ := new_head (P := Try.prog) (T := 26) (W := w_11) hzl hZl HZO.out
      have HLT12 := kp hk_y.lt
      go_upto_region 13 with (first | (refine wpL_make 12 rfl rfl (.pointer (some ⟨w_11.heap.size, 0, none⟩)) (w' := w_11.alloc (.cells Z.toArray 26)) (by rw [← HZZ.out]; kernel_rfl) ?_))
      have HB := kp (bt' HB.out hb_y HB.out.size)
      have H12 := kp hk_y
      clear SCY hb_y hk_y
      have LD := ld_all (P := Try.prog) w_11.heap.size 13 26 26 Z _ Try.underlying26 rfl info_head hzl H12.out
      go_wp2_with (first | (refine wpL_load rfl 26 _ rfl rfl LD ?_) | (refine wpL_val 70 rfl rfl (.agg Z.toArray) (exec_build (parts := #[]) rfl (by simp) (HBZ.out _)) ?_) | (refine wpL_val 71 rfl rfl (.bool true) (EQZ.out _ _ _ _ _ _ rfl rfl rfl) ?_))
      go_ret
      exact ⟨rfl, HB.out⟩
  · have hb1 := writeL_bad h l hw0
    rw [hb1] at cW
    have gw : ((writeL h l).2 == 0) = false := by simp [hw0]
    generalize (writeL h l).2 = eW at *
    clear hb1 hw0
    generalize h.cells = L at *
    go_enter Try.func6, Try.ntmps6
    go_wp2_with fail
    refine (head_awake _).mono ?_
    rintro e w_1 ⟨rfl, hb_c⟩
    have HB := kp (bt' HB.out hb_c HB.out.size)
    have H3 := kp (H3.out.bel hb_c)
    have F0 := kp (F0.out.bel hb_c)
    clear hb_c
    go_wp2_with fail
    refine (cG.out _ F0.out).mono ?_
    rintro e w_2 ⟨rfl, rfl⟩
    have LD := ld_all (P := Try.prog) w.heap.size 13 26 26 L _ Try.underlying26 rfl info_head HL H3.out
    go_wp2_with (refine wpL_load rfl 26 _ rfl rfl LD ?_)
    clear LD
    refine (cW.out _ F0.out).mono ?_
    rintro e w_3 ⟨rfl, hb_c⟩
    have HB := kp (bt' HB.out hb_c HB.out.size)
    have H3 := kp (H3.out.bel hb_c)
    have F0 := kp (F0.out.bel hb_c)
    clear hb_c
    rcases HRC.out with ⟨h', m, e1, h2, h3, h4, h5, h6, h7, h8⟩ | ⟨er, e1, h1, h2⟩
    · rw [e1] at cR
      simp only at cR
      have hmb : (bodyL m).length ≤ 1048576 := by
        have := congrArg List.length h6
        rw [size_bs, List.length_append] at this
        omega
      have cX : Kp (∀ ad c w', FS w' ad m → Calls Try.prog 21 #[.agg h'.cells.toArray, .slice ad m.length c] w' fun e w'' => e = .returned (.tuple #[.string s, .int .i64 0]) ∧ Below w'.heap.size w' w'') := kp (fun ad c w' hf => by
        have hc := M_Write h' h3 ad c m w' hmb hf
        rw [writeL_of h' m h2 h4 h5] at hc
        simp only at hc
        rw [← h6, str_bs] at hc
        exact hc)
      have hXl := h'.length
      have HXO := kp (cells_one h')
      clear h6 h7 h2
      generalize h'.cells = X at *
      go_wp2_with fail
      refine (cR.out _).mono ?_
      rintro e w_11 ⟨ad13, c13, rfl, hf13, hb_c⟩
      have F13 := kp hf13
      clear hf13
      have HB := kp (bt' HB.out hb_c HB.out.size)
      clear hb_c
      obtain ⟨Y12, hb_y, hk_y, SCY⟩ := new_head (P := Try.prog) (T := 26) (W := w_11) hzl hXl HXO.out
      have HLT12 := kp hk_y.lt
      go_upto_region 13 with (first | (refine wpL_make 12 rfl rfl (.pointer (some ⟨w_11.heap.size, 0, none⟩)) (w' := w_11.alloc (.cells Z.toArray 26)) (by rw [← HZZ.out]; kernel_rfl) ?_))
      have HB := kp (bt' HB.out hb_y HB.out.size)
      have F13 := kp (F13.out.bel hb_y)
      have H12 := kp hk_y
      clear SCY hb_y hk_y
      have LD := ld_all (P := Try.prog) w_11.heap.size 13 26 26 X _ Try.underlying26 rfl info_head hXl H12.out
      go_wp2_with (refine wpL_load rfl 26 _ rfl rfl LD ?_)
      clear LD
      refine (cX.out _ _ _ F13.out).mono ?_
      rintro e w_12 ⟨rfl, hb_c⟩
      have HB := kp (bt' HB.out hb_c HB.out.size)
      clear hb_c
      go_wp2
      go_ret
      exact ⟨rfl, HB.out⟩
    · rw [e1] at cR
      simp only [List.length_nil] at cR
      have ge : (er == 0) = false := by simp [h1]
      have EQZ : Kp (∀ (o : Oper) (a : Act) (x y : Operand) (t' : TypeId) (w' : World), o.op = .binOp .eql 26 x y t' → a.eval x = .agg zeroH.cells.toArray → a.eval y = .agg zeroH.cells.toArray → (execOp a.eval o).run Try.prog w' = .ok (.value (.bool true)) w') := kp (fun o a x y t' w' ho hx hy => by rw [exec_eqh ho hx hy w', Hd.eqb_self] <;> rfl)
      rw [HZZ.out] at cR EQZ
      have hZl := hzl
      clear h1 h2 e1
      go_wp2_with fail
      refine (cR.out _).mono ?_
      rintro e w_11 ⟨ad13, c13, rfl, hf13, hb_c⟩
      clear hf13
      have HB := kp (bt' HB.out hb_c HB.out.size)
      clear hb_c
      obtain ⟨Y12, hb_y, hk_y, SCY⟩ := new_head (P := Try.prog) (T := 26) (W := w_11) hzl hZl HZO.out
      have HLT12 := kp hk_y.lt
      go_upto_region 13 with (first | (refine wpL_make 12 rfl rfl (.pointer (some ⟨w_11.heap.size, 0, none⟩)) (w' := w_11.alloc (.cells Z.toArray 26)) (by rw [← HZZ.out]; kernel_rfl) ?_))
      have HB := kp (bt' HB.out hb_y HB.out.size)
      have H12 := kp hk_y
      clear SCY hb_y hk_y
      have LD := ld_all (P := Try.prog) w_11.heap.size 13 26 26 Z _ Try.underlying26 rfl info_head hzl H12.out
      go_wp2_with (first | (refine wpL_load rfl 26 _ rfl rfl LD ?_) | (refine wpL_val 70 rfl rfl (.agg Z.toArray) (exec_build (parts := #[]) rfl (by simp) (HBZ.out _)) ?_) | (refine wpL_val 71 rfl rfl (.bool true) (EQZ.out _ _ _ _ _ _ rfl rfl rfl) ?_))
      go_ret
      exact ⟨rfl, HB.out⟩
end Go.Proofs.Ytoifkfhbinfplaa
