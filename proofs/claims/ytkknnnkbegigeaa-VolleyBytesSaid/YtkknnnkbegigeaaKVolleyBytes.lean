/- VolleyBytes: the walk. -/
import Derived.Test.YtkknnnkbegigeaaVb7
namespace Go.Proofs.Ytkknnnkbegigeaa
open Go Go.RowKit
set_option linter.unusedVariables false
set_option linter.unusedSimpArgs false
attribute [local go_sem] bmax2 bmin2 bmax bmin cell_ext frozen_ext

theorem bs_extractV (s : ByteArray) (a b : Nat) : bs (s.extract a b) = ((bs s).drop a).take (b - a) := by
  have h := extract_str (bs s) a b
  rw [str_bs] at h
  rw [h, bs_str]
theorem bs_ans (key ask : ByteArray) (t2 t3 : Int) : bs (ansT key ask t2 t3) = bs ask ++ (putL (uT t2) 8 ++ (putL (uT t3) 8 ++ (macD (bs key) (bs (ansB ask t2 t3))).take 16)) := by
  unfold ansT
  rw [bs_append, bs_str]
  conv => lhs; lhs; unfold ansB
  rw [bs_append, bs_append, bs_str, bs_str, List.append_assoc, List.append_assoc]
theorem ans_head (key ask : ByteArray) (h : ask.size = 24) (t2 t3 : Int) : (ansT key ask t2 t3).extract 0 24 = ask := by
  apply bs_inj
  have hl : (bs ask).length = 24 := by rw [← h]; exact size_bs ask
  rw [bs_extractV, bs_ans, List.drop_zero, List.take_append_of_le_length (by omega), List.take_of_length_le (by omega)]
theorem ans_mid (key ask : ByteArray) (h : ask.size = 24) (t2 t3 : Int) : (ansT key ask t2 t3).extract 24 40 = str (putL (uT t2) 8) ++ str (putL (uT t3) 8) := by
  apply bs_inj
  have hl : (bs ask).length = 24 := by rw [← h]; exact size_bs ask
  have h2 := length_putL (uT t2) 8
  have h3 := length_putL (uT t3) 8
  rw [bs_extractV, bs_ans, bs_append, bs_str, bs_str]
  generalize putL (uT t2) 8 = A at *
  generalize putL (uT t3) 8 = B at *
  rw [List.drop_append_of_le_length (by omega), List.drop_of_length_le (by omega), List.nil_append, ← List.append_assoc, List.take_append_of_le_length (by rw [List.length_append]; omega), List.take_of_length_le (by rw [List.length_append]; omega)]
theorem ans_size (key ask : ByteArray) (h : ask.size = 24) (t2 t3 : Int) : (ansT key ask t2 t3).size = 56 := by
  unfold ansT ansB
  simp only [ByteArray.size_append, str_size, length_putL, List.length_take, macD_length]
  omega
set_option maxHeartbeats 4000000 in
set_option maxRecDepth 100000 in
theorem VolleyBytes_walk (a0 a1 : ByteArray) (p q : Int) (b0 : a0.size ≤ maxLen) (b1 : a1.size ≤ maxLen) (wp : (Lit.int .i64 p).wf = true) (wq : (Lit.int .i64 q).wf = true) (w : World) :
    Calls Try.prog 7 #[.string a0, .string a1, .int .i64 p, .int .i64 q] w fun e w' => e = .returned (.bool true) ∧ Below w.heap.size w w' := by
  clear b0 b1 wp wq
  have cW := kp (fun w' => volley_awake w')
  by_cases h0 : 100 < a0.size
  · have g0 : (100 : Int) < (a0.size : Int) := by omega
    go_enter Try.func7, Try.ntmps7
    go_wp2_with (go_at_call 11; refine (cW.out _).mono ?_; rintro e w1 ⟨rfl, hb⟩)
    go_ret
    exact ⟨rfl, hb⟩
  · have g0 : ¬ (100 : Int) < (a0.size : Int) := by omega
    by_cases h1 : 100 < a1.size
    · have g1 : (100 : Int) < (a1.size : Int) := by omega
      go_enter Try.func7, Try.ntmps7
      go_wp2_with (go_at_call 11; refine (cW.out _).mono ?_; rintro e w1 ⟨rfl, hb⟩)
      go_ret
      exact ⟨rfl, hb⟩
    · have g1 : ¬ (100 : Int) < (a1.size : Int) := by omega
      by_cases h2 : a1.size = 24
      · have g2 : ((a1.size : Int) != 24) = false := by simp; omega
        have g3 : ((a1.size : Int) == 24) = true := by simp; omega
        have cA := kp (fun w' => V_Answer_ok a0 a1 h2 (by omega) p q w')
        have e1 := ans_head a0 a1 h2 p q
        have e2 := ans_mid a0 a1 h2 p q
        have e3 := ans_size a0 a1 h2 p q
        have cP := kp (fun w' => ref01_Put_mid (uT p) 8 w' (uT_lt p) (by omega) 8 (by decide))
        have cQ := kp (fun w' => ref01_Put_mid (uT q) 8 w' (uT_lt q) (by omega) 8 (by decide))
        have u1 := uT_wrap p
        have u2 := uT_wrap q
        have z1 : (str (putL (uT p) 8)).size = 8 := by rw [str_size, length_putL]
        have z2 : (str (putL (uT q) 8)).size = 8 := by rw [str_size, length_putL]
        generalize str (putL (uT p) 8) = A at *
        generalize str (putL (uT q) 8) = B at *
        generalize uT p = m at *
        generalize uT q = n at *
        generalize ansT a0 a1 p q = AN at *
        have g4 : ((AN.size : Int) == 56) = true := by rw [e3]; rfl
        go_enter Try.func7, Try.ntmps7
        go_upto_region 8 with (first | (go_at_call 11; refine (cW.out _).mono ?_; rintro e w1 ⟨rfl, hb⟩) | (go_at_call 18; refine (cA.out _).mono ?_; rintro e w2 ⟨rfl, hb2⟩))
        have HB := kp (bt' hb hb2 hb.size)
        clear hb hb2
        refine wp_region_ext [0, 1, 2, 3, 4, 5, 6, 7, 8, 9, 10, 11, 12, 13, 14, 15, 16, 17, 18, 19, 20, 21, 22, 23, 24] [25] (by kernel_rfl) (by kernel_rfl) ?_
        simp only [List.map_cons, List.map_nil, List.getD_cons_succ, List.getD_cons_zero]
        repeat (go_big_quiet_step (first | (go_at_call 25; with_reducible exact Calls.ext_of (cP.out _)) | (go_at_call 25; with_reducible exact Calls.ext_of (cQ.out _))))
        refine wpQuiet_nil ?_
        rintro z
        have HX := kp (bt' HB.out (ext_below w2 z) HB.out.size)
        generalize World.ext w2 z = V at HX ⊢
        go_wp2
        go_ret
        exact ⟨rfl, HX.out⟩
      · have g2 : ((a1.size : Int) != 24) = true := by simp; omega
        have cA := kp (fun w' => V_Answer_no a0 a1 h2 p q w')
        go_enter Try.func7, Try.ntmps7
        go_wp2_with (first | (go_at_call 11; refine (cW.out _).mono ?_; rintro e w1 ⟨rfl, hb⟩) | (go_at_call 18; refine (cA.out _).mono ?_; rintro e w2 ⟨rfl, rfl⟩))
        go_ret
        exact ⟨rfl, hb⟩
end Go.Proofs.Ytkknnnkbegigeaa
