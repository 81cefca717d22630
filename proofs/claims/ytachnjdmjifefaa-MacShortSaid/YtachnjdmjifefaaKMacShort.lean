/- MacShort: the walk. -/
import Derived.Test.YtachnjdmjifefaaMac4
import Derived.Test.YtachnjdmjifefaaMac5
import Derived.Test.YtachnjdmjifefaaRMac1
import Derived.Test.YtachnjdmjifefaaEq2
namespace Go.Proofs.Ytachnjdmjifefaa
open Go Go.RowKit
set_option linter.unusedVariables false
set_option linter.unusedSimpArgs false
attribute [local go_sem] bmax2 bmin2 bmax bmin cell_ext frozen_ext

set_option maxHeartbeats 4000000 in
set_option maxRecDepth 100000 in
theorem MacShort_walk (a0 a1 : ByteArray) (m p q : Int) (b0 : a0.size ≤ maxLen) (b1 : a1.size ≤ maxLen) (wm : (Lit.int .u8 m).wf = true) (wp : (Lit.int .u8 p).wf = true) (wq : (Lit.int .u8 q).wf = true) (w : World) :
    Calls Try.prog 12 #[.string a0, .string a1, .int .u8 m, .int .u8 p, .int .u8 q] w fun e w' => e = .returned (.bool true) ∧ Below w.heap.size w w' := by
  obtain ⟨hm0, hm1⟩ := wf_u8 wm
  obtain ⟨hp0, hp1⟩ := wf_u8 wp
  obtain ⟨hq0, hq1⟩ := wf_u8 wq
  clear b0 b1 wm wp wq
  cases hl : largeB [a0, a1] with
  | true =>
    go_enter Try.func12, Try.ntmps12
    go_wp2_with fail
    refine (mac_awake _).mono ?_
    rintro e w1 ⟨rfl, hb⟩
    have HB := kp hb
    clear hb
    go_wp2_with fail
    refine (large_any (some ⟨w1.heap.size, 0, none⟩) 2 [a0, a1] _ (by unfold maxLen; simp) (HeldT.lit w1 _ [a0, a1])).mono ?_
    rintro e w' ⟨rfl, rfl⟩
    go_wp2
    go_ret
    exact ⟨rfl, ba HB.out _⟩
  | false =>
    have hsz := largeB_false hl
    have za0 := hsz a0 (by simp)
    have za1 := hsz a1 (by simp)
    clear hsz
    obtain ⟨M, hM⟩ : ∃ M : Nat, m % 40 = (M : Int) := ⟨(m % 40).toNat, by omega⟩
    have hM4 : M < 40 := by omega
    obtain ⟨N, hN⟩ : ∃ N : Nat, min M 32 = N := ⟨_, rfl⟩
    have hN2 : min (M : Int) 32 = (N : Int) := by omega
    have hN3 : N ≤ 32 := by omega
    have c1 := kp (fun w' => Short_any a0 a1 (M : Int) N (by omega) (by omega) (by omega) w')
    have hel := macD_length (bs a0) (bs a1)
    have c2 : Kp (∀ w', Calls Try.prog 35 #[.string a0, .string a1, .string (str ((macD (bs a0) (bs a1)).take N))] w' fun e w'' => e = .returned (.bool (decide (8 ≤ N))) ∧ Below w'.heap.size w' w'') := kp (fun w' => by
      have := Right_any a0 a1 (str ((macD (bs a0) (bs a1)).take N)) (by omega) (by omega) (by rw [str_size, List.length_take]; omega) w'
      rw [bs_str] at this
      by_cases h8 : 8 ≤ N
      · rw [rightB_same h8 hN3] at this
        rw [decide_eq_true h8]; exact this
      · rw [rightB_no (Or.inl (by rw [List.length_take]; omega))] at this
        rw [decide_eq_false h8]; exact this)
    have c3 : Kp (∀ (S : List UInt8), S.length = N → S ≠ (macD (bs a0) (bs a1)).take N → ∀ w', Calls Try.prog 35 #[.string a0, .string a1, .string (str S)] w' fun e w'' => e = .returned (.bool false) ∧ Below w'.heap.size w' w'') := kp (fun S hS hne w' => by
      have := Right_any a0 a1 (str S) (by omega) (by omega) (by rw [str_size]; omega) w'
      rw [bs_str] at this
      by_cases h8 : 8 ≤ N
      · rw [rightB_in (by omega) (by omega), hS, beq_eq_false_iff_ne.2 (fun e => hne e.symm)] at this
        exact this
      · rw [rightB_no (Or.inl (by omega))] at this
        exact this)
    have hxl : ((macD (bs a0) (bs a1)).take N).length = N := by rw [List.length_take]; omega
    generalize (macD (bs a0) (bs a1)).take N = X at *
    have hxs : (str X).size = N := by rw [str_size]; exact hxl
    have HXL := kp hxl
    have HN := kp hN
    have hnn : ((N : Int) != (N : Int)) = false := by simp
    clear hel hxl hN
    go_enter Try.func12, Try.ntmps12
    go_wp2_with fail
    refine (mac_awake _).mono ?_
    rintro e w1 ⟨rfl, hb⟩
    have HB := kp hb
    clear hb
    go_wp2_with fail
    refine (large_any (some ⟨w1.heap.size, 0, none⟩) 2 [a0, a1] _ (by unfold maxLen; simp) (HeldT.lit w1 _ [a0, a1])).mono ?_
    rintro e w' ⟨rfl, rfl⟩
    have HB2 := kp (ba HB.out (.cells (List.map Value.string [a0, a1]).toArray 9))
    clear HB
    generalize w1.alloc (.cells (List.map Value.string [a0, a1]).toArray 9) = W at HB2
    go_wp2_with fail
    refine (c1.out _).mono ?_
    rintro e w3 ⟨rfl, hb3⟩
    have HB3 := kp (bt' HB2.out hb3 HB2.out.size)
    clear hb3
    by_cases h8 : 8 ≤ N
    case' pos => have g8 : decide (8 ≤ N) = true := decide_eq_true h8
    case' neg => have g8 : decide (8 ≤ N) = false := decide_eq_false h8
    case' pos => have g9 : decide ((8 : Int) ≤ (N : Int)) = true := decide_eq_true (by omega)
    case' neg => have g9 : decide ((8 : Int) ≤ (N : Int)) = false := decide_eq_false (by omega)
    all_goals
      rw [g8] at c2
      go_wp2_with fail
      refine (c2.out _).mono ?_
      rintro e w4 ⟨rfl, hb4⟩
      have HB4 := kp (bt' HB3.out hb4 HB3.out.size)
      clear hb4
      go_upto_region 8 with (fail)
      by_cases h0 : N = 0
      · have t0 : (str X).toList = [] := by rw [toList_bs, bs_str]; exact List.eq_nil_of_length_eq_zero (by have := HXL.out; omega)
        have t1 : (str X).toList.isEmpty = true := by rw [t0]; rfl
        have t2 : ((str X).toList == []) = true := by rw [t0]; rfl
        clear hxs hN2 hnn h0
        go_wp2
        go_ret
        exact ⟨rfl, HB4.out⟩
      · have t0 : ¬ (str X).toList = [] := by rw [toList_bs, bs_str]; intro e; have := HXL.out; rw [e] at this; simp at this; omega
        have t1 : (str X).toList.isEmpty = false := by cases hz : (str X).toList with | nil => exact absurd hz t0 | cons a l => rfl
        have t2 : ((str X).toList == []) = false := by cases hz : (str X).toList with | nil => exact absurd hz t0 | cons a l => rfl
        by_cases hq : q = 0
        · have q1 : (q == 0) = true := by simp [hq]
          have HQ := kp hq
          clear hq
          go_wp2
          go_ret
          exact ⟨rfl, HB4.out⟩
        · have q1 : (q == 0) = false := by simp [hq]
          obtain ⟨cap, w5, hcv, hb5, hsz5, hcap, hcell, hfr⟩ := toBytes (P := Try.prog) w4 9 42 (str X) Try.underlying9 Try.underlying42 Try.underlying5
          rw [hxs] at hcv hcap hfr
          have HB5 := kp (bt' HB4.out hb5 HB4.out.size)
          have hnp : 0 < N := by omega
          obtain ⟨k, hk⟩ : ∃ k : Nat, p % (N : Int) = (k : Int) := ⟨(p % (N : Int)).toNat, by have := Int.emod_nonneg p (show (N : Int) ≠ 0 by omega); omega⟩
          have hkn : k < N := by have := Int.emod_lt_of_pos p (show (0 : Int) < (N : Int) by omega); omega
          have hkl : k < X.length := by rw [HXL.out]; exact hkn
          obtain ⟨c, hc⟩ : ∃ c : UInt8, q = ((c.toNat : Nat) : Int) := ⟨UInt8.ofNat q.toNat, by rw [UInt8.toNat_ofNat']; omega⟩
          have hc0 : c ≠ 0 := by rintro rfl; exact hq hc
          subst hc
          have he := u8_xor X[k] c
          have c1' : w5.cell? ⟨w4.heap.size, k, none⟩ = some (.int .u8 (X[k].toNat : Int)) := hcell k hkl
          have f1 := hfr k hkn
          have hne := kp (set_ne hkl c hc0)
          have hb := run_convert_bytes_back (P := Try.prog) (w5.setCell ⟨w4.heap.size, k, none⟩ (.int .u8 ((X[k] ^^^ c).toNat : Int))) 42 9 5 ⟨w4.heap.size, 0, none⟩ cap (X.set k (X[k] ^^^ c)) Try.underlying42 Try.underlying5 Try.underlying9 (set_cells hcell hkl _)
          rw [List.length_set, HXL.out] at hb
          have c3' := c3.out (X.set k (X[k] ^^^ c)) (by rw [List.length_set, HXL.out]) hne.out
          have C3 := kp c3'
          clear c3'
          generalize X.set k (X[k] ^^^ c) = Y at hb C3 hne
          generalize X[k] ^^^ c = y at he hb
          generalize X[k] = x at he c1'
          have hcap' : (N : Int) ≤ (cap : Int) := by omega
          have hpos' : (1 : Int) ≤ (N : Int) := by omega
          have hk0' : (k : Int) < (N : Int) := by omega
          have hb' : (Go.convert 42 9 (.slice (some ⟨w4.heap.size, 0, none⟩) N cap)).run Try.prog (w5.setCell ⟨w4.heap.size, k, none⟩ (.int .u8 (y.toNat : Int))) = .ok (.string (str Y)) (w5.setCell ⟨w4.heap.size, k, none⟩ (.int .u8 (y.toNat : Int))) := hb
          have hb4s := HB4.out.size
          clear hcell hfr hb hb5 hsz5 c1 c2 c3 g8 g9 hM hN2 hnn
          go_wp2_with fail
          refine (C3.out _).mono ?_
          rintro e w6 ⟨rfl, hb6⟩
          go_wp2
          go_ret
          exact ⟨rfl, bt' (bsc HB5.out hb4s _) hb6 (by have := HB5.out.size; simp; omega)⟩
end Go.Proofs.Ytachnjdmjifefaa
