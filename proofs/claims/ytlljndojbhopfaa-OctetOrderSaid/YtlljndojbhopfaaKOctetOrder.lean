/- OctetOrder: the walk. -/
import Derived.Test.YtlljndojbhopfaaOct5
namespace Go.Proofs.Ytlljndojbhopfaa
open Go Go.RowKit
set_option linter.unusedVariables false
set_option linter.unusedSimpArgs false
attribute [local go_sem] bmax2 bmin2 bmax bmin

set_option maxRecDepth 100000 in
theorem OctetOrder_walk (n m : Int) (wn : (Lit.int .u64 n).wf = true) (wm : (Lit.int .u64 m).wf = true) (w : World) :
    Calls Try.prog 14 #[.int .u64 n, .int .u64 m] w fun e w' => e = .returned (.bool true) ∧ Below w.heap.size w w' := by
  obtain ⟨N, rfl, hN⟩ := nat_u64 wn
  obtain ⟨M, rfl, hM⟩ := nat_u64 wm
  clear wn wm
  have C1 := hid (fun w => octet_Put_mid N 8 w hN (by omega) 8 (by decide))
  have C2 := hid (fun w => octet_Put_mid M 8 w hM (by omega) 8 (by decide))
  obtain ⟨S, hS⟩ : ∃ S, str (putL N 8) = S := ⟨_, rfl⟩
  obtain ⟨T, hT⟩ : ∃ T, str (putL M 8) = T := ⟨_, rfl⟩
  rw [hS] at C1
  rw [hT] at C2
  have l1 : Op.bytesLess S.toList T.toList = decide (N < M) := by
    rw [← hS, ← hT, toList_bs, toList_bs, bs_str, bs_str, bytesLess_putL, show N % 256 ^ 8 = N from Nat.mod_eq_of_lt hN, show M % 256 ^ 8 = M from Nat.mod_eq_of_lt hM]
  have l2 : (S.toList == T.toList) = ((N : Int) == (M : Int)) := by
    rw [← hS, ← hT, toList_bs, toList_bs, bs_str, bs_str]
    by_cases h : N = M
    · subst h; simp
    · have h1 : ¬ putL N 8 = putL M 8 := fun e => h (putL_inj8 N M hN hM e)
      have h2 : ¬ (N : Int) = (M : Int) := by omega
      rw [beq_eq_false_iff_ne.2 h1, beq_eq_false_iff_ne.2 h2]
  clear hS hT
  go_enter Try.func14, Try.ntmps14
  go_wp2_with fail
  refine (octet_awake w).mono ?_
  rintro e w1 ⟨rfl, hb⟩
  have HB := hid hb
  clear hb
  go_wp2_with fail
  refine (C1.out _).mono ?_
  rintro e w2 ⟨rfl, hb⟩
  have HB2 := hid (bt HB.out hb)
  clear hb
  go_wp2_with fail
  refine (C2.out _).mono ?_
  rintro e w3 ⟨rfl, hb⟩
  have HB3 := hid (bt HB2.out hb)
  clear hb
  go_wp2
  go_ret
  exact ⟨rfl, HB3.out⟩
end Go.Proofs.Ytlljndojbhopfaa
