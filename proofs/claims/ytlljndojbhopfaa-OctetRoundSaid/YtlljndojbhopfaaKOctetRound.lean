/- OctetRound: the walk. -/
import Derived.Test.YtlljndojbhopfaaOct5
namespace Go.Proofs.Ytlljndojbhopfaa
open Go Go.RowKit
set_option linter.unusedVariables false
set_option linter.unusedSimpArgs false
attribute [local go_sem] bmax2 bmin2 bmax bmin

set_option maxRecDepth 100000 in
theorem OctetRound_walk (n m a b : Int) (wn : (Lit.int .u32 n).wf = true) (wm : (Lit.int .u32 m).wf = true) (wa : (Lit.int .i16 a).wf = true) (wb : (Lit.int .i16 b).wf = true) (w : World) :
    Calls Try.prog 10 #[.int .u32 n, .int .u32 m, .int .i16 a, .int .i16 b] w fun e w' => e = .returned (.bool true) ∧ Below w.heap.size w w' := by
  obtain ⟨N, rfl⟩ : ∃ N : Nat, n = N := ⟨n.toNat, by have := wf_u32 wn; omega⟩
  obtain ⟨M, rfl⟩ : ∃ M : Nat, m = M := ⟨m.toNat, by have := wf_u32 wm; omega⟩
  have hN : N < 4294967296 := by have := wf_u32 wn; omega
  have hM : M < 4294967296 := by have := wf_u32 wm; omega
  obtain ⟨ha1, ha2⟩ := wf_i16 wa
  obtain ⟨hb1, hb2⟩ := wf_i16 wb
  clear wn wm wa wb
  have hx0 : (a % 32).toNat < 32 := by omega
  have hy0 : (b % 32).toNat < 32 := by omega
  have hL := leftUp_lt N hN _ hx0
  have hL2 := leftUp_lt M hM _ hx0
  have hX : N ^^^ M < 4294967296 := Nat.xor_lt_two_pow (n := 32) hN hM
  have e1 : leftN (leftN N (a % 32).toNat) (-a % 32).toNat = N := by
    rw [leftN_comp N _ _ hN hx0 (by omega), show ((a % 32).toNat + (-a % 32).toNat) % 32 = 0 by omega, leftN_zero N hN]
  have e2 : leftN (leftN N (a % 32).toNat) (b % 32).toNat = leftN N ((a + b) % 32).toNat := by
    rw [leftN_comp N _ _ hN hx0 hy0, show ((a % 32).toNat + (b % 32).toNat) % 32 = ((a + b) % 32).toNat by omega]
  have e3 := leftN_xor N M _ hN hM hx0
  have e4 : leftN N ((a + 32) % 32).toNat = leftN N (a % 32).toNat := by rw [show (a + 32) % 32 = a % 32 by omega]
  have b1 := u32_xor_nat _ _ hL hL2
  have b2 := u32_xor_nat _ _ hN hM
  rw [e3] at b1
  have C1 := hid (fun w => octet_Left_any N a w hN)
  have C2 := hid (fun w => octet_Left_any _ (-a) w hL)
  have C3 := hid (fun w => octet_Left_any _ b w hL)
  have C4 := hid (fun w => octet_Left_any N (a + b) w hN)
  have C5 := hid (fun w => octet_Left_any M a w hM)
  have C6 := hid (fun w => octet_Left_any _ a w hX)
  have C7 := hid (fun w => octet_Left_any N (a + 32) w hN)
  rw [e1] at C2
  rw [e2] at C3
  rw [e4] at C7
  clear e1 e2 e3 e4
  generalize N ^^^ M = X at *
  generalize leftN X (a % 32).toNat = R3 at *
  generalize leftN N ((a + b) % 32).toNat = R2 at *
  generalize leftN N (a % 32).toNat = L1 at *
  generalize leftN M (a % 32).toNat = L2 at *
  go_enter Try.func10, Try.ntmps10
  go_wp2_with fail
  refine (octet_awake w).mono ?_
  rintro e w1 ⟨rfl, hb⟩
  have HB := hid hb
  clear hb
  go_wp2_with fail
  refine (C1.out _).mono ?_
  rintro e w2 ⟨rfl, m1, rfl⟩
  go_wp2_with fail
  refine (C2.out _).mono ?_
  rintro e w2 ⟨rfl, m2, rfl⟩
  go_wp2_with fail
  refine (C1.out _).mono ?_
  rintro e w2 ⟨rfl, m3, rfl⟩
  go_wp2_with fail
  refine (C3.out _).mono ?_
  rintro e w2 ⟨rfl, m4, rfl⟩
  go_wp2_with fail
  refine (C4.out _).mono ?_
  rintro e w2 ⟨rfl, m5, rfl⟩
  go_wp2_with fail
  refine (C1.out _).mono ?_
  rintro e w2 ⟨rfl, m6, rfl⟩
  go_wp2_with fail
  refine (C5.out _).mono ?_
  rintro e w2 ⟨rfl, m7, rfl⟩
  go_wp2_with fail
  refine (C6.out _).mono ?_
  rintro e w2 ⟨rfl, m8, rfl⟩
  go_wp2_with fail
  refine (C7.out _).mono ?_
  rintro e w2 ⟨rfl, m9, rfl⟩
  go_wp2_with fail
  refine (C1.out _).mono ?_
  rintro e w2 ⟨rfl, m10, rfl⟩
  go_wp2
  go_ret
  exact ⟨rfl, bd HB.out _⟩
end Go.Proofs.Ytlljndojbhopfaa
