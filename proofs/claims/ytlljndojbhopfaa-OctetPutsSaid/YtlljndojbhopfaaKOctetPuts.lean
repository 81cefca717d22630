/- OctetPuts: the walk. -/
import Derived.Test.YtlljndojbhopfaaOct5
namespace Go.Proofs.Ytlljndojbhopfaa
open Go Go.RowKit
set_option linter.unusedVariables false
set_option linter.unusedSimpArgs false
attribute [local go_sem] bmax2 bmin2 bmax bmin

set_option maxRecDepth 100000 in
theorem OctetPuts_walk (n b : Int) (s : ByteArray) (wn : (Lit.int .u64 n).wf = true) (wb : (Lit.int .i64 b).wf = true) (ws : s.size ≤ maxLen) (w : World) :
    Calls Try.prog 7 #[.int .u64 n, .int .i64 b, .string s] w fun e w' => e = .returned (.bool true) ∧ Below w.heap.size w w' := by
  obtain ⟨N, rfl, hN⟩ := nat_u64 wn
  have hbb := wf_i64 wb
  have HBB := hid hbb
  clear hbb wn wb ws
  by_cases hla : (1024 : Int) < (s.size : Int)
  · go_enter Try.func7, Try.ntmps7
    go_wp2_with fail
    refine (octet_awake w).mono ?_
    rintro e w' ⟨rfl, hb⟩
    go_wp2
    go_ret
    exact ⟨rfl, hb⟩
  obtain ⟨k, hk, hk8⟩ := put_k b
  have HK := hid hk
  clear hk
  have hM0 : N % 4294967296 < 4294967296 := Nat.mod_lt _ (by omega)
  obtain ⟨M, hM⟩ : ∃ M, N % 4294967296 = M := ⟨_, rfl⟩
  have hM2 : (N : Int) % 4294967296 = (M : Int) := by rw [← hM]; simp
  rw [hM] at hM0
  clear hM
  by_cases h8 : s.size ≤ 8
  case' pos =>
    have T1 := hid (fun w => octet_Take_any s w h8)
    have T2 := hid (fun w => ref01_Take_any s w h8)
  case' neg =>
    have T1 := hid (fun w => octet_Take_long s w (by omega))
    have T2 := hid (fun w => ref01_Take_long s w (by omega))
  all_goals
    go_enter Try.func7, Try.ntmps7
    go_wp2_with fail
    refine (octet_awake w).mono ?_
    rintro e w1 ⟨rfl, hb⟩
    have HB := hid hb
    clear hb
    go_wp2_with fail
    refine (T1.out _).mono ?_
    rintro e w2 ⟨rfl, rfl⟩
    go_wp2_with fail
    refine (T2.out _).mono ?_
    rintro e w2 ⟨rfl, rfl⟩
    go_wp2_with fail
    refine (octet_Put_mid N k _ hN hk8 b HK.out).mono ?_
    rintro e w2 ⟨rfl, hb2⟩
    have HB2 := hid hb2
    clear hb2
    go_wp2_with fail
    refine (ref01_Put_mid N k _ hN hk8 b HK.out).mono ?_
    rintro e w3 ⟨rfl, hb3⟩
    have HB3 := hid hb3
    clear hb3
    go_wp2_with fail
    refine (octet_Left_any M b _ hM0).mono ?_
    rintro e w4 ⟨rfl, m4, rfl⟩
    go_wp2_with fail
    refine (ref01_Left_any M b _ hM0 HBB.out).mono ?_
    rintro e w5 ⟨rfl, m5, rfl⟩
    go_wp2
    go_ret
    exact ⟨rfl, bd (bt (bt HB.out HB2.out) HB3.out) _⟩

end Go.Proofs.Ytlljndojbhopfaa
