/- OctetBack: the walk. -/
import Derived.Test.YtlljndojbhopfaaOct5
namespace Go.Proofs.Ytlljndojbhopfaa
open Go Go.RowKit
set_option linter.unusedVariables false
set_option linter.unusedSimpArgs false
attribute [local go_sem] bmax2 bmin2 bmax bmin

theorem put_nat (N k : Nat) (hN : N < U64) (hk : k ≤ 8) (w : World) : Calls Try.prog 34 #[.int .u64 N, .int .i64 k] w fun e w' => e = .returned (.string (str (putL N k))) ∧ Below w.heap.size w w' :=
  octet_Put_mid N k w hN hk k (by omega)

set_option maxRecDepth 100000 in
theorem OctetBack_walk (n b : Int) (s : ByteArray) (wn : (Lit.int .u64 n).wf = true) (wb : (Lit.int .u8 b).wf = true) (ws : s.size ≤ maxLen) (w : World) :
    Calls Try.prog 9 #[.int .u64 n, .int .u8 b, .string s] w fun e w' => e = .returned (.bool true) ∧ Below w.heap.size w w' := by
  obtain ⟨N, rfl, hN⟩ := nat_u64 wn
  obtain ⟨c, rfl⟩ : ∃ c : Nat, b = c := ⟨b.toNat, by have := wf_u8 wb; omega⟩
  have hc : (c : Int) ≤ 255 := (wf_u8 wb).2
  obtain ⟨k, hk⟩ : ∃ k, c % 9 = k := ⟨_, rfl⟩
  have hk2 : (c : Int) % 9 = (k : Int) := by rw [← hk]; simp
  have hk8 : k ≤ 8 := by omega
  clear wn wb ws hk
  by_cases hla : (1024 : Int) < (s.size : Int)
  · go_enter Try.func9, Try.ntmps9
    go_wp2_with fail
    refine (octet_awake w).mono ?_
    rintro e w' ⟨rfl, hb⟩
    go_wp2
    go_ret
    exact ⟨rfl, hb⟩
  have PN := hid (put_nat N k hN hk8)
  obtain ⟨S, hS⟩ : ∃ S, str (putL N k) = S := ⟨_, rfl⟩
  have hSk : S.size = k := by rw [← hS, str_size, length_putL]
  have hSm : takeN (bs S) = N % 256 ^ k := by rw [← hS, bs_str, takeN_putL]
  rw [hS] at PN
  have TK := hid (fun w => octet_Take_any S w (by omega))
  rw [hSm] at TK
  have HSk := hid hSk
  clear hS hSk hSm
  -- what comes behind: the bytes themselves
  have tail : ∀ (w3 : World), ∃ x y : Int, (Calls Try.prog 32 #[.string s] w3 fun e w' => e = .returned (.tuple #[.int .u64 x, .int .i64 y]) ∧ w3 = w') ∧
      ((y = 5 ∧ x = 0 ∧ 8 < s.size) ∨ (y = 0 ∧ s.size ≤ 8 ∧ ∀ w4, Calls Try.prog 34 #[.int .u64 x, .int .i64 s.size] w4 fun e w' => e = .returned (.string s) ∧ Below w4.heap.size w4 w')) := by
    intro w3
    by_cases h : s.size ≤ 8
    · refine ⟨_, _, octet_Take_any s w3 h, Or.inr ⟨rfl, h, fun w4 => ?_⟩⟩
      have := put_nat (takeN (bs s)) s.size (by have := takeN_lt64 (bs s) (by rw [size_bs]; exact h); exact this) h w4
      rw [← size_bs, putL_takeN, str_bs] at this
      exact this
    · exact ⟨_, _, octet_Take_long s w3 (by omega), Or.inl ⟨rfl, rfl, by omega⟩⟩
  have TL := hid tail
  clear tail
  by_cases h8 : k = 8
  case' pos =>
    subst h8
    have hm : N % 256 ^ 8 = N := Nat.mod_eq_of_lt hN
    rw [hm] at TK
    clear hm
  case' neg =>
    have h8' : (k : Int) < 8 := by omega
    have h8b : ((k : Int) == 8) = false := by simp; omega
    have hmask := mask_u64 N k hN (by omega)
    obtain ⟨m, hm⟩ : ∃ m, N % 256 ^ k = m := ⟨_, rfl⟩
    rw [hm] at TK hmask
    have HM := hid hm
    clear hm
  all_goals
    have hSk := HSk.out
    go_enter Try.func9, Try.ntmps9
    go_wp2_with fail
    refine (octet_awake w).mono ?_
    rintro e w1 ⟨rfl, hb⟩
    have HB := hid hb
    clear hb
    go_wp2_with fail
    refine (PN.out _).mono ?_
    rintro e w2 ⟨rfl, hb⟩
    have HB2 := hid (bt HB.out hb)
    clear hb
    go_wp2_with fail
    refine (TK.out _).mono ?_
    rintro e w3 ⟨rfl, rfl⟩
    go_wp2_with fail
    refine (PN.out _).mono ?_
    rintro e w3 ⟨rfl, hb⟩
    have HB3 := hid (bt HB2.out hb)
    clear hb
    go_wp2_with fail
    obtain ⟨x, y, hT, hxy⟩ := TL.out w3
    refine hT.mono ?_
    clear hT
    rintro e w4 ⟨rfl, rfl⟩
    rcases hxy with ⟨rfl, rfl, hs8⟩ | ⟨rfl, hs8, hP⟩
    · have hs8d : decide ((8 : Int) < (s.size : Int)) = true := decide_eq_true (by omega)
      go_wp2
      go_ret
      exact ⟨rfl, HB3.out⟩
    · have HP := hid hP
      clear hP
      go_wp2_with fail
      refine (HP.out _).mono ?_
      rintro e w4 ⟨rfl, hb⟩
      have HB4 := hid (bt HB3.out hb)
      clear hb
      go_wp2
      go_ret
      exact ⟨rfl, HB4.out⟩

end Go.Proofs.Ytlljndojbhopfaa
