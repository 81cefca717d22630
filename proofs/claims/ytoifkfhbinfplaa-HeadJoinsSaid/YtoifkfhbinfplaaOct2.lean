/- octet's Same and Pad, the reference's Take, Put, Left, Pad. -/
import Derived.Test.YtoifkfhbinfplaaOct1
import Derived.Test.YtoifkfhbinfplaaShelf
namespace Go.Proofs.Ytoifkfhbinfplaa
open Go Go.RowKit
set_option linter.unusedVariables false
set_option linter.unusedSimpArgs false
attribute [local go_sem] bmax2 bmin2 bmax bmin

theorem ref01_Take_any (s : ByteArray) (w : World) (hs : s.size ≤ 8) :
    Calls Try.prog 41 #[.string s] w fun e w' => e = .returned (.tuple #[.int .u64 (takeN (bs s)), .int .i64 0]) ∧ w = w' := by
  go_enter Try.func41, Try.ntmps41
  go_wp2
  go_loop [4, 5] (fun n i => ∃ k : Nat, k ≤ s.size ∧ i = .int .i64 k ∧ n = .int .u64 (takeN ((bs s).take k))) (fun _ i => s.size - (intOf i).toNat)
  case atStart => exact ⟨0, Nat.zero_le _, rfl, rfl⟩
  case round =>
    obtain ⟨k, hk, rfl, rfl⟩ := hrel
    by_cases hlt : k < s.size
    · go_wp2
      go_round
      case measure => simp [intOf]; omega
      case rel =>
        refine ⟨k + 1, by omega, by go_num, congrArg _ ?_⟩
        have hsn := take_snoc (bs s) k hlt
        have hl : (List.take (k + 1) (bs s)).length ≤ 8 := by rw [List.length_take]; omega
        have hlt64 := takeN_lt64 _ hl
        rw [hsn, takeN_snoc] at hlt64 ⊢
        exact mul8_add _ _ (UInt8.toNat_lt _) hlt64
    · go_wp2
      go_ret2
      exact ⟨by rw [List.take_of_length_le (by rw [size_bs]; omega)]; rfl, rfl⟩

theorem ref01_Take_long (s : ByteArray) (w : World) (hs : 8 < s.size) :
    Calls Try.prog 41 #[.string s] w fun e w' => e = .returned (.tuple #[.int .u64 0, .int .i64 5]) ∧ w = w' := by
  go_enter Try.func41, Try.ntmps41
  go_wp2
  go_ret2
  exact ⟨rfl, rfl⟩
set_option maxRecDepth 100000 in
theorem ref01_Put_mid (n : Nat) (k : Nat) (w : World) (hn : n < U64) (h8 : k ≤ 8) (b : Int) (hb : min (max b 0) 8 = (k : Int)) :
    Calls Try.prog 31 #[.int .u64 n, .int .i64 b] w fun e w' => e = .returned (.string (str (putL n k))) ∧ Below w.heap.size w w' := by
  go_enter Try.func31, Try.ntmps31
  go_wp2
  go_loopw [0, 5, 6] (fun m o i wr => ∃ j q : Nat, j ≤ k ∧ i = .int .i64 j ∧ m = .int .u64 (q : Int) ∧ Hid (q = n / 256 ^ j) ∧ o = .string (str (putL n j)) ∧ Below w.heap.size w wr) (fun _ _ i _ => k - (intOf i).toNat)
  case atStart => exact ⟨0, n, Nat.zero_le _, rfl, rfl, by simp [Hid], rfl, Below.refl _ _⟩
  case round =>
    obtain ⟨j, q, hj, rfl, rfl, hq, rfl, hbl⟩ := hrel
    by_cases hlt : j < k
    · have h1 : (j : Int) < b := by omega
      have h2 : (j : Int) < 8 := by omega
      obtain ⟨S, hS⟩ : ∃ S, S = str (putL n j) := ⟨_, rfl⟩
      rw [← hS]
      have HS := hid hS
      clear hS
      have hcv := conv_one (P := Try.prog) wr (e' := 5) 53 Try.underlying53 Try.underlying5 Try.underlying9 ((q : Int) % 256)
      have Hbl := hid hbl
      clear hbl
      have hz1 : (strOfNums [(q : Int) % 256]).size ≤ 1 := by rw [strOfNums_size]; simp
      have hz2 : S.size ≤ 8 := by rw [HS.out, str_size, length_putL]; omega
      go_wp2
      go_roundw
      case measure => simp [intOf]; omega
      case rel =>
        refine ⟨j + 1, q / 256, by omega, by go_num, congrArg _ (u64_div256 q (by rw [hq.out]; exact Nat.lt_of_le_of_lt (Nat.div_le_self _ _) hn)), ?_, ?_, Hbl.out.alloc (Hbl.out.size) _⟩
        · have := hq.out
          show q / 256 = n / 256 ^ (j + 1)
          rw [this, Nat.div_div_eq_div_mul, Nat.pow_succ]
        · rw [HS.out, hq.out]
          exact congrArg _ (put_step n j)
    · obtain rfl : j = k := by omega
      go_wp2
      all_goals (go_ret; exact ⟨rfl, hbl⟩)
theorem repeat_zeros (q : Nat) (w : World) (hc : q ≤ 9223372036854775807) (hq : q ≤ 140737488355328) :
    Calls Try.prog 43 #[.string ⟨#[0]⟩, .int .i64 q] w fun e w' => e = .returned (.string (str (List.replicate q 0))) ∧ Below w.heap.size w w' := by
  have := Try.strings_Repeat ⟨#[0]⟩ q w hc (by show 1 * q ≤ _; omega)
  rw [show (⟨#[0]⟩ : ByteArray).data.toList = [0] from rfl, repeat_zero] at this
  exact this
theorem octet_Pad_any (s : ByteArray) (tt : Nat) (w : World) (h1 : 0 < tt) (h2 : tt ≤ 4096) (hs : s.size ≤ 1099511627776) :
    Calls Try.prog 38 #[.string s, .int .i64 tt] w fun e w' => e = .returned (.string (str (bs s ++ List.replicate (padN s.size tt) 0))) ∧ Below w.heap.size w w' := by
  have hr0 := Nat.mod_lt s.size h1
  obtain ⟨r, hr⟩ : ∃ r, s.size % tt = r := ⟨_, rfl⟩
  have hp : padN s.size tt = (tt - r) % tt := by unfold padN; rw [hr]
  rw [hp]
  have hr2 : (s.size : Int) % (tt : Int) = (r : Int) := by rw [← hr]; simp
  rw [hr] at hr0
  obtain ⟨q, hq⟩ : ∃ q, (tt - r) % tt = q := ⟨_, rfl⟩
  have hq2 : ((tt : Int) - (r : Int)) % (tt : Int) = (q : Int) := by rw [← hq, Int.natCast_emod]; congr 1; omega
  have hq3 : q < tt := by rw [← hq]; exact Nat.mod_lt _ h1
  rw [hq]
  have hc : q ≤ 9223372036854775807 := by omega
  have Hq := hid hq
  have Hr := hid hr
  have Hp := hid hp
  clear hq hr hp
  go_enter Try.func38, Try.ntmps38
  have Hm := hid (repeat_zeros q w hc (by omega))
  have hz : (str (List.replicate q 0)).size ≤ 4096 := by rw [str_size]; simp; omega
  go_wp2_with (go_at_call 43; refine Hm.out.mono ?_; rintro e w' ⟨rfl, hbl⟩)
  go_ret
  exact ⟨rfl, hbl⟩
end Go.Proofs.Ytoifkfhbinfplaa
