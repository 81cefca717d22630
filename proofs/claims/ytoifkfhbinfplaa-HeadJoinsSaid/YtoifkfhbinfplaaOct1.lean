/- octet's Take: what it tells. -/
import Derived.Test.YtoifkfhbinfplaaProg
import Derived.Test.YtoifkfhbinfplaaBase
import Derived.Test.YtoifkfhbinfplaaPl
namespace Go.Proofs.Ytoifkfhbinfplaa
open Go Go.RowKit
set_option linter.unusedVariables false
set_option linter.unusedSimpArgs false
attribute [local go_sem] bmax2 bmin2 bmax bmin

theorem octet_Take_any (s : ByteArray) (w : World) (hs : s.size ≤ 8) :
    Calls Try.prog 40 #[.string s] w fun e w' => e = .returned (.tuple #[.int .u64 (takeN (bs s)), .int .i64 0]) ∧ w = w' := by
  go_enter Try.func40, Try.ntmps40
  go_wp2
  go_loop [4, 11] (fun n i => ∃ k : Nat, k ≤ s.size ∧ i = .int .i64 k ∧ n = .int .u64 (takeN ((bs s).take k))) (fun _ i => s.size - (intOf i).toNat)
  case atStart => exact ⟨0, Nat.zero_le _, rfl, rfl⟩
  case round =>
    obtain ⟨k, hk, rfl, rfl⟩ := hrel
    by_cases hlt : k < s.size
    · go_wp2
      go_round
      case measure => simp [intOf]; omega
      case rel =>
        refine ⟨k + 1, by omega, by go_num, congrArg _ ?_⟩
        have hsn := take_snoc (bs s) k hlt
        have hl : (List.take (k + 1) (bs s)).length ≤ 8 := by rw [List.length_take]; omega
        have hlt64 := takeN_lt64 _ hl
        rw [hsn, takeN_snoc] at hlt64 ⊢
        exact shl8_or _ _ (UInt8.toNat_lt _) hlt64
    · go_wp2
      go_ret2
      exact ⟨by rw [List.take_of_length_le (by rw [size_bs]; omega)]; rfl, rfl⟩

theorem octet_Take_long (s : ByteArray) (w : World) (hs : 8 < s.size) :
    Calls Try.prog 40 #[.string s] w fun e w' => e = .returned (.tuple #[.int .u64 0, .int .i64 5]) ∧ w = w' := by
  go_enter Try.func40, Try.ntmps40
  go_wp2
  go_ret2
  exact ⟨rfl, rfl⟩





theorem info_u8 : (Try.prog.info? 5).map (fun i => (i.zero, i.size, i.bytes)) = some (some (.int .u8 0), 1, 1) := by kernel_rfl

theorem octet_Put_mid (n : Nat) (k : Nat) (w : World) (hn : n < U64) (h8 : k ≤ 8) (b : Int) (hb : min (max b 0) 8 = (k : Int)) :
    Calls Try.prog 28 #[.int .u64 n, .int .i64 b] w fun e w' => e = .returned (.string (str (putL n k))) ∧ Below w.heap.size w w' := by
  have h8' : (k : Int) ≤ 8 := by omega
  obtain ⟨i0, hi, hz0, hz1, hz2⟩ := info_parts info_u8
  have hby : i0.bytes * k ≤ 281474976710656 := by rw [hz2]; omega
  have hmx : k ≤ maxLen := by unfold maxLen; omega
  have Hz2 := hid hz2
  have Hz1 := hid hz1
  clear hz2 hz1
  go_enter Try.func28, Try.ntmps28
  go_wp2_with (refine wpList_make_full _ rfl _ _ 53 rfl w.heap.size 5 i0 (.int .u8 0) 1 Try.underlying53 hi hz0 Hz1.out .i64 .i64 _ _ k rfl rfl rfl rfl hby hmx (Nat.le_refl _) ?_; intro w1 hown hgr)
  have HB0 : Below w.heap.size w w1 := (Below.refl _ _).grown hgr (Nat.le_refl _) (fun _ h => by cases h)
  have HB := hid HB0
  have HO := hid hown
  have hsz := hgr.size
  clear HB0 hown hgr
  go_loopw [14] (fun i wr => ∃ j : Nat, j ≤ k ∧ i = .int .i64 j ∧ wr.ownsRow w.heap.size 5 1 (.slice (some ⟨w.heap.size, 0, none⟩) k k) k (cellsU8 (putUp n k j)) ∧ Below w.heap.size w wr) (fun i _ => k - (intOf i).toNat)
  case atStart => exact ⟨0, Nat.zero_le _, rfl, (by rw [putUp_zero, ← cellsU8_zero]; exact HO.out), HB.out⟩
  case round =>
    obtain ⟨j, hj, rfl, ho, hbl⟩ := hrel
    have hl := length_putUp n k j hj
    by_cases hlt : j < k
    · have hc := ho.cellAt j (by omega)
      have hf := ho.frozenAt j
      have hst := hid (ho.stored j (.int .u8 ((n : Int) / 2 ^ (8 * (k - 1 - j)) % 256)))
      rw [cellsU8_get _ _ (by omega)] at hc
      have Hbl := hid hbl
      clear ho hbl
      go_wp2
      go_roundw
      case measure => simp [intOf]; omega
      case rel =>
        refine ⟨j + 1, by omega, by go_num, ?_, Hbl.out.setCell (Nat.le_refl _) _⟩
        have := hst.out.1
        rw [shr_byte, cellsU8_set, putUp_set n k j hlt] at this
        rw [shr_byte]
        exact this
    · obtain rfl : j = k := by omega
      have hcv := own_str 53 Try.underlying53 Try.underlying5 Try.underlying9 ho
      go_wp2
      go_ret
      exact ⟨by rw [putUp_all]; rfl, hbl⟩

end Go.Proofs.Ytoifkfhbinfplaa
